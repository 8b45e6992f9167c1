/-
  The walk of ClockRings: it returns true at every clock. No condition of its own.
-/
import Derived.Test.YtfpnileacpbocaaClock5
import Derived.Test.YtfpnileacpbocaaHeld
set_option linter.unusedSimpArgs false
set_option linter.unusedVariables false
namespace Go.Proofs.Ytfpnileacpbocaa
open Go.RowKit

/-- The clock behind k ticks. -/
def St (now wait base cap : Int) (k : Nat) : Array Value := if (k : Int) < wait then ckCells (now + k) wait base cap true (now + wait) else ckCells (now + k) wait base cap false 0
theorem St_on {now wait base cap : Int} {k : Nat} (h : (k : Int) < wait) : St now wait base cap k = ckCells (now + k) wait base cap true (now + wait) := if_pos h
theorem St_off {now wait base cap : Int} {k : Nat} (h : ¬ (k : Int) < wait) : St now wait base cap k = ckCells (now + k) wait base cap false 0 := if_neg h

theorem leftI_may {now wait base cap : Int} {due : Int} (h : mayB now wait base cap true due = true) : leftI now wait base cap true due = due - now := by simp [leftI, h]

theorem may_started {now wait base cap : Int} {on : Bool} {due : Int} (h : May now wait base cap on due) : mayB now wait base cap true (now + wait) = true :=
  (may_iff _ _ _ _ _ _).2 ⟨h.b1, h.b2, h.b3, h.b4, h.b5, h.b6, h.b7, .inl ⟨rfl, by have := h.b1; have := h.b4; omega, by omega⟩⟩


set_option maxRecDepth 100000 in
set_option maxHeartbeats 4000000 in
theorem rings_no (now wait base cap : Int) (on : Bool) (due : Int) (w : World) (hm : mayB now wait base cap on due = false) :
    Calls Try.prog 4 #[ck now wait base cap on due] w fun e w' => e = .returned (.bool true) ∧ Below w.heap.size w w' := by
  have M := Lib.hid hm
  clear hm
  go_enter Try.func4, Try.ntmps4
  go_wp2_with fail
  refine (start_no now wait base cap on due _ M.out).mono ?_
  rintro e w1 ⟨rfl, hb1⟩
  have hB : Blk w1 (w.heap.size) 23 (ckCells now wait base cap on due) := (Blk.newAt (by simp)).belowAll hb1
  have bw1 : Below w.heap.size w w1 := below_after (by go_grown) (by first | (with_reducible exact Nat.le_refl _) | assumption | omega | (simp; done) | (simp [World.setCell]; omega)) hb1
  have z1 := bw1.size
  have s1 := hb1.size
  try simp [World.setCell] at s1
  clear hb1
  have cB := Blk.cell hB
  have fB := Blk.free hB
  have ltB := Blk.lt hB
  have HB := Lib.hid hB
  clear hB
  go_wp2_with fail
  refine (awake_true _).mono ?_
  rintro e w2 ⟨rfl, hb2⟩
  have hB : Blk w2 (w.heap.size) 23 (ckCells 0 0 0 0 false 0) := (Blk.put (Blk.put (Blk.put (Blk.put (Blk.put (Blk.put (HB.out) 0 (.int .i64 0)) 1 (.int .i64 0)) 2 (.int .i64 0)) 3 (.int .i64 0)) 4 (.bool false)) 5 (.int .i64 0)).belowAll hb2
  have bw2 : Below w.heap.size w w2 := below_after (by go_grown) (by first | (with_reducible exact Nat.le_refl _) | assumption | omega | (simp; done) | (simp [World.setCell]; omega)) hb2
  have z2 := bw2.size
  have s2 := hb2.size
  try simp [World.setCell] at s2
  clear hb2 bw1
  clear HB cB fB ltB
  have cB := Blk.cell hB
  have fB := Blk.free hB
  have ltB := Blk.lt hB
  have HB := Lib.hid hB
  clear hB
  go_wp2_with fail
  go_ret
  exact ⟨rfl, by go_grown⟩

set_option maxRecDepth 100000 in
set_option maxHeartbeats 4000000 in
theorem rings_long (now wait base cap : Int) (on : Bool) (due : Int) (w : World) (hm : mayB now wait base cap on due = true) (h5 : 500 < wait) :
    Calls Try.prog 4 #[ck now wait base cap on due] w fun e w' => e = .returned (.bool true) ∧ Below w.heap.size w w' := by
  have HM := Lib.hid ((may_iff _ _ _ _ _ _).1 hm)
  obtain ⟨a1, a2, a3, a4, a5, a6, a7, a8⟩ := HM.out
  clear a8
  have hl : leftI now wait base cap true (now + wait) = wait := by rw [leftI_may (may_started HM.out)]; omega
  have L := Lib.hid hl
  have M := Lib.hid hm
  clear hm hl
  go_enter Try.func4, Try.ntmps4
  go_wp2_with fail
  refine (start_yes now wait base cap on due _ M.out).mono ?_
  rintro e w1 ⟨rfl, hb1⟩
  have hB : Blk w1 (w.heap.size) 23 (ckCells now wait base cap on due) := (Blk.newAt (by simp)).belowAll hb1
  have bw1 : Below w.heap.size w w1 := below_after (by go_grown) (by first | (with_reducible exact Nat.le_refl _) | assumption | omega | (simp; done) | (simp [World.setCell]; omega)) hb1
  have z1 := bw1.size
  have s1 := hb1.size
  try simp [World.setCell] at s1
  clear hb1
  have cB := Blk.cell hB
  have fB := Blk.free hB
  have ltB := Blk.lt hB
  have HB := Lib.hid hB
  clear hB
  go_wp2_with fail
  have hh := held1_first (Below.setCell (Below.setCell (Below.setCell (Below.setCell (Below.setCell (Below.setCell (bw1) (p := ⟨w.heap.size, 0, none⟩) (by first | (with_reducible exact Nat.le_refl _) | assumption | omega | (simp; omega)) (.int .i64 now)) (p := ⟨w.heap.size, 1, none⟩) (by first | (with_reducible exact Nat.le_refl _) | assumption | omega | (simp; omega)) (.int .i64 wait)) (p := ⟨w.heap.size, 2, none⟩) (by first | (with_reducible exact Nat.le_refl _) | assumption | omega | (simp; omega)) (.int .i64 base)) (p := ⟨w.heap.size, 3, none⟩) (by first | (with_reducible exact Nat.le_refl _) | assumption | omega | (simp; omega)) (.int .i64 cap)) (p := ⟨w.heap.size, 4, none⟩) (by first | (with_reducible exact Nat.le_refl _) | assumption | omega | (simp; omega)) (.bool true)) (p := ⟨w.heap.size, 5, none⟩) (by first | (with_reducible exact Nat.le_refl _) | assumption | omega | (simp; omega)) (.int .i64 (now + wait))) (Blk.put (Blk.put (Blk.put (Blk.put (Blk.put (Blk.put (HB.out) 0 (.int .i64 now)) 1 (.int .i64 wait)) 2 (.int .i64 base)) 3 (.int .i64 cap)) 4 (.bool true)) 5 (.int .i64 (now + wait)))
  clear HB cB fB ltB bw1
  go_region_held3 (fun w' => Below w.heap.size w w' ∧ (Blk w' (w.heap.size) 23 (ckCells now wait base cap true (now + wait)) ∧ ∀ i, w'.cell? ⟨w.heap.size, i, none⟩ = (ckCells now wait base cap true (now + wait))[i]?))
    (first | exact hh | exact held1_next hq1 ‹_› (Nat.le_refl _) | exact held1_next hq0 ‹_› (Nat.le_refl _))
    (first
      | (go_at_call 12; (with_reducible refine (left_any now wait base cap true (now + wait) _).mono ?_); rw [L.out]; rintro e q0 ⟨rfl, hq0⟩)
      | (go_at_call 13; (with_reducible refine (awake_true _).mono ?_); rintro e w2 ⟨rfl, hq1⟩))
  rename_i hfin
  clear hh
  obtain ⟨bw2, ⟨hB, cB⟩⟩ := hfin
  have z2 := bw2.size
  have fB := Blk.free hB
  have ltB := Blk.lt hB
  have HB := Lib.hid hB
  clear hB
  go_wp2_with fail
  go_ret
  exact ⟨rfl, by go_grown⟩

set_option maxRecDepth 100000 in
set_option maxHeartbeats 4000000 in
theorem rings_late (now wait base cap : Int) (on : Bool) (due : Int) (w : World) (hm : mayB now wait base cap on due = true) (h5 : wait ≤ 500) (h6 : 1099511627176 < now) :
    Calls Try.prog 4 #[ck now wait base cap on due] w fun e w' => e = .returned (.bool true) ∧ Below w.heap.size w w' := by
  have HM := Lib.hid ((may_iff _ _ _ _ _ _).1 hm)
  obtain ⟨a1, a2, a3, a4, a5, a6, a7, a8⟩ := HM.out
  clear a8
  have hl : leftI now wait base cap true (now + wait) = wait := by rw [leftI_may (may_started HM.out)]; omega
  have L := Lib.hid hl
  have M := Lib.hid hm
  clear hm hl
  go_enter Try.func4, Try.ntmps4
  go_wp2_with fail
  refine (start_yes now wait base cap on due _ M.out).mono ?_
  rintro e w1 ⟨rfl, hb1⟩
  have hB : Blk w1 (w.heap.size) 23 (ckCells now wait base cap on due) := (Blk.newAt (by simp)).belowAll hb1
  have bw1 : Below w.heap.size w w1 := below_after (by go_grown) (by first | (with_reducible exact Nat.le_refl _) | assumption | omega | (simp; done) | (simp [World.setCell]; omega)) hb1
  have z1 := bw1.size
  have s1 := hb1.size
  try simp [World.setCell] at s1
  clear hb1
  have cB := Blk.cell hB
  have fB := Blk.free hB
  have ltB := Blk.lt hB
  have HB := Lib.hid hB
  clear hB
  go_wp2_with fail
  have hh := held1_first (Below.setCell (Below.setCell (Below.setCell (Below.setCell (Below.setCell (Below.setCell (bw1) (p := ⟨w.heap.size, 0, none⟩) (by first | (with_reducible exact Nat.le_refl _) | assumption | omega | (simp; omega)) (.int .i64 now)) (p := ⟨w.heap.size, 1, none⟩) (by first | (with_reducible exact Nat.le_refl _) | assumption | omega | (simp; omega)) (.int .i64 wait)) (p := ⟨w.heap.size, 2, none⟩) (by first | (with_reducible exact Nat.le_refl _) | assumption | omega | (simp; omega)) (.int .i64 base)) (p := ⟨w.heap.size, 3, none⟩) (by first | (with_reducible exact Nat.le_refl _) | assumption | omega | (simp; omega)) (.int .i64 cap)) (p := ⟨w.heap.size, 4, none⟩) (by first | (with_reducible exact Nat.le_refl _) | assumption | omega | (simp; omega)) (.bool true)) (p := ⟨w.heap.size, 5, none⟩) (by first | (with_reducible exact Nat.le_refl _) | assumption | omega | (simp; omega)) (.int .i64 (now + wait))) (Blk.put (Blk.put (Blk.put (Blk.put (Blk.put (Blk.put (HB.out) 0 (.int .i64 now)) 1 (.int .i64 wait)) 2 (.int .i64 base)) 3 (.int .i64 cap)) 4 (.bool true)) 5 (.int .i64 (now + wait)))
  clear HB cB fB ltB bw1
  go_region_held3 (fun w' => Below w.heap.size w w' ∧ (Blk w' (w.heap.size) 23 (ckCells now wait base cap true (now + wait)) ∧ ∀ i, w'.cell? ⟨w.heap.size, i, none⟩ = (ckCells now wait base cap true (now + wait))[i]?))
    (first | exact hh | exact held1_next hq1 ‹_› (Nat.le_refl _) | exact held1_next hq0 ‹_› (Nat.le_refl _))
    (first
      | (go_at_call 12; (with_reducible refine (left_any now wait base cap true (now + wait) _).mono ?_); rw [L.out]; rintro e q0 ⟨rfl, hq0⟩)
      | (go_at_call 13; (with_reducible refine (awake_true _).mono ?_); rintro e w2 ⟨rfl, hq1⟩))
  rename_i hfin
  clear hh
  obtain ⟨bw2, ⟨hB, cB⟩⟩ := hfin
  have z2 := bw2.size
  have fB := Blk.free hB
  have ltB := Blk.lt hB
  have HB := Lib.hid hB
  clear hB
  go_wp2_with fail
  go_ret
  exact ⟨rfl, by go_grown⟩

set_option maxRecDepth 100000 in
set_option maxHeartbeats 8000000 in
theorem rings_loop (now wait base cap : Int) (on : Bool) (due : Int) (w : World) (hm : mayB now wait base cap on due = true) (h5 : wait ≤ 500) (h6 : now ≤ 1099511627176) :
    Calls Try.prog 4 #[ck now wait base cap on due] w fun e w' => e = .returned (.bool true) ∧ Below w.heap.size w w' := by
  have HM := Lib.hid ((may_iff _ _ _ _ _ _).1 hm)
  obtain ⟨a1, a2, a3, a4, a5, a6, a7, a8⟩ := HM.out
  clear a8
  have a9 : 1 ≤ wait := by omega
  have M := Lib.hid hm
  clear hm
  go_enter Try.func4, Try.ntmps4
  go_wp2_with fail
  refine (start_yes now wait base cap on due _ M.out).mono ?_
  rintro e w1 ⟨rfl, hb1⟩
  have hB : Blk w1 (w.heap.size) 23 (ckCells now wait base cap on due) := (Blk.newAt (by simp)).belowAll hb1
  have bw1 : Below w.heap.size w w1 := below_after (by go_grown) (by first | (with_reducible exact Nat.le_refl _) | assumption | omega | (simp; done) | (simp [World.setCell]; omega)) hb1
  have z1 := bw1.size
  have s1 := hb1.size
  try simp [World.setCell] at s1
  clear hb1
  have cB := Blk.cell hB
  have fB := Blk.free hB
  have ltB := Blk.lt hB
  have HB := Lib.hid hB
  clear hB
  go_wp2_with fail
  clear cB fB
  go_loopw [4] (fun i wr => ∃ k : Nat, (k : Int) ≤ wait + 3 ∧ i = .int .i64 ((k : Int) + 1) ∧ Below w.heap.size w wr ∧ Blk wr w.heap.size 23 (St now wait base cap k)) (fun i _ => (wait + 5 - intOf i).toNat)
  case atStart =>
    refine ⟨0, by omega, by simp, by go_grown, ?_⟩
    have e : St now wait base cap 0 = ckCells now wait base cap true (now + wait) := by rw [St_on (by simp; omega)]; simp
    rw [e]
    exact Blk.put (Blk.put (Blk.put (Blk.put (Blk.put (Blk.put (HB.out) 0 (.int .i64 now)) 1 (.int .i64 wait)) 2 (.int .i64 base)) 3 (.int .i64 cap)) 4 (.bool true)) 5 (.int .i64 (now + wait))
  case round =>
    obtain ⟨k, hk, rfl, bw0, hB⟩ := hrel
    clear bw1
    by_cases hk3 : (k : Int) = wait + 3
    · have hk4 : wait + 3 ≤ (k : Int) := by omega
      rw [St_off (by omega)] at hB
      clear hk3
      have cB := Blk.cell hB
      have fB := Blk.free hB
      have ltB := Blk.lt hB
      have HB := Lib.hid hB
      clear hB
      go_wp2_with fail
      refine (awake_true _).mono ?_
      rintro e w1 ⟨rfl, hb1⟩
      have hB : Blk w1 (w.heap.size) 23 (ckCells (now + k) wait base cap false 0) := (HB.out).belowAll hb1
      have bw1 : Below w.heap.size w w1 := below_after (by go_grown) (by first | (with_reducible exact Nat.le_refl _) | assumption | omega | (simp; done) | (simp [World.setCell]; omega)) hb1
      have z1 := bw1.size
      have s1 := hb1.size
      try simp [World.setCell] at s1
      clear hb1
      clear HB cB fB ltB
      have cB := Blk.cell hB
      have fB := Blk.free hB
      have ltB := Blk.lt hB
      have HB := Lib.hid hB
      clear hB
      go_wp2_with fail
      go_ret
      exact ⟨rfl, by go_grown⟩
    have hk4 : (k : Int) < wait + 3 := by omega
    clear hk3
    by_cases h7 : (k : Int) + 1 < wait
    · have t1 : ((k : Int) + 1 == wait) = false := by simp; omega
      have t2 : decide ((k : Int) + 1 < wait) = true := by simpa using h7
      have T := Lib.hid (show (now + (k : Int) + 1 == now + wait) = false by simp; omega)
      rw [St_on (by omega)] at hB
      have m1 : mayB (now + k) wait base cap true (now + wait) = true := (may_iff _ _ _ _ _ _).2 ⟨a1, a2, a3, a4, a5, by omega, by omega, .inl ⟨rfl, by omega, by omega⟩⟩
      have N1 := Lib.hid m1
      clear m1
      have cB := Blk.cell hB
      have fB := Blk.free hB
      have ltB := Blk.lt hB
      have HB := Lib.hid hB
      clear hB
      go_wp2_with fail
      refine (tick_on (now + k) wait base cap (now + wait) _ N1.out (by omega) T.out).mono ?_
      rintro e w1 ⟨rfl, hb1⟩
      have hB : Blk w1 (w.heap.size) 23 (ckCells (now + k) wait base cap true (now + wait)) := (HB.out).belowAll hb1
      have bw1 : Below w.heap.size w w1 := below_after (by go_grown) (by first | (with_reducible exact Nat.le_refl _) | assumption | omega | (simp; done) | (simp [World.setCell]; omega)) hb1
      have z1 := bw1.size
      have s1 := hb1.size
      try simp [World.setCell] at s1
      clear hb1
      clear HB cB fB ltB
      have cB := Blk.cell hB
      have fB := Blk.free hB
      have ltB := Blk.lt hB
      have HB := Lib.hid hB
      clear hB
      go_wp2_with fail
      go_roundw
      case rel =>
        refine ⟨k + 1, by omega, by simp, by go_grown, ?_⟩
        have e : St now wait base cap (k + 1) = ckCells (now + k + 1) wait base cap true (now + wait) := by rw [St_on (by simp; omega)]; simp [Int.add_assoc]
        rw [e]
        exact Blk.alloc (Blk.put (Blk.put (Blk.put (Blk.put (Blk.put (Blk.put (HB.out) 0 (.int .i64 (now + k + 1))) 1 (.int .i64 wait)) 2 (.int .i64 base)) 3 (.int .i64 cap)) 4 (.bool true)) 5 (.int .i64 (now + wait))) _
      case measure => simp [intOf]; omega
    by_cases h8 : (k : Int) + 1 = wait
    · have t1 : ((k : Int) + 1 == wait) = true := by simpa using h8
      have t2 : decide ((k : Int) + 1 < wait) = false := by simp; omega
      have T := Lib.hid (show (now + (k : Int) + 1 == now + wait) = true by simp; omega)
      have h9 : wait ≤ (k : Int) + 1 := by omega
      rw [St_on (by omega)] at hB
      have m1 : mayB (now + k) wait base cap true (now + wait) = true := (may_iff _ _ _ _ _ _).2 ⟨a1, a2, a3, a4, a5, by omega, by omega, .inl ⟨rfl, by omega, by omega⟩⟩
      have N1 := Lib.hid m1
      clear m1 h8
      have cB := Blk.cell hB
      have fB := Blk.free hB
      have ltB := Blk.lt hB
      have HB := Lib.hid hB
      clear hB
      go_wp2_with fail
      refine (tick_rings (now + k) wait base cap (now + wait) _ N1.out (by omega) T.out).mono ?_
      rintro e w1 ⟨rfl, hb1⟩
      have hB : Blk w1 (w.heap.size) 23 (ckCells (now + k) wait base cap true (now + wait)) := (HB.out).belowAll hb1
      have bw1 : Below w.heap.size w w1 := below_after (by go_grown) (by first | (with_reducible exact Nat.le_refl _) | assumption | omega | (simp; done) | (simp [World.setCell]; omega)) hb1
      have z1 := bw1.size
      have s1 := hb1.size
      try simp [World.setCell] at s1
      clear hb1
      clear HB cB fB ltB
      have cB := Blk.cell hB
      have fB := Blk.free hB
      have ltB := Blk.lt hB
      have HB := Lib.hid hB
      clear hB
      go_wp2_with fail
      go_roundw
      case rel =>
        refine ⟨k + 1, by omega, by simp, by go_grown, ?_⟩
        have e : St now wait base cap (k + 1) = ckCells (now + k + 1) wait base cap false 0 := by rw [St_off (by simp; omega)]; simp [Int.add_assoc]
        rw [e]
        exact Blk.alloc (Blk.put (Blk.put (Blk.put (Blk.put (Blk.put (Blk.put (HB.out) 0 (.int .i64 (now + k + 1))) 1 (.int .i64 wait)) 2 (.int .i64 base)) 3 (.int .i64 cap)) 4 (.bool false)) 5 (.int .i64 0)) _
      case measure => simp [intOf]; omega
    have t1 : ((k : Int) + 1 == wait) = false := by simp; omega
    have t2 : decide ((k : Int) + 1 < wait) = false := by simp; omega
    have h9 : wait ≤ (k : Int) := by omega
    rw [St_off (by omega)] at hB
    have m1 : mayB (now + k) wait base cap false 0 = true := (may_iff _ _ _ _ _ _).2 ⟨a1, a2, a3, a4, a5, by omega, by omega, .inr ⟨rfl, rfl⟩⟩
    have N1 := Lib.hid m1
    clear m1 h7 h8
    have cB := Blk.cell hB
    have fB := Blk.free hB
    have ltB := Blk.lt hB
    have HB := Lib.hid hB
    clear hB
    go_wp2_with fail
    refine (tick_off (now + k) wait base cap 0 _ N1.out (by omega)).mono ?_
    rintro e w1 ⟨rfl, hb1⟩
    have hB : Blk w1 (w.heap.size) 23 (ckCells (now + k) wait base cap false 0) := (HB.out).belowAll hb1
    have bw1 : Below w.heap.size w w1 := below_after (by go_grown) (by first | (with_reducible exact Nat.le_refl _) | assumption | omega | (simp; done) | (simp [World.setCell]; omega)) hb1
    have z1 := bw1.size
    have s1 := hb1.size
    try simp [World.setCell] at s1
    clear hb1
    clear HB cB fB ltB
    have cB := Blk.cell hB
    have fB := Blk.free hB
    have ltB := Blk.lt hB
    have HB := Lib.hid hB
    clear hB
    go_wp2_with fail
    go_roundw
    case rel =>
      refine ⟨k + 1, by omega, by simp, by go_grown, ?_⟩
      have e : St now wait base cap (k + 1) = ckCells (now + k + 1) wait base cap false 0 := by rw [St_off (by simp; omega)]; simp [Int.add_assoc]
      rw [e]
      exact Blk.alloc (Blk.put (Blk.put (Blk.put (Blk.put (Blk.put (Blk.put (HB.out) 0 (.int .i64 (now + k + 1))) 1 (.int .i64 wait)) 2 (.int .i64 base)) 3 (.int .i64 cap)) 4 (.bool false)) 5 (.int .i64 0)) _
    case measure => simp [intOf]; omega

theorem rings_walk (now wait base cap : Int) (on : Bool) (due : Int) (w : World) :
    Calls Try.prog 4 #[ck now wait base cap on due] w fun e w' => e = .returned (.bool true) ∧ Below w.heap.size w w' := by
  cases hm : mayB now wait base cap on due
  · exact rings_no now wait base cap on due w hm
  · by_cases h5 : 500 < wait
    · exact rings_long now wait base cap on due w hm h5
    · by_cases h6 : 1099511627176 < now
      · exact rings_late now wait base cap on due w hm (by omega) h6
      · exact rings_loop now wait base cap on due w hm (by omega) (by omega)
end Go.Proofs.Ytfpnileacpbocaa