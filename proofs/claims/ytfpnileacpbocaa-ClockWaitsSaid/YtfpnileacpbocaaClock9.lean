/-
  The walk of ClockWaits: it returns true at every clock and number. No condition of its own.
-/
import Derived.Test.YtfpnileacpbocaaClock5
import Derived.Test.YtfpnileacpbocaaHeld
set_option linter.unusedSimpArgs false
set_option linter.unusedVariables false
namespace Go.Proofs.Ytfpnileacpbocaa
open Go.RowKit

theorem leftI_on {now wait base cap due : Int} (h : mayB now wait base cap true due = true) : leftI now wait base cap true due = due - now := by simp [leftI, h]
theorem leftI_off (now wait base cap due : Int) : leftI now wait base cap false due = 0 := by simp [leftI]
theorem may_wait {now wt wt' base cap : Int} {on : Bool} {due : Int} (h : mayB now wt base cap on due = true) (h1 : wt ≤ wt') (h2 : wt' ≤ cap) : mayB now wt' base cap on due = true := by
  obtain ⟨a1, a2, a3, a4, a5, a6, a7, a8⟩ := (may_iff _ _ _ _ _ _).1 h
  refine (may_iff _ _ _ _ _ _).2 ⟨a1, a2, a3, by omega, h2, a6, a7, ?_⟩
  rcases a8 with ⟨x, y, z⟩ | x
  · exact .inl ⟨x, y, by omega⟩
  · exact .inr x
theorem may_reset_on {now wt base cap due : Int} (h : mayB now wt base cap true due = true) : mayB now base base cap true (less due (now + base)) = true := by
  obtain ⟨a1, a2, a3, a4, a5, a6, a7, a8⟩ := (may_iff _ _ _ _ _ _).1 h
  have a9 : now < due ∧ due ≤ now + wt := by simpa using a8
  refine (may_iff _ _ _ _ _ _).2 ⟨a1, a2, a3, Int.le_refl _, a2, a6, a7, .inl ⟨rfl, ?_, ?_⟩⟩ <;> unfold less <;> split <;> omega
theorem less_le_right (a b : Int) : less a b ≤ b := by unfold less; split <;> omega
theorem less_top {a b : Int} (h : b ≤ a) : less a b = b := by unfold less; split <;> omega
theorem less_low {a b : Int} (h : a < b) : less a b = a := by unfold less; rw [if_neg (by omega)]


set_option maxRecDepth 100000 in
set_option maxHeartbeats 8000000 in
theorem waits_bad (now wait base cap : Int) (on : Bool) (due n : Int) (w : World) (n0 : 0 ≤ n) (n1 : n ≤ 255) (hm : mayB now wait base cap on due = false) :
    Calls Try.prog 5 #[ck now wait base cap on due, .int .u8 n] w fun e w' => e = .returned (.bool true) ∧ Below w.heap.size w w' := by
  have M := Lib.hid hm
  clear hm
  have n2 : 0 ≤ n % 40 := by omega
  have n3 : n % 40 < 40 := by omega
  go_enter Try.func5, Try.ntmps5
  go_wp2_with fail
  go_loopw [6] (fun i wr => ∃ (k : Nat) (wt : Int), (k : Int) ≤ n % 40 ∧ i = .int .i64 k ∧ Below w.heap.size w wr ∧ Blk wr w.heap.size 23 (ckCells now wait base cap on due) ∧ Blk wr (w.heap.size + 1) 23 (ckCells now wt base cap on due) ∧ wt = wait ∧ k = 0) (fun i _ => (40 - intOf i).toNat)
  case atStart =>
    refine ⟨0, wait, by omega, rfl, by go_grown, ?_, ?_, ⟨rfl, rfl⟩⟩
    · exact Blk.alloc (Blk.newAt (by first | rfl | (simp; done))) (.cells (ckCells now wait base cap on due) 23)
    · exact Blk.newAt (by first | rfl | (simp; done))
  case round =>
    obtain ⟨k, wt, hk, rfl, bw0, hB, hX, hI⟩ := hrel
    obtain ⟨rfl, rfl⟩ := hI
    by_cases h7 : 0 < n % 40
    · have cB := Blk.cell hB
      have fB := Blk.free hB
      have ltB := Blk.lt hB
      have HB := Lib.hid hB
      clear hB
      have cX := Blk.cell hX
      have fX := Blk.free hX
      have ltX := Blk.lt hX
      have HX := Lib.hid hX
      clear hX
      go_wp2_with fail
      refine (double_no now wt base cap on due _ M.out).mono ?_
      rintro e w1 ⟨rfl, hb1⟩
      have hB : Blk w1 (w.heap.size) 23 (ckCells now wt base cap on due) := (HB.out).belowAll hb1
      have hX : Blk w1 (w.heap.size + 1) 23 (ckCells now wt base cap on due) := (HX.out).belowAll hb1
      have bw1 : Below w.heap.size w w1 := below_after (by go_grown) (by first | (with_reducible exact Nat.le_refl _) | assumption | omega | (simp; done) | (simp [World.setCell]; omega)) hb1
      have z1 := bw1.size
      have s1 := hb1.size
      try simp [World.setCell] at s1
      clear hb1
      clear HB cB fB ltB HX cX fX ltX
      have cB := Blk.cell hB
      have fB := Blk.free hB
      have ltB := Blk.lt hB
      have HB := Lib.hid hB
      clear hB
      have cX := Blk.cell hX
      have fX := Blk.free hX
      have ltX := Blk.lt hX
      have HX := Lib.hid hX
      clear hX
      go_wp2_with fail
      refine (awake_true _).mono ?_
      rintro e w2 ⟨rfl, hb2⟩
      have hB : Blk w2 (w.heap.size) 23 (ckCells now wt base cap on due) := (Blk.alloc (HB.out) (.cells (ckCells 0 0 0 0 false 0) 23)).belowAll hb2
      have hX : Blk w2 (w.heap.size + 1) 23 (ckCells now wt base cap on due) := (Blk.alloc (HX.out) (.cells (ckCells 0 0 0 0 false 0) 23)).belowAll hb2
      have hY : Blk w2 (w1.heap.size) 23 (ckCells 0 0 0 0 false 0) := (Blk.newAt (by first | rfl | (simp; done))).belowAll hb2
      have bw2 : Below w.heap.size w w2 := below_after (by go_grown) (by first | (with_reducible exact Nat.le_refl _) | assumption | omega | (simp; done) | (simp [World.setCell]; omega)) hb2
      have z2 := bw2.size
      have s2 := hb2.size
      try simp [World.setCell] at s2
      clear hb2 bw1
      clear HB cB fB ltB HX cX fX ltX
      have cB := Blk.cell hB
      have fB := Blk.free hB
      have ltB := Blk.lt hB
      have HB := Lib.hid hB
      clear hB
      have cX := Blk.cell hX
      have fX := Blk.free hX
      have ltX := Blk.lt hX
      have HX := Lib.hid hX
      clear hX
      have cY := Blk.cell hY
      have fY := Blk.free hY
      have ltY := Blk.lt hY
      have HY := Lib.hid hY
      clear hY
      go_wp2_with fail
      go_ret
      exact ⟨rfl, by go_grown⟩
    · have cB := Blk.cell hB
      have fB := Blk.free hB
      have ltB := Blk.lt hB
      have HB := Lib.hid hB
      clear hB
      have cX := Blk.cell hX
      have fX := Blk.free hX
      have ltX := Blk.lt hX
      have HX := Lib.hid hX
      clear hX
      go_wp2_with fail
      refine (reset_no now wt base cap on due _ M.out).mono ?_
      rintro e w1 ⟨rfl, hb1⟩
      have hB : Blk w1 (w.heap.size) 23 (ckCells now wt base cap on due) := (HB.out).belowAll hb1
      have hX : Blk w1 (w.heap.size + 1) 23 (ckCells now wt base cap on due) := (HX.out).belowAll hb1
      have bw1 : Below w.heap.size w w1 := below_after (by go_grown) (by first | (with_reducible exact Nat.le_refl _) | assumption | omega | (simp; done) | (simp [World.setCell]; omega)) hb1
      have z1 := bw1.size
      have s1 := hb1.size
      try simp [World.setCell] at s1
      clear hb1
      clear HB cB fB ltB HX cX fX ltX
      have cB := Blk.cell hB
      have fB := Blk.free hB
      have ltB := Blk.lt hB
      have HB := Lib.hid hB
      clear hB
      have cX := Blk.cell hX
      have fX := Blk.free hX
      have ltX := Blk.lt hX
      have HX := Lib.hid hX
      clear hX
      go_wp2_with fail
      have hh := held2_first (Below.alloc (bw1) (by first | assumption | omega | (simp; omega) | (simp [World.setCell]; omega)) (.cells (ckCells 0 0 0 0 false 0) 23)) (Blk.alloc (HB.out) (.cells (ckCells 0 0 0 0 false 0) 23)) (Blk.alloc (HX.out) (.cells (ckCells 0 0 0 0 false 0) 23))
      clear HB cB fB ltB HX cX fX ltX bw1
      obtain ⟨C9, hC9, hS9⟩ : ∃ C : World → Prop, (∀ w', C w' → Below w.heap.size w w' ∧ (Blk w' (w.heap.size) 23 (ckCells now wt base cap on due) ∧ ∀ i, w'.cell? ⟨w.heap.size, i, none⟩ = (ckCells now wt base cap on due)[i]?) ∧ (Blk w' (w.heap.size + 1) 23 (ckCells now wt base cap on due) ∧ ∀ i, w'.cell? ⟨w.heap.size + 1, i, none⟩ = (ckCells now wt base cap on due)[i]?)) ∧ (∀ w', Below w.heap.size w w' ∧ (Blk w' (w.heap.size) 23 (ckCells now wt base cap on due) ∧ ∀ i, w'.cell? ⟨w.heap.size, i, none⟩ = (ckCells now wt base cap on due)[i]?) ∧ (Blk w' (w.heap.size + 1) 23 (ckCells now wt base cap on due) ∧ ∀ i, w'.cell? ⟨w.heap.size + 1, i, none⟩ = (ckCells now wt base cap on due)[i]?) → C w') := ⟨fun w' => Below w.heap.size w w' ∧ (Blk w' (w.heap.size) 23 (ckCells now wt base cap on due) ∧ ∀ i, w'.cell? ⟨w.heap.size, i, none⟩ = (ckCells now wt base cap on due)[i]?) ∧ (Blk w' (w.heap.size + 1) 23 (ckCells now wt base cap on due) ∧ ∀ i, w'.cell? ⟨w.heap.size + 1, i, none⟩ = (ckCells now wt base cap on due)[i]?), fun _ h => h, fun _ h => h⟩
      have hh9 := hS9 _ hh
      have HC9 := Lib.hid hC9
      have HS9 := Lib.hid hS9
      clear hC9 hS9 hh
      refine wp_region_in C9 (by kernel_rfl) (by kernel_rfl) hh9 ?_
      clear hh9
      repeat (first
        | go_big_quiet_skip
        | (go_big_quiet_want; go_big_quiet_op; go_big_quiet_on)
        | (go_big_quiet_want; refine quiet_value (v := ?_) (fun w9 hw9 => ?_) ?_; rotate_left; (focus (obtain ⟨hb9, ⟨hqB, cqB⟩, ⟨hqX, cqX⟩⟩ := HC9.out w9 hw9; clear hw9; go_simp; first | done | with_reducible rfl)); simp only [Act.put, List.setIfInBounds_toArray, List.set_cons_zero, List.set_cons_succ]; go_big_quiet_on)
        | (go_big_quiet_want; refine quiet_enter (f := 13) (args := ?_) (v := ?_) (fun w9 hw9 => ?_) (fun w9 hw9 => ?_) ?_; rotate_left 2; (focus (obtain ⟨hb9, ⟨hqB, cqB⟩, ⟨hqX, cqX⟩⟩ := HC9.out w9 hw9; clear hw9; go_simp; first | done | with_reducible rfl)); (focus (have hr9 := awake_true w9; (with_reducible refine Calls.mono hr9 (fun e w8 hr => ?_)); refine ⟨hr.1.trans ?_, HS9.out _ (held2_next hr.2 (HC9.out w9 hw9) (Nat.le_refl _))⟩; with_reducible rfl)); simp only [Act.put, List.setIfInBounds_toArray, List.set_cons_zero, List.set_cons_succ]; go_big_quiet_on))
      refine wpQuiet_nil ?_
      intro w2 hfin0
      have hfin := HC9.out _ hfin0
      clear hfin0 HC9 HS9 C9
      obtain ⟨bw2, ⟨hB, cB⟩, ⟨hX, cX⟩⟩ := hfin
      have z2 := bw2.size
      have fB := Blk.free hB
      have ltB := Blk.lt hB
      have HB := Lib.hid hB
      clear hB
      have fX := Blk.free hX
      have ltX := Blk.lt hX
      have HX := Lib.hid hX
      clear hX
      go_wp2_with fail
      go_ret
      exact ⟨rfl, by go_grown⟩

set_option maxRecDepth 100000 in
set_option maxHeartbeats 8000000 in
theorem waits_on (now wait base cap : Int)  (due n : Int) (w : World) (n0 : 0 ≤ n) (n1 : n ≤ 255) (hm : mayB now wait base cap true due = true) :
    Calls Try.prog 5 #[ck now wait base cap true due, .int .u8 n] w fun e w' => e = .returned (.bool true) ∧ Below w.heap.size w w' := by
  have M := Lib.hid hm
  clear hm
  have n2 : 0 ≤ n % 40 := by omega
  have n3 : n % 40 < 40 := by omega
  go_enter Try.func5, Try.ntmps5
  go_wp2_with fail
  go_loopw [6] (fun i wr => ∃ (k : Nat) (wt : Int), (k : Int) ≤ n % 40 ∧ i = .int .i64 k ∧ Below w.heap.size w wr ∧ Blk wr w.heap.size 23 (ckCells now wait base cap true due) ∧ Blk wr (w.heap.size + 1) 23 (ckCells now wt base cap true due) ∧ mayB now wt base cap true due = true) (fun i _ => (40 - intOf i).toNat)
  case atStart =>
    refine ⟨0, wait, by omega, rfl, by go_grown, ?_, ?_, M.out⟩
    · exact Blk.alloc (Blk.newAt (by first | rfl | (simp; done))) (.cells (ckCells now wait base cap true due) 23)
    · exact Blk.newAt (by first | rfl | (simp; done))
  case round =>
    obtain ⟨k, wt, hk, rfl, bw0, hB, hX, hI⟩ := hrel
    obtain ⟨a1, a2, a3, a4, a5, a6, a7, a8⟩ := (may_iff _ _ _ _ _ _).1 hI
    have a9 : now < due ∧ due ≤ now + wt := by simpa using a8
    obtain ⟨a9, a10⟩ := a9
    clear a8
    have MI := Lib.hid hI
    clear hI
    by_cases h7 : (k : Int) < n % 40
    · by_cases h8 : cap ≤ 2 * wt
      · have hd : ∀ W, Calls Try.prog 16 #[ck now wt base cap true due] W fun e w' => e = .returned (.tuple #[ck now (cap) base cap true due, .int .i64 0]) ∧ Below W.heap.size W w' := fun W => by
          have h := double_yes now wt base cap true due W MI.out
          rwa [less_top h8] at h
        have HD := Lib.hid hd
        have MY := Lib.hid (may_wait (wt' := cap) MI.out (by omega) (by omega))
        clear hd
        have cB := Blk.cell hB
        have fB := Blk.free hB
        have ltB := Blk.lt hB
        have HB := Lib.hid hB
        clear hB
        have cX := Blk.cell hX
        have fX := Blk.free hX
        have ltX := Blk.lt hX
        have HX := Lib.hid hX
        clear hX
        go_wp2_with fail
        refine (HD.out _).mono ?_
        rintro e w1 ⟨rfl, hb1⟩
        have hB : Blk w1 (w.heap.size) 23 (ckCells now wait base cap true due) := (HB.out).belowAll hb1
        have hX : Blk w1 (w.heap.size + 1) 23 (ckCells now wt base cap true due) := (HX.out).belowAll hb1
        have bw1 : Below w.heap.size w w1 := below_after (by go_grown) (by first | (with_reducible exact Nat.le_refl _) | assumption | omega | (simp; done) | (simp [World.setCell]; omega)) hb1
        have z1 := bw1.size
        have s1 := hb1.size
        try simp [World.setCell] at s1
        clear hb1
        clear HB cB fB ltB HX cX fX ltX
        have cB := Blk.cell hB
        have fB := Blk.free hB
        have ltB := Blk.lt hB
        have HB := Lib.hid hB
        clear hB
        have cX := Blk.cell hX
        have fX := Blk.free hX
        have ltX := Blk.lt hX
        have HX := Lib.hid hX
        clear hX
        go_wp2_with fail
        have hh := held3_first (Below.alloc (bw1) (by first | assumption | omega | (simp; omega) | (simp [World.setCell]; omega)) (.cells (ckCells now (cap) base cap true due) 23)) (Blk.alloc (HB.out) (.cells (ckCells now (cap) base cap true due) 23)) (Blk.alloc (HX.out) (.cells (ckCells now (cap) base cap true due) 23)) (Blk.newAt (by first | rfl | (simp; done)))
        clear HB cB fB ltB HX cX fX ltX bw1
        obtain ⟨C9, hC9, hS9⟩ : ∃ C : World → Prop, (∀ w', C w' → Below w.heap.size w w' ∧ (Blk w' (w.heap.size) 23 (ckCells now wait base cap true due) ∧ ∀ i, w'.cell? ⟨w.heap.size, i, none⟩ = (ckCells now wait base cap true due)[i]?) ∧ (Blk w' (w.heap.size + 1) 23 (ckCells now wt base cap true due) ∧ ∀ i, w'.cell? ⟨w.heap.size + 1, i, none⟩ = (ckCells now wt base cap true due)[i]?) ∧ (Blk w' (w1.heap.size) 23 (ckCells now (cap) base cap true due) ∧ ∀ i, w'.cell? ⟨w1.heap.size, i, none⟩ = (ckCells now (cap) base cap true due)[i]?)) ∧ (∀ w', Below w.heap.size w w' ∧ (Blk w' (w.heap.size) 23 (ckCells now wait base cap true due) ∧ ∀ i, w'.cell? ⟨w.heap.size, i, none⟩ = (ckCells now wait base cap true due)[i]?) ∧ (Blk w' (w.heap.size + 1) 23 (ckCells now wt base cap true due) ∧ ∀ i, w'.cell? ⟨w.heap.size + 1, i, none⟩ = (ckCells now wt base cap true due)[i]?) ∧ (Blk w' (w1.heap.size) 23 (ckCells now (cap) base cap true due) ∧ ∀ i, w'.cell? ⟨w1.heap.size, i, none⟩ = (ckCells now (cap) base cap true due)[i]?) → C w') := ⟨fun w' => Below w.heap.size w w' ∧ (Blk w' (w.heap.size) 23 (ckCells now wait base cap true due) ∧ ∀ i, w'.cell? ⟨w.heap.size, i, none⟩ = (ckCells now wait base cap true due)[i]?) ∧ (Blk w' (w.heap.size + 1) 23 (ckCells now wt base cap true due) ∧ ∀ i, w'.cell? ⟨w.heap.size + 1, i, none⟩ = (ckCells now wt base cap true due)[i]?) ∧ (Blk w' (w1.heap.size) 23 (ckCells now (cap) base cap true due) ∧ ∀ i, w'.cell? ⟨w1.heap.size, i, none⟩ = (ckCells now (cap) base cap true due)[i]?), fun _ h => h, fun _ h => h⟩
        have hh9 := hS9 _ hh
        have HC9 := Lib.hid hC9
        have HS9 := Lib.hid hS9
        clear hC9 hS9 hh
        refine wp_region_in C9 (by kernel_rfl) (by kernel_rfl) hh9 ?_
        clear hh9
        repeat (first
          | go_big_quiet_skip
          | (go_big_quiet_want; go_big_quiet_op; go_big_quiet_on)
          | (go_big_quiet_want; refine quiet_value (v := ?_) (fun w9 hw9 => ?_) ?_; rotate_left; (focus (obtain ⟨hb9, ⟨hqB, cqB⟩, ⟨hqX, cqX⟩, ⟨hqY, cqY⟩⟩ := HC9.out w9 hw9; clear hw9; go_simp; first | done | with_reducible rfl)); simp only [Act.put, List.setIfInBounds_toArray, List.set_cons_zero, List.set_cons_succ]; go_big_quiet_on)
          | (go_big_quiet_want; refine quiet_enter (f := 12) (args := ?_) (v := ?_) (fun w9 hw9 => ?_) (fun w9 hw9 => ?_) ?_; rotate_left 2; (focus (obtain ⟨hb9, ⟨hqB, cqB⟩, ⟨hqX, cqX⟩, ⟨hqY, cqY⟩⟩ := HC9.out w9 hw9; clear hw9; go_simp; first | done | with_reducible rfl)); (focus (have hr9 := left_any now (cap) base cap true due w9; rw [leftI_on MY.out] at hr9; (with_reducible refine Calls.mono hr9 (fun e w8 hr => ?_)); refine ⟨hr.1.trans ?_, HS9.out _ (held3_next hr.2 (HC9.out w9 hw9) (Nat.le_refl _))⟩; with_reducible rfl)); simp only [Act.put, List.setIfInBounds_toArray, List.set_cons_zero, List.set_cons_succ]; go_big_quiet_on)
          | (go_big_quiet_want; refine quiet_enter (f := 12) (args := ?_) (v := ?_) (fun w9 hw9 => ?_) (fun w9 hw9 => ?_) ?_; rotate_left 2; (focus (obtain ⟨hb9, ⟨hqB, cqB⟩, ⟨hqX, cqX⟩, ⟨hqY, cqY⟩⟩ := HC9.out w9 hw9; clear hw9; go_simp; first | done | with_reducible rfl)); (focus (have hr9 := left_any now wt base cap true due w9; rw [leftI_on MI.out] at hr9; (with_reducible refine Calls.mono hr9 (fun e w8 hr => ?_)); refine ⟨hr.1.trans ?_, HS9.out _ (held3_next hr.2 (HC9.out w9 hw9) (Nat.le_refl _))⟩; with_reducible rfl)); simp only [Act.put, List.setIfInBounds_toArray, List.set_cons_zero, List.set_cons_succ]; go_big_quiet_on))
        refine wpQuiet_nil ?_
        intro w2 hfin0
        have hfin := HC9.out _ hfin0
        clear hfin0 HC9 HS9 C9
        obtain ⟨bw2, ⟨hB, cB⟩, ⟨hX, cX⟩, ⟨hY, cY⟩⟩ := hfin
        have z2 := bw2.size
        have fB := Blk.free hB
        have ltB := Blk.lt hB
        have HB := Lib.hid hB
        clear hB
        have fX := Blk.free hX
        have ltX := Blk.lt hX
        have HX := Lib.hid hX
        clear hX
        have fY := Blk.free hY
        have ltY := Blk.lt hY
        have HY := Lib.hid hY
        clear hY
        go_wp2_with fail
        go_roundw
        case rel =>
          refine ⟨k + 1, cap, by omega, by simp, by go_grown, ?_, ?_, MY.out⟩
          · exact Blk.far (p := ⟨w.heap.size + 1, 5, none⟩) (Blk.far (p := ⟨w.heap.size + 1, 4, none⟩) (Blk.far (p := ⟨w.heap.size + 1, 3, none⟩) (Blk.far (p := ⟨w.heap.size + 1, 2, none⟩) (Blk.far (p := ⟨w.heap.size + 1, 1, none⟩) (Blk.far (p := ⟨w.heap.size + 1, 0, none⟩) (HB.out) (by simp <;> omega) (.int .i64 now)) (by simp <;> omega) (.int .i64 (cap))) (by simp <;> omega) (.int .i64 base)) (by simp <;> omega) (.int .i64 cap)) (by simp <;> omega) (.bool true)) (by simp <;> omega) (.int .i64 due)
          · exact Blk.put (Blk.put (Blk.put (Blk.put (Blk.put (Blk.put (HX.out) 0 (.int .i64 now)) 1 (.int .i64 (cap))) 2 (.int .i64 base)) 3 (.int .i64 cap)) 4 (.bool true)) 5 (.int .i64 due)
        case measure => simp [intOf]; omega
      · have hd : ∀ W, Calls Try.prog 16 #[ck now wt base cap true due] W fun e w' => e = .returned (.tuple #[ck now (2 * wt) base cap true due, .int .i64 0]) ∧ Below W.heap.size W w' := fun W => by
          have h := double_yes now wt base cap true due W MI.out
          rwa [less_low (by omega)] at h
        have h9 : 2 * wt < cap := by omega
        have t1 : decide (cap < 2 * wt) = false := by simp; omega
        have t2 : decide (2 * wt < cap) = true := by simp; omega
        have t4 : IntKind.i64.wrap (2 * wt) = 2 * wt := IntWalk.i64_in _ (by omega)
        have HD := Lib.hid hd
        have MY := Lib.hid (may_wait (wt' := 2 * wt) MI.out (by omega) (by omega))
        clear hd
        have cB := Blk.cell hB
        have fB := Blk.free hB
        have ltB := Blk.lt hB
        have HB := Lib.hid hB
        clear hB
        have cX := Blk.cell hX
        have fX := Blk.free hX
        have ltX := Blk.lt hX
        have HX := Lib.hid hX
        clear hX
        go_wp2_with fail
        refine (HD.out _).mono ?_
        rintro e w1 ⟨rfl, hb1⟩
        have hB : Blk w1 (w.heap.size) 23 (ckCells now wait base cap true due) := (HB.out).belowAll hb1
        have hX : Blk w1 (w.heap.size + 1) 23 (ckCells now wt base cap true due) := (HX.out).belowAll hb1
        have bw1 : Below w.heap.size w w1 := below_after (by go_grown) (by first | (with_reducible exact Nat.le_refl _) | assumption | omega | (simp; done) | (simp [World.setCell]; omega)) hb1
        have z1 := bw1.size
        have s1 := hb1.size
        try simp [World.setCell] at s1
        clear hb1
        clear HB cB fB ltB HX cX fX ltX
        have cB := Blk.cell hB
        have fB := Blk.free hB
        have ltB := Blk.lt hB
        have HB := Lib.hid hB
        clear hB
        have cX := Blk.cell hX
        have fX := Blk.free hX
        have ltX := Blk.lt hX
        have HX := Lib.hid hX
        clear hX
        go_wp2_with fail
        have hh := held3_first (Below.alloc (bw1) (by first | assumption | omega | (simp; omega) | (simp [World.setCell]; omega)) (.cells (ckCells now (2 * wt) base cap true due) 23)) (Blk.alloc (HB.out) (.cells (ckCells now (2 * wt) base cap true due) 23)) (Blk.alloc (HX.out) (.cells (ckCells now (2 * wt) base cap true due) 23)) (Blk.newAt (by first | rfl | (simp; done)))
        clear HB cB fB ltB HX cX fX ltX bw1
        obtain ⟨C9, hC9, hS9⟩ : ∃ C : World → Prop, (∀ w', C w' → Below w.heap.size w w' ∧ (Blk w' (w.heap.size) 23 (ckCells now wait base cap true due) ∧ ∀ i, w'.cell? ⟨w.heap.size, i, none⟩ = (ckCells now wait base cap true due)[i]?) ∧ (Blk w' (w.heap.size + 1) 23 (ckCells now wt base cap true due) ∧ ∀ i, w'.cell? ⟨w.heap.size + 1, i, none⟩ = (ckCells now wt base cap true due)[i]?) ∧ (Blk w' (w1.heap.size) 23 (ckCells now (2 * wt) base cap true due) ∧ ∀ i, w'.cell? ⟨w1.heap.size, i, none⟩ = (ckCells now (2 * wt) base cap true due)[i]?)) ∧ (∀ w', Below w.heap.size w w' ∧ (Blk w' (w.heap.size) 23 (ckCells now wait base cap true due) ∧ ∀ i, w'.cell? ⟨w.heap.size, i, none⟩ = (ckCells now wait base cap true due)[i]?) ∧ (Blk w' (w.heap.size + 1) 23 (ckCells now wt base cap true due) ∧ ∀ i, w'.cell? ⟨w.heap.size + 1, i, none⟩ = (ckCells now wt base cap true due)[i]?) ∧ (Blk w' (w1.heap.size) 23 (ckCells now (2 * wt) base cap true due) ∧ ∀ i, w'.cell? ⟨w1.heap.size, i, none⟩ = (ckCells now (2 * wt) base cap true due)[i]?) → C w') := ⟨fun w' => Below w.heap.size w w' ∧ (Blk w' (w.heap.size) 23 (ckCells now wait base cap true due) ∧ ∀ i, w'.cell? ⟨w.heap.size, i, none⟩ = (ckCells now wait base cap true due)[i]?) ∧ (Blk w' (w.heap.size + 1) 23 (ckCells now wt base cap true due) ∧ ∀ i, w'.cell? ⟨w.heap.size + 1, i, none⟩ = (ckCells now wt base cap true due)[i]?) ∧ (Blk w' (w1.heap.size) 23 (ckCells now (2 * wt) base cap true due) ∧ ∀ i, w'.cell? ⟨w1.heap.size, i, none⟩ = (ckCells now (2 * wt) base cap true due)[i]?), fun _ h => h, fun _ h => h⟩
        have hh9 := hS9 _ hh
        have HC9 := Lib.hid hC9
        have HS9 := Lib.hid hS9
        clear hC9 hS9 hh
        refine wp_region_in C9 (by kernel_rfl) (by kernel_rfl) hh9 ?_
        clear hh9
        repeat (first
          | go_big_quiet_skip
          | (go_big_quiet_want; go_big_quiet_op; go_big_quiet_on)
          | (go_big_quiet_want; refine quiet_value (v := ?_) (fun w9 hw9 => ?_) ?_; rotate_left; (focus (obtain ⟨hb9, ⟨hqB, cqB⟩, ⟨hqX, cqX⟩, ⟨hqY, cqY⟩⟩ := HC9.out w9 hw9; clear hw9; go_simp; first | done | with_reducible rfl)); simp only [Act.put, List.setIfInBounds_toArray, List.set_cons_zero, List.set_cons_succ]; go_big_quiet_on)
          | (go_big_quiet_want; refine quiet_enter (f := 12) (args := ?_) (v := ?_) (fun w9 hw9 => ?_) (fun w9 hw9 => ?_) ?_; rotate_left 2; (focus (obtain ⟨hb9, ⟨hqB, cqB⟩, ⟨hqX, cqX⟩, ⟨hqY, cqY⟩⟩ := HC9.out w9 hw9; clear hw9; go_simp; first | done | with_reducible rfl)); (focus (have hr9 := left_any now (2 * wt) base cap true due w9; rw [leftI_on MY.out] at hr9; (with_reducible refine Calls.mono hr9 (fun e w8 hr => ?_)); refine ⟨hr.1.trans ?_, HS9.out _ (held3_next hr.2 (HC9.out w9 hw9) (Nat.le_refl _))⟩; with_reducible rfl)); simp only [Act.put, List.setIfInBounds_toArray, List.set_cons_zero, List.set_cons_succ]; go_big_quiet_on)
          | (go_big_quiet_want; refine quiet_enter (f := 12) (args := ?_) (v := ?_) (fun w9 hw9 => ?_) (fun w9 hw9 => ?_) ?_; rotate_left 2; (focus (obtain ⟨hb9, ⟨hqB, cqB⟩, ⟨hqX, cqX⟩, ⟨hqY, cqY⟩⟩ := HC9.out w9 hw9; clear hw9; go_simp; first | done | with_reducible rfl)); (focus (have hr9 := left_any now wt base cap true due w9; rw [leftI_on MI.out] at hr9; (with_reducible refine Calls.mono hr9 (fun e w8 hr => ?_)); refine ⟨hr.1.trans ?_, HS9.out _ (held3_next hr.2 (HC9.out w9 hw9) (Nat.le_refl _))⟩; with_reducible rfl)); simp only [Act.put, List.setIfInBounds_toArray, List.set_cons_zero, List.set_cons_succ]; go_big_quiet_on))
        refine wpQuiet_nil ?_
        intro w2 hfin0
        have hfin := HC9.out _ hfin0
        clear hfin0 HC9 HS9 C9
        obtain ⟨bw2, ⟨hB, cB⟩, ⟨hX, cX⟩, ⟨hY, cY⟩⟩ := hfin
        have z2 := bw2.size
        have fB := Blk.free hB
        have ltB := Blk.lt hB
        have HB := Lib.hid hB
        clear hB
        have fX := Blk.free hX
        have ltX := Blk.lt hX
        have HX := Lib.hid hX
        clear hX
        have fY := Blk.free hY
        have ltY := Blk.lt hY
        have HY := Lib.hid hY
        clear hY
        go_wp2_with fail
        go_roundw
        case rel =>
          refine ⟨k + 1, 2 * wt, by omega, by simp, by go_grown, ?_, ?_, MY.out⟩
          · exact Blk.far (p := ⟨w.heap.size + 1, 5, none⟩) (Blk.far (p := ⟨w.heap.size + 1, 4, none⟩) (Blk.far (p := ⟨w.heap.size + 1, 3, none⟩) (Blk.far (p := ⟨w.heap.size + 1, 2, none⟩) (Blk.far (p := ⟨w.heap.size + 1, 1, none⟩) (Blk.far (p := ⟨w.heap.size + 1, 0, none⟩) (HB.out) (by simp <;> omega) (.int .i64 now)) (by simp <;> omega) (.int .i64 (2 * wt))) (by simp <;> omega) (.int .i64 base)) (by simp <;> omega) (.int .i64 cap)) (by simp <;> omega) (.bool true)) (by simp <;> omega) (.int .i64 due)
          · exact Blk.put (Blk.put (Blk.put (Blk.put (Blk.put (Blk.put (HX.out) 0 (.int .i64 now)) 1 (.int .i64 (2 * wt))) 2 (.int .i64 base)) 3 (.int .i64 cap)) 4 (.bool true)) 5 (.int .i64 due)
        case measure => simp [intOf]; omega
    · have h8 : n % 40 ≤ (k : Int) := by omega
      have t3 : decide (0 ≤ base) = true := by simp; omega
      have l1 := less_le_right due (now + base)
      have MZ := Lib.hid (may_reset_on MI.out)
      have g1 : 0 ≤ less due (now + base) - now := by have := ((may_iff _ _ _ _ _ _).1 MZ.out).d; simp at this; omega
      have g2 : less due (now + base) - now ≤ base := by omega
      have cB := Blk.cell hB
      have fB := Blk.free hB
      have ltB := Blk.lt hB
      have HB := Lib.hid hB
      clear hB
      have cX := Blk.cell hX
      have fX := Blk.free hX
      have ltX := Blk.lt hX
      have HX := Lib.hid hX
      clear hX
      go_wp2_with fail
      refine (reset_yes_on now wt base cap due _ MI.out).mono ?_
      rintro e w1 ⟨rfl, hb1⟩
      have hB : Blk w1 (w.heap.size) 23 (ckCells now wait base cap true due) := (HB.out).belowAll hb1
      have hX : Blk w1 (w.heap.size + 1) 23 (ckCells now wt base cap true due) := (HX.out).belowAll hb1
      have bw1 : Below w.heap.size w w1 := below_after (by go_grown) (by first | (with_reducible exact Nat.le_refl _) | assumption | omega | (simp; done) | (simp [World.setCell]; omega)) hb1
      have z1 := bw1.size
      have s1 := hb1.size
      try simp [World.setCell] at s1
      clear hb1
      clear HB cB fB ltB HX cX fX ltX
      have cB := Blk.cell hB
      have fB := Blk.free hB
      have ltB := Blk.lt hB
      have HB := Lib.hid hB
      clear hB
      have cX := Blk.cell hX
      have fX := Blk.free hX
      have ltX := Blk.lt hX
      have HX := Lib.hid hX
      clear hX
      go_wp2_with fail
      have hh := held2_first (Below.alloc (bw1) (by first | assumption | omega | (simp; omega) | (simp [World.setCell]; omega)) (.cells (ckCells now base base cap true (less due (now + base))) 23)) (Blk.alloc (HB.out) (.cells (ckCells now base base cap true (less due (now + base))) 23)) (Blk.newAt (by first | rfl | (simp; done)))
      clear HB cB fB ltB HX cX fX ltX bw1
      obtain ⟨C9, hC9, hS9⟩ : ∃ C : World → Prop, (∀ w', C w' → Below w.heap.size w w' ∧ (Blk w' (w.heap.size) 23 (ckCells now wait base cap true due) ∧ ∀ i, w'.cell? ⟨w.heap.size, i, none⟩ = (ckCells now wait base cap true due)[i]?) ∧ (Blk w' (w1.heap.size) 23 (ckCells now base base cap true (less due (now + base))) ∧ ∀ i, w'.cell? ⟨w1.heap.size, i, none⟩ = (ckCells now base base cap true (less due (now + base)))[i]?)) ∧ (∀ w', Below w.heap.size w w' ∧ (Blk w' (w.heap.size) 23 (ckCells now wait base cap true due) ∧ ∀ i, w'.cell? ⟨w.heap.size, i, none⟩ = (ckCells now wait base cap true due)[i]?) ∧ (Blk w' (w1.heap.size) 23 (ckCells now base base cap true (less due (now + base))) ∧ ∀ i, w'.cell? ⟨w1.heap.size, i, none⟩ = (ckCells now base base cap true (less due (now + base)))[i]?) → C w') := ⟨fun w' => Below w.heap.size w w' ∧ (Blk w' (w.heap.size) 23 (ckCells now wait base cap true due) ∧ ∀ i, w'.cell? ⟨w.heap.size, i, none⟩ = (ckCells now wait base cap true due)[i]?) ∧ (Blk w' (w1.heap.size) 23 (ckCells now base base cap true (less due (now + base))) ∧ ∀ i, w'.cell? ⟨w1.heap.size, i, none⟩ = (ckCells now base base cap true (less due (now + base)))[i]?), fun _ h => h, fun _ h => h⟩
      have hh9 := hS9 _ hh
      have HC9 := Lib.hid hC9
      have HS9 := Lib.hid hS9
      clear hC9 hS9 hh
      refine wp_region_in C9 (by kernel_rfl) (by kernel_rfl) hh9 ?_
      clear hh9
      repeat (first
        | go_big_quiet_skip
        | (go_big_quiet_want; go_big_quiet_op; go_big_quiet_on)
        | (go_big_quiet_want; refine quiet_value (v := ?_) (fun w9 hw9 => ?_) ?_; rotate_left; (focus (obtain ⟨hb9, ⟨hqB, cqB⟩, ⟨hqZ, cqZ⟩⟩ := HC9.out w9 hw9; clear hw9; go_simp; first | done | with_reducible rfl)); simp only [Act.put, List.setIfInBounds_toArray, List.set_cons_zero, List.set_cons_succ]; go_big_quiet_on)
        | (go_big_quiet_want; refine quiet_enter (f := 12) (args := ?_) (v := ?_) (fun w9 hw9 => ?_) (fun w9 hw9 => ?_) ?_; rotate_left 2; (focus (obtain ⟨hb9, ⟨hqB, cqB⟩, ⟨hqZ, cqZ⟩⟩ := HC9.out w9 hw9; clear hw9; go_simp; first | done | with_reducible rfl)); (focus (have hr9 := left_any now base base cap true (less due (now + base)) w9; rw [leftI_on MZ.out] at hr9; (with_reducible refine Calls.mono hr9 (fun e w8 hr => ?_)); refine ⟨hr.1.trans ?_, HS9.out _ (held2_next hr.2 (HC9.out w9 hw9) (Nat.le_refl _))⟩; with_reducible rfl)); simp only [Act.put, List.setIfInBounds_toArray, List.set_cons_zero, List.set_cons_succ]; go_big_quiet_on)
        | (go_big_quiet_want; refine quiet_enter (f := 13) (args := ?_) (v := ?_) (fun w9 hw9 => ?_) (fun w9 hw9 => ?_) ?_; rotate_left 2; (focus (obtain ⟨hb9, ⟨hqB, cqB⟩, ⟨hqZ, cqZ⟩⟩ := HC9.out w9 hw9; clear hw9; go_simp; first | done | with_reducible rfl)); (focus (have hr9 := awake_true w9; (with_reducible refine Calls.mono hr9 (fun e w8 hr => ?_)); refine ⟨hr.1.trans ?_, HS9.out _ (held2_next hr.2 (HC9.out w9 hw9) (Nat.le_refl _))⟩; with_reducible rfl)); simp only [Act.put, List.setIfInBounds_toArray, List.set_cons_zero, List.set_cons_succ]; go_big_quiet_on))
      refine wpQuiet_nil ?_
      intro w2 hfin0
      have hfin := HC9.out _ hfin0
      clear hfin0 HC9 HS9 C9
      obtain ⟨bw2, ⟨hB, cB⟩, ⟨hZ, cZ⟩⟩ := hfin
      have z2 := bw2.size
      have fB := Blk.free hB
      have ltB := Blk.lt hB
      have HB := Lib.hid hB
      clear hB
      have fZ := Blk.free hZ
      have ltZ := Blk.lt hZ
      have HZ := Lib.hid hZ
      clear hZ
      go_wp2_with fail
      go_ret
      exact ⟨rfl, by go_grown⟩

set_option maxRecDepth 100000 in
set_option maxHeartbeats 8000000 in
theorem waits_off (now wait base cap : Int)  (due n : Int) (w : World) (n0 : 0 ≤ n) (n1 : n ≤ 255) (hm : mayB now wait base cap false due = true) :
    Calls Try.prog 5 #[ck now wait base cap false due, .int .u8 n] w fun e w' => e = .returned (.bool true) ∧ Below w.heap.size w w' := by
  have M := Lib.hid hm
  clear hm
  have n2 : 0 ≤ n % 40 := by omega
  have n3 : n % 40 < 40 := by omega
  go_enter Try.func5, Try.ntmps5
  go_wp2_with fail
  go_loopw [6] (fun i wr => ∃ (k : Nat) (wt : Int), (k : Int) ≤ n % 40 ∧ i = .int .i64 k ∧ Below w.heap.size w wr ∧ Blk wr w.heap.size 23 (ckCells now wait base cap false due) ∧ Blk wr (w.heap.size + 1) 23 (ckCells now wt base cap false due) ∧ mayB now wt base cap false due = true) (fun i _ => (40 - intOf i).toNat)
  case atStart =>
    refine ⟨0, wait, by omega, rfl, by go_grown, ?_, ?_, M.out⟩
    · exact Blk.alloc (Blk.newAt (by first | rfl | (simp; done))) (.cells (ckCells now wait base cap false due) 23)
    · exact Blk.newAt (by first | rfl | (simp; done))
  case round =>
    obtain ⟨k, wt, hk, rfl, bw0, hB, hX, hI⟩ := hrel
    obtain ⟨a1, a2, a3, a4, a5, a6, a7, a8⟩ := (may_iff _ _ _ _ _ _).1 hI
    clear a8
    have MI := Lib.hid hI
    clear hI
    by_cases h7 : (k : Int) < n % 40
    · by_cases h8 : cap ≤ 2 * wt
      · have hd : ∀ W, Calls Try.prog 16 #[ck now wt base cap false due] W fun e w' => e = .returned (.tuple #[ck now (cap) base cap false due, .int .i64 0]) ∧ Below W.heap.size W w' := fun W => by
          have h := double_yes now wt base cap false due W MI.out
          rwa [less_top h8] at h
        have HD := Lib.hid hd
        have MY := Lib.hid (may_wait (wt' := cap) MI.out (by omega) (by omega))
        clear hd
        have cB := Blk.cell hB
        have fB := Blk.free hB
        have ltB := Blk.lt hB
        have HB := Lib.hid hB
        clear hB
        have cX := Blk.cell hX
        have fX := Blk.free hX
        have ltX := Blk.lt hX
        have HX := Lib.hid hX
        clear hX
        go_wp2_with fail
        refine (HD.out _).mono ?_
        rintro e w1 ⟨rfl, hb1⟩
        have hB : Blk w1 (w.heap.size) 23 (ckCells now wait base cap false due) := (HB.out).belowAll hb1
        have hX : Blk w1 (w.heap.size + 1) 23 (ckCells now wt base cap false due) := (HX.out).belowAll hb1
        have bw1 : Below w.heap.size w w1 := below_after (by go_grown) (by first | (with_reducible exact Nat.le_refl _) | assumption | omega | (simp; done) | (simp [World.setCell]; omega)) hb1
        have z1 := bw1.size
        have s1 := hb1.size
        try simp [World.setCell] at s1
        clear hb1
        clear HB cB fB ltB HX cX fX ltX
        have cB := Blk.cell hB
        have fB := Blk.free hB
        have ltB := Blk.lt hB
        have HB := Lib.hid hB
        clear hB
        have cX := Blk.cell hX
        have fX := Blk.free hX
        have ltX := Blk.lt hX
        have HX := Lib.hid hX
        clear hX
        go_wp2_with fail
        have hh := held3_first (Below.alloc (bw1) (by first | assumption | omega | (simp; omega) | (simp [World.setCell]; omega)) (.cells (ckCells now (cap) base cap false due) 23)) (Blk.alloc (HB.out) (.cells (ckCells now (cap) base cap false due) 23)) (Blk.alloc (HX.out) (.cells (ckCells now (cap) base cap false due) 23)) (Blk.newAt (by first | rfl | (simp; done)))
        clear HB cB fB ltB HX cX fX ltX bw1
        obtain ⟨C9, hC9, hS9⟩ : ∃ C : World → Prop, (∀ w', C w' → Below w.heap.size w w' ∧ (Blk w' (w.heap.size) 23 (ckCells now wait base cap false due) ∧ ∀ i, w'.cell? ⟨w.heap.size, i, none⟩ = (ckCells now wait base cap false due)[i]?) ∧ (Blk w' (w.heap.size + 1) 23 (ckCells now wt base cap false due) ∧ ∀ i, w'.cell? ⟨w.heap.size + 1, i, none⟩ = (ckCells now wt base cap false due)[i]?) ∧ (Blk w' (w1.heap.size) 23 (ckCells now (cap) base cap false due) ∧ ∀ i, w'.cell? ⟨w1.heap.size, i, none⟩ = (ckCells now (cap) base cap false due)[i]?)) ∧ (∀ w', Below w.heap.size w w' ∧ (Blk w' (w.heap.size) 23 (ckCells now wait base cap false due) ∧ ∀ i, w'.cell? ⟨w.heap.size, i, none⟩ = (ckCells now wait base cap false due)[i]?) ∧ (Blk w' (w.heap.size + 1) 23 (ckCells now wt base cap false due) ∧ ∀ i, w'.cell? ⟨w.heap.size + 1, i, none⟩ = (ckCells now wt base cap false due)[i]?) ∧ (Blk w' (w1.heap.size) 23 (ckCells now (cap) base cap false due) ∧ ∀ i, w'.cell? ⟨w1.heap.size, i, none⟩ = (ckCells now (cap) base cap false due)[i]?) → C w') := ⟨fun w' => Below w.heap.size w w' ∧ (Blk w' (w.heap.size) 23 (ckCells now wait base cap false due) ∧ ∀ i, w'.cell? ⟨w.heap.size, i, none⟩ = (ckCells now wait base cap false due)[i]?) ∧ (Blk w' (w.heap.size + 1) 23 (ckCells now wt base cap false due) ∧ ∀ i, w'.cell? ⟨w.heap.size + 1, i, none⟩ = (ckCells now wt base cap false due)[i]?) ∧ (Blk w' (w1.heap.size) 23 (ckCells now (cap) base cap false due) ∧ ∀ i, w'.cell? ⟨w1.heap.size, i, none⟩ = (ckCells now (cap) base cap false due)[i]?), fun _ h => h, fun _ h => h⟩
        have hh9 := hS9 _ hh
        have HC9 := Lib.hid hC9
        have HS9 := Lib.hid hS9
        clear hC9 hS9 hh
        refine wp_region_in C9 (by kernel_rfl) (by kernel_rfl) hh9 ?_
        clear hh9
        repeat (first
          | go_big_quiet_skip
          | (go_big_quiet_want; go_big_quiet_op; go_big_quiet_on)
          | (go_big_quiet_want; refine quiet_value (v := ?_) (fun w9 hw9 => ?_) ?_; rotate_left; (focus (obtain ⟨hb9, ⟨hqB, cqB⟩, ⟨hqX, cqX⟩, ⟨hqY, cqY⟩⟩ := HC9.out w9 hw9; clear hw9; go_simp; first | done | with_reducible rfl)); simp only [Act.put, List.setIfInBounds_toArray, List.set_cons_zero, List.set_cons_succ]; go_big_quiet_on)
          | (go_big_quiet_want; refine quiet_enter (f := 12) (args := ?_) (v := ?_) (fun w9 hw9 => ?_) (fun w9 hw9 => ?_) ?_; rotate_left 2; (focus (obtain ⟨hb9, ⟨hqB, cqB⟩, ⟨hqX, cqX⟩, ⟨hqY, cqY⟩⟩ := HC9.out w9 hw9; clear hw9; go_simp; first | done | with_reducible rfl)); (focus (have hr9 := left_any now (cap) base cap false due w9; rw [leftI_off] at hr9; (with_reducible refine Calls.mono hr9 (fun e w8 hr => ?_)); refine ⟨hr.1.trans ?_, HS9.out _ (held3_next hr.2 (HC9.out w9 hw9) (Nat.le_refl _))⟩; with_reducible rfl)); simp only [Act.put, List.setIfInBounds_toArray, List.set_cons_zero, List.set_cons_succ]; go_big_quiet_on)
          | (go_big_quiet_want; refine quiet_enter (f := 12) (args := ?_) (v := ?_) (fun w9 hw9 => ?_) (fun w9 hw9 => ?_) ?_; rotate_left 2; (focus (obtain ⟨hb9, ⟨hqB, cqB⟩, ⟨hqX, cqX⟩, ⟨hqY, cqY⟩⟩ := HC9.out w9 hw9; clear hw9; go_simp; first | done | with_reducible rfl)); (focus (have hr9 := left_any now wt base cap false due w9; rw [leftI_off] at hr9; (with_reducible refine Calls.mono hr9 (fun e w8 hr => ?_)); refine ⟨hr.1.trans ?_, HS9.out _ (held3_next hr.2 (HC9.out w9 hw9) (Nat.le_refl _))⟩; with_reducible rfl)); simp only [Act.put, List.setIfInBounds_toArray, List.set_cons_zero, List.set_cons_succ]; go_big_quiet_on))
        refine wpQuiet_nil ?_
        intro w2 hfin0
        have hfin := HC9.out _ hfin0
        clear hfin0 HC9 HS9 C9
        obtain ⟨bw2, ⟨hB, cB⟩, ⟨hX, cX⟩, ⟨hY, cY⟩⟩ := hfin
        have z2 := bw2.size
        have fB := Blk.free hB
        have ltB := Blk.lt hB
        have HB := Lib.hid hB
        clear hB
        have fX := Blk.free hX
        have ltX := Blk.lt hX
        have HX := Lib.hid hX
        clear hX
        have fY := Blk.free hY
        have ltY := Blk.lt hY
        have HY := Lib.hid hY
        clear hY
        go_wp2_with fail
        go_roundw
        case rel =>
          refine ⟨k + 1, cap, by omega, by simp, by go_grown, ?_, ?_, MY.out⟩
          · exact Blk.far (p := ⟨w.heap.size + 1, 5, none⟩) (Blk.far (p := ⟨w.heap.size + 1, 4, none⟩) (Blk.far (p := ⟨w.heap.size + 1, 3, none⟩) (Blk.far (p := ⟨w.heap.size + 1, 2, none⟩) (Blk.far (p := ⟨w.heap.size + 1, 1, none⟩) (Blk.far (p := ⟨w.heap.size + 1, 0, none⟩) (HB.out) (by simp <;> omega) (.int .i64 now)) (by simp <;> omega) (.int .i64 (cap))) (by simp <;> omega) (.int .i64 base)) (by simp <;> omega) (.int .i64 cap)) (by simp <;> omega) (.bool false)) (by simp <;> omega) (.int .i64 due)
          · exact Blk.put (Blk.put (Blk.put (Blk.put (Blk.put (Blk.put (HX.out) 0 (.int .i64 now)) 1 (.int .i64 (cap))) 2 (.int .i64 base)) 3 (.int .i64 cap)) 4 (.bool false)) 5 (.int .i64 due)
        case measure => simp [intOf]; omega
      · have hd : ∀ W, Calls Try.prog 16 #[ck now wt base cap false due] W fun e w' => e = .returned (.tuple #[ck now (2 * wt) base cap false due, .int .i64 0]) ∧ Below W.heap.size W w' := fun W => by
          have h := double_yes now wt base cap false due W MI.out
          rwa [less_low (by omega)] at h
        have h9 : 2 * wt < cap := by omega
        have t1 : decide (cap < 2 * wt) = false := by simp; omega
        have t2 : decide (2 * wt < cap) = true := by simp; omega
        have t4 : IntKind.i64.wrap (2 * wt) = 2 * wt := IntWalk.i64_in _ (by omega)
        have HD := Lib.hid hd
        have MY := Lib.hid (may_wait (wt' := 2 * wt) MI.out (by omega) (by omega))
        clear hd
        have cB := Blk.cell hB
        have fB := Blk.free hB
        have ltB := Blk.lt hB
        have HB := Lib.hid hB
        clear hB
        have cX := Blk.cell hX
        have fX := Blk.free hX
        have ltX := Blk.lt hX
        have HX := Lib.hid hX
        clear hX
        go_wp2_with fail
        refine (HD.out _).mono ?_
        rintro e w1 ⟨rfl, hb1⟩
        have hB : Blk w1 (w.heap.size) 23 (ckCells now wait base cap false due) := (HB.out).belowAll hb1
        have hX : Blk w1 (w.heap.size + 1) 23 (ckCells now wt base cap false due) := (HX.out).belowAll hb1
        have bw1 : Below w.heap.size w w1 := below_after (by go_grown) (by first | (with_reducible exact Nat.le_refl _) | assumption | omega | (simp; done) | (simp [World.setCell]; omega)) hb1
        have z1 := bw1.size
        have s1 := hb1.size
        try simp [World.setCell] at s1
        clear hb1
        clear HB cB fB ltB HX cX fX ltX
        have cB := Blk.cell hB
        have fB := Blk.free hB
        have ltB := Blk.lt hB
        have HB := Lib.hid hB
        clear hB
        have cX := Blk.cell hX
        have fX := Blk.free hX
        have ltX := Blk.lt hX
        have HX := Lib.hid hX
        clear hX
        go_wp2_with fail
        have hh := held3_first (Below.alloc (bw1) (by first | assumption | omega | (simp; omega) | (simp [World.setCell]; omega)) (.cells (ckCells now (2 * wt) base cap false due) 23)) (Blk.alloc (HB.out) (.cells (ckCells now (2 * wt) base cap false due) 23)) (Blk.alloc (HX.out) (.cells (ckCells now (2 * wt) base cap false due) 23)) (Blk.newAt (by first | rfl | (simp; done)))
        clear HB cB fB ltB HX cX fX ltX bw1
        obtain ⟨C9, hC9, hS9⟩ : ∃ C : World → Prop, (∀ w', C w' → Below w.heap.size w w' ∧ (Blk w' (w.heap.size) 23 (ckCells now wait base cap false due) ∧ ∀ i, w'.cell? ⟨w.heap.size, i, none⟩ = (ckCells now wait base cap false due)[i]?) ∧ (Blk w' (w.heap.size + 1) 23 (ckCells now wt base cap false due) ∧ ∀ i, w'.cell? ⟨w.heap.size + 1, i, none⟩ = (ckCells now wt base cap false due)[i]?) ∧ (Blk w' (w1.heap.size) 23 (ckCells now (2 * wt) base cap false due) ∧ ∀ i, w'.cell? ⟨w1.heap.size, i, none⟩ = (ckCells now (2 * wt) base cap false due)[i]?)) ∧ (∀ w', Below w.heap.size w w' ∧ (Blk w' (w.heap.size) 23 (ckCells now wait base cap false due) ∧ ∀ i, w'.cell? ⟨w.heap.size, i, none⟩ = (ckCells now wait base cap false due)[i]?) ∧ (Blk w' (w.heap.size + 1) 23 (ckCells now wt base cap false due) ∧ ∀ i, w'.cell? ⟨w.heap.size + 1, i, none⟩ = (ckCells now wt base cap false due)[i]?) ∧ (Blk w' (w1.heap.size) 23 (ckCells now (2 * wt) base cap false due) ∧ ∀ i, w'.cell? ⟨w1.heap.size, i, none⟩ = (ckCells now (2 * wt) base cap false due)[i]?) → C w') := ⟨fun w' => Below w.heap.size w w' ∧ (Blk w' (w.heap.size) 23 (ckCells now wait base cap false due) ∧ ∀ i, w'.cell? ⟨w.heap.size, i, none⟩ = (ckCells now wait base cap false due)[i]?) ∧ (Blk w' (w.heap.size + 1) 23 (ckCells now wt base cap false due) ∧ ∀ i, w'.cell? ⟨w.heap.size + 1, i, none⟩ = (ckCells now wt base cap false due)[i]?) ∧ (Blk w' (w1.heap.size) 23 (ckCells now (2 * wt) base cap false due) ∧ ∀ i, w'.cell? ⟨w1.heap.size, i, none⟩ = (ckCells now (2 * wt) base cap false due)[i]?), fun _ h => h, fun _ h => h⟩
        have hh9 := hS9 _ hh
        have HC9 := Lib.hid hC9
        have HS9 := Lib.hid hS9
        clear hC9 hS9 hh
        refine wp_region_in C9 (by kernel_rfl) (by kernel_rfl) hh9 ?_
        clear hh9
        repeat (first
          | go_big_quiet_skip
          | (go_big_quiet_want; go_big_quiet_op; go_big_quiet_on)
          | (go_big_quiet_want; refine quiet_value (v := ?_) (fun w9 hw9 => ?_) ?_; rotate_left; (focus (obtain ⟨hb9, ⟨hqB, cqB⟩, ⟨hqX, cqX⟩, ⟨hqY, cqY⟩⟩ := HC9.out w9 hw9; clear hw9; go_simp; first | done | with_reducible rfl)); simp only [Act.put, List.setIfInBounds_toArray, List.set_cons_zero, List.set_cons_succ]; go_big_quiet_on)
          | (go_big_quiet_want; refine quiet_enter (f := 12) (args := ?_) (v := ?_) (fun w9 hw9 => ?_) (fun w9 hw9 => ?_) ?_; rotate_left 2; (focus (obtain ⟨hb9, ⟨hqB, cqB⟩, ⟨hqX, cqX⟩, ⟨hqY, cqY⟩⟩ := HC9.out w9 hw9; clear hw9; go_simp; first | done | with_reducible rfl)); (focus (have hr9 := left_any now (2 * wt) base cap false due w9; rw [leftI_off] at hr9; (with_reducible refine Calls.mono hr9 (fun e w8 hr => ?_)); refine ⟨hr.1.trans ?_, HS9.out _ (held3_next hr.2 (HC9.out w9 hw9) (Nat.le_refl _))⟩; with_reducible rfl)); simp only [Act.put, List.setIfInBounds_toArray, List.set_cons_zero, List.set_cons_succ]; go_big_quiet_on)
          | (go_big_quiet_want; refine quiet_enter (f := 12) (args := ?_) (v := ?_) (fun w9 hw9 => ?_) (fun w9 hw9 => ?_) ?_; rotate_left 2; (focus (obtain ⟨hb9, ⟨hqB, cqB⟩, ⟨hqX, cqX⟩, ⟨hqY, cqY⟩⟩ := HC9.out w9 hw9; clear hw9; go_simp; first | done | with_reducible rfl)); (focus (have hr9 := left_any now wt base cap false due w9; rw [leftI_off] at hr9; (with_reducible refine Calls.mono hr9 (fun e w8 hr => ?_)); refine ⟨hr.1.trans ?_, HS9.out _ (held3_next hr.2 (HC9.out w9 hw9) (Nat.le_refl _))⟩; with_reducible rfl)); simp only [Act.put, List.setIfInBounds_toArray, List.set_cons_zero, List.set_cons_succ]; go_big_quiet_on))
        refine wpQuiet_nil ?_
        intro w2 hfin0
        have hfin := HC9.out _ hfin0
        clear hfin0 HC9 HS9 C9
        obtain ⟨bw2, ⟨hB, cB⟩, ⟨hX, cX⟩, ⟨hY, cY⟩⟩ := hfin
        have z2 := bw2.size
        have fB := Blk.free hB
        have ltB := Blk.lt hB
        have HB := Lib.hid hB
        clear hB
        have fX := Blk.free hX
        have ltX := Blk.lt hX
        have HX := Lib.hid hX
        clear hX
        have fY := Blk.free hY
        have ltY := Blk.lt hY
        have HY := Lib.hid hY
        clear hY
        go_wp2_with fail
        go_roundw
        case rel =>
          refine ⟨k + 1, 2 * wt, by omega, by simp, by go_grown, ?_, ?_, MY.out⟩
          · exact Blk.far (p := ⟨w.heap.size + 1, 5, none⟩) (Blk.far (p := ⟨w.heap.size + 1, 4, none⟩) (Blk.far (p := ⟨w.heap.size + 1, 3, none⟩) (Blk.far (p := ⟨w.heap.size + 1, 2, none⟩) (Blk.far (p := ⟨w.heap.size + 1, 1, none⟩) (Blk.far (p := ⟨w.heap.size + 1, 0, none⟩) (HB.out) (by simp <;> omega) (.int .i64 now)) (by simp <;> omega) (.int .i64 (2 * wt))) (by simp <;> omega) (.int .i64 base)) (by simp <;> omega) (.int .i64 cap)) (by simp <;> omega) (.bool false)) (by simp <;> omega) (.int .i64 due)
          · exact Blk.put (Blk.put (Blk.put (Blk.put (Blk.put (Blk.put (HX.out) 0 (.int .i64 now)) 1 (.int .i64 (2 * wt))) 2 (.int .i64 base)) 3 (.int .i64 cap)) 4 (.bool false)) 5 (.int .i64 due)
        case measure => simp [intOf]; omega
    · have h8 : n % 40 ≤ (k : Int) := by omega
      have t3 : decide (0 ≤ base) = true := by simp; omega
      have cB := Blk.cell hB
      have fB := Blk.free hB
      have ltB := Blk.lt hB
      have HB := Lib.hid hB
      clear hB
      have cX := Blk.cell hX
      have fX := Blk.free hX
      have ltX := Blk.lt hX
      have HX := Lib.hid hX
      clear hX
      go_wp2_with fail
      refine (reset_yes_off now wt base cap due _ MI.out).mono ?_
      rintro e w1 ⟨rfl, hb1⟩
      have hB : Blk w1 (w.heap.size) 23 (ckCells now wait base cap false due) := (HB.out).belowAll hb1
      have hX : Blk w1 (w.heap.size + 1) 23 (ckCells now wt base cap false due) := (HX.out).belowAll hb1
      have bw1 : Below w.heap.size w w1 := below_after (by go_grown) (by first | (with_reducible exact Nat.le_refl _) | assumption | omega | (simp; done) | (simp [World.setCell]; omega)) hb1
      have z1 := bw1.size
      have s1 := hb1.size
      try simp [World.setCell] at s1
      clear hb1
      clear HB cB fB ltB HX cX fX ltX
      have cB := Blk.cell hB
      have fB := Blk.free hB
      have ltB := Blk.lt hB
      have HB := Lib.hid hB
      clear hB
      have cX := Blk.cell hX
      have fX := Blk.free hX
      have ltX := Blk.lt hX
      have HX := Lib.hid hX
      clear hX
      go_wp2_with fail
      have hh := held2_first (Below.alloc (bw1) (by first | assumption | omega | (simp; omega) | (simp [World.setCell]; omega)) (.cells (ckCells now base base cap false due) 23)) (Blk.alloc (HB.out) (.cells (ckCells now base base cap false due) 23)) (Blk.newAt (by first | rfl | (simp; done)))
      clear HB cB fB ltB HX cX fX ltX bw1
      obtain ⟨C9, hC9, hS9⟩ : ∃ C : World → Prop, (∀ w', C w' → Below w.heap.size w w' ∧ (Blk w' (w.heap.size) 23 (ckCells now wait base cap false due) ∧ ∀ i, w'.cell? ⟨w.heap.size, i, none⟩ = (ckCells now wait base cap false due)[i]?) ∧ (Blk w' (w1.heap.size) 23 (ckCells now base base cap false due) ∧ ∀ i, w'.cell? ⟨w1.heap.size, i, none⟩ = (ckCells now base base cap false due)[i]?)) ∧ (∀ w', Below w.heap.size w w' ∧ (Blk w' (w.heap.size) 23 (ckCells now wait base cap false due) ∧ ∀ i, w'.cell? ⟨w.heap.size, i, none⟩ = (ckCells now wait base cap false due)[i]?) ∧ (Blk w' (w1.heap.size) 23 (ckCells now base base cap false due) ∧ ∀ i, w'.cell? ⟨w1.heap.size, i, none⟩ = (ckCells now base base cap false due)[i]?) → C w') := ⟨fun w' => Below w.heap.size w w' ∧ (Blk w' (w.heap.size) 23 (ckCells now wait base cap false due) ∧ ∀ i, w'.cell? ⟨w.heap.size, i, none⟩ = (ckCells now wait base cap false due)[i]?) ∧ (Blk w' (w1.heap.size) 23 (ckCells now base base cap false due) ∧ ∀ i, w'.cell? ⟨w1.heap.size, i, none⟩ = (ckCells now base base cap false due)[i]?), fun _ h => h, fun _ h => h⟩
      have hh9 := hS9 _ hh
      have HC9 := Lib.hid hC9
      have HS9 := Lib.hid hS9
      clear hC9 hS9 hh
      refine wp_region_in C9 (by kernel_rfl) (by kernel_rfl) hh9 ?_
      clear hh9
      repeat (first
        | go_big_quiet_skip
        | (go_big_quiet_want; go_big_quiet_op; go_big_quiet_on)
        | (go_big_quiet_want; refine quiet_value (v := ?_) (fun w9 hw9 => ?_) ?_; rotate_left; (focus (obtain ⟨hb9, ⟨hqB, cqB⟩, ⟨hqZ, cqZ⟩⟩ := HC9.out w9 hw9; clear hw9; go_simp; first | done | with_reducible rfl)); simp only [Act.put, List.setIfInBounds_toArray, List.set_cons_zero, List.set_cons_succ]; go_big_quiet_on)
        | (go_big_quiet_want; refine quiet_enter (f := 12) (args := ?_) (v := ?_) (fun w9 hw9 => ?_) (fun w9 hw9 => ?_) ?_; rotate_left 2; (focus (obtain ⟨hb9, ⟨hqB, cqB⟩, ⟨hqZ, cqZ⟩⟩ := HC9.out w9 hw9; clear hw9; go_simp; first | done | with_reducible rfl)); (focus (have hr9 := left_any now base base cap false due w9; rw [leftI_off] at hr9; (with_reducible refine Calls.mono hr9 (fun e w8 hr => ?_)); refine ⟨hr.1.trans ?_, HS9.out _ (held2_next hr.2 (HC9.out w9 hw9) (Nat.le_refl _))⟩; with_reducible rfl)); simp only [Act.put, List.setIfInBounds_toArray, List.set_cons_zero, List.set_cons_succ]; go_big_quiet_on)
        | (go_big_quiet_want; refine quiet_enter (f := 13) (args := ?_) (v := ?_) (fun w9 hw9 => ?_) (fun w9 hw9 => ?_) ?_; rotate_left 2; (focus (obtain ⟨hb9, ⟨hqB, cqB⟩, ⟨hqZ, cqZ⟩⟩ := HC9.out w9 hw9; clear hw9; go_simp; first | done | with_reducible rfl)); (focus (have hr9 := awake_true w9; (with_reducible refine Calls.mono hr9 (fun e w8 hr => ?_)); refine ⟨hr.1.trans ?_, HS9.out _ (held2_next hr.2 (HC9.out w9 hw9) (Nat.le_refl _))⟩; with_reducible rfl)); simp only [Act.put, List.setIfInBounds_toArray, List.set_cons_zero, List.set_cons_succ]; go_big_quiet_on))
      refine wpQuiet_nil ?_
      intro w2 hfin0
      have hfin := HC9.out _ hfin0
      clear hfin0 HC9 HS9 C9
      obtain ⟨bw2, ⟨hB, cB⟩, ⟨hZ, cZ⟩⟩ := hfin
      have z2 := bw2.size
      have fB := Blk.free hB
      have ltB := Blk.lt hB
      have HB := Lib.hid hB
      clear hB
      have fZ := Blk.free hZ
      have ltZ := Blk.lt hZ
      have HZ := Lib.hid hZ
      clear hZ
      go_wp2_with fail
      go_ret
      exact ⟨rfl, by go_grown⟩

theorem waits_walk (now wait base cap : Int) (on : Bool) (due n : Int) (w : World) (n0 : 0 ≤ n) (n1 : n ≤ 255) :
    Calls Try.prog 5 #[ck now wait base cap on due, .int .u8 n] w fun e w' => e = .returned (.bool true) ∧ Below w.heap.size w w' := by
  cases hm : mayB now wait base cap on due
  · exact waits_bad now wait base cap on due n w n0 n1 hm
  · cases on
    · exact waits_off now wait base cap due n w n0 n1 hm
    · exact waits_on now wait base cap due n w n0 n1 hm
end Go.Proofs.Ytfpnileacpbocaa