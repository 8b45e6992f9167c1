/-
  The walk of ClockDoes: it returns true at every clock. No condition of its own.
-/
import Derived.Test.YtfpnileacpbocaaClock5
import Derived.Test.YtfpnileacpbocaaHeld
set_option linter.unusedSimpArgs false
set_option linter.unusedVariables false
namespace Go.Proofs.Ytfpnileacpbocaa
open Go.RowKit

theorem rtick_on_due (now wait base cap due : Int) (w : World) (hm : May now wait base cap true due) (hn : now < 1099511627776) (hd : now + 1 < due) :
    Calls Try.prog 22 #[ck now wait base cap true due] w fun e w' => e = .returned (.tuple #[ck (now + 1) wait base cap true due, .bool false]) ∧ Below w.heap.size w w' := by
  have h := rtick_on now wait base cap due w hm hn hd
  have e : now + 1 + (due - now - 1) = due := by omega
  rwa [e] at h


set_option maxRecDepth 100000 in
set_option maxHeartbeats 4000000 in
theorem does_no (now wait base cap : Int) (on : Bool) (due : Int) (w : World) (h1 : -9223372036854775808 ≤ due) (h2 : due ≤ 9223372036854775807) (hm : mayB now wait base cap on due = false) :
    Calls Try.prog 6 #[ck now wait base cap on due] w fun e w' => e = .returned (.bool true) ∧ Below w.heap.size w w' := by
  have M := Lib.hid hm
  clear hm
  go_enter Try.func6, Try.ntmps6
  go_wp2_with fail
  refine (start_no now wait base cap on due _ M.out).mono ?_
  rintro e w1 ⟨rfl, hb1⟩
  have hB : Blk w1 (w.heap.size) 23 (ckCells now wait base cap on due) := (Blk.newAt (by simp)).belowAll hb1
  have bw1 : Below w.heap.size w w1 := below_after (by go_grown) (by first | (with_reducible exact Nat.le_refl _) | assumption | omega | (simp; done) | (simp [World.setCell]; omega)) hb1
  have z1 := bw1.size
  have s1 := hb1.size
  try simp [World.setCell] at s1
  clear hb1
  have cB := Blk.cell hB
  have fB := Blk.free hB
  have ltB := Blk.lt hB
  have HB := Lib.hid hB
  clear hB
  go_wp2_with fail
  refine (stop_no now wait base cap on due _ M.out).mono ?_
  rintro e w2 ⟨rfl, hb2⟩
  have hB : Blk w2 (w.heap.size) 23 (ckCells now wait base cap on due) := (Blk.alloc (HB.out) _).belowAll hb2
  have hA : Blk w2 (w1.heap.size) 23 (ckCells 0 0 0 0 false 0) := (Blk.newAt (by simp)).belowAll hb2
  have bw2 : Below w.heap.size w w2 := below_after (by go_grown) (by first | (with_reducible exact Nat.le_refl _) | assumption | omega | (simp; done) | (simp [World.setCell]; omega)) hb2
  have z2 := bw2.size
  have s2 := hb2.size
  try simp [World.setCell] at s2
  clear hb2 bw1
  clear HB cB fB ltB
  have cB := Blk.cell hB
  have fB := Blk.free hB
  have ltB := Blk.lt hB
  have HB := Lib.hid hB
  clear hB
  have cA := Blk.cell hA
  have fA := Blk.free hA
  have ltA := Blk.lt hA
  have HA := Lib.hid hA
  clear hA
  go_wp2_with fail
  refine (tick_no now wait base cap on due _ M.out).mono ?_
  rintro e w3 ⟨rfl, hb3⟩
  have hB : Blk w3 (w.heap.size) 23 (ckCells now wait base cap on due) := (Blk.alloc (HB.out) _).belowAll hb3
  have hA : Blk w3 (w1.heap.size) 23 (ckCells 0 0 0 0 false 0) := (Blk.alloc (HA.out) _).belowAll hb3
  have hS : Blk w3 (w2.heap.size) 23 (ckCells 0 0 0 0 false 0) := (Blk.newAt (by simp)).belowAll hb3
  have bw3 : Below w.heap.size w w3 := below_after (by go_grown) (by first | (with_reducible exact Nat.le_refl _) | assumption | omega | (simp; done) | (simp [World.setCell]; omega)) hb3
  have z3 := bw3.size
  have s3 := hb3.size
  try simp [World.setCell] at s3
  clear hb3 bw2
  clear HB cB fB ltB HA cA fA ltA
  have cB := Blk.cell hB
  have fB := Blk.free hB
  have ltB := Blk.lt hB
  have HB := Lib.hid hB
  clear hB
  have cA := Blk.cell hA
  have fA := Blk.free hA
  have ltA := Blk.lt hA
  have HA := Lib.hid hA
  clear hA
  have cS := Blk.cell hS
  have fS := Blk.free hS
  have ltS := Blk.lt hS
  have HS := Lib.hid hS
  clear hS
  go_wp2_with fail
  refine (double_no now wait base cap on due _ M.out).mono ?_
  rintro e w4 ⟨rfl, hb4⟩
  have hB : Blk w4 (w.heap.size) 23 (ckCells now wait base cap on due) := (Blk.alloc (HB.out) _).belowAll hb4
  have hA : Blk w4 (w1.heap.size) 23 (ckCells 0 0 0 0 false 0) := (Blk.alloc (HA.out) _).belowAll hb4
  have hS : Blk w4 (w2.heap.size) 23 (ckCells 0 0 0 0 false 0) := (Blk.alloc (HS.out) _).belowAll hb4
  have hT : Blk w4 (w3.heap.size) 23 (ckCells 0 0 0 0 false 0) := (Blk.newAt (by simp)).belowAll hb4
  have bw4 : Below w.heap.size w w4 := below_after (by go_grown) (by first | (with_reducible exact Nat.le_refl _) | assumption | omega | (simp; done) | (simp [World.setCell]; omega)) hb4
  have z4 := bw4.size
  have s4 := hb4.size
  try simp [World.setCell] at s4
  clear hb4 bw3
  clear HB cB fB ltB HA cA fA ltA HS cS fS ltS
  have cB := Blk.cell hB
  have fB := Blk.free hB
  have ltB := Blk.lt hB
  have HB := Lib.hid hB
  clear hB
  have cA := Blk.cell hA
  have fA := Blk.free hA
  have ltA := Blk.lt hA
  have HA := Lib.hid hA
  clear hA
  have cS := Blk.cell hS
  have fS := Blk.free hS
  have ltS := Blk.lt hS
  have HS := Lib.hid hS
  clear hS
  have cT := Blk.cell hT
  have fT := Blk.free hT
  have ltT := Blk.lt hT
  have HT := Lib.hid hT
  clear hT
  go_wp2_with fail
  refine (reset_no now wait base cap on due _ M.out).mono ?_
  rintro e w5 ⟨rfl, hb5⟩
  have hB : Blk w5 (w.heap.size) 23 (ckCells now wait base cap on due) := (Blk.alloc (HB.out) _).belowAll hb5
  have hA : Blk w5 (w1.heap.size) 23 (ckCells 0 0 0 0 false 0) := (Blk.alloc (HA.out) _).belowAll hb5
  have hS : Blk w5 (w2.heap.size) 23 (ckCells 0 0 0 0 false 0) := (Blk.alloc (HS.out) _).belowAll hb5
  have hT : Blk w5 (w3.heap.size) 23 (ckCells 0 0 0 0 false 0) := (Blk.alloc (HT.out) _).belowAll hb5
  have hD : Blk w5 (w4.heap.size) 23 (ckCells 0 0 0 0 false 0) := (Blk.newAt (by simp)).belowAll hb5
  have bw5 : Below w.heap.size w w5 := below_after (by go_grown) (by first | (with_reducible exact Nat.le_refl _) | assumption | omega | (simp; done) | (simp [World.setCell]; omega)) hb5
  have z5 := bw5.size
  have s5 := hb5.size
  try simp [World.setCell] at s5
  clear hb5 bw4
  clear HB cB fB ltB HA cA fA ltA HS cS fS ltS HT cT fT ltT
  have cB := Blk.cell hB
  have fB := Blk.free hB
  have ltB := Blk.lt hB
  have HB := Lib.hid hB
  clear hB
  have cA := Blk.cell hA
  have fA := Blk.free hA
  have ltA := Blk.lt hA
  have HA := Lib.hid hA
  clear hA
  have cS := Blk.cell hS
  have fS := Blk.free hS
  have ltS := Blk.lt hS
  have HS := Lib.hid hS
  clear hS
  have cT := Blk.cell hT
  have fT := Blk.free hT
  have ltT := Blk.lt hT
  have HT := Lib.hid hT
  clear hT
  have cD := Blk.cell hD
  have fD := Blk.free hD
  have ltD := Blk.lt hD
  have HD := Lib.hid hD
  clear hD
  go_wp2_with fail
  refine (rmay_any now wait base cap on due _ h1 h2).mono ?_
  rw [M.out]
  rintro e w6 ⟨rfl, hb6⟩
  have hB : Blk w6 (w.heap.size) 23 (ckCells now wait base cap on due) := (Blk.alloc (Blk.alloc (HB.out) _) _).belowAll hb6
  have hA : Blk w6 (w1.heap.size) 23 (ckCells 0 0 0 0 false 0) := (Blk.alloc (Blk.alloc (HA.out) _) _).belowAll hb6
  have hS : Blk w6 (w2.heap.size) 23 (ckCells 0 0 0 0 false 0) := (Blk.alloc (Blk.alloc (HS.out) _) _).belowAll hb6
  have hT : Blk w6 (w3.heap.size) 23 (ckCells 0 0 0 0 false 0) := (Blk.alloc (Blk.alloc (HT.out) _) _).belowAll hb6
  have hD : Blk w6 (w4.heap.size) 23 (ckCells 0 0 0 0 false 0) := (Blk.alloc (Blk.alloc (HD.out) _) _).belowAll hb6
  have hR : Blk w6 (w5.heap.size) 23 (ckCells 0 0 0 0 false 0) := (Blk.alloc (Blk.newAt (by simp)) _).belowAll hb6
  have hN : Blk w6 (w5.heap.size + 1) 23 (ckCells 0 0 0 0 false 0) := (Blk.newAt (by simp)).belowAll hb6
  have bw6 : Below w.heap.size w w6 := below_after (by go_grown) (by first | (with_reducible exact Nat.le_refl _) | assumption | omega | (simp; done) | (simp [World.setCell]; omega)) hb6
  have z6 := bw6.size
  have s6 := hb6.size
  try simp [World.setCell] at s6
  clear hb6 bw5
  clear HB cB fB ltB HA cA fA ltA HS cS fS ltS HT cT fT ltT HD cD fD ltD
  have cB := Blk.cell hB
  have fB := Blk.free hB
  have ltB := Blk.lt hB
  have HB := Lib.hid hB
  clear hB
  have cA := Blk.cell hA
  have fA := Blk.free hA
  have ltA := Blk.lt hA
  have HA := Lib.hid hA
  clear hA
  have cS := Blk.cell hS
  have fS := Blk.free hS
  have ltS := Blk.lt hS
  have HS := Lib.hid hS
  clear hS
  have cT := Blk.cell hT
  have fT := Blk.free hT
  have ltT := Blk.lt hT
  have HT := Lib.hid hT
  clear hT
  have cD := Blk.cell hD
  have fD := Blk.free hD
  have ltD := Blk.lt hD
  have HD := Lib.hid hD
  clear hD
  have cR := Blk.cell hR
  have fR := Blk.free hR
  have ltR := Blk.lt hR
  have HR := Lib.hid hR
  clear hR
  have cN := Blk.cell hN
  have fN := Blk.free hN
  have ltN := Blk.lt hN
  have HN := Lib.hid hN
  clear hN
  go_wp2_with fail
  refine (awake_true _).mono ?_
  rintro e w7 ⟨rfl, hb7⟩
  have hB : Blk w7 (w.heap.size) 23 (ckCells now wait base cap on due) := (HB.out).belowAll hb7
  have hA : Blk w7 (w1.heap.size) 23 (ckCells 0 0 0 0 false 0) := (HA.out).belowAll hb7
  have hS : Blk w7 (w2.heap.size) 23 (ckCells 0 0 0 0 false 0) := (HS.out).belowAll hb7
  have hT : Blk w7 (w3.heap.size) 23 (ckCells 0 0 0 0 false 0) := (HT.out).belowAll hb7
  have hD : Blk w7 (w4.heap.size) 23 (ckCells 0 0 0 0 false 0) := (HD.out).belowAll hb7
  have hR : Blk w7 (w5.heap.size) 23 (ckCells 0 0 0 0 false 0) := (HR.out).belowAll hb7
  have hN : Blk w7 (w5.heap.size + 1) 23 (ckCells 0 0 0 0 false 0) := (HN.out).belowAll hb7
  have bw7 : Below w.heap.size w w7 := below_after (by go_grown) (by first | (with_reducible exact Nat.le_refl _) | assumption | omega | (simp; done) | (simp [World.setCell]; omega)) hb7
  have z7 := bw7.size
  have s7 := hb7.size
  try simp [World.setCell] at s7
  clear hb7 bw6
  clear HB cB fB ltB HA cA fA ltA HS cS fS ltS HT cT fT ltT HD cD fD ltD HR cR fR ltR HN cN fN ltN
  have cB := Blk.cell hB
  have fB := Blk.free hB
  have ltB := Blk.lt hB
  have HB := Lib.hid hB
  clear hB
  have cA := Blk.cell hA
  have fA := Blk.free hA
  have ltA := Blk.lt hA
  have HA := Lib.hid hA
  clear hA
  have cS := Blk.cell hS
  have fS := Blk.free hS
  have ltS := Blk.lt hS
  have HS := Lib.hid hS
  clear hS
  have cT := Blk.cell hT
  have fT := Blk.free hT
  have ltT := Blk.lt hT
  have HT := Lib.hid hT
  clear hT
  have cD := Blk.cell hD
  have fD := Blk.free hD
  have ltD := Blk.lt hD
  have HD := Lib.hid hD
  clear hD
  have cR := Blk.cell hR
  have fR := Blk.free hR
  have ltR := Blk.lt hR
  have HR := Lib.hid hR
  clear hR
  have cN := Blk.cell hN
  have fN := Blk.free hN
  have ltN := Blk.lt hN
  have HN := Lib.hid hN
  clear hN
  go_wp2_with fail
  go_ret
  exact ⟨rfl, by go_grown⟩

set_option maxRecDepth 100000 in
set_option maxHeartbeats 4000000 in
theorem does_off (now wait base cap : Int)   (w : World) (hl : now < 1099511627776) (hm : mayB now wait base cap false 0 = true) :
    Calls Try.prog 6 #[ck now wait base cap false 0] w fun e w' => e = .returned (.bool true) ∧ Below w.heap.size w w' := by
  have M := Lib.hid hm
  clear hm
  have HM := Lib.hid ((may_iff _ _ _ _ _ _).1 M.out)
  obtain ⟨a1, a2, a3, a4, a5, a6, a7, a8⟩ := HM.out
  clear a8
  go_enter Try.func6, Try.ntmps6
  go_wp2_with fail
  refine (start_yes now wait base cap false 0 _ M.out).mono ?_
  rintro e w1 ⟨rfl, hb1⟩
  have hB : Blk w1 (w.heap.size) 23 (ckCells now wait base cap false 0) := (Blk.newAt (by simp)).belowAll hb1
  have bw1 : Below w.heap.size w w1 := below_after (by go_grown) (by first | (with_reducible exact Nat.le_refl _) | assumption | omega | (simp; done) | (simp [World.setCell]; omega)) hb1
  have z1 := bw1.size
  have s1 := hb1.size
  try simp [World.setCell] at s1
  clear hb1
  have cB := Blk.cell hB
  have fB := Blk.free hB
  have ltB := Blk.lt hB
  have HB := Lib.hid hB
  clear hB
  go_wp2_with fail
  refine (stop_yes now wait base cap false 0 _ M.out).mono ?_
  rintro e w2 ⟨rfl, hb2⟩
  have hB : Blk w2 (w.heap.size) 23 (ckCells now wait base cap false 0) := (Blk.alloc (HB.out) _).belowAll hb2
  have hA : Blk w2 (w1.heap.size) 23 (ckCells now wait base cap true (now + wait)) := (Blk.newAt (by simp)).belowAll hb2
  have bw2 : Below w.heap.size w w2 := below_after (by go_grown) (by first | (with_reducible exact Nat.le_refl _) | assumption | omega | (simp; done) | (simp [World.setCell]; omega)) hb2
  have z2 := bw2.size
  have s2 := hb2.size
  try simp [World.setCell] at s2
  clear hb2 bw1
  clear HB cB fB ltB
  have cB := Blk.cell hB
  have fB := Blk.free hB
  have ltB := Blk.lt hB
  have HB := Lib.hid hB
  clear hB
  have cA := Blk.cell hA
  have fA := Blk.free hA
  have ltA := Blk.lt hA
  have HA := Lib.hid hA
  clear hA
  go_wp2_with fail
  refine (tick_off now wait base cap 0 _ M.out hl).mono ?_
  rintro e w3 ⟨rfl, hb3⟩
  have hB : Blk w3 (w.heap.size) 23 (ckCells now wait base cap false 0) := (Blk.alloc (HB.out) _).belowAll hb3
  have hA : Blk w3 (w1.heap.size) 23 (ckCells now wait base cap true (now + wait)) := (Blk.alloc (HA.out) _).belowAll hb3
  have hS : Blk w3 (w2.heap.size) 23 (ckCells now wait base cap false 0) := (Blk.newAt (by simp)).belowAll hb3
  have bw3 : Below w.heap.size w w3 := below_after (by go_grown) (by first | (with_reducible exact Nat.le_refl _) | assumption | omega | (simp; done) | (simp [World.setCell]; omega)) hb3
  have z3 := bw3.size
  have s3 := hb3.size
  try simp [World.setCell] at s3
  clear hb3 bw2
  clear HB cB fB ltB HA cA fA ltA
  have cB := Blk.cell hB
  have fB := Blk.free hB
  have ltB := Blk.lt hB
  have HB := Lib.hid hB
  clear hB
  have cA := Blk.cell hA
  have fA := Blk.free hA
  have ltA := Blk.lt hA
  have HA := Lib.hid hA
  clear hA
  have cS := Blk.cell hS
  have fS := Blk.free hS
  have ltS := Blk.lt hS
  have HS := Lib.hid hS
  clear hS
  go_wp2_with fail
  refine (double_yes now wait base cap false 0 _ M.out).mono ?_
  rintro e w4 ⟨rfl, hb4⟩
  have hB : Blk w4 (w.heap.size) 23 (ckCells now wait base cap false 0) := (Blk.alloc (HB.out) _).belowAll hb4
  have hA : Blk w4 (w1.heap.size) 23 (ckCells now wait base cap true (now + wait)) := (Blk.alloc (HA.out) _).belowAll hb4
  have hS : Blk w4 (w2.heap.size) 23 (ckCells now wait base cap false 0) := (Blk.alloc (HS.out) _).belowAll hb4
  have hT : Blk w4 (w3.heap.size) 23 (ckCells (now + 1) wait base cap false 0) := (Blk.newAt (by simp)).belowAll hb4
  have bw4 : Below w.heap.size w w4 := below_after (by go_grown) (by first | (with_reducible exact Nat.le_refl _) | assumption | omega | (simp; done) | (simp [World.setCell]; omega)) hb4
  have z4 := bw4.size
  have s4 := hb4.size
  try simp [World.setCell] at s4
  clear hb4 bw3
  clear HB cB fB ltB HA cA fA ltA HS cS fS ltS
  have cB := Blk.cell hB
  have fB := Blk.free hB
  have ltB := Blk.lt hB
  have HB := Lib.hid hB
  clear hB
  have cA := Blk.cell hA
  have fA := Blk.free hA
  have ltA := Blk.lt hA
  have HA := Lib.hid hA
  clear hA
  have cS := Blk.cell hS
  have fS := Blk.free hS
  have ltS := Blk.lt hS
  have HS := Lib.hid hS
  clear hS
  have cT := Blk.cell hT
  have fT := Blk.free hT
  have ltT := Blk.lt hT
  have HT := Lib.hid hT
  clear hT
  go_wp2_with fail
  refine (reset_yes_off now wait base cap 0 _ M.out).mono ?_
  rintro e w5 ⟨rfl, hb5⟩
  have hB : Blk w5 (w.heap.size) 23 (ckCells now wait base cap false 0) := (Blk.alloc (HB.out) _).belowAll hb5
  have hA : Blk w5 (w1.heap.size) 23 (ckCells now wait base cap true (now + wait)) := (Blk.alloc (HA.out) _).belowAll hb5
  have hS : Blk w5 (w2.heap.size) 23 (ckCells now wait base cap false 0) := (Blk.alloc (HS.out) _).belowAll hb5
  have hT : Blk w5 (w3.heap.size) 23 (ckCells (now + 1) wait base cap false 0) := (Blk.alloc (HT.out) _).belowAll hb5
  have hD : Blk w5 (w4.heap.size) 23 (ckCells now (less (2 * wait) cap) base cap false 0) := (Blk.newAt (by simp)).belowAll hb5
  have bw5 : Below w.heap.size w w5 := below_after (by go_grown) (by first | (with_reducible exact Nat.le_refl _) | assumption | omega | (simp; done) | (simp [World.setCell]; omega)) hb5
  have z5 := bw5.size
  have s5 := hb5.size
  try simp [World.setCell] at s5
  clear hb5 bw4
  clear HB cB fB ltB HA cA fA ltA HS cS fS ltS HT cT fT ltT
  have cB := Blk.cell hB
  have fB := Blk.free hB
  have ltB := Blk.lt hB
  have HB := Lib.hid hB
  clear hB
  have cA := Blk.cell hA
  have fA := Blk.free hA
  have ltA := Blk.lt hA
  have HA := Lib.hid hA
  clear hA
  have cS := Blk.cell hS
  have fS := Blk.free hS
  have ltS := Blk.lt hS
  have HS := Lib.hid hS
  clear hS
  have cT := Blk.cell hT
  have fT := Blk.free hT
  have ltT := Blk.lt hT
  have HT := Lib.hid hT
  clear hT
  have cD := Blk.cell hD
  have fD := Blk.free hD
  have ltD := Blk.lt hD
  have HD := Lib.hid hD
  clear hD
  go_wp2_with fail
  refine (rmay_any now wait base cap false 0 _ (by omega) (by omega)).mono ?_
  rw [M.out]
  rintro e w6 ⟨rfl, hb6⟩
  have hB : Blk w6 (w.heap.size) 23 (ckCells now wait base cap false 0) := (Blk.alloc (Blk.alloc (HB.out) _) _).belowAll hb6
  have hA : Blk w6 (w1.heap.size) 23 (ckCells now wait base cap true (now + wait)) := (Blk.alloc (Blk.alloc (HA.out) _) _).belowAll hb6
  have hS : Blk w6 (w2.heap.size) 23 (ckCells now wait base cap false 0) := (Blk.alloc (Blk.alloc (HS.out) _) _).belowAll hb6
  have hT : Blk w6 (w3.heap.size) 23 (ckCells (now + 1) wait base cap false 0) := (Blk.alloc (Blk.alloc (HT.out) _) _).belowAll hb6
  have hD : Blk w6 (w4.heap.size) 23 (ckCells now (less (2 * wait) cap) base cap false 0) := (Blk.alloc (Blk.alloc (HD.out) _) _).belowAll hb6
  have hR : Blk w6 (w5.heap.size) 23 (ckCells now base base cap false 0) := (Blk.alloc (Blk.newAt (by simp)) _).belowAll hb6
  have hN : Blk w6 (w5.heap.size + 1) 23 (ckCells 0 0 0 0 false 0) := (Blk.newAt (by simp)).belowAll hb6
  have bw6 : Below w.heap.size w w6 := below_after (by go_grown) (by first | (with_reducible exact Nat.le_refl _) | assumption | omega | (simp; done) | (simp [World.setCell]; omega)) hb6
  have z6 := bw6.size
  have s6 := hb6.size
  try simp [World.setCell] at s6
  clear hb6 bw5
  clear HB cB fB ltB HA cA fA ltA HS cS fS ltS HT cT fT ltT HD cD fD ltD
  have cB := Blk.cell hB
  have fB := Blk.free hB
  have ltB := Blk.lt hB
  have HB := Lib.hid hB
  clear hB
  have cA := Blk.cell hA
  have fA := Blk.free hA
  have ltA := Blk.lt hA
  have HA := Lib.hid hA
  clear hA
  have cS := Blk.cell hS
  have fS := Blk.free hS
  have ltS := Blk.lt hS
  have HS := Lib.hid hS
  clear hS
  have cT := Blk.cell hT
  have fT := Blk.free hT
  have ltT := Blk.lt hT
  have HT := Lib.hid hT
  clear hT
  have cD := Blk.cell hD
  have fD := Blk.free hD
  have ltD := Blk.lt hD
  have HD := Lib.hid hD
  clear hD
  have cR := Blk.cell hR
  have fR := Blk.free hR
  have ltR := Blk.lt hR
  have HR := Lib.hid hR
  clear hR
  have cN := Blk.cell hN
  have fN := Blk.free hN
  have ltN := Blk.lt hN
  have HN := Lib.hid hN
  clear hN
  go_wp2_with fail
  have hh := held7_first bw6 (HB.out) (HA.out) (HS.out) (HT.out) (HD.out) (HR.out) (HN.out)
  clear HB cB fB ltB HA cA fA ltA HS cS fS ltS HT cT fT ltT HD cD fD ltD HR cR fR ltR HN cN fN ltN bw6
  go_region_held3 (fun w' => Below w.heap.size w w' ∧ (Blk w' (w.heap.size) 23 (ckCells now wait base cap false 0) ∧ ∀ i, w'.cell? ⟨w.heap.size, i, none⟩ = (ckCells now wait base cap false 0)[i]?) ∧ (Blk w' (w1.heap.size) 23 (ckCells now wait base cap true (now + wait)) ∧ ∀ i, w'.cell? ⟨w1.heap.size, i, none⟩ = (ckCells now wait base cap true (now + wait))[i]?) ∧ (Blk w' (w2.heap.size) 23 (ckCells now wait base cap false 0) ∧ ∀ i, w'.cell? ⟨w2.heap.size, i, none⟩ = (ckCells now wait base cap false 0)[i]?) ∧ (Blk w' (w3.heap.size) 23 (ckCells (now + 1) wait base cap false 0) ∧ ∀ i, w'.cell? ⟨w3.heap.size, i, none⟩ = (ckCells (now + 1) wait base cap false 0)[i]?) ∧ (Blk w' (w4.heap.size) 23 (ckCells now (less (2 * wait) cap) base cap false 0) ∧ ∀ i, w'.cell? ⟨w4.heap.size, i, none⟩ = (ckCells now (less (2 * wait) cap) base cap false 0)[i]?) ∧ (Blk w' (w5.heap.size) 23 (ckCells now base base cap false 0) ∧ ∀ i, w'.cell? ⟨w5.heap.size, i, none⟩ = (ckCells now base base cap false 0)[i]?) ∧ (Blk w' (w5.heap.size + 1) 23 (ckCells 0 0 0 0 false 0) ∧ ∀ i, w'.cell? ⟨w5.heap.size + 1, i, none⟩ = (ckCells 0 0 0 0 false 0)[i]?))
    (first | exact hh | exact held7_next hq3 ‹_› (Nat.le_refl _) | exact held7_next hq2 ‹_› (Nat.le_refl _) | exact held7_next hq1 ‹_› (Nat.le_refl _) | exact held7_next hq0 ‹_› (Nat.le_refl _))
    (first
      | (go_at_call 19; (with_reducible refine (at_pos now wait base cap false 0 wait _ (by omega) (by omega) (by omega) (by omega)).mono ?_); rintro e q0 ⟨rfl, hq0⟩)
      | (go_at_call 19; (with_reducible refine (at_zero now wait base cap false 0 0 _ (by omega)).mono ?_); rintro e q1 ⟨rfl, hq1⟩)
      | (go_at_call 20; (with_reducible refine (rdouble now wait base cap false 0 _ HM.out).mono ?_); rintro e q2 ⟨rfl, hq2⟩)
      | (go_at_call 21; (with_reducible refine (rreset_off now wait base cap 0 _ HM.out).mono ?_); rintro e w7 ⟨rfl, hq3⟩))
  rename_i hfin
  clear hh
  obtain ⟨bw7, ⟨hB, cB⟩, ⟨hA, cA⟩, ⟨hS, cS⟩, ⟨hT, cT⟩, ⟨hD, cD⟩, ⟨hR, cR⟩, ⟨hN, cN⟩⟩ := hfin
  have z7 := bw7.size
  have fB := Blk.free hB
  have ltB := Blk.lt hB
  have HB := Lib.hid hB
  clear hB
  have fA := Blk.free hA
  have ltA := Blk.lt hA
  have HA := Lib.hid hA
  clear hA
  have fS := Blk.free hS
  have ltS := Blk.lt hS
  have HS := Lib.hid hS
  clear hS
  have fT := Blk.free hT
  have ltT := Blk.lt hT
  have HT := Lib.hid hT
  clear hT
  have fD := Blk.free hD
  have ltD := Blk.lt hD
  have HD := Lib.hid hD
  clear hD
  have fR := Blk.free hR
  have ltR := Blk.lt hR
  have HR := Lib.hid hR
  clear hR
  have fN := Blk.free hN
  have ltN := Blk.lt hN
  have HN := Lib.hid hN
  clear hN
  clear HA cA fA ltA
  clear HS cS fS ltS
  clear HD cD fD ltD
  clear HR cR fR ltR
  go_wp2_with fail
  refine (rtick_off now wait base cap 0 _ HM.out).mono ?_
  rintro e w8 ⟨rfl, hb8⟩
  have hB : Blk w8 (w.heap.size) 23 (ckCells now wait base cap false 0) := (HB.out).belowAll hb8
  have hT : Blk w8 (w3.heap.size) 23 (ckCells (now + 1) wait base cap false 0) := (HT.out).belowAll hb8
  have hN : Blk w8 (w5.heap.size + 1) 23 (ckCells 0 0 0 0 false 0) := (HN.out).belowAll hb8
  have bw8 : Below w.heap.size w w8 := below_after (by go_grown) (by first | (with_reducible exact Nat.le_refl _) | assumption | omega | (simp; done) | (simp [World.setCell]; omega)) hb8
  have z8 := bw8.size
  have s8 := hb8.size
  try simp [World.setCell] at s8
  clear hb8 bw7
  clear HB cB fB ltB HT cT fT ltT HN cN fN ltN
  have cB := Blk.cell hB
  have fB := Blk.free hB
  have ltB := Blk.lt hB
  have HB := Lib.hid hB
  clear hB
  have cT := Blk.cell hT
  have fT := Blk.free hT
  have ltT := Blk.lt hT
  have HT := Lib.hid hT
  clear hT
  have cN := Blk.cell hN
  have fN := Blk.free hN
  have ltN := Blk.lt hN
  have HN := Lib.hid hN
  clear hN
  go_wp2_with fail
  refine (awake_true _).mono ?_
  rintro e w9 ⟨rfl, hb9⟩
  have hB : Blk w9 (w.heap.size) 23 (ckCells now wait base cap false 0) := (Blk.alloc (HB.out) _).belowAll hb9
  have hT : Blk w9 (w3.heap.size) 23 (ckCells (now + 1) wait base cap false 0) := (Blk.alloc (HT.out) _).belowAll hb9
  have hN : Blk w9 (w5.heap.size + 1) 23 (ckCells 0 0 0 0 false 0) := (Blk.alloc (HN.out) _).belowAll hb9
  have hZ : Blk w9 (w8.heap.size) 23 (ckCells (now + 1) wait base cap false 0) := (Blk.newAt (by simp)).belowAll hb9
  have bw9 : Below w.heap.size w w9 := below_after (by go_grown) (by first | (with_reducible exact Nat.le_refl _) | assumption | omega | (simp; done) | (simp [World.setCell]; omega)) hb9
  have z9 := bw9.size
  have s9 := hb9.size
  try simp [World.setCell] at s9
  clear hb9 bw8
  clear HB cB fB ltB HT cT fT ltT HN cN fN ltN
  have cB := Blk.cell hB
  have fB := Blk.free hB
  have ltB := Blk.lt hB
  have HB := Lib.hid hB
  clear hB
  have cT := Blk.cell hT
  have fT := Blk.free hT
  have ltT := Blk.lt hT
  have HT := Lib.hid hT
  clear hT
  have cN := Blk.cell hN
  have fN := Blk.free hN
  have ltN := Blk.lt hN
  have HN := Lib.hid hN
  clear hN
  have cZ := Blk.cell hZ
  have fZ := Blk.free hZ
  have ltZ := Blk.lt hZ
  have HZ := Lib.hid hZ
  clear hZ
  go_wp2_with fail
  go_ret
  exact ⟨rfl, by go_grown⟩

set_option maxRecDepth 100000 in
set_option maxHeartbeats 4000000 in
theorem does_rings (now wait base cap : Int)  (due : Int) (w : World) (hl : now < 1099511627776) (hd : (now + 1 == due) = true) (hm : mayB now wait base cap true due = true) :
    Calls Try.prog 6 #[ck now wait base cap true due] w fun e w' => e = .returned (.bool true) ∧ Below w.heap.size w w' := by
  have M := Lib.hid hm
  clear hm
  have HM := Lib.hid ((may_iff _ _ _ _ _ _).1 M.out)
  obtain ⟨a1, a2, a3, a4, a5, a6, a7, a8⟩ := HM.out
  have a9 : now < due ∧ due ≤ now + wait := by simpa using a8
  obtain ⟨a9, a10⟩ := a9
  clear a8
  have He := Lib.hid (show now + 1 = due by simpa using hd)
  have Hd := Lib.hid hd
  clear hd
  go_enter Try.func6, Try.ntmps6
  go_wp2_with fail
  refine (start_yes now wait base cap true due _ M.out).mono ?_
  rintro e w1 ⟨rfl, hb1⟩
  have hB : Blk w1 (w.heap.size) 23 (ckCells now wait base cap true due) := (Blk.newAt (by simp)).belowAll hb1
  have bw1 : Below w.heap.size w w1 := below_after (by go_grown) (by first | (with_reducible exact Nat.le_refl _) | assumption | omega | (simp; done) | (simp [World.setCell]; omega)) hb1
  have z1 := bw1.size
  have s1 := hb1.size
  try simp [World.setCell] at s1
  clear hb1
  have cB := Blk.cell hB
  have fB := Blk.free hB
  have ltB := Blk.lt hB
  have HB := Lib.hid hB
  clear hB
  go_wp2_with fail
  refine (stop_yes now wait base cap true due _ M.out).mono ?_
  rintro e w2 ⟨rfl, hb2⟩
  have hB : Blk w2 (w.heap.size) 23 (ckCells now wait base cap true due) := (Blk.alloc (HB.out) _).belowAll hb2
  have hA : Blk w2 (w1.heap.size) 23 (ckCells now wait base cap true (now + wait)) := (Blk.newAt (by simp)).belowAll hb2
  have bw2 : Below w.heap.size w w2 := below_after (by go_grown) (by first | (with_reducible exact Nat.le_refl _) | assumption | omega | (simp; done) | (simp [World.setCell]; omega)) hb2
  have z2 := bw2.size
  have s2 := hb2.size
  try simp [World.setCell] at s2
  clear hb2 bw1
  clear HB cB fB ltB
  have cB := Blk.cell hB
  have fB := Blk.free hB
  have ltB := Blk.lt hB
  have HB := Lib.hid hB
  clear hB
  have cA := Blk.cell hA
  have fA := Blk.free hA
  have ltA := Blk.lt hA
  have HA := Lib.hid hA
  clear hA
  go_wp2_with fail
  refine (tick_rings now wait base cap due _ M.out hl Hd.out).mono ?_
  rintro e w3 ⟨rfl, hb3⟩
  have hB : Blk w3 (w.heap.size) 23 (ckCells now wait base cap true due) := (Blk.alloc (HB.out) _).belowAll hb3
  have hA : Blk w3 (w1.heap.size) 23 (ckCells now wait base cap true (now + wait)) := (Blk.alloc (HA.out) _).belowAll hb3
  have hS : Blk w3 (w2.heap.size) 23 (ckCells now wait base cap false 0) := (Blk.newAt (by simp)).belowAll hb3
  have bw3 : Below w.heap.size w w3 := below_after (by go_grown) (by first | (with_reducible exact Nat.le_refl _) | assumption | omega | (simp; done) | (simp [World.setCell]; omega)) hb3
  have z3 := bw3.size
  have s3 := hb3.size
  try simp [World.setCell] at s3
  clear hb3 bw2
  clear HB cB fB ltB HA cA fA ltA
  have cB := Blk.cell hB
  have fB := Blk.free hB
  have ltB := Blk.lt hB
  have HB := Lib.hid hB
  clear hB
  have cA := Blk.cell hA
  have fA := Blk.free hA
  have ltA := Blk.lt hA
  have HA := Lib.hid hA
  clear hA
  have cS := Blk.cell hS
  have fS := Blk.free hS
  have ltS := Blk.lt hS
  have HS := Lib.hid hS
  clear hS
  go_wp2_with fail
  refine (double_yes now wait base cap true due _ M.out).mono ?_
  rintro e w4 ⟨rfl, hb4⟩
  have hB : Blk w4 (w.heap.size) 23 (ckCells now wait base cap true due) := (Blk.alloc (HB.out) _).belowAll hb4
  have hA : Blk w4 (w1.heap.size) 23 (ckCells now wait base cap true (now + wait)) := (Blk.alloc (HA.out) _).belowAll hb4
  have hS : Blk w4 (w2.heap.size) 23 (ckCells now wait base cap false 0) := (Blk.alloc (HS.out) _).belowAll hb4
  have hT : Blk w4 (w3.heap.size) 23 (ckCells (now + 1) wait base cap false 0) := (Blk.newAt (by simp)).belowAll hb4
  have bw4 : Below w.heap.size w w4 := below_after (by go_grown) (by first | (with_reducible exact Nat.le_refl _) | assumption | omega | (simp; done) | (simp [World.setCell]; omega)) hb4
  have z4 := bw4.size
  have s4 := hb4.size
  try simp [World.setCell] at s4
  clear hb4 bw3
  clear HB cB fB ltB HA cA fA ltA HS cS fS ltS
  have cB := Blk.cell hB
  have fB := Blk.free hB
  have ltB := Blk.lt hB
  have HB := Lib.hid hB
  clear hB
  have cA := Blk.cell hA
  have fA := Blk.free hA
  have ltA := Blk.lt hA
  have HA := Lib.hid hA
  clear hA
  have cS := Blk.cell hS
  have fS := Blk.free hS
  have ltS := Blk.lt hS
  have HS := Lib.hid hS
  clear hS
  have cT := Blk.cell hT
  have fT := Blk.free hT
  have ltT := Blk.lt hT
  have HT := Lib.hid hT
  clear hT
  go_wp2_with fail
  refine (reset_yes_on now wait base cap due _ M.out).mono ?_
  rintro e w5 ⟨rfl, hb5⟩
  have hB : Blk w5 (w.heap.size) 23 (ckCells now wait base cap true due) := (Blk.alloc (HB.out) _).belowAll hb5
  have hA : Blk w5 (w1.heap.size) 23 (ckCells now wait base cap true (now + wait)) := (Blk.alloc (HA.out) _).belowAll hb5
  have hS : Blk w5 (w2.heap.size) 23 (ckCells now wait base cap false 0) := (Blk.alloc (HS.out) _).belowAll hb5
  have hT : Blk w5 (w3.heap.size) 23 (ckCells (now + 1) wait base cap false 0) := (Blk.alloc (HT.out) _).belowAll hb5
  have hD : Blk w5 (w4.heap.size) 23 (ckCells now (less (2 * wait) cap) base cap true due) := (Blk.newAt (by simp)).belowAll hb5
  have bw5 : Below w.heap.size w w5 := below_after (by go_grown) (by first | (with_reducible exact Nat.le_refl _) | assumption | omega | (simp; done) | (simp [World.setCell]; omega)) hb5
  have z5 := bw5.size
  have s5 := hb5.size
  try simp [World.setCell] at s5
  clear hb5 bw4
  clear HB cB fB ltB HA cA fA ltA HS cS fS ltS HT cT fT ltT
  have cB := Blk.cell hB
  have fB := Blk.free hB
  have ltB := Blk.lt hB
  have HB := Lib.hid hB
  clear hB
  have cA := Blk.cell hA
  have fA := Blk.free hA
  have ltA := Blk.lt hA
  have HA := Lib.hid hA
  clear hA
  have cS := Blk.cell hS
  have fS := Blk.free hS
  have ltS := Blk.lt hS
  have HS := Lib.hid hS
  clear hS
  have cT := Blk.cell hT
  have fT := Blk.free hT
  have ltT := Blk.lt hT
  have HT := Lib.hid hT
  clear hT
  have cD := Blk.cell hD
  have fD := Blk.free hD
  have ltD := Blk.lt hD
  have HD := Lib.hid hD
  clear hD
  go_wp2_with fail
  refine (rmay_any now wait base cap true due _ (by omega) (by omega)).mono ?_
  rw [M.out]
  rintro e w6 ⟨rfl, hb6⟩
  have hB : Blk w6 (w.heap.size) 23 (ckCells now wait base cap true due) := (Blk.alloc (Blk.alloc (HB.out) _) _).belowAll hb6
  have hA : Blk w6 (w1.heap.size) 23 (ckCells now wait base cap true (now + wait)) := (Blk.alloc (Blk.alloc (HA.out) _) _).belowAll hb6
  have hS : Blk w6 (w2.heap.size) 23 (ckCells now wait base cap false 0) := (Blk.alloc (Blk.alloc (HS.out) _) _).belowAll hb6
  have hT : Blk w6 (w3.heap.size) 23 (ckCells (now + 1) wait base cap false 0) := (Blk.alloc (Blk.alloc (HT.out) _) _).belowAll hb6
  have hD : Blk w6 (w4.heap.size) 23 (ckCells now (less (2 * wait) cap) base cap true due) := (Blk.alloc (Blk.alloc (HD.out) _) _).belowAll hb6
  have hR : Blk w6 (w5.heap.size) 23 (ckCells now base base cap true (less due (now + base))) := (Blk.alloc (Blk.newAt (by simp)) _).belowAll hb6
  have hN : Blk w6 (w5.heap.size + 1) 23 (ckCells 0 0 0 0 false 0) := (Blk.newAt (by simp)).belowAll hb6
  have bw6 : Below w.heap.size w w6 := below_after (by go_grown) (by first | (with_reducible exact Nat.le_refl _) | assumption | omega | (simp; done) | (simp [World.setCell]; omega)) hb6
  have z6 := bw6.size
  have s6 := hb6.size
  try simp [World.setCell] at s6
  clear hb6 bw5
  clear HB cB fB ltB HA cA fA ltA HS cS fS ltS HT cT fT ltT HD cD fD ltD
  have cB := Blk.cell hB
  have fB := Blk.free hB
  have ltB := Blk.lt hB
  have HB := Lib.hid hB
  clear hB
  have cA := Blk.cell hA
  have fA := Blk.free hA
  have ltA := Blk.lt hA
  have HA := Lib.hid hA
  clear hA
  have cS := Blk.cell hS
  have fS := Blk.free hS
  have ltS := Blk.lt hS
  have HS := Lib.hid hS
  clear hS
  have cT := Blk.cell hT
  have fT := Blk.free hT
  have ltT := Blk.lt hT
  have HT := Lib.hid hT
  clear hT
  have cD := Blk.cell hD
  have fD := Blk.free hD
  have ltD := Blk.lt hD
  have HD := Lib.hid hD
  clear hD
  have cR := Blk.cell hR
  have fR := Blk.free hR
  have ltR := Blk.lt hR
  have HR := Lib.hid hR
  clear hR
  have cN := Blk.cell hN
  have fN := Blk.free hN
  have ltN := Blk.lt hN
  have HN := Lib.hid hN
  clear hN
  go_wp2_with fail
  have hh := held7_first bw6 (HB.out) (HA.out) (HS.out) (HT.out) (HD.out) (HR.out) (HN.out)
  clear HB cB fB ltB HA cA fA ltA HS cS fS ltS HT cT fT ltT HD cD fD ltD HR cR fR ltR HN cN fN ltN bw6
  go_region_held3 (fun w' => Below w.heap.size w w' ∧ (Blk w' (w.heap.size) 23 (ckCells now wait base cap true due) ∧ ∀ i, w'.cell? ⟨w.heap.size, i, none⟩ = (ckCells now wait base cap true due)[i]?) ∧ (Blk w' (w1.heap.size) 23 (ckCells now wait base cap true (now + wait)) ∧ ∀ i, w'.cell? ⟨w1.heap.size, i, none⟩ = (ckCells now wait base cap true (now + wait))[i]?) ∧ (Blk w' (w2.heap.size) 23 (ckCells now wait base cap false 0) ∧ ∀ i, w'.cell? ⟨w2.heap.size, i, none⟩ = (ckCells now wait base cap false 0)[i]?) ∧ (Blk w' (w3.heap.size) 23 (ckCells (now + 1) wait base cap false 0) ∧ ∀ i, w'.cell? ⟨w3.heap.size, i, none⟩ = (ckCells (now + 1) wait base cap false 0)[i]?) ∧ (Blk w' (w4.heap.size) 23 (ckCells now (less (2 * wait) cap) base cap true due) ∧ ∀ i, w'.cell? ⟨w4.heap.size, i, none⟩ = (ckCells now (less (2 * wait) cap) base cap true due)[i]?) ∧ (Blk w' (w5.heap.size) 23 (ckCells now base base cap true (less due (now + base))) ∧ ∀ i, w'.cell? ⟨w5.heap.size, i, none⟩ = (ckCells now base base cap true (less due (now + base)))[i]?) ∧ (Blk w' (w5.heap.size + 1) 23 (ckCells 0 0 0 0 false 0) ∧ ∀ i, w'.cell? ⟨w5.heap.size + 1, i, none⟩ = (ckCells 0 0 0 0 false 0)[i]?))
    (first | exact hh | exact held7_next hq3 ‹_› (Nat.le_refl _) | exact held7_next hq2 ‹_› (Nat.le_refl _) | exact held7_next hq1 ‹_› (Nat.le_refl _) | exact held7_next hq0 ‹_› (Nat.le_refl _))
    (first
      | (go_at_call 19; (with_reducible refine (at_pos now wait base cap true due wait _ (by omega) (by omega) (by omega) (by omega)).mono ?_); rintro e q0 ⟨rfl, hq0⟩)
      | (go_at_call 19; (with_reducible refine (at_zero now wait base cap true due 0 _ (by omega)).mono ?_); rintro e q1 ⟨rfl, hq1⟩)
      | (go_at_call 20; (with_reducible refine (rdouble now wait base cap true due _ HM.out).mono ?_); rintro e q2 ⟨rfl, hq2⟩)
      | (go_at_call 21; (with_reducible refine (rreset_on now wait base cap due _ HM.out).mono ?_); rintro e w7 ⟨rfl, hq3⟩))
  rename_i hfin
  clear hh
  obtain ⟨bw7, ⟨hB, cB⟩, ⟨hA, cA⟩, ⟨hS, cS⟩, ⟨hT, cT⟩, ⟨hD, cD⟩, ⟨hR, cR⟩, ⟨hN, cN⟩⟩ := hfin
  have z7 := bw7.size
  have fB := Blk.free hB
  have ltB := Blk.lt hB
  have HB := Lib.hid hB
  clear hB
  have fA := Blk.free hA
  have ltA := Blk.lt hA
  have HA := Lib.hid hA
  clear hA
  have fS := Blk.free hS
  have ltS := Blk.lt hS
  have HS := Lib.hid hS
  clear hS
  have fT := Blk.free hT
  have ltT := Blk.lt hT
  have HT := Lib.hid hT
  clear hT
  have fD := Blk.free hD
  have ltD := Blk.lt hD
  have HD := Lib.hid hD
  clear hD
  have fR := Blk.free hR
  have ltR := Blk.lt hR
  have HR := Lib.hid hR
  clear hR
  have fN := Blk.free hN
  have ltN := Blk.lt hN
  have HN := Lib.hid hN
  clear hN
  clear HA cA fA ltA
  clear HS cS fS ltS
  clear HD cD fD ltD
  clear HR cR fR ltR
  go_wp2_with fail
  refine (rtick_rings now wait base cap due _ HM.out hl He.out).mono ?_
  rintro e w8 ⟨rfl, hb8⟩
  have hB : Blk w8 (w.heap.size) 23 (ckCells now wait base cap true due) := (HB.out).belowAll hb8
  have hT : Blk w8 (w3.heap.size) 23 (ckCells (now + 1) wait base cap false 0) := (HT.out).belowAll hb8
  have hN : Blk w8 (w5.heap.size + 1) 23 (ckCells 0 0 0 0 false 0) := (HN.out).belowAll hb8
  have bw8 : Below w.heap.size w w8 := below_after (by go_grown) (by first | (with_reducible exact Nat.le_refl _) | assumption | omega | (simp; done) | (simp [World.setCell]; omega)) hb8
  have z8 := bw8.size
  have s8 := hb8.size
  try simp [World.setCell] at s8
  clear hb8 bw7
  clear HB cB fB ltB HT cT fT ltT HN cN fN ltN
  have cB := Blk.cell hB
  have fB := Blk.free hB
  have ltB := Blk.lt hB
  have HB := Lib.hid hB
  clear hB
  have cT := Blk.cell hT
  have fT := Blk.free hT
  have ltT := Blk.lt hT
  have HT := Lib.hid hT
  clear hT
  have cN := Blk.cell hN
  have fN := Blk.free hN
  have ltN := Blk.lt hN
  have HN := Lib.hid hN
  clear hN
  go_wp2_with fail
  refine (awake_true _).mono ?_
  rintro e w9 ⟨rfl, hb9⟩
  have hB : Blk w9 (w.heap.size) 23 (ckCells now wait base cap true due) := (Blk.alloc (HB.out) _).belowAll hb9
  have hT : Blk w9 (w3.heap.size) 23 (ckCells (now + 1) wait base cap false 0) := (Blk.alloc (HT.out) _).belowAll hb9
  have hN : Blk w9 (w5.heap.size + 1) 23 (ckCells 0 0 0 0 false 0) := (Blk.alloc (HN.out) _).belowAll hb9
  have hZ : Blk w9 (w8.heap.size) 23 (ckCells (now + 1) wait base cap false 0) := (Blk.newAt (by simp)).belowAll hb9
  have bw9 : Below w.heap.size w w9 := below_after (by go_grown) (by first | (with_reducible exact Nat.le_refl _) | assumption | omega | (simp; done) | (simp [World.setCell]; omega)) hb9
  have z9 := bw9.size
  have s9 := hb9.size
  try simp [World.setCell] at s9
  clear hb9 bw8
  clear HB cB fB ltB HT cT fT ltT HN cN fN ltN
  have cB := Blk.cell hB
  have fB := Blk.free hB
  have ltB := Blk.lt hB
  have HB := Lib.hid hB
  clear hB
  have cT := Blk.cell hT
  have fT := Blk.free hT
  have ltT := Blk.lt hT
  have HT := Lib.hid hT
  clear hT
  have cN := Blk.cell hN
  have fN := Blk.free hN
  have ltN := Blk.lt hN
  have HN := Lib.hid hN
  clear hN
  have cZ := Blk.cell hZ
  have fZ := Blk.free hZ
  have ltZ := Blk.lt hZ
  have HZ := Lib.hid hZ
  clear hZ
  go_wp2_with fail
  go_ret
  exact ⟨rfl, by go_grown⟩

set_option maxRecDepth 100000 in
set_option maxHeartbeats 4000000 in
theorem does_on (now wait base cap : Int)  (due : Int) (w : World) (hl : now < 1099511627776) (hd : (now + 1 == due) = false) (hm : mayB now wait base cap true due = true) :
    Calls Try.prog 6 #[ck now wait base cap true due] w fun e w' => e = .returned (.bool true) ∧ Below w.heap.size w w' := by
  have M := Lib.hid hm
  clear hm
  have HM := Lib.hid ((may_iff _ _ _ _ _ _).1 M.out)
  obtain ⟨a1, a2, a3, a4, a5, a6, a7, a8⟩ := HM.out
  have a9 : now < due ∧ due ≤ now + wait := by simpa using a8
  obtain ⟨a9, a10⟩ := a9
  clear a8
  have He : now + 1 < due := by simp at hd; omega
  have Hd := Lib.hid hd
  clear hd
  go_enter Try.func6, Try.ntmps6
  go_wp2_with fail
  refine (start_yes now wait base cap true due _ M.out).mono ?_
  rintro e w1 ⟨rfl, hb1⟩
  have hB : Blk w1 (w.heap.size) 23 (ckCells now wait base cap true due) := (Blk.newAt (by simp)).belowAll hb1
  have bw1 : Below w.heap.size w w1 := below_after (by go_grown) (by first | (with_reducible exact Nat.le_refl _) | assumption | omega | (simp; done) | (simp [World.setCell]; omega)) hb1
  have z1 := bw1.size
  have s1 := hb1.size
  try simp [World.setCell] at s1
  clear hb1
  have cB := Blk.cell hB
  have fB := Blk.free hB
  have ltB := Blk.lt hB
  have HB := Lib.hid hB
  clear hB
  go_wp2_with fail
  refine (stop_yes now wait base cap true due _ M.out).mono ?_
  rintro e w2 ⟨rfl, hb2⟩
  have hB : Blk w2 (w.heap.size) 23 (ckCells now wait base cap true due) := (Blk.alloc (HB.out) _).belowAll hb2
  have hA : Blk w2 (w1.heap.size) 23 (ckCells now wait base cap true (now + wait)) := (Blk.newAt (by simp)).belowAll hb2
  have bw2 : Below w.heap.size w w2 := below_after (by go_grown) (by first | (with_reducible exact Nat.le_refl _) | assumption | omega | (simp; done) | (simp [World.setCell]; omega)) hb2
  have z2 := bw2.size
  have s2 := hb2.size
  try simp [World.setCell] at s2
  clear hb2 bw1
  clear HB cB fB ltB
  have cB := Blk.cell hB
  have fB := Blk.free hB
  have ltB := Blk.lt hB
  have HB := Lib.hid hB
  clear hB
  have cA := Blk.cell hA
  have fA := Blk.free hA
  have ltA := Blk.lt hA
  have HA := Lib.hid hA
  clear hA
  go_wp2_with fail
  refine (tick_on now wait base cap due _ M.out hl Hd.out).mono ?_
  rintro e w3 ⟨rfl, hb3⟩
  have hB : Blk w3 (w.heap.size) 23 (ckCells now wait base cap true due) := (Blk.alloc (HB.out) _).belowAll hb3
  have hA : Blk w3 (w1.heap.size) 23 (ckCells now wait base cap true (now + wait)) := (Blk.alloc (HA.out) _).belowAll hb3
  have hS : Blk w3 (w2.heap.size) 23 (ckCells now wait base cap false 0) := (Blk.newAt (by simp)).belowAll hb3
  have bw3 : Below w.heap.size w w3 := below_after (by go_grown) (by first | (with_reducible exact Nat.le_refl _) | assumption | omega | (simp; done) | (simp [World.setCell]; omega)) hb3
  have z3 := bw3.size
  have s3 := hb3.size
  try simp [World.setCell] at s3
  clear hb3 bw2
  clear HB cB fB ltB HA cA fA ltA
  have cB := Blk.cell hB
  have fB := Blk.free hB
  have ltB := Blk.lt hB
  have HB := Lib.hid hB
  clear hB
  have cA := Blk.cell hA
  have fA := Blk.free hA
  have ltA := Blk.lt hA
  have HA := Lib.hid hA
  clear hA
  have cS := Blk.cell hS
  have fS := Blk.free hS
  have ltS := Blk.lt hS
  have HS := Lib.hid hS
  clear hS
  go_wp2_with fail
  refine (double_yes now wait base cap true due _ M.out).mono ?_
  rintro e w4 ⟨rfl, hb4⟩
  have hB : Blk w4 (w.heap.size) 23 (ckCells now wait base cap true due) := (Blk.alloc (HB.out) _).belowAll hb4
  have hA : Blk w4 (w1.heap.size) 23 (ckCells now wait base cap true (now + wait)) := (Blk.alloc (HA.out) _).belowAll hb4
  have hS : Blk w4 (w2.heap.size) 23 (ckCells now wait base cap false 0) := (Blk.alloc (HS.out) _).belowAll hb4
  have hT : Blk w4 (w3.heap.size) 23 (ckCells (now + 1) wait base cap true due) := (Blk.newAt (by simp)).belowAll hb4
  have bw4 : Below w.heap.size w w4 := below_after (by go_grown) (by first | (with_reducible exact Nat.le_refl _) | assumption | omega | (simp; done) | (simp [World.setCell]; omega)) hb4
  have z4 := bw4.size
  have s4 := hb4.size
  try simp [World.setCell] at s4
  clear hb4 bw3
  clear HB cB fB ltB HA cA fA ltA HS cS fS ltS
  have cB := Blk.cell hB
  have fB := Blk.free hB
  have ltB := Blk.lt hB
  have HB := Lib.hid hB
  clear hB
  have cA := Blk.cell hA
  have fA := Blk.free hA
  have ltA := Blk.lt hA
  have HA := Lib.hid hA
  clear hA
  have cS := Blk.cell hS
  have fS := Blk.free hS
  have ltS := Blk.lt hS
  have HS := Lib.hid hS
  clear hS
  have cT := Blk.cell hT
  have fT := Blk.free hT
  have ltT := Blk.lt hT
  have HT := Lib.hid hT
  clear hT
  go_wp2_with fail
  refine (reset_yes_on now wait base cap due _ M.out).mono ?_
  rintro e w5 ⟨rfl, hb5⟩
  have hB : Blk w5 (w.heap.size) 23 (ckCells now wait base cap true due) := (Blk.alloc (HB.out) _).belowAll hb5
  have hA : Blk w5 (w1.heap.size) 23 (ckCells now wait base cap true (now + wait)) := (Blk.alloc (HA.out) _).belowAll hb5
  have hS : Blk w5 (w2.heap.size) 23 (ckCells now wait base cap false 0) := (Blk.alloc (HS.out) _).belowAll hb5
  have hT : Blk w5 (w3.heap.size) 23 (ckCells (now + 1) wait base cap true due) := (Blk.alloc (HT.out) _).belowAll hb5
  have hD : Blk w5 (w4.heap.size) 23 (ckCells now (less (2 * wait) cap) base cap true due) := (Blk.newAt (by simp)).belowAll hb5
  have bw5 : Below w.heap.size w w5 := below_after (by go_grown) (by first | (with_reducible exact Nat.le_refl _) | assumption | omega | (simp; done) | (simp [World.setCell]; omega)) hb5
  have z5 := bw5.size
  have s5 := hb5.size
  try simp [World.setCell] at s5
  clear hb5 bw4
  clear HB cB fB ltB HA cA fA ltA HS cS fS ltS HT cT fT ltT
  have cB := Blk.cell hB
  have fB := Blk.free hB
  have ltB := Blk.lt hB
  have HB := Lib.hid hB
  clear hB
  have cA := Blk.cell hA
  have fA := Blk.free hA
  have ltA := Blk.lt hA
  have HA := Lib.hid hA
  clear hA
  have cS := Blk.cell hS
  have fS := Blk.free hS
  have ltS := Blk.lt hS
  have HS := Lib.hid hS
  clear hS
  have cT := Blk.cell hT
  have fT := Blk.free hT
  have ltT := Blk.lt hT
  have HT := Lib.hid hT
  clear hT
  have cD := Blk.cell hD
  have fD := Blk.free hD
  have ltD := Blk.lt hD
  have HD := Lib.hid hD
  clear hD
  go_wp2_with fail
  refine (rmay_any now wait base cap true due _ (by omega) (by omega)).mono ?_
  rw [M.out]
  rintro e w6 ⟨rfl, hb6⟩
  have hB : Blk w6 (w.heap.size) 23 (ckCells now wait base cap true due) := (Blk.alloc (Blk.alloc (HB.out) _) _).belowAll hb6
  have hA : Blk w6 (w1.heap.size) 23 (ckCells now wait base cap true (now + wait)) := (Blk.alloc (Blk.alloc (HA.out) _) _).belowAll hb6
  have hS : Blk w6 (w2.heap.size) 23 (ckCells now wait base cap false 0) := (Blk.alloc (Blk.alloc (HS.out) _) _).belowAll hb6
  have hT : Blk w6 (w3.heap.size) 23 (ckCells (now + 1) wait base cap true due) := (Blk.alloc (Blk.alloc (HT.out) _) _).belowAll hb6
  have hD : Blk w6 (w4.heap.size) 23 (ckCells now (less (2 * wait) cap) base cap true due) := (Blk.alloc (Blk.alloc (HD.out) _) _).belowAll hb6
  have hR : Blk w6 (w5.heap.size) 23 (ckCells now base base cap true (less due (now + base))) := (Blk.alloc (Blk.newAt (by simp)) _).belowAll hb6
  have hN : Blk w6 (w5.heap.size + 1) 23 (ckCells 0 0 0 0 false 0) := (Blk.newAt (by simp)).belowAll hb6
  have bw6 : Below w.heap.size w w6 := below_after (by go_grown) (by first | (with_reducible exact Nat.le_refl _) | assumption | omega | (simp; done) | (simp [World.setCell]; omega)) hb6
  have z6 := bw6.size
  have s6 := hb6.size
  try simp [World.setCell] at s6
  clear hb6 bw5
  clear HB cB fB ltB HA cA fA ltA HS cS fS ltS HT cT fT ltT HD cD fD ltD
  have cB := Blk.cell hB
  have fB := Blk.free hB
  have ltB := Blk.lt hB
  have HB := Lib.hid hB
  clear hB
  have cA := Blk.cell hA
  have fA := Blk.free hA
  have ltA := Blk.lt hA
  have HA := Lib.hid hA
  clear hA
  have cS := Blk.cell hS
  have fS := Blk.free hS
  have ltS := Blk.lt hS
  have HS := Lib.hid hS
  clear hS
  have cT := Blk.cell hT
  have fT := Blk.free hT
  have ltT := Blk.lt hT
  have HT := Lib.hid hT
  clear hT
  have cD := Blk.cell hD
  have fD := Blk.free hD
  have ltD := Blk.lt hD
  have HD := Lib.hid hD
  clear hD
  have cR := Blk.cell hR
  have fR := Blk.free hR
  have ltR := Blk.lt hR
  have HR := Lib.hid hR
  clear hR
  have cN := Blk.cell hN
  have fN := Blk.free hN
  have ltN := Blk.lt hN
  have HN := Lib.hid hN
  clear hN
  go_wp2_with fail
  have hh := held7_first bw6 (HB.out) (HA.out) (HS.out) (HT.out) (HD.out) (HR.out) (HN.out)
  clear HB cB fB ltB HA cA fA ltA HS cS fS ltS HT cT fT ltT HD cD fD ltD HR cR fR ltR HN cN fN ltN bw6
  go_region_held3 (fun w' => Below w.heap.size w w' ∧ (Blk w' (w.heap.size) 23 (ckCells now wait base cap true due) ∧ ∀ i, w'.cell? ⟨w.heap.size, i, none⟩ = (ckCells now wait base cap true due)[i]?) ∧ (Blk w' (w1.heap.size) 23 (ckCells now wait base cap true (now + wait)) ∧ ∀ i, w'.cell? ⟨w1.heap.size, i, none⟩ = (ckCells now wait base cap true (now + wait))[i]?) ∧ (Blk w' (w2.heap.size) 23 (ckCells now wait base cap false 0) ∧ ∀ i, w'.cell? ⟨w2.heap.size, i, none⟩ = (ckCells now wait base cap false 0)[i]?) ∧ (Blk w' (w3.heap.size) 23 (ckCells (now + 1) wait base cap true due) ∧ ∀ i, w'.cell? ⟨w3.heap.size, i, none⟩ = (ckCells (now + 1) wait base cap true due)[i]?) ∧ (Blk w' (w4.heap.size) 23 (ckCells now (less (2 * wait) cap) base cap true due) ∧ ∀ i, w'.cell? ⟨w4.heap.size, i, none⟩ = (ckCells now (less (2 * wait) cap) base cap true due)[i]?) ∧ (Blk w' (w5.heap.size) 23 (ckCells now base base cap true (less due (now + base))) ∧ ∀ i, w'.cell? ⟨w5.heap.size, i, none⟩ = (ckCells now base base cap true (less due (now + base)))[i]?) ∧ (Blk w' (w5.heap.size + 1) 23 (ckCells 0 0 0 0 false 0) ∧ ∀ i, w'.cell? ⟨w5.heap.size + 1, i, none⟩ = (ckCells 0 0 0 0 false 0)[i]?))
    (first | exact hh | exact held7_next hq3 ‹_› (Nat.le_refl _) | exact held7_next hq2 ‹_› (Nat.le_refl _) | exact held7_next hq1 ‹_› (Nat.le_refl _) | exact held7_next hq0 ‹_› (Nat.le_refl _))
    (first
      | (go_at_call 19; (with_reducible refine (at_pos now wait base cap true due wait _ (by omega) (by omega) (by omega) (by omega)).mono ?_); rintro e q0 ⟨rfl, hq0⟩)
      | (go_at_call 19; (with_reducible refine (at_zero now wait base cap true due 0 _ (by omega)).mono ?_); rintro e q1 ⟨rfl, hq1⟩)
      | (go_at_call 20; (with_reducible refine (rdouble now wait base cap true due _ HM.out).mono ?_); rintro e q2 ⟨rfl, hq2⟩)
      | (go_at_call 21; (with_reducible refine (rreset_on now wait base cap due _ HM.out).mono ?_); rintro e w7 ⟨rfl, hq3⟩))
  rename_i hfin
  clear hh
  obtain ⟨bw7, ⟨hB, cB⟩, ⟨hA, cA⟩, ⟨hS, cS⟩, ⟨hT, cT⟩, ⟨hD, cD⟩, ⟨hR, cR⟩, ⟨hN, cN⟩⟩ := hfin
  have z7 := bw7.size
  have fB := Blk.free hB
  have ltB := Blk.lt hB
  have HB := Lib.hid hB
  clear hB
  have fA := Blk.free hA
  have ltA := Blk.lt hA
  have HA := Lib.hid hA
  clear hA
  have fS := Blk.free hS
  have ltS := Blk.lt hS
  have HS := Lib.hid hS
  clear hS
  have fT := Blk.free hT
  have ltT := Blk.lt hT
  have HT := Lib.hid hT
  clear hT
  have fD := Blk.free hD
  have ltD := Blk.lt hD
  have HD := Lib.hid hD
  clear hD
  have fR := Blk.free hR
  have ltR := Blk.lt hR
  have HR := Lib.hid hR
  clear hR
  have fN := Blk.free hN
  have ltN := Blk.lt hN
  have HN := Lib.hid hN
  clear hN
  clear HA cA fA ltA
  clear HS cS fS ltS
  clear HD cD fD ltD
  clear HR cR fR ltR
  go_wp2_with fail
  refine (rtick_on_due now wait base cap due _ HM.out hl He).mono ?_
  rintro e w8 ⟨rfl, hb8⟩
  have hB : Blk w8 (w.heap.size) 23 (ckCells now wait base cap true due) := (HB.out).belowAll hb8
  have hT : Blk w8 (w3.heap.size) 23 (ckCells (now + 1) wait base cap true due) := (HT.out).belowAll hb8
  have hN : Blk w8 (w5.heap.size + 1) 23 (ckCells 0 0 0 0 false 0) := (HN.out).belowAll hb8
  have bw8 : Below w.heap.size w w8 := below_after (by go_grown) (by first | (with_reducible exact Nat.le_refl _) | assumption | omega | (simp; done) | (simp [World.setCell]; omega)) hb8
  have z8 := bw8.size
  have s8 := hb8.size
  try simp [World.setCell] at s8
  clear hb8 bw7
  clear HB cB fB ltB HT cT fT ltT HN cN fN ltN
  have cB := Blk.cell hB
  have fB := Blk.free hB
  have ltB := Blk.lt hB
  have HB := Lib.hid hB
  clear hB
  have cT := Blk.cell hT
  have fT := Blk.free hT
  have ltT := Blk.lt hT
  have HT := Lib.hid hT
  clear hT
  have cN := Blk.cell hN
  have fN := Blk.free hN
  have ltN := Blk.lt hN
  have HN := Lib.hid hN
  clear hN
  go_wp2_with fail
  refine (awake_true _).mono ?_
  rintro e w9 ⟨rfl, hb9⟩
  have hB : Blk w9 (w.heap.size) 23 (ckCells now wait base cap true due) := (Blk.alloc (HB.out) _).belowAll hb9
  have hT : Blk w9 (w3.heap.size) 23 (ckCells (now + 1) wait base cap true due) := (Blk.alloc (HT.out) _).belowAll hb9
  have hN : Blk w9 (w5.heap.size + 1) 23 (ckCells 0 0 0 0 false 0) := (Blk.alloc (HN.out) _).belowAll hb9
  have hZ : Blk w9 (w8.heap.size) 23 (ckCells (now + 1) wait base cap true due) := (Blk.newAt (by simp)).belowAll hb9
  have bw9 : Below w.heap.size w w9 := below_after (by go_grown) (by first | (with_reducible exact Nat.le_refl _) | assumption | omega | (simp; done) | (simp [World.setCell]; omega)) hb9
  have z9 := bw9.size
  have s9 := hb9.size
  try simp [World.setCell] at s9
  clear hb9 bw8
  clear HB cB fB ltB HT cT fT ltT HN cN fN ltN
  have cB := Blk.cell hB
  have fB := Blk.free hB
  have ltB := Blk.lt hB
  have HB := Lib.hid hB
  clear hB
  have cT := Blk.cell hT
  have fT := Blk.free hT
  have ltT := Blk.lt hT
  have HT := Lib.hid hT
  clear hT
  have cN := Blk.cell hN
  have fN := Blk.free hN
  have ltN := Blk.lt hN
  have HN := Lib.hid hN
  clear hN
  have cZ := Blk.cell hZ
  have fZ := Blk.free hZ
  have ltZ := Blk.lt hZ
  have HZ := Lib.hid hZ
  clear hZ
  go_wp2_with fail
  go_ret
  exact ⟨rfl, by go_grown⟩

set_option maxRecDepth 100000 in
set_option maxHeartbeats 4000000 in
theorem does_last_on (wait base cap : Int)  (due : Int) (w : World)  (hm : mayB 1099511627776 wait base cap true due = true) :
    Calls Try.prog 6 #[ck 1099511627776 wait base cap true due] w fun e w' => e = .returned (.bool true) ∧ Below w.heap.size w w' := by
  have M := Lib.hid hm
  clear hm
  have HM := Lib.hid ((may_iff _ _ _ _ _ _).1 M.out)
  obtain ⟨a1, a2, a3, a4, a5, a6, a7, a8⟩ := HM.out
  have a9 : 1099511627776 < due ∧ due ≤ 1099511627776 + wait := by simpa using a8
  obtain ⟨a9, a10⟩ := a9
  clear a8
  go_enter Try.func6, Try.ntmps6
  go_wp2_with fail
  refine (start_yes 1099511627776 wait base cap true due _ M.out).mono ?_
  rintro e w1 ⟨rfl, hb1⟩
  have hB : Blk w1 (w.heap.size) 23 (ckCells 1099511627776 wait base cap true due) := (Blk.newAt (by simp)).belowAll hb1
  have bw1 : Below w.heap.size w w1 := below_after (by go_grown) (by first | (with_reducible exact Nat.le_refl _) | assumption | omega | (simp; done) | (simp [World.setCell]; omega)) hb1
  have z1 := bw1.size
  have s1 := hb1.size
  try simp [World.setCell] at s1
  clear hb1
  have cB := Blk.cell hB
  have fB := Blk.free hB
  have ltB := Blk.lt hB
  have HB := Lib.hid hB
  clear hB
  go_wp2_with fail
  refine (stop_yes 1099511627776 wait base cap true due _ M.out).mono ?_
  rintro e w2 ⟨rfl, hb2⟩
  have hB : Blk w2 (w.heap.size) 23 (ckCells 1099511627776 wait base cap true due) := (Blk.alloc (HB.out) _).belowAll hb2
  have hA : Blk w2 (w1.heap.size) 23 (ckCells 1099511627776 wait base cap true (1099511627776 + wait)) := (Blk.newAt (by simp)).belowAll hb2
  have bw2 : Below w.heap.size w w2 := below_after (by go_grown) (by first | (with_reducible exact Nat.le_refl _) | assumption | omega | (simp; done) | (simp [World.setCell]; omega)) hb2
  have z2 := bw2.size
  have s2 := hb2.size
  try simp [World.setCell] at s2
  clear hb2 bw1
  clear HB cB fB ltB
  have cB := Blk.cell hB
  have fB := Blk.free hB
  have ltB := Blk.lt hB
  have HB := Lib.hid hB
  clear hB
  have cA := Blk.cell hA
  have fA := Blk.free hA
  have ltA := Blk.lt hA
  have HA := Lib.hid hA
  clear hA
  go_wp2_with fail
  refine (tick_last wait base cap true due _ M.out).mono ?_
  rintro e w3 ⟨rfl, hb3⟩
  have hB : Blk w3 (w.heap.size) 23 (ckCells 1099511627776 wait base cap true due) := (Blk.alloc (HB.out) _).belowAll hb3
  have hA : Blk w3 (w1.heap.size) 23 (ckCells 1099511627776 wait base cap true (1099511627776 + wait)) := (Blk.alloc (HA.out) _).belowAll hb3
  have hS : Blk w3 (w2.heap.size) 23 (ckCells 1099511627776 wait base cap false 0) := (Blk.newAt (by simp)).belowAll hb3
  have bw3 : Below w.heap.size w w3 := below_after (by go_grown) (by first | (with_reducible exact Nat.le_refl _) | assumption | omega | (simp; done) | (simp [World.setCell]; omega)) hb3
  have z3 := bw3.size
  have s3 := hb3.size
  try simp [World.setCell] at s3
  clear hb3 bw2
  clear HB cB fB ltB HA cA fA ltA
  have cB := Blk.cell hB
  have fB := Blk.free hB
  have ltB := Blk.lt hB
  have HB := Lib.hid hB
  clear hB
  have cA := Blk.cell hA
  have fA := Blk.free hA
  have ltA := Blk.lt hA
  have HA := Lib.hid hA
  clear hA
  have cS := Blk.cell hS
  have fS := Blk.free hS
  have ltS := Blk.lt hS
  have HS := Lib.hid hS
  clear hS
  go_wp2_with fail
  refine (double_yes 1099511627776 wait base cap true due _ M.out).mono ?_
  rintro e w4 ⟨rfl, hb4⟩
  have hB : Blk w4 (w.heap.size) 23 (ckCells 1099511627776 wait base cap true due) := (Blk.alloc (HB.out) _).belowAll hb4
  have hA : Blk w4 (w1.heap.size) 23 (ckCells 1099511627776 wait base cap true (1099511627776 + wait)) := (Blk.alloc (HA.out) _).belowAll hb4
  have hS : Blk w4 (w2.heap.size) 23 (ckCells 1099511627776 wait base cap false 0) := (Blk.alloc (HS.out) _).belowAll hb4
  have hT : Blk w4 (w3.heap.size) 23 (ckCells 0 0 0 0 false 0) := (Blk.newAt (by simp)).belowAll hb4
  have bw4 : Below w.heap.size w w4 := below_after (by go_grown) (by first | (with_reducible exact Nat.le_refl _) | assumption | omega | (simp; done) | (simp [World.setCell]; omega)) hb4
  have z4 := bw4.size
  have s4 := hb4.size
  try simp [World.setCell] at s4
  clear hb4 bw3
  clear HB cB fB ltB HA cA fA ltA HS cS fS ltS
  have cB := Blk.cell hB
  have fB := Blk.free hB
  have ltB := Blk.lt hB
  have HB := Lib.hid hB
  clear hB
  have cA := Blk.cell hA
  have fA := Blk.free hA
  have ltA := Blk.lt hA
  have HA := Lib.hid hA
  clear hA
  have cS := Blk.cell hS
  have fS := Blk.free hS
  have ltS := Blk.lt hS
  have HS := Lib.hid hS
  clear hS
  have cT := Blk.cell hT
  have fT := Blk.free hT
  have ltT := Blk.lt hT
  have HT := Lib.hid hT
  clear hT
  go_wp2_with fail
  refine (reset_yes_on 1099511627776 wait base cap due _ M.out).mono ?_
  rintro e w5 ⟨rfl, hb5⟩
  have hB : Blk w5 (w.heap.size) 23 (ckCells 1099511627776 wait base cap true due) := (Blk.alloc (HB.out) _).belowAll hb5
  have hA : Blk w5 (w1.heap.size) 23 (ckCells 1099511627776 wait base cap true (1099511627776 + wait)) := (Blk.alloc (HA.out) _).belowAll hb5
  have hS : Blk w5 (w2.heap.size) 23 (ckCells 1099511627776 wait base cap false 0) := (Blk.alloc (HS.out) _).belowAll hb5
  have hT : Blk w5 (w3.heap.size) 23 (ckCells 0 0 0 0 false 0) := (Blk.alloc (HT.out) _).belowAll hb5
  have hD : Blk w5 (w4.heap.size) 23 (ckCells 1099511627776 (less (2 * wait) cap) base cap true due) := (Blk.newAt (by simp)).belowAll hb5
  have bw5 : Below w.heap.size w w5 := below_after (by go_grown) (by first | (with_reducible exact Nat.le_refl _) | assumption | omega | (simp; done) | (simp [World.setCell]; omega)) hb5
  have z5 := bw5.size
  have s5 := hb5.size
  try simp [World.setCell] at s5
  clear hb5 bw4
  clear HB cB fB ltB HA cA fA ltA HS cS fS ltS HT cT fT ltT
  have cB := Blk.cell hB
  have fB := Blk.free hB
  have ltB := Blk.lt hB
  have HB := Lib.hid hB
  clear hB
  have cA := Blk.cell hA
  have fA := Blk.free hA
  have ltA := Blk.lt hA
  have HA := Lib.hid hA
  clear hA
  have cS := Blk.cell hS
  have fS := Blk.free hS
  have ltS := Blk.lt hS
  have HS := Lib.hid hS
  clear hS
  have cT := Blk.cell hT
  have fT := Blk.free hT
  have ltT := Blk.lt hT
  have HT := Lib.hid hT
  clear hT
  have cD := Blk.cell hD
  have fD := Blk.free hD
  have ltD := Blk.lt hD
  have HD := Lib.hid hD
  clear hD
  go_wp2_with fail
  refine (rmay_any 1099511627776 wait base cap true due _ (by omega) (by omega)).mono ?_
  rw [M.out]
  rintro e w6 ⟨rfl, hb6⟩
  have hB : Blk w6 (w.heap.size) 23 (ckCells 1099511627776 wait base cap true due) := (Blk.alloc (Blk.alloc (HB.out) _) _).belowAll hb6
  have hA : Blk w6 (w1.heap.size) 23 (ckCells 1099511627776 wait base cap true (1099511627776 + wait)) := (Blk.alloc (Blk.alloc (HA.out) _) _).belowAll hb6
  have hS : Blk w6 (w2.heap.size) 23 (ckCells 1099511627776 wait base cap false 0) := (Blk.alloc (Blk.alloc (HS.out) _) _).belowAll hb6
  have hT : Blk w6 (w3.heap.size) 23 (ckCells 0 0 0 0 false 0) := (Blk.alloc (Blk.alloc (HT.out) _) _).belowAll hb6
  have hD : Blk w6 (w4.heap.size) 23 (ckCells 1099511627776 (less (2 * wait) cap) base cap true due) := (Blk.alloc (Blk.alloc (HD.out) _) _).belowAll hb6
  have hR : Blk w6 (w5.heap.size) 23 (ckCells 1099511627776 base base cap true (less due (1099511627776 + base))) := (Blk.alloc (Blk.newAt (by simp)) _).belowAll hb6
  have hN : Blk w6 (w5.heap.size + 1) 23 (ckCells 0 0 0 0 false 0) := (Blk.newAt (by simp)).belowAll hb6
  have bw6 : Below w.heap.size w w6 := below_after (by go_grown) (by first | (with_reducible exact Nat.le_refl _) | assumption | omega | (simp; done) | (simp [World.setCell]; omega)) hb6
  have z6 := bw6.size
  have s6 := hb6.size
  try simp [World.setCell] at s6
  clear hb6 bw5
  clear HB cB fB ltB HA cA fA ltA HS cS fS ltS HT cT fT ltT HD cD fD ltD
  have cB := Blk.cell hB
  have fB := Blk.free hB
  have ltB := Blk.lt hB
  have HB := Lib.hid hB
  clear hB
  have cA := Blk.cell hA
  have fA := Blk.free hA
  have ltA := Blk.lt hA
  have HA := Lib.hid hA
  clear hA
  have cS := Blk.cell hS
  have fS := Blk.free hS
  have ltS := Blk.lt hS
  have HS := Lib.hid hS
  clear hS
  have cT := Blk.cell hT
  have fT := Blk.free hT
  have ltT := Blk.lt hT
  have HT := Lib.hid hT
  clear hT
  have cD := Blk.cell hD
  have fD := Blk.free hD
  have ltD := Blk.lt hD
  have HD := Lib.hid hD
  clear hD
  have cR := Blk.cell hR
  have fR := Blk.free hR
  have ltR := Blk.lt hR
  have HR := Lib.hid hR
  clear hR
  have cN := Blk.cell hN
  have fN := Blk.free hN
  have ltN := Blk.lt hN
  have HN := Lib.hid hN
  clear hN
  go_wp2_with fail
  have hh := held7_first bw6 (HB.out) (HA.out) (HS.out) (HT.out) (HD.out) (HR.out) (HN.out)
  clear HB cB fB ltB HA cA fA ltA HS cS fS ltS HT cT fT ltT HD cD fD ltD HR cR fR ltR HN cN fN ltN bw6
  go_region_held3 (fun w' => Below w.heap.size w w' ∧ (Blk w' (w.heap.size) 23 (ckCells 1099511627776 wait base cap true due) ∧ ∀ i, w'.cell? ⟨w.heap.size, i, none⟩ = (ckCells 1099511627776 wait base cap true due)[i]?) ∧ (Blk w' (w1.heap.size) 23 (ckCells 1099511627776 wait base cap true (1099511627776 + wait)) ∧ ∀ i, w'.cell? ⟨w1.heap.size, i, none⟩ = (ckCells 1099511627776 wait base cap true (1099511627776 + wait))[i]?) ∧ (Blk w' (w2.heap.size) 23 (ckCells 1099511627776 wait base cap false 0) ∧ ∀ i, w'.cell? ⟨w2.heap.size, i, none⟩ = (ckCells 1099511627776 wait base cap false 0)[i]?) ∧ (Blk w' (w3.heap.size) 23 (ckCells 0 0 0 0 false 0) ∧ ∀ i, w'.cell? ⟨w3.heap.size, i, none⟩ = (ckCells 0 0 0 0 false 0)[i]?) ∧ (Blk w' (w4.heap.size) 23 (ckCells 1099511627776 (less (2 * wait) cap) base cap true due) ∧ ∀ i, w'.cell? ⟨w4.heap.size, i, none⟩ = (ckCells 1099511627776 (less (2 * wait) cap) base cap true due)[i]?) ∧ (Blk w' (w5.heap.size) 23 (ckCells 1099511627776 base base cap true (less due (1099511627776 + base))) ∧ ∀ i, w'.cell? ⟨w5.heap.size, i, none⟩ = (ckCells 1099511627776 base base cap true (less due (1099511627776 + base)))[i]?) ∧ (Blk w' (w5.heap.size + 1) 23 (ckCells 0 0 0 0 false 0) ∧ ∀ i, w'.cell? ⟨w5.heap.size + 1, i, none⟩ = (ckCells 0 0 0 0 false 0)[i]?))
    (first | exact hh | exact held7_next hq3 ‹_› (Nat.le_refl _) | exact held7_next hq2 ‹_› (Nat.le_refl _) | exact held7_next hq1 ‹_› (Nat.le_refl _) | exact held7_next hq0 ‹_› (Nat.le_refl _))
    (first
      | (go_at_call 19; (with_reducible refine (at_pos 1099511627776 wait base cap true due wait _ (by omega) (by omega) (by omega) (by omega)).mono ?_); rintro e q0 ⟨rfl, hq0⟩)
      | (go_at_call 19; (with_reducible refine (at_zero 1099511627776 wait base cap true due 0 _ (by omega)).mono ?_); rintro e q1 ⟨rfl, hq1⟩)
      | (go_at_call 20; (with_reducible refine (rdouble 1099511627776 wait base cap true due _ HM.out).mono ?_); rintro e q2 ⟨rfl, hq2⟩)
      | (go_at_call 21; (with_reducible refine (rreset_on 1099511627776 wait base cap due _ HM.out).mono ?_); rintro e w7 ⟨rfl, hq3⟩))
  rename_i hfin
  clear hh
  obtain ⟨bw7, ⟨hB, cB⟩, ⟨hA, cA⟩, ⟨hS, cS⟩, ⟨hT, cT⟩, ⟨hD, cD⟩, ⟨hR, cR⟩, ⟨hN, cN⟩⟩ := hfin
  have z7 := bw7.size
  have fB := Blk.free hB
  have ltB := Blk.lt hB
  have HB := Lib.hid hB
  clear hB
  have fA := Blk.free hA
  have ltA := Blk.lt hA
  have HA := Lib.hid hA
  clear hA
  have fS := Blk.free hS
  have ltS := Blk.lt hS
  have HS := Lib.hid hS
  clear hS
  have fT := Blk.free hT
  have ltT := Blk.lt hT
  have HT := Lib.hid hT
  clear hT
  have fD := Blk.free hD
  have ltD := Blk.lt hD
  have HD := Lib.hid hD
  clear hD
  have fR := Blk.free hR
  have ltR := Blk.lt hR
  have HR := Lib.hid hR
  clear hR
  have fN := Blk.free hN
  have ltN := Blk.lt hN
  have HN := Lib.hid hN
  clear hN
  clear HA cA fA ltA
  clear HS cS fS ltS
  clear HD cD fD ltD
  clear HR cR fR ltR
  go_wp2_with fail
  refine (awake_true _).mono ?_
  rintro e w8 ⟨rfl, hb8⟩
  have hB : Blk w8 (w.heap.size) 23 (ckCells 1099511627776 wait base cap true due) := (HB.out).belowAll hb8
  have hT : Blk w8 (w3.heap.size) 23 (ckCells 0 0 0 0 false 0) := (HT.out).belowAll hb8
  have hN : Blk w8 (w5.heap.size + 1) 23 (ckCells 0 0 0 0 false 0) := (HN.out).belowAll hb8
  have bw8 : Below w.heap.size w w8 := below_after (by go_grown) (by first | (with_reducible exact Nat.le_refl _) | assumption | omega | (simp; done) | (simp [World.setCell]; omega)) hb8
  have z8 := bw8.size
  have s8 := hb8.size
  try simp [World.setCell] at s8
  clear hb8 bw7
  clear HB cB fB ltB HT cT fT ltT HN cN fN ltN
  have cB := Blk.cell hB
  have fB := Blk.free hB
  have ltB := Blk.lt hB
  have HB := Lib.hid hB
  clear hB
  have cT := Blk.cell hT
  have fT := Blk.free hT
  have ltT := Blk.lt hT
  have HT := Lib.hid hT
  clear hT
  have cN := Blk.cell hN
  have fN := Blk.free hN
  have ltN := Blk.lt hN
  have HN := Lib.hid hN
  clear hN
  go_wp2_with fail
  go_ret
  exact ⟨rfl, by go_grown⟩

set_option maxRecDepth 100000 in
set_option maxHeartbeats 4000000 in
theorem does_last_off (wait base cap : Int)   (w : World)  (hm : mayB 1099511627776 wait base cap false 0 = true) :
    Calls Try.prog 6 #[ck 1099511627776 wait base cap false 0] w fun e w' => e = .returned (.bool true) ∧ Below w.heap.size w w' := by
  have M := Lib.hid hm
  clear hm
  have HM := Lib.hid ((may_iff _ _ _ _ _ _).1 M.out)
  obtain ⟨a1, a2, a3, a4, a5, a6, a7, a8⟩ := HM.out
  clear a8
  go_enter Try.func6, Try.ntmps6
  go_wp2_with fail
  refine (start_yes 1099511627776 wait base cap false 0 _ M.out).mono ?_
  rintro e w1 ⟨rfl, hb1⟩
  have hB : Blk w1 (w.heap.size) 23 (ckCells 1099511627776 wait base cap false 0) := (Blk.newAt (by simp)).belowAll hb1
  have bw1 : Below w.heap.size w w1 := below_after (by go_grown) (by first | (with_reducible exact Nat.le_refl _) | assumption | omega | (simp; done) | (simp [World.setCell]; omega)) hb1
  have z1 := bw1.size
  have s1 := hb1.size
  try simp [World.setCell] at s1
  clear hb1
  have cB := Blk.cell hB
  have fB := Blk.free hB
  have ltB := Blk.lt hB
  have HB := Lib.hid hB
  clear hB
  go_wp2_with fail
  refine (stop_yes 1099511627776 wait base cap false 0 _ M.out).mono ?_
  rintro e w2 ⟨rfl, hb2⟩
  have hB : Blk w2 (w.heap.size) 23 (ckCells 1099511627776 wait base cap false 0) := (Blk.alloc (HB.out) _).belowAll hb2
  have hA : Blk w2 (w1.heap.size) 23 (ckCells 1099511627776 wait base cap true (1099511627776 + wait)) := (Blk.newAt (by simp)).belowAll hb2
  have bw2 : Below w.heap.size w w2 := below_after (by go_grown) (by first | (with_reducible exact Nat.le_refl _) | assumption | omega | (simp; done) | (simp [World.setCell]; omega)) hb2
  have z2 := bw2.size
  have s2 := hb2.size
  try simp [World.setCell] at s2
  clear hb2 bw1
  clear HB cB fB ltB
  have cB := Blk.cell hB
  have fB := Blk.free hB
  have ltB := Blk.lt hB
  have HB := Lib.hid hB
  clear hB
  have cA := Blk.cell hA
  have fA := Blk.free hA
  have ltA := Blk.lt hA
  have HA := Lib.hid hA
  clear hA
  go_wp2_with fail
  refine (tick_last wait base cap false 0 _ M.out).mono ?_
  rintro e w3 ⟨rfl, hb3⟩
  have hB : Blk w3 (w.heap.size) 23 (ckCells 1099511627776 wait base cap false 0) := (Blk.alloc (HB.out) _).belowAll hb3
  have hA : Blk w3 (w1.heap.size) 23 (ckCells 1099511627776 wait base cap true (1099511627776 + wait)) := (Blk.alloc (HA.out) _).belowAll hb3
  have hS : Blk w3 (w2.heap.size) 23 (ckCells 1099511627776 wait base cap false 0) := (Blk.newAt (by simp)).belowAll hb3
  have bw3 : Below w.heap.size w w3 := below_after (by go_grown) (by first | (with_reducible exact Nat.le_refl _) | assumption | omega | (simp; done) | (simp [World.setCell]; omega)) hb3
  have z3 := bw3.size
  have s3 := hb3.size
  try simp [World.setCell] at s3
  clear hb3 bw2
  clear HB cB fB ltB HA cA fA ltA
  have cB := Blk.cell hB
  have fB := Blk.free hB
  have ltB := Blk.lt hB
  have HB := Lib.hid hB
  clear hB
  have cA := Blk.cell hA
  have fA := Blk.free hA
  have ltA := Blk.lt hA
  have HA := Lib.hid hA
  clear hA
  have cS := Blk.cell hS
  have fS := Blk.free hS
  have ltS := Blk.lt hS
  have HS := Lib.hid hS
  clear hS
  go_wp2_with fail
  refine (double_yes 1099511627776 wait base cap false 0 _ M.out).mono ?_
  rintro e w4 ⟨rfl, hb4⟩
  have hB : Blk w4 (w.heap.size) 23 (ckCells 1099511627776 wait base cap false 0) := (Blk.alloc (HB.out) _).belowAll hb4
  have hA : Blk w4 (w1.heap.size) 23 (ckCells 1099511627776 wait base cap true (1099511627776 + wait)) := (Blk.alloc (HA.out) _).belowAll hb4
  have hS : Blk w4 (w2.heap.size) 23 (ckCells 1099511627776 wait base cap false 0) := (Blk.alloc (HS.out) _).belowAll hb4
  have hT : Blk w4 (w3.heap.size) 23 (ckCells 0 0 0 0 false 0) := (Blk.newAt (by simp)).belowAll hb4
  have bw4 : Below w.heap.size w w4 := below_after (by go_grown) (by first | (with_reducible exact Nat.le_refl _) | assumption | omega | (simp; done) | (simp [World.setCell]; omega)) hb4
  have z4 := bw4.size
  have s4 := hb4.size
  try simp [World.setCell] at s4
  clear hb4 bw3
  clear HB cB fB ltB HA cA fA ltA HS cS fS ltS
  have cB := Blk.cell hB
  have fB := Blk.free hB
  have ltB := Blk.lt hB
  have HB := Lib.hid hB
  clear hB
  have cA := Blk.cell hA
  have fA := Blk.free hA
  have ltA := Blk.lt hA
  have HA := Lib.hid hA
  clear hA
  have cS := Blk.cell hS
  have fS := Blk.free hS
  have ltS := Blk.lt hS
  have HS := Lib.hid hS
  clear hS
  have cT := Blk.cell hT
  have fT := Blk.free hT
  have ltT := Blk.lt hT
  have HT := Lib.hid hT
  clear hT
  go_wp2_with fail
  refine (reset_yes_off 1099511627776 wait base cap 0 _ M.out).mono ?_
  rintro e w5 ⟨rfl, hb5⟩
  have hB : Blk w5 (w.heap.size) 23 (ckCells 1099511627776 wait base cap false 0) := (Blk.alloc (HB.out) _).belowAll hb5
  have hA : Blk w5 (w1.heap.size) 23 (ckCells 1099511627776 wait base cap true (1099511627776 + wait)) := (Blk.alloc (HA.out) _).belowAll hb5
  have hS : Blk w5 (w2.heap.size) 23 (ckCells 1099511627776 wait base cap false 0) := (Blk.alloc (HS.out) _).belowAll hb5
  have hT : Blk w5 (w3.heap.size) 23 (ckCells 0 0 0 0 false 0) := (Blk.alloc (HT.out) _).belowAll hb5
  have hD : Blk w5 (w4.heap.size) 23 (ckCells 1099511627776 (less (2 * wait) cap) base cap false 0) := (Blk.newAt (by simp)).belowAll hb5
  have bw5 : Below w.heap.size w w5 := below_after (by go_grown) (by first | (with_reducible exact Nat.le_refl _) | assumption | omega | (simp; done) | (simp [World.setCell]; omega)) hb5
  have z5 := bw5.size
  have s5 := hb5.size
  try simp [World.setCell] at s5
  clear hb5 bw4
  clear HB cB fB ltB HA cA fA ltA HS cS fS ltS HT cT fT ltT
  have cB := Blk.cell hB
  have fB := Blk.free hB
  have ltB := Blk.lt hB
  have HB := Lib.hid hB
  clear hB
  have cA := Blk.cell hA
  have fA := Blk.free hA
  have ltA := Blk.lt hA
  have HA := Lib.hid hA
  clear hA
  have cS := Blk.cell hS
  have fS := Blk.free hS
  have ltS := Blk.lt hS
  have HS := Lib.hid hS
  clear hS
  have cT := Blk.cell hT
  have fT := Blk.free hT
  have ltT := Blk.lt hT
  have HT := Lib.hid hT
  clear hT
  have cD := Blk.cell hD
  have fD := Blk.free hD
  have ltD := Blk.lt hD
  have HD := Lib.hid hD
  clear hD
  go_wp2_with fail
  refine (rmay_any 1099511627776 wait base cap false 0 _ (by omega) (by omega)).mono ?_
  rw [M.out]
  rintro e w6 ⟨rfl, hb6⟩
  have hB : Blk w6 (w.heap.size) 23 (ckCells 1099511627776 wait base cap false 0) := (Blk.alloc (Blk.alloc (HB.out) _) _).belowAll hb6
  have hA : Blk w6 (w1.heap.size) 23 (ckCells 1099511627776 wait base cap true (1099511627776 + wait)) := (Blk.alloc (Blk.alloc (HA.out) _) _).belowAll hb6
  have hS : Blk w6 (w2.heap.size) 23 (ckCells 1099511627776 wait base cap false 0) := (Blk.alloc (Blk.alloc (HS.out) _) _).belowAll hb6
  have hT : Blk w6 (w3.heap.size) 23 (ckCells 0 0 0 0 false 0) := (Blk.alloc (Blk.alloc (HT.out) _) _).belowAll hb6
  have hD : Blk w6 (w4.heap.size) 23 (ckCells 1099511627776 (less (2 * wait) cap) base cap false 0) := (Blk.alloc (Blk.alloc (HD.out) _) _).belowAll hb6
  have hR : Blk w6 (w5.heap.size) 23 (ckCells 1099511627776 base base cap false 0) := (Blk.alloc (Blk.newAt (by simp)) _).belowAll hb6
  have hN : Blk w6 (w5.heap.size + 1) 23 (ckCells 0 0 0 0 false 0) := (Blk.newAt (by simp)).belowAll hb6
  have bw6 : Below w.heap.size w w6 := below_after (by go_grown) (by first | (with_reducible exact Nat.le_refl _) | assumption | omega | (simp; done) | (simp [World.setCell]; omega)) hb6
  have z6 := bw6.size
  have s6 := hb6.size
  try simp [World.setCell] at s6
  clear hb6 bw5
  clear HB cB fB ltB HA cA fA ltA HS cS fS ltS HT cT fT ltT HD cD fD ltD
  have cB := Blk.cell hB
  have fB := Blk.free hB
  have ltB := Blk.lt hB
  have HB := Lib.hid hB
  clear hB
  have cA := Blk.cell hA
  have fA := Blk.free hA
  have ltA := Blk.lt hA
  have HA := Lib.hid hA
  clear hA
  have cS := Blk.cell hS
  have fS := Blk.free hS
  have ltS := Blk.lt hS
  have HS := Lib.hid hS
  clear hS
  have cT := Blk.cell hT
  have fT := Blk.free hT
  have ltT := Blk.lt hT
  have HT := Lib.hid hT
  clear hT
  have cD := Blk.cell hD
  have fD := Blk.free hD
  have ltD := Blk.lt hD
  have HD := Lib.hid hD
  clear hD
  have cR := Blk.cell hR
  have fR := Blk.free hR
  have ltR := Blk.lt hR
  have HR := Lib.hid hR
  clear hR
  have cN := Blk.cell hN
  have fN := Blk.free hN
  have ltN := Blk.lt hN
  have HN := Lib.hid hN
  clear hN
  go_wp2_with fail
  have hh := held7_first bw6 (HB.out) (HA.out) (HS.out) (HT.out) (HD.out) (HR.out) (HN.out)
  clear HB cB fB ltB HA cA fA ltA HS cS fS ltS HT cT fT ltT HD cD fD ltD HR cR fR ltR HN cN fN ltN bw6
  go_region_held3 (fun w' => Below w.heap.size w w' ∧ (Blk w' (w.heap.size) 23 (ckCells 1099511627776 wait base cap false 0) ∧ ∀ i, w'.cell? ⟨w.heap.size, i, none⟩ = (ckCells 1099511627776 wait base cap false 0)[i]?) ∧ (Blk w' (w1.heap.size) 23 (ckCells 1099511627776 wait base cap true (1099511627776 + wait)) ∧ ∀ i, w'.cell? ⟨w1.heap.size, i, none⟩ = (ckCells 1099511627776 wait base cap true (1099511627776 + wait))[i]?) ∧ (Blk w' (w2.heap.size) 23 (ckCells 1099511627776 wait base cap false 0) ∧ ∀ i, w'.cell? ⟨w2.heap.size, i, none⟩ = (ckCells 1099511627776 wait base cap false 0)[i]?) ∧ (Blk w' (w3.heap.size) 23 (ckCells 0 0 0 0 false 0) ∧ ∀ i, w'.cell? ⟨w3.heap.size, i, none⟩ = (ckCells 0 0 0 0 false 0)[i]?) ∧ (Blk w' (w4.heap.size) 23 (ckCells 1099511627776 (less (2 * wait) cap) base cap false 0) ∧ ∀ i, w'.cell? ⟨w4.heap.size, i, none⟩ = (ckCells 1099511627776 (less (2 * wait) cap) base cap false 0)[i]?) ∧ (Blk w' (w5.heap.size) 23 (ckCells 1099511627776 base base cap false 0) ∧ ∀ i, w'.cell? ⟨w5.heap.size, i, none⟩ = (ckCells 1099511627776 base base cap false 0)[i]?) ∧ (Blk w' (w5.heap.size + 1) 23 (ckCells 0 0 0 0 false 0) ∧ ∀ i, w'.cell? ⟨w5.heap.size + 1, i, none⟩ = (ckCells 0 0 0 0 false 0)[i]?))
    (first | exact hh | exact held7_next hq3 ‹_› (Nat.le_refl _) | exact held7_next hq2 ‹_› (Nat.le_refl _) | exact held7_next hq1 ‹_› (Nat.le_refl _) | exact held7_next hq0 ‹_› (Nat.le_refl _))
    (first
      | (go_at_call 19; (with_reducible refine (at_pos 1099511627776 wait base cap false 0 wait _ (by omega) (by omega) (by omega) (by omega)).mono ?_); rintro e q0 ⟨rfl, hq0⟩)
      | (go_at_call 19; (with_reducible refine (at_zero 1099511627776 wait base cap false 0 0 _ (by omega)).mono ?_); rintro e q1 ⟨rfl, hq1⟩)
      | (go_at_call 20; (with_reducible refine (rdouble 1099511627776 wait base cap false 0 _ HM.out).mono ?_); rintro e q2 ⟨rfl, hq2⟩)
      | (go_at_call 21; (with_reducible refine (rreset_off 1099511627776 wait base cap 0 _ HM.out).mono ?_); rintro e w7 ⟨rfl, hq3⟩))
  rename_i hfin
  clear hh
  obtain ⟨bw7, ⟨hB, cB⟩, ⟨hA, cA⟩, ⟨hS, cS⟩, ⟨hT, cT⟩, ⟨hD, cD⟩, ⟨hR, cR⟩, ⟨hN, cN⟩⟩ := hfin
  have z7 := bw7.size
  have fB := Blk.free hB
  have ltB := Blk.lt hB
  have HB := Lib.hid hB
  clear hB
  have fA := Blk.free hA
  have ltA := Blk.lt hA
  have HA := Lib.hid hA
  clear hA
  have fS := Blk.free hS
  have ltS := Blk.lt hS
  have HS := Lib.hid hS
  clear hS
  have fT := Blk.free hT
  have ltT := Blk.lt hT
  have HT := Lib.hid hT
  clear hT
  have fD := Blk.free hD
  have ltD := Blk.lt hD
  have HD := Lib.hid hD
  clear hD
  have fR := Blk.free hR
  have ltR := Blk.lt hR
  have HR := Lib.hid hR
  clear hR
  have fN := Blk.free hN
  have ltN := Blk.lt hN
  have HN := Lib.hid hN
  clear hN
  clear HA cA fA ltA
  clear HS cS fS ltS
  clear HD cD fD ltD
  clear HR cR fR ltR
  go_wp2_with fail
  refine (awake_true _).mono ?_
  rintro e w8 ⟨rfl, hb8⟩
  have hB : Blk w8 (w.heap.size) 23 (ckCells 1099511627776 wait base cap false 0) := (HB.out).belowAll hb8
  have hT : Blk w8 (w3.heap.size) 23 (ckCells 0 0 0 0 false 0) := (HT.out).belowAll hb8
  have hN : Blk w8 (w5.heap.size + 1) 23 (ckCells 0 0 0 0 false 0) := (HN.out).belowAll hb8
  have bw8 : Below w.heap.size w w8 := below_after (by go_grown) (by first | (with_reducible exact Nat.le_refl _) | assumption | omega | (simp; done) | (simp [World.setCell]; omega)) hb8
  have z8 := bw8.size
  have s8 := hb8.size
  try simp [World.setCell] at s8
  clear hb8 bw7
  clear HB cB fB ltB HT cT fT ltT HN cN fN ltN
  have cB := Blk.cell hB
  have fB := Blk.free hB
  have ltB := Blk.lt hB
  have HB := Lib.hid hB
  clear hB
  have cT := Blk.cell hT
  have fT := Blk.free hT
  have ltT := Blk.lt hT
  have HT := Lib.hid hT
  clear hT
  have cN := Blk.cell hN
  have fN := Blk.free hN
  have ltN := Blk.lt hN
  have HN := Lib.hid hN
  clear hN
  go_wp2_with fail
  go_ret
  exact ⟨rfl, by go_grown⟩

theorem does_walk (now wait base cap : Int) (on : Bool) (due : Int) (w : World) (h1 : -9223372036854775808 ≤ due) (h2 : due ≤ 9223372036854775807) :
    Calls Try.prog 6 #[ck now wait base cap on due] w fun e w' => e = .returned (.bool true) ∧ Below w.heap.size w w' := by
  cases hm : mayB now wait base cap on due
  · exact does_no now wait base cap on due w h1 h2 hm
  · have HM := (may_iff _ _ _ _ _ _).1 hm
    by_cases hl : now = 1099511627776
    · subst hl
      cases on
      · obtain rfl : due = 0 := by have := HM.d; simpa using this
        exact does_last_off wait base cap w hm
      · exact does_last_on wait base cap due w hm
    · have hl' : now < 1099511627776 := by have := HM.b7; omega
      cases on
      · obtain rfl : due = 0 := by have := HM.d; simpa using this
        exact does_off now wait base cap w hl' hm
      · cases hd : now + 1 == due
        · exact does_on now wait base cap due w hl' hd hm
        · exact does_rings now wait base cap due w hl' hd hm
end Go.Proofs.Ytfpnileacpbocaa