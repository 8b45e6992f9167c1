/-
  What is done with a valid clock behind a pointer, and what each function of the clock's package gives. No condition of its own.
-/
import Derived.Test.YtfpnileacpbocaaClock1
namespace Go.Proofs.Ytfpnileacpbocaa
open Go.RowKit

theorem enter24 (W : World) (A : Array Value) : Sem.run Try.prog (callFunc 24 A) W = .ok (.enter 24 A) W := by kernel_rfl
theorem enter25 (W : World) (A : Array Value) : Sem.run Try.prog (callFunc 25 A) W = .ok (.enter 25 A) W := by kernel_rfl
theorem enter26 (W : World) (A : Array Value) : Sem.run Try.prog (callFunc 26 A) W = .ok (.enter 26 A) W := by kernel_rfl
theorem enter27 (W : World) (A : Array Value) : Sem.run Try.prog (callFunc 27 A) W = .ok (.enter 27 A) W := by kernel_rfl
theorem enter28 (W : World) (A : Array Value) : Sem.run Try.prog (callFunc 28 A) W = .ok (.enter 28 A) W := by kernel_rfl

/-- What a thing that is done makes of a clock behind a pointer: only that block and those of S may turn. -/
def Does (k : Nat) (caps : Array Value) (S : Nat → Prop) (a b : Array Value) (w : World) : Prop :=
  ∀ (p : Nat) (W : World), Below w.heap.size w W → w.heap.size ≤ p → Blk W p 23 a → Calls Try.prog k (#[.pointer (some ⟨p, 0, none⟩)] ++ caps) W fun e w' => e = .returned (.tuple #[]) ∧ Blk w' p 23 b ∧ Sel (fun j => j = p ∨ S j) W w'

theorem start1 (now wait base cap : Int) (on : Bool) (due : Int) (w : World) (hm : May now wait base cap on due) :
    Does 24 #[] (fun _ => False) (ckCells now wait base cap on due) (ckCells now wait base cap true (now + wait)) w := by
  intro b w _ _ hb
  obtain ⟨a1, a2, a3, a4, a5, a6, a7, _⟩ := hm
  have c0 := hb.cell 0
  have c1 := hb.cell 1
  have c4 := hb.cell 4
  have c5 := hb.cell 5
  have f4 := hb.free 4
  have f5 := hb.free 5
  simp only [ckCells, List.getElem?_toArray, List.getElem?_cons_zero, List.getElem?_cons_succ] at c0 c1 c4 c5
  have hb1 := Lib.hid hb
  clear hb
  show Calls Try.prog 24 #[.pointer (some ⟨b, 0, none⟩)] w _
  go_enter Try.func24, Try.ntmps24
  go_wp2
  go_region
  go_end0
  exact ⟨rfl, (Blk.put (Blk.put hb1.out 4 _) 5 _).drew, (((Sel.refl _ w).put b 4 _ (.inl (.inl rfl))).put b 5 _ (.inl (.inl rfl))).drew⟩

theorem stop1 (now wait base cap : Int) (on : Bool) (due : Int) (w : World) :
    Does 28 #[] (fun _ => False) (ckCells now wait base cap on due) (ckCells now wait base cap false 0) w := by
  intro b w _ _ hb
  have c4 := hb.cell 4
  have c5 := hb.cell 5
  have f4 := hb.free 4
  have f5 := hb.free 5
  simp only [ckCells, List.getElem?_toArray, List.getElem?_cons_zero, List.getElem?_cons_succ] at c4 c5
  have hb1 := Lib.hid hb
  clear hb
  show Calls Try.prog 28 #[.pointer (some ⟨b, 0, none⟩)] w _
  go_enter Try.func28, Try.ntmps28
  go_wp2
  go_end0
  exact ⟨rfl, Blk.put (Blk.put hb1.out 4 _) 5 _, ((Sel.refl _ w).put b 4 _ (.inl (.inl rfl))).put b 5 _ (.inl (.inl rfl))⟩

/-- The less of two. -/
def less (a b : Int) : Int := if b < a then b else a

theorem double1 (now wait base cap : Int) (on : Bool) (due : Int) (w : World) (hm : May now wait base cap on due) :
    Does 26 #[] (fun _ => False) (ckCells now wait base cap on due) (ckCells now (less (2 * wait) cap) base cap on due) w := by
  intro b w _ _ hb
  obtain ⟨a1, a2, a3, a4, a5, a6, a7, _⟩ := hm
  have c1 := hb.cell 1
  have c3 := hb.cell 3
  have f1 := hb.free 1
  simp only [ckCells, List.getElem?_toArray, List.getElem?_cons_zero, List.getElem?_cons_succ] at c1 c3
  have hb1 := Lib.hid hb
  clear hb
  show Calls Try.prog 26 #[.pointer (some ⟨b, 0, none⟩)] w _
  go_enter Try.func26, Try.ntmps26
  go_wp2
  go_region
  go_end0
  exact ⟨rfl, (Blk.put hb1.out 1 _).drew, ((Sel.refl _ w).put b 1 _ (.inl (.inl rfl))).drew⟩

theorem reset1_on (now wait base cap due : Int) (w : World) (hm : May now wait base cap true due) :
    Does 27 #[] (fun _ => False) (ckCells now wait base cap true due) (ckCells now base base cap true (less due (now + base))) w := by
  intro b w _ _ hb
  obtain ⟨a1, a2, a3, a4, a5, a6, a7, _⟩ := hm
  have c0 := hb.cell 0
  have c1 := hb.cell 1
  have c2 := hb.cell 2
  have c4 := hb.cell 4
  have c5 := hb.cell 5
  have f1 := hb.free 1
  have f5 := hb.free 5
  simp only [ckCells, List.getElem?_toArray, List.getElem?_cons_zero, List.getElem?_cons_succ] at c0 c1 c2 c4 c5
  have hb1 := Lib.hid hb
  clear hb
  show Calls Try.prog 27 #[.pointer (some ⟨b, 0, none⟩)] w _
  go_enter Try.func27, Try.ntmps27
  go_wp2
  go_region
  go_end0
  exact ⟨rfl, (Blk.put (Blk.put hb1.out 1 _) 5 _).drew, (((Sel.refl _ w).put b 1 _ (.inl (.inl rfl))).put b 5 _ (.inl (.inl rfl))).drew⟩

theorem reset1_off (now wait base cap due : Int) (w : World) :
    Does 27 #[] (fun _ => False) (ckCells now wait base cap false due) (ckCells now base base cap false due) w := by
  intro b w _ _ hb
  have c1 := hb.cell 1
  have c2 := hb.cell 2
  have c4 := hb.cell 4
  have f1 := hb.free 1
  simp only [ckCells, List.getElem?_toArray, List.getElem?_cons_zero, List.getElem?_cons_succ] at c1 c2 c4
  have hb1 := Lib.hid hb
  clear hb
  show Calls Try.prog 27 #[.pointer (some ⟨b, 0, none⟩)] w _
  go_enter Try.func27, Try.ntmps27
  go_wp2
  go_end0
  exact ⟨rfl, Blk.put hb1.out 1 _, (Sel.refl _ w).put b 1 _ (.inl (.inl rfl))⟩

/-- A tick, as it tells whether it rings by a variable behind a pointer. -/
def Ticks (r : Nat) (a b : Array Value) (rings : Bool) : Prop :=
  ∀ (p : Nat) (W : World), r < p → Blk W r 4 #[.bool false] → Blk W p 23 a → Calls Try.prog 25 #[.pointer (some ⟨p, 0, none⟩), .pointer (some ⟨r, 0, none⟩)] W fun e w' => e = .returned (.tuple #[]) ∧ Blk w' p 23 b ∧ Blk w' r 4 #[.bool rings] ∧ Sel (fun j => j = p ∨ j = r) W w'

theorem tick1_rings (r : Nat) (now wait base cap due : Int) (hm : May now wait base cap true due) (hl : now < 1099511627776) (hd : ((now + 1) == due) = true) :
    Ticks r (ckCells now wait base cap true due) (ckCells (now + 1) wait base cap false 0) true := by
  intro b w hlt hr hb
  obtain ⟨a1, a2, a3, a4, a5, a6, a7, _⟩ := hm
  have c0 := hb.cell 0
  have c1 := hb.cell 1
  have c2 := hb.cell 2
  have c4 := hb.cell 4
  have c5 := hb.cell 5
  have d0 := hr.cell 0
  have f0 := hb.free 0
  have f4 := hb.free 4
  have f5 := hb.free 5
  have g0 := hr.free 0
  simp only [ckCells, List.getElem?_toArray, List.getElem?_cons_zero, List.getElem?_cons_succ] at c0 c1 c2 c4 c5 d0
  have hb1 := Lib.hid hb
  clear hb
  have hr1 := Lib.hid hr
  clear hr
  go_enter Try.func25, Try.ntmps25
  go_wp2
  go_quiet (fail)
  go_wp2
  go_end0
  refine ⟨rfl, ?_, ?_, ?_⟩
  · exact Blk.put (Blk.put (Blk.far ((Blk.put hb1.out 0 _).drewN _) (p := ⟨r, 0, none⟩) (by simp; omega) _) 4 _) 5 _
  · exact Blk.far (Blk.far (Blk.put (Blk.drewN (Blk.far hr1.out (p := ⟨b, 0, none⟩) (by simp; omega) _) _) 0 _) (p := ⟨b, 4, none⟩) (by simp; omega) _) (p := ⟨b, 5, none⟩) (by simp; omega) _
  · exact (((((Sel.refl _ w).put b 0 _ (.inl (.inl rfl))).drewN _).put r 0 _ (.inl (.inr rfl))).put b 4 _ (.inl (.inl rfl))).put b 5 _ (.inl (.inl rfl))

theorem tick1_on (r : Nat) (now wait base cap due : Int) (hm : May now wait base cap true due) (hl : now < 1099511627776) (hd : ((now + 1) == due) = false) :
    Ticks r (ckCells now wait base cap true due) (ckCells (now + 1) wait base cap true due) false := by
  intro b w hlt hr hb
  obtain ⟨a1, a2, a3, a4, a5, a6, a7, _⟩ := hm
  have c0 := hb.cell 0
  have c4 := hb.cell 4
  have c5 := hb.cell 5
  have f0 := hb.free 0
  simp only [ckCells, List.getElem?_toArray, List.getElem?_cons_zero, List.getElem?_cons_succ] at c0 c4 c5
  have hb1 := Lib.hid hb
  clear hb
  have hr1 := Lib.hid hr
  clear hr
  go_enter Try.func25, Try.ntmps25
  go_wp2
  go_quiet (fail)
  go_wp2
  go_end0
  refine ⟨rfl, ?_, ?_, ?_⟩
  · exact (Blk.put hb1.out 0 _).drewN _
  · exact Blk.drewN (Blk.far hr1.out (p := ⟨b, 0, none⟩) (by simp; omega) _) _
  · exact ((Sel.refl _ w).put b 0 _ (.inl (.inl rfl))).drewN _

theorem tick1_off (r : Nat) (now wait base cap due : Int) (hm : May now wait base cap false due) (hl : now < 1099511627776) :
    Ticks r (ckCells now wait base cap false due) (ckCells (now + 1) wait base cap false due) false := by
  intro b w hlt hr hb
  obtain ⟨a1, a2, a3, a4, a5, a6, a7, _⟩ := hm
  have c0 := hb.cell 0
  have c4 := hb.cell 4
  have c5 := hb.cell 5
  have f0 := hb.free 0
  simp only [ckCells, List.getElem?_toArray, List.getElem?_cons_zero, List.getElem?_cons_succ] at c0 c4 c5
  have hb1 := Lib.hid hb
  clear hb
  have hr1 := Lib.hid hr
  clear hr
  go_enter Try.func25, Try.ntmps25
  go_wp2
  go_quiet (fail)
  go_wp2
  go_end0
  refine ⟨rfl, ?_, ?_, ?_⟩
  · exact (Blk.put hb1.out 0 _).drewN _
  · exact Blk.drewN (Blk.far hr1.out (p := ⟨b, 0, none⟩) (by simp; omega) _) _
  · exact ((Sel.refl _ w).put b 0 _ (.inl (.inl rfl))).drewN _

/-- A function of the clock that gives a clock and an error's number. -/
theorem with_yes (k : Nat) (caps : Array Value) (S : Nat → Prop) (X : Nat → TypeId → Array Value → Prop) (hk : ∀ (W : World) (A : Array Value), Sem.run Try.prog (callFunc k A) W = .ok (.enter k A) W) (now wait base cap : Int) (on : Bool) (due : Int) (now' wait' base' cap' : Int) (on' : Bool) (due' : Int) (w : World) (hm : mayB now wait base cap on due = true)
    (hS : ∀ j, S j → j < w.heap.size) (hX : ∀ j t cs, X j t cs → j < w.heap.size)
    (hdo : ∀ (W : World), Below w.heap.size w W → Blk W w.heap.size 23 (ckCells now wait base cap on due) → Calls Try.prog k (#[.pointer (some ⟨w.heap.size, 0, none⟩)] ++ caps) W fun e w' => e = .returned (.tuple #[]) ∧ Blk w' w.heap.size 23 (ckCells now' wait' base' cap' on' due') ∧ Sel (fun j => j = w.heap.size ∨ S j) W w' ∧ ∀ j t cs, X j t cs → Blk w' j t cs) :
    Calls Try.prog 23 #[ck now wait base cap on due, .func (.func k) #[] caps] w fun e w' => e = .returned (.tuple #[ck now' wait' base' cap' on' due', .int .i64 0]) ∧ Sel S w w' ∧ ∀ j t cs, X j t cs → Blk w' j t cs := by
  have hdo' := Lib.hid hdo
  clear hdo
  have hm' := Lib.hid hm
  clear hm
  have hS' := Lib.hid hS
  clear hS
  have hX' := Lib.hid hX
  clear hX
  go_enter Try.func23, Try.ntmps23
  go_wp2_with fail
  refine (may_any now wait base cap on due _).mono ?_
  rw [hm'.out]
  rintro e w1 ⟨rfl, hb1⟩
  have hB0 : Blk w1 w.heap.size 23 (ckCells now wait base cap on due) := ((Blk.new w 23 _).alloc _).belowAll hb1
  have hB1 : Blk w1 (w.heap.size + 1) 23 (ckCells 0 0 0 0 false 0) := by
    have := (Blk.new (w.alloc (.cells (ckCells now wait base cap on due) 23)) 23 (ckCells 0 0 0 0 false 0)).belowAll hb1
    simpa using this
  have hbw : Below w.heap.size w w1 := (((Below.refl _ _).alloc (Nat.le_refl _) _).alloc (by simp) _).trans (hb1.mono (by simp; omega))
  clear hb1
  go_wp2_with fail
  refine (hdo'.out _ hbw hB0).mono ?_
  rintro e w2 ⟨rfl, hB2, ho, hx⟩
  have HX := Lib.hid hx
  clear hx
  have hB3 : Blk w2 (w.heap.size + 1) 23 (ckCells 0 0 0 0 false 0) := hB1.sel ho (by
    rintro (h | h)
    · omega
    · have := hS'.out _ h; omega)
  have hs2 : Sel S w w2 := by
    have h1 : Sel (fun j => j = w.heap.size ∨ S j) w w1 := Sel.ofBelow hbw (fun k hk1 hk2 => by omega)
    exact (h1.trans ho).mono (fun j hj hjs => by
      rcases hjs with h | h
      · omega
      · exact h)
  have s2 := hB3.lt
  clear hB0 hB1 hbw ho
  have c0 := hB2.cell 0
  have c1 := hB2.cell 1
  have c2 := hB2.cell 2
  have c3 := hB2.cell 3
  have c4 := hB2.cell 4
  have c5 := hB2.cell 5
  have d0 := hB3.cell 0
  have d1 := hB3.cell 1
  have d2 := hB3.cell 2
  have d3 := hB3.cell 3
  have d4 := hB3.cell 4
  have d5 := hB3.cell 5
  have f0 := hB3.free 0
  have f1 := hB3.free 1
  have f2 := hB3.free 2
  have f3 := hB3.free 3
  have f4 := hB3.free 4
  have f5 := hB3.free 5
  simp only [ckCells, List.getElem?_toArray, List.getElem?_cons_zero, List.getElem?_cons_succ] at c0 c1 c2 c3 c4 c5 d0 d1 d2 d3 d4 d5
  have HB2 := Lib.hid hB2
  have HB3 := Lib.hid hB3
  have HS2 := Lib.hid hs2
  clear hB2 hB3 hs2
  go_wp2_with fail
  refine bodyPost_ret (v := .tuple #[ck now' wait' base' cap' on' due', .int .i64 0]) (by simp [results, Try.results23, go_sem, d0, d1, d2, d3, d4, d5]) rfl ⟨rfl, ?_, fun j t cs hj => ?_⟩
  exact (((((HS2.out.put _ 0 _ (.inr (by omega))).put _ 1 _ (.inr (by omega))).put _ 2 _ (.inr (by omega))).put _ 3 _ (.inr (by omega))).put _ 4 _ (.inr (by omega))).put _ 5 _ (.inr (by omega))
  have hlt := hX'.out j t cs hj
  have hne : j ≠ w.heap.size + 1 := by omega
  exact Blk.far (p := ⟨_, 5, none⟩) (Blk.far (p := ⟨_, 4, none⟩) (Blk.far (p := ⟨_, 3, none⟩) (Blk.far (p := ⟨_, 2, none⟩) (Blk.far (p := ⟨_, 1, none⟩) (Blk.far (p := ⟨_, 0, none⟩) (HX.out j t cs hj) hne _) hne _) hne _) hne _) hne _) hne _

theorem with_no (now wait base cap : Int) (on : Bool) (due : Int) (fv : Value) (w : World) (hm : mayB now wait base cap on due = false) :
    Calls Try.prog 23 #[ck now wait base cap on due, fv] w fun e w' => e = .returned (.tuple #[ck 0 0 0 0 false 0, .int .i64 1]) ∧ Below w.heap.size w w' := by
  have hm' := Lib.hid hm
  clear hm
  go_enter Try.func23, Try.ntmps23
  go_wp2_with fail
  refine (may_any now wait base cap on due _).mono ?_
  rw [hm'.out]
  rintro e w1 ⟨rfl, hb1⟩
  have hB1 : Blk w1 (w.heap.size + 1) 23 (ckCells 0 0 0 0 false 0) := by
    have := (Blk.new (w.alloc (.cells (ckCells now wait base cap on due) 23)) 23 (ckCells 0 0 0 0 false 0)).belowAll hb1
    simpa using this
  have hbw : Below w.heap.size w w1 := (((Below.refl _ _).alloc (Nat.le_refl _) _).alloc (by simp) _).trans (hb1.mono (by simp; omega))
  clear hb1
  have s2 := hB1.lt
  have d0 := hB1.cell 0
  have d1 := hB1.cell 1
  have d2 := hB1.cell 2
  have d3 := hB1.cell 3
  have d4 := hB1.cell 4
  have d5 := hB1.cell 5
  have f0 := hB1.free 0
  have f1 := hB1.free 1
  have f2 := hB1.free 2
  have f3 := hB1.free 3
  have f4 := hB1.free 4
  have f5 := hB1.free 5
  simp only [ckCells, List.getElem?_toArray, List.getElem?_cons_zero, List.getElem?_cons_succ] at d0 d1 d2 d3 d4 d5
  have HB1 := Lib.hid hB1
  have HBW := Lib.hid hbw
  clear hB1 hbw
  go_wp2_with fail
  refine bodyPost_ret (v := .tuple #[ck 0 0 0 0 false 0, .int .i64 1]) (by simp [results, Try.results23, go_sem, d0, d1, d2, d3, d4, d5]) rfl ⟨rfl, ?_⟩
  have hbw := HBW.out
  go_grown
end Go.Proofs.Ytfpnileacpbocaa
