/-
  ClockPlays, walked: whatever is done, one thing behind the other, the two clocks stay alike. No condition of its own.
-/
import Derived.Test.YtfpnileacpbocaaClock5
import Derived.Test.YtfpnileacpbocaaBuild
set_option linter.unusedSimpArgs false
set_option linter.unusedVariables false
namespace Go.Proofs.Ytfpnileacpbocaa.K
open Go.RowKit
attribute [local irreducible] cwp lwp Exit.then Exit.inBlock Exit.noGoto wpQuiet Calls fin At AtQ Again endQ RQ

theorem shape23 : shapeOf Try.prog 23 = some ([.int .i64 0, .int .i64 0, .int .i64 0, .int .i64 0, .bool false, .int .i64 0], [(0, 1), (1, 1), (2, 1), (3, 1), (4, 1), (5, 1)]) := by kernel_rfl
theorem flat23 : flatT Try.prog 23 = some [(0, 0), (1, 0), (2, 0), (3, 0), (4, 1), (5, 0)] := by kernel_rfl
theorem rtick_due (now wait base cap due : Int) (w : World) (hm : May now wait base cap true due) (hn : now < 1099511627776) (hd : now + 1 < due) :
    Calls Try.prog 22 #[ck now wait base cap true due] w fun e w' => e = .returned (.tuple #[ck (now + 1) wait base cap true due, .bool false]) ∧ Below w.heap.size w w' := by
  have h := rtick_on now wait base cap due w hm hn hd
  have e : now + 1 + (due - now - 1) = due := by omega
  rwa [e] at h
theorem may_new {base most : Int} (h : mayB 0 base base most false 0 = true) : May 0 base base most false 0 := (may_iff ..).1 h
theorem may_start {now wait base cap : Int} {on : Bool} {due : Int} (h : May now wait base cap on due) : May now wait base cap true (now + wait) :=
  ⟨h.b1, h.b2, h.b3, h.b4, h.b5, h.b6, h.b7, .inl ⟨rfl, by have := h.b1; have := h.b4; omega, by omega⟩⟩
theorem may_stop {now wait base cap : Int} {on : Bool} {due : Int} (h : May now wait base cap on due) : May now wait base cap false 0 :=
  ⟨h.b1, h.b2, h.b3, h.b4, h.b5, h.b6, h.b7, .inr ⟨rfl, rfl⟩⟩
theorem may_double {now wait base cap : Int} {on : Bool} {due : Int} (h : May now wait base cap on due) : May now (less (2 * wait) cap) base cap on due := by
  obtain ⟨h1, h2, h3, h4, h5, h6, h7, h8⟩ := h
  unfold less
  refine ⟨h1, h2, h3, ?_, ?_, h6, h7, ?_⟩
  · split <;> omega
  · split <;> omega
  · rcases h8 with ⟨a, b, c⟩ | h8
    · exact .inl ⟨a, b, by split <;> omega⟩
    · exact .inr h8
theorem may_reset_on {now wait base cap due : Int} (h : May now wait base cap true due) : May now base base cap true (less due (now + base)) := by
  obtain ⟨h1, h2, h3, h4, h5, h6, h7, h8⟩ := h
  unfold less
  refine ⟨h1, h2, h3, by omega, by omega, h6, h7, .inl ⟨rfl, ?_, ?_⟩⟩
  · rcases h8 with ⟨a, b, c⟩ | ⟨h8, _⟩
    · split <;> omega
    · cases h8
  · split <;> omega
theorem may_reset_off {now wait base cap due : Int} (h : May now wait base cap false due) : May now base base cap false 0 := by
  obtain ⟨h1, h2, h3, h4, h5, h6, h7, h8⟩ := h
  exact ⟨h1, h2, h3, by omega, by omega, h6, h7, .inr ⟨rfl, rfl⟩⟩
theorem may_tick_off {now wait base cap due : Int} (h : May now wait base cap false due) (hl : now < 1099511627776) : May (now + 1) wait base cap false due := by
  obtain ⟨h1, h2, h3, h4, h5, h6, h7, h8⟩ := h
  exact ⟨h1, h2, h3, h4, h5, by omega, by omega, .inr (by rcases h8 with ⟨h, _⟩ | h8; cases h; exact h8)⟩
theorem may_tick_on {now wait base cap due : Int} (h : May now wait base cap true due) (hl : now < 1099511627776) (hd : now + 1 < due) : May (now + 1) wait base cap true due := by
  obtain ⟨h1, h2, h3, h4, h5, h6, h7, h8⟩ := h
  exact ⟨h1, h2, h3, h4, h5, by omega, by omega, .inl (by rcases h8 with ⟨a, b, c⟩ | ⟨h, _⟩; exact ⟨a, by omega, by omega⟩; cases h)⟩
theorem may_tick_rings {now wait base cap due : Int} (h : May now wait base cap true due) (hl : now < 1099511627776) : May (now + 1) wait base cap false 0 := by
  obtain ⟨h1, h2, h3, h4, h5, h6, h7, h8⟩ := h
  exact ⟨h1, h2, h3, h4, h5, by omega, by omega, .inr ⟨rfl, rfl⟩⟩
theorem mayB_of {now wait base cap : Int} {on : Bool} {due : Int} (h : May now wait base cap on due) : mayB now wait base cap on due = true := (may_iff ..).2 h

set_option maxHeartbeats 8000000 in
set_option maxRecDepth 100000 in
theorem plays_walk (base most : Int) (A : Option Addr) (n c : Nat) (w : World) (h1 : -9223372036854775808 ≤ base ∧ base ≤ 9223372036854775807) (h2 : -9223372036854775808 ≤ most ∧ most ≤ 9223372036854775807)
    (hA : 0 < n → ∃ b o, A = some ⟨b, o, none⟩ ∧ b < w.heap.size ∧ ∀ j, j < n → ∃ z : Int, w.cell? ⟨b, o + j, none⟩ = some (.int .u8 z) ∧ 0 ≤ z ∧ z ≤ 255) :
    Calls Try.prog 7 #[.int .i64 base, .int .i64 most, .slice A n c] w fun e w' => e = .returned (.bool true) ∧ Below w.heap.size w w' := by
  refine calls_plain Try.func7 rfl Try.ntmps7 rfl ?_
  cases hm : mayB 0 base base most false 0
  · refine at_seq ?_
    refine at_region ?_
    refine at_do (does_assign rfl) rfl rfl ?_
    refine at_nil ?_
    refine at_then ?_
    refine at_seq ?_
    refine at_region ?_
    refine at_do (does_move rfl) rfl rfl ?_
    refine at_do (does_move rfl) rfl rfl ?_
    refine at_callv (f := 8) (enters_fn (by kernel_rfl) rfl) (fun w ho => new_no _ _ w hm) rfl rfl ?_
    refine at_do (does_move rfl) rfl rfl ?_
    refine at_do (does_extract rfl rfl) rfl rfl ?_
    refine at_do (does_extract rfl rfl) rfl rfl ?_
    refine at_allocagg Try.zeroValue23 rfl fun gz0 => ?_
    refine at_storeagg (i := 0) (by kernel_rfl) rfl rfl rfl rfl rfl ?_
    refine at_do (does_assign rfl) rfl rfl ?_
    refine at_nil ?_
    refine at_then ?_
    refine at_seq ?_
    refine at_seq ?_
    refine at_region ?_
    refine at_do (does_move rfl) rfl rfl ?_
    refine at_do (does_neq rfl rfl) rfl rfl ?_
    refine at_nil ?_
    refine at_then ?_
    refine at_cond_t rfl (decide_eq_true (by decide)) ?_
    refine at_seq ?_
    refine at_region ?_
    refine at_do (does_loadagg (i := 0) (by kernel_rfl) rfl rfl rfl) rfl rfl ?_
    refine at_do (does_build (cs := [.int .i64 0, .int .i64 0, .int .i64 0, .int .i64 0, .bool false, .int .i64 0]) shape23 rfl rfl) rfl rfl ?_
    refine at_do (does_flateql flat23 rfl rfl rfl) rfl rfl ?_
    refine at_do (does_move rfl) rfl rfl ?_
    refine at_know (t := 25) (d := true) rfl (by decide) ?_
    refine at_on rfl rfl ?_
    refine at_callv (f := 13) (enters_fn (by kernel_rfl) rfl) (fun w ho => awake_true w) rfl rfl ?_
    refine at_do (does_pick_true rfl rfl) rfl rfl ?_
    refine at_do (does_assign rfl) rfl rfl ?_
    refine at_nil ?_
    refine at_then ?_
    refine at_ret ?_
    refine at_then_ret ?_
    refine at_ret1 rfl rfl rfl (fun w9 ho9 => ?_)
    rotate_left
    exact ⟨rfl, ho9.plain⟩
  · refine at_seq ?_
    refine at_region ?_
    refine at_do (does_assign rfl) rfl rfl ?_
    refine at_nil ?_
    refine at_then ?_
    refine at_seq ?_
    refine at_region ?_
    refine at_do (does_move rfl) rfl rfl ?_
    refine at_do (does_move rfl) rfl rfl ?_
    refine at_callv (f := 8) (enters_fn (by kernel_rfl) rfl) (fun w ho => new_yes _ _ w hm) rfl rfl ?_
    refine at_do (does_move rfl) rfl rfl ?_
    refine at_do (does_extract rfl rfl) rfl rfl ?_
    refine at_do (does_extract rfl rfl) rfl rfl ?_
    refine at_allocagg Try.zeroValue23 rfl fun gz0 => ?_
    refine at_storeagg (i := 0) (by kernel_rfl) rfl rfl rfl rfl rfl ?_
    refine at_do (does_assign rfl) rfl rfl ?_
    refine at_nil ?_
    refine at_then ?_
    refine at_seq ?_
    refine at_seq ?_
    refine at_region ?_
    refine at_do (does_move rfl) rfl rfl ?_
    refine at_do (does_neq rfl rfl) rfl rfl ?_
    refine at_nil ?_
    refine at_then ?_
    refine at_cond_f rfl (decide_eq_false (by omega)) ?_
    refine at_skip ?_
    refine at_then ?_
    refine at_seq ?_
    refine at_region ?_
    refine at_do (does_move rfl) rfl rfl ?_
    refine at_do (does_move rfl) rfl rfl ?_
    refine at_do (does_move rfl) rfl rfl ?_
    refine at_do (does_build (cs := [.int .i64 0, .int .i64 base, .int .i64 base, .int .i64 most, .bool false, .int .i64 0]) shape23 rfl rfl) rfl rfl ?_
    refine at_allocagg Try.zeroValue23 rfl fun gz1 => ?_
    refine at_storeagg (i := 0) (by kernel_rfl) rfl rfl rfl rfl rfl ?_
    refine at_nil ?_
    refine at_then ?_
    refine at_seq ?_
    refine at_seq ?_
    refine at_region ?_
    refine at_do (does_assign rfl) rfl rfl ?_
    refine at_nil ?_
    refine at_then ?_
    refine at_block ?_
    rotate_left
    refine at_loopH (σ := Nat × Int × Int × Bool × Int) (fun s => May s.2.1 s.2.2.1 base most s.2.2.2.1 s.2.2.2.2 ∧ s.2.1 ≤ s.1 ∧ s.1 ≤ n ∧ s.1 ≤ 200) (fun s => [(2, .slice A n c), (7, .pointer (some ⟨gz0, 0, none⟩)), (9, .pointer (some ⟨gz1, 0, none⟩)), (10, .int .i64 s.1)])
      (fun s => [.blk gz1 23 (ckCells s.2.1 s.2.2.1 base most s.2.2.2.1 s.2.2.2.2), .blk gz0 23 (ckCells s.2.1 s.2.2.1 base most s.2.2.2.1 s.2.2.2.2)]) (fun s => n - s.1) (fun w ho => ⟨(0, 0, base, false, 0), ⟨may_new hm, Int.le_refl _, Nat.zero_le _, Nat.zero_le _⟩, ⟨rfl, rfl, rfl, rfl, trivial⟩, ho⟩) ?_
    rintro ⟨k, now, wait, on, due⟩ ⟨hmay, hk1, hk2, hk3⟩
    simp only at hmay hk1 hk2 hk3
    have q1 := hmay.b6
    have q2 := hmay.b7
    have q3 : 0 < wait := by have := hmay.b1; have := hmay.b4; omega
    have q4 : wait ≤ 1048576 := by have := hmay.b3; have := hmay.b5; omega
    by_cases hkn : k < n ∧ k < 200
    · obtain ⟨b, o, rfl, hb, hz'⟩ := hA (by omega)
      obtain ⟨z, hz, hz0, hz1⟩ := hz' k hkn.1
      have hl : now < 1099511627776 := by omega
      cases on
      · obtain rfl : due = 0 := by
          rcases hmay.d with ⟨h, _⟩ | ⟨_, h⟩
          · cases h
          · exact h
        refine at_seq ?_
        refine at_seq ?_
        refine at_region ?_
        refine at_do (does_move rfl) rfl rfl ?_
        refine at_do (does_move rfl) rfl rfl ?_
        refine at_do (does_len (by kernel_rfl) rfl) rfl rfl ?_
        refine at_do (does_lss rfl rfl) rfl rfl ?_
        refine at_do (does_move rfl) rfl rfl ?_
        refine at_know (t := 36) (d := true) rfl (decide_eq_true (by omega)) ?_
        refine at_on rfl rfl ?_
        refine at_do (does_move rfl) rfl rfl ?_
        refine at_on rfl rfl ?_
        refine at_do (does_lss rfl rfl) rfl rfl ?_
        refine at_do (does_pick_true rfl rfl) rfl rfl ?_
        refine at_nil ?_
        refine at_then ?_
        refine at_cond_t rfl (decide_eq_true (by omega)) ?_
        refine at_skip ?_
        refine at_then ?_
        refine at_seq ?_
        refine at_block ?_
        refine at_seq ?_
        refine at_region ?_
        refine at_do (does_assign rfl) rfl rfl ?_
        refine at_nil ?_
        refine at_then ?_
        refine at_seq ?_
        refine at_region ?_
        refine at_do (does_assign rfl) rfl rfl ?_
        refine at_do (does_assign rfl) rfl rfl ?_
        refine at_nil ?_
        refine at_then ?_
        refine at_seq ?_
        refine at_seq ?_
        refine at_region ?_
        refine at_do (does_move rfl) rfl rfl ?_
        refine at_do (does_move rfl) rfl rfl ?_
        refine at_do (does_indexAddr1 (by kernel_rfl) rfl rfl (by omega)) rfl rfl ?_
        refine at_do (does_load_mem (by kernel_rfl) rfl (fun w' ho => (World.cell?_of_block (ho.orig.old b hb id)).trans hz)) rfl rfl ?_
        refine at_do (does_remi rfl rfl (by omega)) rfl rfl ?_
        refine at_nil ?_
        refine at_then ?_
        refine at_block ?_
        refine at_seq ?_
        refine at_region ?_
        refine at_do (does_eql rfl rfl) rfl rfl ?_
        refine at_do (does_assign rfl) rfl rfl ?_
        refine at_nil ?_
        refine at_then ?_
        refine at_condD rfl (fun z0 => ?_) (fun z0 => ?_)
        refine at_seq ?_
        refine at_region ?_
        refine at_do (does_loadagg (i := 1) (by kernel_rfl) rfl rfl rfl) rfl rfl ?_
        refine at_callv (f := 14) (enters_fn (by kernel_rfl) rfl) (fun w ho => start_yes _ _ _ _ _ _ w (mayB_of hmay)) rfl rfl ?_
        refine at_do (does_move rfl) rfl rfl ?_
        refine at_do (does_extract rfl rfl) rfl rfl ?_
        refine at_do (does_extract rfl rfl) rfl rfl ?_
        refine at_storeagg (i := 1) (by kernel_rfl) rfl rfl rfl rfl rfl ?_
        refine at_do (does_assign rfl) rfl rfl ?_
        refine at_nil ?_
        refine at_then ?_
        refine at_region ?_
        refine at_do (does_loadagg (i := 0) (by kernel_rfl) rfl rfl rfl) rfl rfl ?_
        refine at_do (does_fieldAddr (o := 1) (by kernel_rfl) rfl) rfl rfl ?_
        refine at_do (does_load (i := 0) (by kernel_rfl) rfl rfl rfl) rfl rfl ?_
        refine at_callv (f := 19) (enters_fn (by kernel_rfl) rfl) (fun w ho => at_pos _ _ _ _ _ _ _ w q1 q2 q3 q4) rfl rfl ?_
        refine at_storeagg (i := 0) (by kernel_rfl) rfl rfl rfl rfl rfl ?_
        refine at_nil ?_
        refine at_inb ?_
        refine at_then ?_
        refine at_seq ?_
        refine at_region ?_
        refine at_do (does_loadagg (i := 1) (by kernel_rfl) rfl rfl rfl) rfl rfl ?_
        refine at_do (does_loadagg (i := 0) (by kernel_rfl) rfl rfl rfl) rfl rfl ?_
        refine at_do (does_flatneq flat23 rfl rfl rfl) rfl rfl ?_
        refine at_do (does_move rfl) rfl rfl ?_
        refine at_know (t := 99) (d := false) rfl (by simp) ?_
        refine at_on rfl rfl ?_
        refine at_do (does_move rfl) rfl rfl ?_
        refine at_on rfl rfl ?_
        refine at_do (does_move rfl) rfl rfl ?_
        refine at_on rfl rfl ?_
        refine at_do (does_bneq (by kernel_rfl) rfl rfl) rfl rfl ?_
        refine at_do (does_pick_false rfl rfl) rfl rfl ?_
        refine at_do (does_move rfl) rfl rfl ?_
        refine at_know (t := 104) (d := false) rfl (by decide) ?_
        refine at_on rfl rfl ?_
        refine at_do (does_move rfl) rfl rfl ?_
        refine at_on rfl rfl ?_
        refine at_do (does_neq rfl rfl) rfl rfl ?_
        refine at_do (does_pick_false rfl rfl) rfl rfl ?_
        refine at_do (does_move rfl) rfl rfl ?_
        refine at_know (t := 108) (d := false) rfl (decide_eq_false (by decide)) ?_
        refine at_on rfl rfl ?_
        refine at_do (does_loadagg (i := 1) (by kernel_rfl) rfl rfl rfl) rfl rfl ?_
        refine at_on rfl rfl ?_
        refine at_callv (f := 11) (enters_fn (by kernel_rfl) rfl) (fun w ho => may_any _ _ _ _ _ _ w) rfl rfl ?_
        refine at_on rfl rfl ?_
        refine at_do (does_not rfl) rfl rfl ?_
        refine at_do (does_pick_false rfl rfl) rfl rfl ?_
        refine at_nil ?_
        refine at_then ?_
        refine at_cond_f rfl (by simp [mayB_of (may_start hmay)]) ?_
        refine at_skip ?_
        refine at_inb ?_
        refine at_then ?_
        refine at_region ?_
        refine at_do (does_move rfl) rfl rfl ?_
        refine at_do (does_addi rfl rfl (by omega)) rfl rfl ?_
        refine at_do (does_assign rfl) rfl rfl ?_
        refine at_nil ?_
        refine at_then ?_
        rotate_left
        refine at_seq ?_
        refine at_region ?_
        refine at_do (does_eql rfl rfl) rfl rfl ?_
        refine at_do (does_assign rfl) rfl rfl ?_
        refine at_nil ?_
        refine at_then ?_
        refine at_condD rfl (fun z1 => ?_) (fun z1 => ?_)
        refine at_seq ?_
        refine at_region ?_
        refine at_do (does_loadagg (i := 1) (by kernel_rfl) rfl rfl rfl) rfl rfl ?_
        refine at_callv (f := 18) (enters_fn (by kernel_rfl) rfl) (fun w ho => stop_yes _ _ _ _ _ _ w (mayB_of hmay)) rfl rfl ?_
        refine at_do (does_move rfl) rfl rfl ?_
        refine at_do (does_extract rfl rfl) rfl rfl ?_
        refine at_do (does_extract rfl rfl) rfl rfl ?_
        refine at_storeagg (i := 1) (by kernel_rfl) rfl rfl rfl rfl rfl ?_
        refine at_do (does_assign rfl) rfl rfl ?_
        refine at_nil ?_
        refine at_then ?_
        refine at_region ?_
        refine at_do (does_loadagg (i := 0) (by kernel_rfl) rfl rfl rfl) rfl rfl ?_
        refine at_callv (f := 19) (enters_fn (by kernel_rfl) rfl) (fun w ho => at_zero _ _ _ _ _ _ _ w (by decide)) rfl rfl ?_
        refine at_storeagg (i := 0) (by kernel_rfl) rfl rfl rfl rfl rfl ?_
        refine at_nil ?_
        refine at_inb ?_
        refine at_then ?_
        refine at_seq ?_
        refine at_region ?_
        refine at_do (does_loadagg (i := 1) (by kernel_rfl) rfl rfl rfl) rfl rfl ?_
        refine at_do (does_loadagg (i := 0) (by kernel_rfl) rfl rfl rfl) rfl rfl ?_
        refine at_do (does_flatneq flat23 rfl rfl rfl) rfl rfl ?_
        refine at_do (does_move rfl) rfl rfl ?_
        refine at_know (t := 99) (d := false) rfl (by simp) ?_
        refine at_on rfl rfl ?_
        refine at_do (does_move rfl) rfl rfl ?_
        refine at_on rfl rfl ?_
        refine at_do (does_move rfl) rfl rfl ?_
        refine at_on rfl rfl ?_
        refine at_do (does_bneq (by kernel_rfl) rfl rfl) rfl rfl ?_
        refine at_do (does_pick_false rfl rfl) rfl rfl ?_
        refine at_do (does_move rfl) rfl rfl ?_
        refine at_know (t := 104) (d := false) rfl (by decide) ?_
        refine at_on rfl rfl ?_
        refine at_do (does_move rfl) rfl rfl ?_
        refine at_on rfl rfl ?_
        refine at_do (does_neq rfl rfl) rfl rfl ?_
        refine at_do (does_pick_false rfl rfl) rfl rfl ?_
        refine at_do (does_move rfl) rfl rfl ?_
        refine at_know (t := 108) (d := false) rfl (decide_eq_false (by decide)) ?_
        refine at_on rfl rfl ?_
        refine at_do (does_loadagg (i := 1) (by kernel_rfl) rfl rfl rfl) rfl rfl ?_
        refine at_on rfl rfl ?_
        refine at_callv (f := 11) (enters_fn (by kernel_rfl) rfl) (fun w ho => may_any _ _ _ _ _ _ w) rfl rfl ?_
        refine at_on rfl rfl ?_
        refine at_do (does_not rfl) rfl rfl ?_
        refine at_do (does_pick_false rfl rfl) rfl rfl ?_
        refine at_nil ?_
        refine at_then ?_
        refine at_cond_f rfl (by simp [mayB_of (may_stop hmay)]) ?_
        refine at_skip ?_
        refine at_inb ?_
        refine at_then ?_
        refine at_region ?_
        refine at_do (does_move rfl) rfl rfl ?_
        refine at_do (does_addi rfl rfl (by omega)) rfl rfl ?_
        refine at_do (does_assign rfl) rfl rfl ?_
        refine at_nil ?_
        refine at_then ?_
        rotate_left
        refine at_seq ?_
        refine at_region ?_
        refine at_do (does_eql rfl rfl) rfl rfl ?_
        refine at_do (does_assign rfl) rfl rfl ?_
        refine at_nil ?_
        refine at_then ?_
        refine at_condD rfl (fun z2 => ?_) (fun z2 => ?_)
        refine at_seq ?_
        refine at_region ?_
        refine at_do (does_loadagg (i := 1) (by kernel_rfl) rfl rfl rfl) rfl rfl ?_
        refine at_callv (f := 16) (enters_fn (by kernel_rfl) rfl) (fun w ho => double_yes _ _ _ _ _ _ w (mayB_of hmay)) rfl rfl ?_
        refine at_do (does_move rfl) rfl rfl ?_
        refine at_do (does_extract rfl rfl) rfl rfl ?_
        refine at_do (does_extract rfl rfl) rfl rfl ?_
        refine at_storeagg (i := 1) (by kernel_rfl) rfl rfl rfl rfl rfl ?_
        refine at_do (does_assign rfl) rfl rfl ?_
        refine at_nil ?_
        refine at_then ?_
        refine at_region ?_
        refine at_do (does_loadagg (i := 0) (by kernel_rfl) rfl rfl rfl) rfl rfl ?_
        refine at_callv (f := 20) (enters_fn (by kernel_rfl) rfl) (fun w ho => rdouble _ _ _ _ _ _ w hmay) rfl rfl ?_
        refine at_storeagg (i := 0) (by kernel_rfl) rfl rfl rfl rfl rfl ?_
        refine at_nil ?_
        refine at_inb ?_
        refine at_then ?_
        refine at_seq ?_
        refine at_region ?_
        refine at_do (does_loadagg (i := 1) (by kernel_rfl) rfl rfl rfl) rfl rfl ?_
        refine at_do (does_loadagg (i := 0) (by kernel_rfl) rfl rfl rfl) rfl rfl ?_
        refine at_do (does_flatneq flat23 rfl rfl rfl) rfl rfl ?_
        refine at_do (does_move rfl) rfl rfl ?_
        refine at_know (t := 99) (d := false) rfl (by simp) ?_
        refine at_on rfl rfl ?_
        refine at_do (does_move rfl) rfl rfl ?_
        refine at_on rfl rfl ?_
        refine at_do (does_move rfl) rfl rfl ?_
        refine at_on rfl rfl ?_
        refine at_do (does_bneq (by kernel_rfl) rfl rfl) rfl rfl ?_
        refine at_do (does_pick_false rfl rfl) rfl rfl ?_
        refine at_do (does_move rfl) rfl rfl ?_
        refine at_know (t := 104) (d := false) rfl (by decide) ?_
        refine at_on rfl rfl ?_
        refine at_do (does_move rfl) rfl rfl ?_
        refine at_on rfl rfl ?_
        refine at_do (does_neq rfl rfl) rfl rfl ?_
        refine at_do (does_pick_false rfl rfl) rfl rfl ?_
        refine at_do (does_move rfl) rfl rfl ?_
        refine at_know (t := 108) (d := false) rfl (decide_eq_false (by decide)) ?_
        refine at_on rfl rfl ?_
        refine at_do (does_loadagg (i := 1) (by kernel_rfl) rfl rfl rfl) rfl rfl ?_
        refine at_on rfl rfl ?_
        refine at_callv (f := 11) (enters_fn (by kernel_rfl) rfl) (fun w ho => may_any _ _ _ _ _ _ w) rfl rfl ?_
        refine at_on rfl rfl ?_
        refine at_do (does_not rfl) rfl rfl ?_
        refine at_do (does_pick_false rfl rfl) rfl rfl ?_
        refine at_nil ?_
        refine at_then ?_
        refine at_cond_f rfl (by simp [mayB_of (may_double hmay)]) ?_
        refine at_skip ?_
        refine at_inb ?_
        refine at_then ?_
        refine at_region ?_
        refine at_do (does_move rfl) rfl rfl ?_
        refine at_do (does_addi rfl rfl (by omega)) rfl rfl ?_
        refine at_do (does_assign rfl) rfl rfl ?_
        refine at_nil ?_
        refine at_then ?_
        rotate_left
        refine at_seq ?_
        refine at_region ?_
        refine at_do (does_eql rfl rfl) rfl rfl ?_
        refine at_do (does_assign rfl) rfl rfl ?_
        refine at_nil ?_
        refine at_then ?_
        refine at_condD rfl (fun z3 => ?_) (fun z3 => ?_)
        refine at_seq ?_
        refine at_region ?_
        refine at_do (does_loadagg (i := 1) (by kernel_rfl) rfl rfl rfl) rfl rfl ?_
        refine at_callv (f := 17) (enters_fn (by kernel_rfl) rfl) (fun w ho => reset_yes_off _ _ _ _ _ w (mayB_of hmay)) rfl rfl ?_
        refine at_do (does_move rfl) rfl rfl ?_
        refine at_do (does_extract rfl rfl) rfl rfl ?_
        refine at_do (does_extract rfl rfl) rfl rfl ?_
        refine at_storeagg (i := 1) (by kernel_rfl) rfl rfl rfl rfl rfl ?_
        refine at_do (does_assign rfl) rfl rfl ?_
        refine at_nil ?_
        refine at_then ?_
        refine at_region ?_
        refine at_do (does_loadagg (i := 0) (by kernel_rfl) rfl rfl rfl) rfl rfl ?_
        refine at_callv (f := 21) (enters_fn (by kernel_rfl) rfl) (fun w ho => rreset_off _ _ _ _ _ w hmay) rfl rfl ?_
        refine at_storeagg (i := 0) (by kernel_rfl) rfl rfl rfl rfl rfl ?_
        refine at_nil ?_
        refine at_inb ?_
        refine at_then ?_
        refine at_seq ?_
        refine at_region ?_
        refine at_do (does_loadagg (i := 1) (by kernel_rfl) rfl rfl rfl) rfl rfl ?_
        refine at_do (does_loadagg (i := 0) (by kernel_rfl) rfl rfl rfl) rfl rfl ?_
        refine at_do (does_flatneq flat23 rfl rfl rfl) rfl rfl ?_
        refine at_do (does_move rfl) rfl rfl ?_
        refine at_know (t := 99) (d := false) rfl (by simp) ?_
        refine at_on rfl rfl ?_
        refine at_do (does_move rfl) rfl rfl ?_
        refine at_on rfl rfl ?_
        refine at_do (does_move rfl) rfl rfl ?_
        refine at_on rfl rfl ?_
        refine at_do (does_bneq (by kernel_rfl) rfl rfl) rfl rfl ?_
        refine at_do (does_pick_false rfl rfl) rfl rfl ?_
        refine at_do (does_move rfl) rfl rfl ?_
        refine at_know (t := 104) (d := false) rfl (by decide) ?_
        refine at_on rfl rfl ?_
        refine at_do (does_move rfl) rfl rfl ?_
        refine at_on rfl rfl ?_
        refine at_do (does_neq rfl rfl) rfl rfl ?_
        refine at_do (does_pick_false rfl rfl) rfl rfl ?_
        refine at_do (does_move rfl) rfl rfl ?_
        refine at_know (t := 108) (d := false) rfl (decide_eq_false (by decide)) ?_
        refine at_on rfl rfl ?_
        refine at_do (does_loadagg (i := 1) (by kernel_rfl) rfl rfl rfl) rfl rfl ?_
        refine at_on rfl rfl ?_
        refine at_callv (f := 11) (enters_fn (by kernel_rfl) rfl) (fun w ho => may_any _ _ _ _ _ _ w) rfl rfl ?_
        refine at_on rfl rfl ?_
        refine at_do (does_not rfl) rfl rfl ?_
        refine at_do (does_pick_false rfl rfl) rfl rfl ?_
        refine at_nil ?_
        refine at_then ?_
        refine at_cond_f rfl (by simp [mayB_of (may_reset_off hmay)]) ?_
        refine at_skip ?_
        refine at_inb ?_
        refine at_then ?_
        refine at_region ?_
        refine at_do (does_move rfl) rfl rfl ?_
        refine at_do (does_addi rfl rfl (by omega)) rfl rfl ?_
        refine at_do (does_assign rfl) rfl rfl ?_
        refine at_nil ?_
        refine at_then ?_
        rotate_left
        refine at_seq ?_
        refine at_region ?_
        refine at_do (does_loadagg (i := 1) (by kernel_rfl) rfl rfl rfl) rfl rfl ?_
        refine at_callv (f := 15) (enters_fn (by kernel_rfl) rfl) (fun w ho => tick_off _ _ _ _ _ w (mayB_of hmay) hl) rfl rfl ?_
        refine at_do (does_move rfl) rfl rfl ?_
        refine at_do (does_extract rfl rfl) rfl rfl ?_
        refine at_do (does_extract rfl rfl) rfl rfl ?_
        refine at_do (does_extract rfl rfl) rfl rfl ?_
        refine at_storeagg (i := 1) (by kernel_rfl) rfl rfl rfl rfl rfl ?_
        refine at_do (does_assign rfl) rfl rfl ?_
        refine at_do (does_assign rfl) rfl rfl ?_
        refine at_nil ?_
        refine at_then ?_
        refine at_region ?_
        refine at_do (does_loadagg (i := 0) (by kernel_rfl) rfl rfl rfl) rfl rfl ?_
        refine at_callv (f := 22) (enters_fn (by kernel_rfl) rfl) (fun w ho => rtick_off _ _ _ _ _ w hmay) rfl rfl ?_
        refine at_do (does_move rfl) rfl rfl ?_
        refine at_do (does_extract rfl rfl) rfl rfl ?_
        refine at_do (does_extract rfl rfl) rfl rfl ?_
        refine at_storeagg (i := 0) (by kernel_rfl) rfl rfl rfl rfl rfl ?_
        refine at_do (does_assign rfl) rfl rfl ?_
        refine at_nil ?_
        refine at_inb ?_
        refine at_then ?_
        refine at_seq ?_
        refine at_region ?_
        refine at_do (does_loadagg (i := 1) (by kernel_rfl) rfl rfl rfl) rfl rfl ?_
        refine at_do (does_loadagg (i := 0) (by kernel_rfl) rfl rfl rfl) rfl rfl ?_
        refine at_do (does_flatneq flat23 rfl rfl rfl) rfl rfl ?_
        refine at_do (does_move rfl) rfl rfl ?_
        refine at_know (t := 99) (d := false) rfl (by simp) ?_
        refine at_on rfl rfl ?_
        refine at_do (does_move rfl) rfl rfl ?_
        refine at_on rfl rfl ?_
        refine at_do (does_move rfl) rfl rfl ?_
        refine at_on rfl rfl ?_
        refine at_do (does_bneq (by kernel_rfl) rfl rfl) rfl rfl ?_
        refine at_do (does_pick_false rfl rfl) rfl rfl ?_
        refine at_do (does_move rfl) rfl rfl ?_
        refine at_know (t := 104) (d := false) rfl (by decide) ?_
        refine at_on rfl rfl ?_
        refine at_do (does_move rfl) rfl rfl ?_
        refine at_on rfl rfl ?_
        refine at_do (does_neq rfl rfl) rfl rfl ?_
        refine at_do (does_pick_false rfl rfl) rfl rfl ?_
        refine at_do (does_move rfl) rfl rfl ?_
        refine at_know (t := 108) (d := false) rfl (decide_eq_false (by decide)) ?_
        refine at_on rfl rfl ?_
        refine at_do (does_loadagg (i := 1) (by kernel_rfl) rfl rfl rfl) rfl rfl ?_
        refine at_on rfl rfl ?_
        refine at_callv (f := 11) (enters_fn (by kernel_rfl) rfl) (fun w ho => may_any _ _ _ _ _ _ w) rfl rfl ?_
        refine at_on rfl rfl ?_
        refine at_do (does_not rfl) rfl rfl ?_
        refine at_do (does_pick_false rfl rfl) rfl rfl ?_
        refine at_nil ?_
        refine at_then ?_
        refine at_cond_f rfl (by simp [mayB_of (may_tick_off hmay hl)]) ?_
        refine at_skip ?_
        refine at_inb ?_
        refine at_then ?_
        refine at_region ?_
        refine at_do (does_move rfl) rfl rfl ?_
        refine at_do (does_addi rfl rfl (by omega)) rfl rfl ?_
        refine at_do (does_assign rfl) rfl rfl ?_
        refine at_nil ?_
        refine at_then ?_
        rotate_left
        · exact at_againw fun w ho => ⟨(k + 1, now, wait, true, now + wait), ⟨may_start hmay, by show now ≤ ((k + 1 : Nat) : Int); omega, hkn.1, hkn.2⟩, by show n - (k + 1) < n - k; omega, ⟨rfl, rfl, rfl, rfl, trivial⟩, rfl, ho⟩
        · exact at_againw fun w ho => ⟨(k + 1, now, wait, false, 0), ⟨may_stop hmay, by show now ≤ ((k + 1 : Nat) : Int); omega, hkn.1, hkn.2⟩, by show n - (k + 1) < n - k; omega, ⟨rfl, rfl, rfl, rfl, trivial⟩, rfl, ho⟩
        · exact at_againw fun w ho => ⟨(k + 1, now, less (2 * wait) most, false, 0), ⟨may_double hmay, by show now ≤ ((k + 1 : Nat) : Int); omega, hkn.1, hkn.2⟩, by show n - (k + 1) < n - k; omega, ⟨rfl, rfl, rfl, rfl, trivial⟩, rfl, ho⟩
        · exact at_againw fun w ho => ⟨(k + 1, now, base, false, 0), ⟨may_reset_off hmay, by show now ≤ ((k + 1 : Nat) : Int); omega, hkn.1, hkn.2⟩, by show n - (k + 1) < n - k; omega, ⟨rfl, rfl, rfl, rfl, trivial⟩, rfl, ho⟩
        · exact at_againw fun w ho => ⟨(k + 1, now + 1, wait, false, 0), ⟨may_tick_off hmay hl, by show now + 1 ≤ ((k + 1 : Nat) : Int); omega, hkn.1, hkn.2⟩, by show n - (k + 1) < n - k; omega, ⟨rfl, rfl, rfl, rfl, trivial⟩, rfl, ho⟩
      · by_cases hd1 : due = now + 1
        · subst hd1
          refine at_seq ?_
          refine at_seq ?_
          refine at_region ?_
          refine at_do (does_move rfl) rfl rfl ?_
          refine at_do (does_move rfl) rfl rfl ?_
          refine at_do (does_len (by kernel_rfl) rfl) rfl rfl ?_
          refine at_do (does_lss rfl rfl) rfl rfl ?_
          refine at_do (does_move rfl) rfl rfl ?_
          refine at_know (t := 36) (d := true) rfl (decide_eq_true (by omega)) ?_
          refine at_on rfl rfl ?_
          refine at_do (does_move rfl) rfl rfl ?_
          refine at_on rfl rfl ?_
          refine at_do (does_lss rfl rfl) rfl rfl ?_
          refine at_do (does_pick_true rfl rfl) rfl rfl ?_
          refine at_nil ?_
          refine at_then ?_
          refine at_cond_t rfl (decide_eq_true (by omega)) ?_
          refine at_skip ?_
          refine at_then ?_
          refine at_seq ?_
          refine at_block ?_
          refine at_seq ?_
          refine at_region ?_
          refine at_do (does_assign rfl) rfl rfl ?_
          refine at_nil ?_
          refine at_then ?_
          refine at_seq ?_
          refine at_region ?_
          refine at_do (does_assign rfl) rfl rfl ?_
          refine at_do (does_assign rfl) rfl rfl ?_
          refine at_nil ?_
          refine at_then ?_
          refine at_seq ?_
          refine at_seq ?_
          refine at_region ?_
          refine at_do (does_move rfl) rfl rfl ?_
          refine at_do (does_move rfl) rfl rfl ?_
          refine at_do (does_indexAddr1 (by kernel_rfl) rfl rfl (by omega)) rfl rfl ?_
          refine at_do (does_load_mem (by kernel_rfl) rfl (fun w' ho => (World.cell?_of_block (ho.orig.old b hb id)).trans hz)) rfl rfl ?_
          refine at_do (does_remi rfl rfl (by omega)) rfl rfl ?_
          refine at_nil ?_
          refine at_then ?_
          refine at_block ?_
          refine at_seq ?_
          refine at_region ?_
          refine at_do (does_eql rfl rfl) rfl rfl ?_
          refine at_do (does_assign rfl) rfl rfl ?_
          refine at_nil ?_
          refine at_then ?_
          refine at_condD rfl (fun z0 => ?_) (fun z0 => ?_)
          refine at_seq ?_
          refine at_region ?_
          refine at_do (does_loadagg (i := 1) (by kernel_rfl) rfl rfl rfl) rfl rfl ?_
          refine at_callv (f := 14) (enters_fn (by kernel_rfl) rfl) (fun w ho => start_yes _ _ _ _ _ _ w (mayB_of hmay)) rfl rfl ?_
          refine at_do (does_move rfl) rfl rfl ?_
          refine at_do (does_extract rfl rfl) rfl rfl ?_
          refine at_do (does_extract rfl rfl) rfl rfl ?_
          refine at_storeagg (i := 1) (by kernel_rfl) rfl rfl rfl rfl rfl ?_
          refine at_do (does_assign rfl) rfl rfl ?_
          refine at_nil ?_
          refine at_then ?_
          refine at_region ?_
          refine at_do (does_loadagg (i := 0) (by kernel_rfl) rfl rfl rfl) rfl rfl ?_
          refine at_do (does_fieldAddr (o := 1) (by kernel_rfl) rfl) rfl rfl ?_
          refine at_do (does_load (i := 0) (by kernel_rfl) rfl rfl rfl) rfl rfl ?_
          refine at_callv (f := 19) (enters_fn (by kernel_rfl) rfl) (fun w ho => at_pos _ _ _ _ _ _ _ w q1 q2 q3 q4) rfl rfl ?_
          refine at_storeagg (i := 0) (by kernel_rfl) rfl rfl rfl rfl rfl ?_
          refine at_nil ?_
          refine at_inb ?_
          refine at_then ?_
          refine at_seq ?_
          refine at_region ?_
          refine at_do (does_loadagg (i := 1) (by kernel_rfl) rfl rfl rfl) rfl rfl ?_
          refine at_do (does_loadagg (i := 0) (by kernel_rfl) rfl rfl rfl) rfl rfl ?_
          refine at_do (does_flatneq flat23 rfl rfl rfl) rfl rfl ?_
          refine at_do (does_move rfl) rfl rfl ?_
          refine at_know (t := 99) (d := false) rfl (by simp) ?_
          refine at_on rfl rfl ?_
          refine at_do (does_move rfl) rfl rfl ?_
          refine at_on rfl rfl ?_
          refine at_do (does_move rfl) rfl rfl ?_
          refine at_on rfl rfl ?_
          refine at_do (does_bneq (by kernel_rfl) rfl rfl) rfl rfl ?_
          refine at_do (does_pick_false rfl rfl) rfl rfl ?_
          refine at_do (does_move rfl) rfl rfl ?_
          refine at_know (t := 104) (d := false) rfl (by decide) ?_
          refine at_on rfl rfl ?_
          refine at_do (does_move rfl) rfl rfl ?_
          refine at_on rfl rfl ?_
          refine at_do (does_neq rfl rfl) rfl rfl ?_
          refine at_do (does_pick_false rfl rfl) rfl rfl ?_
          refine at_do (does_move rfl) rfl rfl ?_
          refine at_know (t := 108) (d := false) rfl (decide_eq_false (by decide)) ?_
          refine at_on rfl rfl ?_
          refine at_do (does_loadagg (i := 1) (by kernel_rfl) rfl rfl rfl) rfl rfl ?_
          refine at_on rfl rfl ?_
          refine at_callv (f := 11) (enters_fn (by kernel_rfl) rfl) (fun w ho => may_any _ _ _ _ _ _ w) rfl rfl ?_
          refine at_on rfl rfl ?_
          refine at_do (does_not rfl) rfl rfl ?_
          refine at_do (does_pick_false rfl rfl) rfl rfl ?_
          refine at_nil ?_
          refine at_then ?_
          refine at_cond_f rfl (by simp [mayB_of (may_start hmay)]) ?_
          refine at_skip ?_
          refine at_inb ?_
          refine at_then ?_
          refine at_region ?_
          refine at_do (does_move rfl) rfl rfl ?_
          refine at_do (does_addi rfl rfl (by omega)) rfl rfl ?_
          refine at_do (does_assign rfl) rfl rfl ?_
          refine at_nil ?_
          refine at_then ?_
          rotate_left
          refine at_seq ?_
          refine at_region ?_
          refine at_do (does_eql rfl rfl) rfl rfl ?_
          refine at_do (does_assign rfl) rfl rfl ?_
          refine at_nil ?_
          refine at_then ?_
          refine at_condD rfl (fun z1 => ?_) (fun z1 => ?_)
          refine at_seq ?_
          refine at_region ?_
          refine at_do (does_loadagg (i := 1) (by kernel_rfl) rfl rfl rfl) rfl rfl ?_
          refine at_callv (f := 18) (enters_fn (by kernel_rfl) rfl) (fun w ho => stop_yes _ _ _ _ _ _ w (mayB_of hmay)) rfl rfl ?_
          refine at_do (does_move rfl) rfl rfl ?_
          refine at_do (does_extract rfl rfl) rfl rfl ?_
          refine at_do (does_extract rfl rfl) rfl rfl ?_
          refine at_storeagg (i := 1) (by kernel_rfl) rfl rfl rfl rfl rfl ?_
          refine at_do (does_assign rfl) rfl rfl ?_
          refine at_nil ?_
          refine at_then ?_
          refine at_region ?_
          refine at_do (does_loadagg (i := 0) (by kernel_rfl) rfl rfl rfl) rfl rfl ?_
          refine at_callv (f := 19) (enters_fn (by kernel_rfl) rfl) (fun w ho => at_zero _ _ _ _ _ _ _ w (by decide)) rfl rfl ?_
          refine at_storeagg (i := 0) (by kernel_rfl) rfl rfl rfl rfl rfl ?_
          refine at_nil ?_
          refine at_inb ?_
          refine at_then ?_
          refine at_seq ?_
          refine at_region ?_
          refine at_do (does_loadagg (i := 1) (by kernel_rfl) rfl rfl rfl) rfl rfl ?_
          refine at_do (does_loadagg (i := 0) (by kernel_rfl) rfl rfl rfl) rfl rfl ?_
          refine at_do (does_flatneq flat23 rfl rfl rfl) rfl rfl ?_
          refine at_do (does_move rfl) rfl rfl ?_
          refine at_know (t := 99) (d := false) rfl (by simp) ?_
          refine at_on rfl rfl ?_
          refine at_do (does_move rfl) rfl rfl ?_
          refine at_on rfl rfl ?_
          refine at_do (does_move rfl) rfl rfl ?_
          refine at_on rfl rfl ?_
          refine at_do (does_bneq (by kernel_rfl) rfl rfl) rfl rfl ?_
          refine at_do (does_pick_false rfl rfl) rfl rfl ?_
          refine at_do (does_move rfl) rfl rfl ?_
          refine at_know (t := 104) (d := false) rfl (by decide) ?_
          refine at_on rfl rfl ?_
          refine at_do (does_move rfl) rfl rfl ?_
          refine at_on rfl rfl ?_
          refine at_do (does_neq rfl rfl) rfl rfl ?_
          refine at_do (does_pick_false rfl rfl) rfl rfl ?_
          refine at_do (does_move rfl) rfl rfl ?_
          refine at_know (t := 108) (d := false) rfl (decide_eq_false (by decide)) ?_
          refine at_on rfl rfl ?_
          refine at_do (does_loadagg (i := 1) (by kernel_rfl) rfl rfl rfl) rfl rfl ?_
          refine at_on rfl rfl ?_
          refine at_callv (f := 11) (enters_fn (by kernel_rfl) rfl) (fun w ho => may_any _ _ _ _ _ _ w) rfl rfl ?_
          refine at_on rfl rfl ?_
          refine at_do (does_not rfl) rfl rfl ?_
          refine at_do (does_pick_false rfl rfl) rfl rfl ?_
          refine at_nil ?_
          refine at_then ?_
          refine at_cond_f rfl (by simp [mayB_of (may_stop hmay)]) ?_
          refine at_skip ?_
          refine at_inb ?_
          refine at_then ?_
          refine at_region ?_
          refine at_do (does_move rfl) rfl rfl ?_
          refine at_do (does_addi rfl rfl (by omega)) rfl rfl ?_
          refine at_do (does_assign rfl) rfl rfl ?_
          refine at_nil ?_
          refine at_then ?_
          rotate_left
          refine at_seq ?_
          refine at_region ?_
          refine at_do (does_eql rfl rfl) rfl rfl ?_
          refine at_do (does_assign rfl) rfl rfl ?_
          refine at_nil ?_
          refine at_then ?_
          refine at_condD rfl (fun z2 => ?_) (fun z2 => ?_)
          refine at_seq ?_
          refine at_region ?_
          refine at_do (does_loadagg (i := 1) (by kernel_rfl) rfl rfl rfl) rfl rfl ?_
          refine at_callv (f := 16) (enters_fn (by kernel_rfl) rfl) (fun w ho => double_yes _ _ _ _ _ _ w (mayB_of hmay)) rfl rfl ?_
          refine at_do (does_move rfl) rfl rfl ?_
          refine at_do (does_extract rfl rfl) rfl rfl ?_
          refine at_do (does_extract rfl rfl) rfl rfl ?_
          refine at_storeagg (i := 1) (by kernel_rfl) rfl rfl rfl rfl rfl ?_
          refine at_do (does_assign rfl) rfl rfl ?_
          refine at_nil ?_
          refine at_then ?_
          refine at_region ?_
          refine at_do (does_loadagg (i := 0) (by kernel_rfl) rfl rfl rfl) rfl rfl ?_
          refine at_callv (f := 20) (enters_fn (by kernel_rfl) rfl) (fun w ho => rdouble _ _ _ _ _ _ w hmay) rfl rfl ?_
          refine at_storeagg (i := 0) (by kernel_rfl) rfl rfl rfl rfl rfl ?_
          refine at_nil ?_
          refine at_inb ?_
          refine at_then ?_
          refine at_seq ?_
          refine at_region ?_
          refine at_do (does_loadagg (i := 1) (by kernel_rfl) rfl rfl rfl) rfl rfl ?_
          refine at_do (does_loadagg (i := 0) (by kernel_rfl) rfl rfl rfl) rfl rfl ?_
          refine at_do (does_flatneq flat23 rfl rfl rfl) rfl rfl ?_
          refine at_do (does_move rfl) rfl rfl ?_
          refine at_know (t := 99) (d := false) rfl (by simp) ?_
          refine at_on rfl rfl ?_
          refine at_do (does_move rfl) rfl rfl ?_
          refine at_on rfl rfl ?_
          refine at_do (does_move rfl) rfl rfl ?_
          refine at_on rfl rfl ?_
          refine at_do (does_bneq (by kernel_rfl) rfl rfl) rfl rfl ?_
          refine at_do (does_pick_false rfl rfl) rfl rfl ?_
          refine at_do (does_move rfl) rfl rfl ?_
          refine at_know (t := 104) (d := false) rfl (by decide) ?_
          refine at_on rfl rfl ?_
          refine at_do (does_move rfl) rfl rfl ?_
          refine at_on rfl rfl ?_
          refine at_do (does_neq rfl rfl) rfl rfl ?_
          refine at_do (does_pick_false rfl rfl) rfl rfl ?_
          refine at_do (does_move rfl) rfl rfl ?_
          refine at_know (t := 108) (d := false) rfl (decide_eq_false (by decide)) ?_
          refine at_on rfl rfl ?_
          refine at_do (does_loadagg (i := 1) (by kernel_rfl) rfl rfl rfl) rfl rfl ?_
          refine at_on rfl rfl ?_
          refine at_callv (f := 11) (enters_fn (by kernel_rfl) rfl) (fun w ho => may_any _ _ _ _ _ _ w) rfl rfl ?_
          refine at_on rfl rfl ?_
          refine at_do (does_not rfl) rfl rfl ?_
          refine at_do (does_pick_false rfl rfl) rfl rfl ?_
          refine at_nil ?_
          refine at_then ?_
          refine at_cond_f rfl (by simp [mayB_of (may_double hmay)]) ?_
          refine at_skip ?_
          refine at_inb ?_
          refine at_then ?_
          refine at_region ?_
          refine at_do (does_move rfl) rfl rfl ?_
          refine at_do (does_addi rfl rfl (by omega)) rfl rfl ?_
          refine at_do (does_assign rfl) rfl rfl ?_
          refine at_nil ?_
          refine at_then ?_
          rotate_left
          refine at_seq ?_
          refine at_region ?_
          refine at_do (does_eql rfl rfl) rfl rfl ?_
          refine at_do (does_assign rfl) rfl rfl ?_
          refine at_nil ?_
          refine at_then ?_
          refine at_condD rfl (fun z3 => ?_) (fun z3 => ?_)
          refine at_seq ?_
          refine at_region ?_
          refine at_do (does_loadagg (i := 1) (by kernel_rfl) rfl rfl rfl) rfl rfl ?_
          refine at_callv (f := 17) (enters_fn (by kernel_rfl) rfl) (fun w ho => reset_yes_on _ _ _ _ _ w (mayB_of hmay)) rfl rfl ?_
          refine at_do (does_move rfl) rfl rfl ?_
          refine at_do (does_extract rfl rfl) rfl rfl ?_
          refine at_do (does_extract rfl rfl) rfl rfl ?_
          refine at_storeagg (i := 1) (by kernel_rfl) rfl rfl rfl rfl rfl ?_
          refine at_do (does_assign rfl) rfl rfl ?_
          refine at_nil ?_
          refine at_then ?_
          refine at_region ?_
          refine at_do (does_loadagg (i := 0) (by kernel_rfl) rfl rfl rfl) rfl rfl ?_
          refine at_callv (f := 21) (enters_fn (by kernel_rfl) rfl) (fun w ho => rreset_on _ _ _ _ _ w hmay) rfl rfl ?_
          refine at_storeagg (i := 0) (by kernel_rfl) rfl rfl rfl rfl rfl ?_
          refine at_nil ?_
          refine at_inb ?_
          refine at_then ?_
          refine at_seq ?_
          refine at_region ?_
          refine at_do (does_loadagg (i := 1) (by kernel_rfl) rfl rfl rfl) rfl rfl ?_
          refine at_do (does_loadagg (i := 0) (by kernel_rfl) rfl rfl rfl) rfl rfl ?_
          refine at_do (does_flatneq flat23 rfl rfl rfl) rfl rfl ?_
          refine at_do (does_move rfl) rfl rfl ?_
          refine at_know (t := 99) (d := false) rfl (by simp) ?_
          refine at_on rfl rfl ?_
          refine at_do (does_move rfl) rfl rfl ?_
          refine at_on rfl rfl ?_
          refine at_do (does_move rfl) rfl rfl ?_
          refine at_on rfl rfl ?_
          refine at_do (does_bneq (by kernel_rfl) rfl rfl) rfl rfl ?_
          refine at_do (does_pick_false rfl rfl) rfl rfl ?_
          refine at_do (does_move rfl) rfl rfl ?_
          refine at_know (t := 104) (d := false) rfl (by decide) ?_
          refine at_on rfl rfl ?_
          refine at_do (does_move rfl) rfl rfl ?_
          refine at_on rfl rfl ?_
          refine at_do (does_neq rfl rfl) rfl rfl ?_
          refine at_do (does_pick_false rfl rfl) rfl rfl ?_
          refine at_do (does_move rfl) rfl rfl ?_
          refine at_know (t := 108) (d := false) rfl (decide_eq_false (by decide)) ?_
          refine at_on rfl rfl ?_
          refine at_do (does_loadagg (i := 1) (by kernel_rfl) rfl rfl rfl) rfl rfl ?_
          refine at_on rfl rfl ?_
          refine at_callv (f := 11) (enters_fn (by kernel_rfl) rfl) (fun w ho => may_any _ _ _ _ _ _ w) rfl rfl ?_
          refine at_on rfl rfl ?_
          refine at_do (does_not rfl) rfl rfl ?_
          refine at_do (does_pick_false rfl rfl) rfl rfl ?_
          refine at_nil ?_
          refine at_then ?_
          refine at_cond_f rfl (by simp [mayB_of (may_reset_on hmay)]) ?_
          refine at_skip ?_
          refine at_inb ?_
          refine at_then ?_
          refine at_region ?_
          refine at_do (does_move rfl) rfl rfl ?_
          refine at_do (does_addi rfl rfl (by omega)) rfl rfl ?_
          refine at_do (does_assign rfl) rfl rfl ?_
          refine at_nil ?_
          refine at_then ?_
          rotate_left
          refine at_seq ?_
          refine at_region ?_
          refine at_do (does_loadagg (i := 1) (by kernel_rfl) rfl rfl rfl) rfl rfl ?_
          refine at_callv (f := 15) (enters_fn (by kernel_rfl) rfl) (fun w ho => tick_rings _ _ _ _ _ w (mayB_of hmay) hl (by simp)) rfl rfl ?_
          refine at_do (does_move rfl) rfl rfl ?_
          refine at_do (does_extract rfl rfl) rfl rfl ?_
          refine at_do (does_extract rfl rfl) rfl rfl ?_
          refine at_do (does_extract rfl rfl) rfl rfl ?_
          refine at_storeagg (i := 1) (by kernel_rfl) rfl rfl rfl rfl rfl ?_
          refine at_do (does_assign rfl) rfl rfl ?_
          refine at_do (does_assign rfl) rfl rfl ?_
          refine at_nil ?_
          refine at_then ?_
          refine at_region ?_
          refine at_do (does_loadagg (i := 0) (by kernel_rfl) rfl rfl rfl) rfl rfl ?_
          refine at_callv (f := 22) (enters_fn (by kernel_rfl) rfl) (fun w ho => rtick_rings _ _ _ _ _ w hmay hl rfl) rfl rfl ?_
          refine at_do (does_move rfl) rfl rfl ?_
          refine at_do (does_extract rfl rfl) rfl rfl ?_
          refine at_do (does_extract rfl rfl) rfl rfl ?_
          refine at_storeagg (i := 0) (by kernel_rfl) rfl rfl rfl rfl rfl ?_
          refine at_do (does_assign rfl) rfl rfl ?_
          refine at_nil ?_
          refine at_inb ?_
          refine at_then ?_
          refine at_seq ?_
          refine at_region ?_
          refine at_do (does_loadagg (i := 1) (by kernel_rfl) rfl rfl rfl) rfl rfl ?_
          refine at_do (does_loadagg (i := 0) (by kernel_rfl) rfl rfl rfl) rfl rfl ?_
          refine at_do (does_flatneq flat23 rfl rfl rfl) rfl rfl ?_
          refine at_do (does_move rfl) rfl rfl ?_
          refine at_know (t := 99) (d := false) rfl (by simp) ?_
          refine at_on rfl rfl ?_
          refine at_do (does_move rfl) rfl rfl ?_
          refine at_on rfl rfl ?_
          refine at_do (does_move rfl) rfl rfl ?_
          refine at_on rfl rfl ?_
          refine at_do (does_bneq (by kernel_rfl) rfl rfl) rfl rfl ?_
          refine at_do (does_pick_false rfl rfl) rfl rfl ?_
          refine at_do (does_move rfl) rfl rfl ?_
          refine at_know (t := 104) (d := false) rfl (by decide) ?_
          refine at_on rfl rfl ?_
          refine at_do (does_move rfl) rfl rfl ?_
          refine at_on rfl rfl ?_
          refine at_do (does_neq rfl rfl) rfl rfl ?_
          refine at_do (does_pick_false rfl rfl) rfl rfl ?_
          refine at_do (does_move rfl) rfl rfl ?_
          refine at_know (t := 108) (d := false) rfl (decide_eq_false (by decide)) ?_
          refine at_on rfl rfl ?_
          refine at_do (does_loadagg (i := 1) (by kernel_rfl) rfl rfl rfl) rfl rfl ?_
          refine at_on rfl rfl ?_
          refine at_callv (f := 11) (enters_fn (by kernel_rfl) rfl) (fun w ho => may_any _ _ _ _ _ _ w) rfl rfl ?_
          refine at_on rfl rfl ?_
          refine at_do (does_not rfl) rfl rfl ?_
          refine at_do (does_pick_false rfl rfl) rfl rfl ?_
          refine at_nil ?_
          refine at_then ?_
          refine at_cond_f rfl (by simp [mayB_of (may_tick_rings hmay hl)]) ?_
          refine at_skip ?_
          refine at_inb ?_
          refine at_then ?_
          refine at_region ?_
          refine at_do (does_move rfl) rfl rfl ?_
          refine at_do (does_addi rfl rfl (by omega)) rfl rfl ?_
          refine at_do (does_assign rfl) rfl rfl ?_
          refine at_nil ?_
          refine at_then ?_
          rotate_left
          · exact at_againw fun w ho => ⟨(k + 1, now, wait, true, now + wait), ⟨may_start hmay, by show now ≤ ((k + 1 : Nat) : Int); omega, hkn.1, hkn.2⟩, by show n - (k + 1) < n - k; omega, ⟨rfl, rfl, rfl, rfl, trivial⟩, rfl, ho⟩
          · exact at_againw fun w ho => ⟨(k + 1, now, wait, false, 0), ⟨may_stop hmay, by show now ≤ ((k + 1 : Nat) : Int); omega, hkn.1, hkn.2⟩, by show n - (k + 1) < n - k; omega, ⟨rfl, rfl, rfl, rfl, trivial⟩, rfl, ho⟩
          · exact at_againw fun w ho => ⟨(k + 1, now, less (2 * wait) most, true, now + 1), ⟨may_double hmay, by show now ≤ ((k + 1 : Nat) : Int); omega, hkn.1, hkn.2⟩, by show n - (k + 1) < n - k; omega, ⟨rfl, rfl, rfl, rfl, trivial⟩, rfl, ho⟩
          · exact at_againw fun w ho => ⟨(k + 1, now, base, true, less (now + 1) (now + base)), ⟨may_reset_on hmay, by show now ≤ ((k + 1 : Nat) : Int); omega, hkn.1, hkn.2⟩, by show n - (k + 1) < n - k; omega, ⟨rfl, rfl, rfl, rfl, trivial⟩, rfl, ho⟩
          · exact at_againw fun w ho => ⟨(k + 1, now + 1, wait, false, 0), ⟨may_tick_rings hmay hl, by show now + 1 ≤ ((k + 1 : Nat) : Int); omega, hkn.1, hkn.2⟩, by show n - (k + 1) < n - k; omega, ⟨rfl, rfl, rfl, rfl, trivial⟩, rfl, ho⟩
        · have hd : now + 1 < due := by
            rcases hmay.d with ⟨_, h, _⟩ | ⟨h, _⟩
            · omega
            · cases h
          have hdb : ((now + 1) == due) = false := by simp; omega
          refine at_seq ?_
          refine at_seq ?_
          refine at_region ?_
          refine at_do (does_move rfl) rfl rfl ?_
          refine at_do (does_move rfl) rfl rfl ?_
          refine at_do (does_len (by kernel_rfl) rfl) rfl rfl ?_
          refine at_do (does_lss rfl rfl) rfl rfl ?_
          refine at_do (does_move rfl) rfl rfl ?_
          refine at_know (t := 36) (d := true) rfl (decide_eq_true (by omega)) ?_
          refine at_on rfl rfl ?_
          refine at_do (does_move rfl) rfl rfl ?_
          refine at_on rfl rfl ?_
          refine at_do (does_lss rfl rfl) rfl rfl ?_
          refine at_do (does_pick_true rfl rfl) rfl rfl ?_
          refine at_nil ?_
          refine at_then ?_
          refine at_cond_t rfl (decide_eq_true (by omega)) ?_
          refine at_skip ?_
          refine at_then ?_
          refine at_seq ?_
          refine at_block ?_
          refine at_seq ?_
          refine at_region ?_
          refine at_do (does_assign rfl) rfl rfl ?_
          refine at_nil ?_
          refine at_then ?_
          refine at_seq ?_
          refine at_region ?_
          refine at_do (does_assign rfl) rfl rfl ?_
          refine at_do (does_assign rfl) rfl rfl ?_
          refine at_nil ?_
          refine at_then ?_
          refine at_seq ?_
          refine at_seq ?_
          refine at_region ?_
          refine at_do (does_move rfl) rfl rfl ?_
          refine at_do (does_move rfl) rfl rfl ?_
          refine at_do (does_indexAddr1 (by kernel_rfl) rfl rfl (by omega)) rfl rfl ?_
          refine at_do (does_load_mem (by kernel_rfl) rfl (fun w' ho => (World.cell?_of_block (ho.orig.old b hb id)).trans hz)) rfl rfl ?_
          refine at_do (does_remi rfl rfl (by omega)) rfl rfl ?_
          refine at_nil ?_
          refine at_then ?_
          refine at_block ?_
          refine at_seq ?_
          refine at_region ?_
          refine at_do (does_eql rfl rfl) rfl rfl ?_
          refine at_do (does_assign rfl) rfl rfl ?_
          refine at_nil ?_
          refine at_then ?_
          refine at_condD rfl (fun z0 => ?_) (fun z0 => ?_)
          refine at_seq ?_
          refine at_region ?_
          refine at_do (does_loadagg (i := 1) (by kernel_rfl) rfl rfl rfl) rfl rfl ?_
          refine at_callv (f := 14) (enters_fn (by kernel_rfl) rfl) (fun w ho => start_yes _ _ _ _ _ _ w (mayB_of hmay)) rfl rfl ?_
          refine at_do (does_move rfl) rfl rfl ?_
          refine at_do (does_extract rfl rfl) rfl rfl ?_
          refine at_do (does_extract rfl rfl) rfl rfl ?_
          refine at_storeagg (i := 1) (by kernel_rfl) rfl rfl rfl rfl rfl ?_
          refine at_do (does_assign rfl) rfl rfl ?_
          refine at_nil ?_
          refine at_then ?_
          refine at_region ?_
          refine at_do (does_loadagg (i := 0) (by kernel_rfl) rfl rfl rfl) rfl rfl ?_
          refine at_do (does_fieldAddr (o := 1) (by kernel_rfl) rfl) rfl rfl ?_
          refine at_do (does_load (i := 0) (by kernel_rfl) rfl rfl rfl) rfl rfl ?_
          refine at_callv (f := 19) (enters_fn (by kernel_rfl) rfl) (fun w ho => at_pos _ _ _ _ _ _ _ w q1 q2 q3 q4) rfl rfl ?_
          refine at_storeagg (i := 0) (by kernel_rfl) rfl rfl rfl rfl rfl ?_
          refine at_nil ?_
          refine at_inb ?_
          refine at_then ?_
          refine at_seq ?_
          refine at_region ?_
          refine at_do (does_loadagg (i := 1) (by kernel_rfl) rfl rfl rfl) rfl rfl ?_
          refine at_do (does_loadagg (i := 0) (by kernel_rfl) rfl rfl rfl) rfl rfl ?_
          refine at_do (does_flatneq flat23 rfl rfl rfl) rfl rfl ?_
          refine at_do (does_move rfl) rfl rfl ?_
          refine at_know (t := 99) (d := false) rfl (by simp) ?_
          refine at_on rfl rfl ?_
          refine at_do (does_move rfl) rfl rfl ?_
          refine at_on rfl rfl ?_
          refine at_do (does_move rfl) rfl rfl ?_
          refine at_on rfl rfl ?_
          refine at_do (does_bneq (by kernel_rfl) rfl rfl) rfl rfl ?_
          refine at_do (does_pick_false rfl rfl) rfl rfl ?_
          refine at_do (does_move rfl) rfl rfl ?_
          refine at_know (t := 104) (d := false) rfl (by decide) ?_
          refine at_on rfl rfl ?_
          refine at_do (does_move rfl) rfl rfl ?_
          refine at_on rfl rfl ?_
          refine at_do (does_neq rfl rfl) rfl rfl ?_
          refine at_do (does_pick_false rfl rfl) rfl rfl ?_
          refine at_do (does_move rfl) rfl rfl ?_
          refine at_know (t := 108) (d := false) rfl (decide_eq_false (by decide)) ?_
          refine at_on rfl rfl ?_
          refine at_do (does_loadagg (i := 1) (by kernel_rfl) rfl rfl rfl) rfl rfl ?_
          refine at_on rfl rfl ?_
          refine at_callv (f := 11) (enters_fn (by kernel_rfl) rfl) (fun w ho => may_any _ _ _ _ _ _ w) rfl rfl ?_
          refine at_on rfl rfl ?_
          refine at_do (does_not rfl) rfl rfl ?_
          refine at_do (does_pick_false rfl rfl) rfl rfl ?_
          refine at_nil ?_
          refine at_then ?_
          refine at_cond_f rfl (by simp [mayB_of (may_start hmay)]) ?_
          refine at_skip ?_
          refine at_inb ?_
          refine at_then ?_
          refine at_region ?_
          refine at_do (does_move rfl) rfl rfl ?_
          refine at_do (does_addi rfl rfl (by omega)) rfl rfl ?_
          refine at_do (does_assign rfl) rfl rfl ?_
          refine at_nil ?_
          refine at_then ?_
          rotate_left
          refine at_seq ?_
          refine at_region ?_
          refine at_do (does_eql rfl rfl) rfl rfl ?_
          refine at_do (does_assign rfl) rfl rfl ?_
          refine at_nil ?_
          refine at_then ?_
          refine at_condD rfl (fun z1 => ?_) (fun z1 => ?_)
          refine at_seq ?_
          refine at_region ?_
          refine at_do (does_loadagg (i := 1) (by kernel_rfl) rfl rfl rfl) rfl rfl ?_
          refine at_callv (f := 18) (enters_fn (by kernel_rfl) rfl) (fun w ho => stop_yes _ _ _ _ _ _ w (mayB_of hmay)) rfl rfl ?_
          refine at_do (does_move rfl) rfl rfl ?_
          refine at_do (does_extract rfl rfl) rfl rfl ?_
          refine at_do (does_extract rfl rfl) rfl rfl ?_
          refine at_storeagg (i := 1) (by kernel_rfl) rfl rfl rfl rfl rfl ?_
          refine at_do (does_assign rfl) rfl rfl ?_
          refine at_nil ?_
          refine at_then ?_
          refine at_region ?_
          refine at_do (does_loadagg (i := 0) (by kernel_rfl) rfl rfl rfl) rfl rfl ?_
          refine at_callv (f := 19) (enters_fn (by kernel_rfl) rfl) (fun w ho => at_zero _ _ _ _ _ _ _ w (by decide)) rfl rfl ?_
          refine at_storeagg (i := 0) (by kernel_rfl) rfl rfl rfl rfl rfl ?_
          refine at_nil ?_
          refine at_inb ?_
          refine at_then ?_
          refine at_seq ?_
          refine at_region ?_
          refine at_do (does_loadagg (i := 1) (by kernel_rfl) rfl rfl rfl) rfl rfl ?_
          refine at_do (does_loadagg (i := 0) (by kernel_rfl) rfl rfl rfl) rfl rfl ?_
          refine at_do (does_flatneq flat23 rfl rfl rfl) rfl rfl ?_
          refine at_do (does_move rfl) rfl rfl ?_
          refine at_know (t := 99) (d := false) rfl (by simp) ?_
          refine at_on rfl rfl ?_
          refine at_do (does_move rfl) rfl rfl ?_
          refine at_on rfl rfl ?_
          refine at_do (does_move rfl) rfl rfl ?_
          refine at_on rfl rfl ?_
          refine at_do (does_bneq (by kernel_rfl) rfl rfl) rfl rfl ?_
          refine at_do (does_pick_false rfl rfl) rfl rfl ?_
          refine at_do (does_move rfl) rfl rfl ?_
          refine at_know (t := 104) (d := false) rfl (by decide) ?_
          refine at_on rfl rfl ?_
          refine at_do (does_move rfl) rfl rfl ?_
          refine at_on rfl rfl ?_
          refine at_do (does_neq rfl rfl) rfl rfl ?_
          refine at_do (does_pick_false rfl rfl) rfl rfl ?_
          refine at_do (does_move rfl) rfl rfl ?_
          refine at_know (t := 108) (d := false) rfl (decide_eq_false (by decide)) ?_
          refine at_on rfl rfl ?_
          refine at_do (does_loadagg (i := 1) (by kernel_rfl) rfl rfl rfl) rfl rfl ?_
          refine at_on rfl rfl ?_
          refine at_callv (f := 11) (enters_fn (by kernel_rfl) rfl) (fun w ho => may_any _ _ _ _ _ _ w) rfl rfl ?_
          refine at_on rfl rfl ?_
          refine at_do (does_not rfl) rfl rfl ?_
          refine at_do (does_pick_false rfl rfl) rfl rfl ?_
          refine at_nil ?_
          refine at_then ?_
          refine at_cond_f rfl (by simp [mayB_of (may_stop hmay)]) ?_
          refine at_skip ?_
          refine at_inb ?_
          refine at_then ?_
          refine at_region ?_
          refine at_do (does_move rfl) rfl rfl ?_
          refine at_do (does_addi rfl rfl (by omega)) rfl rfl ?_
          refine at_do (does_assign rfl) rfl rfl ?_
          refine at_nil ?_
          refine at_then ?_
          rotate_left
          refine at_seq ?_
          refine at_region ?_
          refine at_do (does_eql rfl rfl) rfl rfl ?_
          refine at_do (does_assign rfl) rfl rfl ?_
          refine at_nil ?_
          refine at_then ?_
          refine at_condD rfl (fun z2 => ?_) (fun z2 => ?_)
          refine at_seq ?_
          refine at_region ?_
          refine at_do (does_loadagg (i := 1) (by kernel_rfl) rfl rfl rfl) rfl rfl ?_
          refine at_callv (f := 16) (enters_fn (by kernel_rfl) rfl) (fun w ho => double_yes _ _ _ _ _ _ w (mayB_of hmay)) rfl rfl ?_
          refine at_do (does_move rfl) rfl rfl ?_
          refine at_do (does_extract rfl rfl) rfl rfl ?_
          refine at_do (does_extract rfl rfl) rfl rfl ?_
          refine at_storeagg (i := 1) (by kernel_rfl) rfl rfl rfl rfl rfl ?_
          refine at_do (does_assign rfl) rfl rfl ?_
          refine at_nil ?_
          refine at_then ?_
          refine at_region ?_
          refine at_do (does_loadagg (i := 0) (by kernel_rfl) rfl rfl rfl) rfl rfl ?_
          refine at_callv (f := 20) (enters_fn (by kernel_rfl) rfl) (fun w ho => rdouble _ _ _ _ _ _ w hmay) rfl rfl ?_
          refine at_storeagg (i := 0) (by kernel_rfl) rfl rfl rfl rfl rfl ?_
          refine at_nil ?_
          refine at_inb ?_
          refine at_then ?_
          refine at_seq ?_
          refine at_region ?_
          refine at_do (does_loadagg (i := 1) (by kernel_rfl) rfl rfl rfl) rfl rfl ?_
          refine at_do (does_loadagg (i := 0) (by kernel_rfl) rfl rfl rfl) rfl rfl ?_
          refine at_do (does_flatneq flat23 rfl rfl rfl) rfl rfl ?_
          refine at_do (does_move rfl) rfl rfl ?_
          refine at_know (t := 99) (d := false) rfl (by simp) ?_
          refine at_on rfl rfl ?_
          refine at_do (does_move rfl) rfl rfl ?_
          refine at_on rfl rfl ?_
          refine at_do (does_move rfl) rfl rfl ?_
          refine at_on rfl rfl ?_
          refine at_do (does_bneq (by kernel_rfl) rfl rfl) rfl rfl ?_
          refine at_do (does_pick_false rfl rfl) rfl rfl ?_
          refine at_do (does_move rfl) rfl rfl ?_
          refine at_know (t := 104) (d := false) rfl (by decide) ?_
          refine at_on rfl rfl ?_
          refine at_do (does_move rfl) rfl rfl ?_
          refine at_on rfl rfl ?_
          refine at_do (does_neq rfl rfl) rfl rfl ?_
          refine at_do (does_pick_false rfl rfl) rfl rfl ?_
          refine at_do (does_move rfl) rfl rfl ?_
          refine at_know (t := 108) (d := false) rfl (decide_eq_false (by decide)) ?_
          refine at_on rfl rfl ?_
          refine at_do (does_loadagg (i := 1) (by kernel_rfl) rfl rfl rfl) rfl rfl ?_
          refine at_on rfl rfl ?_
          refine at_callv (f := 11) (enters_fn (by kernel_rfl) rfl) (fun w ho => may_any _ _ _ _ _ _ w) rfl rfl ?_
          refine at_on rfl rfl ?_
          refine at_do (does_not rfl) rfl rfl ?_
          refine at_do (does_pick_false rfl rfl) rfl rfl ?_
          refine at_nil ?_
          refine at_then ?_
          refine at_cond_f rfl (by simp [mayB_of (may_double hmay)]) ?_
          refine at_skip ?_
          refine at_inb ?_
          refine at_then ?_
          refine at_region ?_
          refine at_do (does_move rfl) rfl rfl ?_
          refine at_do (does_addi rfl rfl (by omega)) rfl rfl ?_
          refine at_do (does_assign rfl) rfl rfl ?_
          refine at_nil ?_
          refine at_then ?_
          rotate_left
          refine at_seq ?_
          refine at_region ?_
          refine at_do (does_eql rfl rfl) rfl rfl ?_
          refine at_do (does_assign rfl) rfl rfl ?_
          refine at_nil ?_
          refine at_then ?_
          refine at_condD rfl (fun z3 => ?_) (fun z3 => ?_)
          refine at_seq ?_
          refine at_region ?_
          refine at_do (does_loadagg (i := 1) (by kernel_rfl) rfl rfl rfl) rfl rfl ?_
          refine at_callv (f := 17) (enters_fn (by kernel_rfl) rfl) (fun w ho => reset_yes_on _ _ _ _ _ w (mayB_of hmay)) rfl rfl ?_
          refine at_do (does_move rfl) rfl rfl ?_
          refine at_do (does_extract rfl rfl) rfl rfl ?_
          refine at_do (does_extract rfl rfl) rfl rfl ?_
          refine at_storeagg (i := 1) (by kernel_rfl) rfl rfl rfl rfl rfl ?_
          refine at_do (does_assign rfl) rfl rfl ?_
          refine at_nil ?_
          refine at_then ?_
          refine at_region ?_
          refine at_do (does_loadagg (i := 0) (by kernel_rfl) rfl rfl rfl) rfl rfl ?_
          refine at_callv (f := 21) (enters_fn (by kernel_rfl) rfl) (fun w ho => rreset_on _ _ _ _ _ w hmay) rfl rfl ?_
          refine at_storeagg (i := 0) (by kernel_rfl) rfl rfl rfl rfl rfl ?_
          refine at_nil ?_
          refine at_inb ?_
          refine at_then ?_
          refine at_seq ?_
          refine at_region ?_
          refine at_do (does_loadagg (i := 1) (by kernel_rfl) rfl rfl rfl) rfl rfl ?_
          refine at_do (does_loadagg (i := 0) (by kernel_rfl) rfl rfl rfl) rfl rfl ?_
          refine at_do (does_flatneq flat23 rfl rfl rfl) rfl rfl ?_
          refine at_do (does_move rfl) rfl rfl ?_
          refine at_know (t := 99) (d := false) rfl (by simp) ?_
          refine at_on rfl rfl ?_
          refine at_do (does_move rfl) rfl rfl ?_
          refine at_on rfl rfl ?_
          refine at_do (does_move rfl) rfl rfl ?_
          refine at_on rfl rfl ?_
          refine at_do (does_bneq (by kernel_rfl) rfl rfl) rfl rfl ?_
          refine at_do (does_pick_false rfl rfl) rfl rfl ?_
          refine at_do (does_move rfl) rfl rfl ?_
          refine at_know (t := 104) (d := false) rfl (by decide) ?_
          refine at_on rfl rfl ?_
          refine at_do (does_move rfl) rfl rfl ?_
          refine at_on rfl rfl ?_
          refine at_do (does_neq rfl rfl) rfl rfl ?_
          refine at_do (does_pick_false rfl rfl) rfl rfl ?_
          refine at_do (does_move rfl) rfl rfl ?_
          refine at_know (t := 108) (d := false) rfl (decide_eq_false (by decide)) ?_
          refine at_on rfl rfl ?_
          refine at_do (does_loadagg (i := 1) (by kernel_rfl) rfl rfl rfl) rfl rfl ?_
          refine at_on rfl rfl ?_
          refine at_callv (f := 11) (enters_fn (by kernel_rfl) rfl) (fun w ho => may_any _ _ _ _ _ _ w) rfl rfl ?_
          refine at_on rfl rfl ?_
          refine at_do (does_not rfl) rfl rfl ?_
          refine at_do (does_pick_false rfl rfl) rfl rfl ?_
          refine at_nil ?_
          refine at_then ?_
          refine at_cond_f rfl (by simp [mayB_of (may_reset_on hmay)]) ?_
          refine at_skip ?_
          refine at_inb ?_
          refine at_then ?_
          refine at_region ?_
          refine at_do (does_move rfl) rfl rfl ?_
          refine at_do (does_addi rfl rfl (by omega)) rfl rfl ?_
          refine at_do (does_assign rfl) rfl rfl ?_
          refine at_nil ?_
          refine at_then ?_
          rotate_left
          refine at_seq ?_
          refine at_region ?_
          refine at_do (does_loadagg (i := 1) (by kernel_rfl) rfl rfl rfl) rfl rfl ?_
          refine at_callv (f := 15) (enters_fn (by kernel_rfl) rfl) (fun w ho => tick_on _ _ _ _ _ w (mayB_of hmay) hl hdb) rfl rfl ?_
          refine at_do (does_move rfl) rfl rfl ?_
          refine at_do (does_extract rfl rfl) rfl rfl ?_
          refine at_do (does_extract rfl rfl) rfl rfl ?_
          refine at_do (does_extract rfl rfl) rfl rfl ?_
          refine at_storeagg (i := 1) (by kernel_rfl) rfl rfl rfl rfl rfl ?_
          refine at_do (does_assign rfl) rfl rfl ?_
          refine at_do (does_assign rfl) rfl rfl ?_
          refine at_nil ?_
          refine at_then ?_
          refine at_region ?_
          refine at_do (does_loadagg (i := 0) (by kernel_rfl) rfl rfl rfl) rfl rfl ?_
          refine at_callv (f := 22) (enters_fn (by kernel_rfl) rfl) (fun w ho => rtick_due _ _ _ _ _ w hmay hl hd) rfl rfl ?_
          refine at_do (does_move rfl) rfl rfl ?_
          refine at_do (does_extract rfl rfl) rfl rfl ?_
          refine at_do (does_extract rfl rfl) rfl rfl ?_
          refine at_storeagg (i := 0) (by kernel_rfl) rfl rfl rfl rfl rfl ?_
          refine at_do (does_assign rfl) rfl rfl ?_
          refine at_nil ?_
          refine at_inb ?_
          refine at_then ?_
          refine at_seq ?_
          refine at_region ?_
          refine at_do (does_loadagg (i := 1) (by kernel_rfl) rfl rfl rfl) rfl rfl ?_
          refine at_do (does_loadagg (i := 0) (by kernel_rfl) rfl rfl rfl) rfl rfl ?_
          refine at_do (does_flatneq flat23 rfl rfl rfl) rfl rfl ?_
          refine at_do (does_move rfl) rfl rfl ?_
          refine at_know (t := 99) (d := false) rfl (by simp) ?_
          refine at_on rfl rfl ?_
          refine at_do (does_move rfl) rfl rfl ?_
          refine at_on rfl rfl ?_
          refine at_do (does_move rfl) rfl rfl ?_
          refine at_on rfl rfl ?_
          refine at_do (does_bneq (by kernel_rfl) rfl rfl) rfl rfl ?_
          refine at_do (does_pick_false rfl rfl) rfl rfl ?_
          refine at_do (does_move rfl) rfl rfl ?_
          refine at_know (t := 104) (d := false) rfl (by decide) ?_
          refine at_on rfl rfl ?_
          refine at_do (does_move rfl) rfl rfl ?_
          refine at_on rfl rfl ?_
          refine at_do (does_neq rfl rfl) rfl rfl ?_
          refine at_do (does_pick_false rfl rfl) rfl rfl ?_
          refine at_do (does_move rfl) rfl rfl ?_
          refine at_know (t := 108) (d := false) rfl (decide_eq_false (by decide)) ?_
          refine at_on rfl rfl ?_
          refine at_do (does_loadagg (i := 1) (by kernel_rfl) rfl rfl rfl) rfl rfl ?_
          refine at_on rfl rfl ?_
          refine at_callv (f := 11) (enters_fn (by kernel_rfl) rfl) (fun w ho => may_any _ _ _ _ _ _ w) rfl rfl ?_
          refine at_on rfl rfl ?_
          refine at_do (does_not rfl) rfl rfl ?_
          refine at_do (does_pick_false rfl rfl) rfl rfl ?_
          refine at_nil ?_
          refine at_then ?_
          refine at_cond_f rfl (by simp [mayB_of (may_tick_on hmay hl hd)]) ?_
          refine at_skip ?_
          refine at_inb ?_
          refine at_then ?_
          refine at_region ?_
          refine at_do (does_move rfl) rfl rfl ?_
          refine at_do (does_addi rfl rfl (by omega)) rfl rfl ?_
          refine at_do (does_assign rfl) rfl rfl ?_
          refine at_nil ?_
          refine at_then ?_
          rotate_left
          · exact at_againw fun w ho => ⟨(k + 1, now, wait, true, now + wait), ⟨may_start hmay, by show now ≤ ((k + 1 : Nat) : Int); omega, hkn.1, hkn.2⟩, by show n - (k + 1) < n - k; omega, ⟨rfl, rfl, rfl, rfl, trivial⟩, rfl, ho⟩
          · exact at_againw fun w ho => ⟨(k + 1, now, wait, false, 0), ⟨may_stop hmay, by show now ≤ ((k + 1 : Nat) : Int); omega, hkn.1, hkn.2⟩, by show n - (k + 1) < n - k; omega, ⟨rfl, rfl, rfl, rfl, trivial⟩, rfl, ho⟩
          · exact at_againw fun w ho => ⟨(k + 1, now, less (2 * wait) most, true, due), ⟨may_double hmay, by show now ≤ ((k + 1 : Nat) : Int); omega, hkn.1, hkn.2⟩, by show n - (k + 1) < n - k; omega, ⟨rfl, rfl, rfl, rfl, trivial⟩, rfl, ho⟩
          · exact at_againw fun w ho => ⟨(k + 1, now, base, true, less due (now + base)), ⟨may_reset_on hmay, by show now ≤ ((k + 1 : Nat) : Int); omega, hkn.1, hkn.2⟩, by show n - (k + 1) < n - k; omega, ⟨rfl, rfl, rfl, rfl, trivial⟩, rfl, ho⟩
          · exact at_againw fun w ho => ⟨(k + 1, now + 1, wait, true, due), ⟨may_tick_on hmay hl hd, by show now + 1 ≤ ((k + 1 : Nat) : Int); omega, hkn.1, hkn.2⟩, by show n - (k + 1) < n - k; omega, ⟨rfl, rfl, rfl, rfl, trivial⟩, rfl, ho⟩
    · refine at_seq ?_
      refine at_seq ?_
      refine at_region ?_
      refine at_do (does_move rfl) rfl rfl ?_
      refine at_do (does_move rfl) rfl rfl ?_
      refine at_do (does_len (by kernel_rfl) rfl) rfl rfl ?_
      refine at_do (does_lss rfl rfl) rfl rfl ?_
      refine at_do (does_move rfl) rfl rfl ?_
      refine at_guardD rfl rfl (fun z0 => ?_) (fun z0 => ?_)
      refine at_on rfl rfl ?_
      refine at_do (does_move rfl) rfl rfl ?_
      refine at_on rfl rfl ?_
      refine at_do (does_lss rfl rfl) rfl rfl ?_
      refine at_do (does_pick_true rfl rfl) rfl rfl ?_
      refine at_nil ?_
      refine at_then ?_
      refine at_cond_f rfl (decide_eq_false (by omega)) ?_
      refine at_exit ?_
      refine at_then_exit ?_
      refine at_then_exit ?_
      refine at_inb_here ?_
      refine at_then ?_
      refine at_seq ?_
      refine at_region ?_
      refine at_callv (f := 13) (enters_fn (by kernel_rfl) rfl) (fun w ho => awake_true w) rfl rfl ?_
      refine at_do (does_assign rfl) rfl rfl ?_
      refine at_nil ?_
      refine at_then ?_
      refine at_ret ?_
      refine at_ret1 rfl rfl rfl (fun w9 ho9 => ?_)
      rotate_left
      refine at_no rfl rfl rfl rfl ?_
      refine at_no rfl rfl rfl rfl ?_
      refine at_do (does_pick_false rfl rfl) rfl rfl ?_
      refine at_nil ?_
      refine at_then ?_
      refine at_cond_false rfl ?_
      refine at_exit ?_
      refine at_then_exit ?_
      refine at_then_exit ?_
      refine at_inb_here ?_
      refine at_then ?_
      refine at_seq ?_
      refine at_region ?_
      refine at_callv (f := 13) (enters_fn (by kernel_rfl) rfl) (fun w ho => awake_true w) rfl rfl ?_
      refine at_do (does_assign rfl) rfl rfl ?_
      refine at_nil ?_
      refine at_then ?_
      refine at_ret ?_
      refine at_ret1 rfl rfl rfl (fun w9 ho9 => ?_)
      rotate_left
      all_goals exact ⟨rfl, ho9.plain⟩
end Go.Proofs.Ytfpnileacpbocaa.K
