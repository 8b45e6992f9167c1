/-
  Sip: what the small functions of the package and of its reference give. No condition of its own.
-/
import Derived.Test.YthclmpbgehkgeaaSip1
import Derived.BigGuardPart
set_option linter.unusedSimpArgs false
set_option linter.unusedVariables false
namespace Go.Proofs.Ythclmpbgehkgeaa
open Go.RowKit
theorem ret_u64 {a b : Int} (h : a = b) : Ending.returned (.int .u64 a) = Ending.returned (.int .u64 b) := by rw [h]

theorem rot13 (x : Int) (w : World) (h : Wd x) : Calls Try.prog 25 #[.int .u64 x, .int .i64 13] w fun e w' => e = .returned (.int .u64 (rotl 8192 2251799813685248 x)) ∧ w = w' := by
  have hr := Lib.hid (or_rotl_13 x h)
  obtain ⟨h0, h1⟩ := h
  have hb : bits BinOp.and IntKind.u64 13 63 = 13 := by rfl
  go_enter Try.func25, Try.ntmps25
  go_wp2
  go_ret
  exact ⟨ret_u64 hr.out, rfl⟩

theorem rot16 (x : Int) (w : World) (h : Wd x) : Calls Try.prog 25 #[.int .u64 x, .int .i64 16] w fun e w' => e = .returned (.int .u64 (rotl 65536 281474976710656 x)) ∧ w = w' := by
  have hr := Lib.hid (or_rotl_16 x h)
  obtain ⟨h0, h1⟩ := h
  have hb : bits BinOp.and IntKind.u64 16 63 = 16 := by rfl
  go_enter Try.func25, Try.ntmps25
  go_wp2
  go_ret
  exact ⟨ret_u64 hr.out, rfl⟩

theorem rot17 (x : Int) (w : World) (h : Wd x) : Calls Try.prog 25 #[.int .u64 x, .int .i64 17] w fun e w' => e = .returned (.int .u64 (rotl 131072 140737488355328 x)) ∧ w = w' := by
  have hr := Lib.hid (or_rotl_17 x h)
  obtain ⟨h0, h1⟩ := h
  have hb : bits BinOp.and IntKind.u64 17 63 = 17 := by rfl
  go_enter Try.func25, Try.ntmps25
  go_wp2
  go_ret
  exact ⟨ret_u64 hr.out, rfl⟩

theorem rot21 (x : Int) (w : World) (h : Wd x) : Calls Try.prog 25 #[.int .u64 x, .int .i64 21] w fun e w' => e = .returned (.int .u64 (rotl 2097152 8796093022208 x)) ∧ w = w' := by
  have hr := Lib.hid (or_rotl_21 x h)
  obtain ⟨h0, h1⟩ := h
  have hb : bits BinOp.and IntKind.u64 21 63 = 21 := by rfl
  go_enter Try.func25, Try.ntmps25
  go_wp2
  go_ret
  exact ⟨ret_u64 hr.out, rfl⟩

theorem rot32 (x : Int) (w : World) (h : Wd x) : Calls Try.prog 25 #[.int .u64 x, .int .i64 32] w fun e w' => e = .returned (.int .u64 (rotl 4294967296 4294967296 x)) ∧ w = w' := by
  have hr := Lib.hid (or_rotl_32 x h)
  obtain ⟨h0, h1⟩ := h
  have hb : bits BinOp.and IntKind.u64 32 63 = 32 := by rfl
  go_enter Try.func25, Try.ntmps25
  go_wp2
  go_ret
  exact ⟨ret_u64 hr.out, rfl⟩

theorem turn_any (x : Int) (n : Nat) (hn : n ≤ 63) (w : World) (h : Wd x) :
    Calls Try.prog 24 #[.int .u64 x, .int .i64 n] w fun e w' => e = .returned (.int .u64 (turnN n x)) ∧ w = w' := by
  go_enter Try.func24, Try.ntmps24
  go_wp2
  go_loop [0, 5] (fun v i => ∃ k : Nat, k ≤ n ∧ i = .int .i64 k ∧ v = .int .u64 (turnN k x)) (fun _ i => n - (intOf i).toNat)
  case atStart => exact ⟨0, by omega, rfl, rfl⟩
  case round =>
    obtain ⟨k, hk, rfl, rfl⟩ := hrel
    obtain ⟨hy0, hy1⟩ := wd_turnN k x h
    have e1 := Lib.hid (show turnN (k + 1) x = turn1 (turnN k x) from rfl)
    have e2 := Lib.hid (show ¬ k < n → k = n by omega)
    generalize hz : turnN k x = z at *
    have hz' := Lib.hid hz
    clear hz
    by_cases hlt : k < n
    · go_wp2
      go_round
      case rel => exact ⟨k + 1, by omega, by go_num, by rw [e1.out]; rfl⟩
      case measure => simp [intOf]; omega
    · go_wp2
      go_ret
      exact ⟨ret_u64 (by rw [← hz'.out, e2.out hlt]), rfl⟩

theorem turn13 (x : Int) (w : World) (h : Wd x) : Calls Try.prog 24 #[.int .u64 x, .int .i64 13] w fun e w' => e = .returned (.int .u64 (rotl 8192 2251799813685248 x)) ∧ w = w' := by
  have h1 := turn_any x 13 (by decide) w h
  rw [turnN_13 x h] at h1
  exact h1

theorem turn16 (x : Int) (w : World) (h : Wd x) : Calls Try.prog 24 #[.int .u64 x, .int .i64 16] w fun e w' => e = .returned (.int .u64 (rotl 65536 281474976710656 x)) ∧ w = w' := by
  have h1 := turn_any x 16 (by decide) w h
  rw [turnN_16 x h] at h1
  exact h1

theorem turn17 (x : Int) (w : World) (h : Wd x) : Calls Try.prog 24 #[.int .u64 x, .int .i64 17] w fun e w' => e = .returned (.int .u64 (rotl 131072 140737488355328 x)) ∧ w = w' := by
  have h1 := turn_any x 17 (by decide) w h
  rw [turnN_17 x h] at h1
  exact h1

theorem turn21 (x : Int) (w : World) (h : Wd x) : Calls Try.prog 24 #[.int .u64 x, .int .i64 21] w fun e w' => e = .returned (.int .u64 (rotl 2097152 8796093022208 x)) ∧ w = w' := by
  have h1 := turn_any x 21 (by decide) w h
  rw [turnN_21 x h] at h1
  exact h1

theorem turn32 (x : Int) (w : World) (h : Wd x) : Calls Try.prog 24 #[.int .u64 x, .int .i64 32] w fun e w' => e = .returned (.int .u64 (rotl 4294967296 4294967296 x)) ∧ w = w' := by
  have h1 := turn_any x 32 (by decide) w h
  rw [turnN_32 x h] at h1
  exact h1


set_option maxRecDepth 100000 in
set_option maxHeartbeats 4000000 in
theorem rounds_any (v : W4) (n : Nat) (hn : n ≤ 16) (w : World) (hv : v.good) :
    Calls Try.prog 23 #[.agg v.cells, .int .i64 n] w fun e w' => e = .returned (.agg (rnds n v).cells) ∧ Below w.heap.size w w' := by
  have HV := Lib.hid hv
  clear hv
  obtain ⟨a, b, c, d⟩ := v
  show Calls Try.prog 23 #[.agg #[.int .u64 a, .int .u64 b, .int .u64 c, .int .u64 d], .int .i64 n] w _
  go_enter Try.func23, Try.ntmps23
  go_wp2
  go_quiet (fail)
  go_wp2
  go_loop [5, 6, 7, 8, 18] (fun va vb vc vd i => ∃ k : Nat, k ≤ n ∧ i = .int .i64 k ∧ va = .int .u64 (rnds k ⟨a, b, c, d⟩).a ∧ vb = .int .u64 (rnds k ⟨a, b, c, d⟩).b ∧ vc = .int .u64 (rnds k ⟨a, b, c, d⟩).c ∧ vd = .int .u64 (rnds k ⟨a, b, c, d⟩).d) (fun _ _ _ _ i => n - (intOf i).toNat)
  case atStart => exact ⟨0, by omega, rfl, rfl, rfl, rfl, rfl⟩
  case round =>
    obtain ⟨k, hk, rfl, rfl, rfl, rfl, rfl⟩ := hrel
    have hg := rnds_good k _ HV.out
    have e1 := Lib.hid (show rnds (k + 1) ⟨a, b, c, d⟩ = rnd (rnds k ⟨a, b, c, d⟩) from rfl)
    have e2 := Lib.hid (show ¬ k < n → k = n by omega)
    generalize hz : rnds k ⟨a, b, c, d⟩ = V at *
    have hz' := Lib.hid hz
    clear hz
    obtain ⟨p, q, r, s⟩ := V
    obtain ⟨g1, g2, g3, g4⟩ := hg
    simp only at g1 g2 g3 g4 ⊢
    have x1 : Wd (IntKind.u64.wrap (p + q)) := wd_wrap _
    have x2 : Wd (IntKind.u64.wrap (r + s)) := wd_wrap _
    have y1 := wd_xor (rotl 8192 2251799813685248 q) _ (wd_rotl_13 _ g2) x1
    have y2 := wd_xor (rotl 65536 281474976710656 s) _ (wd_rotl_16 _ g4) x2
    have G := Lib.hid (And.intro g1 (And.intro g2 (And.intro g3 (And.intro g4 (And.intro x1 (And.intro x2 (And.intro y1 y2)))))))
    clear g1 g2 g3 g4 x1 x2 y1 y2
    by_cases hlt : k < n
    · go_wp2_with fail
      refine (rot13 _ _ G.out.2.1).mono ?_
      rintro e w1 ⟨rfl, rfl⟩
      go_wp2_with fail
      refine (rot32 _ _ G.out.2.2.2.2.1).mono ?_
      rintro e w1 ⟨rfl, rfl⟩
      go_wp2_with fail
      refine (rot16 _ _ G.out.2.2.2.1).mono ?_
      rintro e w1 ⟨rfl, rfl⟩
      go_wp2_with fail
      refine (rot21 _ _ G.out.2.2.2.2.2.2.2).mono ?_
      rintro e w1 ⟨rfl, rfl⟩
      go_wp2_with fail
      refine (rot17 _ _ G.out.2.2.2.2.2.2.1).mono ?_
      rintro e w1 ⟨rfl, rfl⟩
      go_wp2_with fail
      refine (rot32 _ _ (wd_wrap _)).mono ?_
      rintro e w1 ⟨rfl, rfl⟩
      go_wp2_with fail
      go_round
      case rel => exact ⟨k + 1, by omega, by go_num, by rw [e1.out]; rfl, by rw [e1.out]; rfl, by rw [e1.out]; rfl, by rw [e1.out]; rfl⟩
      case measure => simp [intOf]; omega
    · go_wp2_with fail
      refine bodyPost_ret (v := .agg (rnds n ⟨a, b, c, d⟩).cells) (by rw [← e2.out hlt, hz'.out]; simp [results, Try.results23, go_sem, W4.cells]) rfl ⟨rfl, ?_⟩
      go_grown
      exact below_drewN (by go_grown) _
end Go.Proofs.Ythclmpbgehkgeaa