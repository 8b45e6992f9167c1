/-
  Sip, the plain part: a turn to the left, the round of four words. No program in sight. No condition of its own.
-/
import Derived.Test.YthclmpbgehkgeaaHeld
namespace Go.Proofs.Ythclmpbgehkgeaa
open Go.RowKit

/-- A word of 64 bits. -/
def Wd (x : Int) : Prop := 0 ≤ x ∧ x < 18446744073709551616
/-- x turned: up by a, what falls off coming in below (a times b is 2^64). -/
def rotl (a b x : Int) : Int := x * a % 18446744073709551616 + x / b
/-- One turn by one, as the reference does it. -/
def turn1 (y : Int) : Int := IntKind.u64.wrap (IntKind.u64.wrap (y + y) + y / 9223372036854775808)
def turnN : Nat → Int → Int
  | 0, x => x
  | k + 1, x => turn1 (turnN k x)

theorem wd_wrap (n : Int) : Wd (IntKind.u64.wrap n) := by unfold Wd; rw [IntKind.wrap_u64]; omega
theorem wd_turn1 (y : Int) : Wd (turn1 y) := wd_wrap _
theorem wd_turnN (k : Nat) (x : Int) (h : Wd x) : Wd (turnN k x) := by
  cases k with
  | zero => exact h
  | succ k => exact wd_turn1 _
theorem turn1_zero (x : Int) (h : Wd x) : turn1 x = rotl 2 9223372036854775808 x := by
  obtain ⟨h0, h1⟩ := h
  unfold turn1 rotl
  rw [IntKind.wrap_u64, IntKind.wrap_u64]
  omega
theorem rotl_split (a b u s : Int) (ha : 0 < a) (hb : 0 < b) (hab : b * a = 18446744073709551616) (hs0 : 0 ≤ s) (hs1 : s < b) : rotl a b (u * b + s) = s * a + u := by
  unfold rotl
  have e1 : (u * b + s) * a = s * a + u * 18446744073709551616 := by rw [Int.add_mul, Int.mul_assoc, hab]; omega
  have h1 : 0 ≤ s * a := Int.mul_nonneg hs0 (by omega)
  have h2 : s * a < b * a := Int.mul_lt_mul_of_pos_right hs1 ha
  rw [hab] at h2
  have e2 : (s * a + u * 18446744073709551616) % 18446744073709551616 = s * a := by rw [Int.add_mul_emod_self_right]; exact Int.emod_eq_of_lt h1 h2
  have e3 : (u * b + s) / b = u := by rw [Int.add_comm, Int.add_mul_ediv_right _ _ (by omega), Int.ediv_eq_zero_of_lt hs0 hs1]; omega
  rw [e1, e2, e3]
theorem turn1_split (t z : Int) (h0 : 0 ≤ t) (h1 : t ≤ 1) (h2 : 0 ≤ z) (h3 : z < 9223372036854775808) : turn1 (t * 9223372036854775808 + z) = 2 * z + t := by
  unfold turn1
  have e1 : (t * 9223372036854775808 + z) / 9223372036854775808 = t := by rw [Int.add_comm, Int.add_mul_ediv_right _ _ (by omega), Int.ediv_eq_zero_of_lt h2 h3]; omega
  have e2 : (t * 9223372036854775808 + z + (t * 9223372036854775808 + z)) % 18446744073709551616 = 2 * z := by
    rw [show t * 9223372036854775808 + z + (t * 9223372036854775808 + z) = 2 * z + t * 18446744073709551616 by omega, Int.add_mul_emod_self_right]
    exact Int.emod_eq_of_lt (by omega) (by omega)
  rw [IntKind.wrap_u64, IntKind.wrap_u64, e1, e2]
  exact Int.emod_eq_of_lt (by omega) (by omega)
theorem turn1_1 (x : Int) (h : Wd x) : turn1 (rotl 2 9223372036854775808 x) = rotl 4 4611686018427387904 x := by
  obtain ⟨h0, h1⟩ := h
  obtain ⟨q, t, s, hx, hq0, hq1, ht0, ht1, hs0, hs1⟩ : ∃ q t s : Int, x = q * 9223372036854775808 + (t * 4611686018427387904 + s) ∧ 0 ≤ q ∧ q < 2 ∧ 0 ≤ t ∧ t ≤ 1 ∧ 0 ≤ s ∧ s < 4611686018427387904 :=
    ⟨x / 9223372036854775808, x % 9223372036854775808 / 4611686018427387904, x % 9223372036854775808 % 4611686018427387904, by omega, by omega, by omega, by omega, by omega, by omega, by omega⟩
  have e1 : rotl 2 9223372036854775808 x = t * 9223372036854775808 + (s * 2 + q) := by rw [hx, rotl_split _ _ _ _ (by decide) (by decide) (by decide) (by omega) (by omega)]; omega
  have e2 : rotl 4 4611686018427387904 x = 2 * (s * 2 + q) + t := by rw [show x = (2 * q + t) * 4611686018427387904 + s by omega, rotl_split _ _ _ _ (by decide) (by decide) (by decide) (by omega) (by omega)]; omega
  rw [e1, e2, turn1_split t (s * 2 + q) ht0 ht1 (by omega) (by omega)]
theorem turn1_2 (x : Int) (h : Wd x) : turn1 (rotl 4 4611686018427387904 x) = rotl 8 2305843009213693952 x := by
  obtain ⟨h0, h1⟩ := h
  obtain ⟨q, t, s, hx, hq0, hq1, ht0, ht1, hs0, hs1⟩ : ∃ q t s : Int, x = q * 4611686018427387904 + (t * 2305843009213693952 + s) ∧ 0 ≤ q ∧ q < 4 ∧ 0 ≤ t ∧ t ≤ 1 ∧ 0 ≤ s ∧ s < 2305843009213693952 :=
    ⟨x / 4611686018427387904, x % 4611686018427387904 / 2305843009213693952, x % 4611686018427387904 % 2305843009213693952, by omega, by omega, by omega, by omega, by omega, by omega, by omega⟩
  have e1 : rotl 4 4611686018427387904 x = t * 9223372036854775808 + (s * 4 + q) := by rw [hx, rotl_split _ _ _ _ (by decide) (by decide) (by decide) (by omega) (by omega)]; omega
  have e2 : rotl 8 2305843009213693952 x = 2 * (s * 4 + q) + t := by rw [show x = (2 * q + t) * 2305843009213693952 + s by omega, rotl_split _ _ _ _ (by decide) (by decide) (by decide) (by omega) (by omega)]; omega
  rw [e1, e2, turn1_split t (s * 4 + q) ht0 ht1 (by omega) (by omega)]
theorem turn1_3 (x : Int) (h : Wd x) : turn1 (rotl 8 2305843009213693952 x) = rotl 16 1152921504606846976 x := by
  obtain ⟨h0, h1⟩ := h
  obtain ⟨q, t, s, hx, hq0, hq1, ht0, ht1, hs0, hs1⟩ : ∃ q t s : Int, x = q * 2305843009213693952 + (t * 1152921504606846976 + s) ∧ 0 ≤ q ∧ q < 8 ∧ 0 ≤ t ∧ t ≤ 1 ∧ 0 ≤ s ∧ s < 1152921504606846976 :=
    ⟨x / 2305843009213693952, x % 2305843009213693952 / 1152921504606846976, x % 2305843009213693952 % 1152921504606846976, by omega, by omega, by omega, by omega, by omega, by omega, by omega⟩
  have e1 : rotl 8 2305843009213693952 x = t * 9223372036854775808 + (s * 8 + q) := by rw [hx, rotl_split _ _ _ _ (by decide) (by decide) (by decide) (by omega) (by omega)]; omega
  have e2 : rotl 16 1152921504606846976 x = 2 * (s * 8 + q) + t := by rw [show x = (2 * q + t) * 1152921504606846976 + s by omega, rotl_split _ _ _ _ (by decide) (by decide) (by decide) (by omega) (by omega)]; omega
  rw [e1, e2, turn1_split t (s * 8 + q) ht0 ht1 (by omega) (by omega)]
theorem turn1_4 (x : Int) (h : Wd x) : turn1 (rotl 16 1152921504606846976 x) = rotl 32 576460752303423488 x := by
  obtain ⟨h0, h1⟩ := h
  obtain ⟨q, t, s, hx, hq0, hq1, ht0, ht1, hs0, hs1⟩ : ∃ q t s : Int, x = q * 1152921504606846976 + (t * 576460752303423488 + s) ∧ 0 ≤ q ∧ q < 16 ∧ 0 ≤ t ∧ t ≤ 1 ∧ 0 ≤ s ∧ s < 576460752303423488 :=
    ⟨x / 1152921504606846976, x % 1152921504606846976 / 576460752303423488, x % 1152921504606846976 % 576460752303423488, by omega, by omega, by omega, by omega, by omega, by omega, by omega⟩
  have e1 : rotl 16 1152921504606846976 x = t * 9223372036854775808 + (s * 16 + q) := by rw [hx, rotl_split _ _ _ _ (by decide) (by decide) (by decide) (by omega) (by omega)]; omega
  have e2 : rotl 32 576460752303423488 x = 2 * (s * 16 + q) + t := by rw [show x = (2 * q + t) * 576460752303423488 + s by omega, rotl_split _ _ _ _ (by decide) (by decide) (by decide) (by omega) (by omega)]; omega
  rw [e1, e2, turn1_split t (s * 16 + q) ht0 ht1 (by omega) (by omega)]
theorem turn1_5 (x : Int) (h : Wd x) : turn1 (rotl 32 576460752303423488 x) = rotl 64 288230376151711744 x := by
  obtain ⟨h0, h1⟩ := h
  obtain ⟨q, t, s, hx, hq0, hq1, ht0, ht1, hs0, hs1⟩ : ∃ q t s : Int, x = q * 576460752303423488 + (t * 288230376151711744 + s) ∧ 0 ≤ q ∧ q < 32 ∧ 0 ≤ t ∧ t ≤ 1 ∧ 0 ≤ s ∧ s < 288230376151711744 :=
    ⟨x / 576460752303423488, x % 576460752303423488 / 288230376151711744, x % 576460752303423488 % 288230376151711744, by omega, by omega, by omega, by omega, by omega, by omega, by omega⟩
  have e1 : rotl 32 576460752303423488 x = t * 9223372036854775808 + (s * 32 + q) := by rw [hx, rotl_split _ _ _ _ (by decide) (by decide) (by decide) (by omega) (by omega)]; omega
  have e2 : rotl 64 288230376151711744 x = 2 * (s * 32 + q) + t := by rw [show x = (2 * q + t) * 288230376151711744 + s by omega, rotl_split _ _ _ _ (by decide) (by decide) (by decide) (by omega) (by omega)]; omega
  rw [e1, e2, turn1_split t (s * 32 + q) ht0 ht1 (by omega) (by omega)]
theorem turn1_6 (x : Int) (h : Wd x) : turn1 (rotl 64 288230376151711744 x) = rotl 128 144115188075855872 x := by
  obtain ⟨h0, h1⟩ := h
  obtain ⟨q, t, s, hx, hq0, hq1, ht0, ht1, hs0, hs1⟩ : ∃ q t s : Int, x = q * 288230376151711744 + (t * 144115188075855872 + s) ∧ 0 ≤ q ∧ q < 64 ∧ 0 ≤ t ∧ t ≤ 1 ∧ 0 ≤ s ∧ s < 144115188075855872 :=
    ⟨x / 288230376151711744, x % 288230376151711744 / 144115188075855872, x % 288230376151711744 % 144115188075855872, by omega, by omega, by omega, by omega, by omega, by omega, by omega⟩
  have e1 : rotl 64 288230376151711744 x = t * 9223372036854775808 + (s * 64 + q) := by rw [hx, rotl_split _ _ _ _ (by decide) (by decide) (by decide) (by omega) (by omega)]; omega
  have e2 : rotl 128 144115188075855872 x = 2 * (s * 64 + q) + t := by rw [show x = (2 * q + t) * 144115188075855872 + s by omega, rotl_split _ _ _ _ (by decide) (by decide) (by decide) (by omega) (by omega)]; omega
  rw [e1, e2, turn1_split t (s * 64 + q) ht0 ht1 (by omega) (by omega)]
theorem turn1_7 (x : Int) (h : Wd x) : turn1 (rotl 128 144115188075855872 x) = rotl 256 72057594037927936 x := by
  obtain ⟨h0, h1⟩ := h
  obtain ⟨q, t, s, hx, hq0, hq1, ht0, ht1, hs0, hs1⟩ : ∃ q t s : Int, x = q * 144115188075855872 + (t * 72057594037927936 + s) ∧ 0 ≤ q ∧ q < 128 ∧ 0 ≤ t ∧ t ≤ 1 ∧ 0 ≤ s ∧ s < 72057594037927936 :=
    ⟨x / 144115188075855872, x % 144115188075855872 / 72057594037927936, x % 144115188075855872 % 72057594037927936, by omega, by omega, by omega, by omega, by omega, by omega, by omega⟩
  have e1 : rotl 128 144115188075855872 x = t * 9223372036854775808 + (s * 128 + q) := by rw [hx, rotl_split _ _ _ _ (by decide) (by decide) (by decide) (by omega) (by omega)]; omega
  have e2 : rotl 256 72057594037927936 x = 2 * (s * 128 + q) + t := by rw [show x = (2 * q + t) * 72057594037927936 + s by omega, rotl_split _ _ _ _ (by decide) (by decide) (by decide) (by omega) (by omega)]; omega
  rw [e1, e2, turn1_split t (s * 128 + q) ht0 ht1 (by omega) (by omega)]
theorem turn1_8 (x : Int) (h : Wd x) : turn1 (rotl 256 72057594037927936 x) = rotl 512 36028797018963968 x := by
  obtain ⟨h0, h1⟩ := h
  obtain ⟨q, t, s, hx, hq0, hq1, ht0, ht1, hs0, hs1⟩ : ∃ q t s : Int, x = q * 72057594037927936 + (t * 36028797018963968 + s) ∧ 0 ≤ q ∧ q < 256 ∧ 0 ≤ t ∧ t ≤ 1 ∧ 0 ≤ s ∧ s < 36028797018963968 :=
    ⟨x / 72057594037927936, x % 72057594037927936 / 36028797018963968, x % 72057594037927936 % 36028797018963968, by omega, by omega, by omega, by omega, by omega, by omega, by omega⟩
  have e1 : rotl 256 72057594037927936 x = t * 9223372036854775808 + (s * 256 + q) := by rw [hx, rotl_split _ _ _ _ (by decide) (by decide) (by decide) (by omega) (by omega)]; omega
  have e2 : rotl 512 36028797018963968 x = 2 * (s * 256 + q) + t := by rw [show x = (2 * q + t) * 36028797018963968 + s by omega, rotl_split _ _ _ _ (by decide) (by decide) (by decide) (by omega) (by omega)]; omega
  rw [e1, e2, turn1_split t (s * 256 + q) ht0 ht1 (by omega) (by omega)]
theorem turn1_9 (x : Int) (h : Wd x) : turn1 (rotl 512 36028797018963968 x) = rotl 1024 18014398509481984 x := by
  obtain ⟨h0, h1⟩ := h
  obtain ⟨q, t, s, hx, hq0, hq1, ht0, ht1, hs0, hs1⟩ : ∃ q t s : Int, x = q * 36028797018963968 + (t * 18014398509481984 + s) ∧ 0 ≤ q ∧ q < 512 ∧ 0 ≤ t ∧ t ≤ 1 ∧ 0 ≤ s ∧ s < 18014398509481984 :=
    ⟨x / 36028797018963968, x % 36028797018963968 / 18014398509481984, x % 36028797018963968 % 18014398509481984, by omega, by omega, by omega, by omega, by omega, by omega, by omega⟩
  have e1 : rotl 512 36028797018963968 x = t * 9223372036854775808 + (s * 512 + q) := by rw [hx, rotl_split _ _ _ _ (by decide) (by decide) (by decide) (by omega) (by omega)]; omega
  have e2 : rotl 1024 18014398509481984 x = 2 * (s * 512 + q) + t := by rw [show x = (2 * q + t) * 18014398509481984 + s by omega, rotl_split _ _ _ _ (by decide) (by decide) (by decide) (by omega) (by omega)]; omega
  rw [e1, e2, turn1_split t (s * 512 + q) ht0 ht1 (by omega) (by omega)]
theorem turn1_10 (x : Int) (h : Wd x) : turn1 (rotl 1024 18014398509481984 x) = rotl 2048 9007199254740992 x := by
  obtain ⟨h0, h1⟩ := h
  obtain ⟨q, t, s, hx, hq0, hq1, ht0, ht1, hs0, hs1⟩ : ∃ q t s : Int, x = q * 18014398509481984 + (t * 9007199254740992 + s) ∧ 0 ≤ q ∧ q < 1024 ∧ 0 ≤ t ∧ t ≤ 1 ∧ 0 ≤ s ∧ s < 9007199254740992 :=
    ⟨x / 18014398509481984, x % 18014398509481984 / 9007199254740992, x % 18014398509481984 % 9007199254740992, by omega, by omega, by omega, by omega, by omega, by omega, by omega⟩
  have e1 : rotl 1024 18014398509481984 x = t * 9223372036854775808 + (s * 1024 + q) := by rw [hx, rotl_split _ _ _ _ (by decide) (by decide) (by decide) (by omega) (by omega)]; omega
  have e2 : rotl 2048 9007199254740992 x = 2 * (s * 1024 + q) + t := by rw [show x = (2 * q + t) * 9007199254740992 + s by omega, rotl_split _ _ _ _ (by decide) (by decide) (by decide) (by omega) (by omega)]; omega
  rw [e1, e2, turn1_split t (s * 1024 + q) ht0 ht1 (by omega) (by omega)]
theorem turn1_11 (x : Int) (h : Wd x) : turn1 (rotl 2048 9007199254740992 x) = rotl 4096 4503599627370496 x := by
  obtain ⟨h0, h1⟩ := h
  obtain ⟨q, t, s, hx, hq0, hq1, ht0, ht1, hs0, hs1⟩ : ∃ q t s : Int, x = q * 9007199254740992 + (t * 4503599627370496 + s) ∧ 0 ≤ q ∧ q < 2048 ∧ 0 ≤ t ∧ t ≤ 1 ∧ 0 ≤ s ∧ s < 4503599627370496 :=
    ⟨x / 9007199254740992, x % 9007199254740992 / 4503599627370496, x % 9007199254740992 % 4503599627370496, by omega, by omega, by omega, by omega, by omega, by omega, by omega⟩
  have e1 : rotl 2048 9007199254740992 x = t * 9223372036854775808 + (s * 2048 + q) := by rw [hx, rotl_split _ _ _ _ (by decide) (by decide) (by decide) (by omega) (by omega)]; omega
  have e2 : rotl 4096 4503599627370496 x = 2 * (s * 2048 + q) + t := by rw [show x = (2 * q + t) * 4503599627370496 + s by omega, rotl_split _ _ _ _ (by decide) (by decide) (by decide) (by omega) (by omega)]; omega
  rw [e1, e2, turn1_split t (s * 2048 + q) ht0 ht1 (by omega) (by omega)]
theorem turn1_12 (x : Int) (h : Wd x) : turn1 (rotl 4096 4503599627370496 x) = rotl 8192 2251799813685248 x := by
  obtain ⟨h0, h1⟩ := h
  obtain ⟨q, t, s, hx, hq0, hq1, ht0, ht1, hs0, hs1⟩ : ∃ q t s : Int, x = q * 4503599627370496 + (t * 2251799813685248 + s) ∧ 0 ≤ q ∧ q < 4096 ∧ 0 ≤ t ∧ t ≤ 1 ∧ 0 ≤ s ∧ s < 2251799813685248 :=
    ⟨x / 4503599627370496, x % 4503599627370496 / 2251799813685248, x % 4503599627370496 % 2251799813685248, by omega, by omega, by omega, by omega, by omega, by omega, by omega⟩
  have e1 : rotl 4096 4503599627370496 x = t * 9223372036854775808 + (s * 4096 + q) := by rw [hx, rotl_split _ _ _ _ (by decide) (by decide) (by decide) (by omega) (by omega)]; omega
  have e2 : rotl 8192 2251799813685248 x = 2 * (s * 4096 + q) + t := by rw [show x = (2 * q + t) * 2251799813685248 + s by omega, rotl_split _ _ _ _ (by decide) (by decide) (by decide) (by omega) (by omega)]; omega
  rw [e1, e2, turn1_split t (s * 4096 + q) ht0 ht1 (by omega) (by omega)]
theorem turn1_13 (x : Int) (h : Wd x) : turn1 (rotl 8192 2251799813685248 x) = rotl 16384 1125899906842624 x := by
  obtain ⟨h0, h1⟩ := h
  obtain ⟨q, t, s, hx, hq0, hq1, ht0, ht1, hs0, hs1⟩ : ∃ q t s : Int, x = q * 2251799813685248 + (t * 1125899906842624 + s) ∧ 0 ≤ q ∧ q < 8192 ∧ 0 ≤ t ∧ t ≤ 1 ∧ 0 ≤ s ∧ s < 1125899906842624 :=
    ⟨x / 2251799813685248, x % 2251799813685248 / 1125899906842624, x % 2251799813685248 % 1125899906842624, by omega, by omega, by omega, by omega, by omega, by omega, by omega⟩
  have e1 : rotl 8192 2251799813685248 x = t * 9223372036854775808 + (s * 8192 + q) := by rw [hx, rotl_split _ _ _ _ (by decide) (by decide) (by decide) (by omega) (by omega)]; omega
  have e2 : rotl 16384 1125899906842624 x = 2 * (s * 8192 + q) + t := by rw [show x = (2 * q + t) * 1125899906842624 + s by omega, rotl_split _ _ _ _ (by decide) (by decide) (by decide) (by omega) (by omega)]; omega
  rw [e1, e2, turn1_split t (s * 8192 + q) ht0 ht1 (by omega) (by omega)]
theorem turn1_14 (x : Int) (h : Wd x) : turn1 (rotl 16384 1125899906842624 x) = rotl 32768 562949953421312 x := by
  obtain ⟨h0, h1⟩ := h
  obtain ⟨q, t, s, hx, hq0, hq1, ht0, ht1, hs0, hs1⟩ : ∃ q t s : Int, x = q * 1125899906842624 + (t * 562949953421312 + s) ∧ 0 ≤ q ∧ q < 16384 ∧ 0 ≤ t ∧ t ≤ 1 ∧ 0 ≤ s ∧ s < 562949953421312 :=
    ⟨x / 1125899906842624, x % 1125899906842624 / 562949953421312, x % 1125899906842624 % 562949953421312, by omega, by omega, by omega, by omega, by omega, by omega, by omega⟩
  have e1 : rotl 16384 1125899906842624 x = t * 9223372036854775808 + (s * 16384 + q) := by rw [hx, rotl_split _ _ _ _ (by decide) (by decide) (by decide) (by omega) (by omega)]; omega
  have e2 : rotl 32768 562949953421312 x = 2 * (s * 16384 + q) + t := by rw [show x = (2 * q + t) * 562949953421312 + s by omega, rotl_split _ _ _ _ (by decide) (by decide) (by decide) (by omega) (by omega)]; omega
  rw [e1, e2, turn1_split t (s * 16384 + q) ht0 ht1 (by omega) (by omega)]
theorem turn1_15 (x : Int) (h : Wd x) : turn1 (rotl 32768 562949953421312 x) = rotl 65536 281474976710656 x := by
  obtain ⟨h0, h1⟩ := h
  obtain ⟨q, t, s, hx, hq0, hq1, ht0, ht1, hs0, hs1⟩ : ∃ q t s : Int, x = q * 562949953421312 + (t * 281474976710656 + s) ∧ 0 ≤ q ∧ q < 32768 ∧ 0 ≤ t ∧ t ≤ 1 ∧ 0 ≤ s ∧ s < 281474976710656 :=
    ⟨x / 562949953421312, x % 562949953421312 / 281474976710656, x % 562949953421312 % 281474976710656, by omega, by omega, by omega, by omega, by omega, by omega, by omega⟩
  have e1 : rotl 32768 562949953421312 x = t * 9223372036854775808 + (s * 32768 + q) := by rw [hx, rotl_split _ _ _ _ (by decide) (by decide) (by decide) (by omega) (by omega)]; omega
  have e2 : rotl 65536 281474976710656 x = 2 * (s * 32768 + q) + t := by rw [show x = (2 * q + t) * 281474976710656 + s by omega, rotl_split _ _ _ _ (by decide) (by decide) (by decide) (by omega) (by omega)]; omega
  rw [e1, e2, turn1_split t (s * 32768 + q) ht0 ht1 (by omega) (by omega)]
theorem turn1_16 (x : Int) (h : Wd x) : turn1 (rotl 65536 281474976710656 x) = rotl 131072 140737488355328 x := by
  obtain ⟨h0, h1⟩ := h
  obtain ⟨q, t, s, hx, hq0, hq1, ht0, ht1, hs0, hs1⟩ : ∃ q t s : Int, x = q * 281474976710656 + (t * 140737488355328 + s) ∧ 0 ≤ q ∧ q < 65536 ∧ 0 ≤ t ∧ t ≤ 1 ∧ 0 ≤ s ∧ s < 140737488355328 :=
    ⟨x / 281474976710656, x % 281474976710656 / 140737488355328, x % 281474976710656 % 140737488355328, by omega, by omega, by omega, by omega, by omega, by omega, by omega⟩
  have e1 : rotl 65536 281474976710656 x = t * 9223372036854775808 + (s * 65536 + q) := by rw [hx, rotl_split _ _ _ _ (by decide) (by decide) (by decide) (by omega) (by omega)]; omega
  have e2 : rotl 131072 140737488355328 x = 2 * (s * 65536 + q) + t := by rw [show x = (2 * q + t) * 140737488355328 + s by omega, rotl_split _ _ _ _ (by decide) (by decide) (by decide) (by omega) (by omega)]; omega
  rw [e1, e2, turn1_split t (s * 65536 + q) ht0 ht1 (by omega) (by omega)]
theorem turn1_17 (x : Int) (h : Wd x) : turn1 (rotl 131072 140737488355328 x) = rotl 262144 70368744177664 x := by
  obtain ⟨h0, h1⟩ := h
  obtain ⟨q, t, s, hx, hq0, hq1, ht0, ht1, hs0, hs1⟩ : ∃ q t s : Int, x = q * 140737488355328 + (t * 70368744177664 + s) ∧ 0 ≤ q ∧ q < 131072 ∧ 0 ≤ t ∧ t ≤ 1 ∧ 0 ≤ s ∧ s < 70368744177664 :=
    ⟨x / 140737488355328, x % 140737488355328 / 70368744177664, x % 140737488355328 % 70368744177664, by omega, by omega, by omega, by omega, by omega, by omega, by omega⟩
  have e1 : rotl 131072 140737488355328 x = t * 9223372036854775808 + (s * 131072 + q) := by rw [hx, rotl_split _ _ _ _ (by decide) (by decide) (by decide) (by omega) (by omega)]; omega
  have e2 : rotl 262144 70368744177664 x = 2 * (s * 131072 + q) + t := by rw [show x = (2 * q + t) * 70368744177664 + s by omega, rotl_split _ _ _ _ (by decide) (by decide) (by decide) (by omega) (by omega)]; omega
  rw [e1, e2, turn1_split t (s * 131072 + q) ht0 ht1 (by omega) (by omega)]
theorem turn1_18 (x : Int) (h : Wd x) : turn1 (rotl 262144 70368744177664 x) = rotl 524288 35184372088832 x := by
  obtain ⟨h0, h1⟩ := h
  obtain ⟨q, t, s, hx, hq0, hq1, ht0, ht1, hs0, hs1⟩ : ∃ q t s : Int, x = q * 70368744177664 + (t * 35184372088832 + s) ∧ 0 ≤ q ∧ q < 262144 ∧ 0 ≤ t ∧ t ≤ 1 ∧ 0 ≤ s ∧ s < 35184372088832 :=
    ⟨x / 70368744177664, x % 70368744177664 / 35184372088832, x % 70368744177664 % 35184372088832, by omega, by omega, by omega, by omega, by omega, by omega, by omega⟩
  have e1 : rotl 262144 70368744177664 x = t * 9223372036854775808 + (s * 262144 + q) := by rw [hx, rotl_split _ _ _ _ (by decide) (by decide) (by decide) (by omega) (by omega)]; omega
  have e2 : rotl 524288 35184372088832 x = 2 * (s * 262144 + q) + t := by rw [show x = (2 * q + t) * 35184372088832 + s by omega, rotl_split _ _ _ _ (by decide) (by decide) (by decide) (by omega) (by omega)]; omega
  rw [e1, e2, turn1_split t (s * 262144 + q) ht0 ht1 (by omega) (by omega)]
theorem turn1_19 (x : Int) (h : Wd x) : turn1 (rotl 524288 35184372088832 x) = rotl 1048576 17592186044416 x := by
  obtain ⟨h0, h1⟩ := h
  obtain ⟨q, t, s, hx, hq0, hq1, ht0, ht1, hs0, hs1⟩ : ∃ q t s : Int, x = q * 35184372088832 + (t * 17592186044416 + s) ∧ 0 ≤ q ∧ q < 524288 ∧ 0 ≤ t ∧ t ≤ 1 ∧ 0 ≤ s ∧ s < 17592186044416 :=
    ⟨x / 35184372088832, x % 35184372088832 / 17592186044416, x % 35184372088832 % 17592186044416, by omega, by omega, by omega, by omega, by omega, by omega, by omega⟩
  have e1 : rotl 524288 35184372088832 x = t * 9223372036854775808 + (s * 524288 + q) := by rw [hx, rotl_split _ _ _ _ (by decide) (by decide) (by decide) (by omega) (by omega)]; omega
  have e2 : rotl 1048576 17592186044416 x = 2 * (s * 524288 + q) + t := by rw [show x = (2 * q + t) * 17592186044416 + s by omega, rotl_split _ _ _ _ (by decide) (by decide) (by decide) (by omega) (by omega)]; omega
  rw [e1, e2, turn1_split t (s * 524288 + q) ht0 ht1 (by omega) (by omega)]
theorem turn1_20 (x : Int) (h : Wd x) : turn1 (rotl 1048576 17592186044416 x) = rotl 2097152 8796093022208 x := by
  obtain ⟨h0, h1⟩ := h
  obtain ⟨q, t, s, hx, hq0, hq1, ht0, ht1, hs0, hs1⟩ : ∃ q t s : Int, x = q * 17592186044416 + (t * 8796093022208 + s) ∧ 0 ≤ q ∧ q < 1048576 ∧ 0 ≤ t ∧ t ≤ 1 ∧ 0 ≤ s ∧ s < 8796093022208 :=
    ⟨x / 17592186044416, x % 17592186044416 / 8796093022208, x % 17592186044416 % 8796093022208, by omega, by omega, by omega, by omega, by omega, by omega, by omega⟩
  have e1 : rotl 1048576 17592186044416 x = t * 9223372036854775808 + (s * 1048576 + q) := by rw [hx, rotl_split _ _ _ _ (by decide) (by decide) (by decide) (by omega) (by omega)]; omega
  have e2 : rotl 2097152 8796093022208 x = 2 * (s * 1048576 + q) + t := by rw [show x = (2 * q + t) * 8796093022208 + s by omega, rotl_split _ _ _ _ (by decide) (by decide) (by decide) (by omega) (by omega)]; omega
  rw [e1, e2, turn1_split t (s * 1048576 + q) ht0 ht1 (by omega) (by omega)]
theorem turn1_21 (x : Int) (h : Wd x) : turn1 (rotl 2097152 8796093022208 x) = rotl 4194304 4398046511104 x := by
  obtain ⟨h0, h1⟩ := h
  obtain ⟨q, t, s, hx, hq0, hq1, ht0, ht1, hs0, hs1⟩ : ∃ q t s : Int, x = q * 8796093022208 + (t * 4398046511104 + s) ∧ 0 ≤ q ∧ q < 2097152 ∧ 0 ≤ t ∧ t ≤ 1 ∧ 0 ≤ s ∧ s < 4398046511104 :=
    ⟨x / 8796093022208, x % 8796093022208 / 4398046511104, x % 8796093022208 % 4398046511104, by omega, by omega, by omega, by omega, by omega, by omega, by omega⟩
  have e1 : rotl 2097152 8796093022208 x = t * 9223372036854775808 + (s * 2097152 + q) := by rw [hx, rotl_split _ _ _ _ (by decide) (by decide) (by decide) (by omega) (by omega)]; omega
  have e2 : rotl 4194304 4398046511104 x = 2 * (s * 2097152 + q) + t := by rw [show x = (2 * q + t) * 4398046511104 + s by omega, rotl_split _ _ _ _ (by decide) (by decide) (by decide) (by omega) (by omega)]; omega
  rw [e1, e2, turn1_split t (s * 2097152 + q) ht0 ht1 (by omega) (by omega)]
theorem turn1_22 (x : Int) (h : Wd x) : turn1 (rotl 4194304 4398046511104 x) = rotl 8388608 2199023255552 x := by
  obtain ⟨h0, h1⟩ := h
  obtain ⟨q, t, s, hx, hq0, hq1, ht0, ht1, hs0, hs1⟩ : ∃ q t s : Int, x = q * 4398046511104 + (t * 2199023255552 + s) ∧ 0 ≤ q ∧ q < 4194304 ∧ 0 ≤ t ∧ t ≤ 1 ∧ 0 ≤ s ∧ s < 2199023255552 :=
    ⟨x / 4398046511104, x % 4398046511104 / 2199023255552, x % 4398046511104 % 2199023255552, by omega, by omega, by omega, by omega, by omega, by omega, by omega⟩
  have e1 : rotl 4194304 4398046511104 x = t * 9223372036854775808 + (s * 4194304 + q) := by rw [hx, rotl_split _ _ _ _ (by decide) (by decide) (by decide) (by omega) (by omega)]; omega
  have e2 : rotl 8388608 2199023255552 x = 2 * (s * 4194304 + q) + t := by rw [show x = (2 * q + t) * 2199023255552 + s by omega, rotl_split _ _ _ _ (by decide) (by decide) (by decide) (by omega) (by omega)]; omega
  rw [e1, e2, turn1_split t (s * 4194304 + q) ht0 ht1 (by omega) (by omega)]
theorem turn1_23 (x : Int) (h : Wd x) : turn1 (rotl 8388608 2199023255552 x) = rotl 16777216 1099511627776 x := by
  obtain ⟨h0, h1⟩ := h
  obtain ⟨q, t, s, hx, hq0, hq1, ht0, ht1, hs0, hs1⟩ : ∃ q t s : Int, x = q * 2199023255552 + (t * 1099511627776 + s) ∧ 0 ≤ q ∧ q < 8388608 ∧ 0 ≤ t ∧ t ≤ 1 ∧ 0 ≤ s ∧ s < 1099511627776 :=
    ⟨x / 2199023255552, x % 2199023255552 / 1099511627776, x % 2199023255552 % 1099511627776, by omega, by omega, by omega, by omega, by omega, by omega, by omega⟩
  have e1 : rotl 8388608 2199023255552 x = t * 9223372036854775808 + (s * 8388608 + q) := by rw [hx, rotl_split _ _ _ _ (by decide) (by decide) (by decide) (by omega) (by omega)]; omega
  have e2 : rotl 16777216 1099511627776 x = 2 * (s * 8388608 + q) + t := by rw [show x = (2 * q + t) * 1099511627776 + s by omega, rotl_split _ _ _ _ (by decide) (by decide) (by decide) (by omega) (by omega)]; omega
  rw [e1, e2, turn1_split t (s * 8388608 + q) ht0 ht1 (by omega) (by omega)]
theorem turn1_24 (x : Int) (h : Wd x) : turn1 (rotl 16777216 1099511627776 x) = rotl 33554432 549755813888 x := by
  obtain ⟨h0, h1⟩ := h
  obtain ⟨q, t, s, hx, hq0, hq1, ht0, ht1, hs0, hs1⟩ : ∃ q t s : Int, x = q * 1099511627776 + (t * 549755813888 + s) ∧ 0 ≤ q ∧ q < 16777216 ∧ 0 ≤ t ∧ t ≤ 1 ∧ 0 ≤ s ∧ s < 549755813888 :=
    ⟨x / 1099511627776, x % 1099511627776 / 549755813888, x % 1099511627776 % 549755813888, by omega, by omega, by omega, by omega, by omega, by omega, by omega⟩
  have e1 : rotl 16777216 1099511627776 x = t * 9223372036854775808 + (s * 16777216 + q) := by rw [hx, rotl_split _ _ _ _ (by decide) (by decide) (by decide) (by omega) (by omega)]; omega
  have e2 : rotl 33554432 549755813888 x = 2 * (s * 16777216 + q) + t := by rw [show x = (2 * q + t) * 549755813888 + s by omega, rotl_split _ _ _ _ (by decide) (by decide) (by decide) (by omega) (by omega)]; omega
  rw [e1, e2, turn1_split t (s * 16777216 + q) ht0 ht1 (by omega) (by omega)]
theorem turn1_25 (x : Int) (h : Wd x) : turn1 (rotl 33554432 549755813888 x) = rotl 67108864 274877906944 x := by
  obtain ⟨h0, h1⟩ := h
  obtain ⟨q, t, s, hx, hq0, hq1, ht0, ht1, hs0, hs1⟩ : ∃ q t s : Int, x = q * 549755813888 + (t * 274877906944 + s) ∧ 0 ≤ q ∧ q < 33554432 ∧ 0 ≤ t ∧ t ≤ 1 ∧ 0 ≤ s ∧ s < 274877906944 :=
    ⟨x / 549755813888, x % 549755813888 / 274877906944, x % 549755813888 % 274877906944, by omega, by omega, by omega, by omega, by omega, by omega, by omega⟩
  have e1 : rotl 33554432 549755813888 x = t * 9223372036854775808 + (s * 33554432 + q) := by rw [hx, rotl_split _ _ _ _ (by decide) (by decide) (by decide) (by omega) (by omega)]; omega
  have e2 : rotl 67108864 274877906944 x = 2 * (s * 33554432 + q) + t := by rw [show x = (2 * q + t) * 274877906944 + s by omega, rotl_split _ _ _ _ (by decide) (by decide) (by decide) (by omega) (by omega)]; omega
  rw [e1, e2, turn1_split t (s * 33554432 + q) ht0 ht1 (by omega) (by omega)]
theorem turn1_26 (x : Int) (h : Wd x) : turn1 (rotl 67108864 274877906944 x) = rotl 134217728 137438953472 x := by
  obtain ⟨h0, h1⟩ := h
  obtain ⟨q, t, s, hx, hq0, hq1, ht0, ht1, hs0, hs1⟩ : ∃ q t s : Int, x = q * 274877906944 + (t * 137438953472 + s) ∧ 0 ≤ q ∧ q < 67108864 ∧ 0 ≤ t ∧ t ≤ 1 ∧ 0 ≤ s ∧ s < 137438953472 :=
    ⟨x / 274877906944, x % 274877906944 / 137438953472, x % 274877906944 % 137438953472, by omega, by omega, by omega, by omega, by omega, by omega, by omega⟩
  have e1 : rotl 67108864 274877906944 x = t * 9223372036854775808 + (s * 67108864 + q) := by rw [hx, rotl_split _ _ _ _ (by decide) (by decide) (by decide) (by omega) (by omega)]; omega
  have e2 : rotl 134217728 137438953472 x = 2 * (s * 67108864 + q) + t := by rw [show x = (2 * q + t) * 137438953472 + s by omega, rotl_split _ _ _ _ (by decide) (by decide) (by decide) (by omega) (by omega)]; omega
  rw [e1, e2, turn1_split t (s * 67108864 + q) ht0 ht1 (by omega) (by omega)]
theorem turn1_27 (x : Int) (h : Wd x) : turn1 (rotl 134217728 137438953472 x) = rotl 268435456 68719476736 x := by
  obtain ⟨h0, h1⟩ := h
  obtain ⟨q, t, s, hx, hq0, hq1, ht0, ht1, hs0, hs1⟩ : ∃ q t s : Int, x = q * 137438953472 + (t * 68719476736 + s) ∧ 0 ≤ q ∧ q < 134217728 ∧ 0 ≤ t ∧ t ≤ 1 ∧ 0 ≤ s ∧ s < 68719476736 :=
    ⟨x / 137438953472, x % 137438953472 / 68719476736, x % 137438953472 % 68719476736, by omega, by omega, by omega, by omega, by omega, by omega, by omega⟩
  have e1 : rotl 134217728 137438953472 x = t * 9223372036854775808 + (s * 134217728 + q) := by rw [hx, rotl_split _ _ _ _ (by decide) (by decide) (by decide) (by omega) (by omega)]; omega
  have e2 : rotl 268435456 68719476736 x = 2 * (s * 134217728 + q) + t := by rw [show x = (2 * q + t) * 68719476736 + s by omega, rotl_split _ _ _ _ (by decide) (by decide) (by decide) (by omega) (by omega)]; omega
  rw [e1, e2, turn1_split t (s * 134217728 + q) ht0 ht1 (by omega) (by omega)]
theorem turn1_28 (x : Int) (h : Wd x) : turn1 (rotl 268435456 68719476736 x) = rotl 536870912 34359738368 x := by
  obtain ⟨h0, h1⟩ := h
  obtain ⟨q, t, s, hx, hq0, hq1, ht0, ht1, hs0, hs1⟩ : ∃ q t s : Int, x = q * 68719476736 + (t * 34359738368 + s) ∧ 0 ≤ q ∧ q < 268435456 ∧ 0 ≤ t ∧ t ≤ 1 ∧ 0 ≤ s ∧ s < 34359738368 :=
    ⟨x / 68719476736, x % 68719476736 / 34359738368, x % 68719476736 % 34359738368, by omega, by omega, by omega, by omega, by omega, by omega, by omega⟩
  have e1 : rotl 268435456 68719476736 x = t * 9223372036854775808 + (s * 268435456 + q) := by rw [hx, rotl_split _ _ _ _ (by decide) (by decide) (by decide) (by omega) (by omega)]; omega
  have e2 : rotl 536870912 34359738368 x = 2 * (s * 268435456 + q) + t := by rw [show x = (2 * q + t) * 34359738368 + s by omega, rotl_split _ _ _ _ (by decide) (by decide) (by decide) (by omega) (by omega)]; omega
  rw [e1, e2, turn1_split t (s * 268435456 + q) ht0 ht1 (by omega) (by omega)]
theorem turn1_29 (x : Int) (h : Wd x) : turn1 (rotl 536870912 34359738368 x) = rotl 1073741824 17179869184 x := by
  obtain ⟨h0, h1⟩ := h
  obtain ⟨q, t, s, hx, hq0, hq1, ht0, ht1, hs0, hs1⟩ : ∃ q t s : Int, x = q * 34359738368 + (t * 17179869184 + s) ∧ 0 ≤ q ∧ q < 536870912 ∧ 0 ≤ t ∧ t ≤ 1 ∧ 0 ≤ s ∧ s < 17179869184 :=
    ⟨x / 34359738368, x % 34359738368 / 17179869184, x % 34359738368 % 17179869184, by omega, by omega, by omega, by omega, by omega, by omega, by omega⟩
  have e1 : rotl 536870912 34359738368 x = t * 9223372036854775808 + (s * 536870912 + q) := by rw [hx, rotl_split _ _ _ _ (by decide) (by decide) (by decide) (by omega) (by omega)]; omega
  have e2 : rotl 1073741824 17179869184 x = 2 * (s * 536870912 + q) + t := by rw [show x = (2 * q + t) * 17179869184 + s by omega, rotl_split _ _ _ _ (by decide) (by decide) (by decide) (by omega) (by omega)]; omega
  rw [e1, e2, turn1_split t (s * 536870912 + q) ht0 ht1 (by omega) (by omega)]
theorem turn1_30 (x : Int) (h : Wd x) : turn1 (rotl 1073741824 17179869184 x) = rotl 2147483648 8589934592 x := by
  obtain ⟨h0, h1⟩ := h
  obtain ⟨q, t, s, hx, hq0, hq1, ht0, ht1, hs0, hs1⟩ : ∃ q t s : Int, x = q * 17179869184 + (t * 8589934592 + s) ∧ 0 ≤ q ∧ q < 1073741824 ∧ 0 ≤ t ∧ t ≤ 1 ∧ 0 ≤ s ∧ s < 8589934592 :=
    ⟨x / 17179869184, x % 17179869184 / 8589934592, x % 17179869184 % 8589934592, by omega, by omega, by omega, by omega, by omega, by omega, by omega⟩
  have e1 : rotl 1073741824 17179869184 x = t * 9223372036854775808 + (s * 1073741824 + q) := by rw [hx, rotl_split _ _ _ _ (by decide) (by decide) (by decide) (by omega) (by omega)]; omega
  have e2 : rotl 2147483648 8589934592 x = 2 * (s * 1073741824 + q) + t := by rw [show x = (2 * q + t) * 8589934592 + s by omega, rotl_split _ _ _ _ (by decide) (by decide) (by decide) (by omega) (by omega)]; omega
  rw [e1, e2, turn1_split t (s * 1073741824 + q) ht0 ht1 (by omega) (by omega)]
theorem turn1_31 (x : Int) (h : Wd x) : turn1 (rotl 2147483648 8589934592 x) = rotl 4294967296 4294967296 x := by
  obtain ⟨h0, h1⟩ := h
  obtain ⟨q, t, s, hx, hq0, hq1, ht0, ht1, hs0, hs1⟩ : ∃ q t s : Int, x = q * 8589934592 + (t * 4294967296 + s) ∧ 0 ≤ q ∧ q < 2147483648 ∧ 0 ≤ t ∧ t ≤ 1 ∧ 0 ≤ s ∧ s < 4294967296 :=
    ⟨x / 8589934592, x % 8589934592 / 4294967296, x % 8589934592 % 4294967296, by omega, by omega, by omega, by omega, by omega, by omega, by omega⟩
  have e1 : rotl 2147483648 8589934592 x = t * 9223372036854775808 + (s * 2147483648 + q) := by rw [hx, rotl_split _ _ _ _ (by decide) (by decide) (by decide) (by omega) (by omega)]; omega
  have e2 : rotl 4294967296 4294967296 x = 2 * (s * 2147483648 + q) + t := by rw [show x = (2 * q + t) * 4294967296 + s by omega, rotl_split _ _ _ _ (by decide) (by decide) (by decide) (by omega) (by omega)]; omega
  rw [e1, e2, turn1_split t (s * 2147483648 + q) ht0 ht1 (by omega) (by omega)]
theorem turnN_1 (x : Int) (h : Wd x) : turnN 1 x = rotl 2 9223372036854775808 x := turn1_zero x h
theorem turnN_2 (x : Int) (h : Wd x) : turnN 2 x = rotl 4 4611686018427387904 x := by rw [show turnN 2 x = turn1 (turnN 1 x) from rfl, turnN_1 x h]; exact turn1_1 x h
theorem turnN_3 (x : Int) (h : Wd x) : turnN 3 x = rotl 8 2305843009213693952 x := by rw [show turnN 3 x = turn1 (turnN 2 x) from rfl, turnN_2 x h]; exact turn1_2 x h
theorem turnN_4 (x : Int) (h : Wd x) : turnN 4 x = rotl 16 1152921504606846976 x := by rw [show turnN 4 x = turn1 (turnN 3 x) from rfl, turnN_3 x h]; exact turn1_3 x h
theorem turnN_5 (x : Int) (h : Wd x) : turnN 5 x = rotl 32 576460752303423488 x := by rw [show turnN 5 x = turn1 (turnN 4 x) from rfl, turnN_4 x h]; exact turn1_4 x h
theorem turnN_6 (x : Int) (h : Wd x) : turnN 6 x = rotl 64 288230376151711744 x := by rw [show turnN 6 x = turn1 (turnN 5 x) from rfl, turnN_5 x h]; exact turn1_5 x h
theorem turnN_7 (x : Int) (h : Wd x) : turnN 7 x = rotl 128 144115188075855872 x := by rw [show turnN 7 x = turn1 (turnN 6 x) from rfl, turnN_6 x h]; exact turn1_6 x h
theorem turnN_8 (x : Int) (h : Wd x) : turnN 8 x = rotl 256 72057594037927936 x := by rw [show turnN 8 x = turn1 (turnN 7 x) from rfl, turnN_7 x h]; exact turn1_7 x h
theorem turnN_9 (x : Int) (h : Wd x) : turnN 9 x = rotl 512 36028797018963968 x := by rw [show turnN 9 x = turn1 (turnN 8 x) from rfl, turnN_8 x h]; exact turn1_8 x h
theorem turnN_10 (x : Int) (h : Wd x) : turnN 10 x = rotl 1024 18014398509481984 x := by rw [show turnN 10 x = turn1 (turnN 9 x) from rfl, turnN_9 x h]; exact turn1_9 x h
theorem turnN_11 (x : Int) (h : Wd x) : turnN 11 x = rotl 2048 9007199254740992 x := by rw [show turnN 11 x = turn1 (turnN 10 x) from rfl, turnN_10 x h]; exact turn1_10 x h
theorem turnN_12 (x : Int) (h : Wd x) : turnN 12 x = rotl 4096 4503599627370496 x := by rw [show turnN 12 x = turn1 (turnN 11 x) from rfl, turnN_11 x h]; exact turn1_11 x h
theorem turnN_13 (x : Int) (h : Wd x) : turnN 13 x = rotl 8192 2251799813685248 x := by rw [show turnN 13 x = turn1 (turnN 12 x) from rfl, turnN_12 x h]; exact turn1_12 x h
theorem turnN_14 (x : Int) (h : Wd x) : turnN 14 x = rotl 16384 1125899906842624 x := by rw [show turnN 14 x = turn1 (turnN 13 x) from rfl, turnN_13 x h]; exact turn1_13 x h
theorem turnN_15 (x : Int) (h : Wd x) : turnN 15 x = rotl 32768 562949953421312 x := by rw [show turnN 15 x = turn1 (turnN 14 x) from rfl, turnN_14 x h]; exact turn1_14 x h
theorem turnN_16 (x : Int) (h : Wd x) : turnN 16 x = rotl 65536 281474976710656 x := by rw [show turnN 16 x = turn1 (turnN 15 x) from rfl, turnN_15 x h]; exact turn1_15 x h
theorem turnN_17 (x : Int) (h : Wd x) : turnN 17 x = rotl 131072 140737488355328 x := by rw [show turnN 17 x = turn1 (turnN 16 x) from rfl, turnN_16 x h]; exact turn1_16 x h
theorem turnN_18 (x : Int) (h : Wd x) : turnN 18 x = rotl 262144 70368744177664 x := by rw [show turnN 18 x = turn1 (turnN 17 x) from rfl, turnN_17 x h]; exact turn1_17 x h
theorem turnN_19 (x : Int) (h : Wd x) : turnN 19 x = rotl 524288 35184372088832 x := by rw [show turnN 19 x = turn1 (turnN 18 x) from rfl, turnN_18 x h]; exact turn1_18 x h
theorem turnN_20 (x : Int) (h : Wd x) : turnN 20 x = rotl 1048576 17592186044416 x := by rw [show turnN 20 x = turn1 (turnN 19 x) from rfl, turnN_19 x h]; exact turn1_19 x h
theorem turnN_21 (x : Int) (h : Wd x) : turnN 21 x = rotl 2097152 8796093022208 x := by rw [show turnN 21 x = turn1 (turnN 20 x) from rfl, turnN_20 x h]; exact turn1_20 x h
theorem turnN_22 (x : Int) (h : Wd x) : turnN 22 x = rotl 4194304 4398046511104 x := by rw [show turnN 22 x = turn1 (turnN 21 x) from rfl, turnN_21 x h]; exact turn1_21 x h
theorem turnN_23 (x : Int) (h : Wd x) : turnN 23 x = rotl 8388608 2199023255552 x := by rw [show turnN 23 x = turn1 (turnN 22 x) from rfl, turnN_22 x h]; exact turn1_22 x h
theorem turnN_24 (x : Int) (h : Wd x) : turnN 24 x = rotl 16777216 1099511627776 x := by rw [show turnN 24 x = turn1 (turnN 23 x) from rfl, turnN_23 x h]; exact turn1_23 x h
theorem turnN_25 (x : Int) (h : Wd x) : turnN 25 x = rotl 33554432 549755813888 x := by rw [show turnN 25 x = turn1 (turnN 24 x) from rfl, turnN_24 x h]; exact turn1_24 x h
theorem turnN_26 (x : Int) (h : Wd x) : turnN 26 x = rotl 67108864 274877906944 x := by rw [show turnN 26 x = turn1 (turnN 25 x) from rfl, turnN_25 x h]; exact turn1_25 x h
theorem turnN_27 (x : Int) (h : Wd x) : turnN 27 x = rotl 134217728 137438953472 x := by rw [show turnN 27 x = turn1 (turnN 26 x) from rfl, turnN_26 x h]; exact turn1_26 x h
theorem turnN_28 (x : Int) (h : Wd x) : turnN 28 x = rotl 268435456 68719476736 x := by rw [show turnN 28 x = turn1 (turnN 27 x) from rfl, turnN_27 x h]; exact turn1_27 x h
theorem turnN_29 (x : Int) (h : Wd x) : turnN 29 x = rotl 536870912 34359738368 x := by rw [show turnN 29 x = turn1 (turnN 28 x) from rfl, turnN_28 x h]; exact turn1_28 x h
theorem turnN_30 (x : Int) (h : Wd x) : turnN 30 x = rotl 1073741824 17179869184 x := by rw [show turnN 30 x = turn1 (turnN 29 x) from rfl, turnN_29 x h]; exact turn1_29 x h
theorem turnN_31 (x : Int) (h : Wd x) : turnN 31 x = rotl 2147483648 8589934592 x := by rw [show turnN 31 x = turn1 (turnN 30 x) from rfl, turnN_30 x h]; exact turn1_30 x h
theorem turnN_32 (x : Int) (h : Wd x) : turnN 32 x = rotl 4294967296 4294967296 x := by rw [show turnN 32 x = turn1 (turnN 31 x) from rfl, turnN_31 x h]; exact turn1_31 x h
theorem or_rotl_13 (x : Int) (h : Wd x) : bits BinOp.or IntKind.u64 (IntKind.u64.wrap (x * 8192)) (x / 2251799813685248) = rotl 8192 2251799813685248 x := by
  obtain ⟨h0, h1⟩ := h
  unfold rotl
  rw [IntKind.wrap_u64]
  exact bits_join .u64 64 (by decide) (fun n h0 h1 => by rw [IntKind.wrap_u64]; omega) 13 (x * 8192 % 18446744073709551616) (x / 2251799813685248) (by omega) (by omega) (by omega) (by omega) (by omega) (by omega)
theorem wd_rotl_13 (x : Int) (h : Wd x) : Wd (rotl 8192 2251799813685248 x) := by
  rw [← turnN_13 x h]; exact wd_turnN _ _ h
theorem or_rotl_16 (x : Int) (h : Wd x) : bits BinOp.or IntKind.u64 (IntKind.u64.wrap (x * 65536)) (x / 281474976710656) = rotl 65536 281474976710656 x := by
  obtain ⟨h0, h1⟩ := h
  unfold rotl
  rw [IntKind.wrap_u64]
  exact bits_join .u64 64 (by decide) (fun n h0 h1 => by rw [IntKind.wrap_u64]; omega) 16 (x * 65536 % 18446744073709551616) (x / 281474976710656) (by omega) (by omega) (by omega) (by omega) (by omega) (by omega)
theorem wd_rotl_16 (x : Int) (h : Wd x) : Wd (rotl 65536 281474976710656 x) := by
  rw [← turnN_16 x h]; exact wd_turnN _ _ h
theorem or_rotl_17 (x : Int) (h : Wd x) : bits BinOp.or IntKind.u64 (IntKind.u64.wrap (x * 131072)) (x / 140737488355328) = rotl 131072 140737488355328 x := by
  obtain ⟨h0, h1⟩ := h
  unfold rotl
  rw [IntKind.wrap_u64]
  exact bits_join .u64 64 (by decide) (fun n h0 h1 => by rw [IntKind.wrap_u64]; omega) 17 (x * 131072 % 18446744073709551616) (x / 140737488355328) (by omega) (by omega) (by omega) (by omega) (by omega) (by omega)
theorem wd_rotl_17 (x : Int) (h : Wd x) : Wd (rotl 131072 140737488355328 x) := by
  rw [← turnN_17 x h]; exact wd_turnN _ _ h
theorem or_rotl_21 (x : Int) (h : Wd x) : bits BinOp.or IntKind.u64 (IntKind.u64.wrap (x * 2097152)) (x / 8796093022208) = rotl 2097152 8796093022208 x := by
  obtain ⟨h0, h1⟩ := h
  unfold rotl
  rw [IntKind.wrap_u64]
  exact bits_join .u64 64 (by decide) (fun n h0 h1 => by rw [IntKind.wrap_u64]; omega) 21 (x * 2097152 % 18446744073709551616) (x / 8796093022208) (by omega) (by omega) (by omega) (by omega) (by omega) (by omega)
theorem wd_rotl_21 (x : Int) (h : Wd x) : Wd (rotl 2097152 8796093022208 x) := by
  rw [← turnN_21 x h]; exact wd_turnN _ _ h
theorem or_rotl_32 (x : Int) (h : Wd x) : bits BinOp.or IntKind.u64 (IntKind.u64.wrap (x * 4294967296)) (x / 4294967296) = rotl 4294967296 4294967296 x := by
  obtain ⟨h0, h1⟩ := h
  unfold rotl
  rw [IntKind.wrap_u64]
  exact bits_join .u64 64 (by decide) (fun n h0 h1 => by rw [IntKind.wrap_u64]; omega) 32 (x * 4294967296 % 18446744073709551616) (x / 4294967296) (by omega) (by omega) (by omega) (by omega) (by omega) (by omega)
theorem wd_rotl_32 (x : Int) (h : Wd x) : Wd (rotl 4294967296 4294967296 x) := by
  rw [← turnN_32 x h]; exact wd_turnN _ _ h

theorem wd_xor (a b : Int) (ha : Wd a) (hb : Wd b) : Wd (bits BinOp.xor IntKind.u64 a b) := by
  obtain ⟨a0, a1⟩ := ha
  obtain ⟨b0, b1⟩ := hb
  obtain ⟨a, rfl⟩ := Int.eq_ofNat_of_zero_le a0
  obtain ⟨b, rfl⟩ := Int.eq_ofNat_of_zero_le b0
  rw [bits_xor_u64_nat a b (by omega) (by omega)]
  have h := Nat.xor_lt_two_pow (x := a) (y := b) (n := 64) (by omega) (by omega)
  exact ⟨by omega, by omega⟩

/-- The four words. -/
structure W4 where
  a : Int
  b : Int
  c : Int
  d : Int
def W4.cells (v : W4) : Array Value := #[.int .u64 v.a, .int .u64 v.b, .int .u64 v.c, .int .u64 v.d]
def W4.good (v : W4) : Prop := Wd v.a ∧ Wd v.b ∧ Wd v.c ∧ Wd v.d
def xr (a b : Int) : Int := bits BinOp.xor IntKind.u64 a b
def ad (a b : Int) : Int := IntKind.u64.wrap (a + b)
/-- A round. -/
def rnd (v : W4) : W4 :=
  let a1 := ad v.a v.b
  let b1 := xr (rotl 8192 2251799813685248 v.b) a1
  let a2 := rotl 4294967296 4294967296 a1
  let c1 := ad v.c v.d
  let d1 := xr (rotl 65536 281474976710656 v.d) c1
  let a3 := ad a2 d1
  let d2 := xr (rotl 2097152 8796093022208 d1) a3
  let c2 := ad c1 b1
  let b2 := xr (rotl 131072 140737488355328 b1) c2
  let c3 := rotl 4294967296 4294967296 c2
  ⟨a3, b2, c3, d2⟩
def rnds : Nat → W4 → W4
  | 0, v => v
  | k + 1, v => rnd (rnds k v)
theorem wd_ad (a b : Int) : Wd (ad a b) := wd_wrap _
theorem wd_xr (a b : Int) (ha : Wd a) (hb : Wd b) : Wd (xr a b) := wd_xor a b ha hb
theorem rnd_good (v : W4) (h : v.good) : (rnd v).good := by
  obtain ⟨h1, h2, h3, h4⟩ := h
  have b1 := wd_xr (rotl 8192 2251799813685248 v.b) (ad v.a v.b) (wd_rotl_13 _ h2) (wd_ad _ _)
  have d1 := wd_xr (rotl 65536 281474976710656 v.d) (ad v.c v.d) (wd_rotl_16 _ h4) (wd_ad _ _)
  exact ⟨wd_ad _ _, wd_xr _ _ (wd_rotl_17 _ b1) (wd_ad _ _), wd_rotl_32 _ (wd_ad _ _), wd_xr _ _ (wd_rotl_21 _ d1) (wd_ad _ _)⟩
theorem rnds_good (k : Nat) (v : W4) (h : v.good) : (rnds k v).good := by
  induction k with
  | zero => exact h
  | succ k ih => exact rnd_good _ ih
end Go.Proofs.Ythclmpbgehkgeaa