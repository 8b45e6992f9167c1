/-
  Bytes to words, and a hasher's bytes chewed eight at a time. No program in sight. No condition of its own.
-/
import Derived.Test.YthclmpbgehkgeaaSip4
import Derived.Laws.Bits64b
set_option linter.unusedSimpArgs false
set_option linter.unusedVariables false
namespace Go.Proofs.Ythclmpbgehkgeaa.K
open Go.RowKit

def byV (l : List UInt8) : List Value := l.map fun b => .int .u8 (b.toNat : Int)
def wsum : List UInt8 → Nat
  | [] => 0
  | b :: l => b.toNat + 256 * wsum l
theorem wsum_snoc (l : List UInt8) (b : UInt8) : wsum (l ++ [b]) = wsum l + b.toNat * 256 ^ l.length := by
  induction l with
  | nil => simp [wsum]
  | cons c l ih =>
    simp only [List.cons_append, wsum, ih, List.length_cons, Nat.pow_succ]
    rw [Nat.mul_add, ← Nat.mul_assoc, Nat.mul_comm 256 b.toNat, Nat.mul_assoc, Nat.mul_comm 256 (256 ^ l.length)]
    omega
theorem wsum_lt (l : List UInt8) : wsum l < 256 ^ l.length := by
  induction l with
  | nil => simp [wsum]
  | cons b l ih =>
    have := b.toNat_lt
    simp only [wsum, List.length_cons, Nat.pow_succ]
    omega
theorem wsum_wd (l : List UInt8) (h : l.length ≤ 8) : Wd (wsum l : Int) := by
  have h1 := wsum_lt l
  have h2 : 256 ^ l.length ≤ 256 ^ 8 := Nat.pow_le_pow_right (by decide) h
  have h3 : (256 : Nat) ^ 8 = 18446744073709551616 := by decide
  unfold Wd
  omega
theorem or_byte (l : List UInt8) (i : Nat) (hi : i < 8) (hl : i < l.length) :
    bits .or .u64 (wsum (l.take i) : Int) (IntKind.u64.wrap (((l[i].toNat : Nat) : Int) * 2 ^ (min (8 * (i : Int)).toNat IntKind.u64.bits))) = (wsum (l.take (i + 1)) : Int) := by
  have hb := l[i].toNat_lt
  have hlen : (l.take i).length = i := by simp; omega
  have h1 := wsum_lt (l.take i)
  rw [hlen] at h1
  have e0 : (8 * (i : Int)).toNat = 8 * i := by omega
  have e1 : min (8 * i) IntKind.u64.bits = 8 * i := by simp [IntKind.bits]; omega
  have e2 : (2 : Nat) ^ (8 * i) = 256 ^ i := by rw [Nat.pow_mul]
  have h8 : (256 : Nat) ^ i * 256 ≤ 18446744073709551616 := by
    have : (256 : Nat) ^ (i + 1) ≤ 256 ^ 8 := Nat.pow_le_pow_right (by decide) (by omega)
    have h3 : (256 : Nat) ^ 8 = 18446744073709551616 := by decide
    rw [Nat.pow_succ] at this; omega
  have hprod : l[i].toNat * 256 ^ i < 18446744073709551616 := by
    have : l[i].toNat * 256 ^ i < 256 * 256 ^ i := Nat.mul_lt_mul_of_pos_right hb (Nat.pow_pos (by decide))
    rw [Nat.mul_comm 256] at this; omega
  rw [e0, e1]
  have e3 : ((l[i].toNat : Nat) : Int) * 2 ^ (8 * i) = ((l[i].toNat * 256 ^ i : Nat) : Int) := by
    rw [← e2]; simp
  rw [e3, IntKind.wrap_u64, Int.emod_eq_of_lt (by omega) (by omega)]
  have hle : 256 ^ i ≤ (256 : Nat) ^ i * 256 := by omega
  rw [bits_or_u64_nat _ _ (by omega) hprod]
  congr 1
  rw [List.take_succ_eq_append_getElem hl, wsum_snoc, hlen]
  have h4 := Nat.shiftLeft_add_eq_or_of_lt (a := l[i].toNat) (i := 8 * i) (b := wsum (l.take i)) (by rw [e2]; exact h1)
  rw [Nat.shiftLeft_eq, e2] at h4
  rw [Nat.or_comm, ← h4, Nat.add_comm]
/-- Eight bytes at a time. -/
def chew : Nat → W4 → List UInt8 → W4 × List UInt8
  | 0, v, l => (v, l)
  | f + 1, v, l => if 8 ≤ l.length then chew f (wordF v (wsum (l.take 8))) (l.drop 8) else (v, l)
theorem chew_more : ∀ (f : Nat) (v : W4) (l : List UInt8), l.length ≤ 8 * f → chew (f + 1) v l = chew f v l
  | 0, v, l, h => by
    have : l.length = 0 := by omega
    unfold chew
    rw [if_neg (by omega)]
  | f + 1, v, l, h => by
    unfold chew
    split
    · exact chew_more f _ _ (by simp; omega)
    · rfl
def chewA (v : W4) (l : List UInt8) : W4 × List UInt8 := chew l.length v l
theorem chew_any (f : Nat) (v : W4) (l : List UInt8) (h : l.length ≤ 8 * f) (k : Nat) : chew (f + k) v l = chew f v l := by
  induction k with
  | zero => rfl
  | succ k ih => rw [← Nat.add_assoc, chew_more _ _ _ (by omega), ih]
theorem chewA_step (v : W4) (l : List UInt8) (h : 8 ≤ l.length) : chewA v l = chewA (wordF v (wsum (l.take 8))) (l.drop 8) := by
  unfold chewA
  obtain ⟨k, hk⟩ : ∃ k, l.length = k + 1 := ⟨l.length - 1, by omega⟩
  rw [hk]
  show (if 8 ≤ l.length then chew k (wordF v (wsum (l.take 8))) (l.drop 8) else (v, l)) = _
  rw [if_pos h]
  have e : (l.drop 8).length = l.length - 8 := by simp
  have := chew_any (l.drop 8).length (wordF v (wsum (l.take 8))) (l.drop 8) (by omega) (k - (l.drop 8).length)
  rw [show (l.drop 8).length + (k - (l.drop 8).length) = k by omega] at this
  exact this
theorem chewA_end (v : W4) (l : List UInt8) (h : l.length < 8) : chewA v l = (v, l) := by
  unfold chewA
  cases hl : l.length with
  | zero => rfl
  | succ k =>
    show (if 8 ≤ l.length then _ else (v, l)) = _
    rw [if_neg (by omega)]
theorem chew_good : ∀ (f : Nat) (v : W4) (l : List UInt8), v.good → (chew f v l).1.good
  | 0, v, l, h => h
  | f + 1, v, l, h => by
    unfold chew
    split
    · exact chew_good f _ _ (word_good h (wsum_wd _ (by simp; omega)))
    · exact h
end Go.Proofs.Ythclmpbgehkgeaa.K
