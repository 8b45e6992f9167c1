/-
  The words of bytes as the reference lays them, and the tag by them. No program in sight. No condition of its own.
-/
import Derived.Test.YthclmpbgehkgeaaSip6
set_option linter.unusedSimpArgs false
set_option linter.unusedVariables false
namespace Go.Proofs.Ythclmpbgehkgeaa.K
open Go.RowKit

def zcount (n : Nat) : Nat := (15 - n % 8) % 8
def padB (l : List UInt8) (n : Nat) : List UInt8 := l ++ List.replicate (zcount l.length) 0 ++ [UInt8.ofNat (n % 256)]
def wordAt (a : List UInt8) (q : Nat) : Int := (wsum ((a.drop (8 * q)).take 8) : Int)
def wordsOf (a : List UInt8) (q : Nat) : List Int := (List.range q).map (wordAt a)
theorem wordsOf_succ (a : List UInt8) (q : Nat) : wordsOf a (q + 1) = wordsOf a q ++ [wordAt a q] := by simp [wordsOf, List.range_succ]
theorem wordsOf_cons (a b : List UInt8) (ha : a.length = 8) (q : Nat) : wordsOf (a ++ b) (q + 1) = (wsum a : Int) :: wordsOf b q := by
  unfold wordsOf
  rw [List.range_succ_eq_map, List.map_cons, List.map_map]
  congr 1
  · unfold wordAt
    rw [Nat.mul_zero, List.drop_zero, List.take_left' ha]
  · refine List.map_congr_left fun j _ => ?_
    unfold wordAt
    simp only [Function.comp]
    rw [show 8 * j.succ = 8 + 8 * j by omega, ← List.drop_drop, List.drop_left' ha]
theorem wsum_append (l m : List UInt8) : wsum (l ++ m) = wsum l + 256 ^ l.length * wsum m := by
  induction l with
  | nil => simp [wsum]
  | cons c l ih =>
    simp only [List.cons_append, wsum, ih, List.length_cons, Nat.pow_succ]
    rw [Nat.mul_add, ← Nat.mul_assoc, Nat.mul_comm 256 (256 ^ l.length)]
    omega
theorem wsum_zeros (z : Nat) : wsum (List.replicate z 0) = 0 := by
  induction z with
  | zero => rfl
  | succ z ih => rw [List.replicate_succ]; simp [wsum, ih]
theorem pad_length (l : List UInt8) (n : Nat) : (padB l n).length = 8 * (l.length / 8 + 1) := by
  simp [padB, zcount]; omega
theorem word_last (l : List UInt8) (n : Nat) (h : l.length < 8) : (wsum (padB l n) : Int) = lastF l n := by
  have e : (UInt8.ofNat (n % 256)).toNat = n % 256 := by simp
  unfold padB lastF
  rw [wsum_snoc, wsum_append, wsum_zeros, e]
  have e1 : (l ++ List.replicate (zcount l.length) 0).length = 7 := by simp [zcount]; omega
  rw [e1]
  have h3 : (256 : Nat) ^ 7 = 72057594037927936 := by decide
  rw [h3]
  simp
theorem words_fold (n : Nat) : ∀ (k : Nat) (l : List UInt8) (v : W4), l.length / 8 = k → (wordsOf (padB l n) (k + 1)).foldl wordF v = wordF (chewA v l).1 (lastF (chewA v l).2 n)
  | 0, l, v, h => by
    have h8 : l.length < 8 := by omega
    have e := wordsOf_cons (padB l n) [] (by rw [pad_length, h]) 0
    rw [List.append_nil] at e
    rw [e, chewA_end v l h8]
    simp only [wordsOf, List.range_zero, List.map_nil, List.foldl_cons, List.foldl_nil]
    rw [word_last l n h8]
  | k + 1, l, v, h => by
    have h8 : 8 ≤ l.length := by omega
    have e0 : padB l n = l.take 8 ++ padB (l.drop 8) n := by
      unfold padB
      have : zcount (l.drop 8).length = zcount l.length := by simp [zcount]; omega
      rw [this, ← List.append_assoc, ← List.append_assoc, List.take_append_drop]
    rw [e0, wordsOf_cons _ _ (by simp; omega), List.foldl_cons, words_fold n k (l.drop 8) _ (by simp; omega), chewA_step v l h8]
/-- The tag of bytes. -/
def tagF (p q : Int) (l : List UInt8) : Int := finF (chewA (beginF p q) l).1 (chewA (beginF p q) l).2 (l.length : Int)
theorem tag_ref (p q : Int) (l : List UInt8) : endF ((wordsOf (padB l l.length) (l.length / 8 + 1)).foldl wordF (beginF p q)) = tagF p q l := by
  rw [words_fold l.length _ l _ rfl]; rfl
theorem chewA_good (v : W4) (l : List UInt8) (h : v.good) : (chewA v l).1.good := chew_good _ _ _ h
theorem chew_rest : ∀ (f : Nat) (v : W4) (l : List UInt8), l.length ≤ 8 * f + 7 → (chew f v l).2.length < 8
  | 0, v, l, h => by show l.length < 8; omega
  | f + 1, v, l, h => by
    unfold chew
    split
    · exact chew_rest f _ _ (by simp; omega)
    · show l.length < 8; omega
theorem chewA_rest (v : W4) (l : List UInt8) : (chewA v l).2.length < 8 := chew_rest _ _ _ (by omega)
/-- In pieces. -/
theorem chew_pieces : ∀ (k : Nat) (v : W4) (l m : List UInt8), l.length ≤ k → chewA (chewA v l).1 ((chewA v l).2 ++ m) = chewA v (l ++ m)
  | 0, v, l, m, h => by
    have : l = [] := List.eq_nil_of_length_eq_zero (by omega)
    subst this; rfl
  | k + 1, v, l, m, h => by
    by_cases h8 : 8 ≤ l.length
    · rw [chewA_step v l h8, chewA_step v (l ++ m) (by simp; omega), List.take_append_of_le_length h8, List.drop_append_of_le_length h8]
      exact chew_pieces k _ _ _ (by simp; omega)
    · rw [chewA_end v l (by omega)]
theorem chewA_pieces (v : W4) (l m : List UInt8) : chewA (chewA v l).1 ((chewA v l).2 ++ m) = chewA v (l ++ m) := chew_pieces _ v l m (Nat.le_refl _)
theorem tag_wd (p q : Int) (l : List UInt8) (hp : Wd p) (hq : Wd q) : Wd (tagF p q l) :=
  end_wd _ (word_good (chewA_good _ _ (begin_good hp hq)) (last_wd _ _ (chewA_rest _ _)))
end Go.Proofs.Ythclmpbgehkgeaa.K
