/-
  The plain law under KeyUnder: which key begins with a pattern, told by the order of texts. No condition of its own.
-/
import Derived.Test.YtchfecmabhfooaaDoorKey2
set_option linter.unusedSimpArgs false
set_option linter.unusedVariables false
namespace Go.Proofs.YtchfecmabhfooaaDoor
open Go.RowKit

theorem less_trans : ∀ (a b c : List UInt8), Op.bytesLess a b = true → Op.bytesLess b c = true → Op.bytesLess a c = true
  | _, _, [], _, h => by simp [Op.bytesLess] at h
  | _, [], _ :: _, h, _ => by simp [Op.bytesLess] at h
  | [], _ :: _, _ :: _, _, _ => rfl
  | x :: a, y :: b, z :: c, h1, h2 => by
    rw [Op.bytesLess] at h1 h2 ⊢
    simp only [Bool.or_eq_true, Bool.and_eq_true, decide_eq_true_eq, beq_iff_eq, UInt8.lt_iff_toNat_lt] at h1 h2 ⊢
    rcases h1 with h1 | ⟨rfl, h1⟩
    · rcases h2 with h2 | ⟨rfl, h2⟩
      · left; omega
      · left; exact h1
    · rcases h2 with h2 | ⟨rfl, h2⟩
      · left; exact h2
      · right; exact ⟨rfl, less_trans a b c h1 h2⟩
theorem less_irr (a : List UInt8) : Op.bytesLess a a = false := by
  have := less_tot a a
  cases h : Op.bytesLess a a <;> simp [h] at this ⊢
/-- not less, less: less -/
theorem geq_less {a b c : List UInt8} (h1 : Op.bytesLess b a = false) (h2 : Op.bytesLess b c = true) : Op.bytesLess a c = true := by
  rw [less_tot, Bool.not_eq_false', Bool.or_eq_true] at h1
  rcases h1 with h1 | h1
  · exact less_trans _ _ _ h1 h2
  · have : a = b := by simpa using h1
    subst this; exact h2
theorem beg_iff {s p : List UInt8} : beg s p = true ↔ ∃ r, s = p ++ r := by
  unfold beg
  simp only [Bool.and_eq_true, decide_eq_true_eq]
  constructor
  · rintro ⟨_, h⟩
    exact ⟨s.drop p.length, by have := List.take_append_drop p.length s; rw [h] at this; exact this.symm⟩
  · rintro ⟨r, rfl⟩
    simp
theorem less_pre (p r : List UInt8) : Op.bytesLess (p ++ r) p = false := by
  have := less_append p r []
  rw [List.append_nil] at this
  rw [this]
  cases r <;> rfl
theorem endK_snoc (i : List UInt8) (c : UInt8) : endK (i ++ [c]) = i ++ [c + 1] := by
  unfold endK
  rw [if_neg (by simp)]
  simp [List.getD]
theorem snoc_cases (a : List UInt8) : a = [] ∨ ∃ i c, a = i ++ [c] := by
  rcases List.eq_nil_or_concat a with h | ⟨i, c, h⟩
  · exact .inl h
  · exact .inr ⟨i, c, by simpa using h⟩
theorem beg_less {a k : List UInt8} (ha : keyOk a = true) (hb : beg k a = true) : endK a = [] ∨ Op.bytesLess k (endK a) = true := by
  obtain ⟨r, rfl⟩ := beg_iff.1 hb
  rcases snoc_cases a with rfl | ⟨i, c, rfl⟩
  · left; rfl
  · right
    rw [endK_snoc, List.append_assoc, less_append]
    have hc : c.toNat ≤ 122 := by
      unfold keyOk at ha
      simp only [Bool.and_eq_true, List.all_append, List.all_cons] at ha
      have := ha.2.2.1
      simp [signB, signR] at this
      omega
    show (decide (c < c + 1) || _) = true
    have : c < c + 1 := by rw [UInt8.lt_iff_toNat_lt, UInt8.toNat_add]; have : (1 : UInt8).toNat = 1 := rfl; omega
    simp [this]
theorem between_beg : ∀ (i : List UInt8) (c : UInt8) (k : List UInt8), c.toNat < 255 → Op.bytesLess k (i ++ [c]) = false → Op.bytesLess k (i ++ [c + 1]) = true → beg k (i ++ [c]) = true
  | [], c, [], _, h, _ => by simp [Op.bytesLess] at h
  | y :: i, c, [], _, h, _ => by simp [Op.bytesLess] at h
  | [], c, x :: k, hc, h1, h2 => by
    simp only [List.nil_append] at h1 h2 ⊢
    rw [Op.bytesLess] at h1 h2
    have e0 : Op.bytesLess k [] = false := by cases k <;> rfl
    rw [e0] at h1 h2
    simp only [Bool.and_false, Bool.or_false, decide_eq_false_iff_not, decide_eq_true_eq, UInt8.lt_iff_toNat_lt, UInt8.toNat_add] at h1 h2
    have e1 : (1 : UInt8).toNat = 1 := rfl
    have : x = c := UInt8.toNat_inj.1 (by omega)
    subst this
    exact beg_iff.2 ⟨k, rfl⟩
  | y :: i, c, x :: k, hc, h1, h2 => by
    simp only [List.cons_append] at h1 h2 ⊢
    rw [Op.bytesLess] at h1 h2
    simp only [Bool.or_eq_false_iff, Bool.and_eq_false_iff, Bool.or_eq_true, Bool.and_eq_true, decide_eq_false_iff_not, decide_eq_true_eq, beq_eq_false_iff_ne, beq_iff_eq, UInt8.lt_iff_toNat_lt] at h1 h2
    rcases h2 with h2 | ⟨rfl, h2⟩
    · omega
    · have h3 := h1.2.resolve_left (fun h => h rfl)
      obtain ⟨r, hr⟩ := beg_iff.1 (between_beg i c k hc h3 h2)
      exact beg_iff.2 ⟨r, by rw [hr]; simp⟩
/-- Just those in the pattern's range begin with it. -/
theorem beg_range {a k : List UInt8} (ha : keyOk a = true) : beg k a = (!Op.bytesLess k a && (decide (endK a = []) || Op.bytesLess k (endK a))) := by
  rw [Bool.eq_iff_iff]
  simp only [Bool.and_eq_true, Bool.or_eq_true, Bool.not_eq_true', decide_eq_true_eq]
  constructor
  · intro h
    refine ⟨?_, beg_less ha h⟩
    obtain ⟨r, rfl⟩ := beg_iff.1 h
    exact less_pre a r
  · rintro ⟨h1, h2⟩
    rcases snoc_cases a with rfl | ⟨i, c, rfl⟩
    · exact beg_iff.2 ⟨k, rfl⟩
    · rw [endK_snoc] at h2
      have hc : c.toNat ≤ 122 := by
        unfold keyOk at ha
        simp only [Bool.and_eq_true, List.all_append, List.all_cons] at ha
        have := ha.2.2.1
        simp [signB, signR] at this
        omega
      exact between_beg i c k (by omega) h1 (h2.resolve_left (by simp))
/-- Under two patterns: they meet. -/
theorem under_meet {k a b : List UInt8} (h1 : under k a = true) (h2 : under k b = true) : (keyOk a && keyOk b && (beg a b || beg b a)) = true := by
  unfold under at h1 h2
  simp only [Bool.and_eq_true] at h1 h2
  obtain ⟨r, hr⟩ := beg_iff.1 h1.2
  obtain ⟨s, hs⟩ := beg_iff.1 h2.2
  rw [h1.1.2, h2.1.2]
  rw [hr] at hs
  simp only [Bool.and_true, Bool.true_and, Bool.or_eq_true]
  rcases List.append_eq_append_iff.1 hs with ⟨x, hx, _⟩ | ⟨x, hx, _⟩
  · exact .inr (beg_iff.2 ⟨x, hx⟩)
  · exact .inl (beg_iff.2 ⟨x, hx⟩)
/-- A key under a pattern and in a range: they overlap. -/
theorem under_over {k a f t : List UInt8} (h1 : under k a = true) (h2 : inR k f t = true) : overK f t a = true := by
  unfold under at h1
  unfold inR at h2
  unfold overK
  simp only [Bool.and_eq_true, Bool.or_eq_true, Bool.not_eq_true', decide_eq_true_eq] at h1 h2 ⊢
  obtain ⟨⟨⟨⟨_, hf⟩, ht⟩, h3⟩, h4⟩ := h2
  have hst : stopK t = true := by unfold stopK; rw [ht]; rfl
  have hb := beg_range (k := k) h1.1.2
  rw [h1.2] at hb
  have hb := hb.symm
  simp only [Bool.and_eq_true, Bool.or_eq_true, Bool.not_eq_true', decide_eq_true_eq] at hb
  refine ⟨⟨⟨⟨hf, hst⟩, h1.1.2⟩, hb.2.imp id (geq_less h3)⟩, h4.imp id (geq_less hb.1)⟩
end Go.Proofs.YtchfecmabhfooaaDoor
