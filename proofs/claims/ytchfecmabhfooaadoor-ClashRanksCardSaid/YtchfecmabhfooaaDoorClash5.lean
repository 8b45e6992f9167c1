/-
  Whether two wants clash. No condition of its own.
-/
import Derived.Test.YtchfecmabhfooaaDoorClash4
set_option linter.unusedSimpArgs false
set_option linter.unusedVariables false
namespace Go.Proofs.YtchfecmabhfooaaDoor
open Go.RowKit
attribute [local irreducible] cwp lwp Exit.then Exit.inBlock Exit.noGoto wpQuiet Calls fin At AtQ Again endQ RQ

theorem meetB_comm (a b : List UInt8) : meetB a b = meetB b a := by unfold meetB; rw [Bool.or_comm]
theorem someB_comm (A B : List (List UInt8)) : someB A B = someB B A := by
  rw [Bool.eq_iff_iff]
  simp only [someB, List.any_eq_true]
  constructor
  · rintro ⟨a, ha, b, hb, h⟩; exact ⟨b, hb, a, ha, by rw [meetB_comm]; exact h⟩
  · rintro ⟨a, ha, b, hb, h⟩; exact ⟨b, hb, a, ha, by rw [meetB_comm]; exact h⟩
theorem someB_append (A B D : List (List UInt8)) : someB A (B ++ D) = (someB A B || someB A D) := by
  rw [Bool.eq_iff_iff]
  simp only [someB, List.any_eq_true, List.mem_append, Bool.or_eq_true]
  constructor
  · rintro ⟨a, ha, b, hb | hb, h⟩
    · exact .inl ⟨a, ha, b, hb, h⟩
    · exact .inr ⟨a, ha, b, hb, h⟩
  · rintro (⟨a, ha, b, hb, h⟩ | ⟨a, ha, b, hb, h⟩)
    · exact ⟨a, ha, b, .inl hb, h⟩
    · exact ⟨a, ha, b, .inr hb, h⟩
theorem hit_some (A B : List (List UInt8)) (hA : okL A = true) (hB : okL B = true) : hitF A B = someB A B := by
  rw [Bool.eq_iff_iff]
  simp only [hitF, someB, List.any_eq_true]
  constructor
  · rintro ⟨a, ha, b, hb, h⟩
    refine ⟨a, ha, b, hb, ?_⟩
    simp only [meetK, Bool.and_eq_true] at h
    exact h.2
  · rintro ⟨a, ha, b, hb, h⟩
    refine ⟨a, ha, b, hb, ?_⟩
    simp only [meetK, Bool.and_eq_true]
    exact ⟨⟨List.all_eq_true.1 hA a ha, List.all_eq_true.1 hB b hb⟩, h⟩
theorem okL_append (A B : List (List UInt8)) : okL (A ++ B) = (okL A && okL B) := by simp [okL]
theorem pair_hit (r1 w1 r2 w2 : List (List UInt8)) : pairF r1 w1 r2 w2 = ((okL r1 && okL w1) && (okL r2 && okL w2) && (hitF w1 (r2 ++ w2) || hitF w2 (r1 ++ w1))) := by
  unfold pairF
  cases h1 : okL r1
  · simp
  · cases h2 : okL w1
    · simp
    · cases h3 : okL r2
      · simp
      · cases h4 : okL w2
        · simp
        · rw [hit_some _ _ h2 (by rw [okL_append, h3, h4]; rfl), hit_some _ _ h4 (by rw [okL_append, h1, h2]; rfl), someB_append, someB_append, someB_comm w2 r1, someB_comm w2 w1]
          cases someB w1 w2 <;> cases someB w1 r2 <;> cases someB r1 w2 <;> rfl
theorem pairF_comm (r1 w1 r2 w2 : List (List UInt8)) : pairF r1 w1 r2 w2 = pairF r2 w2 r1 w1 := by
  rw [pair_hit, pair_hit, Bool.and_comm (okL r1 && okL w1), Bool.or_comm (hitF w1 _)]
set_option maxHeartbeats 4000000 in
theorem clash_Pair (a1 b1 a2 b2 : Value) (r1 w1 r2 w2 : List (List UInt8)) (w : World) (hG : Glob w) (h1 : ValsAt w a1 (strs r1)) (h2 : ValsAt w b1 (strs w1)) (h3 : ValsAt w a2 (strs r2)) (h4 : ValsAt w b2 (strs w2))
    (s1 : Short r1) (s2 : Short w1) (s3 : Short r2) (s4 : Short w2) (o1 : a1.oneCell' = true) (o2 : b1.oneCell' = true) (o3 : a2.oneCell' = true) (o4 : b2.oneCell' = true) :
    Calls Tryd.prog 14 #[.agg #[a1, b1], .agg #[a2, b2]] w fun e w' => e = .returned (.bool (pairF r1 w1 r2 w2)) ∧ Below w.heap.size w w' := by
  have cM1 : ∀ {w'}, Glob w' → ValsAt w' a1 (strs r1) → ValsAt w' b1 (strs w1) → Calls Tryd.prog 61 #[.agg #[a1, b1]] w' fun e w3 => e = .returned (.bool (okL r1 && okL w1)) ∧ Below w'.heap.size w' w3 := fun g x y => clash_may a1 b1 r1 w1 _ g x y s1 s2 o1 o2
  have cM2 : ∀ {w'}, Glob w' → ValsAt w' a2 (strs r2) → ValsAt w' b2 (strs w2) → Calls Tryd.prog 61 #[.agg #[a2, b2]] w' fun e w3 => e = .returned (.bool (okL r2 && okL w2)) ∧ Below w'.heap.size w' w3 := fun g x y => clash_may a2 b2 r2 w2 _ g x y s3 s4 o3 o4
  have cH1 : ∀ {w'}, Glob w' → ValsAt w' b1 (strs w1) → ValsAt w' a2 (strs r2) → ValsAt w' b2 (strs w2) → Calls Tryd.prog 62 #[.agg #[a1, b1], .agg #[a2, b2]] w' fun e w3 => e = .returned (.bool (hitF w1 (r2 ++ w2))) ∧ Below w'.heap.size w' w3 := fun g x y z => clash_hits a1 b1 a2 b2 w1 r2 w2 _ g x y z s2 s3 s4 o1 o2 o3 o4
  have cH2 : ∀ {w'}, Glob w' → ValsAt w' b2 (strs w2) → ValsAt w' a1 (strs r1) → ValsAt w' b1 (strs w1) → Calls Tryd.prog 62 #[.agg #[a2, b2], .agg #[a1, b1]] w' fun e w3 => e = .returned (.bool (hitF w2 (r1 ++ w1))) ∧ Below w'.heap.size w' w3 := fun g x y z => clash_hits a2 b2 a1 b1 w2 r1 w1 _ g x y z s4 s1 s2 o3 o4 o1 o2
  rw [pair_hit]
  generalize (okL r1 && okL w1) = m1 at cM1 ⊢
  generalize (okL r2 && okL w2) = m2 at cM2 ⊢
  generalize hitF w1 (r2 ++ w2) = p1 at cH1 ⊢
  generalize hitF w2 (r1 ++ w1) = p2 at cH2 ⊢
  refine calls_plain Tryd.func14 rfl Tryd.ntmps14 rfl ?_
  refine at_seq ?_
  refine at_region ?_
  refine at_boxagg rfl rfl fun gz0 => ?_
  refine at_boxagg rfl rfl fun gz1 => ?_
  refine at_do (does_assign rfl) rfl rfl ?_
  refine at_nil ?_
  refine at_then ?_
  refine at_seq ?_
  refine at_region ?_
  refine at_do (does_loadagg (i := 1) (k := 2) (by kernel_rfl) rfl rfl rfl) rfl rfl ?_
  refine at_callv (f := 61) (enters_fn (by kernel_rfl) rfl) (fun w ho => cM1 (ho.glob hG id) (ho.oldVals h1) (ho.oldVals h2)) rfl rfl ?_
  refine at_do (does_move rfl) rfl rfl ?_
  refine at_guard rfl rfl (fun z2 => ?_) (fun z2 => ?_)
  refine at_on rfl rfl ?_
  refine at_do (does_loadagg (i := 0) (k := 2) (by kernel_rfl) rfl rfl rfl) rfl rfl ?_
  refine at_on rfl rfl ?_
  refine at_callv (f := 61) (enters_fn (by kernel_rfl) rfl) (fun w ho => cM2 (ho.glob hG id) (ho.oldVals h3) (ho.oldVals h4)) rfl rfl ?_
  refine at_do (does_pick_true rfl rfl) rfl rfl ?_
  refine at_do (does_move rfl) rfl rfl ?_
  refine at_guard rfl rfl (fun z3 => ?_) (fun z3 => ?_)
  refine at_on rfl rfl ?_
  refine at_do (does_loadagg (i := 1) (k := 2) (by kernel_rfl) rfl rfl rfl) rfl rfl ?_
  refine at_on rfl rfl ?_
  refine at_do (does_loadagg (i := 0) (k := 2) (by kernel_rfl) rfl rfl rfl) rfl rfl ?_
  refine at_on rfl rfl ?_
  refine at_callv (f := 62) (enters_fn (by kernel_rfl) rfl) (fun w ho => cH1 (ho.glob hG id) (ho.oldVals h2) (ho.oldVals h3) (ho.oldVals h4)) rfl rfl ?_
  refine at_on rfl rfl ?_
  refine at_do (does_move rfl) rfl rfl ?_
  refine at_guard rfl rfl (fun z4 => ?_) (fun z4 => ?_)
  refine at_no rfl rfl rfl rfl ?_
  refine at_no rfl rfl rfl rfl ?_
  refine at_no rfl rfl rfl rfl ?_
  refine at_on rfl rfl ?_
  refine at_do (does_pick_true rfl rfl) rfl rfl ?_
  refine at_do (does_pick_true rfl rfl) rfl rfl ?_
  refine at_do (does_assign rfl) rfl rfl ?_
  refine at_nil ?_
  refine at_then ?_
  refine at_ret ?_
  refine at_ret1 rfl rfl rfl (fun w9 ho9 => ?_)
  rotate_left
  refine at_on rfl rfl ?_
  refine at_do (does_loadagg (i := 0) (k := 2) (by kernel_rfl) rfl rfl rfl) rfl rfl ?_
  refine at_on rfl rfl ?_
  refine at_do (does_loadagg (i := 1) (k := 2) (by kernel_rfl) rfl rfl rfl) rfl rfl ?_
  refine at_on rfl rfl ?_
  refine at_callv (f := 62) (enters_fn (by kernel_rfl) rfl) (fun w ho => cH2 (ho.glob hG id) (ho.oldVals h4) (ho.oldVals h1) (ho.oldVals h2)) rfl rfl ?_
  refine at_on rfl rfl ?_
  refine at_do (does_pick_false rfl rfl) rfl rfl ?_
  refine at_do (does_pick_true rfl rfl) rfl rfl ?_
  refine at_do (does_assign rfl) rfl rfl ?_
  refine at_nil ?_
  refine at_then ?_
  refine at_ret ?_
  refine at_ret1 rfl rfl rfl (fun w9 ho9 => ?_)
  rotate_left
  refine at_no rfl rfl rfl rfl ?_
  refine at_no rfl rfl rfl rfl ?_
  refine at_no rfl rfl rfl rfl ?_
  refine at_no rfl rfl rfl rfl ?_
  refine at_no rfl rfl rfl rfl ?_
  refine at_no rfl rfl rfl rfl ?_
  refine at_no rfl rfl rfl rfl ?_
  refine at_no rfl rfl rfl rfl ?_
  refine at_do (does_pick_false rfl rfl) rfl rfl ?_
  refine at_do (does_assign rfl) rfl rfl ?_
  refine at_nil ?_
  refine at_then ?_
  refine at_ret ?_
  refine at_ret1 rfl rfl rfl (fun w9 ho9 => ?_)
  rotate_left
  refine at_no rfl rfl rfl rfl ?_
  refine at_no rfl rfl rfl rfl ?_
  refine at_do (does_pick_false rfl rfl) rfl rfl ?_
  refine at_do (does_move rfl) rfl rfl ?_
  refine at_no rfl rfl rfl rfl ?_
  refine at_no rfl rfl rfl rfl ?_
  refine at_no rfl rfl rfl rfl ?_
  refine at_no rfl rfl rfl rfl ?_
  refine at_no rfl rfl rfl rfl ?_
  refine at_no rfl rfl rfl rfl ?_
  refine at_no rfl rfl rfl rfl ?_
  refine at_no rfl rfl rfl rfl ?_
  refine at_do (does_pick_false rfl rfl) rfl rfl ?_
  refine at_do (does_assign rfl) rfl rfl ?_
  refine at_nil ?_
  refine at_then ?_
  refine at_ret ?_
  refine at_ret1 rfl rfl rfl (fun w9 ho9 => ?_)
  rotate_left
  all_goals exact ⟨ret_bool (by clear cM1 cM2 cH1 cH2; simp_all), ho9.plain⟩
end Go.Proofs.YtchfecmabhfooaaDoor
