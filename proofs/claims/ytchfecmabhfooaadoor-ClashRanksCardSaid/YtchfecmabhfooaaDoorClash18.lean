/-
  ClashPairs, walked. No condition of its own.
-/
import Derived.Test.YtchfecmabhfooaaDoorClash17
set_option linter.unusedSimpArgs false
set_option linter.unusedVariables false
namespace Go.Proofs.YtchfecmabhfooaaDoor
open Go.RowKit
attribute [local irreducible] cwp lwp Exit.then Exit.inBlock Exit.noGoto wpQuiet Calls fin At AtQ Again endQ RQ

/-- A want that lies out of these blocks. -/
def WantR (H : List Res) (x : Want2) (v : Value) (w : World) : Prop := ∃ u1 u2, v = .agg #[u1, u2] ∧ WantV w (fun k => k ∈ bls H) u1 u2 x
theorem wantR_stab (H : List Res) (x : Want2) : (Spec.rel (WantR H x)).stab := fun v w w' ⟨u1, u2, hv, hu⟩ hb =>
  ⟨u1, u2, hv, hu.move (Frm.ofBelow hb fun k hk hB => absurd hB (by omega)) (fun k _ h => h)⟩
theorem cutW_short (x : Want2) : Short (cutW x).1 ∧ Short (cutW x).2 := ⟨cutL_short _, cutL_short _⟩
theorem pair_of {w : World} {B B' : Nat → Prop} {a b c d : Value} {x y : Want2} (hG : Glob w) (h1 : WantV w B a b x) (h2 : WantV w B' c d y) (sx : Short x.1 ∧ Short x.2) (sy : Short y.1 ∧ Short y.2) :
    Calls Tryd.prog 14 #[.agg #[a, b], .agg #[c, d]] w fun e w' => e = .returned (.bool (pairF x.1 x.2 y.1 y.2)) ∧ Below w.heap.size w w' :=
  clash_Pair a b c d _ _ _ _ w hG h1.1.2.1 h1.2.2.1 h2.1.2.1 h2.2.2.1 sx.1 sx.2 sy.1 sy.2 h1.1.1 h1.2.1 h2.1.1 h2.2.1
theorem refpair_of {w : World} {B B' : Nat → Prop} {a b c d : Value} {x y : Want2} (h1 : WantV w B a b x) (h2 : WantV w B' c d y) (sx : Short x.1 ∧ Short x.2) (sy : Short y.1 ∧ Short y.2) :
    Calls Tryd.prog 15 #[.agg #[a, b], .agg #[c, d]] w fun e w' => e = .returned (.bool (pairF x.1 x.2 y.1 y.2)) ∧ Below w.heap.size w w' :=
  ref_Pair a b c d _ _ _ _ w h1.1.2.1 h1.2.2.1 h2.1.2.1 h2.2.2.1 sx.1 sx.2 sy.1 sy.2 h1.1.1 h1.2.1 h2.1.1 h2.2.1
set_option maxHeartbeats 4000000 in
theorem law_ClashPairs (a1 b1 a2 b2 : Value) (x y : Want2) (w : World) (hG : Glob w) (h1 : ValsAt w a1 (strs x.1)) (h2 : ValsAt w b1 (strs x.2)) (h3 : ValsAt w a2 (strs y.1)) (h4 : ValsAt w b2 (strs y.2)) (o1 : a1.oneCell' = true) (o2 : b1.oneCell' = true) (o3 : a2.oneCell' = true) (o4 : b2.oneCell' = true) :
    Calls Tryd.prog 3 #[.agg #[a1, b1], .agg #[a2, b2]] w fun e w' => e = .returned (.bool true) ∧ Below w.heap.size w w' := by
  refine calls_plain Tryd.func3 rfl Tryd.ntmps3 rfl ?_
  refine at_seq ?_
  refine at_region ?_
  refine at_boxagg rfl rfl fun gz0 => ?_
  refine at_boxagg rfl rfl fun gz1 => ?_
  refine at_do (does_assign rfl) rfl rfl ?_
  refine at_nil ?_
  refine at_then ?_
  refine at_seq ?_
  rotate_left
  refine at_reW fun W2 hW2 hold => ?_
  obtain ⟨H0, hH0⟩ : ∃ H0, H0 = [Res.blk gz1 24 #[a2, b2], Res.blk gz0 24 #[a1, b1]] := ⟨_, rfl⟩
  apply at_drawR 4 [.val (.agg #[a1, b1]), .rel (WantR H0 (cutW x)), .val (.agg #[a2, b2]), .rel (WantR H0 (cutW y))] (by kernel_rfl) (by kernel_rfl) rfl ⟨trivial, wantR_stab _ _, trivial, wantR_stab _ _, trivial⟩
  · subst hH0
    refine so_cons rfl (fun vs => ?_) ?_
    exact step1_does (does_loadagg (i := 1) (k := 2) (by kernel_rfl) rfl rfl rfl)
    refine so_cons rfl (fun vs => ?_) ?_
    exact step1_rel (f := 13) (enters_fn (by kernel_rfl) rfl) (fun w ho hx => want_call (x := x) ho (ho.oldVals h1) (ho.oldVals h2) o1 o2)
    refine so_cons rfl (fun vs => ?_) ?_
    exact step1_does (does_loadagg (i := 0) (k := 2) (by kernel_rfl) rfl rfl rfl)
    refine so_cons rfl (fun vs => ?_) ?_
    exact step1_rel (f := 13) (enters_fn (by kernel_rfl) rfl) (fun w ho hx => want_call (x := y) ho (ho.oldVals h3) (ho.oldVals h4) o3 o4)
    exact so_nil
  · intro vs w3 hw3 hp
    obtain ⟨⟨u1, u2, hu, y1⟩, ⟨u3, u4, hv, y2⟩, _⟩ := hp
    refine at_weak (E' := [(2, .pointer (some ⟨gz0, 0, none⟩)), (3, .pointer (some ⟨gz1, 0, none⟩)), (6, .agg #[u1, u2]), (8, .agg #[u3, u4])]) ⟨rfl, rfl, by rw [← hu]; rfl, by rw [← hv]; rfl, trivial⟩ ?_
    show At _ _ _ _ (lwp _ _ _ _ (_ :: _))
    have q1 := y1.1.1
    have q2 := y1.2.1
    have q3 := y2.1.1
    have q4 := y2.2.1
    apply at_storeagg (i := 1) (h := gz0) (tb := 24) (cs := #[a1, b1]) (vs := #[u1, u2]) (by kernel_rfl) rfl rfl (by simp [q1, q2]) rfl rfl
    show At _ _ _ _ (lwp _ _ _ _ (_ :: _))
    apply at_storeagg (i := 0) (h := gz1) (tb := 24) (cs := #[a2, b2]) (vs := #[u3, u4]) (by kernel_rfl) rfl rfl (by simp [q3, q4]) rfl rfl
    have m1 : ∀ {C : Ctx} {H : List Res} {w' : World}, C.w = w3 → C.F = (fun k => k ∈ bls H0) → Own C H w' → WantV w' (fun k => k ∈ bls H0) u1 u2 (cutW x) := fun e1 e2 ho => y1.move (e1 ▸ e2 ▸ ho.base) (fun k _ h => h)
    have m2 : ∀ {C : Ctx} {H : List Res} {w' : World}, C.w = w3 → C.F = (fun k => k ∈ bls H0) → Own C H w' → WantV w' (fun k => k ∈ bls H0) u3 u4 (cutW y) := fun e1 e2 ho => y2.move (e1 ▸ e2 ▸ ho.base) (fun k _ h => h)
    have hF : ∀ {C : Ctx}, (C.re w3 [Res.blk gz1 24 #[a2, b2], Res.blk gz0 24 #[a1, b1]]).F = (fun k => k ∈ bls H0) := by intro C; rw [hH0]; rfl
    have sx := cutW_short x
    have sy := cutW_short y
    have cA : ∀ {w'}, Glob w' → WantV w' (fun k => k ∈ bls H0) u1 u2 (cutW x) → WantV w' (fun k => k ∈ bls H0) u3 u4 (cutW y) → Calls Tryd.prog 14 #[.agg #[u1, u2], .agg #[u3, u4]] w' fun e w9 => e = .returned (.bool (pairF (cutW x).1 (cutW x).2 (cutW y).1 (cutW y).2)) ∧ Below w'.heap.size w' w9 := fun g p q => pair_of g p q sx sy
    have cB : ∀ {w'}, Glob w' → WantV w' (fun k => k ∈ bls H0) u1 u2 (cutW x) → WantV w' (fun k => k ∈ bls H0) u3 u4 (cutW y) → Calls Tryd.prog 14 #[.agg #[u3, u4], .agg #[u1, u2]] w' fun e w9 => e = .returned (.bool (pairF (cutW x).1 (cutW x).2 (cutW y).1 (cutW y).2)) ∧ Below w'.heap.size w' w9 := fun g p q => by
      rw [pairF_comm]; exact pair_of g q p sy sx
    have cC : ∀ {w'}, WantV w' (fun k => k ∈ bls H0) u1 u2 (cutW x) → WantV w' (fun k => k ∈ bls H0) u3 u4 (cutW y) → Calls Tryd.prog 15 #[.agg #[u1, u2], .agg #[u3, u4]] w' fun e w9 => e = .returned (.bool (pairF (cutW x).1 (cutW x).2 (cutW y).1 (cutW y).2)) ∧ Below w'.heap.size w' w9 := fun p q => refpair_of p q sx sy
    generalize pairF (cutW x).1 (cutW x).2 (cutW y).1 (cutW y).2 = pp at cA cB cC
    refine at_nil ?_
    refine at_then ?_
    refine at_seq ?_
    refine at_draw (by kernel_rfl) (by kernel_rfl) ?_
    refine atq_do (does_loadagg (i := 1) (k := 2) (by kernel_rfl) rfl rfl rfl) rfl rfl ?_
    refine atq_do (does_loadagg (i := 0) (k := 2) (by kernel_rfl) rfl rfl rfl) rfl rfl ?_
    refine atq_callv (f := 14) (enters_fn (by kernel_rfl) rfl) (fun w ho => cA (ho.glob hG id) (m1 rfl hF ho) (m2 rfl hF ho)) rfl rfl ?_
    refine atq_do (does_loadagg (i := 1) (k := 2) (by kernel_rfl) rfl rfl rfl) rfl rfl ?_
    refine atq_do (does_loadagg (i := 0) (k := 2) (by kernel_rfl) rfl rfl rfl) rfl rfl ?_
    refine atq_callv (f := 15) (enters_fn (by kernel_rfl) rfl) (fun w ho => cC (m1 rfl hF ho) (m2 rfl hF ho)) rfl rfl ?_
    refine atq_do (does_beql (by kernel_rfl) rfl rfl) rfl rfl ?_
    refine atq_do (does_move rfl) rfl rfl ?_
    refine atq_know (t := 16) (d := true) rfl (by simp) ?_
    refine atq_on rfl rfl ?_
    refine atq_do (does_loadagg (i := 0) (k := 2) (by kernel_rfl) rfl rfl rfl) rfl rfl ?_
    refine atq_on rfl rfl ?_
    refine atq_do (does_loadagg (i := 1) (k := 2) (by kernel_rfl) rfl rfl rfl) rfl rfl ?_
    refine atq_on rfl rfl ?_
    refine atq_callv (f := 14) (enters_fn (by kernel_rfl) rfl) (fun w ho => cB (ho.glob hG id) (m1 rfl hF ho) (m2 rfl hF ho)) rfl rfl ?_
    refine atq_on rfl rfl ?_
    refine atq_do (does_loadagg (i := 1) (k := 2) (by kernel_rfl) rfl rfl rfl) rfl rfl ?_
    refine atq_on rfl rfl ?_
    refine atq_do (does_loadagg (i := 0) (k := 2) (by kernel_rfl) rfl rfl rfl) rfl rfl ?_
    refine atq_on rfl rfl ?_
    refine atq_callv (f := 14) (enters_fn (by kernel_rfl) rfl) (fun w ho => cA (ho.glob hG id) (m1 rfl hF ho) (m2 rfl hF ho)) rfl rfl ?_
    refine atq_on rfl rfl ?_
    refine atq_do (does_beql (by kernel_rfl) rfl rfl) rfl rfl ?_
    refine atq_do (does_pick_true rfl rfl) rfl rfl ?_
    refine atq_do (does_move rfl) rfl rfl ?_
    refine atq_know (t := 25) (d := true) rfl (by simp) ?_
    refine atq_on rfl rfl ?_
    refine atq_callv (f := 16) (enters_fn (by kernel_rfl) rfl) (fun w ho => clash_awake w (ho.glob hG id)) rfl rfl ?_
    refine atq_do (does_pick_true rfl rfl) rfl rfl ?_
    refine atq_do (does_assign rfl) rfl rfl ?_
    refine atq_nil ?_
    refine at_then ?_
    refine at_ret ?_
    refine at_ret1 rfl rfl rfl (fun w9 ho9 => ?_)
    rotate_left
    exact ⟨ret_bool (by simp), ho9.plain⟩
end Go.Proofs.YtchfecmabhfooaaDoor
