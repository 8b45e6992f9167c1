/-
  A want, no more of it than is looked at. No condition of its own.
-/
import Derived.Test.YtchfecmabhfooaaDoorClash6
set_option linter.unusedSimpArgs false
set_option linter.unusedVariables false
namespace Go.Proofs.YtchfecmabhfooaaDoor
open Go.RowKit
section
variable {P : Program} {n : Nat} {E : List (Nat × Value)} {C : Ctx} {H : List Res} {t : TypeId}
theorem at_retagg0 {fn : Func} {R : Ending → World → Prop} {s i h k : Nat} {tb : TypeId} {cs : Array Value} (hr : fn.results = #[.cell s t]) (hm : C.marks = []) (ht : eget E s = some (.pointer (some ⟨h, 0, none⟩))) (hi : H[i]? = some (.blk h tb cs)) (hT : aggT P t = some k) (hv : cs.size = k)
    (hk : ∀ w, Own C H w → R (.returned (.agg cs)) w) : At n E C H (fin P fn R .ret) := by
  intro a w hf hd ho
  refine fin_ret (v := .agg cs) hm hd ?_ (hk w ho)
  have h1 := hf.get s _ ht
  have h2 := run_loadAgg (P := P) (t := t) hT (ho.get hi) hv
  have h3 : a.tmps.getD s undef = .pointer (some ⟨h, 0, none⟩) := by rw [Array.getD_eq_getD_getElem?, h1]; rfl
  unfold results
  rw [hr]
  simp only [List.mapM_toArray, List.mapM_cons, List.mapM_nil, h3, asAddr, Sem.run_bind, Sem.run_pure, Result.andThen, map_eq_pure_bind, h2]
  rfl
end
attribute [local irreducible] cwp lwp Exit.then Exit.inBlock Exit.noGoto wpQuiet Calls fin At AtQ Again endQ RQ

theorem shapeWant : shapeOf Tryd.prog 24 = some ([.slice none 0 0, .slice none 0 0], [(0, 1), (1, 1)]) := by kernel_rfl
def TwoB (b : Nat) (R W : List (List UInt8)) (v : Value) (w : World) : Prop := ∃ u1 u2, v = .agg #[u1, u2] ∧ RowB b 9 R.length (strs R) u1 w ∧ RowB b 9 W.length (strs W) u2 w
theorem twoB_stab (b : Nat) (R W : List (List UInt8)) : (Spec.rel (TwoB b R W)).stab := fun v w w' ⟨u1, u2, h, h1, h2⟩ hb => ⟨u1, u2, h, rowB_stab _ _ _ _ u1 w w' h1 hb, rowB_stab _ _ _ _ u2 w w' h2 hb⟩
theorem rowB_one {b e m : Nat} {xs : List Value} {v : Value} {w : World} (h : RowB b e m xs v w) : v.oneCell' = true := row_one h
theorem rowB_fill {b e m b' e' m' : Nat} {xs ys : List Value} {u v : Value} {w : World} (h1 : RowB b e m xs u w) (h2 : RowB b' e' m' ys v w) :
    Instr.fill (fun i => ([(0, 1), (1, 1)] : List (Nat × Nat))[i]?) #[.slice none 0 0, .slice none 0 0] [(0, u), (1, v)] = some #[u, v] := by
  rcases (row_cases h1).2 with ⟨rfl, _⟩ | ⟨g, c, rfl⟩ <;> rcases (row_cases h2).2 with ⟨rfl, _⟩ | ⟨g', c', rfl⟩ <;> rfl
theorem cpat {v : Value} {L : List (List UInt8)} {w0 w : World} {b : Nat} (hb : b ≤ w.heap.size) (hV : ValsAt w v (strs L)) : Calls Tryd.prog 60 #[v] w fun e w' => ∃ u, e = .returned u ∧ Below w.heap.size w w' ∧ RowB b 9 (cutL L).length (strs (cutL L)) u w' :=
  (law_patterns v L w hV).mono fun e w' ⟨u, h1, h2, h3⟩ => ⟨u, h1, h2, h3.1, h3.2.imp id fun ⟨g, cap, cur, q1, q2, q3⟩ => ⟨g, cap, cur, q1, Nat.le_trans hb q2, q3⟩⟩
/-- What is handed out is of new memory. -/
def New (b : Nat) (v : Value) : Prop := ∀ g ∈ v.ownBlock, b ≤ g
theorem rowB_new {b e m : Nat} {xs : List Value} {v : Value} {w : World} (h : RowB b e m xs v w) : New b v := by
  intro g hg
  rcases h.2 with ⟨rfl, _⟩ | ⟨g', cap, cur, rfl, hb, _⟩
  · simp [Value.ownBlock] at hg
  · simp [Value.ownBlock] at hg; omega
set_option maxHeartbeats 4000000 in
theorem law_Wants (a b : Value) (R W : List (List UInt8)) (w : World) (h1 : ValsAt w a (strs R)) (h2 : ValsAt w b (strs W)) (o1 : a.oneCell' = true) (o2 : b.oneCell' = true) :
    Calls Tryd.prog 13 #[.agg #[a, b]] w fun e w' => ∃ v, e = .returned v ∧ Below w.heap.size w w' ∧ ∃ u1 u2, v = .agg #[u1, u2] ∧ ValsAt w' u1 (strs (cutL R)) ∧ ValsAt w' u2 (strs (cutL W)) ∧ New w.heap.size u1 ∧ New w.heap.size u2 ∧ u1.oneCell' = true ∧ u2.oneCell' = true := by
  refine calls_plain Tryd.func13 rfl Tryd.ntmps13 rfl ?_
  refine at_seq ?_
  refine at_region ?_
  refine at_boxagg rfl rfl fun gz0 => ?_
  refine at_allocagg Tryd.zeroValue24 rfl fun gz1 => ?_
  refine at_nil ?_
  refine at_then ?_
  refine at_seq ?_
  rotate_left
  refine at_reW fun W2 hW2 hold => ?_
  have hwW : w.heap.size ≤ W2.heap.size := hW2.orig.size
  apply at_drawR 7 [.val _, .val a, .rel (RowB W2.heap.size 9 (cutL R).length (strs (cutL R))), .val _, .val b, .rel (RowB W2.heap.size 9 (cutL W).length (strs (cutL W))), .rel (TwoB W2.heap.size (cutL R) (cutL W))] (by kernel_rfl) (by kernel_rfl) rfl ⟨trivial, trivial, rowB_stab _ _ _ _, trivial, trivial, rowB_stab _ _ _ _, twoB_stab _ _ _, trivial⟩
  · refine so_cons rfl (fun vs => ?_) ?_
    exact step1_does (does_fieldAddr (o := 0) (by kernel_rfl) rfl)
    refine so_cons rfl (fun vs => ?_) ?_
    exact step1_does (does_load (i := 1) (by kernel_rfl) rfl rfl rfl)
    refine so_cons rfl (fun vs => ?_) ?_
    exact step1_rel (f := 60) (enters_fn (by kernel_rfl) rfl) (fun w ho hx => cpat (w0 := w) ho.base.size (ho.oldVals h1))
    refine so_cons rfl (fun vs => ?_) ?_
    exact step1_does (does_fieldAddr (o := 1) (by kernel_rfl) rfl)
    refine so_cons rfl (fun vs => ?_) ?_
    exact step1_does (does_load (i := 1) (by kernel_rfl) rfl rfl rfl)
    refine so_cons rfl (fun vs => ?_) ?_
    exact step1_rel (f := 60) (enters_fn (by kernel_rfl) rfl) (fun w ho hx => cpat (w0 := w) ho.base.size (ho.oldVals h2))
    refine so_cons rfl (fun vs => ?_) ?_
    rotate_left
    exact so_nil
    refine step1_run fun ac wc hf ho hX => ?_
    have x1 : RowB W2.heap.size 9 (cutL R).length (strs (cutL R)) (vs 2) wc := hX.1
    have x2 : RowB W2.heap.size 9 (cutL W).length (strs (cutL W)) (vs 5) wc := hX.2.1
    refine ⟨_, _, does_build (ps := [(0, .tmp 5), (1, .tmp 8)]) (cs := [vs 2, vs 5]) (vs := [(0, vs 2), (1, vs 5)]) shapeWant ?_ (rowB_fill x1 x2) ac wc hf ho, Below.refl _ _, vs 2, vs 5, rfl, x1, x2⟩
    rfl
  · intro vs w3 hw3 hp
    obtain ⟨_, _, ⟨u1, u2, hu, y1, y2⟩, _⟩ := hp
    refine at_weak (E' := [(2, .pointer (some ⟨gz1, 0, none⟩)), (9, .agg #[u1, u2])]) ⟨rfl, by rw [← hu]; rfl, trivial⟩ ?_
    show At _ _ _ _ (lwp _ _ _ _ (_ :: _))
    have q1 := rowB_one y1
    have q2 := rowB_one y2
    apply at_storeagg (i := 0) (h := gz1) (tb := 24) (cs := #[.slice none 0 0, .slice none 0 0]) (vs := #[u1, u2])
    · kernel_rfl
    · rfl
    · rfl
    · simp [q1, q2]
    · rfl
    · simp
    refine at_nil ?_
    repeat (first | refine at_then ?_ | refine at_then_ret ?_ | refine at_inb ?_ | refine at_inb_ret ?_ | refine at_nog ?_ | refine at_nog_ret ?_ | refine at_ret ?_)
    refine at_retagg0 (i := 0) rfl rfl rfl rfl (by kernel_rfl) rfl (fun w9 ho9 => ?_)
    have hF : ∀ k, k ∈ bls [Res.blk gz1 24 #[.slice none 0 0, .slice none 0 0], Res.blk gz0 24 #[a, b]] → k < W2.heap.size := hold
    have keep : ∀ {u : Value} {L : List (List UInt8)}, RowB W2.heap.size 9 L.length (strs L) u w3 → RowB W2.heap.size 9 L.length (strs L) u w9 := by
      intro u L hr
      refine ⟨hr.1, hr.2.imp id ?_⟩
      rintro ⟨g, cap, cur, p1, p2, p3, p4⟩
      refine ⟨g, cap, cur, p1, p2, (ho9.base.old g (Array.getElem?_eq_some_iff.1 p3).1 (fun hk => ?_)).trans p3, p4⟩
      have := hF g hk
      omega
    have z1 := keep y1
    have z2 := keep y2
    exact ⟨_, rfl, ho9.plain, u1, u2, rfl, vals_of_row z1, vals_of_row z2, fun g hg => Nat.le_trans hwW (rowB_new z1 g hg), fun g hg => Nat.le_trans hwW (rowB_new z2 g hg), q1, q2⟩
end Go.Proofs.YtchfecmabhfooaaDoor
