/-
  The chapter's examples of clashes. No condition of its own.
  The chapter's examples hold. No condition of its own.
  ClashPairs, walked. No condition of its own.
-/
import Derived.Test.YtchfecmabhfooaaDoorMC
set_option linter.unusedSimpArgs false
set_option linter.unusedVariables false
namespace Go.Proofs.YtchfecmabhfooaaDoor
open Go.RowKit
attribute [local irreducible] cwp lwp Exit.then Exit.inBlock Exit.noGoto wpQuiet Calls fin At AtQ Again endQ RQ

def four4 : List Want2 := [([], [[97, 47]]), ([[97, 47, 49]], []), ([[98]], []), ([], [[]])]
theorem four_short : ShortW four4 := by
  refine ⟨by decide, fun x hx => ?_⟩
  simp only [four4, List.mem_cons, List.not_mem_nil, or_false] at hx
  rcases hx with rfl | rfl | rfl | rfl <;> exact ⟨⟨by decide, by decide⟩, ⟨by decide, by decide⟩⟩
theorem four_right : rightL four4 = true := by decide +kernel
theorem four_a0 : aheadL four4 0 = [] := by decide +kernel
theorem four_a1 : aheadL four4 1 = [0] := by decide +kernel
theorem four_a3 : aheadL four4 3 = [0, 1, 2] := by decide +kernel
theorem four_rk : kOut (aheadL four4) 4 4 = [0, 1, 0, 2] := by decide +kernel
theorem four_k1 : keepsO four4 [2, 0, 1, 3] = true := by decide +kernel
theorem four_k2 : keepsO four4 [1, 0, 2, 3] = false := by decide +kernel
/-- One text that lies there. -/
theorem vals_one {w : World} {g : Nat} {t : TypeId} {u : Value} (h : w.heap[g]? = some (.cells #[u] t)) : ValsAt w (.slice (some ⟨g, 0, none⟩) 1 1) [u] :=
  .inr ⟨⟨g, 0, none⟩, 1, rfl, Nat.le_refl _, fun j v hv => by
    rw [add_none, Nat.zero_add, cell_of_row w g j _ t (0, 0) h]
    match j, hv with
    | 0, hv => simpa using hv⟩
theorem vals_nil (w : World) : ValsAt w (.slice none 0 0) [] := .inl ⟨rfl, rfl⟩
theorem law_four (w : World) : Calls Tryd.prog 65 #[] w fun e w' => ∃ v, e = .returned v ∧ Below w.heap.size w w' ∧ WantsAt w' v four4 := by
  refine calls_plain Tryd.func65 rfl Tryd.ntmps65 rfl ?_
  refine at_seq ?_
  refine at_region ?_
  refine at_do (does_assign rfl) rfl rfl ?_
  refine at_nil ?_
  refine at_then ?_
  refine at_seq ?_
  refine at_region ?_
  refine at_buildSlice (e := 9) (sz := 1) (vs := [.string (bs [97, 47])]) (cs := [.string (bs [97, 47])]) (by kernel_rfl) rfl rfl rfl rfl rfl rfl (fun g1 => ?_)
  refine at_do (does_build (cs := [.slice none 0 0, .slice (some ⟨g1, 0, none⟩) 1 1]) (vs := [(1, .slice (some ⟨g1, 0, none⟩) 1 1)]) shapeWant rfl rfl) rfl rfl ?_
  refine at_buildSlice (e := 9) (sz := 1) (vs := [.string (bs [97, 47, 49])]) (cs := [.string (bs [97, 47, 49])]) (by kernel_rfl) rfl rfl rfl rfl rfl rfl (fun g3 => ?_)
  refine at_do (does_build (cs := [.slice (some ⟨g3, 0, none⟩) 1 1, .slice none 0 0]) (vs := [(0, .slice (some ⟨g3, 0, none⟩) 1 1)]) shapeWant rfl rfl) rfl rfl ?_
  refine at_buildSlice (e := 9) (sz := 1) (vs := [.string (bs [98])]) (cs := [.string (bs [98])]) (by kernel_rfl) rfl rfl rfl rfl rfl rfl (fun g5 => ?_)
  refine at_do (does_build (cs := [.slice (some ⟨g5, 0, none⟩) 1 1, .slice none 0 0]) (vs := [(0, .slice (some ⟨g5, 0, none⟩) 1 1)]) shapeWant rfl rfl) rfl rfl ?_
  refine at_buildSlice (e := 9) (sz := 1) (vs := [.string (bs [])]) (cs := [.string (bs [])]) (by kernel_rfl) rfl rfl rfl rfl rfl rfl (fun g7 => ?_)
  refine at_do (does_build (cs := [.slice none 0 0, .slice (some ⟨g7, 0, none⟩) 1 1]) (vs := [(1, .slice (some ⟨g7, 0, none⟩) 1 1)]) shapeWant rfl rfl) rfl rfl ?_
  refine at_buildSlice (e := 24) (sz := 2) (vs := [.agg #[.slice none 0 0, .slice (some ⟨g1, 0, none⟩) 1 1], .agg #[.slice (some ⟨g3, 0, none⟩) 1 1, .slice none 0 0], .agg #[.slice (some ⟨g5, 0, none⟩) 1 1, .slice none 0 0], .agg #[.slice none 0 0, .slice (some ⟨g7, 0, none⟩) 1 1]]) (cs := [.slice none 0 0, .slice (some ⟨g1, 0, none⟩) 1 1, .slice (some ⟨g3, 0, none⟩) 1 1, .slice none 0 0, .slice (some ⟨g5, 0, none⟩) 1 1, .slice none 0 0, .slice none 0 0, .slice (some ⟨g7, 0, none⟩) 1 1]) (by kernel_rfl) rfl rfl rfl rfl rfl rfl (fun g9 => ?_)
  refine at_do (does_assign rfl) rfl rfl ?_
  refine at_nil ?_
  refine at_then ?_
  refine at_ret ?_
  refine at_ret1 rfl rfl rfl (fun w9 ho9 => ?_)
  rotate_left
  refine ⟨_, rfl, ho9.plain, some ⟨g9, 0, none⟩, 4, rfl, Nat.le_refl _, fun _ => ⟨g9, 0, rfl, (Array.getElem?_eq_some_iff.1 (ho9.get (i := 0) rfl)).1, fun i hi => ?_⟩⟩
  match i, hi with
  | 0, _ => exact ⟨_, _, ho9.cell (i := 0) rfl 0, ho9.cell (i := 0) rfl 1, vals_nil _, vals_one (ho9.get (i := 4) rfl), rfl, rfl⟩
  | 1, _ => exact ⟨_, _, ho9.cell (i := 0) rfl 2, ho9.cell (i := 0) rfl 3, vals_one (ho9.get (i := 3) rfl), vals_nil _, rfl, rfl⟩
  | 2, _ => exact ⟨_, _, ho9.cell (i := 0) rfl 4, ho9.cell (i := 0) rfl 5, vals_one (ho9.get (i := 2) rfl), vals_nil _, rfl, rfl⟩
  | 3, _ => exact ⟨_, _, ho9.cell (i := 0) rfl 6, ho9.cell (i := 0) rfl 7, vals_nil _, vals_one (ho9.get (i := 1) rfl), rfl, rfl⟩
end Go.Proofs.YtchfecmabhfooaaDoor
set_option linter.unusedSimpArgs false
set_option linter.unusedVariables false
namespace Go.Proofs.YtchfecmabhfooaaDoor
open Go.RowKit
attribute [local irreducible] cwp lwp Exit.then Exit.inBlock Exit.noGoto wpQuiet Calls fin At AtQ Again endQ RQ four4

def AheadR (v : Value) (w : World) : Prop := ∃ ga ca u0 u1 u3, v = .tuple #[.slice (some ⟨ga, 0, none⟩) 4 ca, .int .i64 0] ∧ w.cell? ⟨ga, 0, none⟩ = some u0 ∧ ValsAt w u0 (ints []) ∧ w.cell? ⟨ga, 1, none⟩ = some u1 ∧ ValsAt w u1 (ints [0]) ∧ w.cell? ⟨ga, 3, none⟩ = some u3 ∧ ValsAt w u3 (ints [0, 1, 2])
theorem four_ahead {arg : Value} {w : World} (hG : Glob w) (hV : WantsAt w arg four4) : Calls Tryd.prog 18 #[arg] w fun e w' => ∃ v, e = .returned v ∧ Below w.heap.size w w' ∧ AheadR v w' :=
  (ahead_yes arg four4 w hG hV four_short four_right).mono fun e w' ⟨v, q1, q2, ⟨ga, ca, hv, hr⟩, _⟩ => by
    have hl : four4.length = 4 := by decide +kernel
    rw [hl] at hv hr
    subst hv
    obtain ⟨u0, a1, a2⟩ := hr 0 (by omega)
    obtain ⟨u1, b1, b2⟩ := hr 1 (by omega)
    obtain ⟨u3, c1, c2⟩ := hr 3 (by omega)
    rw [four_a0] at a2
    rw [four_a1] at b2
    rw [four_a3] at c2
    exact ⟨_, q1, q2, ga, ca, u0, u1, u3, rfl, a1, a2, b1, b2, c1, c2⟩
def RanksR (v : Value) (w : World) : Prop := ∃ ga ca, v = .tuple #[.slice (some ⟨ga, 0, none⟩) 4 ca, .int .i64 0] ∧ w.cell? ⟨ga, 1, none⟩ = some (.int .i64 1) ∧ w.cell? ⟨ga, 2, none⟩ = some (.int .i64 0) ∧ w.cell? ⟨ga, 3, none⟩ = some (.int .i64 2)
theorem four_ranks {arg : Value} {w : World} (hG : Glob w) (hV : WantsAt w arg four4) : Calls Tryd.prog 19 #[arg] w fun e w' => ∃ v, e = .returned v ∧ Below w.heap.size w w' ∧ RanksR v w' :=
  (ranks_yes arg four4 w hG hV four_short four_right).mono fun e w' ⟨v, q1, q2, hr⟩ => by
    have hl : four4.length = 4 := by decide +kernel
    rw [hl, four_rk] at hr
    rcases (row_cases hr).2 with ⟨rfl, h0⟩ | ⟨ga, ca, rfl⟩
    · cases h0
    · exact ⟨_, q1, q2, ga, ca, rfl, hr.cellAt 1 (by omega), hr.cellAt 2 (by omega), hr.cellAt 3 (by omega)⟩
theorem four_swap {arg o : Value} {os : List Nat} {b : Bool} {w : World} (hG : Glob w) (hV : WantsAt w arg four4) (hO : ValsAt w o (ints os)) (hW : WholeO os 4) (hk : keepsO four4 os = b) : Calls Tryd.prog 22 #[arg, o] w fun e w' => e = .returned (.tuple #[.bool b, .int .i64 0]) ∧ Below w.heap.size w w' := by
  have hl : four4.length = 4 := by decide +kernel
  rw [← hk]
  exact swap_yes arg o four4 os w hG hV four_short four_right hO (by rw [hl]; exact hW)
theorem vals_lit {w : World} {g k : Nat} {t : TypeId} {vs : List Value} (h : w.heap[g]? = some (.cells vs.toArray t)) (hk : vs.length = k) : ValsAt w (.slice (some ⟨g, 0, none⟩) k k) vs := by
  subst hk
  exact .inr ⟨⟨g, 0, none⟩, _, rfl, Nat.le_refl _, fun j v hv => by
    rw [add_none, Nat.zero_add, cell_of_row w g j _ t (0, 0) h]
    simpa using hv⟩
theorem whole1 : WholeO [2, 0, 1, 3] 4 := ⟨rfl, by decide, by decide⟩
theorem whole2 : WholeO [1, 0, 2, 3] 4 := ⟨rfl, by decide, by decide⟩
set_option maxHeartbeats 4000000 in
theorem clash_awake (w : World) (hG : Glob w) : Calls Tryd.prog 16 #[] w fun e w' => e = .returned (.bool true) ∧ Below w.heap.size w w' := by
  refine calls_plain Tryd.func16 rfl Tryd.ntmps16 rfl ?_
  refine at_seq ?_
  refine at_region ?_
  refine at_do (does_assign rfl) rfl rfl ?_
  refine at_nil ?_
  refine at_then ?_
  refine at_seq ?_
  refine at_region ?_
  refine at_callk (f := 65) (Φ := fun v w' => WantsAt w' v four4) (enters_fn (by kernel_rfl) rfl) (fun w ho => law_four w) rfl rfl (fun v1 w1 hw1 hv1 => ?_)
  refine at_callk (f := 18) (Φ := AheadR) (enters_fn (by kernel_rfl) rfl) (fun w ho => four_ahead (ho.glob hG id) (hv1.keep (ho.since (by simp [Ctx.re, bls])))) rfl rfl (fun v2 w2 hw2 hv2 => ?_)
  refine at_do (does_move rfl) rfl rfl ?_
  rotate_left
  obtain ⟨ga, ca, u0, u1, u3, rfl, a1, a2, b1, b2, c1, c2⟩ := hv2
  refine at_do (does_extract rfl rfl) rfl rfl ?_
  refine at_do (does_extract rfl rfl) rfl rfl ?_
  refine at_do (does_assign rfl) rfl rfl ?_
  refine at_do (does_assign rfl) rfl rfl ?_
  refine at_nil ?_
  refine at_then ?_
  refine at_seq ?_
  refine at_region ?_
  refine at_callk (f := 65) (Φ := fun v w' => WantsAt w' v four4) (enters_fn (by kernel_rfl) rfl) (fun w ho => law_four w) rfl rfl (fun v3 w3 hw3 hv3 => ?_)
  refine at_callk (f := 19) (Φ := RanksR) (enters_fn (by kernel_rfl) rfl) (fun w ho => four_ranks (ho.glob hG id) (hv3.keep (ho.since (by simp [Ctx.re, bls])))) rfl rfl (fun v4 w4 hw4 hv4 => ?_)
  refine at_do (does_move rfl) rfl rfl ?_
  rotate_left
  obtain ⟨gr, cr, rfl, r1, r2, r3⟩ := hv4
  refine at_do (does_extract rfl rfl) rfl rfl ?_
  refine at_do (does_extract rfl rfl) rfl rfl ?_
  refine at_do (does_assign rfl) rfl rfl ?_
  refine at_do (does_assign rfl) rfl rfl ?_
  refine at_nil ?_
  refine at_then ?_
  refine at_seq ?_
  refine at_region ?_
  refine at_callk (f := 65) (Φ := fun v w' => WantsAt w' v four4) (enters_fn (by kernel_rfl) rfl) (fun w ho => law_four w) rfl rfl (fun v5 w5 hw5 hv5 => ?_)
  refine at_buildSlice (e := 3) (sz := 1) (vs := ints [2, 0, 1, 3]) (cs := ints [2, 0, 1, 3]) (by kernel_rfl) rfl rfl rfl rfl rfl rfl (fun g21 => ?_)
  refine at_callv (f := 22) (enters_fn (by kernel_rfl) rfl) (fun w ho => four_swap (ho.glob hG id) (hv5.keep (ho.since (by simp [Ctx.re, bls]))) (vals_lit (ho.get (i := 0) rfl) rfl) whole1 four_k1) rfl rfl ?_
  refine at_do (does_move rfl) rfl rfl ?_
  refine at_do (does_extract rfl rfl) rfl rfl ?_
  refine at_do (does_extract rfl rfl) rfl rfl ?_
  refine at_do (does_assign rfl) rfl rfl ?_
  refine at_do (does_assign rfl) rfl rfl ?_
  refine at_nil ?_
  refine at_then ?_
  refine at_seq ?_
  refine at_region ?_
  refine at_drop (H' := []) (List.nil_sublist _) (at_callk (f := 65) (Φ := fun v w' => WantsAt w' v four4) (enters_fn (by kernel_rfl) rfl) (fun w ho => law_four w) rfl rfl (fun v6 w6 hw6 hv6 => ?_))
  refine at_buildSlice (e := 3) (sz := 1) (vs := ints [1, 0, 2, 3]) (cs := ints [1, 0, 2, 3]) (by kernel_rfl) rfl rfl rfl rfl rfl rfl (fun g27 => ?_)
  rotate_left
  have s6 : ∀ {C : Ctx} {H : List Res} {w' : World}, Own (Ctx.re C w6 []) H w' → Below w6.heap.size w6 w' := fun ho => ho.since (by simp [Ctx.re, bls])
  have t5 : Below w4.heap.size w4 w5 := hw5.since (by simp [Ctx.re, bls])
  have t6 : Below w5.heap.size w5 w6 := hw6.since (by simp [Ctx.re, bls])
  have t3 : Below w2.heap.size w2 w3 := hw3.since (by simp [Ctx.re, bls])
  have t4 : Below w3.heap.size w3 w4 := hw4.since (by simp [Ctx.re, bls])
  have up : ∀ {w'}, Below w6.heap.size w6 w' → ∀ {p v}, w2.cell? p = some v → w'.cell? p = some v := fun {w'} b6 {p v} h => Below.cellOld b6 (Below.cellOld t6 (Below.cellOld t5 (Below.cellOld t4 (Below.cellOld t3 h))))
  have up4 : ∀ {w'}, Below w6.heap.size w6 w' → ∀ {p v}, w4.cell? p = some v → w'.cell? p = some v := fun {w'} b6 {p v} h => Below.cellOld b6 (Below.cellOld t6 (Below.cellOld t5 h))
  obtain ⟨A1, q0, rfl⟩ := a2.len
  obtain ⟨A2, q1, rfl⟩ := b2.len
  obtain ⟨A3, q3, rfl⟩ := c2.len
  refine at_callv (f := 22) (enters_fn (by kernel_rfl) rfl) (fun w ho => four_swap (ho.glob hG id) (hv6.keep (ho.since (by simp [Ctx.re, bls]))) (vals_lit (ho.get (i := 0) rfl) rfl) whole2 four_k2) rfl rfl ?_
  refine at_do (does_move rfl) rfl rfl ?_
  refine at_do (does_extract rfl rfl) rfl rfl ?_
  refine at_do (does_extract rfl rfl) rfl rfl ?_
  refine at_do (does_assign rfl) rfl rfl ?_
  refine at_do (does_assign rfl) rfl rfl ?_
  refine at_nil ?_
  refine at_then ?_
  refine at_seq ?_
  refine at_region ?_
  refine at_do (does_move rfl) rfl rfl ?_
  refine at_do (does_len (by kernel_rfl) rfl) rfl rfl ?_
  refine at_do (does_eql rfl rfl) rfl rfl ?_
  refine at_do (does_move rfl) rfl rfl ?_
  refine at_know (t := 34) (d := true) rfl (decide_eq_true (by decide)) ?_
  refine at_on rfl rfl ?_
  refine at_do (does_move rfl) rfl rfl ?_
  refine at_on rfl rfl ?_
  refine at_do (does_indexAddr1 (j := 0) (by kernel_rfl) rfl rfl (by omega)) rfl rfl ?_
  refine at_on rfl rfl ?_
  refine at_do (does_load_mem (by kernel_rfl) rfl (fun w' ho => up (s6 ho) a1)) rfl rfl ?_
  refine at_on rfl rfl ?_
  refine at_do (does_len (by kernel_rfl) rfl) rfl rfl ?_
  refine at_on rfl rfl ?_
  refine at_do (does_eql rfl rfl) rfl rfl ?_
  refine at_do (does_pick_true rfl rfl) rfl rfl ?_
  refine at_do (does_move rfl) rfl rfl ?_
  refine at_know (t := 41) (d := true) rfl (decide_eq_true (by decide)) ?_
  refine at_on rfl rfl ?_
  refine at_do (does_move rfl) rfl rfl ?_
  refine at_on rfl rfl ?_
  refine at_do (does_indexAddr1 (j := 1) (by kernel_rfl) rfl rfl (by omega)) rfl rfl ?_
  refine at_on rfl rfl ?_
  refine at_do (does_load_mem (by kernel_rfl) rfl (fun w' ho => up (s6 ho) b1)) rfl rfl ?_
  refine at_on rfl rfl ?_
  refine at_do (does_len (by kernel_rfl) rfl) rfl rfl ?_
  refine at_on rfl rfl ?_
  refine at_do (does_eql rfl rfl) rfl rfl ?_
  refine at_do (does_pick_true rfl rfl) rfl rfl ?_
  refine at_do (does_move rfl) rfl rfl ?_
  refine at_know (t := 48) (d := true) rfl (decide_eq_true (by decide)) ?_
  refine at_on rfl rfl ?_
  refine at_do (does_move rfl) rfl rfl ?_
  refine at_on rfl rfl ?_
  refine at_do (does_indexAddr1 (j := 3) (by kernel_rfl) rfl rfl (by omega)) rfl rfl ?_
  refine at_on rfl rfl ?_
  refine at_do (does_load_mem (by kernel_rfl) rfl (fun w' ho => up (s6 ho) c1)) rfl rfl ?_
  refine at_on rfl rfl ?_
  refine at_do (does_len (by kernel_rfl) rfl) rfl rfl ?_
  refine at_on rfl rfl ?_
  refine at_do (does_eql rfl rfl) rfl rfl ?_
  refine at_do (does_pick_true rfl rfl) rfl rfl ?_
  refine at_do (does_move rfl) rfl rfl ?_
  refine at_know (t := 55) (d := true) rfl (decide_eq_true (by decide)) ?_
  refine at_on rfl rfl ?_
  refine at_do (does_move rfl) rfl rfl ?_
  refine at_on rfl rfl ?_
  refine at_do (does_eql rfl rfl) rfl rfl ?_
  refine at_do (does_pick_true rfl rfl) rfl rfl ?_
  refine at_do (does_move rfl) rfl rfl ?_
  refine at_know (t := 59) (d := true) rfl (decide_eq_true (by decide)) ?_
  refine at_on rfl rfl ?_
  refine at_do (does_move rfl) rfl rfl ?_
  refine at_on rfl rfl ?_
  refine at_do (does_len (by kernel_rfl) rfl) rfl rfl ?_
  refine at_on rfl rfl ?_
  refine at_do (does_eql rfl rfl) rfl rfl ?_
  refine at_do (does_pick_true rfl rfl) rfl rfl ?_
  refine at_do (does_move rfl) rfl rfl ?_
  refine at_know (t := 64) (d := true) rfl (decide_eq_true (by decide)) ?_
  refine at_on rfl rfl ?_
  refine at_do (does_move rfl) rfl rfl ?_
  refine at_on rfl rfl ?_
  refine at_do (does_indexAddr1 (j := 1) (by kernel_rfl) rfl rfl (by omega)) rfl rfl ?_
  refine at_on rfl rfl ?_
  refine at_do (does_load_mem (by kernel_rfl) rfl (fun w' ho => up4 (s6 ho) r1)) rfl rfl ?_
  refine at_on rfl rfl ?_
  refine at_do (does_eql rfl rfl) rfl rfl ?_
  refine at_do (does_pick_true rfl rfl) rfl rfl ?_
  refine at_do (does_move rfl) rfl rfl ?_
  refine at_know (t := 70) (d := true) rfl (decide_eq_true (by decide)) ?_
  refine at_on rfl rfl ?_
  refine at_do (does_move rfl) rfl rfl ?_
  refine at_on rfl rfl ?_
  refine at_do (does_indexAddr1 (j := 2) (by kernel_rfl) rfl rfl (by omega)) rfl rfl ?_
  refine at_on rfl rfl ?_
  refine at_do (does_load_mem (by kernel_rfl) rfl (fun w' ho => up4 (s6 ho) r2)) rfl rfl ?_
  refine at_on rfl rfl ?_
  refine at_do (does_eql rfl rfl) rfl rfl ?_
  refine at_do (does_pick_true rfl rfl) rfl rfl ?_
  refine at_do (does_move rfl) rfl rfl ?_
  refine at_know (t := 76) (d := true) rfl (decide_eq_true (by decide)) ?_
  refine at_on rfl rfl ?_
  refine at_do (does_move rfl) rfl rfl ?_
  refine at_on rfl rfl ?_
  refine at_do (does_indexAddr1 (j := 3) (by kernel_rfl) rfl rfl (by omega)) rfl rfl ?_
  refine at_on rfl rfl ?_
  refine at_do (does_load_mem (by kernel_rfl) rfl (fun w' ho => up4 (s6 ho) r3)) rfl rfl ?_
  refine at_on rfl rfl ?_
  refine at_do (does_eql rfl rfl) rfl rfl ?_
  refine at_do (does_pick_true rfl rfl) rfl rfl ?_
  refine at_do (does_move rfl) rfl rfl ?_
  refine at_know (t := 82) (d := true) rfl (decide_eq_true (by decide)) ?_
  refine at_on rfl rfl ?_
  refine at_do (does_move rfl) rfl rfl ?_
  refine at_on rfl rfl ?_
  refine at_do (does_eql rfl rfl) rfl rfl ?_
  refine at_do (does_pick_true rfl rfl) rfl rfl ?_
  refine at_do (does_move rfl) rfl rfl ?_
  refine at_know (t := 86) (d := true) rfl (decide_eq_true (by decide)) ?_
  refine at_on rfl rfl ?_
  refine at_do (does_move rfl) rfl rfl ?_
  refine at_do (does_pick_true rfl rfl) rfl rfl ?_
  refine at_do (does_move rfl) rfl rfl ?_
  refine at_on rfl rfl ?_
  refine at_do (does_move rfl) rfl rfl ?_
  refine at_on rfl rfl ?_
  refine at_do (does_eql rfl rfl) rfl rfl ?_
  refine at_do (does_pick_true rfl rfl) rfl rfl ?_
  refine at_do (does_move rfl) rfl rfl ?_
  refine at_know (t := 93) (d := true) rfl (decide_eq_true (by decide)) ?_
  refine at_on rfl rfl ?_
  refine at_do (does_move rfl) rfl rfl ?_
  refine at_on rfl rfl ?_
  refine at_do (does_not rfl) rfl rfl ?_
  refine at_do (does_pick_true rfl rfl) rfl rfl ?_
  refine at_do (does_move rfl) rfl rfl ?_
  refine at_know (t := 97) (d := true) rfl (by decide) ?_
  refine at_on rfl rfl ?_
  refine at_do (does_move rfl) rfl rfl ?_
  refine at_on rfl rfl ?_
  refine at_do (does_eql rfl rfl) rfl rfl ?_
  refine at_do (does_pick_true rfl rfl) rfl rfl ?_
  refine at_do (does_move rfl) rfl rfl ?_
  refine at_do (does_pickb rfl rfl rfl) rfl rfl ?_
  refine at_do (does_assign rfl) rfl rfl ?_
  refine at_nil ?_
  refine at_then ?_
  refine at_ret ?_
  refine at_ret1 rfl rfl rfl (fun w9 ho9 => ?_)
  rotate_left
  exact ⟨rfl, ho9.plain⟩
end Go.Proofs.YtchfecmabhfooaaDoor
set_option linter.unusedSimpArgs false
set_option linter.unusedVariables false
namespace Go.Proofs.YtchfecmabhfooaaDoor
open Go.RowKit
attribute [local irreducible] cwp lwp Exit.then Exit.inBlock Exit.noGoto wpQuiet Calls fin At AtQ Again endQ RQ

/-- A want that lies out of these blocks. -/
def WantR (H : List Res) (x : Want2) (v : Value) (w : World) : Prop := ∃ u1 u2, v = .agg #[u1, u2] ∧ WantV w (fun k => k ∈ bls H) u1 u2 x
theorem wantR_stab (H : List Res) (x : Want2) : (Spec.rel (WantR H x)).stab := fun v w w' ⟨u1, u2, hv, hu⟩ hb =>
  ⟨u1, u2, hv, hu.move (Frm.ofBelow hb fun k hk hB => absurd hB (by omega)) (fun k _ h => h)⟩
theorem cutW_short (x : Want2) : Short (cutW x).1 ∧ Short (cutW x).2 := ⟨cutL_short _, cutL_short _⟩
theorem pair_of {w : World} {B B' : Nat → Prop} {a b c d : Value} {x y : Want2} (hG : Glob w) (h1 : WantV w B a b x) (h2 : WantV w B' c d y) (sx : Short x.1 ∧ Short x.2) (sy : Short y.1 ∧ Short y.2) :
    Calls Tryd.prog 14 #[.agg #[a, b], .agg #[c, d]] w fun e w' => e = .returned (.bool (pairF x.1 x.2 y.1 y.2)) ∧ Below w.heap.size w w' :=
  clash_Pair a b c d _ _ _ _ w hG h1.1.2.1 h1.2.2.1 h2.1.2.1 h2.2.2.1 sx.1 sx.2 sy.1 sy.2 h1.1.1 h1.2.1 h2.1.1 h2.2.1
theorem refpair_of {w : World} {B B' : Nat → Prop} {a b c d : Value} {x y : Want2} (h1 : WantV w B a b x) (h2 : WantV w B' c d y) (sx : Short x.1 ∧ Short x.2) (sy : Short y.1 ∧ Short y.2) :
    Calls Tryd.prog 15 #[.agg #[a, b], .agg #[c, d]] w fun e w' => e = .returned (.bool (pairF x.1 x.2 y.1 y.2)) ∧ Below w.heap.size w w' :=
  ref_Pair a b c d _ _ _ _ w h1.1.2.1 h1.2.2.1 h2.1.2.1 h2.2.2.1 sx.1 sx.2 sy.1 sy.2 h1.1.1 h1.2.1 h2.1.1 h2.2.1
set_option maxHeartbeats 4000000 in
theorem law_ClashPairs (a1 b1 a2 b2 : Value) (x y : Want2) (w : World) (hG : Glob w) (h1 : ValsAt w a1 (strs x.1)) (h2 : ValsAt w b1 (strs x.2)) (h3 : ValsAt w a2 (strs y.1)) (h4 : ValsAt w b2 (strs y.2)) (o1 : a1.oneCell' = true) (o2 : b1.oneCell' = true) (o3 : a2.oneCell' = true) (o4 : b2.oneCell' = true) :
    Calls Tryd.prog 3 #[.agg #[a1, b1], .agg #[a2, b2]] w fun e w' => e = .returned (.bool true) ∧ Below w.heap.size w w' := by
  refine calls_plain Tryd.func3 rfl Tryd.ntmps3 rfl ?_
  refine at_seq ?_
  refine at_region ?_
  refine at_boxagg rfl rfl fun gz0 => ?_
  refine at_boxagg rfl rfl fun gz1 => ?_
  refine at_do (does_assign rfl) rfl rfl ?_
  refine at_nil ?_
  refine at_then ?_
  refine at_seq ?_
  rotate_left
  refine at_reW fun W2 hW2 hold => ?_
  obtain ⟨H0, hH0⟩ : ∃ H0, H0 = [Res.blk gz1 24 #[a2, b2], Res.blk gz0 24 #[a1, b1]] := ⟨_, rfl⟩
  apply at_drawR 4 [.val (.agg #[a1, b1]), .rel (WantR H0 (cutW x)), .val (.agg #[a2, b2]), .rel (WantR H0 (cutW y))] (by kernel_rfl) (by kernel_rfl) rfl ⟨trivial, wantR_stab _ _, trivial, wantR_stab _ _, trivial⟩
  · subst hH0
    refine so_cons rfl (fun vs => ?_) ?_
    exact step1_does (does_loadagg (i := 1) (k := 2) (by kernel_rfl) rfl rfl rfl)
    refine so_cons rfl (fun vs => ?_) ?_
    exact step1_rel (f := 13) (enters_fn (by kernel_rfl) rfl) (fun w ho hx => want_call (x := x) ho (ho.oldVals h1) (ho.oldVals h2) o1 o2)
    refine so_cons rfl (fun vs => ?_) ?_
    exact step1_does (does_loadagg (i := 0) (k := 2) (by kernel_rfl) rfl rfl rfl)
    refine so_cons rfl (fun vs => ?_) ?_
    exact step1_rel (f := 13) (enters_fn (by kernel_rfl) rfl) (fun w ho hx => want_call (x := y) ho (ho.oldVals h3) (ho.oldVals h4) o3 o4)
    exact so_nil
  · intro vs w3 hw3 hp
    obtain ⟨⟨u1, u2, hu, y1⟩, ⟨u3, u4, hv, y2⟩, _⟩ := hp
    refine at_weak (E' := [(2, .pointer (some ⟨gz0, 0, none⟩)), (3, .pointer (some ⟨gz1, 0, none⟩)), (6, .agg #[u1, u2]), (8, .agg #[u3, u4])]) ⟨rfl, rfl, by rw [← hu]; rfl, by rw [← hv]; rfl, trivial⟩ ?_
    show At _ _ _ _ (lwp _ _ _ _ (_ :: _))
    have q1 := y1.1.1
    have q2 := y1.2.1
    have q3 := y2.1.1
    have q4 := y2.2.1
    apply at_storeagg (i := 1) (h := gz0) (tb := 24) (cs := #[a1, b1]) (vs := #[u1, u2]) (by kernel_rfl) rfl rfl (by simp [q1, q2]) rfl rfl
    show At _ _ _ _ (lwp _ _ _ _ (_ :: _))
    apply at_storeagg (i := 0) (h := gz1) (tb := 24) (cs := #[a2, b2]) (vs := #[u3, u4]) (by kernel_rfl) rfl rfl (by simp [q3, q4]) rfl rfl
    have m1 : ∀ {C : Ctx} {H : List Res} {w' : World}, C.w = w3 → C.F = (fun k => k ∈ bls H0) → Own C H w' → WantV w' (fun k => k ∈ bls H0) u1 u2 (cutW x) := fun e1 e2 ho => y1.move (e1 ▸ e2 ▸ ho.base) (fun k _ h => h)
    have m2 : ∀ {C : Ctx} {H : List Res} {w' : World}, C.w = w3 → C.F = (fun k => k ∈ bls H0) → Own C H w' → WantV w' (fun k => k ∈ bls H0) u3 u4 (cutW y) := fun e1 e2 ho => y2.move (e1 ▸ e2 ▸ ho.base) (fun k _ h => h)
    have hF : ∀ {C : Ctx}, (C.re w3 [Res.blk gz1 24 #[a2, b2], Res.blk gz0 24 #[a1, b1]]).F = (fun k => k ∈ bls H0) := by intro C; rw [hH0]; rfl
    have sx := cutW_short x
    have sy := cutW_short y
    have cA : ∀ {w'}, Glob w' → WantV w' (fun k => k ∈ bls H0) u1 u2 (cutW x) → WantV w' (fun k => k ∈ bls H0) u3 u4 (cutW y) → Calls Tryd.prog 14 #[.agg #[u1, u2], .agg #[u3, u4]] w' fun e w9 => e = .returned (.bool (pairF (cutW x).1 (cutW x).2 (cutW y).1 (cutW y).2)) ∧ Below w'.heap.size w' w9 := fun g p q => pair_of g p q sx sy
    have cB : ∀ {w'}, Glob w' → WantV w' (fun k => k ∈ bls H0) u1 u2 (cutW x) → WantV w' (fun k => k ∈ bls H0) u3 u4 (cutW y) → Calls Tryd.prog 14 #[.agg #[u3, u4], .agg #[u1, u2]] w' fun e w9 => e = .returned (.bool (pairF (cutW x).1 (cutW x).2 (cutW y).1 (cutW y).2)) ∧ Below w'.heap.size w' w9 := fun g p q => by
      rw [pairF_comm]; exact pair_of g q p sy sx
    have cC : ∀ {w'}, WantV w' (fun k => k ∈ bls H0) u1 u2 (cutW x) → WantV w' (fun k => k ∈ bls H0) u3 u4 (cutW y) → Calls Tryd.prog 15 #[.agg #[u1, u2], .agg #[u3, u4]] w' fun e w9 => e = .returned (.bool (pairF (cutW x).1 (cutW x).2 (cutW y).1 (cutW y).2)) ∧ Below w'.heap.size w' w9 := fun p q => refpair_of p q sx sy
    generalize pairF (cutW x).1 (cutW x).2 (cutW y).1 (cutW y).2 = pp at cA cB cC
    refine at_nil ?_
    refine at_then ?_
    refine at_seq ?_
    refine at_draw (by kernel_rfl) (by kernel_rfl) ?_
    refine atq_do (does_loadagg (i := 1) (k := 2) (by kernel_rfl) rfl rfl rfl) rfl rfl ?_
    refine atq_do (does_loadagg (i := 0) (k := 2) (by kernel_rfl) rfl rfl rfl) rfl rfl ?_
    refine atq_callv (f := 14) (enters_fn (by kernel_rfl) rfl) (fun w ho => cA (ho.glob hG id) (m1 rfl hF ho) (m2 rfl hF ho)) rfl rfl ?_
    refine atq_do (does_loadagg (i := 1) (k := 2) (by kernel_rfl) rfl rfl rfl) rfl rfl ?_
    refine atq_do (does_loadagg (i := 0) (k := 2) (by kernel_rfl) rfl rfl rfl) rfl rfl ?_
    refine atq_callv (f := 15) (enters_fn (by kernel_rfl) rfl) (fun w ho => cC (m1 rfl hF ho) (m2 rfl hF ho)) rfl rfl ?_
    refine atq_do (does_beql (by kernel_rfl) rfl rfl) rfl rfl ?_
    refine atq_do (does_move rfl) rfl rfl ?_
    refine atq_know (t := 16) (d := true) rfl (by simp) ?_
    refine atq_on rfl rfl ?_
    refine atq_do (does_loadagg (i := 0) (k := 2) (by kernel_rfl) rfl rfl rfl) rfl rfl ?_
    refine atq_on rfl rfl ?_
    refine atq_do (does_loadagg (i := 1) (k := 2) (by kernel_rfl) rfl rfl rfl) rfl rfl ?_
    refine atq_on rfl rfl ?_
    refine atq_callv (f := 14) (enters_fn (by kernel_rfl) rfl) (fun w ho => cB (ho.glob hG id) (m1 rfl hF ho) (m2 rfl hF ho)) rfl rfl ?_
    refine atq_on rfl rfl ?_
    refine atq_do (does_loadagg (i := 1) (k := 2) (by kernel_rfl) rfl rfl rfl) rfl rfl ?_
    refine atq_on rfl rfl ?_
    refine atq_do (does_loadagg (i := 0) (k := 2) (by kernel_rfl) rfl rfl rfl) rfl rfl ?_
    refine atq_on rfl rfl ?_
    refine atq_callv (f := 14) (enters_fn (by kernel_rfl) rfl) (fun w ho => cA (ho.glob hG id) (m1 rfl hF ho) (m2 rfl hF ho)) rfl rfl ?_
    refine atq_on rfl rfl ?_
    refine atq_do (does_beql (by kernel_rfl) rfl rfl) rfl rfl ?_
    refine atq_do (does_pick_true rfl rfl) rfl rfl ?_
    refine atq_do (does_move rfl) rfl rfl ?_
    refine atq_know (t := 25) (d := true) rfl (by simp) ?_
    refine atq_on rfl rfl ?_
    refine atq_callv (f := 16) (enters_fn (by kernel_rfl) rfl) (fun w ho => clash_awake w (ho.glob hG id)) rfl rfl ?_
    refine atq_do (does_pick_true rfl rfl) rfl rfl ?_
    refine atq_do (does_assign rfl) rfl rfl ?_
    refine atq_nil ?_
    refine at_then ?_
    refine at_ret ?_
    refine at_ret1 rfl rfl rfl (fun w9 ho9 => ?_)
    rotate_left
    exact ⟨ret_bool (by simp), ho9.plain⟩
end Go.Proofs.YtchfecmabhfooaaDoor
