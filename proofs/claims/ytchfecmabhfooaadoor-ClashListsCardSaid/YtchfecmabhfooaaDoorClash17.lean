/-
  The chapter's examples hold. No condition of its own.
-/
import Derived.Test.YtchfecmabhfooaaDoorClash16
set_option linter.unusedSimpArgs false
set_option linter.unusedVariables false
namespace Go.Proofs.YtchfecmabhfooaaDoor
open Go.RowKit
attribute [local irreducible] cwp lwp Exit.then Exit.inBlock Exit.noGoto wpQuiet Calls fin At AtQ Again endQ RQ four4

def AheadR (v : Value) (w : World) : Prop := ∃ ga ca u0 u1 u3, v = .tuple #[.slice (some ⟨ga, 0, none⟩) 4 ca, .int .i64 0] ∧ w.cell? ⟨ga, 0, none⟩ = some u0 ∧ ValsAt w u0 (ints []) ∧ w.cell? ⟨ga, 1, none⟩ = some u1 ∧ ValsAt w u1 (ints [0]) ∧ w.cell? ⟨ga, 3, none⟩ = some u3 ∧ ValsAt w u3 (ints [0, 1, 2])
theorem four_ahead {arg : Value} {w : World} (hG : Glob w) (hV : WantsAt w arg four4) : Calls Tryd.prog 18 #[arg] w fun e w' => ∃ v, e = .returned v ∧ Below w.heap.size w w' ∧ AheadR v w' :=
  (ahead_yes arg four4 w hG hV four_short four_right).mono fun e w' ⟨v, q1, q2, ⟨ga, ca, hv, hr⟩, _⟩ => by
    have hl : four4.length = 4 := by decide +kernel
    rw [hl] at hv hr
    subst hv
    obtain ⟨u0, a1, a2⟩ := hr 0 (by omega)
    obtain ⟨u1, b1, b2⟩ := hr 1 (by omega)
    obtain ⟨u3, c1, c2⟩ := hr 3 (by omega)
    rw [four_a0] at a2
    rw [four_a1] at b2
    rw [four_a3] at c2
    exact ⟨_, q1, q2, ga, ca, u0, u1, u3, rfl, a1, a2, b1, b2, c1, c2⟩
def RanksR (v : Value) (w : World) : Prop := ∃ ga ca, v = .tuple #[.slice (some ⟨ga, 0, none⟩) 4 ca, .int .i64 0] ∧ w.cell? ⟨ga, 1, none⟩ = some (.int .i64 1) ∧ w.cell? ⟨ga, 2, none⟩ = some (.int .i64 0) ∧ w.cell? ⟨ga, 3, none⟩ = some (.int .i64 2)
theorem four_ranks {arg : Value} {w : World} (hG : Glob w) (hV : WantsAt w arg four4) : Calls Tryd.prog 19 #[arg] w fun e w' => ∃ v, e = .returned v ∧ Below w.heap.size w w' ∧ RanksR v w' :=
  (ranks_yes arg four4 w hG hV four_short four_right).mono fun e w' ⟨v, q1, q2, hr⟩ => by
    have hl : four4.length = 4 := by decide +kernel
    rw [hl, four_rk] at hr
    rcases (row_cases hr).2 with ⟨rfl, h0⟩ | ⟨ga, ca, rfl⟩
    · cases h0
    · exact ⟨_, q1, q2, ga, ca, rfl, hr.cellAt 1 (by omega), hr.cellAt 2 (by omega), hr.cellAt 3 (by omega)⟩
theorem four_swap {arg o : Value} {os : List Nat} {b : Bool} {w : World} (hG : Glob w) (hV : WantsAt w arg four4) (hO : ValsAt w o (ints os)) (hW : WholeO os 4) (hk : keepsO four4 os = b) : Calls Tryd.prog 22 #[arg, o] w fun e w' => e = .returned (.tuple #[.bool b, .int .i64 0]) ∧ Below w.heap.size w w' := by
  have hl : four4.length = 4 := by decide +kernel
  rw [← hk]
  exact swap_yes arg o four4 os w hG hV four_short four_right hO (by rw [hl]; exact hW)
theorem vals_lit {w : World} {g k : Nat} {t : TypeId} {vs : List Value} (h : w.heap[g]? = some (.cells vs.toArray t)) (hk : vs.length = k) : ValsAt w (.slice (some ⟨g, 0, none⟩) k k) vs := by
  subst hk
  exact .inr ⟨⟨g, 0, none⟩, _, rfl, Nat.le_refl _, fun j v hv => by
    rw [add_none, Nat.zero_add, cell_of_row w g j _ t (0, 0) h]
    simpa using hv⟩
theorem whole1 : WholeO [2, 0, 1, 3] 4 := ⟨rfl, by decide, by decide⟩
theorem whole2 : WholeO [1, 0, 2, 3] 4 := ⟨rfl, by decide, by decide⟩
set_option maxHeartbeats 4000000 in
theorem clash_awake (w : World) (hG : Glob w) : Calls Tryd.prog 16 #[] w fun e w' => e = .returned (.bool true) ∧ Below w.heap.size w w' := by
  refine calls_plain Tryd.func16 rfl Tryd.ntmps16 rfl ?_
  refine at_seq ?_
  refine at_region ?_
  refine at_do (does_assign rfl) rfl rfl ?_
  refine at_nil ?_
  refine at_then ?_
  refine at_seq ?_
  refine at_region ?_
  refine at_callk (f := 65) (Φ := fun v w' => WantsAt w' v four4) (enters_fn (by kernel_rfl) rfl) (fun w ho => law_four w) rfl rfl (fun v1 w1 hw1 hv1 => ?_)
  refine at_callk (f := 18) (Φ := AheadR) (enters_fn (by kernel_rfl) rfl) (fun w ho => four_ahead (ho.glob hG id) (hv1.keep (ho.since (by simp [Ctx.re, bls])))) rfl rfl (fun v2 w2 hw2 hv2 => ?_)
  refine at_do (does_move rfl) rfl rfl ?_
  rotate_left
  obtain ⟨ga, ca, u0, u1, u3, rfl, a1, a2, b1, b2, c1, c2⟩ := hv2
  refine at_do (does_extract rfl rfl) rfl rfl ?_
  refine at_do (does_extract rfl rfl) rfl rfl ?_
  refine at_do (does_assign rfl) rfl rfl ?_
  refine at_do (does_assign rfl) rfl rfl ?_
  refine at_nil ?_
  refine at_then ?_
  refine at_seq ?_
  refine at_region ?_
  refine at_callk (f := 65) (Φ := fun v w' => WantsAt w' v four4) (enters_fn (by kernel_rfl) rfl) (fun w ho => law_four w) rfl rfl (fun v3 w3 hw3 hv3 => ?_)
  refine at_callk (f := 19) (Φ := RanksR) (enters_fn (by kernel_rfl) rfl) (fun w ho => four_ranks (ho.glob hG id) (hv3.keep (ho.since (by simp [Ctx.re, bls])))) rfl rfl (fun v4 w4 hw4 hv4 => ?_)
  refine at_do (does_move rfl) rfl rfl ?_
  rotate_left
  obtain ⟨gr, cr, rfl, r1, r2, r3⟩ := hv4
  refine at_do (does_extract rfl rfl) rfl rfl ?_
  refine at_do (does_extract rfl rfl) rfl rfl ?_
  refine at_do (does_assign rfl) rfl rfl ?_
  refine at_do (does_assign rfl) rfl rfl ?_
  refine at_nil ?_
  refine at_then ?_
  refine at_seq ?_
  refine at_region ?_
  refine at_callk (f := 65) (Φ := fun v w' => WantsAt w' v four4) (enters_fn (by kernel_rfl) rfl) (fun w ho => law_four w) rfl rfl (fun v5 w5 hw5 hv5 => ?_)
  refine at_buildSlice (e := 3) (sz := 1) (vs := ints [2, 0, 1, 3]) (cs := ints [2, 0, 1, 3]) (by kernel_rfl) rfl rfl rfl rfl rfl rfl (fun g21 => ?_)
  refine at_callv (f := 22) (enters_fn (by kernel_rfl) rfl) (fun w ho => four_swap (ho.glob hG id) (hv5.keep (ho.since (by simp [Ctx.re, bls]))) (vals_lit (ho.get (i := 0) rfl) rfl) whole1 four_k1) rfl rfl ?_
  refine at_do (does_move rfl) rfl rfl ?_
  refine at_do (does_extract rfl rfl) rfl rfl ?_
  refine at_do (does_extract rfl rfl) rfl rfl ?_
  refine at_do (does_assign rfl) rfl rfl ?_
  refine at_do (does_assign rfl) rfl rfl ?_
  refine at_nil ?_
  refine at_then ?_
  refine at_seq ?_
  refine at_region ?_
  refine at_drop (H' := []) (List.nil_sublist _) (at_callk (f := 65) (Φ := fun v w' => WantsAt w' v four4) (enters_fn (by kernel_rfl) rfl) (fun w ho => law_four w) rfl rfl (fun v6 w6 hw6 hv6 => ?_))
  refine at_buildSlice (e := 3) (sz := 1) (vs := ints [1, 0, 2, 3]) (cs := ints [1, 0, 2, 3]) (by kernel_rfl) rfl rfl rfl rfl rfl rfl (fun g27 => ?_)
  rotate_left
  have s6 : ∀ {C : Ctx} {H : List Res} {w' : World}, Own (Ctx.re C w6 []) H w' → Below w6.heap.size w6 w' := fun ho => ho.since (by simp [Ctx.re, bls])
  have t5 : Below w4.heap.size w4 w5 := hw5.since (by simp [Ctx.re, bls])
  have t6 : Below w5.heap.size w5 w6 := hw6.since (by simp [Ctx.re, bls])
  have t3 : Below w2.heap.size w2 w3 := hw3.since (by simp [Ctx.re, bls])
  have t4 : Below w3.heap.size w3 w4 := hw4.since (by simp [Ctx.re, bls])
  have up : ∀ {w'}, Below w6.heap.size w6 w' → ∀ {p v}, w2.cell? p = some v → w'.cell? p = some v := fun {w'} b6 {p v} h => Below.cellOld b6 (Below.cellOld t6 (Below.cellOld t5 (Below.cellOld t4 (Below.cellOld t3 h))))
  have up4 : ∀ {w'}, Below w6.heap.size w6 w' → ∀ {p v}, w4.cell? p = some v → w'.cell? p = some v := fun {w'} b6 {p v} h => Below.cellOld b6 (Below.cellOld t6 (Below.cellOld t5 h))
  obtain ⟨A1, q0, rfl⟩ := a2.len
  obtain ⟨A2, q1, rfl⟩ := b2.len
  obtain ⟨A3, q3, rfl⟩ := c2.len
  refine at_callv (f := 22) (enters_fn (by kernel_rfl) rfl) (fun w ho => four_swap (ho.glob hG id) (hv6.keep (ho.since (by simp [Ctx.re, bls]))) (vals_lit (ho.get (i := 0) rfl) rfl) whole2 four_k2) rfl rfl ?_
  refine at_do (does_move rfl) rfl rfl ?_
  refine at_do (does_extract rfl rfl) rfl rfl ?_
  refine at_do (does_extract rfl rfl) rfl rfl ?_
  refine at_do (does_assign rfl) rfl rfl ?_
  refine at_do (does_assign rfl) rfl rfl ?_
  refine at_nil ?_
  refine at_then ?_
  refine at_seq ?_
  refine at_region ?_
  refine at_do (does_move rfl) rfl rfl ?_
  refine at_do (does_len (by kernel_rfl) rfl) rfl rfl ?_
  refine at_do (does_eql rfl rfl) rfl rfl ?_
  refine at_do (does_move rfl) rfl rfl ?_
  refine at_know (t := 34) (d := true) rfl (decide_eq_true (by decide)) ?_
  refine at_on rfl rfl ?_
  refine at_do (does_move rfl) rfl rfl ?_
  refine at_on rfl rfl ?_
  refine at_do (does_indexAddr1 (j := 0) (by kernel_rfl) rfl rfl (by omega)) rfl rfl ?_
  refine at_on rfl rfl ?_
  refine at_do (does_load_mem (by kernel_rfl) rfl (fun w' ho => up (s6 ho) a1)) rfl rfl ?_
  refine at_on rfl rfl ?_
  refine at_do (does_len (by kernel_rfl) rfl) rfl rfl ?_
  refine at_on rfl rfl ?_
  refine at_do (does_eql rfl rfl) rfl rfl ?_
  refine at_do (does_pick_true rfl rfl) rfl rfl ?_
  refine at_do (does_move rfl) rfl rfl ?_
  refine at_know (t := 41) (d := true) rfl (decide_eq_true (by decide)) ?_
  refine at_on rfl rfl ?_
  refine at_do (does_move rfl) rfl rfl ?_
  refine at_on rfl rfl ?_
  refine at_do (does_indexAddr1 (j := 1) (by kernel_rfl) rfl rfl (by omega)) rfl rfl ?_
  refine at_on rfl rfl ?_
  refine at_do (does_load_mem (by kernel_rfl) rfl (fun w' ho => up (s6 ho) b1)) rfl rfl ?_
  refine at_on rfl rfl ?_
  refine at_do (does_len (by kernel_rfl) rfl) rfl rfl ?_
  refine at_on rfl rfl ?_
  refine at_do (does_eql rfl rfl) rfl rfl ?_
  refine at_do (does_pick_true rfl rfl) rfl rfl ?_
  refine at_do (does_move rfl) rfl rfl ?_
  refine at_know (t := 48) (d := true) rfl (decide_eq_true (by decide)) ?_
  refine at_on rfl rfl ?_
  refine at_do (does_move rfl) rfl rfl ?_
  refine at_on rfl rfl ?_
  refine at_do (does_indexAddr1 (j := 3) (by kernel_rfl) rfl rfl (by omega)) rfl rfl ?_
  refine at_on rfl rfl ?_
  refine at_do (does_load_mem (by kernel_rfl) rfl (fun w' ho => up (s6 ho) c1)) rfl rfl ?_
  refine at_on rfl rfl ?_
  refine at_do (does_len (by kernel_rfl) rfl) rfl rfl ?_
  refine at_on rfl rfl ?_
  refine at_do (does_eql rfl rfl) rfl rfl ?_
  refine at_do (does_pick_true rfl rfl) rfl rfl ?_
  refine at_do (does_move rfl) rfl rfl ?_
  refine at_know (t := 55) (d := true) rfl (decide_eq_true (by decide)) ?_
  refine at_on rfl rfl ?_
  refine at_do (does_move rfl) rfl rfl ?_
  refine at_on rfl rfl ?_
  refine at_do (does_eql rfl rfl) rfl rfl ?_
  refine at_do (does_pick_true rfl rfl) rfl rfl ?_
  refine at_do (does_move rfl) rfl rfl ?_
  refine at_know (t := 59) (d := true) rfl (decide_eq_true (by decide)) ?_
  refine at_on rfl rfl ?_
  refine at_do (does_move rfl) rfl rfl ?_
  refine at_on rfl rfl ?_
  refine at_do (does_len (by kernel_rfl) rfl) rfl rfl ?_
  refine at_on rfl rfl ?_
  refine at_do (does_eql rfl rfl) rfl rfl ?_
  refine at_do (does_pick_true rfl rfl) rfl rfl ?_
  refine at_do (does_move rfl) rfl rfl ?_
  refine at_know (t := 64) (d := true) rfl (decide_eq_true (by decide)) ?_
  refine at_on rfl rfl ?_
  refine at_do (does_move rfl) rfl rfl ?_
  refine at_on rfl rfl ?_
  refine at_do (does_indexAddr1 (j := 1) (by kernel_rfl) rfl rfl (by omega)) rfl rfl ?_
  refine at_on rfl rfl ?_
  refine at_do (does_load_mem (by kernel_rfl) rfl (fun w' ho => up4 (s6 ho) r1)) rfl rfl ?_
  refine at_on rfl rfl ?_
  refine at_do (does_eql rfl rfl) rfl rfl ?_
  refine at_do (does_pick_true rfl rfl) rfl rfl ?_
  refine at_do (does_move rfl) rfl rfl ?_
  refine at_know (t := 70) (d := true) rfl (decide_eq_true (by decide)) ?_
  refine at_on rfl rfl ?_
  refine at_do (does_move rfl) rfl rfl ?_
  refine at_on rfl rfl ?_
  refine at_do (does_indexAddr1 (j := 2) (by kernel_rfl) rfl rfl (by omega)) rfl rfl ?_
  refine at_on rfl rfl ?_
  refine at_do (does_load_mem (by kernel_rfl) rfl (fun w' ho => up4 (s6 ho) r2)) rfl rfl ?_
  refine at_on rfl rfl ?_
  refine at_do (does_eql rfl rfl) rfl rfl ?_
  refine at_do (does_pick_true rfl rfl) rfl rfl ?_
  refine at_do (does_move rfl) rfl rfl ?_
  refine at_know (t := 76) (d := true) rfl (decide_eq_true (by decide)) ?_
  refine at_on rfl rfl ?_
  refine at_do (does_move rfl) rfl rfl ?_
  refine at_on rfl rfl ?_
  refine at_do (does_indexAddr1 (j := 3) (by kernel_rfl) rfl rfl (by omega)) rfl rfl ?_
  refine at_on rfl rfl ?_
  refine at_do (does_load_mem (by kernel_rfl) rfl (fun w' ho => up4 (s6 ho) r3)) rfl rfl ?_
  refine at_on rfl rfl ?_
  refine at_do (does_eql rfl rfl) rfl rfl ?_
  refine at_do (does_pick_true rfl rfl) rfl rfl ?_
  refine at_do (does_move rfl) rfl rfl ?_
  refine at_know (t := 82) (d := true) rfl (decide_eq_true (by decide)) ?_
  refine at_on rfl rfl ?_
  refine at_do (does_move rfl) rfl rfl ?_
  refine at_on rfl rfl ?_
  refine at_do (does_eql rfl rfl) rfl rfl ?_
  refine at_do (does_pick_true rfl rfl) rfl rfl ?_
  refine at_do (does_move rfl) rfl rfl ?_
  refine at_know (t := 86) (d := true) rfl (decide_eq_true (by decide)) ?_
  refine at_on rfl rfl ?_
  refine at_do (does_move rfl) rfl rfl ?_
  refine at_do (does_pick_true rfl rfl) rfl rfl ?_
  refine at_do (does_move rfl) rfl rfl ?_
  refine at_on rfl rfl ?_
  refine at_do (does_move rfl) rfl rfl ?_
  refine at_on rfl rfl ?_
  refine at_do (does_eql rfl rfl) rfl rfl ?_
  refine at_do (does_pick_true rfl rfl) rfl rfl ?_
  refine at_do (does_move rfl) rfl rfl ?_
  refine at_know (t := 93) (d := true) rfl (decide_eq_true (by decide)) ?_
  refine at_on rfl rfl ?_
  refine at_do (does_move rfl) rfl rfl ?_
  refine at_on rfl rfl ?_
  refine at_do (does_not rfl) rfl rfl ?_
  refine at_do (does_pick_true rfl rfl) rfl rfl ?_
  refine at_do (does_move rfl) rfl rfl ?_
  refine at_know (t := 97) (d := true) rfl (by decide) ?_
  refine at_on rfl rfl ?_
  refine at_do (does_move rfl) rfl rfl ?_
  refine at_on rfl rfl ?_
  refine at_do (does_eql rfl rfl) rfl rfl ?_
  refine at_do (does_pick_true rfl rfl) rfl rfl ?_
  refine at_do (does_move rfl) rfl rfl ?_
  refine at_do (does_pickb rfl rfl rfl) rfl rfl ?_
  refine at_do (does_assign rfl) rfl rfl ?_
  refine at_nil ?_
  refine at_then ?_
  refine at_ret ?_
  refine at_ret1 rfl rfl rfl (fun w9 ho9 => ?_)
  rotate_left
  exact ⟨rfl, ho9.plain⟩
end Go.Proofs.YtchfecmabhfooaaDoor
