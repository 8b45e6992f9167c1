/-
  The chapter's examples of clashes. No condition of its own.
-/
import Derived.Test.YtchfecmabhfooaaDoorClashLaw
set_option linter.unusedSimpArgs false
set_option linter.unusedVariables false
namespace Go.Proofs.YtchfecmabhfooaaDoor
open Go.RowKit
attribute [local irreducible] cwp lwp Exit.then Exit.inBlock Exit.noGoto wpQuiet Calls fin At AtQ Again endQ RQ

def four4 : List Want2 := [([], [[97, 47]]), ([[97, 47, 49]], []), ([[98]], []), ([], [[]])]
theorem four_short : ShortW four4 := by
  refine ⟨by decide, fun x hx => ?_⟩
  simp only [four4, List.mem_cons, List.not_mem_nil, or_false] at hx
  rcases hx with rfl | rfl | rfl | rfl <;> exact ⟨⟨by decide, by decide⟩, ⟨by decide, by decide⟩⟩
theorem four_right : rightL four4 = true := by decide +kernel
theorem four_a0 : aheadL four4 0 = [] := by decide +kernel
theorem four_a1 : aheadL four4 1 = [0] := by decide +kernel
theorem four_a3 : aheadL four4 3 = [0, 1, 2] := by decide +kernel
theorem four_rk : kOut (aheadL four4) 4 4 = [0, 1, 0, 2] := by decide +kernel
theorem four_k1 : keepsO four4 [2, 0, 1, 3] = true := by decide +kernel
theorem four_k2 : keepsO four4 [1, 0, 2, 3] = false := by decide +kernel
/-- One text that lies there. -/
theorem vals_one {w : World} {g : Nat} {t : TypeId} {u : Value} (h : w.heap[g]? = some (.cells #[u] t)) : ValsAt w (.slice (some ⟨g, 0, none⟩) 1 1) [u] :=
  .inr ⟨⟨g, 0, none⟩, 1, rfl, Nat.le_refl _, fun j v hv => by
    rw [add_none, Nat.zero_add, cell_of_row w g j _ t (0, 0) h]
    match j, hv with
    | 0, hv => simpa using hv⟩
theorem vals_nil (w : World) : ValsAt w (.slice none 0 0) [] := .inl ⟨rfl, rfl⟩
theorem law_four (w : World) : Calls Tryd.prog 65 #[] w fun e w' => ∃ v, e = .returned v ∧ Below w.heap.size w w' ∧ WantsAt w' v four4 := by
  refine calls_plain Tryd.func65 rfl Tryd.ntmps65 rfl ?_
  refine at_seq ?_
  refine at_region ?_
  refine at_do (does_assign rfl) rfl rfl ?_
  refine at_nil ?_
  refine at_then ?_
  refine at_seq ?_
  refine at_region ?_
  refine at_buildSlice (e := 9) (sz := 1) (vs := [.string (bs [97, 47])]) (cs := [.string (bs [97, 47])]) (by kernel_rfl) rfl rfl rfl rfl rfl rfl (fun g1 => ?_)
  refine at_do (does_build (cs := [.slice none 0 0, .slice (some ⟨g1, 0, none⟩) 1 1]) (vs := [(1, .slice (some ⟨g1, 0, none⟩) 1 1)]) shapeWant rfl rfl) rfl rfl ?_
  refine at_buildSlice (e := 9) (sz := 1) (vs := [.string (bs [97, 47, 49])]) (cs := [.string (bs [97, 47, 49])]) (by kernel_rfl) rfl rfl rfl rfl rfl rfl (fun g3 => ?_)
  refine at_do (does_build (cs := [.slice (some ⟨g3, 0, none⟩) 1 1, .slice none 0 0]) (vs := [(0, .slice (some ⟨g3, 0, none⟩) 1 1)]) shapeWant rfl rfl) rfl rfl ?_
  refine at_buildSlice (e := 9) (sz := 1) (vs := [.string (bs [98])]) (cs := [.string (bs [98])]) (by kernel_rfl) rfl rfl rfl rfl rfl rfl (fun g5 => ?_)
  refine at_do (does_build (cs := [.slice (some ⟨g5, 0, none⟩) 1 1, .slice none 0 0]) (vs := [(0, .slice (some ⟨g5, 0, none⟩) 1 1)]) shapeWant rfl rfl) rfl rfl ?_
  refine at_buildSlice (e := 9) (sz := 1) (vs := [.string (bs [])]) (cs := [.string (bs [])]) (by kernel_rfl) rfl rfl rfl rfl rfl rfl (fun g7 => ?_)
  refine at_do (does_build (cs := [.slice none 0 0, .slice (some ⟨g7, 0, none⟩) 1 1]) (vs := [(1, .slice (some ⟨g7, 0, none⟩) 1 1)]) shapeWant rfl rfl) rfl rfl ?_
  refine at_buildSlice (e := 24) (sz := 2) (vs := [.agg #[.slice none 0 0, .slice (some ⟨g1, 0, none⟩) 1 1], .agg #[.slice (some ⟨g3, 0, none⟩) 1 1, .slice none 0 0], .agg #[.slice (some ⟨g5, 0, none⟩) 1 1, .slice none 0 0], .agg #[.slice none 0 0, .slice (some ⟨g7, 0, none⟩) 1 1]]) (cs := [.slice none 0 0, .slice (some ⟨g1, 0, none⟩) 1 1, .slice (some ⟨g3, 0, none⟩) 1 1, .slice none 0 0, .slice (some ⟨g5, 0, none⟩) 1 1, .slice none 0 0, .slice none 0 0, .slice (some ⟨g7, 0, none⟩) 1 1]) (by kernel_rfl) rfl rfl rfl rfl rfl rfl (fun g9 => ?_)
  refine at_do (does_assign rfl) rfl rfl ?_
  refine at_nil ?_
  refine at_then ?_
  refine at_ret ?_
  refine at_ret1 rfl rfl rfl (fun w9 ho9 => ?_)
  rotate_left
  refine ⟨_, rfl, ho9.plain, some ⟨g9, 0, none⟩, 4, rfl, Nat.le_refl _, fun _ => ⟨g9, 0, rfl, (Array.getElem?_eq_some_iff.1 (ho9.get (i := 0) rfl)).1, fun i hi => ?_⟩⟩
  match i, hi with
  | 0, _ => exact ⟨_, _, ho9.cell (i := 0) rfl 0, ho9.cell (i := 0) rfl 1, vals_nil _, vals_one (ho9.get (i := 4) rfl), rfl, rfl⟩
  | 1, _ => exact ⟨_, _, ho9.cell (i := 0) rfl 2, ho9.cell (i := 0) rfl 3, vals_one (ho9.get (i := 3) rfl), vals_nil _, rfl, rfl⟩
  | 2, _ => exact ⟨_, _, ho9.cell (i := 0) rfl 4, ho9.cell (i := 0) rfl 5, vals_one (ho9.get (i := 2) rfl), vals_nil _, rfl, rfl⟩
  | 3, _ => exact ⟨_, _, ho9.cell (i := 0) rfl 6, ho9.cell (i := 0) rfl 7, vals_nil _, vals_one (ho9.get (i := 1) rfl), rfl, rfl⟩
end Go.Proofs.YtchfecmabhfooaaDoor
