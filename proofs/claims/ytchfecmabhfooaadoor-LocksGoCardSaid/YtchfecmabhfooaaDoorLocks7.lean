/-
  The chapter's examples of locks hold. No condition of its own.
-/
import Derived.Test.YtchfecmabhfooaaDoorLocks6
set_option linter.unusedSimpArgs false
set_option linter.unusedVariables false
namespace Go.Proofs.YtchfecmabhfooaaDoor
open Go.RowKit

theorem mem_ph {gp n : Nat} {ps : List Nat} {k : Nat} : k ∈ bls [phR gp n ps] ↔ k = gp := by simp [bls, Res.blocks, Value.ownBlock]
theorem bls_ph (gp n : Nat) (ps : List Nat) : (fun k => k ∈ bls [phR gp n ps]) = fun k => k = gp := funext fun k => propext mem_ph
theorem new_own {C : Ctx} {H : List Res} {arg : Value} {L : List Want2} {w : World} (ho : Own C H w) (hG : Glob w) (hV : WantsAt w arg L) (hS : ShortW L) (h : rightL L = true) :
    Calls Tryd.prog 23 #[arg] w fun e w' => ∃ i : Nat × Nat × Nat × Nat, e = .returned (.tuple #[.pointer (some ⟨i.1, 0, none⟩), .int .i64 0]) ∧ Own C [phR i.2.2.2 L.length (List.replicate L.length 0)] w' ∧ TabF w' (fun k => k = i.2.2.2) i.1 i.2.1 i.2.2.1 i.2.2.2 L :=
  (new_yes arg L w hG hV hS h).mono fun e w' ⟨v, q1, q2, gt, gh, ca, gp, hv, q3, q4⟩ => by
    subst hv
    exact ⟨(gt, gh, ca, gp), q1, (ho.gain q2 (q := phR gp L.length (List.replicate L.length 0)) ⟨q4.1, q4.2.imp id fun ⟨g, cap, cur, z1, z2, z3⟩ => ⟨g, cap, cur, z1, Nat.zero_le _, z3⟩⟩ (fun k hk => (q4.lt k (by simpa [Res.blocks] using hk)).1)).sublist (.cons_cons _ (List.nil_sublist _)), q3⟩
theorem tabF_at {C : Ctx} {w1 w' : World} {gt gh ca gp : Nat} {L : List Want2} {ps0 : List Nat} {H : List Res} (hT : TabF w1 (fun k => k = gp) gt gh ca gp L) (ho : Own (Ctx.re C w1 [phR gp L.length ps0]) H w') : TabF w' (fun k => k = gp) gt gh ca gp L :=
  hT.move (ho.base.mono fun k _ hk => mem_ph.1 hk) (fun _ _ h => h)
theorem begin_is {w : World} {gt gh ca gp : Nat} {L : List Want2} {ps ps' : List Nat} {c i : Nat} (hT : TabF w (fun k => k = gp) gt gh ca gp L) (hs : Sound ps L.length) (ho : Own (inC w [phR gp L.length ps]) [phR gp L.length ps] w) (hi : i < L.length) (hc : beginC L ps i = c) (hp : beginP L ps i = ps') :
    Calls Tryd.prog 27 #[.pointer (some ⟨gt, 0, none⟩), .int .i64 (i : Int)] w fun e w' => ∃ _ : Unit, e = .returned (.int .i64 (c : Int)) ∧ InR w (fun k => k ∈ bls [phR gp L.length ps]) [phR gp L.length ps'] w' := by
  subst hc hp
  exact tab_Begin_in (by rw [bls_ph]; exact hT) hs ho i hi
theorem end_is {w : World} {gt gh ca gp : Nat} {L : List Want2} {ps ps' : List Nat} {c i : Nat} (hT : TabF w (fun k => k = gp) gt gh ca gp L) (hs : Sound ps L.length) (ho : Own (inC w [phR gp L.length ps]) [phR gp L.length ps] w) (hi : i < L.length) (hc : endC ps i = c) (hp : endP ps i = ps') :
    Calls Tryd.prog 25 #[.pointer (some ⟨gt, 0, none⟩), .int .i64 (i : Int)] w fun e w' => ∃ _ : Unit, e = .returned (.int .i64 (c : Int)) ∧ InR w (fun k => k ∈ bls [phR gp L.length ps]) [phR gp L.length ps'] w' := by
  subst hc hp
  exact tab_End_in (by rw [bls_ph]; exact hT) hs ho i hi
theorem ready_is {w : World} {gt gh ca gp cp : Nat} {L : List Want2} {ps xs : List Nat} (h : Tab w gt gh ca gp cp L ps) (hx : allOf L.length (mayL L ps) = xs) :
    Calls Tryd.prog 33 #[.pointer (some ⟨gt, 0, none⟩)] w fun e w' => ∃ v, e = .returned v ∧ Below w.heap.size w w' ∧ w'.ownsRow w.heap.size 3 1 v xs.length (ints xs) := by
  subst hx
  exact tab_Ready h
def TupR (b : Nat) (xs : List Nat) (v : Value) (w : World) : Prop := ∃ u, v = .tuple #[u, .int .i64 0] ∧ w.ownsRow b 3 1 u xs.length (ints xs)
theorem waits_own {C : Ctx} {H : List Res} {w : World} {gt gh ca gp cp : Nat} {L : List Want2} {ps xs : List Nat} (ho : Own C H w) (h : Tab w gt gh ca gp cp L ps) (i : Nat) (hi : i < L.length) (hx : waitsL L ps i = xs) :
    Calls Tryd.prog 29 #[.pointer (some ⟨gt, 0, none⟩), .int .i64 (i : Int)] w fun e w' => ∃ v, e = .returned (.tuple #[v, .int .i64 0]) ∧ Own C (.row v 3 1 xs.length (ints xs) :: H) w' := by
  subst hx
  exact (tab_Waits_in h i hi).mono fun e w' ⟨v, q1, q2, q4⟩ => ⟨v, q1, ho.gain q2 ⟨q4.1, q4.2.imp id fun ⟨g, cap, cur, z1, z2, z3⟩ => ⟨g, cap, cur, z1, Nat.zero_le _, z3⟩⟩ (fun k hk => (q4.lt k (by simpa [Res.blocks] using hk)).1)⟩
theorem sound4 : ∀ ps ∈ [[0, 0, 0, 0], [1, 0, 0, 0], [1, 0, 1, 0], [2, 0, 1, 0]], Sound ps four4.length := by
  intro ps hps
  have key : ∀ ps : List Nat, ps.length = four4.length → (ps.all fun x => Nat.ble x 2) = true → Sound ps four4.length := fun ps h1 h2 => ⟨h1, by decide +kernel, fun i => by
    unfold ph
    rw [List.getD_eq_getElem?_getD]
    cases hx : ps[i]? with
    | none => simp
    | some x =>
      have := List.all_eq_true.1 h2 x (List.mem_of_getElem? hx)
      simpa using this⟩
  simp only [List.mem_cons, List.not_mem_nil, or_false] at hps
  rcases hps with rfl | rfl | rfl | rfl <;> exact key _ (by decide +kernel) (by decide +kernel)
theorem zero4 : List.replicate four4.length 0 = [0, 0, 0, 0] := by decide +kernel
theorem a0 : allOf four4.length (mayL four4 [0, 0, 0, 0]) = [0, 2] := by decide +kernel
theorem a1 : allOf four4.length (mayL four4 [1, 0, 1, 0]) = [] := by decide +kernel
theorem a2 : allOf four4.length (mayL four4 [2, 0, 1, 0]) = [1] := by decide +kernel
theorem wt3 : waitsL four4 [1, 0, 1, 0] 3 = [0, 1, 2] := by decide +kernel
theorem b1 : beginC four4 [0, 0, 0, 0] 1 = 20 := by decide +kernel
theorem b1' : beginP four4 [0, 0, 0, 0] 1 = [0, 0, 0, 0] := by decide +kernel
theorem b0 : beginC four4 [0, 0, 0, 0] 0 = 0 := by decide +kernel
theorem b0' : beginP four4 [0, 0, 0, 0] 0 = [1, 0, 0, 0] := by decide +kernel
theorem b2 : beginC four4 [1, 0, 0, 0] 2 = 0 := by decide +kernel
theorem b2' : beginP four4 [1, 0, 0, 0] 2 = [1, 0, 1, 0] := by decide +kernel
theorem e0 : endC [1, 0, 1, 0] 0 = 0 := by decide +kernel
theorem e0' : endP [1, 0, 1, 0] 0 = [2, 0, 1, 0] := by decide +kernel
theorem e3 : endC [2, 0, 1, 0] 3 = 6 := by decide +kernel
theorem e3' : endP [2, 0, 1, 0] 3 = [2, 0, 1, 0] := by decide +kernel
theorem lt4 {i : Nat} (h : i < 4) : i < four4.length := by
  have : four4.length = 4 := by decide +kernel
  omega
/-- The chapter's wants, in a block of one's own. -/
theorem four_own {C : Ctx} {w : World} {g1 g3 g5 g7 g9 : Nat} (ho : Own C [.blk g9 24 #[.slice none 0 0, .slice (some ⟨g1, 0, none⟩) 1 1, .slice (some ⟨g3, 0, none⟩) 1 1, .slice none 0 0, .slice (some ⟨g5, 0, none⟩) 1 1, .slice none 0 0, .slice none 0 0, .slice (some ⟨g7, 0, none⟩) 1 1], .blk g7 9 #[.string (bs [])], .blk g5 9 #[.string (bs [98])], .blk g3 9 #[.string (bs [97, 47, 49])], .blk g1 9 #[.string (bs [97, 47])]] w) :
    WantsAt w (.slice (some ⟨g9, 0, none⟩) 4 4) four4 := by
  refine ⟨some ⟨g9, 0, none⟩, 4, rfl, Nat.le_refl _, fun _ => ⟨g9, 0, rfl, (Array.getElem?_eq_some_iff.1 (ho.get (i := 0) rfl)).1, fun i hi => ?_⟩⟩
  match i, hi with
  | 0, _ => exact ⟨_, _, ho.cell (i := 0) rfl 0, ho.cell (i := 0) rfl 1, vals_nil _, vals_one (ho.get (i := 4) rfl), rfl, rfl⟩
  | 1, _ => exact ⟨_, _, ho.cell (i := 0) rfl 2, ho.cell (i := 0) rfl 3, vals_one (ho.get (i := 3) rfl), vals_nil _, rfl, rfl⟩
  | 2, _ => exact ⟨_, _, ho.cell (i := 0) rfl 4, ho.cell (i := 0) rfl 5, vals_one (ho.get (i := 2) rfl), vals_nil _, rfl, rfl⟩
  | 3, _ => exact ⟨_, _, ho.cell (i := 0) rfl 6, ho.cell (i := 0) rfl 7, vals_nil _, vals_one (ho.get (i := 1) rfl), rfl, rfl⟩
attribute [local irreducible] cwp lwp Exit.then Exit.inBlock Exit.noGoto wpQuiet Calls fin At AtQ Again endQ RQ four4
set_option maxHeartbeats 8000000 in
theorem locks_awake (w : World) (hG : Glob w) : Calls Tryd.prog 24 #[] w fun e w' => e = .returned (.bool true) ∧ Below w.heap.size w w' := by
  refine calls_plain Tryd.func24 rfl Tryd.ntmps24 rfl ?_
  refine at_seq ?_
  refine at_region ?_
  refine at_do (does_assign rfl) rfl rfl ?_
  refine at_nil ?_
  refine at_then ?_
  refine at_seq ?_
  refine at_region ?_
  refine at_buildSlice (e := 9) (sz := 1) (vs := [.string (bs [97, 47])]) (cs := [.string (bs [97, 47])]) (by kernel_rfl) rfl rfl rfl rfl rfl rfl (fun g1 => ?_)
  refine at_do (does_build (cs := [.slice none 0 0, .slice (some ⟨g1, 0, none⟩) 1 1]) (vs := [(1, .slice (some ⟨g1, 0, none⟩) 1 1)]) shapeWant rfl rfl) rfl rfl ?_
  refine at_buildSlice (e := 9) (sz := 1) (vs := [.string (bs [97, 47, 49])]) (cs := [.string (bs [97, 47, 49])]) (by kernel_rfl) rfl rfl rfl rfl rfl rfl (fun g3 => ?_)
  refine at_do (does_build (cs := [.slice (some ⟨g3, 0, none⟩) 1 1, .slice none 0 0]) (vs := [(0, .slice (some ⟨g3, 0, none⟩) 1 1)]) shapeWant rfl rfl) rfl rfl ?_
  refine at_buildSlice (e := 9) (sz := 1) (vs := [.string (bs [98])]) (cs := [.string (bs [98])]) (by kernel_rfl) rfl rfl rfl rfl rfl rfl (fun g5 => ?_)
  refine at_do (does_build (cs := [.slice (some ⟨g5, 0, none⟩) 1 1, .slice none 0 0]) (vs := [(0, .slice (some ⟨g5, 0, none⟩) 1 1)]) shapeWant rfl rfl) rfl rfl ?_
  refine at_buildSlice (e := 9) (sz := 1) (vs := [.string (bs [])]) (cs := [.string (bs [])]) (by kernel_rfl) rfl rfl rfl rfl rfl rfl (fun g7 => ?_)
  refine at_do (does_build (cs := [.slice none 0 0, .slice (some ⟨g7, 0, none⟩) 1 1]) (vs := [(1, .slice (some ⟨g7, 0, none⟩) 1 1)]) shapeWant rfl rfl) rfl rfl ?_
  refine at_buildSlice (e := 24) (sz := 2) (vs := [.agg #[.slice none 0 0, .slice (some ⟨g1, 0, none⟩) 1 1], .agg #[.slice (some ⟨g3, 0, none⟩) 1 1, .slice none 0 0], .agg #[.slice (some ⟨g5, 0, none⟩) 1 1, .slice none 0 0], .agg #[.slice none 0 0, .slice (some ⟨g7, 0, none⟩) 1 1]]) (cs := [.slice none 0 0, .slice (some ⟨g1, 0, none⟩) 1 1, .slice (some ⟨g3, 0, none⟩) 1 1, .slice none 0 0, .slice (some ⟨g5, 0, none⟩) 1 1, .slice none 0 0, .slice none 0 0, .slice (some ⟨g7, 0, none⟩) 1 1]) (by kernel_rfl) rfl rfl rfl rfl rfl rfl (fun g9 => ?_)
  refine at_callr (f := 23) (ι := Nat × Nat × Nat × Nat) (fun i => .tuple #[.pointer (some ⟨i.1, 0, none⟩), .int .i64 0]) (fun i => [phR i.2.2.2 four4.length (List.replicate four4.length 0)]) (fun i w' => TabF w' (fun k => k = i.2.2.2) i.1 i.2.1 i.2.2.1 i.2.2.2 four4) (enters_fn (by kernel_rfl) rfl) (fun w ho => new_own ho (ho.glob hG id) (four_own ho) four_short four_right) rfl rfl rfl (fun i w1 hw1 hT => ?_)
  refine at_do (does_move rfl) rfl rfl ?_
  refine at_do (does_extract rfl rfl) rfl rfl ?_
  refine at_do (does_extract rfl rfl) rfl rfl ?_
  refine at_do (does_assign rfl) rfl rfl ?_
  refine at_do (does_assign rfl) rfl rfl ?_
  refine at_nil ?_
  refine at_then ?_
  refine at_seq ?_
  refine at_seq ?_
  refine at_region ?_
  refine at_do (does_move rfl) rfl rfl ?_
  refine at_do (does_neq rfl rfl) rfl rfl ?_
  refine at_do (does_move rfl) rfl rfl ?_
  refine at_know (t := 27) (d := false) rfl (decide_eq_false (by omega)) ?_
  refine at_on rfl rfl ?_
  refine at_do (does_move rfl) rfl rfl ?_
  refine at_on rfl rfl ?_
  refine at_do (does_nileql (by kernel_rfl) rfl rfl) rfl rfl ?_
  refine at_do (does_pick_false rfl rfl) rfl rfl ?_
  refine at_nil ?_
  refine at_then ?_
  refine at_cond_f rfl (by rfl) ?_
  refine at_skip ?_
  refine at_then ?_
  refine at_seq ?_
  refine at_region ?_
  refine at_do (does_move rfl) rfl rfl ?_
  rotate_left
  obtain ⟨gt, gh, ca, gp⟩ := i
  simp only at hT hw1 ⊢
  rw [zero4] at hw1 ⊢
  have hN : ∀ {H : List Res} {w' : World}, Own (Ctx.re ⟨w, fun _ => False, fun _ => False, w, fun _ => False, []⟩ w1 [phR gp four4.length [0, 0, 0, 0]]) H w' → TabF w' (fun k => k = gp) gt gh ca gp four4 := fun ho => tabF_at hT ho
  refine at_callrow (f := 33) (e := 3) (sz := 1) (m := ([0, 2] : List Nat).length) (xs := ints [0, 2]) (enters_fn (by kernel_rfl) rfl) (fun w ho => ready_is ((hN ho).tab (ho.rowAt (i := 0) rfl) (sound4 _ (by simp))) a0) rfl rfl (fun va => at_swap01 ?_)
  refine at_do (does_assign rfl) rfl rfl ?_
  refine at_nil ?_
  refine at_then ?_
  refine at_seq ?_
  refine at_region ?_
  refine at_do (does_move rfl) rfl rfl ?_
  refine at_callin (f := 27) (ι := Unit) (H0 := [phR gp four4.length [0, 0, 0, 0]]) (R := [.row va 3 1 ([0, 2] : List Nat).length (ints [0, 2])]) (fun _ => .int .i64 ((20 : Nat) : Int)) (fun _ => [phR gp four4.length [0, 0, 0, 0]]) rfl (enters_fn (by kernel_rfl) rfl) (fun w ho hi => begin_is (i := 1) (hN ho) (sound4 _ (by simp)) hi (lt4 (by omega)) b1 b1') rfl rfl (fun _ => ?_)
  refine at_do (does_assign rfl) rfl rfl ?_
  refine at_nil ?_
  refine at_then ?_
  refine at_seq ?_
  refine at_region ?_
  refine at_do (does_move rfl) rfl rfl ?_
  refine at_callin (f := 27) (ι := Unit) (H0 := [phR gp four4.length [0, 0, 0, 0]]) (R := [.row va 3 1 ([0, 2] : List Nat).length (ints [0, 2])]) (fun _ => .int .i64 ((0 : Nat) : Int)) (fun _ => [phR gp four4.length [1, 0, 0, 0]]) rfl (enters_fn (by kernel_rfl) rfl) (fun w ho hi => begin_is (i := 0) (hN ho) (sound4 _ (by simp)) hi (lt4 (by omega)) b0 b0') rfl rfl (fun _ => ?_)
  refine at_do (does_move rfl) rfl rfl ?_
  refine at_callin (f := 27) (ι := Unit) (H0 := [phR gp four4.length [1, 0, 0, 0]]) (R := [.row va 3 1 ([0, 2] : List Nat).length (ints [0, 2])]) (fun _ => .int .i64 ((0 : Nat) : Int)) (fun _ => [phR gp four4.length [1, 0, 1, 0]]) rfl (enters_fn (by kernel_rfl) rfl) (fun w ho hi => begin_is (i := 2) (hN ho) (sound4 _ (by simp)) hi (lt4 (by omega)) b2 b2') rfl rfl (fun _ => ?_)
  refine at_do (does_assign rfl) rfl rfl ?_
  refine at_do (does_assign rfl) rfl rfl ?_
  refine at_nil ?_
  refine at_then ?_
  refine at_seq ?_
  refine at_region ?_
  refine at_do (does_move rfl) rfl rfl ?_
  refine at_callrow (f := 33) (e := 3) (sz := 1) (m := ([] : List Nat).length) (xs := ints []) (enters_fn (by kernel_rfl) rfl) (fun w ho => ready_is ((hN ho).tab (ho.rowAt (i := 0) rfl) (sound4 _ (by simp))) a1) rfl rfl (fun vb => at_swap01 ?_)
  refine at_do (does_assign rfl) rfl rfl ?_
  refine at_nil ?_
  refine at_then ?_
  refine at_seq ?_
  refine at_region ?_
  refine at_do (does_move rfl) rfl rfl ?_
  refine at_call (f := 29) (ι := Value) (fun v => .tuple #[v, .int .i64 0]) (fun vw => [.row vw 3 1 ([0, 1, 2] : List Nat).length (ints [0, 1, 2]), phR gp four4.length [1, 0, 1, 0], .row vb 3 1 ([] : List Nat).length (ints []), .row va 3 1 ([0, 2] : List Nat).length (ints [0, 2])]) (enters_fn (by kernel_rfl) rfl) (fun w ho => waits_own ho ((hN ho).tab (ho.rowAt (i := 0) rfl) (sound4 _ (by simp))) 3 (lt4 (by omega)) wt3) rfl rfl rfl (fun vw => at_swap01 ?_)
  refine at_do (does_move rfl) rfl rfl ?_
  refine at_do (does_extract rfl rfl) rfl rfl ?_
  refine at_do (does_extract rfl rfl) rfl rfl ?_
  refine at_do (does_assign rfl) rfl rfl ?_
  refine at_do (does_assign rfl) rfl rfl ?_
  refine at_nil ?_
  refine at_then ?_
  refine at_seq ?_
  refine at_region ?_
  refine at_do (does_move rfl) rfl rfl ?_
  refine at_callin (f := 25) (ι := Unit) (H0 := [phR gp four4.length [1, 0, 1, 0]]) (R := [.row vw 3 1 ([0, 1, 2] : List Nat).length (ints [0, 1, 2]), .row vb 3 1 ([] : List Nat).length (ints []), .row va 3 1 ([0, 2] : List Nat).length (ints [0, 2])]) (fun _ => .int .i64 ((0 : Nat) : Int)) (fun _ => [phR gp four4.length [2, 0, 1, 0]]) rfl (enters_fn (by kernel_rfl) rfl) (fun w ho hi => end_is (i := 0) (hN ho) (sound4 _ (by simp)) hi (lt4 (by omega)) e0 e0') rfl rfl (fun _ => ?_)
  refine at_do (does_assign rfl) rfl rfl ?_
  refine at_nil ?_
  refine at_then ?_
  refine at_seq ?_
  refine at_region ?_
  refine at_do (does_move rfl) rfl rfl ?_
  refine at_callrow (f := 33) (e := 3) (sz := 1) (m := ([1] : List Nat).length) (xs := ints [1]) (enters_fn (by kernel_rfl) rfl) (fun w ho => ready_is ((hN ho).tab (ho.rowAt (i := 0) rfl) (sound4 _ (by simp))) a2) rfl rfl (fun vc => at_swap01 ?_)
  refine at_do (does_assign rfl) rfl rfl ?_
  refine at_nil ?_
  refine at_then ?_
  refine at_seq ?_
  refine at_region ?_
  refine at_do (does_move rfl) rfl rfl ?_
  refine at_buildSlice (e := 3) (sz := 1) (vs := ints [0, 2]) (cs := ints [0, 2]) (by kernel_rfl) rfl rfl rfl rfl rfl rfl (fun q1 => ?_)
  refine at_callv (f := 30) (enters_fn (by kernel_rfl) rfl) (fun w ho => same_yes va _ [0, 2] w (vals_of_row (ho.rowAt (i := 5) rfl)) (vals_lit (ho.get (i := 0) rfl) rfl) (by decide)) rfl rfl ?_
  refine at_do (does_move rfl) rfl rfl ?_
  refine at_on rfl rfl ?_
  refine at_do (does_move rfl) rfl rfl ?_
  refine at_on rfl rfl ?_
  refine at_do (does_eql rfl rfl) rfl rfl ?_
  refine at_do (does_pick_true rfl rfl) rfl rfl ?_
  refine at_do (does_move rfl) rfl rfl ?_
  refine at_know (t := 57) (d := true) rfl (decide_eq_true (by decide)) ?_
  refine at_on rfl rfl ?_
  refine at_do (does_move rfl) rfl rfl ?_
  refine at_on rfl rfl ?_
  refine at_do (does_eql rfl rfl) rfl rfl ?_
  refine at_do (does_pick_true rfl rfl) rfl rfl ?_
  refine at_do (does_move rfl) rfl rfl ?_
  refine at_know (t := 61) (d := true) rfl (decide_eq_true (by decide)) ?_
  refine at_on rfl rfl ?_
  refine at_do (does_move rfl) rfl rfl ?_
  refine at_on rfl rfl ?_
  refine at_do (does_eql rfl rfl) rfl rfl ?_
  refine at_do (does_pick_true rfl rfl) rfl rfl ?_
  refine at_do (does_move rfl) rfl rfl ?_
  refine at_know (t := 65) (d := true) rfl (decide_eq_true (by decide)) ?_
  refine at_on rfl rfl ?_
  refine at_do (does_move rfl) rfl rfl ?_
  refine at_on rfl rfl ?_
  refine at_do (does_rowlen (i := 4) (by kernel_rfl) rfl rfl) rfl rfl ?_
  refine at_on rfl rfl ?_
  refine at_do (does_eql rfl rfl) rfl rfl ?_
  refine at_do (does_pick_true rfl rfl) rfl rfl ?_
  refine at_do (does_move rfl) rfl rfl ?_
  refine at_know (t := 70) (d := true) rfl (decide_eq_true (by decide)) ?_
  refine at_on rfl rfl ?_
  refine at_do (does_move rfl) rfl rfl ?_
  refine at_on rfl rfl ?_
  refine at_buildSlice (e := 3) (sz := 1) (vs := ints [0, 1, 2]) (cs := ints [0, 1, 2]) (by kernel_rfl) rfl rfl rfl rfl rfl rfl (fun q2 => ?_)
  refine at_on rfl rfl ?_
  refine at_callv (f := 30) (enters_fn (by kernel_rfl) rfl) (fun w ho => same_yes vw _ [0, 1, 2] w (vals_of_row (ho.rowAt (i := 4) rfl)) (vals_lit (ho.get (i := 0) rfl) rfl) (by decide)) rfl rfl ?_
  refine at_do (does_pick_true rfl rfl) rfl rfl ?_
  refine at_do (does_move rfl) rfl rfl ?_
  refine at_on rfl rfl ?_
  refine at_do (does_move rfl) rfl rfl ?_
  refine at_on rfl rfl ?_
  refine at_do (does_eql rfl rfl) rfl rfl ?_
  refine at_do (does_pick_true rfl rfl) rfl rfl ?_
  refine at_do (does_move rfl) rfl rfl ?_
  refine at_know (t := 79) (d := true) rfl (decide_eq_true (by decide)) ?_
  refine at_on rfl rfl ?_
  refine at_do (does_move rfl) rfl rfl ?_
  refine at_on rfl rfl ?_
  refine at_do (does_eql rfl rfl) rfl rfl ?_
  refine at_do (does_pick_true rfl rfl) rfl rfl ?_
  refine at_do (does_move rfl) rfl rfl ?_
  refine at_know (t := 83) (d := true) rfl (decide_eq_true (by decide)) ?_
  refine at_on rfl rfl ?_
  refine at_do (does_move rfl) rfl rfl ?_
  refine at_on rfl rfl ?_
  refine at_buildSlice (e := 3) (sz := 1) (vs := ints [1]) (cs := ints [1]) (by kernel_rfl) rfl rfl rfl rfl rfl rfl (fun q3 => ?_)
  refine at_on rfl rfl ?_
  refine at_callv (f := 30) (enters_fn (by kernel_rfl) rfl) (fun w ho => same_yes vc _ [1] w (vals_of_row (ho.rowAt (i := 4) rfl)) (vals_lit (ho.get (i := 0) rfl) rfl) (by decide)) rfl rfl ?_
  refine at_do (does_pick_true rfl rfl) rfl rfl ?_
  refine at_do (does_move rfl) rfl rfl ?_
  refine at_on rfl rfl ?_
  refine at_do (does_move rfl) rfl rfl ?_
  refine at_on rfl rfl ?_
  refine at_drop (H' := [phR gp four4.length [2, 0, 1, 0]]) (.cons _ (.cons _ (.cons _ (.cons_cons _ (List.nil_sublist _))))) (at_callin (f := 25) (ι := Unit) (H0 := [phR gp four4.length [2, 0, 1, 0]]) (R := []) (fun _ => .int .i64 ((6 : Nat) : Int)) (fun _ => [phR gp four4.length [2, 0, 1, 0]]) rfl (enters_fn (by kernel_rfl) rfl) (fun w ho hi => end_is (i := 3) (hN ho) (sound4 _ (by simp)) hi (lt4 (by omega)) e3 e3') rfl rfl (fun _ => ?_))
  refine at_on rfl rfl ?_
  refine at_do (does_eql rfl rfl) rfl rfl ?_
  refine at_do (does_pick_true rfl rfl) rfl rfl ?_
  refine at_do (does_assign rfl) rfl rfl ?_
  refine at_nil ?_
  refine at_then ?_
  refine at_ret ?_
  refine at_ret1 rfl rfl rfl (fun w9 ho9 => ?_)
  rotate_left
  exact ⟨ret_bool (by decide), ho9.plain⟩
end Go.Proofs.YtchfecmabhfooaaDoor
