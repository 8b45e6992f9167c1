/-
  LocksPlay, walked. No condition of its own.
-/
import Derived.Test.YtchfecmabhfooaaDoorLocks7
set_option linter.unusedSimpArgs false
set_option linter.unusedVariables false
namespace Go.Proofs.YtchfecmabhfooaaDoor
open Go.RowKit

/-- What is done lies there. -/
def ActsAt (w : World) (arg : Value) (acts : List (Bool × Int)) : Prop := ∃ A c, arg = .slice A acts.length c ∧ acts.length ≤ c ∧ (0 < acts.length → ∃ gb o, A = some ⟨gb, o, none⟩ ∧
  ∀ i (h : i < acts.length), w.cell? ⟨gb, o + i * 2, none⟩ = some (.bool acts[i].1) ∧ w.cell? ⟨gb, o + i * 2 + 1, none⟩ = some (.int .i64 acts[i].2))
theorem frm_thru {w1 w2 w' : World} {F : Nat → Prop} (h : Below w1.heap.size w1 w2) (h' : Frm w2 F w') (hF : ∀ k, F k → w1.heap.size ≤ k) : Below w1.heap.size w1 w' :=
  ((Frm.ofBelow (F := fun _ => False) h (fun k hk hB => absurd hB (by omega))).trans h' (fun k hk hk' => absurd (hF k hk') (by omega))).toBelow
theorem left_are (n : Nat) (ps : List Nat) : leftN n ps + (allOf n (farB ps 2)).length = n := by
  unfold leftN
  induction n with
  | zero => rfl
  | succ n ih =>
    rw [allOf_succ, allOf_succ, List.length_append, List.length_append]
    have h : (if leftB ps n then [n] else []).length + (if farB ps 2 n then [n] else []).length = 1 := by
      by_cases h : ((ph ps n : Nat) : Int) = 2 <;> simp [leftB, farB, h]
    omega
theorem run_far (ps : List Nat) : runB ps = farB ps 1 := rfl
theorem Sound.begin {L : List Want2} {ps : List Nat} {n i : Nat} (h : Sound ps n) : Sound (beginP L ps i) n := by
  unfold beginP; split
  · exact h.set (by omega)
  · exact h
theorem Sound.end {ps : List Nat} {n i : Nat} (h : Sound ps n) : Sound (endP ps i) n := by
  unfold endP; split
  · exact h.set (by omega)
  · exact h
theorem sound0 {n : Nat} (h : n ≤ 1000) : Sound (List.replicate n 0) n := ⟨by simp, h, fun i => by
  simp only [ph, List.getD_eq_getElem?_getD, List.getElem?_replicate]
  split <;> simp⟩
theorem waits_len (L : List Want2) (ps : List Nat) (i : Nat) : (waitsL L ps i).length ≤ i := by
  unfold waitsL; split
  · exact Nat.le_trans (List.length_filter_le _ _) (flt_len L i i)
  · simp
attribute [local irreducible] cwp lwp Exit.then Exit.inBlock Exit.noGoto wpQuiet Calls fin At AtQ Again endQ RQ waitsL leftN allOf mayL beginC beginP endC endP
set_option maxHeartbeats 16000000 in
theorem law_LocksPlay (arg : Value) (L0 : List Want2) (arg2 : Value) (acts : List (Bool × Int)) (w : World) (hG : Glob w) (hV : WantsAt w arg L0) (hn9 : L0.length ≤ 9223372036854775807) (hA : ActsAt w arg2 acts) (hAn : acts.length ≤ 9223372036854775807) :
    Calls Tryd.prog 6 #[arg, arg2] w fun e w' => e = .returned (.bool true) ∧ Below w.heap.size w w' := by
  have hS := few_short L0
  have hF : ∀ w1, Below w.heap.size w w1 → Calls Tryd.prog 17 #[arg] w1 fun e w' => ∃ v, e = .returned v ∧ Below w1.heap.size w1 w' ∧ WantsAt w' v ((L0.take 66).map cutW) := fun w1 hb => law_Few arg L0 w1 (hV.keep hb) hn9
  generalize (L0.take 66).map cutW = L at hS hF
  have hS1 := hS.1
  obtain ⟨A2, c2, rfl, hc2, hcell2⟩ := hA
  refine calls_plain Tryd.func6 rfl Tryd.ntmps6 rfl ?_
  refine at_seq ?_
  refine at_region ?_
  refine at_do (does_assign rfl) rfl rfl ?_
  refine at_nil ?_
  refine at_then ?_
  refine at_seq ?_
  refine at_region ?_
  refine at_do (does_move rfl) rfl rfl ?_
  refine at_callk (f := 17) (Φ := fun v w' => WantsAt w' v L) (enters_fn (by kernel_rfl) rfl) (fun w ho => hF w ho.plain) rfl rfl (fun v1 w1 hw1 hv1 => ?_)
  refine at_do (does_assign rfl) rfl rfl ?_
  refine at_nil ?_
  refine at_then ?_
  refine at_seq ?_
  refine at_region ?_
  refine at_do (does_move rfl) rfl rfl ?_
  rotate_left
  have s1 : ∀ {C : Ctx} {H : List Res} {w' : World}, Own (Ctx.re C w1 []) H w' → Below w1.heap.size w1 w' := fun ho => ho.since (by simp [Ctx.re, bls])
  cases h : rightL L
  · refine at_callv (f := 23) (enters_fn (by kernel_rfl) rfl) (fun w ho => new_no v1 L w (ho.glob hG id) (hv1.keep (s1 ho)) hS h) rfl rfl ?_
    refine at_do (does_move rfl) rfl rfl ?_
    refine at_do (does_extract rfl rfl) rfl rfl ?_
    refine at_do (does_extract rfl rfl) rfl rfl ?_
    refine at_do (does_assign rfl) rfl rfl ?_
    refine at_do (does_assign rfl) rfl rfl ?_
    refine at_nil ?_
    refine at_then ?_
    refine at_seq ?_
    refine at_seq ?_
    refine at_region ?_
    refine at_do (does_move rfl) rfl rfl ?_
    refine at_callv (f := 20) (enters_fn (by kernel_rfl) rfl) (fun w ho => h ▸ ref_Right v1 L w (hv1.keep (s1 ho)) hS) rfl rfl ?_
    refine at_do (does_not rfl) rfl rfl ?_
    refine at_nil ?_
    refine at_then ?_
    refine at_cond_t rfl (by decide) ?_
    refine at_seq ?_
    refine at_region ?_
    refine at_do (does_move rfl) rfl rfl ?_
    refine at_do (does_nileql (by kernel_rfl) rfl rfl) rfl rfl ?_
    refine at_do (does_move rfl) rfl rfl ?_
    refine at_know (t := 25) (d := true) rfl (by decide) ?_
    refine at_on rfl rfl ?_
    refine at_do (does_move rfl) rfl rfl ?_
    refine at_on rfl rfl ?_
    refine at_do (does_eql rfl rfl) rfl rfl ?_
    refine at_do (does_pick_true rfl rfl) rfl rfl ?_
    refine at_do (does_move rfl) rfl rfl ?_
    refine at_know (t := 29) (d := true) rfl (decide_eq_true (by decide)) ?_
    refine at_on rfl rfl ?_
    refine at_callv (f := 24) (enters_fn (by kernel_rfl) rfl) (fun w ho => locks_awake w (ho.glob hG id)) rfl rfl ?_
    refine at_do (does_pick_true rfl rfl) rfl rfl ?_
    refine at_do (does_assign rfl) rfl rfl ?_
    refine at_nil ?_
    refine at_then ?_
    refine at_ret ?_
    refine at_then_ret ?_
    refine at_ret1 rfl rfl rfl (fun w9 ho9 => ?_)
    rotate_left
    exact ⟨rfl, ho9.plain⟩
  refine at_callr (f := 23) (ι := Nat × Nat × Nat × Nat) (fun i => .tuple #[.pointer (some ⟨i.1, 0, none⟩), .int .i64 0]) (fun i => [phR i.2.2.2 L.length (List.replicate L.length 0)]) (fun i w' => TabF w' (fun k => k = i.2.2.2) i.1 i.2.1 i.2.2.1 i.2.2.2 L) (enters_fn (by kernel_rfl) rfl) (fun w ho => new_own ho (ho.glob hG id) (hv1.keep (s1 ho)) hS h) rfl rfl rfl (fun i w2 hw2 hT => ?_)
  refine at_do (does_move rfl) rfl rfl ?_
  refine at_do (does_extract rfl rfl) rfl rfl ?_
  refine at_do (does_extract rfl rfl) rfl rfl ?_
  refine at_do (does_assign rfl) rfl rfl ?_
  refine at_do (does_assign rfl) rfl rfl ?_
  refine at_nil ?_
  refine at_then ?_
  refine at_seq ?_
  refine at_seq ?_
  refine at_region ?_
  refine at_do (does_move rfl) rfl rfl ?_
  rotate_left
  obtain ⟨gt, gh, ca, gp⟩ := i
  simp only at hT hw2 ⊢
  have hN : ∀ {C : Ctx} {H : List Res} {w' : World}, Own (Ctx.re C w2 [phR gp L.length (List.replicate L.length 0)]) H w' → TabF w' (fun k => k = gp) gt gh ca gp L := fun ho => tabF_at hT ho
  have t2 : Below w1.heap.size w1 w2 := s1 hw2
  have hgp : w1.heap.size ≤ gp := ((hw2.mine gp (mem_ph.2 rfl)).2).resolve_right (by simp [Ctx.re, bls])
  have s2 : ∀ {C : Ctx} {H : List Res} {w' : World}, Own (Ctx.re C w2 [phR gp L.length (List.replicate L.length 0)]) H w' → Below w1.heap.size w1 w' := fun ho => frm_thru t2 ho.base fun k hk => by
    have := mem_ph.1 hk; omega
  have hnew : ∀ {C : Ctx} {H : List Res} {w' : World} {g : Nat}, Own (Ctx.re C w2 [phR gp L.length (List.replicate L.length 0)]) H w' → g ∈ bls H → w1.heap.size ≤ g := fun ho hg => by
    rcases (ho.mine _ hg).2 with q | q
    · have q : w2.heap.size ≤ _ := q
      have := t2.size
      omega
    · have := mem_ph.1 q
      omega
  have hv1' := hv1
  obtain ⟨A0, c0, rfl, hc, hcell⟩ := hv1
  refine at_callv (f := 20) (enters_fn (by kernel_rfl) rfl) (fun w ho => h ▸ ref_Right _ L w (hv1'.keep (s2 ho)) hS) rfl rfl ?_
  refine at_do (does_not rfl) rfl rfl ?_
  refine at_nil ?_
  refine at_then ?_
  refine at_cond_f rfl (by decide) ?_
  refine at_skip ?_
  refine at_then ?_
  refine at_seq ?_
  refine at_seq ?_
  refine at_region ?_
  refine at_do (does_move rfl) rfl rfl ?_
  refine at_do (does_neq rfl rfl) rfl rfl ?_
  refine at_do (does_move rfl) rfl rfl ?_
  refine at_know (t := 34) (d := false) rfl (decide_eq_false (by decide)) ?_
  refine at_on rfl rfl ?_
  refine at_do (does_move rfl) rfl rfl ?_
  refine at_on rfl rfl ?_
  refine at_do (does_nileql (by kernel_rfl) rfl rfl) rfl rfl ?_
  refine at_do (does_pick_false rfl rfl) rfl rfl ?_
  refine at_nil ?_
  refine at_then ?_
  refine at_cond_f rfl (by rfl) ?_
  refine at_skip ?_
  refine at_then ?_
  refine at_seq ?_
  refine at_region ?_
  refine at_do (does_move rfl) rfl rfl ?_
  refine at_do (does_len (by kernel_rfl) rfl) rfl rfl ?_
  refine at_make (e := 3) (sz := 1) (by' := 8) (m := L.length) (ints (List.replicate L.length 0)) (by kernel_rfl) ?_ rfl rfl (by simp only [maxLen]; omega) rfl (fun ga => ?_)
  rotate_left
  refine at_do (does_assign rfl) rfl rfl ?_
  refine at_nil ?_
  refine at_then ?_
  refine at_seq ?_
  refine at_seq ?_
  refine at_region ?_
  refine at_do (does_assign rfl) rfl rfl ?_
  refine at_nil ?_
  refine at_then ?_
  refine at_block ?_
  rotate_left
  · intro t z q1 q2
    have hz : (Tryd.prog.info? 3).bind (·.zero) = some (.int .i64 0) := by kernel_rfl
    rw [q1] at hz
    simp only [Option.bind_some] at hz
    rw [q2] at hz
    cases hz
    exact made_ints L.length
  refine at_loopH (σ := List Nat × Nat) (fun s => s.2 ≤ acts.length ∧ Sound s.1 L.length) (fun s => [(0, .slice A0 L.length c0), (1, .slice A2 acts.length c2), (5, .pointer (some ⟨gt, 0, none⟩)), (7, .slice (some ⟨ga, 0, none⟩) L.length L.length), (8, .int .i64 s.2)])
    (fun s => [atR ga L.length s.1, phR gp L.length s.1]) (fun s => acts.length - s.2)
    (fun w ho => ⟨(List.replicate L.length 0, 0), ⟨Nat.zero_le _, sound0 hS1⟩, ⟨rfl, rfl, rfl, rfl, rfl, trivial⟩, ho⟩) ?_
  rintro ⟨ps, k⟩ ⟨hk, hs⟩
  simp only at hk hs
  by_cases hkl : k < acts.length ∧ k < 140
  · obtain ⟨hkl, hk140⟩ := hkl
    obtain ⟨gb, o, rfl, hce⟩ := hcell2 (by omega)
    obtain ⟨q1, q2⟩ := hce k hkl
    have hag : ∀ {C : Ctx} {w' : World} {ps : List Nat}, Own (Ctx.re C w2 [phR gp L.length (List.replicate L.length 0)]) [atR ga L.length ps, phR gp L.length ps] w' → w1.heap.size ≤ ga := fun ho => hnew ho (by simp [bls, Res.blocks, Value.ownBlock])
    have tabA : ∀ {C : Ctx} {H : List Res} {w' : World} {ps : List Nat} {q : Nat}, Own (Ctx.re C w2 [phR gp L.length (List.replicate L.length 0)]) H w' → H[q]? = some (phR gp L.length ps) → Sound ps L.length → Tab w' gt gh ca gp L.length L ps := fun ho hq hs => (hN ho).tab (ho.rowAt hq) hs
    have wnt : ∀ {C : Ctx} {H : List Res} {w' w'' : World} {ps : List Nat}, Own (Ctx.re C w2 [phR gp L.length (List.replicate L.length 0)]) H w' → ga ∈ bls H → Own (inC w' [atR ga L.length ps]) [atR ga L.length ps] w'' → WantsAt w'' (.slice A0 L.length c0) L := fun ho hg hi => hv1'.keep (frm_thru (s2 ho) hi.orig fun k hk => by
      have : k = ga := by simpa [bls, Res.blocks, Value.ownBlock] using hk
      have := hnew ho hg
      omega)
    generalize acts[k] = act at q1 q2
    obtain ⟨en, i⟩ := act
    simp only at q1 q2
    by_cases hin : 0 ≤ i ∧ i < L.length
    · obtain ⟨m, rfl⟩ : ∃ m : Nat, i = (m : Int) := ⟨i.toNat, by omega⟩
      have hm : m < L.length := by omega
      cases en
      · have hs2 : Sound (beginP L ps m) L.length := hs.begin
        have hla := left_are L.length (beginP L ps m)
        have hfl := allOf_len L.length (farB (beginP L ps m) 2)
        refine at_seq ?_
        refine at_seq ?_
        refine at_region ?_
        refine at_do (does_move rfl) rfl rfl ?_
        refine at_do (does_move rfl) rfl rfl ?_
        refine at_do (does_len (by kernel_rfl) rfl) rfl rfl ?_
        refine at_do (does_lss rfl rfl) rfl rfl ?_
        refine at_do (does_move rfl) rfl rfl ?_
        refine at_know (t := 45) (d := true) rfl (decide_eq_true (by omega)) ?_
        refine at_on rfl rfl ?_
        refine at_do (does_move rfl) rfl rfl ?_
        refine at_on rfl rfl ?_
        refine at_do (does_lss rfl rfl) rfl rfl ?_
        refine at_do (does_pick_true rfl rfl) rfl rfl ?_
        refine at_nil ?_
        refine at_then ?_
        refine at_cond_t rfl (decide_eq_true (by omega)) ?_
        refine at_skip ?_
        refine at_then ?_
        refine at_seq ?_
        refine at_block ?_
        refine at_seq ?_
        refine at_region ?_
        refine at_do (does_move rfl) rfl rfl ?_
        refine at_do (does_move rfl) rfl rfl ?_
        refine at_do (does_indexAddrk (k := 2) (j := k) (by kernel_rfl) rfl rfl hkl) rfl rfl ?_
        refine at_do (does_fieldAddr (o := 1) (by kernel_rfl) rfl) rfl rfl ?_
        refine at_do (does_load_mem (by kernel_rfl) rfl (fun w' ho => Below.cellOld ho.plain q2)) rfl rfl ?_
        refine at_do (does_assign rfl) rfl rfl ?_
        refine at_nil ?_
        refine at_then ?_
        refine at_seq ?_
        refine at_seq ?_
        refine at_region ?_
        refine at_do (does_move rfl) rfl rfl ?_
        refine at_do (does_move rfl) rfl rfl ?_
        refine at_do (does_indexAddrk (k := 2) (j := k) (by kernel_rfl) rfl rfl hkl) rfl rfl ?_
        refine at_do (does_fieldAddr (o := 0) (by kernel_rfl) rfl) rfl rfl ?_
        refine at_do (does_load_mem (by kernel_rfl) rfl (fun w' ho => Below.cellOld ho.plain q1)) rfl rfl ?_
        refine at_nil ?_
        refine at_then ?_
        refine at_cond_false rfl ?_
        refine at_seq ?_
        refine at_region ?_
        refine at_do (does_move rfl) rfl rfl ?_
        refine at_do (does_move rfl) rfl rfl ?_
        refine at_swap01 (at_callin (f := 27) (ι := Unit) (H0 := [phR gp L.length ps]) (R := [atR ga L.length ps]) (fun _ => .int .i64 ((beginC L ps m : Nat) : Int)) (fun _ => [phR gp L.length (beginP L ps m)]) rfl (enters_fn (by kernel_rfl) rfl) (fun w ho hi => begin_is (i := m) (hN ho) hs hi hm rfl rfl) rfl rfl (fun _ => ?_))
        refine at_do (does_move rfl) rfl rfl ?_
        refine at_do (does_move rfl) rfl rfl ?_
        refine at_do (does_move rfl) rfl rfl ?_
        refine at_swap01 (at_callin (f := 28) (ι := Unit) (H0 := [atR ga L.length ps]) (R := [phR gp L.length (beginP L ps m)]) (fun _ => .int .i64 ((beginC L ps m : Nat) : Int)) (fun _ => [atR ga L.length (beginP L ps m)]) rfl (enters_fn (by kernel_rfl) rfl) (fun w ho hi => refl_Begin_in _ (fun w' hi' => wnt ho (by simp [bls, Res.blocks, Value.ownBlock]) hi') hS hs hi m hm) rfl rfl (fun _ => ?_))
        refine at_do (does_neq rfl rfl) rfl rfl ?_
        refine at_nil ?_
        refine at_then ?_
        refine at_cond_f rfl (decide_eq_false (by omega)) ?_
        refine at_skip ?_
        refine at_then ?_
        refine at_seq ?_
        refine at_region ?_
        refine at_do (does_move rfl) rfl rfl ?_
        refine at_do (does_move rfl) rfl rfl ?_
        refine at_call (f := 29) (ι := Value) (fun v => .tuple #[v, .int .i64 0]) (fun vw => [.row vw 3 1 (waitsL L (beginP L ps m) m).length (ints (waitsL L (beginP L ps m) m)), atR ga L.length (beginP L ps m), phR gp L.length (beginP L ps m)]) (enters_fn (by kernel_rfl) rfl) (fun w ho => waits_own ho (tabA (q := 1) ho rfl hs2) m hm rfl) rfl rfl rfl (fun vw => ?_)
        refine at_do (does_move rfl) rfl rfl ?_
        refine at_do (does_extract rfl rfl) rfl rfl ?_
        refine at_do (does_extract rfl rfl) rfl rfl ?_
        refine at_do (does_assign rfl) rfl rfl ?_
        refine at_do (does_assign rfl) rfl rfl ?_
        refine at_nil ?_
        refine at_then ?_
        refine at_seq ?_
        refine at_seq ?_
        refine at_region ?_
        refine at_do (does_move rfl) rfl rfl ?_
        refine at_do (does_lss rfl rfl) rfl rfl ?_
        refine at_do (does_move rfl) rfl rfl ?_
        refine at_know (t := 84) (d := false) rfl (decide_eq_false (by omega)) ?_
        refine at_on rfl rfl ?_
        refine at_do (does_move rfl) rfl rfl ?_
        refine at_on rfl rfl ?_
        refine at_do (does_move rfl) rfl rfl ?_
        refine at_on rfl rfl ?_
        refine at_do (does_len (by kernel_rfl) rfl) rfl rfl ?_
        refine at_on rfl rfl ?_
        refine at_do (does_geq rfl rfl) rfl rfl ?_
        refine at_do (does_pick_false rfl rfl) rfl rfl ?_
        refine at_nil ?_
        refine at_then ?_
        refine at_cond_f rfl (decide_eq_false (by omega)) ?_
        refine at_seq ?_
        refine at_region ?_
        refine at_do (does_move rfl) rfl rfl ?_
        refine at_do (does_move rfl) rfl rfl ?_
        refine at_do (does_move rfl) rfl rfl ?_
        refine at_do (does_move rfl) rfl rfl ?_
        refine at_callrow (f := 31) (enters_fn (by kernel_rfl) rfl) (fun w ho => ref_Waits _ _ L (beginP L ps m) m w (hv1'.keep (s2 ho)) (atR_vals (ho.rowAt (i := 1) rfl)) hS hs2 hm) rfl rfl (fun vz => ?_)
        refine at_callv (f := 30) (enters_fn (by kernel_rfl) rfl) (fun w ho => same_yes _ _ (waitsL L (beginP L ps m) m) w (vals_of_row (ho.rowAt (i := 1) rfl)) (vals_of_row (ho.rowAt (i := 0) rfl)) (by have := waits_len L (beginP L ps m) m; omega)) rfl rfl (at_drop (H' := [atR ga L.length (beginP L ps m), phR gp L.length (beginP L ps m)]) (.cons _ (.cons _ (List.Sublist.refl _))) ?_)
        refine at_do (does_not rfl) rfl rfl ?_
        refine at_do (does_move rfl) rfl rfl ?_
        refine at_know (t := 104) (d := false) rfl (by simp) ?_
        refine at_on rfl rfl ?_
        refine at_do (does_move rfl) rfl rfl ?_
        refine at_on rfl rfl ?_
        refine at_do (does_neq rfl rfl) rfl rfl ?_
        refine at_do (does_pick_false rfl rfl) rfl rfl ?_
        refine at_nil ?_
        refine at_then ?_
        refine at_cond_f rfl (decide_eq_false (by omega)) ?_
        refine at_skip ?_
        refine at_then ?_
        refine at_seq ?_
        refine at_region ?_
        refine at_do (does_move rfl) rfl rfl ?_
        refine at_do (does_len (by kernel_rfl) rfl) rfl rfl ?_
        refine at_do (does_move rfl) rfl rfl ?_
        refine at_callrow (f := 32) (enters_fn (by kernel_rfl) rfl) (fun w ho => refl_Are _ (beginP L ps m) L.length 2 w (atR_vals (ho.rowAt (i := 0) rfl)) hs2) rfl rfl (fun vr => ?_)
        refine at_do (does_rowlen (i := 0) (by kernel_rfl) rfl rfl) rfl rfl (at_drop (H' := [atR ga L.length (beginP L ps m), phR gp L.length (beginP L ps m)]) (.cons _ (List.Sublist.refl _)) ?_)
        refine at_do (does_subi rfl rfl (by omega)) rfl rfl ?_
        refine at_do (does_assign rfl) rfl rfl ?_
        refine at_nil ?_
        refine at_then ?_
        refine at_seq ?_
        refine at_region ?_
        refine at_do (does_move rfl) rfl rfl ?_
        refine at_callrow (f := 33) (enters_fn (by kernel_rfl) rfl) (fun w ho => tab_Ready (tabA (q := 1) ho rfl hs2)) rfl rfl (fun vy => ?_)
        refine at_do (does_move rfl) rfl rfl ?_
        refine at_do (does_move rfl) rfl rfl ?_
        refine at_callrow (f := 34) (enters_fn (by kernel_rfl) rfl) (fun w ho => refl_Ready _ _ L (beginP L ps m) w (hv1'.keep (s2 ho)) (atR_vals (ho.rowAt (i := 1) rfl)) hS hs2) rfl rfl (fun vx => ?_)
        refine at_callv (f := 30) (enters_fn (by kernel_rfl) rfl) (fun w ho => same_yes _ _ (allOf L.length (mayL L (beginP L ps m))) w (vals_of_row (ho.rowAt (i := 1) rfl)) (vals_of_row (ho.rowAt (i := 0) rfl)) (by have := allOf_len L.length (mayL L (beginP L ps m)); omega)) rfl rfl (at_drop (H' := [atR ga L.length (beginP L ps m), phR gp L.length (beginP L ps m)]) (.cons _ (.cons _ (List.Sublist.refl _))) ?_)
        refine at_do (does_not rfl) rfl rfl ?_
        refine at_do (does_move rfl) rfl rfl ?_
        refine at_know (t := 121) (d := false) rfl (by simp) ?_
        refine at_on rfl rfl ?_
        refine at_do (does_move rfl) rfl rfl ?_
        refine at_on rfl rfl ?_
        refine at_callrow (f := 35) (enters_fn (by kernel_rfl) rfl) (fun w ho => tab_Running (tabA (q := 1) ho rfl hs2)) rfl rfl (fun vu => ?_)
        refine at_on rfl rfl ?_
        refine at_do (does_move rfl) rfl rfl ?_
        refine at_on rfl rfl ?_
        refine at_callrow (f := 32) (enters_fn (by kernel_rfl) rfl) (fun w ho => refl_Are _ (beginP L ps m) L.length 1 w (atR_vals (ho.rowAt (i := 1) rfl)) hs2) rfl rfl (fun vt => ?_)
        refine at_on rfl rfl ?_
        refine at_callv (f := 30) (enters_fn (by kernel_rfl) rfl) (fun w ho => same_yes _ _ (allOf L.length (farB (beginP L ps m) 1)) w (vals_of_row (ho.rowAt (i := 1) rfl)) (vals_of_row (ho.rowAt (i := 0) rfl)) (by have := allOf_len L.length (farB (beginP L ps m) 1); omega)) rfl rfl (at_drop (H' := [atR ga L.length (beginP L ps m), phR gp L.length (beginP L ps m)]) (.cons _ (.cons _ (List.Sublist.refl _))) ?_)
        refine at_on rfl rfl ?_
        refine at_do (does_not rfl) rfl rfl ?_
        refine at_do (does_pick_false rfl rfl) rfl rfl ?_
        refine at_do (does_move rfl) rfl rfl ?_
        refine at_know (t := 129) (d := false) rfl (by simp) ?_
        refine at_on rfl rfl ?_
        refine at_do (does_move rfl) rfl rfl ?_
        refine at_on rfl rfl ?_
        refine at_callv (f := 36) (enters_fn (by kernel_rfl) rfl) (fun w ho => tab_Left (tabA (q := 1) ho rfl hs2)) rfl rfl ?_
        refine at_on rfl rfl ?_
        refine at_do (does_move rfl) rfl rfl ?_
        refine at_on rfl rfl ?_
        refine at_do (does_neq rfl rfl) rfl rfl ?_
        refine at_do (does_pick_false rfl rfl) rfl rfl ?_
        refine at_do (does_move rfl) rfl rfl ?_
        refine at_know (t := 135) (d := false) rfl (decide_eq_false (by omega)) ?_
        refine at_on rfl rfl ?_
        refine at_do (does_move rfl) rfl rfl ?_
        refine at_on rfl rfl ?_
        refine at_callv (f := 37) (enters_fn (by kernel_rfl) rfl) (fun w ho => tab_Done (tabA (q := 1) ho rfl hs2)) rfl rfl ?_
        refine at_on rfl rfl ?_
        refine at_do (does_move rfl) rfl rfl ?_
        refine at_on rfl rfl ?_
        refine at_do (does_eql rfl rfl) rfl rfl ?_
        refine at_on rfl rfl ?_
        refine at_do (does_bneq (by kernel_rfl) rfl rfl) rfl rfl ?_
        refine at_do (does_pick_false rfl rfl) rfl rfl ?_
        refine at_nil ?_
        refine at_then ?_
        refine at_cond_f rfl (by (rw [Bool.eq_iff_iff]; simp; omega)) ?_
        refine at_skip ?_
        refine at_inb ?_
        refine at_then ?_
        refine at_region ?_
        refine at_do (does_move rfl) rfl rfl ?_
        refine at_do (does_addi rfl rfl (by (first | omega | (simp only; omega)))) rfl rfl ?_
        refine at_do (does_assign rfl) rfl rfl ?_
        refine at_nil ?_
        refine at_then ?_
        rotate_left
        refine at_againw fun w ho => ⟨((beginP L ps m), k + 1), ⟨by show k + 1 ≤ acts.length; omega, hs2⟩, by show acts.length - (k + 1) < acts.length - k; omega, ⟨rfl, rfl, rfl, rfl, rfl, trivial⟩, rfl, ho⟩
      · have hs2 : Sound (endP ps m) L.length := hs.end
        have hla := left_are L.length (endP ps m)
        have hfl := allOf_len L.length (farB (endP ps m) 2)
        refine at_seq ?_
        refine at_seq ?_
        refine at_region ?_
        refine at_do (does_move rfl) rfl rfl ?_
        refine at_do (does_move rfl) rfl rfl ?_
        refine at_do (does_len (by kernel_rfl) rfl) rfl rfl ?_
        refine at_do (does_lss rfl rfl) rfl rfl ?_
        refine at_do (does_move rfl) rfl rfl ?_
        refine at_know (t := 45) (d := true) rfl (decide_eq_true (by omega)) ?_
        refine at_on rfl rfl ?_
        refine at_do (does_move rfl) rfl rfl ?_
        refine at_on rfl rfl ?_
        refine at_do (does_lss rfl rfl) rfl rfl ?_
        refine at_do (does_pick_true rfl rfl) rfl rfl ?_
        refine at_nil ?_
        refine at_then ?_
        refine at_cond_t rfl (decide_eq_true (by omega)) ?_
        refine at_skip ?_
        refine at_then ?_
        refine at_seq ?_
        refine at_block ?_
        refine at_seq ?_
        refine at_region ?_
        refine at_do (does_move rfl) rfl rfl ?_
        refine at_do (does_move rfl) rfl rfl ?_
        refine at_do (does_indexAddrk (k := 2) (j := k) (by kernel_rfl) rfl rfl hkl) rfl rfl ?_
        refine at_do (does_fieldAddr (o := 1) (by kernel_rfl) rfl) rfl rfl ?_
        refine at_do (does_load_mem (by kernel_rfl) rfl (fun w' ho => Below.cellOld ho.plain q2)) rfl rfl ?_
        refine at_do (does_assign rfl) rfl rfl ?_
        refine at_nil ?_
        refine at_then ?_
        refine at_seq ?_
        refine at_seq ?_
        refine at_region ?_
        refine at_do (does_move rfl) rfl rfl ?_
        refine at_do (does_move rfl) rfl rfl ?_
        refine at_do (does_indexAddrk (k := 2) (j := k) (by kernel_rfl) rfl rfl hkl) rfl rfl ?_
        refine at_do (does_fieldAddr (o := 0) (by kernel_rfl) rfl) rfl rfl ?_
        refine at_do (does_load_mem (by kernel_rfl) rfl (fun w' ho => Below.cellOld ho.plain q1)) rfl rfl ?_
        refine at_nil ?_
        refine at_then ?_
        refine at_cond_true rfl ?_
        refine at_seq ?_
        refine at_region ?_
        refine at_do (does_move rfl) rfl rfl ?_
        refine at_do (does_move rfl) rfl rfl ?_
        refine at_swap01 (at_callin (f := 25) (ι := Unit) (H0 := [phR gp L.length ps]) (R := [atR ga L.length ps]) (fun _ => .int .i64 ((endC ps m : Nat) : Int)) (fun _ => [phR gp L.length (endP ps m)]) rfl (enters_fn (by kernel_rfl) rfl) (fun w ho hi => end_is (i := m) (hN ho) hs hi hm rfl rfl) rfl rfl (fun _ => ?_))
        refine at_do (does_move rfl) rfl rfl ?_
        refine at_do (does_move rfl) rfl rfl ?_
        refine at_swap01 (at_callin (f := 26) (ι := Unit) (H0 := [atR ga L.length ps]) (R := [phR gp L.length (endP ps m)]) (fun _ => .int .i64 ((endC ps m : Nat) : Int)) (fun _ => [atR ga L.length (endP ps m)]) rfl (enters_fn (by kernel_rfl) rfl) (fun w ho hi => refl_End_in hs hi m hm) rfl rfl (fun _ => ?_))
        refine at_do (does_neq rfl rfl) rfl rfl ?_
        refine at_nil ?_
        refine at_then ?_
        refine at_cond_f rfl (decide_eq_false (by omega)) ?_
        refine at_skip ?_
        refine at_then ?_
        refine at_seq ?_
        refine at_region ?_
        refine at_do (does_move rfl) rfl rfl ?_
        refine at_do (does_move rfl) rfl rfl ?_
        refine at_call (f := 29) (ι := Value) (fun v => .tuple #[v, .int .i64 0]) (fun vw => [.row vw 3 1 (waitsL L (endP ps m) m).length (ints (waitsL L (endP ps m) m)), atR ga L.length (endP ps m), phR gp L.length (endP ps m)]) (enters_fn (by kernel_rfl) rfl) (fun w ho => waits_own ho (tabA (q := 1) ho rfl hs2) m hm rfl) rfl rfl rfl (fun vw => ?_)
        refine at_do (does_move rfl) rfl rfl ?_
        refine at_do (does_extract rfl rfl) rfl rfl ?_
        refine at_do (does_extract rfl rfl) rfl rfl ?_
        refine at_do (does_assign rfl) rfl rfl ?_
        refine at_do (does_assign rfl) rfl rfl ?_
        refine at_nil ?_
        refine at_then ?_
        refine at_seq ?_
        refine at_seq ?_
        refine at_region ?_
        refine at_do (does_move rfl) rfl rfl ?_
        refine at_do (does_lss rfl rfl) rfl rfl ?_
        refine at_do (does_move rfl) rfl rfl ?_
        refine at_know (t := 84) (d := false) rfl (decide_eq_false (by omega)) ?_
        refine at_on rfl rfl ?_
        refine at_do (does_move rfl) rfl rfl ?_
        refine at_on rfl rfl ?_
        refine at_do (does_move rfl) rfl rfl ?_
        refine at_on rfl rfl ?_
        refine at_do (does_len (by kernel_rfl) rfl) rfl rfl ?_
        refine at_on rfl rfl ?_
        refine at_do (does_geq rfl rfl) rfl rfl ?_
        refine at_do (does_pick_false rfl rfl) rfl rfl ?_
        refine at_nil ?_
        refine at_then ?_
        refine at_cond_f rfl (decide_eq_false (by omega)) ?_
        refine at_seq ?_
        refine at_region ?_
        refine at_do (does_move rfl) rfl rfl ?_
        refine at_do (does_move rfl) rfl rfl ?_
        refine at_do (does_move rfl) rfl rfl ?_
        refine at_do (does_move rfl) rfl rfl ?_
        refine at_callrow (f := 31) (enters_fn (by kernel_rfl) rfl) (fun w ho => ref_Waits _ _ L (endP ps m) m w (hv1'.keep (s2 ho)) (atR_vals (ho.rowAt (i := 1) rfl)) hS hs2 hm) rfl rfl (fun vz => ?_)
        refine at_callv (f := 30) (enters_fn (by kernel_rfl) rfl) (fun w ho => same_yes _ _ (waitsL L (endP ps m) m) w (vals_of_row (ho.rowAt (i := 1) rfl)) (vals_of_row (ho.rowAt (i := 0) rfl)) (by have := waits_len L (endP ps m) m; omega)) rfl rfl (at_drop (H' := [atR ga L.length (endP ps m), phR gp L.length (endP ps m)]) (.cons _ (.cons _ (List.Sublist.refl _))) ?_)
        refine at_do (does_not rfl) rfl rfl ?_
        refine at_do (does_move rfl) rfl rfl ?_
        refine at_know (t := 104) (d := false) rfl (by simp) ?_
        refine at_on rfl rfl ?_
        refine at_do (does_move rfl) rfl rfl ?_
        refine at_on rfl rfl ?_
        refine at_do (does_neq rfl rfl) rfl rfl ?_
        refine at_do (does_pick_false rfl rfl) rfl rfl ?_
        refine at_nil ?_
        refine at_then ?_
        refine at_cond_f rfl (decide_eq_false (by omega)) ?_
        refine at_skip ?_
        refine at_then ?_
        refine at_seq ?_
        refine at_region ?_
        refine at_do (does_move rfl) rfl rfl ?_
        refine at_do (does_len (by kernel_rfl) rfl) rfl rfl ?_
        refine at_do (does_move rfl) rfl rfl ?_
        refine at_callrow (f := 32) (enters_fn (by kernel_rfl) rfl) (fun w ho => refl_Are _ (endP ps m) L.length 2 w (atR_vals (ho.rowAt (i := 0) rfl)) hs2) rfl rfl (fun vr => ?_)
        refine at_do (does_rowlen (i := 0) (by kernel_rfl) rfl rfl) rfl rfl (at_drop (H' := [atR ga L.length (endP ps m), phR gp L.length (endP ps m)]) (.cons _ (List.Sublist.refl _)) ?_)
        refine at_do (does_subi rfl rfl (by omega)) rfl rfl ?_
        refine at_do (does_assign rfl) rfl rfl ?_
        refine at_nil ?_
        refine at_then ?_
        refine at_seq ?_
        refine at_region ?_
        refine at_do (does_move rfl) rfl rfl ?_
        refine at_callrow (f := 33) (enters_fn (by kernel_rfl) rfl) (fun w ho => tab_Ready (tabA (q := 1) ho rfl hs2)) rfl rfl (fun vy => ?_)
        refine at_do (does_move rfl) rfl rfl ?_
        refine at_do (does_move rfl) rfl rfl ?_
        refine at_callrow (f := 34) (enters_fn (by kernel_rfl) rfl) (fun w ho => refl_Ready _ _ L (endP ps m) w (hv1'.keep (s2 ho)) (atR_vals (ho.rowAt (i := 1) rfl)) hS hs2) rfl rfl (fun vx => ?_)
        refine at_callv (f := 30) (enters_fn (by kernel_rfl) rfl) (fun w ho => same_yes _ _ (allOf L.length (mayL L (endP ps m))) w (vals_of_row (ho.rowAt (i := 1) rfl)) (vals_of_row (ho.rowAt (i := 0) rfl)) (by have := allOf_len L.length (mayL L (endP ps m)); omega)) rfl rfl (at_drop (H' := [atR ga L.length (endP ps m), phR gp L.length (endP ps m)]) (.cons _ (.cons _ (List.Sublist.refl _))) ?_)
        refine at_do (does_not rfl) rfl rfl ?_
        refine at_do (does_move rfl) rfl rfl ?_
        refine at_know (t := 121) (d := false) rfl (by simp) ?_
        refine at_on rfl rfl ?_
        refine at_do (does_move rfl) rfl rfl ?_
        refine at_on rfl rfl ?_
        refine at_callrow (f := 35) (enters_fn (by kernel_rfl) rfl) (fun w ho => tab_Running (tabA (q := 1) ho rfl hs2)) rfl rfl (fun vu => ?_)
        refine at_on rfl rfl ?_
        refine at_do (does_move rfl) rfl rfl ?_
        refine at_on rfl rfl ?_
        refine at_callrow (f := 32) (enters_fn (by kernel_rfl) rfl) (fun w ho => refl_Are _ (endP ps m) L.length 1 w (atR_vals (ho.rowAt (i := 1) rfl)) hs2) rfl rfl (fun vt => ?_)
        refine at_on rfl rfl ?_
        refine at_callv (f := 30) (enters_fn (by kernel_rfl) rfl) (fun w ho => same_yes _ _ (allOf L.length (farB (endP ps m) 1)) w (vals_of_row (ho.rowAt (i := 1) rfl)) (vals_of_row (ho.rowAt (i := 0) rfl)) (by have := allOf_len L.length (farB (endP ps m) 1); omega)) rfl rfl (at_drop (H' := [atR ga L.length (endP ps m), phR gp L.length (endP ps m)]) (.cons _ (.cons _ (List.Sublist.refl _))) ?_)
        refine at_on rfl rfl ?_
        refine at_do (does_not rfl) rfl rfl ?_
        refine at_do (does_pick_false rfl rfl) rfl rfl ?_
        refine at_do (does_move rfl) rfl rfl ?_
        refine at_know (t := 129) (d := false) rfl (by simp) ?_
        refine at_on rfl rfl ?_
        refine at_do (does_move rfl) rfl rfl ?_
        refine at_on rfl rfl ?_
        refine at_callv (f := 36) (enters_fn (by kernel_rfl) rfl) (fun w ho => tab_Left (tabA (q := 1) ho rfl hs2)) rfl rfl ?_
        refine at_on rfl rfl ?_
        refine at_do (does_move rfl) rfl rfl ?_
        refine at_on rfl rfl ?_
        refine at_do (does_neq rfl rfl) rfl rfl ?_
        refine at_do (does_pick_false rfl rfl) rfl rfl ?_
        refine at_do (does_move rfl) rfl rfl ?_
        refine at_know (t := 135) (d := false) rfl (decide_eq_false (by omega)) ?_
        refine at_on rfl rfl ?_
        refine at_do (does_move rfl) rfl rfl ?_
        refine at_on rfl rfl ?_
        refine at_callv (f := 37) (enters_fn (by kernel_rfl) rfl) (fun w ho => tab_Done (tabA (q := 1) ho rfl hs2)) rfl rfl ?_
        refine at_on rfl rfl ?_
        refine at_do (does_move rfl) rfl rfl ?_
        refine at_on rfl rfl ?_
        refine at_do (does_eql rfl rfl) rfl rfl ?_
        refine at_on rfl rfl ?_
        refine at_do (does_bneq (by kernel_rfl) rfl rfl) rfl rfl ?_
        refine at_do (does_pick_false rfl rfl) rfl rfl ?_
        refine at_nil ?_
        refine at_then ?_
        refine at_cond_f rfl (by (rw [Bool.eq_iff_iff]; simp; omega)) ?_
        refine at_skip ?_
        refine at_inb ?_
        refine at_then ?_
        refine at_region ?_
        refine at_do (does_move rfl) rfl rfl ?_
        refine at_do (does_addi rfl rfl (by (first | omega | (simp only; omega)))) rfl rfl ?_
        refine at_do (does_assign rfl) rfl rfl ?_
        refine at_nil ?_
        refine at_then ?_
        rotate_left
        refine at_againw fun w ho => ⟨((endP ps m), k + 1), ⟨by show k + 1 ≤ acts.length; omega, hs2⟩, by show acts.length - (k + 1) < acts.length - k; omega, ⟨rfl, rfl, rfl, rfl, rfl, trivial⟩, rfl, ho⟩
    · cases en
      · have hla := left_are L.length ps
        have hfl := allOf_len L.length (farB ps 2)
        by_cases h0 : i < 0
        · refine at_seq ?_
          refine at_seq ?_
          refine at_region ?_
          refine at_do (does_move rfl) rfl rfl ?_
          refine at_do (does_move rfl) rfl rfl ?_
          refine at_do (does_len (by kernel_rfl) rfl) rfl rfl ?_
          refine at_do (does_lss rfl rfl) rfl rfl ?_
          refine at_do (does_move rfl) rfl rfl ?_
          refine at_know (t := 45) (d := true) rfl (decide_eq_true (by omega)) ?_
          refine at_on rfl rfl ?_
          refine at_do (does_move rfl) rfl rfl ?_
          refine at_on rfl rfl ?_
          refine at_do (does_lss rfl rfl) rfl rfl ?_
          refine at_do (does_pick_true rfl rfl) rfl rfl ?_
          refine at_nil ?_
          refine at_then ?_
          refine at_cond_t rfl (decide_eq_true (by omega)) ?_
          refine at_skip ?_
          refine at_then ?_
          refine at_seq ?_
          refine at_block ?_
          refine at_seq ?_
          refine at_region ?_
          refine at_do (does_move rfl) rfl rfl ?_
          refine at_do (does_move rfl) rfl rfl ?_
          refine at_do (does_indexAddrk (k := 2) (j := k) (by kernel_rfl) rfl rfl hkl) rfl rfl ?_
          refine at_do (does_fieldAddr (o := 1) (by kernel_rfl) rfl) rfl rfl ?_
          refine at_do (does_load_mem (by kernel_rfl) rfl (fun w' ho => Below.cellOld ho.plain q2)) rfl rfl ?_
          refine at_do (does_assign rfl) rfl rfl ?_
          refine at_nil ?_
          refine at_then ?_
          refine at_seq ?_
          refine at_seq ?_
          refine at_region ?_
          refine at_do (does_move rfl) rfl rfl ?_
          refine at_do (does_move rfl) rfl rfl ?_
          refine at_do (does_indexAddrk (k := 2) (j := k) (by kernel_rfl) rfl rfl hkl) rfl rfl ?_
          refine at_do (does_fieldAddr (o := 0) (by kernel_rfl) rfl) rfl rfl ?_
          refine at_do (does_load_mem (by kernel_rfl) rfl (fun w' ho => Below.cellOld ho.plain q1)) rfl rfl ?_
          refine at_nil ?_
          refine at_then ?_
          refine at_cond_false rfl ?_
          refine at_seq ?_
          refine at_region ?_
          refine at_do (does_move rfl) rfl rfl ?_
          refine at_do (does_move rfl) rfl rfl ?_
          refine at_swap01 (at_callin (f := 27) (ι := Unit) (H0 := [phR gp L.length ps]) (R := [atR ga L.length ps]) (fun _ => .int .i64 4) (fun _ => [phR gp L.length ps]) rfl (enters_fn (by kernel_rfl) rfl) (fun w ho hi => tab_Begin_out (by rw [bls_ph]; exact hN ho) hs hi i hin) rfl rfl (fun _ => ?_))
          refine at_do (does_move rfl) rfl rfl ?_
          refine at_do (does_move rfl) rfl rfl ?_
          refine at_do (does_move rfl) rfl rfl ?_
          refine at_swap01 (at_callin (f := 28) (ι := Unit) (H0 := [atR ga L.length ps]) (R := [phR gp L.length ps]) (fun _ => .int .i64 4) (fun _ => [atR ga L.length ps]) rfl (enters_fn (by kernel_rfl) rfl) (fun w ho hi => refl_Begin_out _ ⟨_, _, rfl⟩ hi i hin) rfl rfl (fun _ => ?_))
          refine at_do (does_neq rfl rfl) rfl rfl ?_
          refine at_nil ?_
          refine at_then ?_
          refine at_cond_f rfl (decide_eq_false (by omega)) ?_
          refine at_skip ?_
          refine at_then ?_
          refine at_seq ?_
          refine at_region ?_
          refine at_do (does_move rfl) rfl rfl ?_
          refine at_do (does_move rfl) rfl rfl ?_
          refine at_callv (f := 29) (enters_fn (by kernel_rfl) rfl) (fun w ho => tab_Waits_out (tabA (q := 1) ho rfl hs) i hin) rfl rfl ?_
          refine at_do (does_move rfl) rfl rfl ?_
          refine at_do (does_extract rfl rfl) rfl rfl ?_
          refine at_do (does_extract rfl rfl) rfl rfl ?_
          refine at_do (does_assign rfl) rfl rfl ?_
          refine at_do (does_assign rfl) rfl rfl ?_
          refine at_nil ?_
          refine at_then ?_
          refine at_seq ?_
          refine at_seq ?_
          refine at_region ?_
          refine at_do (does_move rfl) rfl rfl ?_
          refine at_do (does_lss rfl rfl) rfl rfl ?_
          refine at_do (does_move rfl) rfl rfl ?_
          refine at_know (t := 84) (d := true) rfl (decide_eq_true (by omega)) ?_
          refine at_no rfl rfl rfl rfl ?_
          refine at_no rfl rfl rfl rfl ?_
          refine at_no rfl rfl rfl rfl ?_
          refine at_no rfl rfl rfl rfl ?_
          refine at_do (does_pick_true rfl rfl) rfl rfl ?_
          refine at_nil ?_
          refine at_then ?_
          refine at_cond_true rfl ?_
          refine at_seq ?_
          refine at_region ?_
          refine at_do (does_move rfl) rfl rfl ?_
          refine at_do (does_len (by kernel_rfl) rfl) rfl rfl ?_
          refine at_do (does_neq rfl rfl) rfl rfl ?_
          refine at_do (does_move rfl) rfl rfl ?_
          refine at_know (t := 93) (d := false) rfl (decide_eq_false (by omega)) ?_
          refine at_on rfl rfl ?_
          refine at_do (does_move rfl) rfl rfl ?_
          refine at_on rfl rfl ?_
          refine at_do (does_neq rfl rfl) rfl rfl ?_
          refine at_do (does_pick_false rfl rfl) rfl rfl ?_
          refine at_nil ?_
          refine at_then ?_
          refine at_cond_f rfl (decide_eq_false (by omega)) ?_
          refine at_skip ?_
          refine at_then ?_
          refine at_seq ?_
          refine at_region ?_
          refine at_do (does_move rfl) rfl rfl ?_
          refine at_do (does_len (by kernel_rfl) rfl) rfl rfl ?_
          refine at_do (does_move rfl) rfl rfl ?_
          refine at_callrow (f := 32) (enters_fn (by kernel_rfl) rfl) (fun w ho => refl_Are _ ps L.length 2 w (atR_vals (ho.rowAt (i := 0) rfl)) hs) rfl rfl (fun vr => ?_)
          refine at_do (does_rowlen (i := 0) (by kernel_rfl) rfl rfl) rfl rfl (at_drop (H' := [atR ga L.length ps, phR gp L.length ps]) (.cons _ (List.Sublist.refl _)) ?_)
          refine at_do (does_subi rfl rfl (by omega)) rfl rfl ?_
          refine at_do (does_assign rfl) rfl rfl ?_
          refine at_nil ?_
          refine at_then ?_
          refine at_seq ?_
          refine at_region ?_
          refine at_do (does_move rfl) rfl rfl ?_
          refine at_callrow (f := 33) (enters_fn (by kernel_rfl) rfl) (fun w ho => tab_Ready (tabA (q := 1) ho rfl hs)) rfl rfl (fun vy => ?_)
          refine at_do (does_move rfl) rfl rfl ?_
          refine at_do (does_move rfl) rfl rfl ?_
          refine at_callrow (f := 34) (enters_fn (by kernel_rfl) rfl) (fun w ho => refl_Ready _ _ L ps w (hv1'.keep (s2 ho)) (atR_vals (ho.rowAt (i := 1) rfl)) hS hs) rfl rfl (fun vx => ?_)
          refine at_callv (f := 30) (enters_fn (by kernel_rfl) rfl) (fun w ho => same_yes _ _ (allOf L.length (mayL L ps)) w (vals_of_row (ho.rowAt (i := 1) rfl)) (vals_of_row (ho.rowAt (i := 0) rfl)) (by have := allOf_len L.length (mayL L ps); omega)) rfl rfl (at_drop (H' := [atR ga L.length ps, phR gp L.length ps]) (.cons _ (.cons _ (List.Sublist.refl _))) ?_)
          refine at_do (does_not rfl) rfl rfl ?_
          refine at_do (does_move rfl) rfl rfl ?_
          refine at_know (t := 121) (d := false) rfl (by simp) ?_
          refine at_on rfl rfl ?_
          refine at_do (does_move rfl) rfl rfl ?_
          refine at_on rfl rfl ?_
          refine at_callrow (f := 35) (enters_fn (by kernel_rfl) rfl) (fun w ho => tab_Running (tabA (q := 1) ho rfl hs)) rfl rfl (fun vu => ?_)
          refine at_on rfl rfl ?_
          refine at_do (does_move rfl) rfl rfl ?_
          refine at_on rfl rfl ?_
          refine at_callrow (f := 32) (enters_fn (by kernel_rfl) rfl) (fun w ho => refl_Are _ ps L.length 1 w (atR_vals (ho.rowAt (i := 1) rfl)) hs) rfl rfl (fun vt => ?_)
          refine at_on rfl rfl ?_
          refine at_callv (f := 30) (enters_fn (by kernel_rfl) rfl) (fun w ho => same_yes _ _ (allOf L.length (farB ps 1)) w (vals_of_row (ho.rowAt (i := 1) rfl)) (vals_of_row (ho.rowAt (i := 0) rfl)) (by have := allOf_len L.length (farB ps 1); omega)) rfl rfl (at_drop (H' := [atR ga L.length ps, phR gp L.length ps]) (.cons _ (.cons _ (List.Sublist.refl _))) ?_)
          refine at_on rfl rfl ?_
          refine at_do (does_not rfl) rfl rfl ?_
          refine at_do (does_pick_false rfl rfl) rfl rfl ?_
          refine at_do (does_move rfl) rfl rfl ?_
          refine at_know (t := 129) (d := false) rfl (by simp) ?_
          refine at_on rfl rfl ?_
          refine at_do (does_move rfl) rfl rfl ?_
          refine at_on rfl rfl ?_
          refine at_callv (f := 36) (enters_fn (by kernel_rfl) rfl) (fun w ho => tab_Left (tabA (q := 1) ho rfl hs)) rfl rfl ?_
          refine at_on rfl rfl ?_
          refine at_do (does_move rfl) rfl rfl ?_
          refine at_on rfl rfl ?_
          refine at_do (does_neq rfl rfl) rfl rfl ?_
          refine at_do (does_pick_false rfl rfl) rfl rfl ?_
          refine at_do (does_move rfl) rfl rfl ?_
          refine at_know (t := 135) (d := false) rfl (decide_eq_false (by omega)) ?_
          refine at_on rfl rfl ?_
          refine at_do (does_move rfl) rfl rfl ?_
          refine at_on rfl rfl ?_
          refine at_callv (f := 37) (enters_fn (by kernel_rfl) rfl) (fun w ho => tab_Done (tabA (q := 1) ho rfl hs)) rfl rfl ?_
          refine at_on rfl rfl ?_
          refine at_do (does_move rfl) rfl rfl ?_
          refine at_on rfl rfl ?_
          refine at_do (does_eql rfl rfl) rfl rfl ?_
          refine at_on rfl rfl ?_
          refine at_do (does_bneq (by kernel_rfl) rfl rfl) rfl rfl ?_
          refine at_do (does_pick_false rfl rfl) rfl rfl ?_
          refine at_nil ?_
          refine at_then ?_
          refine at_cond_f rfl (by (rw [Bool.eq_iff_iff]; simp; omega)) ?_
          refine at_skip ?_
          refine at_inb ?_
          refine at_then ?_
          refine at_region ?_
          refine at_do (does_move rfl) rfl rfl ?_
          refine at_do (does_addi rfl rfl (by (first | omega | (simp only; omega)))) rfl rfl ?_
          refine at_do (does_assign rfl) rfl rfl ?_
          refine at_nil ?_
          refine at_then ?_
          rotate_left
          refine at_againw fun w ho => ⟨(ps, k + 1), ⟨by show k + 1 ≤ acts.length; omega, hs⟩, by show acts.length - (k + 1) < acts.length - k; omega, ⟨rfl, rfl, rfl, rfl, rfl, trivial⟩, rfl, ho⟩
        · refine at_seq ?_
          refine at_seq ?_
          refine at_region ?_
          refine at_do (does_move rfl) rfl rfl ?_
          refine at_do (does_move rfl) rfl rfl ?_
          refine at_do (does_len (by kernel_rfl) rfl) rfl rfl ?_
          refine at_do (does_lss rfl rfl) rfl rfl ?_
          refine at_do (does_move rfl) rfl rfl ?_
          refine at_know (t := 45) (d := true) rfl (decide_eq_true (by omega)) ?_
          refine at_on rfl rfl ?_
          refine at_do (does_move rfl) rfl rfl ?_
          refine at_on rfl rfl ?_
          refine at_do (does_lss rfl rfl) rfl rfl ?_
          refine at_do (does_pick_true rfl rfl) rfl rfl ?_
          refine at_nil ?_
          refine at_then ?_
          refine at_cond_t rfl (decide_eq_true (by omega)) ?_
          refine at_skip ?_
          refine at_then ?_
          refine at_seq ?_
          refine at_block ?_
          refine at_seq ?_
          refine at_region ?_
          refine at_do (does_move rfl) rfl rfl ?_
          refine at_do (does_move rfl) rfl rfl ?_
          refine at_do (does_indexAddrk (k := 2) (j := k) (by kernel_rfl) rfl rfl hkl) rfl rfl ?_
          refine at_do (does_fieldAddr (o := 1) (by kernel_rfl) rfl) rfl rfl ?_
          refine at_do (does_load_mem (by kernel_rfl) rfl (fun w' ho => Below.cellOld ho.plain q2)) rfl rfl ?_
          refine at_do (does_assign rfl) rfl rfl ?_
          refine at_nil ?_
          refine at_then ?_
          refine at_seq ?_
          refine at_seq ?_
          refine at_region ?_
          refine at_do (does_move rfl) rfl rfl ?_
          refine at_do (does_move rfl) rfl rfl ?_
          refine at_do (does_indexAddrk (k := 2) (j := k) (by kernel_rfl) rfl rfl hkl) rfl rfl ?_
          refine at_do (does_fieldAddr (o := 0) (by kernel_rfl) rfl) rfl rfl ?_
          refine at_do (does_load_mem (by kernel_rfl) rfl (fun w' ho => Below.cellOld ho.plain q1)) rfl rfl ?_
          refine at_nil ?_
          refine at_then ?_
          refine at_cond_false rfl ?_
          refine at_seq ?_
          refine at_region ?_
          refine at_do (does_move rfl) rfl rfl ?_
          refine at_do (does_move rfl) rfl rfl ?_
          refine at_swap01 (at_callin (f := 27) (ι := Unit) (H0 := [phR gp L.length ps]) (R := [atR ga L.length ps]) (fun _ => .int .i64 4) (fun _ => [phR gp L.length ps]) rfl (enters_fn (by kernel_rfl) rfl) (fun w ho hi => tab_Begin_out (by rw [bls_ph]; exact hN ho) hs hi i hin) rfl rfl (fun _ => ?_))
          refine at_do (does_move rfl) rfl rfl ?_
          refine at_do (does_move rfl) rfl rfl ?_
          refine at_do (does_move rfl) rfl rfl ?_
          refine at_swap01 (at_callin (f := 28) (ι := Unit) (H0 := [atR ga L.length ps]) (R := [phR gp L.length ps]) (fun _ => .int .i64 4) (fun _ => [atR ga L.length ps]) rfl (enters_fn (by kernel_rfl) rfl) (fun w ho hi => refl_Begin_out _ ⟨_, _, rfl⟩ hi i hin) rfl rfl (fun _ => ?_))
          refine at_do (does_neq rfl rfl) rfl rfl ?_
          refine at_nil ?_
          refine at_then ?_
          refine at_cond_f rfl (decide_eq_false (by omega)) ?_
          refine at_skip ?_
          refine at_then ?_
          refine at_seq ?_
          refine at_region ?_
          refine at_do (does_move rfl) rfl rfl ?_
          refine at_do (does_move rfl) rfl rfl ?_
          refine at_callv (f := 29) (enters_fn (by kernel_rfl) rfl) (fun w ho => tab_Waits_out (tabA (q := 1) ho rfl hs) i hin) rfl rfl ?_
          refine at_do (does_move rfl) rfl rfl ?_
          refine at_do (does_extract rfl rfl) rfl rfl ?_
          refine at_do (does_extract rfl rfl) rfl rfl ?_
          refine at_do (does_assign rfl) rfl rfl ?_
          refine at_do (does_assign rfl) rfl rfl ?_
          refine at_nil ?_
          refine at_then ?_
          refine at_seq ?_
          refine at_seq ?_
          refine at_region ?_
          refine at_do (does_move rfl) rfl rfl ?_
          refine at_do (does_lss rfl rfl) rfl rfl ?_
          refine at_do (does_move rfl) rfl rfl ?_
          refine at_know (t := 84) (d := false) rfl (decide_eq_false (by omega)) ?_
          refine at_on rfl rfl ?_
          refine at_do (does_move rfl) rfl rfl ?_
          refine at_on rfl rfl ?_
          refine at_do (does_move rfl) rfl rfl ?_
          refine at_on rfl rfl ?_
          refine at_do (does_len (by kernel_rfl) rfl) rfl rfl ?_
          refine at_on rfl rfl ?_
          refine at_do (does_geq rfl rfl) rfl rfl ?_
          refine at_do (does_pick_false rfl rfl) rfl rfl ?_
          refine at_nil ?_
          refine at_then ?_
          refine at_cond_t rfl (decide_eq_true (by omega)) ?_
          refine at_seq ?_
          refine at_region ?_
          refine at_do (does_move rfl) rfl rfl ?_
          refine at_do (does_len (by kernel_rfl) rfl) rfl rfl ?_
          refine at_do (does_neq rfl rfl) rfl rfl ?_
          refine at_do (does_move rfl) rfl rfl ?_
          refine at_know (t := 93) (d := false) rfl (decide_eq_false (by omega)) ?_
          refine at_on rfl rfl ?_
          refine at_do (does_move rfl) rfl rfl ?_
          refine at_on rfl rfl ?_
          refine at_do (does_neq rfl rfl) rfl rfl ?_
          refine at_do (does_pick_false rfl rfl) rfl rfl ?_
          refine at_nil ?_
          refine at_then ?_
          refine at_cond_f rfl (decide_eq_false (by omega)) ?_
          refine at_skip ?_
          refine at_then ?_
          refine at_seq ?_
          refine at_region ?_
          refine at_do (does_move rfl) rfl rfl ?_
          refine at_do (does_len (by kernel_rfl) rfl) rfl rfl ?_
          refine at_do (does_move rfl) rfl rfl ?_
          refine at_callrow (f := 32) (enters_fn (by kernel_rfl) rfl) (fun w ho => refl_Are _ ps L.length 2 w (atR_vals (ho.rowAt (i := 0) rfl)) hs) rfl rfl (fun vr => ?_)
          refine at_do (does_rowlen (i := 0) (by kernel_rfl) rfl rfl) rfl rfl (at_drop (H' := [atR ga L.length ps, phR gp L.length ps]) (.cons _ (List.Sublist.refl _)) ?_)
          refine at_do (does_subi rfl rfl (by omega)) rfl rfl ?_
          refine at_do (does_assign rfl) rfl rfl ?_
          refine at_nil ?_
          refine at_then ?_
          refine at_seq ?_
          refine at_region ?_
          refine at_do (does_move rfl) rfl rfl ?_
          refine at_callrow (f := 33) (enters_fn (by kernel_rfl) rfl) (fun w ho => tab_Ready (tabA (q := 1) ho rfl hs)) rfl rfl (fun vy => ?_)
          refine at_do (does_move rfl) rfl rfl ?_
          refine at_do (does_move rfl) rfl rfl ?_
          refine at_callrow (f := 34) (enters_fn (by kernel_rfl) rfl) (fun w ho => refl_Ready _ _ L ps w (hv1'.keep (s2 ho)) (atR_vals (ho.rowAt (i := 1) rfl)) hS hs) rfl rfl (fun vx => ?_)
          refine at_callv (f := 30) (enters_fn (by kernel_rfl) rfl) (fun w ho => same_yes _ _ (allOf L.length (mayL L ps)) w (vals_of_row (ho.rowAt (i := 1) rfl)) (vals_of_row (ho.rowAt (i := 0) rfl)) (by have := allOf_len L.length (mayL L ps); omega)) rfl rfl (at_drop (H' := [atR ga L.length ps, phR gp L.length ps]) (.cons _ (.cons _ (List.Sublist.refl _))) ?_)
          refine at_do (does_not rfl) rfl rfl ?_
          refine at_do (does_move rfl) rfl rfl ?_
          refine at_know (t := 121) (d := false) rfl (by simp) ?_
          refine at_on rfl rfl ?_
          refine at_do (does_move rfl) rfl rfl ?_
          refine at_on rfl rfl ?_
          refine at_callrow (f := 35) (enters_fn (by kernel_rfl) rfl) (fun w ho => tab_Running (tabA (q := 1) ho rfl hs)) rfl rfl (fun vu => ?_)
          refine at_on rfl rfl ?_
          refine at_do (does_move rfl) rfl rfl ?_
          refine at_on rfl rfl ?_
          refine at_callrow (f := 32) (enters_fn (by kernel_rfl) rfl) (fun w ho => refl_Are _ ps L.length 1 w (atR_vals (ho.rowAt (i := 1) rfl)) hs) rfl rfl (fun vt => ?_)
          refine at_on rfl rfl ?_
          refine at_callv (f := 30) (enters_fn (by kernel_rfl) rfl) (fun w ho => same_yes _ _ (allOf L.length (farB ps 1)) w (vals_of_row (ho.rowAt (i := 1) rfl)) (vals_of_row (ho.rowAt (i := 0) rfl)) (by have := allOf_len L.length (farB ps 1); omega)) rfl rfl (at_drop (H' := [atR ga L.length ps, phR gp L.length ps]) (.cons _ (.cons _ (List.Sublist.refl _))) ?_)
          refine at_on rfl rfl ?_
          refine at_do (does_not rfl) rfl rfl ?_
          refine at_do (does_pick_false rfl rfl) rfl rfl ?_
          refine at_do (does_move rfl) rfl rfl ?_
          refine at_know (t := 129) (d := false) rfl (by simp) ?_
          refine at_on rfl rfl ?_
          refine at_do (does_move rfl) rfl rfl ?_
          refine at_on rfl rfl ?_
          refine at_callv (f := 36) (enters_fn (by kernel_rfl) rfl) (fun w ho => tab_Left (tabA (q := 1) ho rfl hs)) rfl rfl ?_
          refine at_on rfl rfl ?_
          refine at_do (does_move rfl) rfl rfl ?_
          refine at_on rfl rfl ?_
          refine at_do (does_neq rfl rfl) rfl rfl ?_
          refine at_do (does_pick_false rfl rfl) rfl rfl ?_
          refine at_do (does_move rfl) rfl rfl ?_
          refine at_know (t := 135) (d := false) rfl (decide_eq_false (by omega)) ?_
          refine at_on rfl rfl ?_
          refine at_do (does_move rfl) rfl rfl ?_
          refine at_on rfl rfl ?_
          refine at_callv (f := 37) (enters_fn (by kernel_rfl) rfl) (fun w ho => tab_Done (tabA (q := 1) ho rfl hs)) rfl rfl ?_
          refine at_on rfl rfl ?_
          refine at_do (does_move rfl) rfl rfl ?_
          refine at_on rfl rfl ?_
          refine at_do (does_eql rfl rfl) rfl rfl ?_
          refine at_on rfl rfl ?_
          refine at_do (does_bneq (by kernel_rfl) rfl rfl) rfl rfl ?_
          refine at_do (does_pick_false rfl rfl) rfl rfl ?_
          refine at_nil ?_
          refine at_then ?_
          refine at_cond_f rfl (by (rw [Bool.eq_iff_iff]; simp; omega)) ?_
          refine at_skip ?_
          refine at_inb ?_
          refine at_then ?_
          refine at_region ?_
          refine at_do (does_move rfl) rfl rfl ?_
          refine at_do (does_addi rfl rfl (by (first | omega | (simp only; omega)))) rfl rfl ?_
          refine at_do (does_assign rfl) rfl rfl ?_
          refine at_nil ?_
          refine at_then ?_
          rotate_left
          refine at_againw fun w ho => ⟨(ps, k + 1), ⟨by show k + 1 ≤ acts.length; omega, hs⟩, by show acts.length - (k + 1) < acts.length - k; omega, ⟨rfl, rfl, rfl, rfl, rfl, trivial⟩, rfl, ho⟩
      · have hla := left_are L.length ps
        have hfl := allOf_len L.length (farB ps 2)
        by_cases h0 : i < 0
        · refine at_seq ?_
          refine at_seq ?_
          refine at_region ?_
          refine at_do (does_move rfl) rfl rfl ?_
          refine at_do (does_move rfl) rfl rfl ?_
          refine at_do (does_len (by kernel_rfl) rfl) rfl rfl ?_
          refine at_do (does_lss rfl rfl) rfl rfl ?_
          refine at_do (does_move rfl) rfl rfl ?_
          refine at_know (t := 45) (d := true) rfl (decide_eq_true (by omega)) ?_
          refine at_on rfl rfl ?_
          refine at_do (does_move rfl) rfl rfl ?_
          refine at_on rfl rfl ?_
          refine at_do (does_lss rfl rfl) rfl rfl ?_
          refine at_do (does_pick_true rfl rfl) rfl rfl ?_
          refine at_nil ?_
          refine at_then ?_
          refine at_cond_t rfl (decide_eq_true (by omega)) ?_
          refine at_skip ?_
          refine at_then ?_
          refine at_seq ?_
          refine at_block ?_
          refine at_seq ?_
          refine at_region ?_
          refine at_do (does_move rfl) rfl rfl ?_
          refine at_do (does_move rfl) rfl rfl ?_
          refine at_do (does_indexAddrk (k := 2) (j := k) (by kernel_rfl) rfl rfl hkl) rfl rfl ?_
          refine at_do (does_fieldAddr (o := 1) (by kernel_rfl) rfl) rfl rfl ?_
          refine at_do (does_load_mem (by kernel_rfl) rfl (fun w' ho => Below.cellOld ho.plain q2)) rfl rfl ?_
          refine at_do (does_assign rfl) rfl rfl ?_
          refine at_nil ?_
          refine at_then ?_
          refine at_seq ?_
          refine at_seq ?_
          refine at_region ?_
          refine at_do (does_move rfl) rfl rfl ?_
          refine at_do (does_move rfl) rfl rfl ?_
          refine at_do (does_indexAddrk (k := 2) (j := k) (by kernel_rfl) rfl rfl hkl) rfl rfl ?_
          refine at_do (does_fieldAddr (o := 0) (by kernel_rfl) rfl) rfl rfl ?_
          refine at_do (does_load_mem (by kernel_rfl) rfl (fun w' ho => Below.cellOld ho.plain q1)) rfl rfl ?_
          refine at_nil ?_
          refine at_then ?_
          refine at_cond_true rfl ?_
          refine at_seq ?_
          refine at_region ?_
          refine at_do (does_move rfl) rfl rfl ?_
          refine at_do (does_move rfl) rfl rfl ?_
          refine at_swap01 (at_callin (f := 25) (ι := Unit) (H0 := [phR gp L.length ps]) (R := [atR ga L.length ps]) (fun _ => .int .i64 4) (fun _ => [phR gp L.length ps]) rfl (enters_fn (by kernel_rfl) rfl) (fun w ho hi => tab_End_out (by rw [bls_ph]; exact hN ho) hs hi i hin) rfl rfl (fun _ => ?_))
          refine at_do (does_move rfl) rfl rfl ?_
          refine at_do (does_move rfl) rfl rfl ?_
          refine at_swap01 (at_callin (f := 26) (ι := Unit) (H0 := [atR ga L.length ps]) (R := [phR gp L.length ps]) (fun _ => .int .i64 4) (fun _ => [atR ga L.length ps]) rfl (enters_fn (by kernel_rfl) rfl) (fun w ho hi => refl_End_out hi i hin) rfl rfl (fun _ => ?_))
          refine at_do (does_neq rfl rfl) rfl rfl ?_
          refine at_nil ?_
          refine at_then ?_
          refine at_cond_f rfl (decide_eq_false (by omega)) ?_
          refine at_skip ?_
          refine at_then ?_
          refine at_seq ?_
          refine at_region ?_
          refine at_do (does_move rfl) rfl rfl ?_
          refine at_do (does_move rfl) rfl rfl ?_
          refine at_callv (f := 29) (enters_fn (by kernel_rfl) rfl) (fun w ho => tab_Waits_out (tabA (q := 1) ho rfl hs) i hin) rfl rfl ?_
          refine at_do (does_move rfl) rfl rfl ?_
          refine at_do (does_extract rfl rfl) rfl rfl ?_
          refine at_do (does_extract rfl rfl) rfl rfl ?_
          refine at_do (does_assign rfl) rfl rfl ?_
          refine at_do (does_assign rfl) rfl rfl ?_
          refine at_nil ?_
          refine at_then ?_
          refine at_seq ?_
          refine at_seq ?_
          refine at_region ?_
          refine at_do (does_move rfl) rfl rfl ?_
          refine at_do (does_lss rfl rfl) rfl rfl ?_
          refine at_do (does_move rfl) rfl rfl ?_
          refine at_know (t := 84) (d := true) rfl (decide_eq_true (by omega)) ?_
          refine at_no rfl rfl rfl rfl ?_
          refine at_no rfl rfl rfl rfl ?_
          refine at_no rfl rfl rfl rfl ?_
          refine at_no rfl rfl rfl rfl ?_
          refine at_do (does_pick_true rfl rfl) rfl rfl ?_
          refine at_nil ?_
          refine at_then ?_
          refine at_cond_true rfl ?_
          refine at_seq ?_
          refine at_region ?_
          refine at_do (does_move rfl) rfl rfl ?_
          refine at_do (does_len (by kernel_rfl) rfl) rfl rfl ?_
          refine at_do (does_neq rfl rfl) rfl rfl ?_
          refine at_do (does_move rfl) rfl rfl ?_
          refine at_know (t := 93) (d := false) rfl (decide_eq_false (by omega)) ?_
          refine at_on rfl rfl ?_
          refine at_do (does_move rfl) rfl rfl ?_
          refine at_on rfl rfl ?_
          refine at_do (does_neq rfl rfl) rfl rfl ?_
          refine at_do (does_pick_false rfl rfl) rfl rfl ?_
          refine at_nil ?_
          refine at_then ?_
          refine at_cond_f rfl (decide_eq_false (by omega)) ?_
          refine at_skip ?_
          refine at_then ?_
          refine at_seq ?_
          refine at_region ?_
          refine at_do (does_move rfl) rfl rfl ?_
          refine at_do (does_len (by kernel_rfl) rfl) rfl rfl ?_
          refine at_do (does_move rfl) rfl rfl ?_
          refine at_callrow (f := 32) (enters_fn (by kernel_rfl) rfl) (fun w ho => refl_Are _ ps L.length 2 w (atR_vals (ho.rowAt (i := 0) rfl)) hs) rfl rfl (fun vr => ?_)
          refine at_do (does_rowlen (i := 0) (by kernel_rfl) rfl rfl) rfl rfl (at_drop (H' := [atR ga L.length ps, phR gp L.length ps]) (.cons _ (List.Sublist.refl _)) ?_)
          refine at_do (does_subi rfl rfl (by omega)) rfl rfl ?_
          refine at_do (does_assign rfl) rfl rfl ?_
          refine at_nil ?_
          refine at_then ?_
          refine at_seq ?_
          refine at_region ?_
          refine at_do (does_move rfl) rfl rfl ?_
          refine at_callrow (f := 33) (enters_fn (by kernel_rfl) rfl) (fun w ho => tab_Ready (tabA (q := 1) ho rfl hs)) rfl rfl (fun vy => ?_)
          refine at_do (does_move rfl) rfl rfl ?_
          refine at_do (does_move rfl) rfl rfl ?_
          refine at_callrow (f := 34) (enters_fn (by kernel_rfl) rfl) (fun w ho => refl_Ready _ _ L ps w (hv1'.keep (s2 ho)) (atR_vals (ho.rowAt (i := 1) rfl)) hS hs) rfl rfl (fun vx => ?_)
          refine at_callv (f := 30) (enters_fn (by kernel_rfl) rfl) (fun w ho => same_yes _ _ (allOf L.length (mayL L ps)) w (vals_of_row (ho.rowAt (i := 1) rfl)) (vals_of_row (ho.rowAt (i := 0) rfl)) (by have := allOf_len L.length (mayL L ps); omega)) rfl rfl (at_drop (H' := [atR ga L.length ps, phR gp L.length ps]) (.cons _ (.cons _ (List.Sublist.refl _))) ?_)
          refine at_do (does_not rfl) rfl rfl ?_
          refine at_do (does_move rfl) rfl rfl ?_
          refine at_know (t := 121) (d := false) rfl (by simp) ?_
          refine at_on rfl rfl ?_
          refine at_do (does_move rfl) rfl rfl ?_
          refine at_on rfl rfl ?_
          refine at_callrow (f := 35) (enters_fn (by kernel_rfl) rfl) (fun w ho => tab_Running (tabA (q := 1) ho rfl hs)) rfl rfl (fun vu => ?_)
          refine at_on rfl rfl ?_
          refine at_do (does_move rfl) rfl rfl ?_
          refine at_on rfl rfl ?_
          refine at_callrow (f := 32) (enters_fn (by kernel_rfl) rfl) (fun w ho => refl_Are _ ps L.length 1 w (atR_vals (ho.rowAt (i := 1) rfl)) hs) rfl rfl (fun vt => ?_)
          refine at_on rfl rfl ?_
          refine at_callv (f := 30) (enters_fn (by kernel_rfl) rfl) (fun w ho => same_yes _ _ (allOf L.length (farB ps 1)) w (vals_of_row (ho.rowAt (i := 1) rfl)) (vals_of_row (ho.rowAt (i := 0) rfl)) (by have := allOf_len L.length (farB ps 1); omega)) rfl rfl (at_drop (H' := [atR ga L.length ps, phR gp L.length ps]) (.cons _ (.cons _ (List.Sublist.refl _))) ?_)
          refine at_on rfl rfl ?_
          refine at_do (does_not rfl) rfl rfl ?_
          refine at_do (does_pick_false rfl rfl) rfl rfl ?_
          refine at_do (does_move rfl) rfl rfl ?_
          refine at_know (t := 129) (d := false) rfl (by simp) ?_
          refine at_on rfl rfl ?_
          refine at_do (does_move rfl) rfl rfl ?_
          refine at_on rfl rfl ?_
          refine at_callv (f := 36) (enters_fn (by kernel_rfl) rfl) (fun w ho => tab_Left (tabA (q := 1) ho rfl hs)) rfl rfl ?_
          refine at_on rfl rfl ?_
          refine at_do (does_move rfl) rfl rfl ?_
          refine at_on rfl rfl ?_
          refine at_do (does_neq rfl rfl) rfl rfl ?_
          refine at_do (does_pick_false rfl rfl) rfl rfl ?_
          refine at_do (does_move rfl) rfl rfl ?_
          refine at_know (t := 135) (d := false) rfl (decide_eq_false (by omega)) ?_
          refine at_on rfl rfl ?_
          refine at_do (does_move rfl) rfl rfl ?_
          refine at_on rfl rfl ?_
          refine at_callv (f := 37) (enters_fn (by kernel_rfl) rfl) (fun w ho => tab_Done (tabA (q := 1) ho rfl hs)) rfl rfl ?_
          refine at_on rfl rfl ?_
          refine at_do (does_move rfl) rfl rfl ?_
          refine at_on rfl rfl ?_
          refine at_do (does_eql rfl rfl) rfl rfl ?_
          refine at_on rfl rfl ?_
          refine at_do (does_bneq (by kernel_rfl) rfl rfl) rfl rfl ?_
          refine at_do (does_pick_false rfl rfl) rfl rfl ?_
          refine at_nil ?_
          refine at_then ?_
          refine at_cond_f rfl (by (rw [Bool.eq_iff_iff]; simp; omega)) ?_
          refine at_skip ?_
          refine at_inb ?_
          refine at_then ?_
          refine at_region ?_
          refine at_do (does_move rfl) rfl rfl ?_
          refine at_do (does_addi rfl rfl (by (first | omega | (simp only; omega)))) rfl rfl ?_
          refine at_do (does_assign rfl) rfl rfl ?_
          refine at_nil ?_
          refine at_then ?_
          rotate_left
          refine at_againw fun w ho => ⟨(ps, k + 1), ⟨by show k + 1 ≤ acts.length; omega, hs⟩, by show acts.length - (k + 1) < acts.length - k; omega, ⟨rfl, rfl, rfl, rfl, rfl, trivial⟩, rfl, ho⟩
        · refine at_seq ?_
          refine at_seq ?_
          refine at_region ?_
          refine at_do (does_move rfl) rfl rfl ?_
          refine at_do (does_move rfl) rfl rfl ?_
          refine at_do (does_len (by kernel_rfl) rfl) rfl rfl ?_
          refine at_do (does_lss rfl rfl) rfl rfl ?_
          refine at_do (does_move rfl) rfl rfl ?_
          refine at_know (t := 45) (d := true) rfl (decide_eq_true (by omega)) ?_
          refine at_on rfl rfl ?_
          refine at_do (does_move rfl) rfl rfl ?_
          refine at_on rfl rfl ?_
          refine at_do (does_lss rfl rfl) rfl rfl ?_
          refine at_do (does_pick_true rfl rfl) rfl rfl ?_
          refine at_nil ?_
          refine at_then ?_
          refine at_cond_t rfl (decide_eq_true (by omega)) ?_
          refine at_skip ?_
          refine at_then ?_
          refine at_seq ?_
          refine at_block ?_
          refine at_seq ?_
          refine at_region ?_
          refine at_do (does_move rfl) rfl rfl ?_
          refine at_do (does_move rfl) rfl rfl ?_
          refine at_do (does_indexAddrk (k := 2) (j := k) (by kernel_rfl) rfl rfl hkl) rfl rfl ?_
          refine at_do (does_fieldAddr (o := 1) (by kernel_rfl) rfl) rfl rfl ?_
          refine at_do (does_load_mem (by kernel_rfl) rfl (fun w' ho => Below.cellOld ho.plain q2)) rfl rfl ?_
          refine at_do (does_assign rfl) rfl rfl ?_
          refine at_nil ?_
          refine at_then ?_
          refine at_seq ?_
          refine at_seq ?_
          refine at_region ?_
          refine at_do (does_move rfl) rfl rfl ?_
          refine at_do (does_move rfl) rfl rfl ?_
          refine at_do (does_indexAddrk (k := 2) (j := k) (by kernel_rfl) rfl rfl hkl) rfl rfl ?_
          refine at_do (does_fieldAddr (o := 0) (by kernel_rfl) rfl) rfl rfl ?_
          refine at_do (does_load_mem (by kernel_rfl) rfl (fun w' ho => Below.cellOld ho.plain q1)) rfl rfl ?_
          refine at_nil ?_
          refine at_then ?_
          refine at_cond_true rfl ?_
          refine at_seq ?_
          refine at_region ?_
          refine at_do (does_move rfl) rfl rfl ?_
          refine at_do (does_move rfl) rfl rfl ?_
          refine at_swap01 (at_callin (f := 25) (ι := Unit) (H0 := [phR gp L.length ps]) (R := [atR ga L.length ps]) (fun _ => .int .i64 4) (fun _ => [phR gp L.length ps]) rfl (enters_fn (by kernel_rfl) rfl) (fun w ho hi => tab_End_out (by rw [bls_ph]; exact hN ho) hs hi i hin) rfl rfl (fun _ => ?_))
          refine at_do (does_move rfl) rfl rfl ?_
          refine at_do (does_move rfl) rfl rfl ?_
          refine at_swap01 (at_callin (f := 26) (ι := Unit) (H0 := [atR ga L.length ps]) (R := [phR gp L.length ps]) (fun _ => .int .i64 4) (fun _ => [atR ga L.length ps]) rfl (enters_fn (by kernel_rfl) rfl) (fun w ho hi => refl_End_out hi i hin) rfl rfl (fun _ => ?_))
          refine at_do (does_neq rfl rfl) rfl rfl ?_
          refine at_nil ?_
          refine at_then ?_
          refine at_cond_f rfl (decide_eq_false (by omega)) ?_
          refine at_skip ?_
          refine at_then ?_
          refine at_seq ?_
          refine at_region ?_
          refine at_do (does_move rfl) rfl rfl ?_
          refine at_do (does_move rfl) rfl rfl ?_
          refine at_callv (f := 29) (enters_fn (by kernel_rfl) rfl) (fun w ho => tab_Waits_out (tabA (q := 1) ho rfl hs) i hin) rfl rfl ?_
          refine at_do (does_move rfl) rfl rfl ?_
          refine at_do (does_extract rfl rfl) rfl rfl ?_
          refine at_do (does_extract rfl rfl) rfl rfl ?_
          refine at_do (does_assign rfl) rfl rfl ?_
          refine at_do (does_assign rfl) rfl rfl ?_
          refine at_nil ?_
          refine at_then ?_
          refine at_seq ?_
          refine at_seq ?_
          refine at_region ?_
          refine at_do (does_move rfl) rfl rfl ?_
          refine at_do (does_lss rfl rfl) rfl rfl ?_
          refine at_do (does_move rfl) rfl rfl ?_
          refine at_know (t := 84) (d := false) rfl (decide_eq_false (by omega)) ?_
          refine at_on rfl rfl ?_
          refine at_do (does_move rfl) rfl rfl ?_
          refine at_on rfl rfl ?_
          refine at_do (does_move rfl) rfl rfl ?_
          refine at_on rfl rfl ?_
          refine at_do (does_len (by kernel_rfl) rfl) rfl rfl ?_
          refine at_on rfl rfl ?_
          refine at_do (does_geq rfl rfl) rfl rfl ?_
          refine at_do (does_pick_false rfl rfl) rfl rfl ?_
          refine at_nil ?_
          refine at_then ?_
          refine at_cond_t rfl (decide_eq_true (by omega)) ?_
          refine at_seq ?_
          refine at_region ?_
          refine at_do (does_move rfl) rfl rfl ?_
          refine at_do (does_len (by kernel_rfl) rfl) rfl rfl ?_
          refine at_do (does_neq rfl rfl) rfl rfl ?_
          refine at_do (does_move rfl) rfl rfl ?_
          refine at_know (t := 93) (d := false) rfl (decide_eq_false (by omega)) ?_
          refine at_on rfl rfl ?_
          refine at_do (does_move rfl) rfl rfl ?_
          refine at_on rfl rfl ?_
          refine at_do (does_neq rfl rfl) rfl rfl ?_
          refine at_do (does_pick_false rfl rfl) rfl rfl ?_
          refine at_nil ?_
          refine at_then ?_
          refine at_cond_f rfl (decide_eq_false (by omega)) ?_
          refine at_skip ?_
          refine at_then ?_
          refine at_seq ?_
          refine at_region ?_
          refine at_do (does_move rfl) rfl rfl ?_
          refine at_do (does_len (by kernel_rfl) rfl) rfl rfl ?_
          refine at_do (does_move rfl) rfl rfl ?_
          refine at_callrow (f := 32) (enters_fn (by kernel_rfl) rfl) (fun w ho => refl_Are _ ps L.length 2 w (atR_vals (ho.rowAt (i := 0) rfl)) hs) rfl rfl (fun vr => ?_)
          refine at_do (does_rowlen (i := 0) (by kernel_rfl) rfl rfl) rfl rfl (at_drop (H' := [atR ga L.length ps, phR gp L.length ps]) (.cons _ (List.Sublist.refl _)) ?_)
          refine at_do (does_subi rfl rfl (by omega)) rfl rfl ?_
          refine at_do (does_assign rfl) rfl rfl ?_
          refine at_nil ?_
          refine at_then ?_
          refine at_seq ?_
          refine at_region ?_
          refine at_do (does_move rfl) rfl rfl ?_
          refine at_callrow (f := 33) (enters_fn (by kernel_rfl) rfl) (fun w ho => tab_Ready (tabA (q := 1) ho rfl hs)) rfl rfl (fun vy => ?_)
          refine at_do (does_move rfl) rfl rfl ?_
          refine at_do (does_move rfl) rfl rfl ?_
          refine at_callrow (f := 34) (enters_fn (by kernel_rfl) rfl) (fun w ho => refl_Ready _ _ L ps w (hv1'.keep (s2 ho)) (atR_vals (ho.rowAt (i := 1) rfl)) hS hs) rfl rfl (fun vx => ?_)
          refine at_callv (f := 30) (enters_fn (by kernel_rfl) rfl) (fun w ho => same_yes _ _ (allOf L.length (mayL L ps)) w (vals_of_row (ho.rowAt (i := 1) rfl)) (vals_of_row (ho.rowAt (i := 0) rfl)) (by have := allOf_len L.length (mayL L ps); omega)) rfl rfl (at_drop (H' := [atR ga L.length ps, phR gp L.length ps]) (.cons _ (.cons _ (List.Sublist.refl _))) ?_)
          refine at_do (does_not rfl) rfl rfl ?_
          refine at_do (does_move rfl) rfl rfl ?_
          refine at_know (t := 121) (d := false) rfl (by simp) ?_
          refine at_on rfl rfl ?_
          refine at_do (does_move rfl) rfl rfl ?_
          refine at_on rfl rfl ?_
          refine at_callrow (f := 35) (enters_fn (by kernel_rfl) rfl) (fun w ho => tab_Running (tabA (q := 1) ho rfl hs)) rfl rfl (fun vu => ?_)
          refine at_on rfl rfl ?_
          refine at_do (does_move rfl) rfl rfl ?_
          refine at_on rfl rfl ?_
          refine at_callrow (f := 32) (enters_fn (by kernel_rfl) rfl) (fun w ho => refl_Are _ ps L.length 1 w (atR_vals (ho.rowAt (i := 1) rfl)) hs) rfl rfl (fun vt => ?_)
          refine at_on rfl rfl ?_
          refine at_callv (f := 30) (enters_fn (by kernel_rfl) rfl) (fun w ho => same_yes _ _ (allOf L.length (farB ps 1)) w (vals_of_row (ho.rowAt (i := 1) rfl)) (vals_of_row (ho.rowAt (i := 0) rfl)) (by have := allOf_len L.length (farB ps 1); omega)) rfl rfl (at_drop (H' := [atR ga L.length ps, phR gp L.length ps]) (.cons _ (.cons _ (List.Sublist.refl _))) ?_)
          refine at_on rfl rfl ?_
          refine at_do (does_not rfl) rfl rfl ?_
          refine at_do (does_pick_false rfl rfl) rfl rfl ?_
          refine at_do (does_move rfl) rfl rfl ?_
          refine at_know (t := 129) (d := false) rfl (by simp) ?_
          refine at_on rfl rfl ?_
          refine at_do (does_move rfl) rfl rfl ?_
          refine at_on rfl rfl ?_
          refine at_callv (f := 36) (enters_fn (by kernel_rfl) rfl) (fun w ho => tab_Left (tabA (q := 1) ho rfl hs)) rfl rfl ?_
          refine at_on rfl rfl ?_
          refine at_do (does_move rfl) rfl rfl ?_
          refine at_on rfl rfl ?_
          refine at_do (does_neq rfl rfl) rfl rfl ?_
          refine at_do (does_pick_false rfl rfl) rfl rfl ?_
          refine at_do (does_move rfl) rfl rfl ?_
          refine at_know (t := 135) (d := false) rfl (decide_eq_false (by omega)) ?_
          refine at_on rfl rfl ?_
          refine at_do (does_move rfl) rfl rfl ?_
          refine at_on rfl rfl ?_
          refine at_callv (f := 37) (enters_fn (by kernel_rfl) rfl) (fun w ho => tab_Done (tabA (q := 1) ho rfl hs)) rfl rfl ?_
          refine at_on rfl rfl ?_
          refine at_do (does_move rfl) rfl rfl ?_
          refine at_on rfl rfl ?_
          refine at_do (does_eql rfl rfl) rfl rfl ?_
          refine at_on rfl rfl ?_
          refine at_do (does_bneq (by kernel_rfl) rfl rfl) rfl rfl ?_
          refine at_do (does_pick_false rfl rfl) rfl rfl ?_
          refine at_nil ?_
          refine at_then ?_
          refine at_cond_f rfl (by (rw [Bool.eq_iff_iff]; simp; omega)) ?_
          refine at_skip ?_
          refine at_inb ?_
          refine at_then ?_
          refine at_region ?_
          refine at_do (does_move rfl) rfl rfl ?_
          refine at_do (does_addi rfl rfl (by (first | omega | (simp only; omega)))) rfl rfl ?_
          refine at_do (does_assign rfl) rfl rfl ?_
          refine at_nil ?_
          refine at_then ?_
          rotate_left
          refine at_againw fun w ho => ⟨(ps, k + 1), ⟨by show k + 1 ≤ acts.length; omega, hs⟩, by show acts.length - (k + 1) < acts.length - k; omega, ⟨rfl, rfl, rfl, rfl, rfl, trivial⟩, rfl, ho⟩
  · by_cases hka : k < acts.length
    · have hk140 : ¬ k < 140 := fun h => hkl ⟨hka, h⟩
      refine at_seq ?_
      refine at_seq ?_
      refine at_region ?_
      refine at_do (does_move rfl) rfl rfl ?_
      refine at_do (does_move rfl) rfl rfl ?_
      refine at_do (does_len (by kernel_rfl) rfl) rfl rfl ?_
      refine at_do (does_lss rfl rfl) rfl rfl ?_
      refine at_do (does_move rfl) rfl rfl ?_
      refine at_know (t := 45) (d := true) rfl (decide_eq_true (by omega)) ?_
      refine at_on rfl rfl ?_
      refine at_do (does_move rfl) rfl rfl ?_
      refine at_on rfl rfl ?_
      refine at_do (does_lss rfl rfl) rfl rfl ?_
      refine at_do (does_pick_true rfl rfl) rfl rfl ?_
      refine at_nil ?_
      refine at_then ?_
      refine at_cond_f rfl (decide_eq_false (by omega)) ?_
      refine at_exit ?_
      refine at_then_exit ?_
      refine at_then_exit ?_
      refine at_inb_here ?_
      refine at_then ?_
      refine at_seq ?_
      refine at_region ?_
      refine at_callv (f := 24) (enters_fn (by kernel_rfl) rfl) (fun w ho => locks_awake w (ho.glob hG id)) rfl rfl ?_
      refine at_do (does_assign rfl) rfl rfl ?_
      refine at_nil ?_
      refine at_then ?_
      refine at_ret ?_
      refine at_ret1 rfl rfl rfl (fun w9 ho9 => ?_)
      rotate_left
      exact ⟨rfl, ho9.plain⟩
    · refine at_seq ?_
      refine at_seq ?_
      refine at_region ?_
      refine at_do (does_move rfl) rfl rfl ?_
      refine at_do (does_move rfl) rfl rfl ?_
      refine at_do (does_len (by kernel_rfl) rfl) rfl rfl ?_
      refine at_do (does_lss rfl rfl) rfl rfl ?_
      refine at_do (does_move rfl) rfl rfl ?_
      refine at_know (t := 45) (d := false) rfl (decide_eq_false (by omega)) ?_
      refine at_no rfl rfl rfl rfl ?_
      refine at_no rfl rfl rfl rfl ?_
      refine at_do (does_pick_false rfl rfl) rfl rfl ?_
      refine at_nil ?_
      refine at_then ?_
      refine at_cond_false rfl ?_
      refine at_exit ?_
      refine at_then_exit ?_
      refine at_then_exit ?_
      refine at_inb_here ?_
      refine at_then ?_
      refine at_seq ?_
      refine at_region ?_
      refine at_callv (f := 24) (enters_fn (by kernel_rfl) rfl) (fun w ho => locks_awake w (ho.glob hG id)) rfl rfl ?_
      refine at_do (does_assign rfl) rfl rfl ?_
      refine at_nil ?_
      refine at_then ?_
      refine at_ret ?_
      refine at_ret1 rfl rfl rfl (fun w9 ho9 => ?_)
      rotate_left
      exact ⟨rfl, ho9.plain⟩
end Go.Proofs.YtchfecmabhfooaaDoor
