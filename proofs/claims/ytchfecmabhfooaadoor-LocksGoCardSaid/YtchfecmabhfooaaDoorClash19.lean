/-
  ClashLists, walked. No condition of its own.
-/
import Derived.Test.YtchfecmabhfooaaDoorMD
set_option linter.unusedSimpArgs false
set_option linter.unusedVariables false
namespace Go.Proofs.YtchfecmabhfooaaDoor
open Go.RowKit
attribute [local irreducible] cwp lwp Exit.then Exit.inBlock Exit.noGoto wpQuiet Calls fin At AtQ Again endQ RQ

theorem few_short (L0 : List Want2) : ShortW ((L0.take 66).map cutW) := by
  refine ⟨by simp; omega, fun x hx => ?_⟩
  obtain ⟨y, _, rfl⟩ := List.mem_map.1 hx
  exact cutW_short y
def RanksV (L : List Want2) (v : Value) (w : World) : Prop := ∃ A c, v = .tuple #[.slice A L.length c, .int .i64 0] ∧ ValsAt w (.slice A L.length c) (ints (kOut (aheadL L) L.length L.length))
theorem ranks_v (arg : Value) (L : List Want2) (w : World) (hG : Glob w) (hV : WantsAt w arg L) (hS : ShortW L) (h : rightL L = true) :
    Calls Tryd.prog 19 #[arg] w fun e w' => ∃ v, e = .returned v ∧ Below w.heap.size w w' ∧ RanksV L v w' :=
  (ranks_yes arg L w hG hV hS h).mono fun e w' ⟨v, q1, q2, hr⟩ => by
    have hv := vals_of_row hr
    obtain ⟨A, c, rfl⟩ := hv.len
    have hl : (ints (kOut (aheadL L) L.length L.length)).length = L.length := by rw [ints, List.length_map, kOut_len]
    rw [hl] at hv q1
    exact ⟨_, q1, q2, A, c, rfl, hv⟩
def AheadV (L : List Want2) (v : Value) (w : World) : Prop := ∃ g c, v = .tuple #[.slice (some ⟨g, 0, none⟩) L.length c, .int .i64 0] ∧ ∀ i, i < L.length → ∃ u, w.cell? ⟨g, 0 + i, none⟩ = some u ∧ ValsAt w u (ints (aheadL L i))
theorem ahead_v (arg : Value) (L : List Want2) (w : World) (hG : Glob w) (hV : WantsAt w arg L) (hS : ShortW L) (h : rightL L = true) :
    Calls Tryd.prog 18 #[arg] w fun e w' => ∃ v, e = .returned v ∧ Below w.heap.size w w' ∧ AheadV L v w' :=
  (ahead_yes arg L w hG hV hS h).mono fun e w' ⟨v, q1, q2, ⟨g, c, hv, hr⟩, _⟩ => by
    subst hv
    exact ⟨_, q1, q2, g, c, rfl, hr⟩
theorem keep_ahead {w w' : World} {g n : Nat} {f : Nat → List Nat} (h : ∀ i, i < n → ∃ u, w.cell? ⟨g, 0 + i, none⟩ = some u ∧ ValsAt w u (ints (f i))) (hb : Below w.heap.size w w') : ∀ i, i < n → ∃ u, w'.cell? ⟨g, 0 + i, none⟩ = some u ∧ ValsAt w' u (ints (f i)) := fun i hi => by
  obtain ⟨u, h1, h2⟩ := h i hi
  exact ⟨u, Below.cellOld hb h1, h2.keep hb⟩
set_option maxHeartbeats 8000000 in
theorem law_ClashLists (arg : Value) (L0 : List Want2) (w : World) (hG : Glob w) (hV : WantsAt w arg L0) (hn9 : L0.length ≤ 9223372036854775807) :
    Calls Tryd.prog 4 #[arg] w fun e w' => e = .returned (.bool true) ∧ Below w.heap.size w w' := by
  have hS := few_short L0
  have hF : ∀ w1, Below w.heap.size w w1 → Calls Tryd.prog 17 #[arg] w1 fun e w' => ∃ v, e = .returned v ∧ Below w1.heap.size w1 w' ∧ WantsAt w' v ((L0.take 66).map cutW) := fun w1 hb => law_Few arg L0 w1 (hV.keep hb) hn9
  generalize (L0.take 66).map cutW = L at hS hF
  have hS1 := hS.1
  refine calls_plain Tryd.func4 rfl Tryd.ntmps4 rfl ?_
  refine at_seq ?_
  refine at_region ?_
  refine at_do (does_assign rfl) rfl rfl ?_
  refine at_nil ?_
  refine at_then ?_
  refine at_seq ?_
  refine at_region ?_
  refine at_do (does_move rfl) rfl rfl ?_
  refine at_callk (f := 17) (Φ := fun v w' => WantsAt w' v L) (enters_fn (by kernel_rfl) rfl) (fun w ho => hF w ho.plain) rfl rfl (fun v1 w1 hw1 hv1 => ?_)
  refine at_do (does_assign rfl) rfl rfl ?_
  refine at_nil ?_
  refine at_then ?_
  refine at_seq ?_
  refine at_region ?_
  refine at_do (does_move rfl) rfl rfl ?_
  rotate_left
  have s1 : ∀ {C : Ctx} {H : List Res} {w' : World}, Own (Ctx.re C w1 []) H w' → Below w1.heap.size w1 w' := fun ho => ho.since (by simp [Ctx.re, bls])
  cases h : rightL L
  · refine at_callv (f := 18) (enters_fn (by kernel_rfl) rfl) (fun w ho => ahead_no v1 L w (ho.glob hG id) (hv1.keep (s1 ho)) hS h) rfl rfl ?_
    refine at_do (does_move rfl) rfl rfl ?_
    refine at_do (does_extract rfl rfl) rfl rfl ?_
    refine at_do (does_extract rfl rfl) rfl rfl ?_
    refine at_do (does_assign rfl) rfl rfl ?_
    refine at_do (does_assign rfl) rfl rfl ?_
    refine at_nil ?_
    refine at_then ?_
    refine at_seq ?_
    refine at_region ?_
    refine at_do (does_move rfl) rfl rfl ?_
    refine at_callv (f := 19) (enters_fn (by kernel_rfl) rfl) (fun w ho => ranks_no v1 L w (ho.glob hG id) (hv1.keep (s1 ho)) hS h) rfl rfl ?_
    refine at_do (does_move rfl) rfl rfl ?_
    refine at_do (does_extract rfl rfl) rfl rfl ?_
    refine at_do (does_extract rfl rfl) rfl rfl ?_
    refine at_do (does_assign rfl) rfl rfl ?_
    refine at_do (does_assign rfl) rfl rfl ?_
    refine at_nil ?_
    refine at_then ?_
    refine at_seq ?_
    refine at_seq ?_
    refine at_region ?_
    refine at_do (does_move rfl) rfl rfl ?_
    refine at_callv (f := 20) (enters_fn (by kernel_rfl) rfl) (fun w ho => h ▸ ref_Right v1 L w (hv1.keep (s1 ho)) hS) rfl rfl ?_
    refine at_do (does_not rfl) rfl rfl ?_
    refine at_nil ?_
    refine at_then ?_
    refine at_cond_t rfl (by decide) ?_
    refine at_seq ?_
    refine at_region ?_
    refine at_do (does_move rfl) rfl rfl ?_
    refine at_do (does_len (by kernel_rfl) rfl) rfl rfl ?_
    refine at_do (does_eql rfl rfl) rfl rfl ?_
    refine at_do (does_move rfl) rfl rfl ?_
    refine at_know (t := 28) (d := true) rfl (decide_eq_true (by decide)) ?_
    refine at_on rfl rfl ?_
    refine at_do (does_move rfl) rfl rfl ?_
    refine at_on rfl rfl ?_
    refine at_do (does_eql rfl rfl) rfl rfl ?_
    refine at_do (does_pick_true rfl rfl) rfl rfl ?_
    refine at_do (does_move rfl) rfl rfl ?_
    refine at_know (t := 32) (d := true) rfl (decide_eq_true (by decide)) ?_
    refine at_on rfl rfl ?_
    refine at_do (does_move rfl) rfl rfl ?_
    refine at_on rfl rfl ?_
    refine at_do (does_len (by kernel_rfl) rfl) rfl rfl ?_
    refine at_on rfl rfl ?_
    refine at_do (does_eql rfl rfl) rfl rfl ?_
    refine at_do (does_pick_true rfl rfl) rfl rfl ?_
    refine at_do (does_move rfl) rfl rfl ?_
    refine at_know (t := 37) (d := true) rfl (decide_eq_true (by decide)) ?_
    refine at_on rfl rfl ?_
    refine at_do (does_move rfl) rfl rfl ?_
    refine at_on rfl rfl ?_
    refine at_do (does_eql rfl rfl) rfl rfl ?_
    refine at_do (does_pick_true rfl rfl) rfl rfl ?_
    refine at_do (does_move rfl) rfl rfl ?_
    refine at_know (t := 41) (d := true) rfl (decide_eq_true (by decide)) ?_
    refine at_on rfl rfl ?_
    refine at_callv (f := 16) (enters_fn (by kernel_rfl) rfl) (fun w ho => clash_awake w (ho.glob hG id)) rfl rfl ?_
    refine at_do (does_pick_true rfl rfl) rfl rfl ?_
    refine at_do (does_assign rfl) rfl rfl ?_
    refine at_nil ?_
    refine at_then ?_
    refine at_ret ?_
    refine at_then_ret ?_
    refine at_ret1 rfl rfl rfl (fun w9 ho9 => ?_)
    rotate_left
    exact ⟨rfl, ho9.plain⟩
  · refine at_callk (f := 18) (Φ := AheadV L) (enters_fn (by kernel_rfl) rfl) (fun w ho => ahead_v v1 L w (ho.glob hG id) (hv1.keep (s1 ho)) hS h) rfl rfl (fun v2 w2 hw2 hv2 => ?_)
    refine at_do (does_move rfl) rfl rfl ?_
    rotate_left
    obtain ⟨ga, ca, rfl, hrows⟩ := hv2
    have t2 : Below w1.heap.size w1 w2 := s1 hw2
    have hv2 := hv1.keep t2
    have s2 : ∀ {C : Ctx} {H : List Res} {w' : World}, Own (Ctx.re C w2 []) H w' → Below w2.heap.size w2 w' := fun ho => ho.since (by simp [Ctx.re, bls])
    refine at_do (does_extract rfl rfl) rfl rfl ?_
    refine at_do (does_extract rfl rfl) rfl rfl ?_
    refine at_do (does_assign rfl) rfl rfl ?_
    refine at_do (does_assign rfl) rfl rfl ?_
    refine at_nil ?_
    refine at_then ?_
    refine at_seq ?_
    refine at_region ?_
    refine at_do (does_move rfl) rfl rfl ?_
    refine at_callk (f := 19) (Φ := RanksV L) (enters_fn (by kernel_rfl) rfl) (fun w ho => ranks_v v1 L w (ho.glob hG id) (hv2.keep (s2 ho)) hS h) rfl rfl (fun v3 w3 hw3 hv3 => ?_)
    refine at_do (does_move rfl) rfl rfl ?_
    rotate_left
    obtain ⟨Ar, cr, rfl, hrk⟩ := hv3
    have t3 : Below w2.heap.size w2 w3 := s2 hw3
    have hrows := keep_ahead hrows t3
    have hv3 := hv2.keep t3
    have s3 : ∀ {C : Ctx} {H : List Res} {w' : World}, Own (Ctx.re C w3 []) H w' → Below w3.heap.size w3 w' := fun ho => ho.since (by simp [Ctx.re, bls])
    have hv3' := hv3
    obtain ⟨A0, c0, rfl, hc, hcell⟩ := hv3
    refine at_do (does_extract rfl rfl) rfl rfl ?_
    refine at_do (does_extract rfl rfl) rfl rfl ?_
    refine at_do (does_assign rfl) rfl rfl ?_
    refine at_do (does_assign rfl) rfl rfl ?_
    refine at_nil ?_
    refine at_then ?_
    refine at_seq ?_
    refine at_seq ?_
    refine at_region ?_
    refine at_do (does_move rfl) rfl rfl ?_
    refine at_callv (f := 20) (enters_fn (by kernel_rfl) rfl) (fun w ho => h ▸ ref_Right _ L w (hv3'.keep (s3 ho)) hS) rfl rfl ?_
    refine at_do (does_not rfl) rfl rfl ?_
    refine at_nil ?_
    refine at_then ?_
    refine at_cond_f rfl (by decide) ?_
    refine at_skip ?_
    refine at_then ?_
    refine at_seq ?_
    refine at_seq ?_
    refine at_region ?_
    refine at_do (does_move rfl) rfl rfl ?_
    refine at_do (does_len (by kernel_rfl) rfl) rfl rfl ?_
    refine at_do (does_move rfl) rfl rfl ?_
    refine at_do (does_len (by kernel_rfl) rfl) rfl rfl ?_
    refine at_do (does_neq rfl rfl) rfl rfl ?_
    refine at_do (does_move rfl) rfl rfl ?_
    refine at_know (t := 49) (d := false) rfl (decide_eq_false (by simp)) ?_
    refine at_on rfl rfl ?_
    refine at_do (does_move rfl) rfl rfl ?_
    refine at_on rfl rfl ?_
    refine at_do (does_neq rfl rfl) rfl rfl ?_
    refine at_do (does_pick_false rfl rfl) rfl rfl ?_
    refine at_do (does_move rfl) rfl rfl ?_
    refine at_know (t := 53) (d := false) rfl (decide_eq_false (by decide)) ?_
    refine at_on rfl rfl ?_
    refine at_do (does_move rfl) rfl rfl ?_
    refine at_on rfl rfl ?_
    refine at_do (does_len (by kernel_rfl) rfl) rfl rfl ?_
    refine at_on rfl rfl ?_
    refine at_do (does_move rfl) rfl rfl ?_
    refine at_on rfl rfl ?_
    refine at_do (does_len (by kernel_rfl) rfl) rfl rfl ?_
    refine at_on rfl rfl ?_
    refine at_do (does_neq rfl rfl) rfl rfl ?_
    refine at_do (does_pick_false rfl rfl) rfl rfl ?_
    refine at_do (does_move rfl) rfl rfl ?_
    refine at_know (t := 60) (d := false) rfl (decide_eq_false (by simp)) ?_
    refine at_on rfl rfl ?_
    refine at_do (does_move rfl) rfl rfl ?_
    refine at_on rfl rfl ?_
    refine at_do (does_neq rfl rfl) rfl rfl ?_
    refine at_do (does_pick_false rfl rfl) rfl rfl ?_
    refine at_nil ?_
    refine at_then ?_
    refine at_cond_f rfl (decide_eq_false (by decide)) ?_
    refine at_skip ?_
    refine at_then ?_
    refine at_seq ?_
    refine at_seq ?_
    refine at_region ?_
    refine at_do (does_assign rfl) rfl rfl ?_
    refine at_nil ?_
    refine at_then ?_
    refine at_block ?_
    rotate_left
    refine at_loop0 (fun i : Nat => i ≤ L.length) (fun i => [(0, .slice A0 L.length c0), (3, .slice (some ⟨ga, 0, none⟩) L.length ca), (5, .slice Ar L.length cr), (7, .int .i64 i)]) (fun i => L.length - i) 0 (Nat.zero_le _) ⟨rfl, rfl, rfl, rfl, trivial⟩ ?_
    rintro i hi
    by_cases hil : i < L.length
    · obtain ⟨gb, o, rfl, hlt, hce⟩ := hcell (by omega)
      obtain ⟨an, bn, n1, n2, n3, n4, n5, n6⟩ := hce i hil
      have hxn := hS.2 L[i] (List.getElem_mem _)
      obtain ⟨u, hu, huv⟩ := hrows i hil
      have hal : (ints (aheadL L i)).length = (aheadL L i).length := by simp [ints]
      have hail : (aheadL L i).length ≤ i := flt_len L i i
      obtain ⟨Au, cu, rfl⟩ := huv.len
      refine at_seq ?_
      refine at_seq ?_
      refine at_region ?_
      refine at_do (does_move rfl) rfl rfl ?_
      refine at_do (does_move rfl) rfl rfl ?_
      refine at_do (does_len (by kernel_rfl) rfl) rfl rfl ?_
      refine at_do (does_lss rfl rfl) rfl rfl ?_
      refine at_nil ?_
      refine at_then ?_
      refine at_cond_t rfl (decide_eq_true (by omega)) ?_
      refine at_skip ?_
      refine at_then ?_
      refine at_seq ?_
      refine at_block ?_
      refine at_seq ?_
      refine at_region ?_
      refine at_do (does_assign rfl) rfl rfl ?_
      refine at_nil ?_
      refine at_then ?_
      refine at_seq ?_
      refine at_seq ?_
      refine at_region ?_
      refine at_do (does_assign rfl) rfl rfl ?_
      refine at_nil ?_
      refine at_then ?_
      refine at_block ?_
      rotate_left
      refine at_loop0 (fun k : Nat => k ≤ i) (fun k => [(0, .slice (some ⟨gb, o, none⟩) L.length c0), (3, .slice (some ⟨ga, 0, none⟩) L.length ca), (5, .slice Ar L.length cr), (7, .int .i64 i), (8, .int .i64 ((flt L i k).length : Nat)), (9, .int .i64 k)]) (fun k => i - k) 0 (Nat.zero_le _) ⟨rfl, rfl, rfl, rfl, rfl, rfl, trivial⟩ ?_
      rintro k hk
      by_cases hki : k < i
      · obtain ⟨ak, bk, k1, k2, k3, k4, k5, k6⟩ := hce k (by omega)
        have hxk := hS.2 L[k] (List.getElem_mem _)
        have hp : pairW L k i = pairF L[k].1 L[k].2 L[i].1 L[i].2 := oldPair (by omega) (by omega)
        have hfs := flt_succ L i k
        have hfl := flt_len L i k
        have hfa := flt_at L i k hki
        have cP : ∀ {w'}, ValsAt w' ak (strs L[k].1) → ValsAt w' bk (strs L[k].2) → ValsAt w' an (strs L[i].1) → ValsAt w' bn (strs L[i].2) → Calls Tryd.prog 15 #[.agg #[ak, bk], .agg #[an, bn]] w' fun e w3 => e = .returned (.bool (pairW L k i)) ∧ Below w'.heap.size w' w3 := fun x1 x2 x3 x4 => by
          rw [hp]; exact ref_Pair ak bk an bn _ _ _ _ _ x1 x2 x3 x4 hxk.1 hxk.2 hxn.1 hxn.2 k5 k6 n5 n6
        clear hp
        generalize pairW L k i = pk at hfs cP hfa
        generalize hfn : (flt L i k).length = n at hfl hfa ⊢
        cases pk
        · rw [if_neg (by simp)] at hfs
          refine at_seq ?_
          refine at_seq ?_
          refine at_region ?_
          refine at_do (does_move rfl) rfl rfl ?_
          refine at_do (does_move rfl) rfl rfl ?_
          refine at_do (does_lss rfl rfl) rfl rfl ?_
          refine at_nil ?_
          refine at_then ?_
          refine at_cond_t rfl (decide_eq_true (by omega)) ?_
          refine at_skip ?_
          refine at_then ?_
          refine at_seq ?_
          refine at_block ?_
          refine at_seq ?_
          refine at_draw (by kernel_rfl) (by kernel_rfl) ?_
          refine atq_do (does_move rfl) rfl rfl ?_
          refine atq_do (does_move rfl) rfl rfl ?_
          refine atq_do (does_indexAddrk (k := 2) (j := k) (by kernel_rfl) rfl rfl (by omega)) rfl rfl ?_
          refine atq_do (does_loadagg_mem (vs := [ak, bk]) (by kernel_rfl) rfl (fun w' ho => two_cells (Below.cellOld (s3 ho) k1) (Below.cellOld (s3 ho) k2))) rfl rfl ?_
          refine atq_do (does_move rfl) rfl rfl ?_
          refine atq_do (does_move rfl) rfl rfl ?_
          refine atq_do (does_indexAddrk (k := 2) (j := i) (by kernel_rfl) rfl rfl (by omega)) rfl rfl ?_
          refine atq_do (does_loadagg_mem (vs := [an, bn]) (by kernel_rfl) rfl (fun w' ho => two_cells (Below.cellOld (s3 ho) n1) (Below.cellOld (s3 ho) n2))) rfl rfl ?_
          refine atq_callv (f := 15) (enters_fn (by kernel_rfl) rfl) (fun w ho => cP (k3.keep (s3 ho)) (k4.keep (s3 ho)) (n3.keep (s3 ho)) (n4.keep (s3 ho))) rfl rfl ?_
          refine atq_nil ?_
          refine at_then ?_
          refine at_cond_false rfl ?_
          refine at_skip ?_
          refine at_inb ?_
          refine at_then ?_
          refine at_region ?_
          refine at_do (does_move rfl) rfl rfl ?_
          refine at_do (does_addi rfl rfl (by omega)) rfl rfl ?_
          refine at_do (does_assign rfl) rfl rfl ?_
          refine at_nil ?_
          refine at_then ?_
          rotate_left
          refine at_again0 (k + 1) (by omega) (by omega) ⟨rfl, rfl, rfl, rfl, ?_, rfl, trivial⟩
          rw [hfs, hfn]; rfl
        · rw [if_pos rfl] at hfs
          have hna := hfa rfl
          have hnl : n < (aheadL L i).length := (List.getElem?_eq_some_iff.1 hna).1
          obtain ⟨gu, ou, cu2, hue, huc, hult, hucell⟩ := huv.form (by omega)
          simp only [Value.slice.injEq, true_and] at hue
          obtain ⟨rfl, rfl⟩ := hue
          have hcn : w3.cell? ⟨gu, ou + n, none⟩ = some (.int .i64 ((k : Nat) : Int)) := hucell n _ (by simp [ints, hna])
          refine at_seq ?_
          refine at_seq ?_
          refine at_region ?_
          refine at_do (does_move rfl) rfl rfl ?_
          refine at_do (does_move rfl) rfl rfl ?_
          refine at_do (does_lss rfl rfl) rfl rfl ?_
          refine at_nil ?_
          refine at_then ?_
          refine at_cond_t rfl (decide_eq_true (by omega)) ?_
          refine at_skip ?_
          refine at_then ?_
          refine at_seq ?_
          refine at_block ?_
          refine at_seq ?_
          refine at_draw (by kernel_rfl) (by kernel_rfl) ?_
          refine atq_do (does_move rfl) rfl rfl ?_
          refine atq_do (does_move rfl) rfl rfl ?_
          refine atq_do (does_indexAddrk (k := 2) (j := k) (by kernel_rfl) rfl rfl (by omega)) rfl rfl ?_
          refine atq_do (does_loadagg_mem (vs := [ak, bk]) (by kernel_rfl) rfl (fun w' ho => two_cells (Below.cellOld (s3 ho) k1) (Below.cellOld (s3 ho) k2))) rfl rfl ?_
          refine atq_do (does_move rfl) rfl rfl ?_
          refine atq_do (does_move rfl) rfl rfl ?_
          refine atq_do (does_indexAddrk (k := 2) (j := i) (by kernel_rfl) rfl rfl (by omega)) rfl rfl ?_
          refine atq_do (does_loadagg_mem (vs := [an, bn]) (by kernel_rfl) rfl (fun w' ho => two_cells (Below.cellOld (s3 ho) n1) (Below.cellOld (s3 ho) n2))) rfl rfl ?_
          refine atq_callv (f := 15) (enters_fn (by kernel_rfl) rfl) (fun w ho => cP (k3.keep (s3 ho)) (k4.keep (s3 ho)) (n3.keep (s3 ho)) (n4.keep (s3 ho))) rfl rfl ?_
          refine atq_nil ?_
          refine at_then ?_
          refine at_cond_true rfl ?_
          refine at_seq ?_
          refine at_seq ?_
          refine at_region ?_
          refine at_do (does_move rfl) rfl rfl ?_
          refine at_do (does_move rfl) rfl rfl ?_
          refine at_do (does_move rfl) rfl rfl ?_
          refine at_do (does_indexAddr1 (by kernel_rfl) rfl rfl (by omega)) rfl rfl ?_
          refine at_do (does_load_mem (by kernel_rfl) rfl (fun w' ho => Below.cellOld (s3 ho) hu)) rfl rfl ?_
          refine at_do (does_len (by kernel_rfl) rfl) rfl rfl ?_
          refine at_do (does_geq rfl rfl) rfl rfl ?_
          refine at_do (does_move rfl) rfl rfl ?_
          refine at_know (t := 91) (d := false) rfl (decide_eq_false (by omega)) ?_
          refine at_on rfl rfl ?_
          refine at_do (does_move rfl) rfl rfl ?_
          refine at_on rfl rfl ?_
          refine at_do (does_move rfl) rfl rfl ?_
          refine at_on rfl rfl ?_
          refine at_do (does_indexAddr1 (by kernel_rfl) rfl rfl (by omega)) rfl rfl ?_
          refine at_on rfl rfl ?_
          refine at_do (does_load_mem (by kernel_rfl) rfl (fun w' ho => Below.cellOld (s3 ho) hu)) rfl rfl ?_
          refine at_on rfl rfl ?_
          refine at_do (does_move rfl) rfl rfl ?_
          refine at_on rfl rfl ?_
          refine at_do (does_indexAddr1 (by kernel_rfl) rfl rfl (by omega)) rfl rfl ?_
          refine at_on rfl rfl ?_
          refine at_do (does_load_mem (by kernel_rfl) rfl (fun w' ho => Below.cellOld (s3 ho) hcn)) rfl rfl ?_
          refine at_on rfl rfl ?_
          refine at_do (does_move rfl) rfl rfl ?_
          refine at_on rfl rfl ?_
          refine at_do (does_neq rfl rfl) rfl rfl ?_
          refine at_do (does_pick_false rfl rfl) rfl rfl ?_
          refine at_nil ?_
          refine at_then ?_
          refine at_cond_f rfl (decide_eq_false (by omega)) ?_
          refine at_skip ?_
          refine at_then ?_
          refine at_region ?_
          refine at_do (does_move rfl) rfl rfl ?_
          refine at_do (does_addi rfl rfl (by omega)) rfl rfl ?_
          refine at_do (does_assign rfl) rfl rfl ?_
          refine at_nil ?_
          refine at_inb ?_
          refine at_then ?_
          refine at_region ?_
          refine at_do (does_move rfl) rfl rfl ?_
          refine at_do (does_addi rfl rfl (by omega)) rfl rfl ?_
          refine at_do (does_assign rfl) rfl rfl ?_
          refine at_nil ?_
          refine at_then ?_
          rotate_left
          refine at_again0 (k + 1) (by omega) (by omega) ⟨rfl, rfl, rfl, rfl, ?_, rfl, trivial⟩
          rw [hfs, List.length_append, hfn]; rfl
      · obtain rfl : k = i := by omega
        have hrl : (ints (kOut (aheadL L) L.length L.length)).length = L.length := by rw [ints, List.length_map, kOut_len]
        obtain ⟨gr, or, cr2, hre, hrc, hrlt, hrcell⟩ := hrk.form (by omega)
        simp only [Value.slice.injEq, true_and] at hre
        obtain ⟨rfl, _, rfl⟩ := hre
        have hcr : w3.cell? ⟨gr, or + k, none⟩ = some (.int .i64 ((rankL L k : Nat) : Int)) := hrcell k _ (by
          have := kOut_len (aheadL L) L.length L.length
          rw [ints_get (by omega), ← rk_rank L k hil]; rfl)
        refine at_seq ?_
        refine at_seq ?_
        refine at_region ?_
        refine at_do (does_move rfl) rfl rfl ?_
        refine at_do (does_move rfl) rfl rfl ?_
        refine at_do (does_lss rfl rfl) rfl rfl ?_
        refine at_nil ?_
        refine at_then ?_
        refine at_cond_f rfl (decide_eq_false (by omega)) ?_
        refine at_exit ?_
        refine at_then_exit ?_
        refine at_then_exit ?_
        refine at_inb_here ?_
        refine at_then ?_
        refine at_seq ?_
        refine at_draw (by kernel_rfl) (by kernel_rfl) ?_
        refine atq_do (does_move rfl) rfl rfl ?_
        refine atq_do (does_move rfl) rfl rfl ?_
        refine atq_do (does_move rfl) rfl rfl ?_
        refine atq_do (does_indexAddr1 (by kernel_rfl) rfl rfl (by omega)) rfl rfl ?_
        refine atq_do (does_load_mem (by kernel_rfl) rfl (fun w' ho => Below.cellOld (s3 ho) hu)) rfl rfl ?_
        refine atq_do (does_len (by kernel_rfl) rfl) rfl rfl ?_
        refine atq_do (does_neq rfl rfl) rfl rfl ?_
        refine atq_do (does_move rfl) rfl rfl ?_
        refine atq_know (t := 111) (d := false) rfl (decide_eq_false (by (rw [hal]; exact fun h => h rfl))) ?_
        refine atq_on rfl rfl ?_
        refine atq_do (does_move rfl) rfl rfl ?_
        refine atq_on rfl rfl ?_
        refine atq_do (does_move rfl) rfl rfl ?_
        refine atq_on rfl rfl ?_
        refine atq_do (does_indexAddr1 (by kernel_rfl) rfl rfl (by omega)) rfl rfl ?_
        refine atq_on rfl rfl ?_
        refine atq_do (does_load_mem (by kernel_rfl) rfl (fun w' ho => Below.cellOld (s3 ho) hcr)) rfl rfl ?_
        refine atq_on rfl rfl ?_
        refine atq_do (does_move rfl) rfl rfl ?_
        refine atq_on rfl rfl ?_
        refine atq_do (does_move rfl) rfl rfl ?_
        refine atq_on rfl rfl ?_
        refine atq_callv (f := 21) (enters_fn (by kernel_rfl) rfl) (fun w ho => ref_Rank _ L k w (hv3'.keep (s3 ho)) hS hil) rfl rfl ?_
        refine atq_on rfl rfl ?_
        refine atq_do (does_neq rfl rfl) rfl rfl ?_
        refine atq_do (does_pick_false rfl rfl) rfl rfl ?_
        refine atq_nil ?_
        refine at_then ?_
        refine at_cond_f rfl (decide_eq_false (by omega)) ?_
        refine at_skip ?_
        refine at_inb ?_
        refine at_then ?_
        refine at_region ?_
        refine at_do (does_move rfl) rfl rfl ?_
        refine at_do (does_addi rfl rfl (by omega)) rfl rfl ?_
        refine at_do (does_assign rfl) rfl rfl ?_
        refine at_nil ?_
        refine at_then ?_
        rotate_left
        refine at_again0 (k + 1) (by omega) (by omega) ⟨rfl, rfl, rfl, rfl, trivial⟩
    · obtain rfl : i = L.length := by omega
      refine at_seq ?_
      refine at_seq ?_
      refine at_region ?_
      refine at_do (does_move rfl) rfl rfl ?_
      refine at_do (does_move rfl) rfl rfl ?_
      refine at_do (does_len (by kernel_rfl) rfl) rfl rfl ?_
      refine at_do (does_lss rfl rfl) rfl rfl ?_
      refine at_nil ?_
      refine at_then ?_
      refine at_cond_f rfl (decide_eq_false (by omega)) ?_
      refine at_exit ?_
      refine at_then_exit ?_
      refine at_then_exit ?_
      refine at_inb_here ?_
      refine at_then ?_
      refine at_seq ?_
      refine at_region ?_
      refine at_callv (f := 16) (enters_fn (by kernel_rfl) rfl) (fun w ho => clash_awake w (ho.glob hG id)) rfl rfl ?_
      refine at_do (does_assign rfl) rfl rfl ?_
      refine at_nil ?_
      refine at_then ?_
      refine at_ret ?_
      refine at_ret1 rfl rfl rfl (fun w9 ho9 => ?_)
      rotate_left
      exact ⟨rfl, ho9.plain⟩
end Go.Proofs.YtchfecmabhfooaaDoor
