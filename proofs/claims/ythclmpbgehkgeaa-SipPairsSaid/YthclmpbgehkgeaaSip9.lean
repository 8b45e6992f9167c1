/-
  The reference's tag of bytes. No condition of its own.
-/
import Derived.Test.YthclmpbgehkgeaaSip8
set_option linter.unusedSimpArgs false
set_option linter.unusedVariables false
namespace Go.Proofs.Ythclmpbgehkgeaa.K
open Go.RowKit
attribute [local irreducible] cwp lwp Exit.then Exit.inBlock Exit.noGoto wpQuiet Calls fin At AtQ Again endQ RQ rnds rnd rotl chewA wordF

theorem shapeRef : shapeArr Try.prog 41 = some ([.int .u64 0, .int .u64 0, .int .u64 0, .int .u64 0], 1) := by kernel_rfl
theorem fold_take (ws : List Int) (v : W4) (i : Nat) (h : i < ws.length) : (ws.take (i + 1)).foldl wordF v = wordF ((ws.take i).foldl wordF v) ws[i] := by
  rw [List.take_succ_eq_append_getElem h, List.foldl_append]; rfl
theorem wv_get {l : List Int} {j : Nat} (h : j < l.length) : (wv l)[j]? = some (.int .u64 l[j]) := by simp [wv, h]
set_option maxRecDepth 100000 in
set_option maxHeartbeats 1000000 in
theorem ref_Tag (p q : Int) (arg : Value) (ys : List UInt8) (w : World) (hp : Wd p) (hq : Wd q) (hB : BytesAt w arg ys) (hy : ys.length ≤ 100000) :
    Calls Try.prog 8 #[sec p q, arg] w fun e w' => e = .returned (.int .u64 (tagF p q ys)) ∧ Below w.heap.size w w' := by
  rw [← tag_ref p q ys]
  obtain ⟨ws, hws⟩ : ∃ ws, ws = wordsOf (padB ys ys.length) (ys.length / 8 + 1) := ⟨_, rfl⟩
  obtain ⟨L, hL⟩ : ∃ L, L = ys.length / 8 + 1 := ⟨_, rfl⟩
  have hlen : ws.length = L := by rw [hws, hL]; simp [wordsOf]
  have hwd : ∀ i (h : i < ws.length), Wd ws[i] := fun i h => by
    subst hws
    simp only [wordsOf, List.getElem_map]
    exact wsum_wd _ (by simp; omega)
  have c18 : ∀ w1, BytesAt w1 arg ys → Calls Try.prog 18 #[arg] w1 fun e w' => ∃ v, e = .returned v ∧ Below w1.heap.size w1 w' ∧ w'.ownsRow w1.heap.size 22 1 v L (wv ws) := by
    rw [hws, hL]; exact fun w1 h1 => ref_Words arg ys w1 h1 hy
  have hL1 : L ≤ 12501 ∧ 0 < L := by omega
  rw [← hws]
  clear hws hL
  have hb0 := begin_good hp hq
  obtain ⟨u, hu⟩ : ∃ u, u = beginF p q := ⟨_, rfl⟩
  refine calls_plain Try.func8 rfl Try.ntmps8 rfl ?_
  rw [← hu]
  refine at_seq ?_
  refine at_region ?_
  refine at_boxagg rfl rfl fun gz0 => ?_
  refine at_do (does_assign rfl) rfl rfl ?_
  refine at_nil ?_
  refine at_then ?_
  refine at_seq ?_
  refine at_region ?_
  refine at_do (does_fieldAddr (o := 0) (by kernel_rfl) rfl) rfl rfl ?_
  refine at_do (does_load (i := 0) (by kernel_rfl) rfl rfl rfl) rfl rfl ?_
  refine at_do (does_bits (by simp) rfl rfl) rfl rfl ?_
  refine at_do (does_fieldAddr (o := 1) (by kernel_rfl) rfl) rfl rfl ?_
  refine at_do (does_load (i := 0) (by kernel_rfl) rfl rfl rfl) rfl rfl ?_
  refine at_do (does_bits (by simp) rfl rfl) rfl rfl ?_
  refine at_do (does_fieldAddr (o := 0) (by kernel_rfl) rfl) rfl rfl ?_
  refine at_do (does_load (i := 0) (by kernel_rfl) rfl rfl rfl) rfl rfl ?_
  refine at_do (does_bits (by simp) rfl rfl) rfl rfl ?_
  refine at_do (does_fieldAddr (o := 1) (by kernel_rfl) rfl) rfl rfl ?_
  refine at_do (does_load (i := 0) (by kernel_rfl) rfl rfl rfl) rfl rfl ?_
  refine at_do (does_bits (by simp) rfl rfl) rfl rfl ?_
  refine at_do (does_buildarr (cs := (beginF p q).cells.toList) shapeRef rfl rfl) rfl rfl ?_
  refine at_allocagg Try.zeroValue41 rfl fun gz1 => ?_
  refine at_storeagg (i := 0) (by kernel_rfl) rfl rfl rfl rfl rfl ?_
  refine at_nil ?_
  refine at_then ?_
  refine at_seq ?_
  refine at_region ?_
  refine at_do (does_move rfl) rfl rfl ?_
  refine at_callrow (f := 18) (enters_fn (by kernel_rfl) rfl) (fun w ho => c18 w (ho.oldBytes hB)) rfl rfl (fun v6 => ?_)
  refine at_do (does_assign rfl) rfl rfl ?_
  refine at_nil ?_
  refine at_then ?_
  refine at_seq ?_
  refine at_seq ?_
  refine at_region ?_
  refine at_do (does_assign rfl) rfl rfl ?_
  refine at_nil ?_
  refine at_then ?_
  refine at_block ?_
  rotate_left
  refine at_openrow (i := 0) rfl ?_
  rintro ⟨_, ⟨_, h0⟩ | ⟨gr, cr, hv6⟩⟩
  · omega
  subst hv6
  refine at_loopH (σ := W4 × Nat) (fun s => s.1 = (ws.take s.2).foldl wordF u ∧ s.1.good ∧ s.2 ≤ L) (fun s => [(5, .pointer (some ⟨gz1, 0, none⟩)), (6, .slice (some ⟨gr, 0, none⟩) L cr), (7, .int .i64 s.2)]) (fun s => [.row (.slice (some ⟨gr, 0, none⟩) L cr) 22 1 L (wv ws), .blk gz1 41 s.1.cells]) (fun s => L - s.2)
    (fun w ho => ⟨(u, 0), ⟨rfl, hu ▸ hb0, Nat.zero_le _⟩, ⟨rfl, rfl, rfl, trivial⟩, by
      show Own _ [.row (.slice (some ⟨gr, 0, none⟩) L cr) 22 1 L (wv ws), .blk gz1 41 u.cells] w
      rw [hu]
      exact ho.sublist (.cons_cons _ (.cons_cons _ (List.nil_sublist _)))⟩) ?_
  rintro ⟨x, i⟩ ⟨hx1, hx2, hx3⟩
  simp only at hx1 hx2 hx3
  by_cases hi : i < L
  · have hm := hwd i (by omega)
    have hget : (wv ws)[0 + i]? = some (.int .u64 ws[i]) := by rw [Nat.zero_add]; exact wv_get (by omega)
    have hstep := fold_take ws u i (by omega)
    rw [← hx1] at hstep
    obtain ⟨m, hmm⟩ : ∃ m, m = ws[i] := ⟨_, rfl⟩
    rw [← hmm] at hm hget hstep
    obtain ⟨x0, x1, x2, x3⟩ := x
    have g1 : W4.good ⟨x0, x1, x2, xr x3 m⟩ := ⟨hx2.1, hx2.2.1, hx2.2.2.1, wd_xr _ _ hx2.2.2.2 hm⟩
    have c1 : ∀ w, Calls Try.prog 19 #[.agg #[.int .u64 x0, .int .u64 x1, .int .u64 x2, .int .u64 (xr x3 m)]] w fun e w' => e = .returned (.agg (rnd ⟨x0, x1, x2, xr x3 m⟩).cells) ∧ Below w.heap.size w w' := fun w => rround ⟨x0, x1, x2, xr x3 m⟩ w g1
    have g2 := rnd_good _ g1
    have hwf : wordF ⟨x0, x1, x2, x3⟩ m = ⟨xr (rnd (rnd ⟨x0, x1, x2, xr x3 m⟩)).a m, (rnd (rnd ⟨x0, x1, x2, xr x3 m⟩)).b, (rnd (rnd ⟨x0, x1, x2, xr x3 m⟩)).c, (rnd (rnd ⟨x0, x1, x2, xr x3 m⟩)).d⟩ := by
      unfold wordF rnds rnds rnds; rfl
    have hwg : (wordF ⟨x0, x1, x2, x3⟩ m).good := word_good hx2 hm
    rw [hwf] at hwg hstep
    clear hwf
    generalize rnd ⟨x0, x1, x2, xr x3 m⟩ = y at c1 g2 hwg hstep
    have c2 : ∀ w, Calls Try.prog 19 #[.agg y.cells] w fun e w' => e = .returned (.agg (rnd y).cells) ∧ Below w.heap.size w w' := fun w => rround y w g2
    generalize rnd y = z at c2 hwg hstep
    obtain ⟨t0, t1, t2, t3⟩ := z
    refine at_seq ?_
    refine at_seq ?_
    refine at_region ?_
    refine at_do (does_move rfl) rfl rfl ?_
    refine at_do (does_move rfl) rfl rfl ?_
    refine at_do (does_len (by kernel_rfl) rfl) rfl rfl ?_
    refine at_do (does_lss rfl rfl) rfl rfl ?_
    refine at_nil ?_
    refine at_then ?_
    refine at_cond_t rfl (decide_eq_true (by omega)) ?_
    refine at_skip ?_
    refine at_then ?_
    refine at_seq ?_
    refine at_block ?_
    refine at_seq ?_
    rotate_left
    apply at_drawR0 8 [.val _, .val _, .val _, .val _, .val _, .val _, .val _, .val _] (by kernel_rfl) (by kernel_rfl) rfl ⟨trivial, trivial, trivial, trivial, trivial, trivial, trivial, trivial, trivial⟩
    · refine so_cons rfl (fun vs => ?_) ?_
      exact step1_does (does_indexArr (len := 4) (k := 1) (by kernel_rfl) rfl rfl (by first | decide | (omega)))
      refine so_cons rfl (fun vs => ?_) ?_
      exact step1_does (does_load (i := 1) (by kernel_rfl) rfl rfl rfl)
      refine so_cons rfl (fun vs => ?_) ?_
      exact step1_does (does_move rfl)
      refine so_cons rfl (fun vs => ?_) ?_
      exact step1_does (does_move rfl)
      refine so_cons rfl (fun vs => ?_) ?_
      exact step1_does (does_indexAddr1 (by kernel_rfl) rfl rfl (by omega))
      refine so_cons rfl (fun vs => ?_) ?_
      exact step1_does (does_rowload (i := 0) (j := 0 + i) (by kernel_rfl) rfl rfl (by omega) hget)
      refine so_cons rfl (fun vs => ?_) ?_
      exact step1_does (does_bits (by simp) rfl rfl)
      refine so_cons rfl (fun vs => ?_) ?_
      exact step1_does (does_indexArr (len := 4) (k := 1) (by kernel_rfl) rfl rfl (by first | decide | (omega)))
      exact so_nil
    · intro vs
      refine at_store (i := 1) (by kernel_rfl) rfl rfl rfl rfl rfl ?_
      refine at_nil ?_
      refine at_then ?_
      refine at_seq ?_
      refine at_region ?_
      refine at_do (does_loadagg (i := 1) (k := 4) (by kernel_rfl) rfl rfl rfl) rfl rfl ?_
      refine at_callv (f := 19) (enters_fn (by kernel_rfl) rfl) (fun w ho => c1 w) rfl rfl ?_
      refine at_callv (f := 19) (enters_fn (by kernel_rfl) rfl) (fun w ho => c2 w) rfl rfl ?_
      refine at_storeagg (i := 1) (by kernel_rfl) rfl rfl rfl rfl rfl ?_
      refine at_nil ?_
      refine at_then ?_
      rotate_left
      apply at_drawR0 8 [.val _, .val _, .val _, .val _, .val _, .val _, .val _, .val _] (by kernel_rfl) (by kernel_rfl) rfl ⟨trivial, trivial, trivial, trivial, trivial, trivial, trivial, trivial, trivial⟩
      · refine so_cons rfl (fun vs => ?_) ?_
        exact step1_does (does_indexArr (len := 4) (k := 1) (by kernel_rfl) rfl rfl (by first | decide | (omega)))
        refine so_cons rfl (fun vs => ?_) ?_
        exact step1_does (does_load (i := 1) (by kernel_rfl) rfl rfl rfl)
        refine so_cons rfl (fun vs => ?_) ?_
        exact step1_does (does_move rfl)
        refine so_cons rfl (fun vs => ?_) ?_
        exact step1_does (does_move rfl)
        refine so_cons rfl (fun vs => ?_) ?_
        exact step1_does (does_indexAddr1 (by kernel_rfl) rfl rfl (by omega))
        refine so_cons rfl (fun vs => ?_) ?_
        exact step1_does (does_rowload (i := 0) (j := 0 + i) (by kernel_rfl) rfl rfl (by omega) hget)
        refine so_cons rfl (fun vs => ?_) ?_
        exact step1_does (does_bits (by simp) rfl rfl)
        refine so_cons rfl (fun vs => ?_) ?_
        exact step1_does (does_indexArr (len := 4) (k := 1) (by kernel_rfl) rfl rfl (by first | decide | (omega)))
        exact so_nil
      · intro vs
        refine at_store (i := 1) (by kernel_rfl) rfl rfl rfl rfl rfl ?_
        refine at_nil ?_
        refine at_inb ?_
        refine at_then ?_
        refine at_region ?_
        refine at_do (does_move rfl) rfl rfl ?_
        refine at_do (does_addi rfl rfl (by omega)) rfl rfl ?_
        refine at_do (does_assign rfl) rfl rfl ?_
        refine at_nil ?_
        refine at_then ?_
        rotate_left
        refine at_againw fun w ho => ⟨(⟨xr t0 m, t1, t2, t3⟩, i + 1), ⟨hstep.symm, hwg, by show i + 1 ≤ L; omega⟩, by show L - (i + 1) < L - i; omega, ⟨rfl, rfl, rfl, trivial⟩, rfl, ho⟩
  · obtain rfl : i = L := by omega
    have hx4 : x = ws.foldl wordF u := by rw [hx1, List.take_of_length_le (by omega)]
    rw [← hx4]
    clear hx1 hx4
    obtain ⟨x0, x1, x2, x3⟩ := x
    have g1 : W4.good ⟨x0, x1, xr x2 255, x3⟩ := ⟨hx2.1, hx2.2.1, wd_xr _ _ hx2.2.2.1 (by unfold Wd; omega), hx2.2.2.2⟩
    have hE : endF ⟨x0, x1, x2, x3⟩ = xr (xr (xr (rnd (rnd (rnd (rnd ⟨x0, x1, xr x2 255, x3⟩)))).a (rnd (rnd (rnd (rnd ⟨x0, x1, xr x2 255, x3⟩)))).b) (rnd (rnd (rnd (rnd ⟨x0, x1, xr x2 255, x3⟩)))).c) (rnd (rnd (rnd (rnd ⟨x0, x1, xr x2 255, x3⟩)))).d := by
      unfold endF rnds rnds rnds rnds rnds; rfl
    rw [hE]
    clear hE
    have c1 : ∀ w, Calls Try.prog 19 #[.agg #[.int .u64 x0, .int .u64 x1, .int .u64 (xr x2 255), .int .u64 x3]] w fun e w' => e = .returned (.agg (rnd ⟨x0, x1, xr x2 255, x3⟩).cells) ∧ Below w.heap.size w w' := fun w => rround ⟨x0, x1, xr x2 255, x3⟩ w g1
    have g2 := rnd_good _ g1
    generalize rnd ⟨x0, x1, xr x2 255, x3⟩ = y at c1 g2 ⊢
    have c2 : ∀ w, Calls Try.prog 19 #[.agg y.cells] w fun e w' => e = .returned (.agg (rnd y).cells) ∧ Below w.heap.size w w' := fun w => rround y w g2
    have g3 := rnd_good _ g2
    generalize rnd y = y2 at c2 g3 ⊢
    have c3 : ∀ w, Calls Try.prog 19 #[.agg y2.cells] w fun e w' => e = .returned (.agg (rnd y2).cells) ∧ Below w.heap.size w w' := fun w => rround y2 w g3
    have g4 := rnd_good _ g3
    generalize rnd y2 = y3 at c3 g4 ⊢
    have c4 : ∀ w, Calls Try.prog 19 #[.agg y3.cells] w fun e w' => e = .returned (.agg (rnd y3).cells) ∧ Below w.heap.size w w' := fun w => rround y3 w g4
    generalize rnd y3 = y4 at c4 ⊢
    obtain ⟨t0, t1, t2, t3⟩ := y4
    refine at_seq ?_
    refine at_seq ?_
    refine at_region ?_
    refine at_do (does_move rfl) rfl rfl ?_
    refine at_do (does_move rfl) rfl rfl ?_
    refine at_do (does_len (by kernel_rfl) rfl) rfl rfl ?_
    refine at_do (does_lss rfl rfl) rfl rfl ?_
    refine at_nil ?_
    refine at_then ?_
    refine at_cond_f rfl (decide_eq_false (by omega)) ?_
    refine at_exit ?_
    refine at_then_exit ?_
    refine at_then_exit ?_
    refine at_inb_here ?_
    refine at_then ?_
    refine at_seq ?_
    refine at_region ?_
    refine at_do (does_indexArr (len := 4) (k := 1) (by kernel_rfl) rfl rfl (by first | decide | (omega))) rfl rfl ?_
    refine at_do (does_load (i := 1) (by kernel_rfl) rfl rfl rfl) rfl rfl ?_
    refine at_do (does_bits (by simp) rfl rfl) rfl rfl ?_
    refine at_do (does_indexArr (len := 4) (k := 1) (by kernel_rfl) rfl rfl (by first | decide | (omega))) rfl rfl ?_
    refine at_store (i := 1) (by kernel_rfl) rfl rfl rfl rfl rfl ?_
    refine at_nil ?_
    refine at_then ?_
    refine at_seq ?_
    refine at_region ?_
    refine at_do (does_loadagg (i := 1) (k := 4) (by kernel_rfl) rfl rfl rfl) rfl rfl ?_
    refine at_callv (f := 19) (enters_fn (by kernel_rfl) rfl) (fun w ho => c1 w) rfl rfl ?_
    refine at_callv (f := 19) (enters_fn (by kernel_rfl) rfl) (fun w ho => c2 w) rfl rfl ?_
    refine at_callv (f := 19) (enters_fn (by kernel_rfl) rfl) (fun w ho => c3 w) rfl rfl ?_
    refine at_callv (f := 19) (enters_fn (by kernel_rfl) rfl) (fun w ho => c4 w) rfl rfl ?_
    refine at_storeagg (i := 1) (by kernel_rfl) rfl rfl rfl rfl rfl ?_
    refine at_nil ?_
    refine at_then ?_
    refine at_seq ?_
    refine at_region ?_
    refine at_do (does_indexArr (len := 4) (k := 1) (by kernel_rfl) rfl rfl (by first | decide | (omega))) rfl rfl ?_
    refine at_do (does_load (i := 1) (by kernel_rfl) rfl rfl rfl) rfl rfl ?_
    refine at_do (does_indexArr (len := 4) (k := 1) (by kernel_rfl) rfl rfl (by first | decide | (omega))) rfl rfl ?_
    refine at_do (does_load (i := 1) (by kernel_rfl) rfl rfl rfl) rfl rfl ?_
    refine at_do (does_bits (by simp) rfl rfl) rfl rfl ?_
    refine at_do (does_indexArr (len := 4) (k := 1) (by kernel_rfl) rfl rfl (by first | decide | (omega))) rfl rfl ?_
    refine at_do (does_load (i := 1) (by kernel_rfl) rfl rfl rfl) rfl rfl ?_
    refine at_do (does_bits (by simp) rfl rfl) rfl rfl ?_
    refine at_do (does_indexArr (len := 4) (k := 1) (by kernel_rfl) rfl rfl (by first | decide | (omega))) rfl rfl ?_
    refine at_do (does_load (i := 1) (by kernel_rfl) rfl rfl rfl) rfl rfl ?_
    refine at_do (does_bits (by simp) rfl rfl) rfl rfl ?_
    refine at_do (does_assign rfl) rfl rfl ?_
    refine at_nil ?_
    refine at_then ?_
    refine at_ret ?_
    refine at_ret1 rfl rfl rfl (fun w9 ho9 => ?_)
    rotate_left
    exact ⟨rfl, ho9.plain⟩
end Go.Proofs.Ythclmpbgehkgeaa.K
