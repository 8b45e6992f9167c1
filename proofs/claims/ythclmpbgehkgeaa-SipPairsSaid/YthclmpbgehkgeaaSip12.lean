/-
  The law of SipPieces. No condition of its own.
-/
import Derived.Test.YthclmpbgehkgeaaSip11
set_option linter.unusedSimpArgs false
set_option linter.unusedVariables false
namespace Go.Proofs.Ythclmpbgehkgeaa.K
open Go.RowKit
section
variable {P : Program} {r : Option Nat} {n : Nat} {E : List (Nat × Value)} {C : Ctx} {H : List Res} {Q : Exit → Act → World → Prop} {ops : Array Oper} {rest : List Oper}
theorem at_appendB0 {d i t e : Nat} {ty : TypeId} {pos : String} {after : Array Edge} {x y : Operand} {v arg : Value} {ys : List UInt8} (hT : appT P t e 1 1 = true) (hx : ev E x = some v) (hi : H[i]? = some (.row v e 1 0 [])) (hy : ev E y = some arg)
    (hB : ∀ w, Own C H w → BytesAt w arg ys) (hb : ys.length ≤ 1000000) (hd : Nat.blt d n = true)
    (kk : ∀ v' : Value, v'.oneCell' = true → At n ((d, v') :: E) C (H.set i (.row v' e 1 ys.length (byV ys))) (lwp r P ops Q rest)) :
    At n E C H (lwp r P ops Q (⟨some d, .call ⟨.builtin .append, #[x, y], #[t, t]⟩, ty, pos, after, none⟩ :: rest)) :=
  at_appendB hT hx hi hy hB (by omega) hd fun v' h => by
    have := kk v' h
    rw [Nat.zero_add, List.nil_append]
    exact this
end
theorem bytes_of_row {w : World} {v : Value} {l : List UInt8} {b : Nat} (h : w.ownsRow b 5 1 v l.length (byV l)) : BytesAt w v l := bytes_of_seg (seg_of_row h)
attribute [local irreducible] cwp lwp Exit.then Exit.inBlock Exit.noGoto wpQuiet Calls fin At AtQ Again endQ RQ rnds rnd rotl chewA wordF tagF
set_option maxHeartbeats 4000000 in
theorem law_SipPieces (p q : Int) (A : Option Addr) (m c : Nat) (W : World) (hp : Wd p) (hq : Wd q) (hm : m ≤ 9223372036854775807)
    (hP : 0 < m → ∃ b o, A = some ⟨b, o, none⟩ ∧ ∀ j, j < m → ∃ v ys, W.cell? ⟨b, o + j, none⟩ = some v ∧ BytesAt W v ys ∧ ys.length ≤ 9223372036854775807) :
    Calls Try.prog 4 #[sec p q, .slice A m c] W fun e w' => e = .returned (.bool true) ∧ Below W.heap.size W w' := by
  obtain ⟨l0, h0⟩ : ∃ l0 : List UInt8, l0 = [] := ⟨_, rfl⟩
  refine calls_plain Try.func4 rfl Try.ntmps4 rfl ?_
  refine at_seq ?_
  refine at_region ?_
  refine at_boxagg rfl rfl fun gz0 => ?_
  refine at_do (does_assign rfl) rfl rfl ?_
  refine at_nil ?_
  refine at_then ?_
  refine at_seq ?_
  refine at_region ?_
  refine at_do (does_loadagg (i := 0) (k := 2) (by kernel_rfl) rfl rfl rfl) rfl rfl ?_
  refine at_callblk (f := 12) (enters_fn (by kernel_rfl) rfl) (fun w ho => sip_New p q w) rfl rfl (fun hb => at_nilseg 5 (at_swap01 (at_hq h0 ?_)))
  refine at_do (does_assign rfl) rfl rfl ?_
  refine at_nil ?_
  refine at_then ?_
  refine at_seq ?_
  refine at_seq ?_
  refine at_region ?_
  refine at_do (does_move rfl) rfl rfl ?_
  refine at_do (does_nileql (by kernel_rfl) rfl rfl) rfl rfl ?_
  refine at_nil ?_
  refine at_then ?_
  refine at_cond_f rfl (by rfl) ?_
  refine at_skip ?_
  refine at_then ?_
  refine at_seq ?_
  refine at_region ?_
  refine at_do (does_assign rfl) rfl rfl ?_
  refine at_nil ?_
  refine at_then ?_
  refine at_seq ?_
  refine at_seq ?_
  refine at_region ?_
  refine at_do (does_assign rfl) rfl rfl ?_
  refine at_nil ?_
  refine at_then ?_
  refine at_block ?_
  rotate_left
  refine at_loopH (σ := Value × Value × List UInt8 × Nat) (fun s => s.2.2.1.length ≤ 600 * s.2.2.2 ∧ s.2.2.2 ≤ 30) (fun s => [(1, .slice A m c), (2, .pointer (some ⟨gz0, 0, none⟩)), (5, .pointer (some ⟨hb, 0, none⟩)), (6, s.2.1), (7, .int .i64 s.2.2.2)])
    (fun s => hQ hb p q s.1 s.2.2.1 ++ [.row s.2.1 5 1 s.2.2.1.length (byV s.2.2.1), .blk gz0 24 #[.int .u64 p, .int .u64 q]]) (fun s => 30 - s.2.2.2)
    (fun w ho => ⟨(.slice none 0 0, .slice none 0 0, l0, 0), ⟨by simp [h0], by show 0 ≤ 30; omega⟩, ⟨rfl, rfl, rfl, rfl, rfl, trivial⟩, by
      have h1 := (ho.nilrow 5 1).perm (H' := hQ hb p q (.slice none 0 0) l0 ++ .row (.slice none 0 0) 5 1 0 [] :: [.blk gz0 24 #[.int .u64 p, .int .u64 q]]) List.perm_middle
      show Own _ (hQ hb p q (.slice none 0 0) l0 ++ [.row (.slice none 0 0) 5 1 l0.length (byV l0), .blk gz0 24 #[.int .u64 p, .int .u64 q]]) w
      rw [show ([Res.row (.slice none 0 0) 5 1 l0.length (byV l0), .blk gz0 24 #[.int .u64 p, .int .u64 q]] : List Res) = Res.row (.slice none 0 0) 5 1 0 [] :: [.blk gz0 24 #[.int .u64 p, .int .u64 q]] by rw [h0]; rfl]
      exact h1⟩) ?_
  rintro ⟨rv, v6, L, i⟩ ⟨hL, hi30⟩
  simp only at hL hi30
  have hL2 : L.length ≤ 1000000 := by omega
  have hL3 : L.length ≤ 100000 := by omega
  by_cases hi : i < m ∧ i < 30
  · obtain ⟨b, o, rfl, hcell⟩ := hP (by omega)
    obtain ⟨vi, yi, hc1, hB1, hy1⟩ := hcell i hi.1
    have hF := few_bytes hB1
    have hys : (yi.take 600).length ≤ 600 := by simp; omega
    have cfew : ∀ w1, Calls Try.prog 7 #[vi] w1 fun e w' => e = .returned (fewV vi) ∧ Below w1.heap.size w1 w' := fun w1 => law_few vi yi W w1 hB1 hy1
    generalize yi.take 600 = ys at hF hys
    generalize fewV vi = v at hF cfew
    have hys2 : ys.length ≤ 1000000 := by omega
    have hys3 : ys.length ≤ 100000 := by omega
    have hLy : (L ++ ys).length ≤ 1000000 := by simp; omega
    have hLy3 : (L ++ ys).length ≤ 100000 := by simp; omega
    have hsum : L.length + ys.length ≤ 1000000 := by omega
    refine at_seq ?_
    refine at_seq ?_
    refine at_region ?_
    refine at_do (does_move rfl) rfl rfl ?_
    refine at_do (does_move rfl) rfl rfl ?_
    refine at_do (does_len (by kernel_rfl) rfl) rfl rfl ?_
    refine at_do (does_lss rfl rfl) rfl rfl ?_
    refine at_do (does_move rfl) rfl rfl ?_
    refine at_know (t := 18) (d := true) rfl (decide_eq_true (by (simp only; omega))) ?_
    refine at_on rfl rfl ?_
    refine at_do (does_move rfl) rfl rfl ?_
    refine at_on rfl rfl ?_
    refine at_do (does_lss rfl rfl) rfl rfl ?_
    refine at_do (does_pick_true rfl rfl) rfl rfl ?_
    refine at_nil ?_
    refine at_then ?_
    refine at_cond_t rfl (decide_eq_true (by (simp only; omega))) ?_
    refine at_skip ?_
    refine at_then ?_
    refine at_seq ?_
    refine at_block ?_
    refine at_seq ?_
    refine at_region ?_
    refine at_buildSlice (e := 5) (sz := 1) (vs := []) (cs := []) (by kernel_rfl) rfl rfl rfl rfl rfl rfl (fun g => at_litrow (i := 0) (k := 0) 1 rfl rfl (by decide) ?_)
    refine at_do (does_move rfl) rfl rfl ?_
    refine at_do (does_move rfl) rfl rfl ?_
    refine at_do (does_indexAddr1 (by kernel_rfl) rfl rfl (by (first | omega | (simp only; omega)))) rfl rfl ?_
    refine at_do (does_load_mem (by kernel_rfl) rfl (fun w' ho => Below.cellOld ho.plain hc1)) rfl rfl ?_
    refine at_callv (f := 7) (enters_fn (by kernel_rfl) rfl) (fun w ho => cfew w) rfl rfl ?_
    refine at_appendB0 (i := 0) (ys := ys) (by kernel_rfl) rfl rfl rfl (fun w ho => ho.oldBytes hF) hys2 rfl (fun v8 hv8 => at_perm (H' := hQ hb p q rv L ++ .row v8 5 1 ys.length (byV ys) :: [.row v6 5 1 L.length (byV L), .blk gz0 24 #[.int .u64 p, .int .u64 q]]) List.perm_middle ?_)
    refine at_do (does_assign rfl) rfl rfl ?_
    refine at_nil ?_
    refine at_then ?_
    refine at_seq ?_
    refine at_region ?_
    refine at_do (does_move rfl) rfl rfl ?_
    refine at_do (does_move rfl) rfl rfl ?_
    refine at_callin (f := 13) (ι := Value) (H0 := hQ hb p q rv L) (R := [.row v8 5 1 ys.length (byV ys), .row v6 5 1 L.length (byV L), .blk gz0 24 #[.int .u64 p, .int .u64 q]]) (fun _ => .tuple #[]) (fun rv2 => hQ hb p q rv2 (L ++ ys)) rfl (enters_fn (by kernel_rfl) rfl) (fun w1 ho ho1 => by (have a1 := bytes_of_row (ho.rowAt (i := 2) rfl)); (have a2 := Own.split ho); exact add_bytes2 hb p q rv _ L ys (L ++ ys) w1 ho1 hp hq hL2 hys3 a1 (fun _ b hbb => (a2 b (by simpa [Res.blocks] using hbb)).1) rfl) rfl rfl (fun rv2 => ?_)
    refine at_nil ?_
    refine at_then ?_
    refine at_seq ?_
    refine at_region ?_
    refine at_do (does_move rfl) rfl rfl ?_
    refine at_do (does_move rfl) rfl rfl ?_
    refine at_appendB (i := 3) (ys := ys) (by kernel_rfl) rfl rfl rfl (fun w ho => bytes_of_row (ho.rowAt (i := 2) rfl)) hsum rfl (fun v7 hv7 => ?_)
    refine at_do (does_assign rfl) rfl rfl ?_
    refine at_nil ?_
    refine at_then ?_
    refine at_seq ?_
    refine at_seq ?_
    refine at_region ?_
    refine at_do (does_assign rfl) rfl rfl ?_
    refine at_nil ?_
    refine at_then ?_
    refine at_block ?_
    rotate_left
    refine at_openrow (i := 2) rfl ?_
    rintro ⟨_, hv8f⟩
    refine at_loopH (σ := List Value × Nat) (fun s => s.2 ≤ ys.length) (fun s => [(1, .slice (some ⟨b, o, none⟩) m c), (2, .pointer (some ⟨gz0, 0, none⟩)), (5, .pointer (some ⟨hb, 0, none⟩)), (6, v7), (7, .int .i64 i), (8, v8), (9, .int .i64 s.2)])
      (fun s => hQ hb p q rv2 (L ++ ys) ++ [.row v8 5 1 ys.length s.1, .row v7 5 1 (L ++ ys).length (byV (L ++ ys)), .blk gz0 24 #[.int .u64 p, .int .u64 q]]) (fun s => ys.length - s.2)
      (fun w ho => ⟨(byV ys, 0), Nat.zero_le _, ⟨rfl, rfl, rfl, rfl, rfl, rfl, rfl, trivial⟩, by
        have e1 : (L ++ ys).length = L.length + ys.length := List.length_append
        have e2 : byV (L ++ ys) = byV L ++ byV ys := by simp [byV]
        show Own _ (hQ hb p q rv2 (L ++ ys) ++ [.row v8 5 1 ys.length (byV ys), .row v7 5 1 (L ++ ys).length (byV (L ++ ys)), .blk gz0 24 #[.int .u64 p, .int .u64 q]]) w
        rw [show ([.row v8 5 1 ys.length (byV ys), .row v7 5 1 (L ++ ys).length (byV (L ++ ys)), .blk gz0 24 #[.int .u64 p, .int .u64 q]] : List Res) = [.row v8 5 1 ys.length (byV ys), .row v7 5 1 (L.length + ys.length) (byV L ++ byV ys), .blk gz0 24 #[.int .u64 p, .int .u64 q]] by rw [e1, e2]]
        exact ho⟩) ?_
    rintro ⟨xs, j⟩ hj
    simp only at hj
    by_cases hj2 : j < ys.length
    · rcases hv8f with ⟨_, h00⟩ | ⟨g8, c8, hv8f⟩
      · omega
      subst hv8f
      refine at_seq ?_
      refine at_seq ?_
      refine at_region ?_
      refine at_do (does_move rfl) rfl rfl ?_
      refine at_do (does_move rfl) rfl rfl ?_
      refine at_do (does_rowlen (i := 2) (by kernel_rfl) rfl rfl) rfl rfl ?_
      refine at_do (does_lss rfl rfl) rfl rfl ?_
      refine at_nil ?_
      refine at_then ?_
      refine at_cond_t rfl (decide_eq_true (by omega)) ?_
      refine at_skip ?_
      refine at_then ?_
      refine at_seq ?_
      refine at_block ?_
      refine at_region ?_
      refine at_do (does_move rfl) rfl rfl ?_
      refine at_do (does_move rfl) rfl rfl ?_
      refine at_do (does_indexAddr1 (by kernel_rfl) rfl rfl (by (first | omega | (simp only; omega)))) rfl rfl ?_
      refine at_rowstore (i := 2) (j := 0 + j) (by kernel_rfl) rfl rfl rfl rfl (by omega) ?_
      refine at_nil ?_
      refine at_inb ?_
      refine at_then ?_
      refine at_region ?_
      refine at_do (does_move rfl) rfl rfl ?_
      refine at_do (does_addi rfl rfl (by (first | omega | (simp only; omega)))) rfl rfl ?_
      refine at_do (does_assign rfl) rfl rfl ?_
      refine at_nil ?_
      refine at_then ?_
      rotate_left
      refine at_againw fun w ho => ⟨(xs.set (0 + j) (.int .u8 99), j + 1), by show j + 1 ≤ ys.length; omega, by show ys.length - (j + 1) < ys.length - j; omega, ⟨rfl, rfl, rfl, rfl, rfl, rfl, rfl, trivial⟩, rfl, ho⟩
    · obtain rfl : j = ys.length := by omega
      refine at_seq ?_
      refine at_seq ?_
      refine at_region ?_
      refine at_do (does_move rfl) rfl rfl ?_
      refine at_do (does_move rfl) rfl rfl ?_
      refine at_do (does_rowlen (i := 2) (by kernel_rfl) rfl rfl) rfl rfl ?_
      refine at_do (does_lss rfl rfl) rfl rfl ?_
      refine at_nil ?_
      refine at_then ?_
      refine at_cond_f rfl (decide_eq_false (by omega)) ?_
      refine at_exit ?_
      refine at_then_exit ?_
      refine at_then_exit ?_
      refine at_inb_here ?_
      refine at_then ?_
      refine at_seq ?_
      refine at_draw (by kernel_rfl) (by kernel_rfl) ?_
      refine atq_do (does_move rfl) rfl rfl ?_
      refine atq_callv (f := 14) (enters_fn (by kernel_rfl) rfl) (fun w ho => hq_Tag (rv := rv2) (l := L ++ ys) (R := [.row v8 5 1 ys.length xs, .row v7 5 1 (L ++ ys).length (byV (L ++ ys)), .blk gz0 24 #[.int .u64 p, .int .u64 q]]) ho hp hq hLy) rfl rfl ?_
      refine atq_do (does_loadagg (i := 4) (k := 2) (by kernel_rfl) rfl rfl rfl) rfl rfl ?_
      refine atq_do (does_move rfl) rfl rfl ?_
      refine atq_callv (f := 8) (enters_fn (by kernel_rfl) rfl) (fun w ho => ref_Tag p q v7 (L ++ ys) w hp hq (bytes_of_row (ho.rowAt (i := 3) rfl)) hLy3) rfl rfl ?_
      refine atq_do (does_neq rfl rfl) rfl rfl ?_
      refine atq_do (does_move rfl) rfl rfl ?_
      refine atq_know (t := 52) (d := false) rfl (decide_eq_false (by exact fun h => h rfl)) ?_
      refine atq_on rfl rfl ?_
      refine atq_do (does_move rfl) rfl rfl ?_
      refine atq_on rfl rfl ?_
      refine atq_callv (f := 15) (enters_fn (by kernel_rfl) rfl) (fun w ho => hq_Count (rv := rv2) (l := L ++ ys) (R := [.row v8 5 1 ys.length xs, .row v7 5 1 (L ++ ys).length (byV (L ++ ys)), .blk gz0 24 #[.int .u64 p, .int .u64 q]]) ho) rfl rfl ?_
      refine atq_on rfl rfl ?_
      refine atq_do (does_move rfl) rfl rfl ?_
      refine atq_on rfl rfl ?_
      refine atq_do (does_rowlen (i := 3) (by kernel_rfl) rfl rfl) rfl rfl ?_
      refine atq_on rfl rfl ?_
      refine atq_do (does_neq rfl rfl) rfl rfl ?_
      refine atq_do (does_pick_false rfl rfl) rfl rfl ?_
      refine atq_nil ?_
      refine at_then ?_
      refine at_cond_f rfl (decide_eq_false (by exact fun h => h rfl)) ?_
      refine at_skip ?_
      refine at_inb ?_
      refine at_then ?_
      refine at_region ?_
      refine at_do (does_move rfl) rfl rfl ?_
      refine at_do (does_addi rfl rfl (by (first | omega | (simp only; omega)))) rfl rfl ?_
      refine at_do (does_assign rfl) rfl rfl ?_
      refine at_nil ?_
      refine at_then ?_
      rotate_left
      refine at_againw fun w ho => ⟨(rv2, v7, L ++ ys, i + 1), ⟨by show (L ++ ys).length ≤ 600 * (i + 1); simp; omega, by show i + 1 ≤ 30; omega⟩, by show 30 - (i + 1) < 30 - i; omega, ⟨rfl, rfl, rfl, rfl, rfl, trivial⟩, rfl, ?_⟩
      exact ho.sublist (List.Sublist.append (List.Sublist.refl _) (List.sublist_cons_self ..))
  · have hfin : ∀ w, Calls Try.prog 11 #[] w fun e w' => e = .returned (.bool true) ∧ Below w.heap.size w w' := law_awake
    by_cases hi2 : i < m
    · have hi3 : ¬ i < 30 := fun h => hi ⟨hi2, h⟩
      refine at_seq ?_
      refine at_seq ?_
      refine at_region ?_
      refine at_do (does_move rfl) rfl rfl ?_
      refine at_do (does_move rfl) rfl rfl ?_
      refine at_do (does_len (by kernel_rfl) rfl) rfl rfl ?_
      refine at_do (does_lss rfl rfl) rfl rfl ?_
      refine at_do (does_move rfl) rfl rfl ?_
      refine at_know (t := 18) (d := true) rfl (decide_eq_true (by (simp only; omega))) ?_
      refine at_on rfl rfl ?_
      refine at_do (does_move rfl) rfl rfl ?_
      refine at_on rfl rfl ?_
      refine at_do (does_lss rfl rfl) rfl rfl ?_
      refine at_do (does_pick_true rfl rfl) rfl rfl ?_
      refine at_nil ?_
      refine at_then ?_
      refine at_cond_f rfl (decide_eq_false (by (simp only; omega))) ?_
      refine at_exit ?_
      refine at_then_exit ?_
      refine at_then_exit ?_
      refine at_inb_here ?_
      refine at_then ?_
      refine at_seq ?_
      refine at_draw (by kernel_rfl) (by kernel_rfl) ?_
      refine atq_do (does_move rfl) rfl rfl ?_
      refine atq_callv (f := 14) (enters_fn (by kernel_rfl) rfl) (fun w ho => hq_Tag (rv := rv) (l := L) (R := [.row v6 5 1 L.length (byV L), .blk gz0 24 #[.int .u64 p, .int .u64 q]]) ho hp hq hL2) rfl rfl ?_
      refine atq_do (does_loadagg (i := 3) (k := 2) (by kernel_rfl) rfl rfl rfl) rfl rfl ?_
      refine atq_do (does_move rfl) rfl rfl ?_
      refine atq_callv (f := 8) (enters_fn (by kernel_rfl) rfl) (fun w ho => ref_Tag p q v6 L w hp hq (bytes_of_row (ho.rowAt (i := 2) rfl)) hL3) rfl rfl ?_
      refine atq_do (does_eql rfl rfl) rfl rfl ?_
      refine atq_do (does_move rfl) rfl rfl ?_
      refine atq_know (t := 65) (d := true) rfl (decide_eq_true (by omega)) ?_
      refine atq_on rfl rfl ?_
      refine atq_callv (f := 11) (enters_fn (by kernel_rfl) rfl) (fun w ho => hfin w) rfl rfl ?_
      refine atq_do (does_pick_true rfl rfl) rfl rfl ?_
      refine atq_do (does_assign rfl) rfl rfl ?_
      refine atq_nil ?_
      refine at_then ?_
      refine at_ret ?_
      refine at_ret1 rfl rfl rfl (fun w9 ho9 => ?_)
      rotate_left
      exact ⟨rfl, ho9.plain⟩
    · refine at_seq ?_
      refine at_seq ?_
      refine at_region ?_
      refine at_do (does_move rfl) rfl rfl ?_
      refine at_do (does_move rfl) rfl rfl ?_
      refine at_do (does_len (by kernel_rfl) rfl) rfl rfl ?_
      refine at_do (does_lss rfl rfl) rfl rfl ?_
      refine at_do (does_move rfl) rfl rfl ?_
      refine at_know (t := 18) (d := false) rfl (decide_eq_false (by (simp only; omega))) ?_
      refine at_no rfl rfl rfl rfl ?_
      refine at_no rfl rfl rfl rfl ?_
      refine at_do (does_pick_false rfl rfl) rfl rfl ?_
      refine at_nil ?_
      refine at_then ?_
      refine at_cond_false rfl ?_
      refine at_exit ?_
      refine at_then_exit ?_
      refine at_then_exit ?_
      refine at_inb_here ?_
      refine at_then ?_
      refine at_seq ?_
      refine at_draw (by kernel_rfl) (by kernel_rfl) ?_
      refine atq_do (does_move rfl) rfl rfl ?_
      refine atq_callv (f := 14) (enters_fn (by kernel_rfl) rfl) (fun w ho => hq_Tag (rv := rv) (l := L) (R := [.row v6 5 1 L.length (byV L), .blk gz0 24 #[.int .u64 p, .int .u64 q]]) ho hp hq hL2) rfl rfl ?_
      refine atq_do (does_loadagg (i := 3) (k := 2) (by kernel_rfl) rfl rfl rfl) rfl rfl ?_
      refine atq_do (does_move rfl) rfl rfl ?_
      refine atq_callv (f := 8) (enters_fn (by kernel_rfl) rfl) (fun w ho => ref_Tag p q v6 L w hp hq (bytes_of_row (ho.rowAt (i := 2) rfl)) hL3) rfl rfl ?_
      refine atq_do (does_eql rfl rfl) rfl rfl ?_
      refine atq_do (does_move rfl) rfl rfl ?_
      refine atq_know (t := 65) (d := true) rfl (decide_eq_true (by omega)) ?_
      refine atq_on rfl rfl ?_
      refine atq_callv (f := 11) (enters_fn (by kernel_rfl) rfl) (fun w ho => hfin w) rfl rfl ?_
      refine atq_do (does_pick_true rfl rfl) rfl rfl ?_
      refine atq_do (does_assign rfl) rfl rfl ?_
      refine atq_nil ?_
      refine at_then ?_
      refine at_ret ?_
      refine at_ret1 rfl rfl rfl (fun w9 ho9 => ?_)
      rotate_left
      exact ⟨rfl, ho9.plain⟩
end Go.Proofs.Ythclmpbgehkgeaa.K
