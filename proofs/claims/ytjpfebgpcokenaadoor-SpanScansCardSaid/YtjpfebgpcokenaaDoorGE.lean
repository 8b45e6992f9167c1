/-
  Blocks that a drawn region makes. No condition of its own.
  The reference's sum of a list. No condition of its own.
  The reference's list with an item. No condition of its own.
  Items compared. No condition of its own.
  Lists of items compared; the first so many; the other way round. No condition of its own.
  The first so many of a list; the other way round. No condition of its own.
-/
import Derived.Test.YtjpfebgpcokenaaDoorGD
import Derived.Test.YtjpfebgpcokenaaDoorRel2
set_option linter.unusedSimpArgs false
set_option linter.unusedVariables false
namespace Go.Proofs.YtjpfebgpcokenaaDoor
open Go.RowKit
section
variable {P : Program} {r : Option Nat} {n : Nat} {E : List (Nat × Value)} {C : Ctx} {H : List Res} {K : Act → World → Prop} {t ty : TypeId} {pos : String} {after : Array Edge} {g : Option (Nat × Bool)}
/-- A block that came up behind world b. -/
def PtrN (b e : Nat) (cs : Array Value) (v : Value) (w : World) : Prop := ∃ h, b ≤ h ∧ v = .pointer (some ⟨h, 0, none⟩) ∧ w.heap[h]? = some (.cells cs e)
theorem ptrN_stab (b e : Nat) (cs : Array Value) : (Spec.rel (PtrN b e cs)).stab := fun v w w' ⟨h, h0, h1, h2⟩ hb =>
  ⟨h, h0, h1, (hb.block h (Array.getElem?_eq_some_iff.1 h2).1).trans h2⟩
theorem step1_allocN {X : World → Prop} {d : Option Tmp} {cs : Array Value} {b : Nat} (hz : ∀ w, (zeroValue t).run P w = .ok (.agg cs) w) (hb : b = C.w.heap.size) : Step1 P n E C H X ⟨d, .alloc t, ty, pos, after, g⟩ (.rel (PtrN b t cs)) :=
  step1_run fun a w hf ho _ => by
    refine ⟨_, w.alloc (.cells cs t), ?_, (Below.refl _ _).alloc (Nat.le_refl _) _, ⟨w.heap.size, by rw [hb]; exact ho.base.size, rfl, heap_alloc_new w _⟩⟩
    have e : (Instr.alloc t true (.tuple #[])).run P w = .ok (.pointer (some ⟨w.heap.size, 0, none⟩)) (w.alloc (.cells cs t)) := by
      simp only [Instr.alloc, Sem.run_bind, hz, Result.andThen]
      rfl
    simp only [execOp, Sem.run_bind, e, Result.andThen]
    rfl
theorem at_adopt {w3 : World} {h e : Nat} {cs : Array Value} (hw : Own C H w3) (hy : ∀ k ∈ bls H, k < C.w.heap.size) (hW : C.W.heap.size ≤ C.w.heap.size) (hh : C.w.heap.size ≤ h) (hc : w3.heap[h]? = some (.cells cs e)) (k : At n E C (.blk h e cs :: H) K) : At n E (C.re w3 H) H K :=
  at_own (C' := C) (H' := .blk h e cs :: H) rfl (fun w ho => by
    have hn : h ∉ bls H := fun hm => by have := hy h hm; omega
    refine ⟨ho.orig, hw.base.trans ho.base fun k hk hF => ((hw.mine k hF).2).elim (fun h => absurd h (by omega)) (fun h => h), fun q hq => ?_, ?_, fun k hk => ?_, ho.sub, ho.mark⟩
    · rcases List.mem_cons.1 hq with rfl | hq
      · exact (ho.base.old h (Array.getElem?_eq_some_iff.1 hc).1 hn).trans hc
      · exact ho.ok q hq
    · simp only [bls, List.flatMap_cons, Res.blocks, List.cons_append, List.nil_append, List.nodup_cons]
      exact ⟨hn, ho.nodup⟩
    · simp only [bls, List.flatMap_cons, Res.blocks, List.cons_append, List.nil_append, List.mem_cons] at hk
      rcases hk with rfl | hk
      · exact ⟨.inl (by omega), .inl hh⟩
      · exact ⟨(ho.mine k hk).1, (hw.mine k hk).2⟩) k
end
end Go.Proofs.YtjpfebgpcokenaaDoor
set_option linter.unusedSimpArgs false
set_option linter.unusedVariables false
namespace Go.Proofs.YtjpfebgpcokenaaDoor
open Go.RowKit
attribute [local irreducible] cwp lwp Exit.then Exit.inBlock Exit.noGoto wpQuiet Calls fin At AtQ Again endQ RQ
theorem ItmAt.val {w : World} {gb o : Nat} {x : Itm} (h : ItmAt w gb o x) : ∀ j u, (valC x.kind x.num x.txt).toList[j]? = some u → w.cell? ((⟨gb, o + 1, none⟩ : Addr).add j) = some u := fun j u hu => by
  rw [add_none, Nat.add_assoc]
  refine h (1 + j) u ?_
  rw [Nat.add_comm]
  match j, hu with
  | 0, hu => exact hu
  | 1, hu => exact hu
  | 2, hu => exact hu
  | j + 3, hu => simp [valC] at hu
set_option maxHeartbeats 8000000 in
theorem ref_Sum (v : Value) (xs : List Itm) (w : World) (hV : ItemsAt w v xs) (hlen : xs.length ≤ 100000) (hI64 : ∀ x ∈ xs, I64 x.num) :
    Calls Tryd.prog 12 #[v] w fun e w' => e = .returned (.tuple #[.int .i64 (sumR xs).1, .int .i64 (sumR xs).2]) ∧ Below w.heap.size w w' := by
  obtain ⟨A, c0, hv0⟩ := hV.len
  refine calls_plain Tryd.func12 rfl Tryd.ntmps12 rfl ?_
  refine at_seq ?_
  refine at_region ?_
  refine at_do (does_assign rfl) rfl rfl ?_
  refine at_do (does_assign rfl) rfl rfl ?_
  refine at_nil ?_
  refine at_then ?_
  refine at_seq ?_
  refine at_seq ?_
  refine at_region ?_
  refine at_do (does_assign rfl) rfl rfl ?_
  refine at_nil ?_
  refine at_then ?_
  refine at_block ?_
  rotate_left
  refine at_loop0 (fun j : Nat => j ≤ xs.length ∧ (xs.take j).all (fun x => decide (x.kind = 2)) = true) (fun j => [(0, v), (4, .int .i64 j)]) (fun j => xs.length - j) 0 ⟨Nat.zero_le _, rfl⟩ ⟨rfl, rfl, trivial⟩ ?_
  rintro j ⟨hj, hI⟩
  by_cases hjl : j < xs.length
  · obtain ⟨gb, o, c, rfl, hc, hlt, hce⟩ := hV.form (by omega)
    have hx := hce j hjl
    by_cases hk : xs[j].kind = 2
    · refine at_seq ?_
      refine at_seq ?_
      refine at_region ?_
      refine at_do (does_move rfl) rfl rfl ?_
      refine at_do (does_move rfl) rfl rfl ?_
      refine at_do (does_len (by kernel_rfl) rfl) rfl rfl ?_
      refine at_do (does_lss rfl rfl) rfl rfl ?_
      refine at_nil ?_
      refine at_then ?_
      refine at_cond_t rfl (decide_eq_true (by omega)) ?_
      refine at_skip ?_
      refine at_then ?_
      refine at_seq ?_
      refine at_block ?_
      refine at_seq ?_
      refine at_region ?_
      refine at_do (does_move rfl) rfl rfl ?_
      refine at_do (does_move rfl) rfl rfl ?_
      refine at_do (does_indexAddrk (k := 5) (j := j) (by kernel_rfl) rfl rfl hjl) rfl rfl ?_
      refine at_do (does_fieldAddr (o := 1) (by kernel_rfl) rfl) rfl rfl ?_
      refine at_do (does_fieldAddr (o := 0) (by kernel_rfl) rfl) rfl rfl ?_
      refine at_do (does_load_mem (by kernel_rfl) rfl (fun w' ho => (hx.keep ho.plain) 1 (.int .i64 xs[j].kind) rfl)) rfl rfl ?_
      refine at_do (does_neq rfl rfl) rfl rfl ?_
      refine at_nil ?_
      refine at_then ?_
      refine at_cond_f rfl (decide_eq_false (by omega)) ?_
      refine at_skip ?_
      refine at_inb ?_
      refine at_then ?_
      refine at_region ?_
      refine at_do (does_move rfl) rfl rfl ?_
      refine at_do (does_addi rfl rfl (by omega)) rfl rfl ?_
      refine at_do (does_assign rfl) rfl rfl ?_
      refine at_nil ?_
      refine at_then ?_
      rotate_left
      refine at_again0 (j + 1) ⟨by omega, all_take' hjl hI (by simp [hk])⟩ (by omega) ⟨rfl, rfl, trivial⟩
    · have hR : sumR xs = (0, 10) := by
        rw [sumR, if_neg (by rw [all_false hjl (by simp [hk])]; simp)]
      rw [hR]
      refine at_seq ?_
      refine at_seq ?_
      refine at_region ?_
      refine at_do (does_move rfl) rfl rfl ?_
      refine at_do (does_move rfl) rfl rfl ?_
      refine at_do (does_len (by kernel_rfl) rfl) rfl rfl ?_
      refine at_do (does_lss rfl rfl) rfl rfl ?_
      refine at_nil ?_
      refine at_then ?_
      refine at_cond_t rfl (decide_eq_true (by omega)) ?_
      refine at_skip ?_
      refine at_then ?_
      refine at_seq ?_
      refine at_block ?_
      refine at_seq ?_
      refine at_region ?_
      refine at_do (does_move rfl) rfl rfl ?_
      refine at_do (does_move rfl) rfl rfl ?_
      refine at_do (does_indexAddrk (k := 5) (j := j) (by kernel_rfl) rfl rfl hjl) rfl rfl ?_
      refine at_do (does_fieldAddr (o := 1) (by kernel_rfl) rfl) rfl rfl ?_
      refine at_do (does_fieldAddr (o := 0) (by kernel_rfl) rfl) rfl rfl ?_
      refine at_do (does_load_mem (by kernel_rfl) rfl (fun w' ho => (hx.keep ho.plain) 1 (.int .i64 xs[j].kind) rfl)) rfl rfl ?_
      refine at_do (does_neq rfl rfl) rfl rfl ?_
      refine at_nil ?_
      refine at_then ?_
      refine at_cond_t rfl (decide_eq_true (by omega)) ?_
      refine at_seq ?_
      refine at_region ?_
      refine at_do (does_assign rfl) rfl rfl ?_
      refine at_do (does_assign rfl) rfl rfl ?_
      refine at_nil ?_
      refine at_then ?_
      refine at_ret ?_
      refine at_inb_ret ?_
      refine at_then_ret ?_
      refine at_then_ret ?_
      refine at_inb_ret ?_
      refine at_then_ret ?_
      refine at_ret2 rfl rfl rfl rfl (fun w9 ho9 => ?_)
      rotate_left
      exact ⟨rfl, ho9.plain⟩
  · obtain rfl : j = xs.length := by omega
    rw [List.take_length] at hI
    have hR : sumR xs = sumL 0 xs := by rw [sumR, if_pos hI]
    rw [hR]
    refine at_seq ?_
    refine at_seq ?_
    refine at_region ?_
    refine at_do (does_move rfl) rfl rfl ?_
    refine at_do (does_move rfl) rfl rfl ?_
    refine at_do (does_len (A := A) (q := xs.length) (c := c0) (by kernel_rfl) (by rw [← hv0]; rfl)) rfl rfl ?_
    refine at_do (does_lss rfl rfl) rfl rfl ?_
    refine at_nil ?_
    refine at_then ?_
    refine at_cond_f rfl (decide_eq_false (by omega)) ?_
    refine at_exit ?_
    refine at_then_exit ?_
    refine at_then_exit ?_
    refine at_inb_here ?_
    refine at_then ?_
    refine at_seq ?_
    refine at_region ?_
    refine at_callv (f := 34) (enters_fn (by kernel_rfl) rfl) (fun w ho => ref_Int 0 w) rfl rfl ?_
    refine at_allocagg Tryd.zeroValue41 rfl fun gz0 => ?_
    refine at_storeagg (i := 0) (by kernel_rfl) rfl rfl rfl rfl rfl ?_
    refine at_nil ?_
    refine at_then ?_
    refine at_seq ?_
    refine at_seq ?_
    refine at_region ?_
    refine at_do (does_assign rfl) rfl rfl ?_
    refine at_nil ?_
    refine at_then ?_
    refine at_block ?_
    rotate_left
    refine at_loop (σ := World × Int × Nat) (fun s => s.2.2 ≤ xs.length ∧ I64 s.2.1 ∧ sumL s.2.1 (xs.drop s.2.2) = sumL 0 xs ∧ w.heap.size ≤ s.1.heap.size ∧ gz0 < s.1.heap.size) (fun s => [(0, v), (5, .pointer (some ⟨gz0, 0, none⟩)), (6, .int .i64 s.2.2)]) (fun s => ⟨w, fun _ => False, fun _ => False, s.1, fun k => k ∈ bls [Res.blk gz0 41 (valC 2 s.2.1 [])], []⟩) (fun s => [.blk gz0 41 (valC 2 s.2.1 [])]) (fun s => xs.length - s.2.2)
      (fun w1 ho => ⟨(w1, 0, 0), ⟨Nat.zero_le _, (by decide : I64 0), rfl, ho.orig.size, ho.lt gz0 (by simp [bls, Res.blocks])⟩, ⟨rfl, rfl, rfl, trivial⟩, rfl, ho.re⟩) ?_
    rintro ⟨W1, n, i⟩ ⟨hi, hn, hs, hW1, hgz⟩
    simp only at hi hn hs hW1 hgz
    by_cases hil : i < xs.length
    · obtain ⟨gb, o, c, rfl, hc, hlt, hce⟩ := hV.form (by omega)
      have hx := hce i hil
      have hnum := hI64 xs[i] (List.getElem_mem hil)
      have cA : ∀ {w'}, Calls Tryd.prog 35 #[.int .i64 0, .agg (valC 2 n []), .agg (valC xs[i].kind xs[i].num xs[i].txt)] w' fun e w3 => e = .returned (.tuple #[.agg (valC (addK n xs[i].kind xs[i].num xs[i].txt) (addN n xs[i].kind xs[i].num xs[i].txt) []), .int .i64 (addE n xs[i].kind xs[i].num xs[i].txt)]) ∧ Below w'.heap.size w' w3 := fun {w'} => ref_Two n _ _ _ w' hn hnum
      rw [List.drop_eq_getElem_cons hil, sumL] at hs
      refine at_seq ?_
      refine at_seq ?_
      refine at_region ?_
      refine at_do (does_move rfl) rfl rfl ?_
      refine at_do (does_move rfl) rfl rfl ?_
      refine at_do (does_len (by kernel_rfl) rfl) rfl rfl ?_
      refine at_do (does_lss rfl rfl) rfl rfl ?_
      refine at_nil ?_
      refine at_then ?_
      refine at_cond_t rfl (decide_eq_true (by (simp only; omega))) ?_
      refine at_skip ?_
      refine at_then ?_
      refine at_seq ?_
      refine at_block ?_
      refine at_seq ?_
      rotate_left
      apply at_drawF 11 9 [.val (.agg (valC 2 n [])), .val (.slice (some ⟨gb, o, none⟩) xs.length c), .val (.int .i64 i), .val (.pointer (some ⟨gb, o + i * 5, none⟩)), .val (.pointer (some ⟨gb, o + i * 5 + 1, none⟩)), .val (.agg (valC xs[i].kind xs[i].num xs[i].txt)), .val (.tuple #[.agg (valC (addK n xs[i].kind xs[i].num xs[i].txt) (addN n xs[i].kind xs[i].num xs[i].txt) []), .int .i64 (addE n xs[i].kind xs[i].num xs[i].txt)]), .val (.tuple #[.agg (valC (addK n xs[i].kind xs[i].num xs[i].txt) (addN n xs[i].kind xs[i].num xs[i].txt) []), .int .i64 (addE n xs[i].kind xs[i].num xs[i].txt)]), .val (.agg (valC (addK n xs[i].kind xs[i].num xs[i].txt) (addN n xs[i].kind xs[i].num xs[i].txt) [])), .val (.int .i64 (addE n xs[i].kind xs[i].num xs[i].txt)), .rel (PtrN W1.heap.size 41 (valC 0 0 []))] (by kernel_rfl) (by kernel_rfl) rfl rfl rfl rfl rfl ⟨trivial, trivial, trivial, trivial, trivial, trivial, trivial, trivial, trivial, trivial, ptrN_stab _ _ _, trivial⟩
      · refine so_cons rfl (fun vs => ?_) ?_
        exact step1_does (does_loadagg (i := 0) (k := 3) (by kernel_rfl) rfl rfl rfl)
        refine so_cons rfl (fun vs => ?_) ?_
        exact step1_does (does_move rfl)
        refine so_cons rfl (fun vs => ?_) ?_
        exact step1_does (does_move rfl)
        refine so_cons rfl (fun vs => ?_) ?_
        exact step1_does (does_indexAddrk (k := 5) (j := i) (by kernel_rfl) rfl rfl hil)
        refine so_cons rfl (fun vs => ?_) ?_
        exact step1_does (does_fieldAddr (o := 1) (by kernel_rfl) rfl)
        refine so_cons rfl (fun vs => ?_) ?_
        exact step1_does (does_loadagg_mem (vs := (valC xs[i].kind xs[i].num xs[i].txt).toList) (by kernel_rfl) rfl (fun w' ho => (hx.keep ho.plain).val))
        refine so_cons rfl (fun vs => ?_) ?_
        exact step1_call (f := 35) (enters_fn (by kernel_rfl) rfl) (fun w ho hx => cA)
        refine so_cons rfl (fun vs => ?_) ?_
        exact step1_does (does_move rfl)
        refine so_cons rfl (fun vs => ?_) ?_
        exact step1_does (does_extract rfl rfl)
        refine so_cons rfl (fun vs => ?_) ?_
        exact step1_does (does_extract rfl rfl)
        refine so_cons rfl (fun vs => ?_) ?_
        exact step1_allocN Tryd.zeroValue41 rfl
        exact so_nil
      · intro vs w3 hw3 hp
        obtain ⟨⟨hb, hb0, hb1, hb2⟩, _⟩ := hp
        refine at_weak (E' := [(0, .slice (some ⟨gb, o, none⟩) xs.length c), (5, .pointer (some ⟨gz0, 0, none⟩)), (6, .int .i64 i), (37, .agg (valC (addK n xs[i].kind xs[i].num xs[i].txt) (addN n xs[i].kind xs[i].num xs[i].txt) [])), (38, .int .i64 (addE n xs[i].kind xs[i].num xs[i].txt)), (7, .pointer (some ⟨hb, 0, none⟩))]) ⟨rfl, rfl, rfl, rfl, rfl, by rw [← hb1]; rfl, trivial⟩ ?_
        refine at_adopt hw3 (fun k hk => by
          obtain rfl : k = gz0 := by simpa [bls, Res.blocks] using hk
          exact hgz) hW1 hb0 hb2 ?_
        by_cases hE : addE n xs[i].kind xs[i].num xs[i].txt = 0
        · obtain ⟨hK, hN⟩ := addE_kind hE
          rw [if_pos hE] at hs
          rw [hE]
          refine at_storeagg (i := 0) (by kernel_rfl) rfl rfl rfl rfl rfl ?_
          refine at_do (does_assign rfl) rfl rfl ?_
          refine at_nil ?_
          refine at_then ?_
          refine at_seq ?_
          refine at_seq ?_
          refine at_region ?_
          refine at_do (does_move rfl) rfl rfl ?_
          refine at_do (does_neq rfl rfl) rfl rfl ?_
          refine at_nil ?_
          refine at_then ?_
          refine at_cond_f rfl (decide_eq_false (by omega)) ?_
          refine at_skip ?_
          refine at_then ?_
          refine at_region ?_
          refine at_do (does_loadagg (i := 0) (k := 3) (by kernel_rfl) rfl rfl rfl) rfl rfl ?_
          refine at_storeagg (i := 1) (by kernel_rfl) rfl rfl rfl rfl rfl ?_
          refine at_nil ?_
          refine at_inb ?_
          refine at_then ?_
          refine at_region ?_
          refine at_do (does_move rfl) rfl rfl ?_
          refine at_do (does_addi rfl rfl (by (first | omega | (simp only; omega)))) rfl rfl ?_
          refine at_do (does_assign rfl) rfl rfl ?_
          refine at_nil ?_
          refine at_then ?_
          rotate_left
          refine at_againw fun w9 ho9 => ⟨(w9, addN n xs[i].kind xs[i].num xs[i].txt, i + 1), ⟨by show i + 1 ≤ xs.length; omega, hN, hs, ho9.orig.size, ho9.lt gz0 (by simp [bls, Res.blocks])⟩, by show xs.length - (i + 1) < xs.length - i; omega, ⟨rfl, rfl, rfl, trivial⟩, rfl, ?_⟩
          have := (ho9.sublist (List.sublist_cons_self ..)).re
          rw [hK] at this
          exact this
        · rw [if_neg hE] at hs
          rw [← hs]
          refine at_storeagg (i := 0) (by kernel_rfl) rfl rfl rfl rfl rfl ?_
          refine at_do (does_assign rfl) rfl rfl ?_
          refine at_nil ?_
          refine at_then ?_
          refine at_seq ?_
          refine at_seq ?_
          refine at_region ?_
          refine at_do (does_move rfl) rfl rfl ?_
          refine at_do (does_neq rfl rfl) rfl rfl ?_
          refine at_nil ?_
          refine at_then ?_
          refine at_cond_t rfl (decide_eq_true (by omega)) ?_
          refine at_seq ?_
          refine at_region ?_
          refine at_do (does_move rfl) rfl rfl ?_
          refine at_do (does_assign rfl) rfl rfl ?_
          refine at_do (does_assign rfl) rfl rfl ?_
          refine at_nil ?_
          refine at_then ?_
          refine at_ret ?_
          refine at_then_ret ?_
          refine at_inb_ret ?_
          refine at_then_ret ?_
          refine at_then_ret ?_
          refine at_inb_ret ?_
          refine at_then_ret ?_
          refine at_ret2 rfl rfl rfl rfl (fun w9 ho9 => ?_)
          rotate_left
          exact ⟨rfl, ho9.plain⟩
      · intro vs w3 hw3 hp
        obtain ⟨⟨hb, hb0, hb1, hb2⟩, _⟩ := hp
        refine at_weak (E' := [(0, .slice (some ⟨gb, o, none⟩) xs.length c), (5, .pointer (some ⟨gz0, 0, none⟩)), (6, .int .i64 i), (37, .agg (valC (addK n xs[i].kind xs[i].num xs[i].txt) (addN n xs[i].kind xs[i].num xs[i].txt) [])), (29, .tuple #[.agg (valC (addK n xs[i].kind xs[i].num xs[i].txt) (addN n xs[i].kind xs[i].num xs[i].txt) []), .int .i64 (addE n xs[i].kind xs[i].num xs[i].txt)]), (7, .pointer (some ⟨hb, 0, none⟩))]) ⟨rfl, rfl, rfl, rfl, rfl, by rw [← hb1]; rfl, trivial⟩ ?_
        refine at_adopt hw3 (fun k hk => by
          obtain rfl : k = gz0 := by simpa [bls, Res.blocks] using hk
          exact hgz) hW1 hb0 hb2 ?_
        by_cases hE : addE n xs[i].kind xs[i].num xs[i].txt = 0
        · obtain ⟨hK, hN⟩ := addE_kind hE
          rw [if_pos hE] at hs
          rw [hE]
          refine at_storeagg (i := 0) (by kernel_rfl) rfl rfl rfl rfl rfl ?_
          refine at_do (does_extract rfl rfl) rfl rfl ?_
          refine at_do (does_assign rfl) rfl rfl ?_
          refine at_nil ?_
          refine at_then ?_
          refine at_seq ?_
          refine at_seq ?_
          refine at_region ?_
          refine at_do (does_move rfl) rfl rfl ?_
          refine at_do (does_neq rfl rfl) rfl rfl ?_
          refine at_nil ?_
          refine at_then ?_
          refine at_cond_f rfl (decide_eq_false (by omega)) ?_
          refine at_skip ?_
          refine at_then ?_
          refine at_region ?_
          refine at_do (does_loadagg (i := 0) (k := 3) (by kernel_rfl) rfl rfl rfl) rfl rfl ?_
          refine at_storeagg (i := 1) (by kernel_rfl) rfl rfl rfl rfl rfl ?_
          refine at_nil ?_
          refine at_inb ?_
          refine at_then ?_
          refine at_region ?_
          refine at_do (does_move rfl) rfl rfl ?_
          refine at_do (does_addi rfl rfl (by (first | omega | (simp only; omega)))) rfl rfl ?_
          refine at_do (does_assign rfl) rfl rfl ?_
          refine at_nil ?_
          refine at_then ?_
          rotate_left
          refine at_againw fun w9 ho9 => ⟨(w9, addN n xs[i].kind xs[i].num xs[i].txt, i + 1), ⟨by show i + 1 ≤ xs.length; omega, hN, hs, ho9.orig.size, ho9.lt gz0 (by simp [bls, Res.blocks])⟩, by show xs.length - (i + 1) < xs.length - i; omega, ⟨rfl, rfl, rfl, trivial⟩, rfl, ?_⟩
          have := (ho9.sublist (List.sublist_cons_self ..)).re
          rw [hK] at this
          exact this
        · rw [if_neg hE] at hs
          rw [← hs]
          refine at_storeagg (i := 0) (by kernel_rfl) rfl rfl rfl rfl rfl ?_
          refine at_do (does_extract rfl rfl) rfl rfl ?_
          refine at_do (does_assign rfl) rfl rfl ?_
          refine at_nil ?_
          refine at_then ?_
          refine at_seq ?_
          refine at_seq ?_
          refine at_region ?_
          refine at_do (does_move rfl) rfl rfl ?_
          refine at_do (does_neq rfl rfl) rfl rfl ?_
          refine at_nil ?_
          refine at_then ?_
          refine at_cond_t rfl (decide_eq_true (by omega)) ?_
          refine at_seq ?_
          refine at_region ?_
          refine at_do (does_move rfl) rfl rfl ?_
          refine at_do (does_assign rfl) rfl rfl ?_
          refine at_do (does_assign rfl) rfl rfl ?_
          refine at_nil ?_
          refine at_then ?_
          refine at_ret ?_
          refine at_then_ret ?_
          refine at_inb_ret ?_
          refine at_then_ret ?_
          refine at_then_ret ?_
          refine at_inb_ret ?_
          refine at_then_ret ?_
          refine at_ret2 rfl rfl rfl rfl (fun w9 ho9 => ?_)
          rotate_left
          exact ⟨rfl, ho9.plain⟩
    · obtain rfl : i = xs.length := by omega
      rw [List.drop_length, sumL] at hs
      rw [← hs]
      refine at_seq ?_
      refine at_seq ?_
      refine at_region ?_
      refine at_do (does_move rfl) rfl rfl ?_
      refine at_do (does_move rfl) rfl rfl ?_
      refine at_do (does_len (A := A) (q := xs.length) (c := c0) (by kernel_rfl) (by rw [← hv0]; rfl)) rfl rfl ?_
      refine at_do (does_lss rfl rfl) rfl rfl ?_
      refine at_nil ?_
      refine at_then ?_
      refine at_cond_f rfl (decide_eq_false (by (simp only; omega))) ?_
      refine at_exit ?_
      refine at_then_exit ?_
      refine at_then_exit ?_
      refine at_inb_here ?_
      refine at_then ?_
      refine at_seq ?_
      refine at_region ?_
      refine at_do (does_fieldAddr (o := 1) (by kernel_rfl) rfl) rfl rfl ?_
      refine at_do (does_load (i := 0) (by kernel_rfl) rfl rfl rfl) rfl rfl ?_
      refine at_do (does_assign rfl) rfl rfl ?_
      refine at_do (does_assign rfl) rfl rfl ?_
      refine at_nil ?_
      refine at_then ?_
      refine at_ret ?_
      refine at_ret2 rfl rfl rfl rfl (fun w9 ho9 => ?_)
      rotate_left
      exact ⟨rfl, ho9.plain⟩
end Go.Proofs.YtjpfebgpcokenaaDoor
set_option linter.unusedSimpArgs false
set_option linter.unusedVariables false
namespace Go.Proofs.YtjpfebgpcokenaaDoor
open Go.RowKit
attribute [local irreducible] cwp lwp Exit.then Exit.inBlock Exit.noGoto wpQuiet Calls fin At AtQ Again endQ RQ
theorem filt_take {p : Itm → Bool} {xs : List Itm} {i : Nat} (h : i < xs.length) : (xs.take (i + 1)).filter p = (xs.take i).filter p ++ (if p xs[i] then [xs[i]] else []) := by
  rw [List.take_succ_eq_append_getElem h, List.filter_append]
  simp [List.filter_cons]
theorem filt_len {p : Itm → Bool} {xs : List Itm} (i : Nat) : ((xs.take i).filter p).length ≤ i := Nat.le_trans (List.length_filter_le _ _) (by simp; omega)
set_option maxHeartbeats 8000000 in
theorem ref_With (v : Value) (xs : List Itm) (x : Itm) (w : World) (hV : ItemsAt w v xs) (hlen : xs.length ≤ 100000) (hk : ∀ y ∈ xs, y.key.length ≤ 1000) (hkx : x.key.length ≤ 1000) :
    Calls Tryd.prog 45 #[v, itmA x] w fun e w' => ∃ u, e = .returned u ∧ Below w.heap.size w w' ∧ w'.ownsRow w.heap.size IT 5 u (withI xs x).length (itms (withI xs x)) := by
  obtain ⟨A, c0, hv0⟩ := hV.len
  refine calls_plain Tryd.func45 rfl Tryd.ntmps45 rfl ?_
  refine at_seq ?_
  refine at_region ?_
  refine at_boxagg rfl rfl fun gz0 => ?_
  refine at_do (does_assign rfl) rfl rfl ?_
  refine at_nil ?_
  refine at_then ?_
  refine at_seq ?_
  refine at_region ?_
  refine at_do (does_assign rfl) rfl rfl ?_
  refine at_nil ?_
  refine at_then ?_
  refine at_seq ?_
  refine at_seq ?_
  refine at_region ?_
  refine at_do (does_assign rfl) rfl rfl ?_
  refine at_nil ?_
  refine at_then ?_
  refine at_block ?_
  rotate_left
  refine at_loopH (σ := Value × Nat) (fun s => s.2 ≤ xs.length) (fun s => [(0, v), (3, .pointer (some ⟨gz0, 0, none⟩)), (5, s.1), (6, .int .i64 s.2)]) (fun s => [.row s.1 IT 5 ((xs.take s.2).filter (fun a => lessI a x)).length (itms ((xs.take s.2).filter (fun a => lessI a x))), .blk gz0 IT (itmV x).toArray]) (fun s => xs.length - s.2)
    (fun w ho => ⟨(.slice none 0 0, 0), Nat.zero_le _, ⟨rfl, rfl, rfl, rfl, trivial⟩, ho.nilrow IT 5⟩) ?_
  rintro ⟨u, i⟩ hi
  simp only at hi
  by_cases hil : i < xs.length
  · obtain ⟨gb, o, c, rfl, hc, hlt, hce⟩ := hV.form (by omega)
    have hx := hce i hil
    have hkl := hk xs[i] (List.getElem_mem hil)
    have hft := filt_take (p := fun a => lessI a x) hil
    have hfl := filt_len (p := fun a => lessI a x) (xs := xs) i
    generalize xs[i] = y at hx hkl hft
    cases hf : Op.bytesLess y.key x.key
    · have hft : (xs.take (i + 1)).filter (fun a => lessI a x) = (xs.take i).filter (fun a => lessI a x) := by rw [hft, lessI, hf]; simp
      refine at_seq ?_
      refine at_seq ?_
      refine at_region ?_
      refine at_do (does_move rfl) rfl rfl ?_
      refine at_do (does_move rfl) rfl rfl ?_
      refine at_do (does_len (by kernel_rfl) rfl) rfl rfl ?_
      refine at_do (does_lss rfl rfl) rfl rfl ?_
      refine at_nil ?_
      refine at_then ?_
      refine at_cond_t rfl (decide_eq_true (by omega)) ?_
      refine at_skip ?_
      refine at_then ?_
      refine at_seq ?_
      refine at_block ?_
      refine at_seq ?_
      refine at_draw (by kernel_rfl) (by kernel_rfl) ?_
      refine atq_do (does_move rfl) rfl rfl ?_
      refine atq_do (does_move rfl) rfl rfl ?_
      refine atq_do (does_indexAddrk (k := 5) (j := i) (by kernel_rfl) rfl rfl hil) rfl rfl ?_
      refine atq_do (does_fieldAddr (o := 0) (by kernel_rfl) rfl) rfl rfl ?_
      refine atq_do (does_load_mem (by kernel_rfl) rfl (fun w' ho => (hx.keep ho.plain).key)) rfl rfl ?_
      refine atq_do (does_fieldAddr (o := 0) (by kernel_rfl) rfl) rfl rfl ?_
      refine atq_do (does_load (i := 1) (by kernel_rfl) rfl rfl rfl) rfl rfl ?_
      refine atq_callv (f := 61) (enters_fn (by kernel_rfl) rfl) (fun w ho => ref_Ahead _ _ w (by omega) (by omega)) rfl rfl ?_
      refine atq_nil ?_
      refine at_then ?_
      refine at_cond_f rfl (by omega) ?_
      refine at_skip ?_
      refine at_inb ?_
      refine at_then ?_
      refine at_region ?_
      refine at_do (does_move rfl) rfl rfl ?_
      refine at_do (does_addi rfl rfl (by (first | omega | (simp only; omega)))) rfl rfl ?_
      refine at_do (does_assign rfl) rfl rfl ?_
      refine at_nil ?_
      refine at_then ?_
      rotate_left
      refine at_againw fun w ho => ⟨(u, i + 1), by show i + 1 ≤ xs.length; omega, by show xs.length - (i + 1) < xs.length - i; omega, ⟨rfl, rfl, rfl, rfl, trivial⟩, rfl, ?_⟩
      show Own _ [.row u IT 5 ((xs.take (i + 1)).filter (fun a => lessI a x)).length (itms ((xs.take (i + 1)).filter (fun a => lessI a x))), .blk gz0 IT (itmV x).toArray] w
      rw [hft]
      exact ho
    · have hft : (xs.take (i + 1)).filter (fun a => lessI a x) = (xs.take i).filter (fun a => lessI a x) ++ [y] := by rw [hft, lessI, hf]; simp
      refine at_seq ?_
      refine at_seq ?_
      refine at_region ?_
      refine at_do (does_move rfl) rfl rfl ?_
      refine at_do (does_move rfl) rfl rfl ?_
      refine at_do (does_len (by kernel_rfl) rfl) rfl rfl ?_
      refine at_do (does_lss rfl rfl) rfl rfl ?_
      refine at_nil ?_
      refine at_then ?_
      refine at_cond_t rfl (decide_eq_true (by omega)) ?_
      refine at_skip ?_
      refine at_then ?_
      refine at_seq ?_
      refine at_block ?_
      refine at_seq ?_
      refine at_draw (by kernel_rfl) (by kernel_rfl) ?_
      refine atq_do (does_move rfl) rfl rfl ?_
      refine atq_do (does_move rfl) rfl rfl ?_
      refine atq_do (does_indexAddrk (k := 5) (j := i) (by kernel_rfl) rfl rfl hil) rfl rfl ?_
      refine atq_do (does_fieldAddr (o := 0) (by kernel_rfl) rfl) rfl rfl ?_
      refine atq_do (does_load_mem (by kernel_rfl) rfl (fun w' ho => (hx.keep ho.plain).key)) rfl rfl ?_
      refine atq_do (does_fieldAddr (o := 0) (by kernel_rfl) rfl) rfl rfl ?_
      refine atq_do (does_load (i := 1) (by kernel_rfl) rfl rfl rfl) rfl rfl ?_
      refine atq_callv (f := 61) (enters_fn (by kernel_rfl) rfl) (fun w ho => ref_Ahead _ _ w (by omega) (by omega)) rfl rfl ?_
      refine atq_nil ?_
      refine at_then ?_
      refine at_cond_t rfl (by omega) ?_
      refine at_region ?_
      refine at_do (does_move rfl) rfl rfl ?_
      refine at_do (does_move rfl) rfl rfl ?_
      refine at_do (does_move rfl) rfl rfl ?_
      refine at_do (does_indexAddrk (k := 5) (j := i) (by kernel_rfl) rfl rfl hil) rfl rfl ?_
      refine at_do (does_loadagg_mem (vs := itmV y) (by kernel_rfl) rfl (fun w' ho => (hx.keep ho.plain).agg)) rfl rfl ?_
      refine at_buildSlice (e := IT) (sz := 5) (vs := [itmA y]) (cs := itmV y) (by kernel_rfl) rfl rfl rfl rfl rfl rfl (fun hl => ?_)
      refine at_append (i := 1) (e := IT) (sz := 5) (by' := 56) (m := ((xs.take i).filter (fun a => lessI a x)).length) (k := 1) (news := itmV y) (by kernel_rfl) rfl rfl rfl rfl (fun w ho => lit_cells ho (i := 0) rfl) (itmV_one y) (by simp only [maxLen]; omega) rfl (fun v4 hv4 => ?_)
      refine at_do (does_assign rfl) rfl rfl ?_
      refine at_nil ?_
      refine at_inb ?_
      refine at_then ?_
      refine at_region ?_
      refine at_do (does_move rfl) rfl rfl ?_
      refine at_do (does_addi rfl rfl (by (first | omega | (simp only; omega)))) rfl rfl ?_
      refine at_do (does_assign rfl) rfl rfl ?_
      refine at_nil ?_
      refine at_then ?_
      rotate_left
      refine at_againw fun w ho => ⟨(v4, i + 1), by show i + 1 ≤ xs.length; omega, by show xs.length - (i + 1) < xs.length - i; omega, ⟨rfl, rfl, rfl, rfl, trivial⟩, rfl, ?_⟩
      show Own _ [.row v4 IT 5 ((xs.take (i + 1)).filter (fun a => lessI a x)).length (itms ((xs.take (i + 1)).filter (fun a => lessI a x))), .blk gz0 IT (itmV x).toArray] w
      rw [hft, itms_snoc, List.length_append]
      exact ho.sublist (List.sublist_cons_self ..)
  · obtain rfl : i = xs.length := by omega
    obtain ⟨P1, hP1⟩ : ∃ P, P = xs.filter (fun a => lessI a x) := ⟨_, rfl⟩
    have e0 : (xs.take xs.length).filter (fun a => lessI a x) = P1 := by rw [List.take_length, hP1]
    have hP1l : P1.length ≤ 100000 := by rw [hP1]; exact Nat.le_trans (List.length_filter_le _ _) hlen
    simp only [e0]
    obtain ⟨P0, hP0⟩ : ∃ P, P = P1 ++ [x] := ⟨_, rfl⟩
    have hP0l : P0.length ≤ 100001 := by rw [hP0]; simp; omega
    have hW : withI xs x = P0 ++ xs.filter (fun a => lessI x a) := by rw [hP0, hP1, withI]
    refine at_seq ?_
    refine at_seq ?_
    refine at_region ?_
    refine at_do (does_move rfl) rfl rfl ?_
    refine at_do (does_move rfl) rfl rfl ?_
    refine at_do (does_len (A := A) (q := xs.length) (c := c0) (by kernel_rfl) (by rw [← hv0]; rfl)) rfl rfl ?_
    refine at_do (does_lss rfl rfl) rfl rfl ?_
    refine at_nil ?_
    refine at_then ?_
    refine at_cond_f rfl (decide_eq_false (by omega)) ?_
    refine at_exit ?_
    refine at_then_exit ?_
    refine at_then_exit ?_
    refine at_inb_here ?_
    refine at_then ?_
    refine at_seq ?_
    refine at_region ?_
    refine at_do (does_move rfl) rfl rfl ?_
    refine at_do (does_loadagg (i := 1) (k := 5) (by kernel_rfl) rfl rfl rfl) rfl rfl ?_
    refine at_buildSlice (e := IT) (sz := 5) (vs := [itmA x]) (cs := itmV x) (by kernel_rfl) rfl rfl rfl rfl rfl rfl (fun hl => ?_)
    refine at_append (i := 1) (e := IT) (sz := 5) (by' := 56) (m := P1.length) (k := 1) (news := itmV x) (by kernel_rfl) rfl rfl rfl rfl (fun w ho => lit_cells ho (i := 0) rfl) (itmV_one x) (by simp only [maxLen]; omega) rfl (fun v4 hv4 => ?_)
    refine at_do (does_assign rfl) rfl rfl ?_
    refine at_nil ?_
    refine at_then ?_
    refine at_seq ?_
    refine at_seq ?_
    refine at_region ?_
    refine at_do (does_assign rfl) rfl rfl ?_
    refine at_nil ?_
    refine at_then ?_
    refine at_block ?_
    rotate_left
    refine at_loopH (σ := Value × Nat) (fun s => s.2 ≤ xs.length) (fun s => [(0, v), (3, .pointer (some ⟨gz0, 0, none⟩)), (5, s.1), (7, .int .i64 s.2)]) (fun s => [.row s.1 IT 5 (P0 ++ (xs.take s.2).filter (fun a => lessI x a)).length (itms (P0 ++ (xs.take s.2).filter (fun a => lessI x a))), .blk gz0 IT (itmV x).toArray]) (fun s => xs.length - s.2)
      (fun w ho => ⟨(v4, 0), Nat.zero_le _, ⟨rfl, rfl, rfl, rfl, trivial⟩, by
        have := ho.sublist (List.sublist_cons_self ..)
        show Own _ [.row v4 IT 5 (P0 ++ (xs.take 0).filter (fun a => lessI x a)).length (itms (P0 ++ (xs.take 0).filter (fun a => lessI x a))), .blk gz0 IT (itmV x).toArray] w
        rw [List.take_zero, List.filter_nil, List.append_nil, hP0, itms_snoc, List.length_append]
        exact this⟩) ?_
    rintro ⟨u, i⟩ hi
    simp only at hi
    by_cases hil : i < xs.length
    · obtain ⟨gb, o, c, rfl, hc, hlt, hce⟩ := hV.form (by omega)
      have hx := hce i hil
      have hkl := hk xs[i] (List.getElem_mem hil)
      have hft := filt_take (p := fun a => lessI x a) hil
      have hfl := filt_len (p := fun a => lessI x a) (xs := xs) i
      have hll : (P0 ++ (xs.take i).filter (fun a => lessI x a)).length ≤ 300000 := by rw [List.length_append]; omega
      generalize xs[i] = y at hx hkl hft
      cases hf : Op.bytesLess x.key y.key
      · have hft : (P0 ++ (xs.take (i + 1)).filter (fun a => lessI x a)) = (P0 ++ (xs.take i).filter (fun a => lessI x a)) := by rw [hft, lessI, hf]; simp
        refine at_seq ?_
        refine at_seq ?_
        refine at_region ?_
        refine at_do (does_move rfl) rfl rfl ?_
        refine at_do (does_move rfl) rfl rfl ?_
        refine at_do (does_len (by kernel_rfl) rfl) rfl rfl ?_
        refine at_do (does_lss rfl rfl) rfl rfl ?_
        refine at_nil ?_
        refine at_then ?_
        refine at_cond_t rfl (decide_eq_true (by omega)) ?_
        refine at_skip ?_
        refine at_then ?_
        refine at_seq ?_
        refine at_block ?_
        refine at_seq ?_
        refine at_draw (by kernel_rfl) (by kernel_rfl) ?_
        refine atq_do (does_fieldAddr (o := 0) (by kernel_rfl) rfl) rfl rfl ?_
        refine atq_do (does_load (i := 1) (by kernel_rfl) rfl rfl rfl) rfl rfl ?_
        refine atq_do (does_move rfl) rfl rfl ?_
        refine atq_do (does_move rfl) rfl rfl ?_
        refine atq_do (does_indexAddrk (k := 5) (j := i) (by kernel_rfl) rfl rfl hil) rfl rfl ?_
        refine atq_do (does_fieldAddr (o := 0) (by kernel_rfl) rfl) rfl rfl ?_
        refine atq_do (does_load_mem (by kernel_rfl) rfl (fun w' ho => (hx.keep ho.plain).key)) rfl rfl ?_
        refine atq_callv (f := 61) (enters_fn (by kernel_rfl) rfl) (fun w ho => ref_Ahead _ _ w (by omega) (by omega)) rfl rfl ?_
        refine atq_nil ?_
        refine at_then ?_
        refine at_cond_f rfl (by omega) ?_
        refine at_skip ?_
        refine at_inb ?_
        refine at_then ?_
        refine at_region ?_
        refine at_do (does_move rfl) rfl rfl ?_
        refine at_do (does_addi rfl rfl (by (first | omega | (simp only; omega)))) rfl rfl ?_
        refine at_do (does_assign rfl) rfl rfl ?_
        refine at_nil ?_
        refine at_then ?_
        rotate_left
        refine at_againw fun w ho => ⟨(u, i + 1), by show i + 1 ≤ xs.length; omega, by show xs.length - (i + 1) < xs.length - i; omega, ⟨rfl, rfl, rfl, rfl, trivial⟩, rfl, ?_⟩
        show Own _ [.row u IT 5 (P0 ++ (xs.take (i + 1)).filter (fun a => lessI x a)).length (itms (P0 ++ (xs.take (i + 1)).filter (fun a => lessI x a))), .blk gz0 IT (itmV x).toArray] w
        rw [hft]
        exact ho
      · have hft : (P0 ++ (xs.take (i + 1)).filter (fun a => lessI x a)) = (P0 ++ (xs.take i).filter (fun a => lessI x a)) ++ [y] := by rw [hft, lessI, hf]; simp
        refine at_seq ?_
        refine at_seq ?_
        refine at_region ?_
        refine at_do (does_move rfl) rfl rfl ?_
        refine at_do (does_move rfl) rfl rfl ?_
        refine at_do (does_len (by kernel_rfl) rfl) rfl rfl ?_
        refine at_do (does_lss rfl rfl) rfl rfl ?_
        refine at_nil ?_
        refine at_then ?_
        refine at_cond_t rfl (decide_eq_true (by omega)) ?_
        refine at_skip ?_
        refine at_then ?_
        refine at_seq ?_
        refine at_block ?_
        refine at_seq ?_
        refine at_draw (by kernel_rfl) (by kernel_rfl) ?_
        refine atq_do (does_fieldAddr (o := 0) (by kernel_rfl) rfl) rfl rfl ?_
        refine atq_do (does_load (i := 1) (by kernel_rfl) rfl rfl rfl) rfl rfl ?_
        refine atq_do (does_move rfl) rfl rfl ?_
        refine atq_do (does_move rfl) rfl rfl ?_
        refine atq_do (does_indexAddrk (k := 5) (j := i) (by kernel_rfl) rfl rfl hil) rfl rfl ?_
        refine atq_do (does_fieldAddr (o := 0) (by kernel_rfl) rfl) rfl rfl ?_
        refine atq_do (does_load_mem (by kernel_rfl) rfl (fun w' ho => (hx.keep ho.plain).key)) rfl rfl ?_
        refine atq_callv (f := 61) (enters_fn (by kernel_rfl) rfl) (fun w ho => ref_Ahead _ _ w (by omega) (by omega)) rfl rfl ?_
        refine atq_nil ?_
        refine at_then ?_
        refine at_cond_t rfl (by omega) ?_
        refine at_region ?_
        refine at_do (does_move rfl) rfl rfl ?_
        refine at_do (does_move rfl) rfl rfl ?_
        refine at_do (does_move rfl) rfl rfl ?_
        refine at_do (does_indexAddrk (k := 5) (j := i) (by kernel_rfl) rfl rfl hil) rfl rfl ?_
        refine at_do (does_loadagg_mem (vs := itmV y) (by kernel_rfl) rfl (fun w' ho => (hx.keep ho.plain).agg)) rfl rfl ?_
        refine at_buildSlice (e := IT) (sz := 5) (vs := [itmA y]) (cs := itmV y) (by kernel_rfl) rfl rfl rfl rfl rfl rfl (fun hl => ?_)
        refine at_append (i := 1) (e := IT) (sz := 5) (by' := 56) (m := (P0 ++ (xs.take i).filter (fun a => lessI x a)).length) (k := 1) (news := itmV y) (by kernel_rfl) rfl rfl rfl rfl (fun w ho => lit_cells ho (i := 0) rfl) (itmV_one y) (by simp only [maxLen]; omega) rfl (fun v5 hv5 => ?_)
        refine at_do (does_assign rfl) rfl rfl ?_
        refine at_nil ?_
        refine at_inb ?_
        refine at_then ?_
        refine at_region ?_
        refine at_do (does_move rfl) rfl rfl ?_
        refine at_do (does_addi rfl rfl (by (first | omega | (simp only; omega)))) rfl rfl ?_
        refine at_do (does_assign rfl) rfl rfl ?_
        refine at_nil ?_
        refine at_then ?_
        rotate_left
        refine at_againw fun w ho => ⟨(v5, i + 1), by show i + 1 ≤ xs.length; omega, by show xs.length - (i + 1) < xs.length - i; omega, ⟨rfl, rfl, rfl, rfl, trivial⟩, rfl, ?_⟩
        show Own _ [.row v5 IT 5 (P0 ++ (xs.take (i + 1)).filter (fun a => lessI x a)).length (itms (P0 ++ (xs.take (i + 1)).filter (fun a => lessI x a))), .blk gz0 IT (itmV x).toArray] w
        rw [hft, itms_snoc, List.length_append (bs := [y])]
        exact ho.sublist (List.sublist_cons_self ..)
    · obtain rfl : i = xs.length := by omega
      have e1 : (P0 ++ (xs.take xs.length).filter (fun a => lessI x a)) = withI xs x := by rw [List.take_length, hW]
      simp only [e1]
      refine at_seq ?_
      refine at_seq ?_
      refine at_region ?_
      refine at_do (does_move rfl) rfl rfl ?_
      refine at_do (does_move rfl) rfl rfl ?_
      refine at_do (does_len (A := A) (q := xs.length) (c := c0) (by kernel_rfl) (by rw [← hv0]; rfl)) rfl rfl ?_
      refine at_do (does_lss rfl rfl) rfl rfl ?_
      refine at_nil ?_
      refine at_then ?_
      refine at_cond_f rfl (decide_eq_false (by omega)) ?_
      refine at_exit ?_
      refine at_then_exit ?_
      refine at_then_exit ?_
      refine at_inb_here ?_
      refine at_then ?_
      refine at_seq ?_
      refine at_region ?_
      refine at_do (does_move rfl) rfl rfl ?_
      refine at_do (does_assign rfl) rfl rfl ?_
      refine at_nil ?_
      refine at_then ?_
      refine at_ret ?_
      refine at_ret1 rfl rfl rfl (fun w9 ho9 => ?_)
      rotate_left
      exact ⟨_, rfl, ho9.plain, ho9.rowOut (List.mem_cons_self ..)⟩
end Go.Proofs.YtjpfebgpcokenaaDoor
set_option linter.unusedSimpArgs false
set_option linter.unusedVariables false
namespace Go.Proofs.YtjpfebgpcokenaaDoor
open Go.RowKit
section
variable {P : Program} {t : TypeId}
theorem run_flatd {d : Nat} {xs ys : List Value} {l : List (Nat × Nat)} {b : Bool} {w : World} (hT : flatT P t = some l) (h : eqFl xs ys l = some b) : (Op.equalIn (d + 2) t (.agg xs.toArray) (.agg ys.toArray)).run P w = .ok b w := by
  unfold flatT at hT
  split at hT
  · rename_i fs hu
    split at hT
    · cases hT
    · rename_i hs
      simp only [Bool.or_eq_true, not_or, Bool.not_eq_true] at hs
      have hfo : P.fieldsOf t = fs := by simp [Program.fieldsOf, hu]
      rw [run_equalIn_agg w (d + 1) t _ _ (by rw [hfo]; exact hu) hs.1, hfo]
      exact run_eqFl hT h
  · cases hT
end
theorem flatVal : flatT Tryd.prog 41 = some [(0, 0), (1, 0), (2, 2)] := by kernel_rfl
def itmF : List Field := [{ name := "Key", type := 9, offset := 0, embedded := false, tag := "", pkgPath := "", byteOffset := 0 }, { name := "Val", type := 41, offset := 1, embedded := false, tag := "", pkgPath := "", byteOffset := 16 }, { name := "Ver", type := 3, offset := 4, embedded := false, tag := "", pkgPath := "", byteOffset := 48 }]
theorem itm_under : Tryd.prog.underlying 43 = some (.struct itmF.toArray) := Tryd.underlying43
theorem itmA_eq {x y : Itm} : itmV x = itmV y → x = y := by
  intro h
  simp only [itmV, List.cons.injEq, Value.string.injEq, Value.int.injEq, true_and, and_true] at h
  obtain ⟨h1, h2, h3, h4, h5⟩ := h
  have h1 := bs_inj h1
  have h4 := bs_inj h4
  cases x; cases y
  simp_all
theorem eq_item (x y : Itm) (w : World) : (Op.equalIn 10000 43 (itmA x) (itmA y)).run Tryd.prog w = .ok (decide (x = y)) w := by
  have hfo : Tryd.prog.fieldsOf 43 = itmF.toArray := by simp [Program.fieldsOf, itm_under, itmF]
  have hfo' : (Tryd.prog.fieldsOf 43).toList = itmF := by rw [hfo]
  have hv : (Op.equalIn 9999 41 (.agg (valC x.kind x.num x.txt)) (.agg (valC y.kind y.num y.txt))).run Tryd.prog w = .ok (decide (x.kind = y.kind) && (decide (x.num = y.num) && (decide (bs x.txt = bs y.txt) && true))) w :=
    run_flatd (d := 9997) (xs := (valC x.kind x.num x.txt).toList) (ys := (valC y.kind y.num y.txt).toList) flatVal rfl
  have hk : (Op.equalIn 9999 9 (.string (bs x.key)) (.string (bs y.key))).run Tryd.prog w = .ok (decide (bs x.key = bs y.key)) w := run_eqVal (d := 9998) (k := 2) (.inr (.inr ⟨rfl, by kernel_rfl⟩)) rfl
  have hr : (Op.equalIn 9999 3 (.int .i64 x.ver) (.int .i64 y.ver)).run Tryd.prog w = .ok (decide (x.ver = y.ver)) w := run_eqVal (d := 9998) (k := 0) (.inl ⟨rfl, .i64, by kernel_rfl⟩) rfl
  have p1 : ∀ z : Itm, (part 9 (itmV z).toArray 0).run Tryd.prog w = .ok (.string (bs z.key)) w := fun z => run_part (by kernel_rfl) rfl
  have p3 : ∀ z : Itm, (part 3 (itmV z).toArray 4).run Tryd.prog w = .ok (.int .i64 z.ver) w := fun z => run_part (by kernel_rfl) rfl
  have p2 : ∀ z : Itm, (part 41 (itmV z).toArray 1).run Tryd.prog w = .ok (.agg (valC z.kind z.num z.txt)) w := fun z => by
    simp only [part, Sem.run_bind, Tryd.isAgg41, Result.andThen, if_true, Tryd.sizeOf41, Sem.run_pure]
    rfl
  unfold itmA
  have hs : Tryd.prog.stoodInHeld 43 = false := by kernel_rfl
  have hE := run_equalIn_agg (P := Tryd.prog) w 9999 43 (itmV x).toArray (itmV y).toArray (by rw [hfo]; exact itm_under) hs
  rw [hE, hfo']
  unfold itmF
  have hR : decide (x = y) = (decide (bs x.key = bs y.key) && ((decide (x.kind = y.kind) && (decide (x.num = y.num) && (decide (bs x.txt = bs y.txt) && true))) && decide (x.ver = y.ver))) := by
    rw [Bool.eq_iff_iff]
    simp only [Bool.and_eq_true, decide_eq_true_eq, and_true]
    constructor
    · rintro rfl; simp
    · rintro ⟨h1, ⟨h2, h3, h4⟩, h5⟩
      have h1 := bs_inj h1
      have h4 := bs_inj h4
      cases x; cases y
      simp_all
  rw [hR]
  generalize decide (bs x.key = bs y.key) = b1 at *
  generalize (decide (x.kind = y.kind) && (decide (x.num = y.num) && (decide (bs x.txt = bs y.txt) && true))) = b2 at *
  generalize decide (x.ver = y.ver) = b3 at *
  unfold Op.eqFields
  rw [if_pos (by decide)]
  simp only [Sem.run_bind, p1, hk, Result.andThen]
  cases b1
  · simp [Sem.run_pure]
  · simp only [Bool.not_true, Bool.false_eq_true, if_false]
    unfold Op.eqFields
    rw [if_pos (by decide)]
    simp only [Sem.run_bind, p2, hv, Result.andThen]
    cases b2
    · simp [Sem.run_pure]
    · simp only [Bool.not_true, Bool.false_eq_true, if_false]
      unfold Op.eqFields
      rw [if_pos (by decide)]
      simp only [Sem.run_bind, p3, hr, Result.andThen]
      cases b3
      · simp [Sem.run_pure]
      · simp [Op.eqFields, Sem.run_pure]
section
variable {n : Nat} {E : List (Nat × Value)} {C : Ctx} {H : List Res} {dst : Option Tmp} {ty yT : TypeId} {pos : String} {after : Array Edge} {g : Option (Nat × Bool)} {p q : Operand}
theorem does_itmeql {x y : Itm} (hx : ev E p = some (itmA x)) (hy : ev E q = some (itmA y)) : Does Tryd.prog n E C H ⟨dst, .binOp .eql 43 p q yT, ty, pos, after, g⟩ (.bool (decide (x = y))) :=
  does_seqlagg (by kernel_rfl) hx hy fun w => eq_item x y w
theorem does_itmneq {x y : Itm} (hx : ev E p = some (itmA x)) (hy : ev E q = some (itmA y)) : Does Tryd.prog n E C H ⟨dst, .binOp .neq 43 p q yT, ty, pos, after, g⟩ (.bool (!decide (x = y))) :=
  does_sneqagg (by kernel_rfl) hx hy fun w => eq_item x y w
end
end Go.Proofs.YtjpfebgpcokenaaDoor
set_option linter.unusedSimpArgs false
set_option linter.unusedVariables false
namespace Go.Proofs.YtjpfebgpcokenaaDoor
open Go.RowKit
attribute [local irreducible] cwp lwp Exit.then Exit.inBlock Exit.noGoto wpQuiet Calls fin At AtQ Again endQ RQ
theorem Own.oldItems2 {w0 w b : World} {F : Nat → Prop} {D : List Nat} {H : List Res} {v : Value} {xs : List Itm} (h : Own ⟨w0, fun _ => False, fun _ => False, b, F, D⟩ H w) (hV : ItemsAt w0 v xs) : ItemsAt w v xs := hV.keep h.plain
set_option maxHeartbeats 4000000 in
theorem ref_Same (v u : Value) (xs ys : List Itm) (w : World) (hV : ItemsAt w v xs) (hU : ItemsAt w u ys) (hlen : xs.length ≤ 100000) :
    Calls Tryd.prog 21 #[v, u] w fun e w' => e = .returned (.bool (decide (xs = ys))) ∧ Below w.heap.size w w' := by
  obtain ⟨A, c0, hv0⟩ := hV.len
  obtain ⟨B, c1, hu0⟩ := hU.len
  refine calls_plain Tryd.func21 rfl Tryd.ntmps21 rfl ?_
  by_cases hl : xs.length = ys.length
  · refine at_seq ?_
    refine at_region ?_
    refine at_do (does_assign rfl) rfl rfl ?_
    refine at_nil ?_
    refine at_then ?_
    refine at_seq ?_
    refine at_seq ?_
    refine at_region ?_
    refine at_do (does_move rfl) rfl rfl ?_
    refine at_do (does_len (A := A) (q := xs.length) (c := c0) (by kernel_rfl) (by rw [← hv0]; rfl)) rfl rfl ?_
    refine at_do (does_move rfl) rfl rfl ?_
    refine at_do (does_len (A := B) (q := ys.length) (c := c1) (by kernel_rfl) (by rw [← hu0]; rfl)) rfl rfl ?_
    refine at_do (does_neq rfl rfl) rfl rfl ?_
    refine at_nil ?_
    refine at_then ?_
    refine at_cond_f rfl (decide_eq_false (by (simp [hl]))) ?_
    refine at_skip ?_
    refine at_then ?_
    refine at_seq ?_
    refine at_seq ?_
    refine at_region ?_
    refine at_do (does_assign rfl) rfl rfl ?_
    refine at_nil ?_
    refine at_then ?_
    refine at_block ?_
    rotate_left
    refine at_loop0 (fun j : Nat => j ≤ xs.length ∧ xs.take j = ys.take j) (fun j => [(0, v), (1, u), (5, .int .i64 j)]) (fun j => xs.length - j) 0 ⟨Nat.zero_le _, rfl⟩ ⟨rfl, rfl, rfl, trivial⟩ ?_
    rintro j ⟨hj, hI⟩
    by_cases hjl : j < xs.length
    · obtain ⟨gb, o, c, rfl, hc, hlt, hce⟩ := hV.form (by omega)
      obtain ⟨gb2, o2, c2, rfl, hc2, hlt2, hce2⟩ := hU.form (by omega)
      have hjl2 : j < ys.length := by omega
      have hx := hce j hjl
      have hy := hce2 j hjl2
      by_cases he : xs[j] = ys[j]
      · refine at_seq ?_
        refine at_seq ?_
        refine at_region ?_
        refine at_do (does_move rfl) rfl rfl ?_
        refine at_do (does_move rfl) rfl rfl ?_
        refine at_do (does_len (by kernel_rfl) rfl) rfl rfl ?_
        refine at_do (does_lss rfl rfl) rfl rfl ?_
        refine at_nil ?_
        refine at_then ?_
        refine at_cond_t rfl (decide_eq_true (by omega)) ?_
        refine at_skip ?_
        refine at_then ?_
        refine at_seq ?_
        refine at_block ?_
        refine at_seq ?_
        refine at_draw (by kernel_rfl) (by kernel_rfl) ?_
        refine atq_do (does_move rfl) rfl rfl ?_
        refine atq_do (does_move rfl) rfl rfl ?_
        refine atq_do (does_indexAddrk (k := 5) (j := j) (by kernel_rfl) rfl rfl hjl) rfl rfl ?_
        refine atq_do (does_loadagg_mem (vs := itmV xs[j]) (by kernel_rfl) rfl (fun w' ho => (hx.keep ho.plain).agg)) rfl rfl ?_
        refine atq_do (does_move rfl) rfl rfl ?_
        refine atq_do (does_move rfl) rfl rfl ?_
        refine atq_do (does_indexAddrk (k := 5) (j := j) (by kernel_rfl) rfl rfl hjl2) rfl rfl ?_
        refine atq_do (does_loadagg_mem (vs := itmV ys[j]) (by kernel_rfl) rfl (fun w' ho => (hy.keep ho.plain).agg)) rfl rfl ?_
        refine atq_do (does_itmneq (x := xs[j]) (y := ys[j]) rfl rfl) rfl rfl ?_
        refine atq_nil ?_
        refine at_then ?_
        refine at_cond_f rfl (by (simp [he])) ?_
        refine at_skip ?_
        refine at_inb ?_
        refine at_then ?_
        refine at_region ?_
        refine at_do (does_move rfl) rfl rfl ?_
        refine at_do (does_addi rfl rfl (by omega)) rfl rfl ?_
        refine at_do (does_assign rfl) rfl rfl ?_
        refine at_nil ?_
        refine at_then ?_
        rotate_left
        refine at_again0 (j + 1) ⟨by omega, by rw [List.take_succ_eq_append_getElem hjl, List.take_succ_eq_append_getElem hjl2, hI, he]⟩ (by omega) ⟨rfl, rfl, rfl, trivial⟩
      · refine at_seq ?_
        refine at_seq ?_
        refine at_region ?_
        refine at_do (does_move rfl) rfl rfl ?_
        refine at_do (does_move rfl) rfl rfl ?_
        refine at_do (does_len (by kernel_rfl) rfl) rfl rfl ?_
        refine at_do (does_lss rfl rfl) rfl rfl ?_
        refine at_nil ?_
        refine at_then ?_
        refine at_cond_t rfl (decide_eq_true (by omega)) ?_
        refine at_skip ?_
        refine at_then ?_
        refine at_seq ?_
        refine at_block ?_
        refine at_seq ?_
        refine at_draw (by kernel_rfl) (by kernel_rfl) ?_
        refine atq_do (does_move rfl) rfl rfl ?_
        refine atq_do (does_move rfl) rfl rfl ?_
        refine atq_do (does_indexAddrk (k := 5) (j := j) (by kernel_rfl) rfl rfl hjl) rfl rfl ?_
        refine atq_do (does_loadagg_mem (vs := itmV xs[j]) (by kernel_rfl) rfl (fun w' ho => (hx.keep ho.plain).agg)) rfl rfl ?_
        refine atq_do (does_move rfl) rfl rfl ?_
        refine atq_do (does_move rfl) rfl rfl ?_
        refine atq_do (does_indexAddrk (k := 5) (j := j) (by kernel_rfl) rfl rfl hjl2) rfl rfl ?_
        refine atq_do (does_loadagg_mem (vs := itmV ys[j]) (by kernel_rfl) rfl (fun w' ho => (hy.keep ho.plain).agg)) rfl rfl ?_
        refine atq_do (does_itmneq (x := xs[j]) (y := ys[j]) rfl rfl) rfl rfl ?_
        refine atq_nil ?_
        refine at_then ?_
        refine at_cond_t rfl (by (simp [he])) ?_
        refine at_seq ?_
        refine at_region ?_
        refine at_do (does_assign rfl) rfl rfl ?_
        refine at_nil ?_
        refine at_then ?_
        refine at_ret ?_
        refine at_inb_ret ?_
        refine at_then_ret ?_
        refine at_then_ret ?_
        refine at_inb_ret ?_
        refine at_then_ret ?_
        refine at_ret1 rfl rfl rfl (fun w9 ho9 => ?_)
        rotate_left
        have hne : ¬ xs = ys := fun e => he (by subst e; rfl)
        exact ⟨ret_bool (decide_eq_false hne).symm, ho9.plain⟩
    · obtain rfl : j = xs.length := by omega
      refine at_seq ?_
      refine at_seq ?_
      refine at_region ?_
      refine at_do (does_move rfl) rfl rfl ?_
      refine at_do (does_move rfl) rfl rfl ?_
      refine at_do (does_len (A := A) (q := xs.length) (c := c0) (by kernel_rfl) (by rw [← hv0]; rfl)) rfl rfl ?_
      refine at_do (does_lss rfl rfl) rfl rfl ?_
      refine at_nil ?_
      refine at_then ?_
      refine at_cond_f rfl (decide_eq_false (by omega)) ?_
      refine at_exit ?_
      refine at_then_exit ?_
      refine at_then_exit ?_
      refine at_inb_here ?_
      refine at_then ?_
      refine at_seq ?_
      refine at_region ?_
      refine at_do (does_assign rfl) rfl rfl ?_
      refine at_nil ?_
      refine at_then ?_
      refine at_ret ?_
      refine at_ret1 rfl rfl rfl (fun w9 ho9 => ?_)
      rotate_left
      have he : xs = ys := by
        rw [List.take_length, hl, List.take_length] at hI
        exact hI
      exact ⟨ret_bool (decide_eq_true he).symm, ho9.plain⟩
  · refine at_seq ?_
    refine at_region ?_
    refine at_do (does_assign rfl) rfl rfl ?_
    refine at_nil ?_
    refine at_then ?_
    refine at_seq ?_
    refine at_seq ?_
    refine at_region ?_
    refine at_do (does_move rfl) rfl rfl ?_
    refine at_do (does_len (A := A) (q := xs.length) (c := c0) (by kernel_rfl) (by rw [← hv0]; rfl)) rfl rfl ?_
    refine at_do (does_move rfl) rfl rfl ?_
    refine at_do (does_len (A := B) (q := ys.length) (c := c1) (by kernel_rfl) (by rw [← hu0]; rfl)) rfl rfl ?_
    refine at_do (does_neq rfl rfl) rfl rfl ?_
    refine at_nil ?_
    refine at_then ?_
    refine at_cond_t rfl (decide_eq_true (by (simp; omega))) ?_
    refine at_seq ?_
    refine at_region ?_
    refine at_do (does_assign rfl) rfl rfl ?_
    refine at_nil ?_
    refine at_then ?_
    refine at_ret ?_
    refine at_then_ret ?_
    refine at_ret1 rfl rfl rfl (fun w9 ho9 => ?_)
    rotate_left
    exact ⟨ret_bool (decide_eq_false (fun e => hl (by rw [e]))).symm, ho9.plain⟩
end Go.Proofs.YtjpfebgpcokenaaDoor
set_option linter.unusedSimpArgs false
set_option linter.unusedVariables false
namespace Go.Proofs.YtjpfebgpcokenaaDoor
open Go.RowKit
attribute [local irreducible] cwp lwp Exit.then Exit.inBlock Exit.noGoto wpQuiet Calls fin At AtQ Again endQ RQ
theorem items_head {w : World} {A : Addr} {m c q : Nat} {xs : List Itm} (h : ItemsAt w (.slice (some A) m c) xs) (hq : q ≤ m) : ItemsAt w (.slice (some A) q c) (xs.take q) := by
  rcases h with ⟨e, _⟩ | ⟨A', c', e, h1, h2⟩
  · cases e
  · simp only [Value.slice.injEq, Option.some.injEq] at e
    obtain ⟨rfl, rfl, rfl⟩ := e
    refine .inr ⟨A, c, by rw [List.length_take, Nat.min_eq_left hq], by rw [List.length_take]; omega, fun j u hu => h2 j u ?_⟩
    rw [← itms_take, List.getElem?_take] at hu
    split at hu
    · exact hu
    · cases hu
theorem ref_Head (v : Value) (xs : List Itm) (most : Int) (w : World) (hV : ItemsAt w v xs) (hlen : xs.length ≤ 100000) :
    Calls Tryd.prog 25 #[v, .int .i64 most] w fun e w' => ∃ u, e = .returned u ∧ Below w.heap.size w w' ∧ ItemsAt w' u (xs.take most.toNat) := by
  obtain ⟨A, c0, hv0⟩ := hV.len
  refine calls_plain Tryd.func25 rfl Tryd.ntmps25 rfl ?_
  by_cases hm : most < 0
  · by_cases hl : xs = []
    · subst hl
      refine at_seq ?_
      refine at_region ?_
      refine at_do (does_assign rfl) rfl rfl ?_
      refine at_nil ?_
      refine at_then ?_
      refine at_seq ?_
      refine at_seq ?_
      refine at_region ?_
      refine at_do (does_move rfl) rfl rfl ?_
      refine at_do (does_lss rfl rfl) rfl rfl ?_
      refine at_nil ?_
      refine at_then ?_
      refine at_cond_t rfl (decide_eq_true (by omega)) ?_
      refine at_region ?_
      refine at_do (does_assign rfl) rfl rfl ?_
      refine at_nil ?_
      refine at_then ?_
      refine at_seq ?_
      refine at_seq ?_
      refine at_region ?_
      refine at_do (does_move rfl) rfl rfl ?_
      refine at_do (does_move rfl) rfl rfl ?_
      refine at_do (does_len (A := A) (q := 0) (c := c0) (by kernel_rfl) (by rw [hv0]; rfl)) rfl rfl ?_
      refine at_do (does_lss rfl rfl) rfl rfl ?_
      refine at_nil ?_
      refine at_then ?_
      refine at_cond_f rfl (decide_eq_false (by omega)) ?_
      refine at_skip ?_
      refine at_then ?_
      refine at_seq ?_
      refine at_region ?_
      refine at_do (does_move rfl) rfl rfl ?_
      refine at_do (does_assign rfl) rfl rfl ?_
      refine at_nil ?_
      refine at_then ?_
      refine at_ret ?_
      refine at_ret1 rfl rfl rfl (fun w9 ho9 => ?_)
      rotate_left
      exact ⟨v, rfl, ho9.plain, by simpa using ho9.oldItems2 hV⟩
    · have hpos : 0 < xs.length := List.length_pos_iff.2 hl
      obtain ⟨gb, o, c, rfl, hc, hlt, hce⟩ := hV.form hpos
      refine at_seq ?_
      refine at_region ?_
      refine at_do (does_assign rfl) rfl rfl ?_
      refine at_nil ?_
      refine at_then ?_
      refine at_seq ?_
      refine at_seq ?_
      refine at_region ?_
      refine at_do (does_move rfl) rfl rfl ?_
      refine at_do (does_lss rfl rfl) rfl rfl ?_
      refine at_nil ?_
      refine at_then ?_
      refine at_cond_t rfl (decide_eq_true (by omega)) ?_
      refine at_region ?_
      refine at_do (does_assign rfl) rfl rfl ?_
      refine at_nil ?_
      refine at_then ?_
      refine at_seq ?_
      refine at_seq ?_
      refine at_region ?_
      refine at_do (does_move rfl) rfl rfl ?_
      refine at_do (does_move rfl) rfl rfl ?_
      refine at_do (does_len (by kernel_rfl) rfl) rfl rfl ?_
      refine at_do (does_lss rfl rfl) rfl rfl ?_
      refine at_nil ?_
      refine at_then ?_
      refine at_cond_t rfl (decide_eq_true (by omega)) ?_
      refine at_seq ?_
      refine at_region ?_
      refine at_do (does_move rfl) rfl rfl ?_
      refine at_do (does_move rfl) rfl rfl ?_
      refine at_do (does_slice_hi (sz := 5) (q := 0) (by kernel_rfl) rfl rfl ⟨by omega, by omega⟩) rfl rfl ?_
      refine at_do (does_assign rfl) rfl rfl ?_
      refine at_nil ?_
      refine at_then ?_
      refine at_ret ?_
      refine at_then_ret ?_
      refine at_ret1 rfl rfl rfl (fun w9 ho9 => ?_)
      rotate_left
      refine ⟨_, rfl, ho9.plain, ?_⟩
      have := items_head (q := 0) (ho9.oldItems2 hV) (by omega)
      rw [show most.toNat = 0 by omega]
      exact this
  · by_cases hl : most < xs.length
    · obtain ⟨gb, o, c, rfl, hc, hlt, hce⟩ := hV.form (by omega)
      refine at_seq ?_
      refine at_region ?_
      refine at_do (does_assign rfl) rfl rfl ?_
      refine at_nil ?_
      refine at_then ?_
      refine at_seq ?_
      refine at_seq ?_
      refine at_region ?_
      refine at_do (does_move rfl) rfl rfl ?_
      refine at_do (does_lss rfl rfl) rfl rfl ?_
      refine at_nil ?_
      refine at_then ?_
      refine at_cond_f rfl (decide_eq_false (by omega)) ?_
      refine at_skip ?_
      refine at_then ?_
      refine at_seq ?_
      refine at_seq ?_
      refine at_region ?_
      refine at_do (does_move rfl) rfl rfl ?_
      refine at_do (does_move rfl) rfl rfl ?_
      refine at_do (does_len (by kernel_rfl) rfl) rfl rfl ?_
      refine at_do (does_lss rfl rfl) rfl rfl ?_
      refine at_nil ?_
      refine at_then ?_
      refine at_cond_t rfl (decide_eq_true (by omega)) ?_
      refine at_seq ?_
      refine at_region ?_
      refine at_do (does_move rfl) rfl rfl ?_
      refine at_do (does_move rfl) rfl rfl ?_
      refine at_do (does_slice_hi (sz := 5) (q := most) (by kernel_rfl) rfl rfl ⟨by omega, by omega⟩) rfl rfl ?_
      refine at_do (does_assign rfl) rfl rfl ?_
      refine at_nil ?_
      refine at_then ?_
      refine at_ret ?_
      refine at_then_ret ?_
      refine at_ret1 rfl rfl rfl (fun w9 ho9 => ?_)
      rotate_left
      exact ⟨_, rfl, ho9.plain, items_head (ho9.oldItems2 hV) (by omega)⟩
    · refine at_seq ?_
      refine at_region ?_
      refine at_do (does_assign rfl) rfl rfl ?_
      refine at_nil ?_
      refine at_then ?_
      refine at_seq ?_
      refine at_seq ?_
      refine at_region ?_
      refine at_do (does_move rfl) rfl rfl ?_
      refine at_do (does_lss rfl rfl) rfl rfl ?_
      refine at_nil ?_
      refine at_then ?_
      refine at_cond_f rfl (decide_eq_false (by omega)) ?_
      refine at_skip ?_
      refine at_then ?_
      refine at_seq ?_
      refine at_seq ?_
      refine at_region ?_
      refine at_do (does_move rfl) rfl rfl ?_
      refine at_do (does_move rfl) rfl rfl ?_
      refine at_do (does_len (A := A) (q := xs.length) (c := c0) (by kernel_rfl) (by rw [← hv0]; rfl)) rfl rfl ?_
      refine at_do (does_lss rfl rfl) rfl rfl ?_
      refine at_nil ?_
      refine at_then ?_
      refine at_cond_f rfl (decide_eq_false (by omega)) ?_
      refine at_skip ?_
      refine at_then ?_
      refine at_seq ?_
      refine at_region ?_
      refine at_do (does_move rfl) rfl rfl ?_
      refine at_do (does_assign rfl) rfl rfl ?_
      refine at_nil ?_
      refine at_then ?_
      refine at_ret ?_
      refine at_ret1 rfl rfl rfl (fun w9 ho9 => ?_)
      rotate_left
      refine ⟨v, rfl, ho9.plain, ?_⟩
      rw [List.take_of_length_le (by omega)]
      exact ho9.oldItems2 hV
theorem drop_rev (xs : List Itm) (i : Nat) (h : i < xs.length) : (xs.drop i).reverse = (xs.drop (i + 1)).reverse ++ [xs[i]] := by
  rw [List.drop_eq_getElem_cons h, List.reverse_cons]
set_option maxHeartbeats 4000000 in
theorem ref_Turned (v : Value) (xs : List Itm) (w : World) (hV : ItemsAt w v xs) (hlen : xs.length ≤ 100000) :
    Calls Tryd.prog 26 #[v] w fun e w' => ∃ u, e = .returned u ∧ Below w.heap.size w w' ∧ w'.ownsRow w.heap.size IT 5 u xs.reverse.length (itms xs.reverse) := by
  obtain ⟨A, c0, hv0⟩ := hV.len
  refine calls_plain Tryd.func26 rfl Tryd.ntmps26 rfl ?_
  refine at_seq ?_
  refine at_region ?_
  refine at_do (does_assign rfl) rfl rfl ?_
  refine at_nil ?_
  refine at_then ?_
  refine at_seq ?_
  refine at_region ?_
  refine at_do (does_assign rfl) rfl rfl ?_
  refine at_nil ?_
  refine at_then ?_
  refine at_seq ?_
  refine at_seq ?_
  refine at_region ?_
  refine at_do (does_move rfl) rfl rfl ?_
  refine at_do (does_len (A := A) (q := xs.length) (c := c0) (by kernel_rfl) (by rw [← hv0]; rfl)) rfl rfl ?_
  refine at_do (does_subi rfl rfl (by omega)) rfl rfl ?_
  refine at_do (does_assign rfl) rfl rfl ?_
  refine at_nil ?_
  refine at_then ?_
  refine at_block ?_
  rotate_left
  refine at_loopH (σ := Value × Nat) (fun s => s.2 ≤ xs.length) (fun s => [(0, v), (3, s.1), (4, .int .i64 ((s.2 : Int) - 1))]) (fun s => [.row s.1 IT 5 (xs.drop s.2).reverse.length (itms (xs.drop s.2).reverse)]) (fun s => s.2)
    (fun w ho => ⟨(.slice none 0 0, xs.length), Nat.le_refl _, ⟨rfl, rfl, rfl, trivial⟩, by
      show Own _ [.row (.slice none 0 0) IT 5 (xs.drop xs.length).reverse.length (itms (xs.drop xs.length).reverse)] w
      rw [List.drop_length]
      exact ho.nilrow IT 5⟩) ?_
  rintro ⟨u, i⟩ hi
  simp only at hi
  cases i with
  | zero =>
    refine at_seq ?_
    refine at_seq ?_
    refine at_region ?_
    refine at_do (does_move rfl) rfl rfl ?_
    refine at_do (does_geq rfl rfl) rfl rfl ?_
    refine at_nil ?_
    refine at_then ?_
    refine at_cond_f rfl (decide_eq_false (by omega)) ?_
    refine at_exit ?_
    refine at_then_exit ?_
    refine at_then_exit ?_
    refine at_inb_here ?_
    refine at_then ?_
    refine at_seq ?_
    refine at_region ?_
    refine at_do (does_move rfl) rfl rfl ?_
    refine at_do (does_assign rfl) rfl rfl ?_
    refine at_nil ?_
    refine at_then ?_
    refine at_ret ?_
    refine at_ret1 rfl rfl rfl (fun w9 ho9 => ?_)
    rotate_left
    refine ⟨_, rfl, ho9.plain, ?_⟩
    have := ho9.rowOut (List.mem_cons_self ..)
    exact this
  | succ i =>
    have hil : i < xs.length := by omega
    obtain ⟨gb, o, c, rfl, hc, hlt, hce⟩ := hV.form (by omega)
    have hx := hce i hil
    have hdr := drop_rev xs i hil
    have hll : (xs.drop (i + 1)).reverse.length ≤ 100000 := by simp; omega
    have hii : ((i + 1 : Nat) : Int) - 1 = (i : Int) := by omega
    generalize xs[i] = y at hx hdr
    simp only [hii]
    refine at_seq ?_
    refine at_seq ?_
    refine at_region ?_
    refine at_do (does_move rfl) rfl rfl ?_
    refine at_do (does_geq rfl rfl) rfl rfl ?_
    refine at_nil ?_
    refine at_then ?_
    refine at_cond_t rfl (decide_eq_true (by omega)) ?_
    refine at_skip ?_
    refine at_then ?_
    refine at_seq ?_
    refine at_block ?_
    refine at_region ?_
    refine at_do (does_move rfl) rfl rfl ?_
    refine at_do (does_move rfl) rfl rfl ?_
    refine at_do (does_move rfl) rfl rfl ?_
    refine at_do (does_indexAddrk (k := 5) (j := i) (by kernel_rfl) rfl rfl hil) rfl rfl ?_
    refine at_do (does_loadagg_mem (vs := itmV y) (by kernel_rfl) rfl (fun w' ho => (hx.keep ho.plain).agg)) rfl rfl ?_
    refine at_buildSlice (e := IT) (sz := 5) (vs := [itmA y]) (cs := itmV y) (by kernel_rfl) rfl rfl rfl rfl rfl rfl (fun hl => ?_)
    refine at_append (i := 1) (e := IT) (sz := 5) (by' := 56) (m := (xs.drop (i + 1)).reverse.length) (k := 1) (news := itmV y) (by kernel_rfl) rfl rfl rfl rfl (fun w ho => lit_cells ho (i := 0) rfl) (itmV_one y) (by simp only [maxLen]; omega) rfl (fun v4 hv4 => ?_)
    refine at_do (does_assign rfl) rfl rfl ?_
    refine at_nil ?_
    refine at_inb ?_
    refine at_then ?_
    refine at_region ?_
    refine at_do (does_move rfl) rfl rfl ?_
    refine at_do (does_subi rfl rfl (by (first | omega | (simp only; omega)))) rfl rfl ?_
    refine at_do (does_assign rfl) rfl rfl ?_
    refine at_nil ?_
    refine at_then ?_
    rotate_left
    refine at_againw fun w ho => ⟨(v4, i), by show i ≤ xs.length; omega, by show i < i + 1; omega, ⟨rfl, rfl, rfl, trivial⟩, rfl, ?_⟩
    show Own _ [.row v4 IT 5 (xs.drop i).reverse.length (itms (xs.drop i).reverse)] w
    rw [hdr, itms_snoc, List.length_append]
    exact ho.sublist (List.sublist_cons_self ..)
end Go.Proofs.YtjpfebgpcokenaaDoor
