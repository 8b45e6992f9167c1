/-
  What a hasher's tag is, and a hasher of given bytes. No condition of its own.
-/
import Derived.Test.YthclmpbgehkgeaaSip5
set_option linter.unusedSimpArgs false
set_option linter.unusedVariables false
namespace Go.Proofs.Ythclmpbgehkgeaa.K
open Go.RowKit
attribute [local irreducible] cwp lwp Exit.then Exit.inBlock Exit.noGoto wpQuiet Calls fin At AtQ Again endQ RQ rnds rnd rotl chewA wordF

theorem Below.cellOld {w0 w : World} {p : Addr} {v : Value} (hb : Below w0.heap.size w0 w) (hc : w0.cell? p = some v) : w.cell? p = some v :=
  (World.cell?_of_block (hb.block _ (World.block_lt_of_cell? _ _ hc))).trans hc
theorem add_none (gb o j : Nat) : (⟨gb, o, none⟩ : Addr).add j = ⟨gb, o + j, none⟩ := by unfold Addr.add; split <;> simp_all
/-- These bytes lie there. -/
def BytesAt (w : World) (arg : Value) (ys : List UInt8) : Prop := (arg = .slice none 0 0 ∧ ys = []) ∨
  ∃ A c, arg = .slice (some A) ys.length c ∧ ys.length ≤ c ∧ ∀ j u, (byV ys)[j]? = some u → w.cell? (A.add j) = some u
theorem BytesAt.keep {w w' : World} {arg : Value} {ys : List UInt8} (h : BytesAt w arg ys) (hb : Below w.heap.size w w') : BytesAt w' arg ys :=
  h.imp id fun ⟨A, c, h1, h0, h2⟩ => ⟨A, c, h1, h0, fun j u hu => Below.cellOld hb (h2 j u hu)⟩
theorem BytesAt.len {w : World} {arg : Value} {ys : List UInt8} (h : BytesAt w arg ys) : ∃ A c, arg = .slice A ys.length c := by
  rcases h with ⟨rfl, rfl⟩ | ⟨A, c, rfl, _, _⟩
  · exact ⟨none, 0, rfl⟩
  · exact ⟨_, c, rfl⟩
theorem BytesAt.form {w : World} {arg : Value} {ys : List UInt8} (h : BytesAt w arg ys) (hne : 0 < ys.length) : ∃ gb o c, arg = .slice (some ⟨gb, o, none⟩) ys.length c ∧ ys.length ≤ c ∧ ∀ j u, (byV ys)[j]? = some u → w.cell? ⟨gb, o + j, none⟩ = some u := by
  rcases h with ⟨_, rfl⟩ | ⟨⟨gb, o, sp⟩, c, rfl, hc, h2⟩
  · simp at hne
  · have h0 := h2 0 _ (byV_get hne)
    have hsp : sp = none := by
      cases sp with
      | none => rfl
      | some s => simp [Addr.add, World.cell?] at h0; split at h0 <;> simp at h0
    subst hsp
    exact ⟨gb, o, c, rfl, hc, fun j u hu => by rw [← add_none]; exact h2 j u hu⟩
theorem bytes_of_seg {w : World} {rv : Value} {l : List UInt8} {b : Nat} (h : World.ownsSeg w b 5 rv l.length (byV l)) : BytesAt w rv l := by
  rcases h.2 with ⟨rfl, hl⟩ | ⟨gb, o, cap, cur, rfl, rest⟩
  · exact .inl ⟨rfl, List.eq_nil_of_length_eq_zero hl⟩
  · exact .inr ⟨⟨gb, o, none⟩, cap, rfl, rest.2.2.1, fun j u hu => by rw [add_none]; exact seg_cells ⟨h.1, .inr ⟨gb, o, cap, cur, rfl, rest⟩⟩ j u hu⟩

/-- What is or'ed in. -/
def lastF (l : List UInt8) (cnt : Int) : Int := (wsum l : Int) + (cnt % 256) * 72057594037927936
theorem last_wd (l : List UInt8) (cnt : Int) (hl : l.length < 8) : Wd (lastF l cnt) := by
  have h1 := wsum_lt l
  have h2 : 256 ^ l.length ≤ 256 ^ 7 := Nat.pow_le_pow_right (by decide) (by omega)
  have h3 : (256 : Nat) ^ 7 = 72057594037927936 := by decide
  unfold Wd lastF
  omega
theorem last_begin (cnt : Int) (h : 0 ≤ cnt ∧ cnt < 18446744073709551616) : IntKind.u64.wrap (cnt * 2 ^ (min (56 : Int).toNat IntKind.u64.bits)) = lastF [] cnt := by
  have e : (2 : Int) ^ (min (56 : Int).toNat IntKind.u64.bits) = 72057594037927936 := by decide
  rw [e, IntKind.wrap_u64]
  unfold lastF wsum
  omega
theorem last_step (l : List UInt8) (cnt : Int) (i : Nat) (hl : i < l.length) (h7 : l.length < 8) :
    bits .or .u64 (lastF (l.take i) cnt) (IntKind.u64.wrap (((l[i].toNat : Nat) : Int) * 2 ^ (min (8 * (i : Int)).toNat IntKind.u64.bits))) = lastF (l.take (i + 1)) cnt := by
  have hb := l[i].toNat_lt
  have hlen : (l.take i).length = i := by simp; omega
  have h1 := wsum_lt (l.take i)
  rw [hlen] at h1
  have e0 : (8 * (i : Int)).toNat = 8 * i := by omega
  have e1 : min (8 * i) IntKind.u64.bits = 8 * i := by simp [IntKind.bits]; omega
  have e2 : (2 : Nat) ^ (8 * i) = 256 ^ i := by rw [Nat.pow_mul]
  have h3 : (256 : Nat) ^ 7 = 72057594037927936 := by decide
  have h8 : (256 : Nat) ^ i * 256 ≤ 72057594037927936 := by
    have : (256 : Nat) ^ (i + 1) ≤ 256 ^ 7 := Nat.pow_le_pow_right (by decide) (by omega)
    rw [Nat.pow_succ] at this; omega
  have hprod : l[i].toNat * 256 ^ i + 256 ^ i ≤ 256 * 256 ^ i := by
    have : (l[i].toNat + 1) * 256 ^ i ≤ 256 * 256 ^ i := Nat.mul_le_mul_right _ (by omega)
    rwa [Nat.add_mul, Nat.one_mul] at this
  rw [Nat.mul_comm 256] at hprod
  rw [e0, e1]
  have e3 : ((l[i].toNat : Nat) : Int) * 2 ^ (8 * i) = ((l[i].toNat * 256 ^ i : Nat) : Int) := by
    rw [← e2]; simp
  obtain ⟨t, ht, htl⟩ : ∃ t : Nat, cnt % 256 = (t : Int) ∧ t < 256 := ⟨(cnt % 256).toNat, by omega, by omega⟩
  have e4 : lastF (l.take i) cnt = ((wsum (l.take i) + t * 72057594037927936 : Nat) : Int) := by unfold lastF; rw [ht]; simp
  have e5 : lastF (l.take (i + 1)) cnt = ((wsum (l.take i) + l[i].toNat * 256 ^ i + t * 72057594037927936 : Nat) : Int) := by
    unfold lastF; rw [ht, List.take_succ_eq_append_getElem hl, wsum_snoc, hlen]; simp
  rw [e3, e4, e5, IntKind.wrap_u64, Int.emod_eq_of_lt (by omega) (by omega)]
  rw [bits_or_u64_nat _ _ (by omega) (by omega)]
  congr 1
  have a1 := Nat.shiftLeft_add_eq_or_of_lt (a := t) (i := 56) (b := wsum (l.take i)) (by omega)
  have a2 := Nat.shiftLeft_add_eq_or_of_lt (a := l[i].toNat) (i := 8 * i) (b := wsum (l.take i)) (by rw [e2]; exact h1)
  have a3 := Nat.shiftLeft_add_eq_or_of_lt (a := t) (i := 56) (b := l[i].toNat * 256 ^ i + wsum (l.take i)) (by omega)
  have e56 : (2 : Nat) ^ 56 = 72057594037927936 := by decide
  rw [Nat.shiftLeft_eq, e56] at a1 a3
  rw [Nat.shiftLeft_eq, e2] at a2
  rw [Nat.add_comm (wsum (l.take i)) (t * _), a1, Nat.or_assoc, Nat.or_comm (wsum (l.take i)), ← a2, ← a3]
  omega

def endF (u : W4) : Int :=
  let x := rnds 4 ⟨u.a, u.b, xr u.c 255, u.d⟩
  xr (xr (xr x.a x.b) x.c) x.d
def finF (v : W4) (l : List UInt8) (cnt : Int) : Int := endF (wordF v (lastF l cnt))
theorem end_wd (u : W4) (h : u.good) : Wd (endF u) := by
  have := rnds_good 4 ⟨u.a, u.b, xr u.c 255, u.d⟩ ⟨h.1, h.2.1, wd_xr _ _ h.2.2.1 (by unfold Wd; omega), h.2.2.2⟩
  exact wd_xr _ _ (wd_xr _ _ (wd_xr _ _ this.1 this.2.1) this.2.2.1) this.2.2.2
theorem hash_Tag (h : Nat) (v : W4) (rv : Value) (l : List UInt8) (cnt : Int) (w : World) (hb : w.heap[h]? = some (.cells (hcells v rv cnt) 49)) (hs : BytesAt w rv l) (hl : l.length < 8) (hv : v.good) (hc : 0 ≤ cnt ∧ cnt ≤ 1099511627776) :
    Calls Try.prog 14 #[.pointer (some ⟨h, 0, none⟩)] w fun e w' => e = .returned (.int .u64 (finF v l cnt)) ∧ Below w.heap.size w w' := by
  have hcell : ∀ j u, (hcells v rv cnt)[j]? = some u → w.cell? ⟨h, j, none⟩ = some u := fun j u hu => (cell_of_row w h j _ 49 (0, 0) hb).trans hu
  obtain ⟨A, c, rfl⟩ := hs.len
  refine calls_plain Try.func14 rfl Try.ntmps14 rfl ?_
  refine at_seq ?_
  refine at_region ?_
  refine at_do (does_assign rfl) rfl rfl ?_
  refine at_nil ?_
  refine at_then ?_
  refine at_seq ?_
  refine at_region ?_
  refine at_do (does_move rfl) rfl rfl ?_
  refine at_do (does_nilCheck rfl) rfl rfl ?_
  refine at_do (does_fieldAddr (o := 5) (by kernel_rfl) rfl) rfl rfl ?_
  refine at_do (does_load_mem (by kernel_rfl) rfl (fun w' ho => Below.cellOld ho.plain (hcell 5 _ rfl))) rfl rfl ?_
  refine at_do (does_convu64 (by kernel_rfl) (by kernel_rfl) rfl (by (first | omega | decide))) rfl rfl ?_
  refine at_do (does_shl rfl rfl (by (first | omega | decide))) rfl rfl ?_
  refine at_do (does_assign rfl) rfl rfl ?_
  refine at_nil ?_
  refine at_then ?_
  refine at_seq ?_
  refine at_seq ?_
  refine at_region ?_
  refine at_do (does_move rfl) rfl rfl ?_
  refine at_do (does_nilCheck rfl) rfl rfl ?_
  refine at_do (does_fieldAddr (o := 4) (by kernel_rfl) rfl) rfl rfl ?_
  refine at_do (does_load_mem (by kernel_rfl) rfl (fun w' ho => Below.cellOld ho.plain (hcell 4 _ rfl))) rfl rfl ?_
  refine at_do (does_len (by kernel_rfl) rfl) rfl rfl ?_
  refine at_do (does_move rfl) rfl rfl ?_
  refine at_nil ?_
  refine at_then ?_
  refine at_block ?_
  rotate_left
  refine at_loop0 (fun i : Nat => i ≤ l.length) (fun i => [(0, .pointer (some ⟨h, 0, none⟩)), (3, .int .u64 (lastF (l.take i) cnt)), (16, .slice A l.length c), (17, .int .i64 l.length), (18, .int .i64 i)]) (fun i => l.length - i) 0 (by omega) ⟨rfl, by show some (Value.int .u64 (IntKind.u64.wrap (cnt * 2 ^ (min (56 : Int).toNat IntKind.u64.bits)))) = some (Value.int .u64 (lastF (l.take 0) cnt)); rw [last_begin cnt (by omega), List.take_zero], rfl, rfl, rfl, trivial⟩ ?_
  rintro i hi
  by_cases hi8 : i < l.length
  · have hb1 := (l[i]'(by omega)).toNat_lt
    obtain ⟨gb, o, c', h0, _, h1⟩ := hs.form (by omega)
    · cases h0
      refine at_seq ?_
      refine at_region ?_
      refine at_do (does_lss rfl rfl) rfl rfl ?_
      refine at_nil ?_
      refine at_then ?_
      refine at_seq ?_
      refine at_cond_t rfl (decide_eq_true (by (first | omega | exact ⟨Int.natCast_nonneg _, by omega⟩))) ?_
      refine at_skip ?_
      refine at_then ?_
      refine at_seq ?_
      refine at_block ?_
      refine at_seq ?_
      refine at_region ?_
      refine at_do (does_move rfl) rfl rfl ?_
      refine at_do (does_indexAddr1 (by kernel_rfl) rfl rfl (by (first | omega | exact ⟨Int.natCast_nonneg _, by omega⟩))) rfl rfl ?_
      refine at_do (does_load_mem (by kernel_rfl) rfl (fun w' ho => Below.cellOld ho.plain (h1 i _ (byV_get hi8)))) rfl rfl ?_
      refine at_do (does_assign rfl) rfl rfl ?_
      refine at_do (does_assign rfl) rfl rfl ?_
      refine at_nil ?_
      refine at_then ?_
      refine at_region ?_
      refine at_do (does_move rfl) rfl rfl ?_
      refine at_do (does_move rfl) rfl rfl ?_
      refine at_do (does_convu64 (by kernel_rfl) (by kernel_rfl) rfl (by (first | omega | exact ⟨Int.natCast_nonneg _, by omega⟩))) rfl rfl ?_
      refine at_do (does_move rfl) rfl rfl ?_
      refine at_do (does_muli rfl rfl (by (first | omega | exact ⟨Int.natCast_nonneg _, by omega⟩))) rfl rfl ?_
      refine at_do (does_shl rfl rfl (by (first | omega | exact ⟨Int.natCast_nonneg _, by omega⟩))) rfl rfl ?_
      refine at_do (does_bits (by simp) rfl rfl) rfl rfl ?_
      refine at_do (does_assign rfl) rfl rfl ?_
      refine at_nil ?_
      refine at_inb ?_
      refine at_then ?_
      refine at_region ?_
      refine at_do (does_addi rfl rfl (by (first | omega | exact ⟨Int.natCast_nonneg _, by omega⟩))) rfl rfl ?_
      refine at_do (does_move rfl) rfl rfl ?_
      refine at_nil ?_
      refine at_then ?_
      rotate_left
      refine at_again0 (i + 1) (by omega) (by omega) ⟨rfl, ?_, rfl, rfl, rfl, trivial⟩
      rw [← last_step l cnt i hi8 hl]
      rfl
  · obtain rfl : i = l.length := by omega
    have hg := word_good hv (last_wd l cnt hl)
    have c22 : ∀ w, Calls Try.prog 22 #[.agg v.cells, .int .u64 (lastF l cnt)] w fun e w' => e = .returned (.agg (wordF v (lastF l cnt)).cells) ∧ Below w.heap.size w w' := fun w => sip_word _ _ w hv (last_wd l cnt hl)
    obtain ⟨m, hm⟩ : ∃ m, m = lastF l cnt := ⟨_, rfl⟩
    have hfin : finF v l cnt = endF (wordF v m) := by rw [hm]; rfl
    rw [hfin]
    rw [← hm] at hg c22
    refine at_weak (E' := [(0, .pointer (some ⟨h, 0, none⟩)), (3, .int .u64 m), (17, .int .i64 l.length), (18, .int .i64 l.length)]) ⟨rfl, by rw [hm, List.take_length]; rfl, rfl, rfl, trivial⟩ ?_
    clear hfin hm
    generalize wordF v m = u at hg c22
    have c23 : ∀ w, Calls Try.prog 23 #[.agg #[.int .u64 u.a, .int .u64 u.b, .int .u64 (xr u.c 255), .int .u64 u.d], .int .i64 4] w fun e w' => e = .returned (.agg (rnds 4 ⟨u.a, u.b, xr u.c 255, u.d⟩).cells) ∧ Below w.heap.size w w' :=
      fun w => rounds_any ⟨u.a, u.b, xr u.c 255, u.d⟩ 4 (by decide) w ⟨hg.1, hg.2.1, wd_xr _ _ hg.2.2.1 (by unfold Wd; omega), hg.2.2.2⟩
    have hfin : endF u = xr (xr (xr (rnds 4 ⟨u.a, u.b, xr u.c 255, u.d⟩).a (rnds 4 ⟨u.a, u.b, xr u.c 255, u.d⟩).b) (rnds 4 ⟨u.a, u.b, xr u.c 255, u.d⟩).c) (rnds 4 ⟨u.a, u.b, xr u.c 255, u.d⟩).d := rfl
    rw [hfin]
    clear hfin
    generalize rnds 4 ⟨u.a, u.b, xr u.c 255, u.d⟩ = x at c23
    obtain ⟨u0, u1, u2, u3⟩ := u
    obtain ⟨x0, x1, x2, x3⟩ := x
    refine at_seq ?_
    refine at_region ?_
    refine at_do (does_lss rfl rfl) rfl rfl ?_
    refine at_nil ?_
    refine at_then ?_
    refine at_seq ?_
    refine at_cond_f rfl (decide_eq_false (by omega)) ?_
    refine at_exit ?_
    refine at_then_exit ?_
    refine at_then_exit ?_
    refine at_inb_here ?_
    refine at_then ?_
    refine at_seq ?_
    refine at_region ?_
    refine at_do (does_move rfl) rfl rfl ?_
    refine at_do (does_nilCheck rfl) rfl rfl ?_
    refine at_do (does_fieldAddr (o := 0) (by kernel_rfl) rfl) rfl rfl ?_
    refine at_do (does_loadagg_mem (vs := v.cells.toList) (by kernel_rfl) rfl (fun w' ho j u hu => Below.cellOld ho.plain (by rw [add_none, Nat.zero_add]; refine hcell j u ?_; revert hu; match j with | 0 => exact id | 1 => exact id | 2 => exact id | 3 => exact id | j + 4 => exact fun hu => by cases hu))) rfl rfl ?_
    refine at_do (does_move rfl) rfl rfl ?_
    refine at_callv (f := 22) (enters_fn (by kernel_rfl) rfl) (fun w ho => c22 w) rfl rfl ?_
    refine at_allocagg Try.zeroValue46 rfl fun gz0 => ?_
    refine at_storeagg (i := 0) (by kernel_rfl) rfl rfl rfl rfl rfl ?_
    refine at_nil ?_
    refine at_then ?_
    refine at_seq ?_
    refine at_region ?_
    refine at_do (does_indexArr (len := 4) (k := 1) (by kernel_rfl) rfl rfl (by first | decide | (omega))) rfl rfl ?_
    refine at_do (does_load (i := 0) (by kernel_rfl) rfl rfl rfl) rfl rfl ?_
    refine at_do (does_bits (by simp) rfl rfl) rfl rfl ?_
    refine at_do (does_indexArr (len := 4) (k := 1) (by kernel_rfl) rfl rfl (by first | decide | (omega))) rfl rfl ?_
    refine at_store (i := 0) (by kernel_rfl) rfl rfl rfl rfl rfl ?_
    refine at_nil ?_
    refine at_then ?_
    refine at_seq ?_
    refine at_region ?_
    refine at_do (does_loadagg (i := 0) (k := 4) (by kernel_rfl) rfl rfl rfl) rfl rfl ?_
    refine at_callv (f := 23) (enters_fn (by kernel_rfl) rfl) (fun w ho => c23 w) rfl rfl ?_
    refine at_storeagg (i := 0) (by kernel_rfl) rfl rfl rfl rfl rfl ?_
    refine at_nil ?_
    refine at_then ?_
    refine at_seq ?_
    refine at_region ?_
    refine at_do (does_indexArr (len := 4) (k := 1) (by kernel_rfl) rfl rfl (by first | decide | (omega))) rfl rfl ?_
    refine at_do (does_load (i := 0) (by kernel_rfl) rfl rfl rfl) rfl rfl ?_
    refine at_do (does_indexArr (len := 4) (k := 1) (by kernel_rfl) rfl rfl (by first | decide | (omega))) rfl rfl ?_
    refine at_do (does_load (i := 0) (by kernel_rfl) rfl rfl rfl) rfl rfl ?_
    refine at_do (does_bits (by simp) rfl rfl) rfl rfl ?_
    refine at_do (does_indexArr (len := 4) (k := 1) (by kernel_rfl) rfl rfl (by first | decide | (omega))) rfl rfl ?_
    refine at_do (does_load (i := 0) (by kernel_rfl) rfl rfl rfl) rfl rfl ?_
    refine at_do (does_bits (by simp) rfl rfl) rfl rfl ?_
    refine at_do (does_indexArr (len := 4) (k := 1) (by kernel_rfl) rfl rfl (by first | decide | (omega))) rfl rfl ?_
    refine at_do (does_load (i := 0) (by kernel_rfl) rfl rfl rfl) rfl rfl ?_
    refine at_do (does_bits (by simp) rfl rfl) rfl rfl ?_
    refine at_do (does_assign rfl) rfl rfl ?_
    refine at_nil ?_
    refine at_then ?_
    refine at_ret ?_
    refine at_ret1 rfl rfl rfl (fun w9 ho9 => ?_)
    rotate_left
    exact ⟨rfl, ho9.plain⟩
theorem hash_Count (h : Nat) (v : W4) (rv : Value) (cnt : Int) (w : World) (hb : w.heap[h]? = some (.cells (hcells v rv cnt) 49)) :
    Calls Try.prog 15 #[.pointer (some ⟨h, 0, none⟩)] w fun e w' => e = .returned (.int .i64 cnt) ∧ Below w.heap.size w w' := by
  have hcell : ∀ j u, (hcells v rv cnt)[j]? = some u → w.cell? ⟨h, j, none⟩ = some u := fun j u hu => (cell_of_row w h j _ 49 (0, 0) hb).trans hu
  refine calls_plain Try.func15 rfl Try.ntmps15 rfl ?_
  refine at_seq ?_
  refine at_region ?_
  refine at_do (does_assign rfl) rfl rfl ?_
  refine at_nil ?_
  refine at_then ?_
  refine at_seq ?_
  refine at_region ?_
  refine at_do (does_move rfl) rfl rfl ?_
  refine at_do (does_nilCheck rfl) rfl rfl ?_
  refine at_do (does_fieldAddr (o := 5) (by kernel_rfl) rfl) rfl rfl ?_
  refine at_do (does_load_mem (by kernel_rfl) rfl (fun w' ho => Below.cellOld ho.plain (hcell 5 _ rfl))) rfl rfl ?_
  refine at_do (does_assign rfl) rfl rfl ?_
  refine at_nil ?_
  refine at_then ?_
  refine at_ret ?_
  refine at_ret1 rfl rfl rfl (fun w9 ho9 => ?_)
  rotate_left
  exact ⟨rfl, ho9.plain⟩
end Go.Proofs.Ythclmpbgehkgeaa.K
