/-
  The reference's words of bytes, and its tag. No condition of its own.
-/
import Derived.Test.YthclmpbgehkgeaaSip7
set_option linter.unusedSimpArgs false
set_option linter.unusedVariables false
namespace Go.Proofs.Ythclmpbgehkgeaa.K
open Go.RowKit

section
variable {P : Program} {r : Option Nat} {n : Nat} {E : List (Nat × Value)} {C : Ctx} {H : List Res} {Q : Exit → Act → World → Prop} {ops : Array Oper} {rest : List Oper}
/-- append of bytes that lie somewhere. -/
theorem at_appendB {d i m t e : Nat} {ty : TypeId} {pos : String} {after : Array Edge} {x y : Operand} {v arg : Value} {xs : List Value} {ys : List UInt8} (hT : appT P t e 1 1 = true) (hx : ev E x = some v) (hi : H[i]? = some (.row v e 1 m xs)) (hy : ev E y = some arg)
    (hB : ∀ w, Own C H w → BytesAt w arg ys) (hb : m + ys.length ≤ 1000000) (hd : Nat.blt d n = true)
    (kk : ∀ v' : Value, v'.oneCell' = true → At n ((d, v') :: E) C (H.set i (.row v' e 1 (m + ys.length) (xs ++ byV ys))) (lwp r P ops Q rest)) :
    At n E C H (lwp r P ops Q (⟨some d, .call ⟨.builtin .append, #[x, y], #[t, t]⟩, ty, pos, after, none⟩ :: rest)) := by
  intro a w hf hdf ho
  rcases hB w ho with ⟨rfl, rfl⟩ | ⟨A, c, rfl, hc, _⟩
  · refine at_do (does_append0 hT hx hi hy) rfl hd ?_ a w hf hdf ho
    have h1 := kk v (row_one (ho.rowAt hi))
    have e1 : H.set i (.row v e 1 (m + ([] : List UInt8).length) (xs ++ byV [])) = H := by
      simp only [byV, List.map_nil, List.append_nil, List.length_nil, Nat.add_zero]
      exact List.set_eq_of_getElem? hi
    rwa [e1] at h1
  · refine at_append (A := A) (k := ys.length) (news := byV ys) hT hx hi hy (by simp [byV]) (fun w' ho' j u hu => ?_) (byV_one _) (by simp only [maxLen]; omega) hd kk a w hf hdf ho
    rcases hB w' ho' with ⟨h0, _⟩ | ⟨A', c', h0, _, hcell⟩
    · cases h0
    · simp only [Value.slice.injEq, Option.some.injEq, true_and] at h0
      obtain ⟨rfl, rfl⟩ := h0
      exact hcell j u hu
end
attribute [local irreducible] cwp lwp Exit.then Exit.inBlock Exit.noGoto wpQuiet Calls fin At AtQ Again endQ RQ rnds rnd rotl chewA wordF
theorem one_of {v : Value} (h : v.oneCell' = true) : ∀ u ∈ [v], u.oneCell' = true := by
  intro u hu
  obtain rfl : u = v := by simpa using hu
  exact h
def wv (l : List Int) : List Value := l.map (.int .u64)
theorem drop_step (T : List UInt8) (hT : T.length = 8) (j : Nat) (hj : j < 8) : wsum (T.drop (8 - (j + 1))) = (T[7 - j]'(by omega)).toNat + 256 * wsum (T.drop (8 - j)) := by
  rw [List.drop_eq_getElem_cons (by omega)]
  have e : 8 - (j + 1) + 1 = 8 - j := by omega
  simp only [wsum, show 8 - (j + 1) = 7 - j by omega, show 7 - j + 1 = 8 - j by omega]
set_option maxRecDepth 100000 in
theorem ref_Words (arg : Value) (ys : List UInt8) (w : World) (hB : BytesAt w arg ys) (hy : ys.length ≤ 100000) :
    Calls Try.prog 18 #[arg] w fun e w' => ∃ v, e = .returned v ∧ Below w.heap.size w w' ∧ w'.ownsRow w.heap.size 22 1 v (ys.length / 8 + 1) (wv (wordsOf (padB ys ys.length) (ys.length / 8 + 1))) := by
  obtain ⟨A0, c0, hA0⟩ := hB.len
  refine calls_plain Try.func18 rfl Try.ntmps18 rfl ?_
  rw [hA0]
  refine at_seq ?_
  refine at_region ?_
  refine at_do (does_assign rfl) rfl rfl ?_
  refine at_nil ?_
  refine at_then ?_
  refine at_seq ?_
  refine at_region ?_
  refine at_do (does_move rfl) rfl rfl ?_
  refine at_do (does_len (by kernel_rfl) rfl) rfl rfl ?_
  refine at_do (does_assign rfl) rfl rfl ?_
  refine at_nil ?_
  refine at_then ?_
  refine at_seq ?_
  refine at_region ?_
  refine at_buildSlice (e := 5) (sz := 1) (vs := []) (cs := []) (by kernel_rfl) rfl rfl rfl rfl rfl rfl (fun g => at_litrow (i := 0) (k := 0) 1 rfl rfl (by decide) ?_)
  refine at_do (does_move rfl) rfl rfl ?_
  refine at_appendB (i := 0) (ys := ys) (by kernel_rfl) rfl rfl rfl (fun w ho => hA0 ▸ ho.oldBytes hB) (by omega) rfl (fun v1 hv1 => ?_)
  refine at_do (does_assign rfl) rfl rfl ?_
  refine at_nil ?_
  refine at_then ?_
  refine at_seq ?_
  refine at_block ?_
  rotate_left
  refine at_loopH (σ := Value × Nat) (fun s => s.2 ≤ zcount ys.length) (fun s => [(3, .int .i64 ys.length), (4, s.1)]) (fun s => [.row s.1 5 1 (ys.length + s.2) (byV (ys ++ List.replicate s.2 0))]) (fun s => 8 - s.2)
    (fun w ho => ⟨(v1, 0), Nat.zero_le _, ⟨rfl, rfl, trivial⟩, by simpa [byV] using ho⟩) ?_
  rintro ⟨v2, z⟩ hz
  simp only at hz
  have hz7 : zcount ys.length < 8 := by unfold zcount; omega
  have hzc : zcount ys.length = (15 - ys.length % 8) % 8 := rfl
  have ez : ∀ z, byV (ys ++ List.replicate (z + 1) 0) = byV (ys ++ List.replicate z 0) ++ [.int .u8 0] := by
    intro z; rw [List.replicate_succ', ← List.append_assoc]; simp [byV]
  refine at_seq ?_
  refine at_seq ?_
  refine at_region ?_
  refine at_do (does_move rfl) rfl rfl ?_
  refine at_do (does_rowlen (i := 0) (by kernel_rfl) rfl rfl) rfl rfl ?_
  refine at_do (does_remi rfl rfl (by omega)) rfl rfl ?_
  refine at_do (does_neq rfl rfl) rfl rfl ?_
  refine at_nil ?_
  refine at_then ?_
  refine at_condD rfl (fun z0 => ?_) (fun z0 => ?_)
  refine at_skip ?_
  refine at_then ?_
  refine at_block ?_
  refine at_region ?_
  refine at_do (does_move rfl) rfl rfl ?_
  refine at_buildSlice (e := 5) (sz := 1) (vs := [.int .u8 0]) (cs := [.int .u8 0]) (by kernel_rfl) rfl rfl rfl rfl rfl rfl (fun g1 => ?_)
  refine at_append (i := 1) (sz := 1) (by' := 1) (k := 1) (A := ⟨g1, 0, none⟩) (news := [.int .u8 0]) (by kernel_rfl) rfl rfl rfl rfl (fun w ho => lit_cells ho (i := 0) rfl) (one_of rfl) (by simp only [maxLen]; omega) rfl (fun v3 hv3 => ?_)
  refine at_do (does_assign rfl) rfl rfl ?_
  refine at_nil ?_
  refine at_inb ?_
  refine at_then ?_
  rotate_left
  refine at_exit ?_
  refine at_then_exit ?_
  refine at_then_exit ?_
  refine at_inb_here ?_
  refine at_then ?_
  refine at_seq ?_
  refine at_region ?_
  refine at_do (does_move rfl) rfl rfl ?_
  refine at_do (does_move rfl) rfl rfl ?_
  refine at_do (does_remi rfl rfl (by omega)) rfl rfl ?_
  refine at_do (does_convw (k := .u8) (by kernel_rfl) (by kernel_rfl) rfl) rfl rfl ?_
  refine at_buildSlice (e := 5) (sz := 1) (vs := [.int .u8 (IntKind.u8.wrap ((ys.length : Int) % 256))]) (cs := [.int .u8 (IntKind.u8.wrap ((ys.length : Int) % 256))]) (by kernel_rfl) rfl rfl rfl rfl rfl rfl (fun g2 => ?_)
  refine at_append (i := 1) (sz := 1) (by' := 1) (k := 1) (A := ⟨g2, 0, none⟩) (news := [.int .u8 (IntKind.u8.wrap ((ys.length : Int) % 256))]) (by kernel_rfl) rfl rfl rfl rfl (fun w ho => lit_cells ho (i := 0) rfl) (one_of rfl) (by simp only [maxLen]; omega) rfl (fun va hva => ?_)
  refine at_do (does_assign rfl) rfl rfl ?_
  refine at_nil ?_
  refine at_then ?_
  refine at_seq ?_
  refine at_region ?_
  refine at_do (does_assign rfl) rfl rfl ?_
  refine at_nil ?_
  refine at_then ?_
  refine at_seq ?_
  refine at_seq ?_
  refine at_region ?_
  refine at_do (does_assign rfl) rfl rfl ?_
  refine at_nil ?_
  refine at_then ?_
  refine at_block ?_
  rotate_left
  · refine at_againw fun w ho => ⟨(v3, z + 1), ?_, by show 8 - (z + 1) < 8 - z; omega, ⟨rfl, rfl, trivial⟩, rfl, ?_⟩
    · show z + 1 ≤ zcount ys.length
      have := z0
      omega
    · show Own _ [.row v3 5 1 (ys.length + (z + 1)) (byV (ys ++ List.replicate (z + 1) 0))] w
      rw [ez]
      exact ho.sublist (List.sublist_cons_self ..)
  · have hzz : z = zcount ys.length := by have := z0; omega
    subst hzz
    obtain ⟨all, hall⟩ : ∃ all, all = padB ys ys.length := ⟨_, rfl⟩
    obtain ⟨L, hL⟩ : ∃ L, L = ys.length / 8 + 1 := ⟨_, rfl⟩
    have hlen : all.length = 8 * L := by rw [hall, hL]; exact pad_length ys ys.length
    have hcells : byV all = byV (ys ++ List.replicate (zcount ys.length) 0) ++ [.int .u8 (IntKind.u8.wrap ((ys.length : Int) % 256))] := by
      rw [hall]
      unfold padB byV
      rw [List.map_append, List.map_cons, List.map_nil]
      congr 2
    have hm : ys.length + zcount ys.length + 1 = 8 * L := by
      have h1 := congrArg List.length hall
      have h2 : (padB ys ys.length).length = ys.length + zcount ys.length + 1 := by simp only [padB, List.length_append, List.length_replicate, List.length_cons, List.length_nil]
      omega
    rw [← hall, ← hL]
    refine at_loopH (σ := Value × Nat) (fun s => s.2 ≤ L) (fun s => [(4, va), (5, s.1), (6, .int .i64 (8 * (s.2 : Int)))]) (fun s => [.row s.1 22 1 s.2 (wv (wordsOf all s.2)), .row va 5 1 (8 * L) (byV all)]) (fun s => L - s.2)
      (fun w ho => ⟨(.slice none 0 0, 0), Nat.zero_le _, ⟨rfl, rfl, rfl, trivial⟩, by
        show Own _ [.row (.slice none 0 0) 22 1 0 [], .row va 5 1 (8 * L) (byV all)] w
        rw [hcells, ← hm]
        exact (ho.sublist (List.sublist_cons_self ..)).nilrow 22 1⟩) ?_
    rintro ⟨v5, q⟩ hq
    simp only at hq
    have hL1 : L ≤ 12501 := by omega
    refine at_seq ?_
    refine at_seq ?_
    refine at_region ?_
    refine at_do (does_move rfl) rfl rfl ?_
    refine at_do (does_move rfl) rfl rfl ?_
    refine at_do (does_rowlen (i := 1) (by kernel_rfl) rfl rfl) rfl rfl ?_
    refine at_do (does_lss rfl rfl) rfl rfl ?_
    refine at_nil ?_
    refine at_then ?_
    refine at_condD rfl (fun z0 => ?_) (fun z0 => ?_)
    refine at_skip ?_
    refine at_then ?_
    refine at_seq ?_
    refine at_block ?_
    refine at_seq ?_
    refine at_region ?_
    refine at_do (does_assign rfl) rfl rfl ?_
    refine at_nil ?_
    refine at_then ?_
    refine at_seq ?_
    refine at_seq ?_
    refine at_region ?_
    refine at_do (does_assign rfl) rfl rfl ?_
    refine at_nil ?_
    refine at_then ?_
    refine at_block ?_
    rotate_left
    refine at_exit ?_
    refine at_then_exit ?_
    refine at_then_exit ?_
    refine at_inb_here ?_
    refine at_then ?_
    refine at_seq ?_
    refine at_region ?_
    refine at_do (does_move rfl) rfl rfl ?_
    refine at_do (does_assign rfl) rfl rfl ?_
    refine at_nil ?_
    refine at_then ?_
    refine at_ret ?_
    refine at_ret1 rfl rfl rfl (fun w9 ho9 => ?_)
    rotate_left
    · have hqL : q < L := by have := z0; omega
      have hT : ((all.drop (8 * q)).take 8).length = 8 := by simp; omega
      refine at_openrow (i := 1) rfl ?_
      rintro ⟨_, ⟨_, h0⟩ | ⟨ga, ca, hva'⟩⟩
      · omega
      subst hva'
      refine at_loop0 (fun j : Nat => j ≤ 8) (fun j => [(4, .slice (some ⟨ga, 0, none⟩) (8 * L) ca), (5, v5), (6, .int .i64 (8 * (q : Int))), (7, .int .u64 (wsum (((all.drop (8 * q)).take 8).drop (8 - j)) : Int)), (8, .int .i64 (7 - (j : Int)))]) (fun j => 8 - j) 0 (by omega) ⟨rfl, rfl, rfl, by rw [Nat.sub_zero, List.drop_of_length_le (by omega)]; rfl, rfl, trivial⟩ ?_
      rintro j hj
      by_cases hj8 : j < 8
      · have hb := (((all.drop (8 * q)).take 8)[7 - j]'(by omega)).toNat_lt
        have hget : (byV all)[0 + (8 * (q : Int) + (7 - (j : Int))).toNat * 1]? = some (.int .u8 (((((all.drop (8 * q)).take 8)[7 - j]'(by omega)).toNat : Nat) : Int)) := by
          have e : 0 + (8 * (q : Int) + (7 - (j : Int))).toNat * 1 = 8 * q + (7 - j) := by omega
          rw [e, byV_get (by omega)]
          simp
        refine at_seq ?_
        refine at_seq ?_
        refine at_region ?_
        refine at_do (does_move rfl) rfl rfl ?_
        refine at_do (does_geq rfl rfl) rfl rfl ?_
        refine at_nil ?_
        refine at_then ?_
        refine at_cond_t rfl (decide_eq_true (by omega)) ?_
        refine at_skip ?_
        refine at_then ?_
        refine at_seq ?_
        refine at_block ?_
        refine at_region ?_
        refine at_do (does_move rfl) rfl rfl ?_
        refine at_do (does_mul rfl rfl) rfl rfl ?_
        refine at_do (does_move rfl) rfl rfl ?_
        refine at_do (does_move rfl) rfl rfl ?_
        refine at_do (does_move rfl) rfl rfl ?_
        refine at_do (does_addi rfl rfl (by omega)) rfl rfl ?_
        refine at_do (does_indexAddr (k := 1) (by kernel_rfl) rfl rfl (by omega)) rfl rfl ?_
        refine at_do (does_rowload (i := 1) (by kernel_rfl) rfl rfl (by omega) hget) rfl rfl ?_
        refine at_do (does_convu64 (by kernel_rfl) (by kernel_rfl) rfl (by omega)) rfl rfl ?_
        refine at_do (does_add rfl rfl) rfl rfl ?_
        refine at_do (does_assign rfl) rfl rfl ?_
        refine at_nil ?_
        refine at_inb ?_
        refine at_then ?_
        refine at_region ?_
        refine at_do (does_move rfl) rfl rfl ?_
        refine at_do (does_subi rfl rfl (by omega)) rfl rfl ?_
        refine at_do (does_assign rfl) rfl rfl ?_
        refine at_nil ?_
        refine at_then ?_
        rotate_left
        have hS := drop_step _ hT j hj8
        have hlt := wsum_lt (((all.drop (8 * q)).take 8).drop (8 - j))
        have hwd : (wsum (((all.drop (8 * q)).take 8).drop (8 - (j + 1))) : Int) < 18446744073709551616 := (wsum_wd _ (by simp; omega)).2
        refine at_again0 (j + 1) (by omega) (by omega) ⟨rfl, rfl, rfl, ?_, ?_, trivial⟩
        · show some (Value.int .u64 _) = some (Value.int .u64 _)
          congr 2
          rw [IntKind.wrap_u64, IntKind.wrap_u64]
          omega
        · show some (Value.int .i64 _) = some (Value.int .i64 _)
          exact congrArg _ (congrArg _ (by omega))
      · have hj9 : j = 8 := by omega
        obtain ⟨m, hmm⟩ : ∃ m : Int, m = (wsum (((all.drop (8 * q)).take 8).drop (8 - j)) : Int) := ⟨_, rfl⟩
        refine at_weak (E' := [(4, .slice (some ⟨ga, 0, none⟩) (8 * L) ca), (5, v5), (6, .int .i64 (8 * (q : Int))), (7, .int .u64 m), (8, .int .i64 (7 - (j : Int)))]) ⟨rfl, rfl, rfl, by rw [hmm]; rfl, rfl, trivial⟩ ?_
        refine at_seq ?_
        refine at_seq ?_
        refine at_region ?_
        refine at_do (does_move rfl) rfl rfl ?_
        refine at_do (does_geq rfl rfl) rfl rfl ?_
        refine at_nil ?_
        refine at_then ?_
        refine at_cond_f rfl (decide_eq_false (by omega)) ?_
        refine at_exit ?_
        refine at_then_exit ?_
        refine at_then_exit ?_
        refine at_inb_here ?_
        refine at_then ?_
        refine at_region ?_
        refine at_do (does_move rfl) rfl rfl ?_
        refine at_do (does_move rfl) rfl rfl ?_
        refine at_buildSlice (e := 22) (sz := 1) (vs := [.int .u64 m]) (cs := [.int .u64 m]) (by kernel_rfl) rfl rfl rfl rfl rfl rfl (fun g3 => ?_)
        refine at_append (i := 1) (sz := 1) (by' := 8) (k := 1) (A := ⟨g3, 0, none⟩) (news := [.int .u64 m]) (by kernel_rfl) rfl rfl rfl rfl (fun w ho => lit_cells ho (i := 0) rfl) (one_of rfl) (by simp only [maxLen]; omega) rfl (fun v6 hv6 => ?_)
        refine at_do (does_assign rfl) rfl rfl ?_
        refine at_nil ?_
        refine at_inb ?_
        refine at_then ?_
        refine at_region ?_
        refine at_do (does_move rfl) rfl rfl ?_
        refine at_do (does_addi rfl rfl (by omega)) rfl rfl ?_
        refine at_do (does_assign rfl) rfl rfl ?_
        refine at_nil ?_
        refine at_then ?_
        rotate_left
        refine at_againw fun w ho => ⟨(v6, q + 1), ?_, by show L - (q + 1) < L - q; omega, ⟨rfl, rfl, ?_, trivial⟩, rfl, ?_⟩
        · show q + 1 ≤ L; omega
        · show some (Value.int .i64 _) = some (Value.int .i64 _)
          exact congrArg _ (congrArg _ (by simp only; omega))
        · show Own _ [.row v6 22 1 (q + 1) (wv (wordsOf all (q + 1))), .row _ 5 1 (8 * L) (byV all)] w
          have e : wv (wordsOf all (q + 1)) = wv (wordsOf all q) ++ [.int .u64 m] := by
            rw [wordsOf_succ, hmm, hj9]; simp [wv, wordAt]
          rw [e]
          exact ho.sublist (List.sublist_cons_self ..)
    · obtain rfl : q = L := by have := z0; omega
      exact ⟨_, rfl, ho9.plain, ho9.rowOut (List.mem_cons_self ..)⟩
end Go.Proofs.Ythclmpbgehkgeaa.K
