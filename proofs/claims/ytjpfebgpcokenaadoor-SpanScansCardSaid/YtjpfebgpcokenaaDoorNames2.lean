/-
  A text among rising ones, once. No condition of its own.
-/
import Derived.Test.YtjpfebgpcokenaaDoorNames1
set_option linter.unusedSimpArgs false
set_option linter.unusedVariables false
namespace Go.Proofs.YtjpfebgpcokenaaDoor
open Go.RowKit
attribute [local irreducible] cwp lwp Exit.then Exit.inBlock Exit.noGoto wpQuiet Calls fin At AtQ Again endQ RQ
theorem fil_take {α : Type} {p : α → Bool} {xs : List α} {i : Nat} (h : i < xs.length) : (xs.take (i + 1)).filter p = (xs.take i).filter p ++ (if p xs[i] then [xs[i]] else []) := by
  rw [List.take_succ_eq_append_getElem h, List.filter_append]
  simp [List.filter_cons]
theorem fil_len {α : Type} {p : α → Bool} {xs : List α} (i : Nat) : ((xs.take i).filter p).length ≤ i := Nat.le_trans (List.length_filter_le _ _) (by simp; omega)
set_option maxHeartbeats 8000000 in
theorem ref_lay (v : Value) (L : List (List UInt8)) (x : List UInt8) (w : World) (hV : ValsAt w v (strs L)) (hlen : L.length ≤ 100000) (hk : ∀ y ∈ L, y.length ≤ 1000) (hkx : x.length ≤ 1000) :
    Calls Tryd.prog 46 #[v, .string (bs x)] w fun e w' => ∃ u, e = .returned u ∧ Below w.heap.size w w' ∧ w'.ownsRow w.heap.size ST 1 u (layS L x).length (strs (layS L x)) := by
  have hl := strs_len L
  refine calls_plain Tryd.func46 rfl Tryd.ntmps46 rfl ?_
  refine at_seq ?_
  refine at_region ?_
  refine at_do (does_assign rfl) rfl rfl ?_
  refine at_nil ?_
  refine at_then ?_
  refine at_seq ?_
  refine at_region ?_
  refine at_do (does_assign rfl) rfl rfl ?_
  refine at_nil ?_
  refine at_then ?_
  refine at_seq ?_
  refine at_seq ?_
  refine at_region ?_
  refine at_do (does_assign rfl) rfl rfl ?_
  refine at_nil ?_
  refine at_then ?_
  refine at_block ?_
  rotate_left
  refine at_loopH (σ := Value × Nat) (fun s => s.2 ≤ L.length) (fun s => [(0, v), (1, .string (bs x)), (5, s.1), (6, .int .i64 s.2)]) (fun s => [.row s.1 ST 1 ((L.take s.2).filter (fun a => Op.bytesLess a x)).length (strs ((L.take s.2).filter (fun a => Op.bytesLess a x)))]) (fun s => L.length - s.2)
    (fun w ho => ⟨(.slice none 0 0, 0), Nat.zero_le _, ⟨rfl, rfl, rfl, rfl, trivial⟩, ho.nilrow ST 1⟩) ?_
  rintro ⟨u, i⟩ hi
  simp only at hi
  by_cases hil : i < L.length
  · obtain ⟨gb, o, c, rfl, hc, hlt, hcell⟩ := hV.form (by omega)
    have hx := hcell i _ (strs_get hil)
    have hkl := hk L[i] (List.getElem_mem hil)
    have hft := fil_take (p := fun a => Op.bytesLess a x) hil
    have hfl := fil_len (p := fun a => Op.bytesLess a x) (xs := L) i
    generalize L[i] = y at hx hkl hft
    cases hf : Op.bytesLess y x
    · have hft : (L.take (i + 1)).filter (fun a => Op.bytesLess a x) = (L.take i).filter (fun a => Op.bytesLess a x) := by rw [hft, hf]; simp
      refine at_seq ?_
      refine at_seq ?_
      refine at_region ?_
      refine at_do (does_move rfl) rfl rfl ?_
      refine at_do (does_move rfl) rfl rfl ?_
      refine at_do (does_vlen (vs := strs L) (by kernel_rfl) rfl (fun w ho => ho.oldVals hV)) rfl rfl ?_
      refine at_do (does_lss rfl rfl) rfl rfl ?_
      refine at_nil ?_
      refine at_then ?_
      refine at_cond_t rfl (decide_eq_true (by omega)) ?_
      refine at_skip ?_
      refine at_then ?_
      refine at_seq ?_
      refine at_block ?_
      refine at_seq ?_
      refine at_region ?_
      refine at_do (does_move rfl) rfl rfl ?_
      refine at_do (does_move rfl) rfl rfl ?_
      refine at_do (does_indexAddr1 (by kernel_rfl) rfl rfl (by (first | omega | (simp only; omega)))) rfl rfl ?_
      refine at_do (does_load_mem (by kernel_rfl) rfl (fun w' ho => Below.cellOld ho.plain hx)) rfl rfl ?_
      refine at_do (does_move rfl) rfl rfl ?_
      refine at_callv (f := 61) (enters_fn (by kernel_rfl) rfl) (fun w ho => ref_Ahead _ _ w (by omega) (by omega)) rfl rfl ?_
      refine at_nil ?_
      refine at_then ?_
      refine at_cond_f rfl (by omega) ?_
      refine at_skip ?_
      refine at_inb ?_
      refine at_then ?_
      refine at_region ?_
      refine at_do (does_move rfl) rfl rfl ?_
      refine at_do (does_addi rfl rfl (by (first | omega | (simp only; omega)))) rfl rfl ?_
      refine at_do (does_assign rfl) rfl rfl ?_
      refine at_nil ?_
      refine at_then ?_
      rotate_left
      refine at_againw fun w ho => ⟨(u, i + 1), by show i + 1 ≤ L.length; omega, by show L.length - (i + 1) < L.length - i; omega, ⟨rfl, rfl, rfl, rfl, trivial⟩, rfl, ?_⟩
      show Own _ [.row u ST 1 ((L.take (i + 1)).filter (fun a => Op.bytesLess a x)).length (strs ((L.take (i + 1)).filter (fun a => Op.bytesLess a x)))] w
      rw [hft]
      exact ho
    · have hft : (L.take (i + 1)).filter (fun a => Op.bytesLess a x) = (L.take i).filter (fun a => Op.bytesLess a x) ++ [y] := by rw [hft, hf]; simp
      refine at_seq ?_
      refine at_seq ?_
      refine at_region ?_
      refine at_do (does_move rfl) rfl rfl ?_
      refine at_do (does_move rfl) rfl rfl ?_
      refine at_do (does_vlen (vs := strs L) (by kernel_rfl) rfl (fun w ho => ho.oldVals hV)) rfl rfl ?_
      refine at_do (does_lss rfl rfl) rfl rfl ?_
      refine at_nil ?_
      refine at_then ?_
      refine at_cond_t rfl (decide_eq_true (by omega)) ?_
      refine at_skip ?_
      refine at_then ?_
      refine at_seq ?_
      refine at_block ?_
      refine at_seq ?_
      refine at_region ?_
      refine at_do (does_move rfl) rfl rfl ?_
      refine at_do (does_move rfl) rfl rfl ?_
      refine at_do (does_indexAddr1 (by kernel_rfl) rfl rfl (by (first | omega | (simp only; omega)))) rfl rfl ?_
      refine at_do (does_load_mem (by kernel_rfl) rfl (fun w' ho => Below.cellOld ho.plain hx)) rfl rfl ?_
      refine at_do (does_move rfl) rfl rfl ?_
      refine at_callv (f := 61) (enters_fn (by kernel_rfl) rfl) (fun w ho => ref_Ahead _ _ w (by omega) (by omega)) rfl rfl ?_
      refine at_nil ?_
      refine at_then ?_
      refine at_cond_t rfl (by omega) ?_
      refine at_region ?_
      refine at_do (does_move rfl) rfl rfl ?_
      refine at_do (does_move rfl) rfl rfl ?_
      refine at_do (does_move rfl) rfl rfl ?_
      refine at_do (does_indexAddr1 (by kernel_rfl) rfl rfl (by (first | omega | (simp only; omega)))) rfl rfl ?_
      refine at_do (does_load_mem (by kernel_rfl) rfl (fun w' ho => Below.cellOld ho.plain hx)) rfl rfl ?_
      refine at_buildSlice (e := ST) (sz := 1) (vs := [.string (bs y)]) (cs := [.string (bs y)]) (by kernel_rfl) rfl rfl rfl rfl rfl rfl (fun hl => ?_)
      refine at_append (i := 1) (e := ST) (sz := 1) (by' := 16) (m := ((L.take i).filter (fun a => Op.bytesLess a x)).length) (k := 1) (news := [.string (bs y)]) (by kernel_rfl) rfl rfl rfl rfl (fun w ho => lit_cells ho (i := 0) rfl) (str_one y) (by simp only [maxLen]; omega) rfl (fun v4 hv4 => ?_)
      refine at_do (does_assign rfl) rfl rfl ?_
      refine at_nil ?_
      refine at_inb ?_
      refine at_then ?_
      refine at_region ?_
      refine at_do (does_move rfl) rfl rfl ?_
      refine at_do (does_addi rfl rfl (by (first | omega | (simp only; omega)))) rfl rfl ?_
      refine at_do (does_assign rfl) rfl rfl ?_
      refine at_nil ?_
      refine at_then ?_
      rotate_left
      refine at_againw fun w ho => ⟨(v4, i + 1), by show i + 1 ≤ L.length; omega, by show L.length - (i + 1) < L.length - i; omega, ⟨rfl, rfl, rfl, rfl, trivial⟩, rfl, ?_⟩
      show Own _ [.row v4 ST 1 ((L.take (i + 1)).filter (fun a => Op.bytesLess a x)).length (strs ((L.take (i + 1)).filter (fun a => Op.bytesLess a x)))] w
      rw [hft, strs_snoc, List.length_append]
      exact ho.sublist (List.sublist_cons_self ..)
  · obtain rfl : i = L.length := by omega
    obtain ⟨P1, hP1⟩ : ∃ P, P = L.filter (fun a => Op.bytesLess a x) := ⟨_, rfl⟩
    have e0 : (L.take L.length).filter (fun a => Op.bytesLess a x) = P1 := by rw [List.take_length, hP1]
    have hP1l : P1.length ≤ 100000 := by rw [hP1]; exact Nat.le_trans (List.length_filter_le _ _) hlen
    simp only [e0]
    obtain ⟨P0, hP0⟩ : ∃ P, P = P1 ++ [x] := ⟨_, rfl⟩
    have hP0l : P0.length ≤ 100001 := by rw [hP0]; simp; omega
    have hW : layS L x = P0 ++ L.filter (fun a => Op.bytesLess x a) := by rw [hP0, hP1, layS]
    refine at_seq ?_
    refine at_seq ?_
    refine at_region ?_
    refine at_do (does_move rfl) rfl rfl ?_
    refine at_do (does_move rfl) rfl rfl ?_
    refine at_do (does_vlen (vs := strs L) (by kernel_rfl) rfl (fun w ho => ho.oldVals hV)) rfl rfl ?_
    refine at_do (does_lss rfl rfl) rfl rfl ?_
    refine at_nil ?_
    refine at_then ?_
    refine at_cond_f rfl (decide_eq_false (by omega)) ?_
    refine at_exit ?_
    refine at_then_exit ?_
    refine at_then_exit ?_
    refine at_inb_here ?_
    refine at_then ?_
    refine at_seq ?_
    refine at_region ?_
    refine at_do (does_move rfl) rfl rfl ?_
    refine at_do (does_move rfl) rfl rfl ?_
    refine at_buildSlice (e := ST) (sz := 1) (vs := [.string (bs x)]) (cs := [.string (bs x)]) (by kernel_rfl) rfl rfl rfl rfl rfl rfl (fun hl => ?_)
    refine at_append (i := 1) (e := ST) (sz := 1) (by' := 16) (m := P1.length) (k := 1) (news := [.string (bs x)]) (by kernel_rfl) rfl rfl rfl rfl (fun w ho => lit_cells ho (i := 0) rfl) (str_one x) (by simp only [maxLen]; omega) rfl (fun v4 hv4 => ?_)
    refine at_do (does_assign rfl) rfl rfl ?_
    refine at_nil ?_
    refine at_then ?_
    refine at_seq ?_
    refine at_seq ?_
    refine at_region ?_
    refine at_do (does_assign rfl) rfl rfl ?_
    refine at_nil ?_
    refine at_then ?_
    refine at_block ?_
    rotate_left
    refine at_loopH (σ := Value × Nat) (fun s => s.2 ≤ L.length) (fun s => [(0, v), (1, .string (bs x)), (5, s.1), (7, .int .i64 s.2)]) (fun s => [.row s.1 ST 1 (P0 ++ (L.take s.2).filter (fun a => Op.bytesLess x a)).length (strs (P0 ++ (L.take s.2).filter (fun a => Op.bytesLess x a)))]) (fun s => L.length - s.2)
      (fun w ho => ⟨(v4, 0), Nat.zero_le _, ⟨rfl, rfl, rfl, rfl, trivial⟩, by
        have := ho.sublist (List.sublist_cons_self ..)
        show Own _ [.row v4 ST 1 (P0 ++ (L.take 0).filter (fun a => Op.bytesLess x a)).length (strs (P0 ++ (L.take 0).filter (fun a => Op.bytesLess x a)))] w
        rw [List.take_zero, List.filter_nil, List.append_nil, hP0, strs_snoc, List.length_append]
        exact this⟩) ?_
    rintro ⟨u, i⟩ hi
    simp only at hi
    by_cases hil : i < L.length
    · obtain ⟨gb, o, c, rfl, hc, hlt, hcell⟩ := hV.form (by omega)
      have hx := hcell i _ (strs_get hil)
      have hkl := hk L[i] (List.getElem_mem hil)
      have hft := fil_take (p := fun a => Op.bytesLess x a) hil
      have hfl := fil_len (p := fun a => Op.bytesLess x a) (xs := L) i
      have hll : (P0 ++ (L.take i).filter (fun a => Op.bytesLess x a)).length ≤ 300000 := by rw [List.length_append]; omega
      generalize L[i] = y at hx hkl hft
      cases hf : Op.bytesLess x y
      · have hft : (P0 ++ (L.take (i + 1)).filter (fun a => Op.bytesLess x a)) = (P0 ++ (L.take i).filter (fun a => Op.bytesLess x a)) := by rw [hft, hf]; simp
        refine at_seq ?_
        refine at_seq ?_
        refine at_region ?_
        refine at_do (does_move rfl) rfl rfl ?_
        refine at_do (does_move rfl) rfl rfl ?_
        refine at_do (does_vlen (vs := strs L) (by kernel_rfl) rfl (fun w ho => ho.oldVals hV)) rfl rfl ?_
        refine at_do (does_lss rfl rfl) rfl rfl ?_
        refine at_nil ?_
        refine at_then ?_
        refine at_cond_t rfl (decide_eq_true (by omega)) ?_
        refine at_skip ?_
        refine at_then ?_
        refine at_seq ?_
        refine at_block ?_
        refine at_seq ?_
        refine at_region ?_
        refine at_do (does_move rfl) rfl rfl ?_
        refine at_do (does_move rfl) rfl rfl ?_
        refine at_do (does_move rfl) rfl rfl ?_
        refine at_do (does_indexAddr1 (by kernel_rfl) rfl rfl (by (first | omega | (simp only; omega)))) rfl rfl ?_
        refine at_do (does_load_mem (by kernel_rfl) rfl (fun w' ho => Below.cellOld ho.plain hx)) rfl rfl ?_
        refine at_callv (f := 61) (enters_fn (by kernel_rfl) rfl) (fun w ho => ref_Ahead _ _ w (by omega) (by omega)) rfl rfl ?_
        refine at_nil ?_
        refine at_then ?_
        refine at_cond_f rfl (by omega) ?_
        refine at_skip ?_
        refine at_inb ?_
        refine at_then ?_
        refine at_region ?_
        refine at_do (does_move rfl) rfl rfl ?_
        refine at_do (does_addi rfl rfl (by (first | omega | (simp only; omega)))) rfl rfl ?_
        refine at_do (does_assign rfl) rfl rfl ?_
        refine at_nil ?_
        refine at_then ?_
        rotate_left
        refine at_againw fun w ho => ⟨(u, i + 1), by show i + 1 ≤ L.length; omega, by show L.length - (i + 1) < L.length - i; omega, ⟨rfl, rfl, rfl, rfl, trivial⟩, rfl, ?_⟩
        show Own _ [.row u ST 1 (P0 ++ (L.take (i + 1)).filter (fun a => Op.bytesLess x a)).length (strs (P0 ++ (L.take (i + 1)).filter (fun a => Op.bytesLess x a)))] w
        rw [hft]
        exact ho
      · have hft : (P0 ++ (L.take (i + 1)).filter (fun a => Op.bytesLess x a)) = (P0 ++ (L.take i).filter (fun a => Op.bytesLess x a)) ++ [y] := by rw [hft, hf]; simp
        refine at_seq ?_
        refine at_seq ?_
        refine at_region ?_
        refine at_do (does_move rfl) rfl rfl ?_
        refine at_do (does_move rfl) rfl rfl ?_
        refine at_do (does_vlen (vs := strs L) (by kernel_rfl) rfl (fun w ho => ho.oldVals hV)) rfl rfl ?_
        refine at_do (does_lss rfl rfl) rfl rfl ?_
        refine at_nil ?_
        refine at_then ?_
        refine at_cond_t rfl (decide_eq_true (by omega)) ?_
        refine at_skip ?_
        refine at_then ?_
        refine at_seq ?_
        refine at_block ?_
        refine at_seq ?_
        refine at_region ?_
        refine at_do (does_move rfl) rfl rfl ?_
        refine at_do (does_move rfl) rfl rfl ?_
        refine at_do (does_move rfl) rfl rfl ?_
        refine at_do (does_indexAddr1 (by kernel_rfl) rfl rfl (by (first | omega | (simp only; omega)))) rfl rfl ?_
        refine at_do (does_load_mem (by kernel_rfl) rfl (fun w' ho => Below.cellOld ho.plain hx)) rfl rfl ?_
        refine at_callv (f := 61) (enters_fn (by kernel_rfl) rfl) (fun w ho => ref_Ahead _ _ w (by omega) (by omega)) rfl rfl ?_
        refine at_nil ?_
        refine at_then ?_
        refine at_cond_t rfl (by omega) ?_
        refine at_region ?_
        refine at_do (does_move rfl) rfl rfl ?_
        refine at_do (does_move rfl) rfl rfl ?_
        refine at_do (does_move rfl) rfl rfl ?_
        refine at_do (does_indexAddr1 (by kernel_rfl) rfl rfl (by (first | omega | (simp only; omega)))) rfl rfl ?_
        refine at_do (does_load_mem (by kernel_rfl) rfl (fun w' ho => Below.cellOld ho.plain hx)) rfl rfl ?_
        refine at_buildSlice (e := ST) (sz := 1) (vs := [.string (bs y)]) (cs := [.string (bs y)]) (by kernel_rfl) rfl rfl rfl rfl rfl rfl (fun hl => ?_)
        refine at_append (i := 1) (e := ST) (sz := 1) (by' := 16) (m := (P0 ++ (L.take i).filter (fun a => Op.bytesLess x a)).length) (k := 1) (news := [.string (bs y)]) (by kernel_rfl) rfl rfl rfl rfl (fun w ho => lit_cells ho (i := 0) rfl) (str_one y) (by simp only [maxLen]; omega) rfl (fun v5 hv5 => ?_)
        refine at_do (does_assign rfl) rfl rfl ?_
        refine at_nil ?_
        refine at_inb ?_
        refine at_then ?_
        refine at_region ?_
        refine at_do (does_move rfl) rfl rfl ?_
        refine at_do (does_addi rfl rfl (by (first | omega | (simp only; omega)))) rfl rfl ?_
        refine at_do (does_assign rfl) rfl rfl ?_
        refine at_nil ?_
        refine at_then ?_
        rotate_left
        refine at_againw fun w ho => ⟨(v5, i + 1), by show i + 1 ≤ L.length; omega, by show L.length - (i + 1) < L.length - i; omega, ⟨rfl, rfl, rfl, rfl, trivial⟩, rfl, ?_⟩
        show Own _ [.row v5 ST 1 (P0 ++ (L.take (i + 1)).filter (fun a => Op.bytesLess x a)).length (strs (P0 ++ (L.take (i + 1)).filter (fun a => Op.bytesLess x a)))] w
        rw [hft, strs_snoc, List.length_append (bs := [y])]
        exact ho.sublist (List.sublist_cons_self ..)
    · obtain rfl : i = L.length := by omega
      have e9 : P0 ++ (L.take L.length).filter (fun a => Op.bytesLess x a) = layS L x := by rw [List.take_length, hW]
      simp only [e9]
      refine at_seq ?_
      refine at_seq ?_
      refine at_region ?_
      refine at_do (does_move rfl) rfl rfl ?_
      refine at_do (does_move rfl) rfl rfl ?_
      refine at_do (does_vlen (vs := strs L) (by kernel_rfl) rfl (fun w ho => ho.oldVals hV)) rfl rfl ?_
      refine at_do (does_lss rfl rfl) rfl rfl ?_
      refine at_nil ?_
      refine at_then ?_
      refine at_cond_f rfl (decide_eq_false (by omega)) ?_
      refine at_exit ?_
      refine at_then_exit ?_
      refine at_then_exit ?_
      refine at_inb_here ?_
      refine at_then ?_
      refine at_seq ?_
      refine at_region ?_
      refine at_do (does_move rfl) rfl rfl ?_
      refine at_do (does_assign rfl) rfl rfl ?_
      refine at_nil ?_
      refine at_then ?_
      refine at_ret ?_
      refine at_ret1 rfl rfl rfl (fun w9 ho9 => ?_)
      rotate_left
      exact ⟨_, rfl, ho9.plain, ho9.rowOut (List.mem_cons_self ..)⟩
end Go.Proofs.YtjpfebgpcokenaaDoor
