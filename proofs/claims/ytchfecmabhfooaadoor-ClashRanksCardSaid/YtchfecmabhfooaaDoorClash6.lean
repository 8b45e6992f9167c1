/-
  The wants that are looked at. No condition of its own.
-/
import Derived.Test.YtchfecmabhfooaaDoorClash5
import Derived.Test.YtchfecmabhfooaaDoorKey7
set_option linter.unusedSimpArgs false
set_option linter.unusedVariables false
namespace Go.Proofs.YtchfecmabhfooaaDoor
open Go.RowKit
attribute [local irreducible] cwp lwp Exit.then Exit.inBlock Exit.noGoto wpQuiet Calls fin At AtQ Again endQ RQ

/-- The patterns that are looked at. -/
def cutL (L : List (List UInt8)) : List (List UInt8) := (L.take 20).map (·.take 60)
theorem cutL_short (L : List (List UInt8)) : Short (cutL L) := by
  refine ⟨by simp [cutL]; omega, fun x hx => ?_⟩
  obtain ⟨y, _, rfl⟩ := List.mem_map.1 hx
  simp; omega
set_option maxHeartbeats 4000000 in
theorem law_patterns (v0 : Value) (L0 : List (List UInt8)) (w : World) (hV0 : ValsAt w v0 (strs L0)) :
    Calls Tryd.prog 60 #[v0] w fun e w' => ∃ v, e = .returned v ∧ Below w.heap.size w w' ∧ w'.ownsRow w.heap.size 9 1 v (cutL L0).length (strs (cutL L0)) := by
  obtain ⟨Lt, hLt⟩ : ∃ Lt, Lt = L0.take 20 := ⟨_, rfl⟩
  have hcut : cutL L0 = Lt.map (·.take 60) := by rw [hLt]; rfl
  have hn : Lt.length ≤ 20 := by rw [hLt]; simp; omega
  have hl0 := strs_len L0
  rw [hcut, List.length_map]
  by_cases hs : 20 < L0.length
  · refine calls_plain Tryd.func60 rfl Tryd.ntmps60 rfl ?_
    refine at_seq ?_
    refine at_region ?_
    refine at_do (does_assign rfl) rfl rfl ?_
    refine at_nil ?_
    refine at_then ?_
    refine at_seq ?_
    refine at_seq ?_
    refine at_region ?_
    refine at_do (does_move rfl) rfl rfl ?_
    refine at_do (does_vlen (vs := strs L0) (by kernel_rfl) rfl (fun w ho => ho.oldVals hV0)) rfl rfl ?_
    refine at_do (does_gtr rfl rfl) rfl rfl ?_
    refine at_nil ?_
    refine at_then ?_
    refine at_cond_t rfl (decide_eq_true (by omega)) ?_
    refine at_region ?_
    refine at_do (does_move rfl) rfl rfl ?_
    refine at_do (does_vhi (vs := strs L0) (q := 20) (by kernel_rfl) rfl rfl (fun w ho => ho.oldVals hV0) (by omega)) rfl rfl ?_
    refine at_do (does_assign rfl) rfl rfl ?_
    refine at_nil ?_
    refine at_then ?_
    refine at_seq ?_
    refine at_region ?_
    refine at_do (does_assign rfl) rfl rfl ?_
    refine at_nil ?_
    refine at_then ?_
    refine at_seq ?_
    refine at_seq ?_
    refine at_region ?_
    refine at_do (does_assign rfl) rfl rfl ?_
    refine at_nil ?_
    refine at_then ?_
    refine at_block ?_
    rotate_left
    have hV : ValsAt w (hiV 20 v0) (strs Lt) := by rw [hLt]; have h := hi_vals (q := 20) hV0 (by omega); simpa [strs, List.map_take] using h
    have hlt := strs_len Lt
    refine at_loopH (σ := Value × Nat) (fun s => s.2 ≤ Lt.length) (fun s => [(0, (hiV 20 v0)), (3, s.1), (4, .int .i64 s.2)]) (fun s => [.row s.1 9 1 s.2 (strs ((Lt.map (·.take 60)).take s.2))]) (fun s => Lt.length - s.2)
      (fun w ho => ⟨(.slice none 0 0, 0), Nat.zero_le _, ⟨rfl, rfl, rfl, trivial⟩, ho.nilrow 9 1⟩) ?_
    rintro ⟨v3, i⟩ hi
    simp only at hi
    by_cases hil : i < Lt.length
    · obtain ⟨gb, o, c, hve, hc, hltb, hcell⟩ := hV.form (by omega)
      rw [hve]
      have hci := hcell i _ (strs_get hil)
      have hsucc : strs ((Lt.map (·.take 60)).take (i + 1)) = strs ((Lt.map (·.take 60)).take i) ++ [.string (bs (Lt[i].take 60))] := by
        rw [List.take_succ_eq_append_getElem (by simpa using hil)]; simp [strs]
      generalize Lt[i] = x at hci hsucc
      by_cases hx : 60 < x.length
      · refine at_seq ?_
        refine at_seq ?_
        refine at_region ?_
        refine at_do (does_move rfl) rfl rfl ?_
        refine at_do (does_move rfl) rfl rfl ?_
        refine at_do (does_len (by kernel_rfl) rfl) rfl rfl ?_
        refine at_do (does_lss rfl rfl) rfl rfl ?_
        refine at_nil ?_
        refine at_then ?_
        refine at_cond_t rfl (decide_eq_true (by omega)) ?_
        refine at_skip ?_
        refine at_then ?_
        refine at_seq ?_
        refine at_block ?_
        refine at_seq ?_
        refine at_region ?_
        refine at_do (does_move rfl) rfl rfl ?_
        refine at_do (does_move rfl) rfl rfl ?_
        refine at_do (does_indexAddr1 (by kernel_rfl) rfl rfl (by (first | omega | (simp only; omega)))) rfl rfl ?_
        refine at_do (does_load_mem (by kernel_rfl) rfl (fun w' ho => Below.cellOld ho.plain hci)) rfl rfl ?_
        refine at_do (does_assign rfl) rfl rfl ?_
        refine at_nil ?_
        refine at_then ?_
        refine at_seq ?_
        refine at_seq ?_
        refine at_region ?_
        refine at_do (does_move rfl) rfl rfl ?_
        refine at_do (does_slen (by kernel_rfl) rfl) rfl rfl ?_
        refine at_do (does_gtr rfl rfl) rfl rfl ?_
        refine at_nil ?_
        refine at_then ?_
        refine at_cond_t rfl (decide_eq_true (by omega)) ?_
        refine at_region ?_
        refine at_do (does_move rfl) rfl rfl ?_
        refine at_do (does_sslice_hi (by kernel_rfl) rfl rfl (by (first | omega | (simp only; omega)))) rfl rfl ?_
        refine at_do (does_assign rfl) rfl rfl ?_
        refine at_nil ?_
        refine at_then ?_
        refine at_region ?_
        refine at_do (does_move rfl) rfl rfl ?_
        refine at_do (does_move rfl) rfl rfl ?_
        refine at_buildSlice (e := 9) (sz := 1) (vs := [.string (bs (x.take 60))]) (cs := [.string (bs (x.take 60))]) (by kernel_rfl) rfl rfl rfl rfl rfl rfl (fun g => ?_)
        refine at_append (i := 1) (sz := 1) (by' := 16) (k := 1) (A := ⟨g, 0, none⟩) (news := [.string (bs (x.take 60))]) (by kernel_rfl) rfl rfl rfl rfl (fun w ho => lit_cells ho (i := 0) rfl) (oneCell_of rfl) (by simp only [maxLen]; omega) rfl (fun v4 hv4 => ?_)
        refine at_do (does_assign rfl) rfl rfl ?_
        refine at_nil ?_
        refine at_inb ?_
        refine at_then ?_
        refine at_region ?_
        refine at_do (does_move rfl) rfl rfl ?_
        refine at_do (does_addi rfl rfl (by (first | omega | (simp only; omega)))) rfl rfl ?_
        refine at_do (does_assign rfl) rfl rfl ?_
        refine at_nil ?_
        refine at_then ?_
        rotate_left
        refine at_againw fun w ho => ⟨(v4, i + 1), by show i + 1 ≤ Lt.length; omega, by show Lt.length - (i + 1) < Lt.length - i; omega, ⟨rfl, rfl, rfl, trivial⟩, rfl, ?_⟩
        show Own _ [.row v4 9 1 (i + 1) (strs ((Lt.map (·.take 60)).take (i + 1)))] w
        rw [hsucc]
        exact ho.sublist (List.sublist_cons_self ..)
      · have hxe : x.take 60 = x := List.take_of_length_le (by omega)
        rw [hxe] at hsucc
        refine at_seq ?_
        refine at_seq ?_
        refine at_region ?_
        refine at_do (does_move rfl) rfl rfl ?_
        refine at_do (does_move rfl) rfl rfl ?_
        refine at_do (does_len (by kernel_rfl) rfl) rfl rfl ?_
        refine at_do (does_lss rfl rfl) rfl rfl ?_
        refine at_nil ?_
        refine at_then ?_
        refine at_cond_t rfl (decide_eq_true (by omega)) ?_
        refine at_skip ?_
        refine at_then ?_
        refine at_seq ?_
        refine at_block ?_
        refine at_seq ?_
        refine at_region ?_
        refine at_do (does_move rfl) rfl rfl ?_
        refine at_do (does_move rfl) rfl rfl ?_
        refine at_do (does_indexAddr1 (by kernel_rfl) rfl rfl (by (first | omega | (simp only; omega)))) rfl rfl ?_
        refine at_do (does_load_mem (by kernel_rfl) rfl (fun w' ho => Below.cellOld ho.plain hci)) rfl rfl ?_
        refine at_do (does_assign rfl) rfl rfl ?_
        refine at_nil ?_
        refine at_then ?_
        refine at_seq ?_
        refine at_seq ?_
        refine at_region ?_
        refine at_do (does_move rfl) rfl rfl ?_
        refine at_do (does_slen (by kernel_rfl) rfl) rfl rfl ?_
        refine at_do (does_gtr rfl rfl) rfl rfl ?_
        refine at_nil ?_
        refine at_then ?_
        refine at_cond_f rfl (decide_eq_false (by omega)) ?_
        refine at_skip ?_
        refine at_then ?_
        refine at_region ?_
        refine at_do (does_move rfl) rfl rfl ?_
        refine at_do (does_move rfl) rfl rfl ?_
        refine at_buildSlice (e := 9) (sz := 1) (vs := [.string (bs x)]) (cs := [.string (bs x)]) (by kernel_rfl) rfl rfl rfl rfl rfl rfl (fun g => ?_)
        refine at_append (i := 1) (sz := 1) (by' := 16) (k := 1) (A := ⟨g, 0, none⟩) (news := [.string (bs x)]) (by kernel_rfl) rfl rfl rfl rfl (fun w ho => lit_cells ho (i := 0) rfl) (oneCell_of rfl) (by simp only [maxLen]; omega) rfl (fun v4 hv4 => ?_)
        refine at_do (does_assign rfl) rfl rfl ?_
        refine at_nil ?_
        refine at_inb ?_
        refine at_then ?_
        refine at_region ?_
        refine at_do (does_move rfl) rfl rfl ?_
        refine at_do (does_addi rfl rfl (by (first | omega | (simp only; omega)))) rfl rfl ?_
        refine at_do (does_assign rfl) rfl rfl ?_
        refine at_nil ?_
        refine at_then ?_
        rotate_left
        refine at_againw fun w ho => ⟨(v4, i + 1), by show i + 1 ≤ Lt.length; omega, by show Lt.length - (i + 1) < Lt.length - i; omega, ⟨rfl, rfl, rfl, trivial⟩, rfl, ?_⟩
        show Own _ [.row v4 9 1 (i + 1) (strs ((Lt.map (·.take 60)).take (i + 1)))] w
        rw [hsucc]
        exact ho.sublist (List.sublist_cons_self ..)
    · obtain rfl : i = Lt.length := by omega
      refine at_seq ?_
      refine at_seq ?_
      refine at_region ?_
      refine at_do (does_move rfl) rfl rfl ?_
      refine at_do (does_move rfl) rfl rfl ?_
      refine at_do (does_vlen (vs := strs Lt) (by kernel_rfl) rfl (fun w ho => ho.oldVals hV)) rfl rfl ?_
      refine at_do (does_lss rfl rfl) rfl rfl ?_
      refine at_nil ?_
      refine at_then ?_
      refine at_cond_f rfl (decide_eq_false (by omega)) ?_
      refine at_exit ?_
      refine at_then_exit ?_
      refine at_then_exit ?_
      refine at_inb_here ?_
      refine at_then ?_
      refine at_seq ?_
      refine at_region ?_
      refine at_do (does_move rfl) rfl rfl ?_
      refine at_do (does_assign rfl) rfl rfl ?_
      refine at_nil ?_
      refine at_then ?_
      refine at_ret ?_
      refine at_ret1 rfl rfl rfl (fun w9 ho9 => ?_)
      rotate_left
      have e : (Lt.map (·.take 60)).take Lt.length = Lt.map (·.take 60) := List.take_of_length_le (by simp)
      refine ⟨v3, rfl, ho9.plain, ?_⟩
      have := ho9.rowOut (List.mem_cons_self ..)
      rw [e] at this
      exact this
  · refine calls_plain Tryd.func60 rfl Tryd.ntmps60 rfl ?_
    refine at_seq ?_
    refine at_region ?_
    refine at_do (does_assign rfl) rfl rfl ?_
    refine at_nil ?_
    refine at_then ?_
    refine at_seq ?_
    refine at_seq ?_
    refine at_region ?_
    refine at_do (does_move rfl) rfl rfl ?_
    refine at_do (does_vlen (vs := strs L0) (by kernel_rfl) rfl (fun w ho => ho.oldVals hV0)) rfl rfl ?_
    refine at_do (does_gtr rfl rfl) rfl rfl ?_
    refine at_nil ?_
    refine at_then ?_
    refine at_cond_f rfl (decide_eq_false (by omega)) ?_
    refine at_skip ?_
    refine at_then ?_
    refine at_seq ?_
    refine at_region ?_
    refine at_do (does_assign rfl) rfl rfl ?_
    refine at_nil ?_
    refine at_then ?_
    refine at_seq ?_
    refine at_seq ?_
    refine at_region ?_
    refine at_do (does_assign rfl) rfl rfl ?_
    refine at_nil ?_
    refine at_then ?_
    refine at_block ?_
    rotate_left
    have hV : ValsAt w v0 (strs Lt) := by rw [hLt, List.take_of_length_le (by omega)]; exact hV0
    have hlt := strs_len Lt
    refine at_loopH (σ := Value × Nat) (fun s => s.2 ≤ Lt.length) (fun s => [(0, v0), (3, s.1), (4, .int .i64 s.2)]) (fun s => [.row s.1 9 1 s.2 (strs ((Lt.map (·.take 60)).take s.2))]) (fun s => Lt.length - s.2)
      (fun w ho => ⟨(.slice none 0 0, 0), Nat.zero_le _, ⟨rfl, rfl, rfl, trivial⟩, ho.nilrow 9 1⟩) ?_
    rintro ⟨v3, i⟩ hi
    simp only at hi
    by_cases hil : i < Lt.length
    · obtain ⟨gb, o, c, hve, hc, hltb, hcell⟩ := hV.form (by omega)
      rw [hve]
      have hci := hcell i _ (strs_get hil)
      have hsucc : strs ((Lt.map (·.take 60)).take (i + 1)) = strs ((Lt.map (·.take 60)).take i) ++ [.string (bs (Lt[i].take 60))] := by
        rw [List.take_succ_eq_append_getElem (by simpa using hil)]; simp [strs]
      generalize Lt[i] = x at hci hsucc
      by_cases hx : 60 < x.length
      · refine at_seq ?_
        refine at_seq ?_
        refine at_region ?_
        refine at_do (does_move rfl) rfl rfl ?_
        refine at_do (does_move rfl) rfl rfl ?_
        refine at_do (does_len (by kernel_rfl) rfl) rfl rfl ?_
        refine at_do (does_lss rfl rfl) rfl rfl ?_
        refine at_nil ?_
        refine at_then ?_
        refine at_cond_t rfl (decide_eq_true (by omega)) ?_
        refine at_skip ?_
        refine at_then ?_
        refine at_seq ?_
        refine at_block ?_
        refine at_seq ?_
        refine at_region ?_
        refine at_do (does_move rfl) rfl rfl ?_
        refine at_do (does_move rfl) rfl rfl ?_
        refine at_do (does_indexAddr1 (by kernel_rfl) rfl rfl (by (first | omega | (simp only; omega)))) rfl rfl ?_
        refine at_do (does_load_mem (by kernel_rfl) rfl (fun w' ho => Below.cellOld ho.plain hci)) rfl rfl ?_
        refine at_do (does_assign rfl) rfl rfl ?_
        refine at_nil ?_
        refine at_then ?_
        refine at_seq ?_
        refine at_seq ?_
        refine at_region ?_
        refine at_do (does_move rfl) rfl rfl ?_
        refine at_do (does_slen (by kernel_rfl) rfl) rfl rfl ?_
        refine at_do (does_gtr rfl rfl) rfl rfl ?_
        refine at_nil ?_
        refine at_then ?_
        refine at_cond_t rfl (decide_eq_true (by omega)) ?_
        refine at_region ?_
        refine at_do (does_move rfl) rfl rfl ?_
        refine at_do (does_sslice_hi (by kernel_rfl) rfl rfl (by (first | omega | (simp only; omega)))) rfl rfl ?_
        refine at_do (does_assign rfl) rfl rfl ?_
        refine at_nil ?_
        refine at_then ?_
        refine at_region ?_
        refine at_do (does_move rfl) rfl rfl ?_
        refine at_do (does_move rfl) rfl rfl ?_
        refine at_buildSlice (e := 9) (sz := 1) (vs := [.string (bs (x.take 60))]) (cs := [.string (bs (x.take 60))]) (by kernel_rfl) rfl rfl rfl rfl rfl rfl (fun g => ?_)
        refine at_append (i := 1) (sz := 1) (by' := 16) (k := 1) (A := ⟨g, 0, none⟩) (news := [.string (bs (x.take 60))]) (by kernel_rfl) rfl rfl rfl rfl (fun w ho => lit_cells ho (i := 0) rfl) (oneCell_of rfl) (by simp only [maxLen]; omega) rfl (fun v4 hv4 => ?_)
        refine at_do (does_assign rfl) rfl rfl ?_
        refine at_nil ?_
        refine at_inb ?_
        refine at_then ?_
        refine at_region ?_
        refine at_do (does_move rfl) rfl rfl ?_
        refine at_do (does_addi rfl rfl (by (first | omega | (simp only; omega)))) rfl rfl ?_
        refine at_do (does_assign rfl) rfl rfl ?_
        refine at_nil ?_
        refine at_then ?_
        rotate_left
        refine at_againw fun w ho => ⟨(v4, i + 1), by show i + 1 ≤ Lt.length; omega, by show Lt.length - (i + 1) < Lt.length - i; omega, ⟨rfl, rfl, rfl, trivial⟩, rfl, ?_⟩
        show Own _ [.row v4 9 1 (i + 1) (strs ((Lt.map (·.take 60)).take (i + 1)))] w
        rw [hsucc]
        exact ho.sublist (List.sublist_cons_self ..)
      · have hxe : x.take 60 = x := List.take_of_length_le (by omega)
        rw [hxe] at hsucc
        refine at_seq ?_
        refine at_seq ?_
        refine at_region ?_
        refine at_do (does_move rfl) rfl rfl ?_
        refine at_do (does_move rfl) rfl rfl ?_
        refine at_do (does_len (by kernel_rfl) rfl) rfl rfl ?_
        refine at_do (does_lss rfl rfl) rfl rfl ?_
        refine at_nil ?_
        refine at_then ?_
        refine at_cond_t rfl (decide_eq_true (by omega)) ?_
        refine at_skip ?_
        refine at_then ?_
        refine at_seq ?_
        refine at_block ?_
        refine at_seq ?_
        refine at_region ?_
        refine at_do (does_move rfl) rfl rfl ?_
        refine at_do (does_move rfl) rfl rfl ?_
        refine at_do (does_indexAddr1 (by kernel_rfl) rfl rfl (by (first | omega | (simp only; omega)))) rfl rfl ?_
        refine at_do (does_load_mem (by kernel_rfl) rfl (fun w' ho => Below.cellOld ho.plain hci)) rfl rfl ?_
        refine at_do (does_assign rfl) rfl rfl ?_
        refine at_nil ?_
        refine at_then ?_
        refine at_seq ?_
        refine at_seq ?_
        refine at_region ?_
        refine at_do (does_move rfl) rfl rfl ?_
        refine at_do (does_slen (by kernel_rfl) rfl) rfl rfl ?_
        refine at_do (does_gtr rfl rfl) rfl rfl ?_
        refine at_nil ?_
        refine at_then ?_
        refine at_cond_f rfl (decide_eq_false (by omega)) ?_
        refine at_skip ?_
        refine at_then ?_
        refine at_region ?_
        refine at_do (does_move rfl) rfl rfl ?_
        refine at_do (does_move rfl) rfl rfl ?_
        refine at_buildSlice (e := 9) (sz := 1) (vs := [.string (bs x)]) (cs := [.string (bs x)]) (by kernel_rfl) rfl rfl rfl rfl rfl rfl (fun g => ?_)
        refine at_append (i := 1) (sz := 1) (by' := 16) (k := 1) (A := ⟨g, 0, none⟩) (news := [.string (bs x)]) (by kernel_rfl) rfl rfl rfl rfl (fun w ho => lit_cells ho (i := 0) rfl) (oneCell_of rfl) (by simp only [maxLen]; omega) rfl (fun v4 hv4 => ?_)
        refine at_do (does_assign rfl) rfl rfl ?_
        refine at_nil ?_
        refine at_inb ?_
        refine at_then ?_
        refine at_region ?_
        refine at_do (does_move rfl) rfl rfl ?_
        refine at_do (does_addi rfl rfl (by (first | omega | (simp only; omega)))) rfl rfl ?_
        refine at_do (does_assign rfl) rfl rfl ?_
        refine at_nil ?_
        refine at_then ?_
        rotate_left
        refine at_againw fun w ho => ⟨(v4, i + 1), by show i + 1 ≤ Lt.length; omega, by show Lt.length - (i + 1) < Lt.length - i; omega, ⟨rfl, rfl, rfl, trivial⟩, rfl, ?_⟩
        show Own _ [.row v4 9 1 (i + 1) (strs ((Lt.map (·.take 60)).take (i + 1)))] w
        rw [hsucc]
        exact ho.sublist (List.sublist_cons_self ..)
    · obtain rfl : i = Lt.length := by omega
      refine at_seq ?_
      refine at_seq ?_
      refine at_region ?_
      refine at_do (does_move rfl) rfl rfl ?_
      refine at_do (does_move rfl) rfl rfl ?_
      refine at_do (does_vlen (vs := strs Lt) (by kernel_rfl) rfl (fun w ho => ho.oldVals hV)) rfl rfl ?_
      refine at_do (does_lss rfl rfl) rfl rfl ?_
      refine at_nil ?_
      refine at_then ?_
      refine at_cond_f rfl (decide_eq_false (by omega)) ?_
      refine at_exit ?_
      refine at_then_exit ?_
      refine at_then_exit ?_
      refine at_inb_here ?_
      refine at_then ?_
      refine at_seq ?_
      refine at_region ?_
      refine at_do (does_move rfl) rfl rfl ?_
      refine at_do (does_assign rfl) rfl rfl ?_
      refine at_nil ?_
      refine at_then ?_
      refine at_ret ?_
      refine at_ret1 rfl rfl rfl (fun w9 ho9 => ?_)
      rotate_left
      have e : (Lt.map (·.take 60)).take Lt.length = Lt.map (·.take 60) := List.take_of_length_le (by simp)
      refine ⟨v3, rfl, ho9.plain, ?_⟩
      have := ho9.rowOut (List.mem_cons_self ..)
      rw [e] at this
      exact this
end Go.Proofs.YtchfecmabhfooaaDoor
