/-
  The wants that are looked at. No condition of its own.
  A want, no more of it than is looked at. No condition of its own.
  Lists of wants: whether one may be. No condition of its own.
  Whether a list may be, as the reference says. No condition of its own.
  The list of wants that is looked at. No condition of its own.
-/
import Derived.Test.YtchfecmabhfooaaDoorMA
import Derived.Test.YtchfecmabhfooaaDoorKey7
set_option linter.unusedSimpArgs false
set_option linter.unusedVariables false
namespace Go.Proofs.YtchfecmabhfooaaDoor
open Go.RowKit
attribute [local irreducible] cwp lwp Exit.then Exit.inBlock Exit.noGoto wpQuiet Calls fin At AtQ Again endQ RQ

/-- The patterns that are looked at. -/
def cutL (L : List (List UInt8)) : List (List UInt8) := (L.take 20).map (·.take 60)
theorem cutL_short (L : List (List UInt8)) : Short (cutL L) := by
  refine ⟨by simp [cutL]; omega, fun x hx => ?_⟩
  obtain ⟨y, _, rfl⟩ := List.mem_map.1 hx
  simp; omega
set_option maxHeartbeats 4000000 in
theorem law_patterns (v0 : Value) (L0 : List (List UInt8)) (w : World) (hV0 : ValsAt w v0 (strs L0)) :
    Calls Tryd.prog 60 #[v0] w fun e w' => ∃ v, e = .returned v ∧ Below w.heap.size w w' ∧ w'.ownsRow w.heap.size 9 1 v (cutL L0).length (strs (cutL L0)) := by
  obtain ⟨Lt, hLt⟩ : ∃ Lt, Lt = L0.take 20 := ⟨_, rfl⟩
  have hcut : cutL L0 = Lt.map (·.take 60) := by rw [hLt]; rfl
  have hn : Lt.length ≤ 20 := by rw [hLt]; simp; omega
  have hl0 := strs_len L0
  rw [hcut, List.length_map]
  by_cases hs : 20 < L0.length
  · refine calls_plain Tryd.func60 rfl Tryd.ntmps60 rfl ?_
    refine at_seq ?_
    refine at_region ?_
    refine at_do (does_assign rfl) rfl rfl ?_
    refine at_nil ?_
    refine at_then ?_
    refine at_seq ?_
    refine at_seq ?_
    refine at_region ?_
    refine at_do (does_move rfl) rfl rfl ?_
    refine at_do (does_vlen (vs := strs L0) (by kernel_rfl) rfl (fun w ho => ho.oldVals hV0)) rfl rfl ?_
    refine at_do (does_gtr rfl rfl) rfl rfl ?_
    refine at_nil ?_
    refine at_then ?_
    refine at_cond_t rfl (decide_eq_true (by omega)) ?_
    refine at_region ?_
    refine at_do (does_move rfl) rfl rfl ?_
    refine at_do (does_vhi (vs := strs L0) (q := 20) (by kernel_rfl) rfl rfl (fun w ho => ho.oldVals hV0) (by omega)) rfl rfl ?_
    refine at_do (does_assign rfl) rfl rfl ?_
    refine at_nil ?_
    refine at_then ?_
    refine at_seq ?_
    refine at_region ?_
    refine at_do (does_assign rfl) rfl rfl ?_
    refine at_nil ?_
    refine at_then ?_
    refine at_seq ?_
    refine at_seq ?_
    refine at_region ?_
    refine at_do (does_assign rfl) rfl rfl ?_
    refine at_nil ?_
    refine at_then ?_
    refine at_block ?_
    rotate_left
    have hV : ValsAt w (hiV 20 v0) (strs Lt) := by rw [hLt]; have h := hi_vals (q := 20) hV0 (by omega); simpa [strs, List.map_take] using h
    have hlt := strs_len Lt
    refine at_loopH (σ := Value × Nat) (fun s => s.2 ≤ Lt.length) (fun s => [(0, (hiV 20 v0)), (3, s.1), (4, .int .i64 s.2)]) (fun s => [.row s.1 9 1 s.2 (strs ((Lt.map (·.take 60)).take s.2))]) (fun s => Lt.length - s.2)
      (fun w ho => ⟨(.slice none 0 0, 0), Nat.zero_le _, ⟨rfl, rfl, rfl, trivial⟩, ho.nilrow 9 1⟩) ?_
    rintro ⟨v3, i⟩ hi
    simp only at hi
    by_cases hil : i < Lt.length
    · obtain ⟨gb, o, c, hve, hc, hltb, hcell⟩ := hV.form (by omega)
      rw [hve]
      have hci := hcell i _ (strs_get hil)
      have hsucc : strs ((Lt.map (·.take 60)).take (i + 1)) = strs ((Lt.map (·.take 60)).take i) ++ [.string (bs (Lt[i].take 60))] := by
        rw [List.take_succ_eq_append_getElem (by simpa using hil)]; simp [strs]
      generalize Lt[i] = x at hci hsucc
      by_cases hx : 60 < x.length
      · refine at_seq ?_
        refine at_seq ?_
        refine at_region ?_
        refine at_do (does_move rfl) rfl rfl ?_
        refine at_do (does_move rfl) rfl rfl ?_
        refine at_do (does_len (by kernel_rfl) rfl) rfl rfl ?_
        refine at_do (does_lss rfl rfl) rfl rfl ?_
        refine at_nil ?_
        refine at_then ?_
        refine at_cond_t rfl (decide_eq_true (by omega)) ?_
        refine at_skip ?_
        refine at_then ?_
        refine at_seq ?_
        refine at_block ?_
        refine at_seq ?_
        refine at_region ?_
        refine at_do (does_move rfl) rfl rfl ?_
        refine at_do (does_move rfl) rfl rfl ?_
        refine at_do (does_indexAddr1 (by kernel_rfl) rfl rfl (by (first | omega | (simp only; omega)))) rfl rfl ?_
        refine at_do (does_load_mem (by kernel_rfl) rfl (fun w' ho => Below.cellOld ho.plain hci)) rfl rfl ?_
        refine at_do (does_assign rfl) rfl rfl ?_
        refine at_nil ?_
        refine at_then ?_
        refine at_seq ?_
        refine at_seq ?_
        refine at_region ?_
        refine at_do (does_move rfl) rfl rfl ?_
        refine at_do (does_slen (by kernel_rfl) rfl) rfl rfl ?_
        refine at_do (does_gtr rfl rfl) rfl rfl ?_
        refine at_nil ?_
        refine at_then ?_
        refine at_cond_t rfl (decide_eq_true (by omega)) ?_
        refine at_region ?_
        refine at_do (does_move rfl) rfl rfl ?_
        refine at_do (does_sslice_hi (by kernel_rfl) rfl rfl (by (first | omega | (simp only; omega)))) rfl rfl ?_
        refine at_do (does_assign rfl) rfl rfl ?_
        refine at_nil ?_
        refine at_then ?_
        refine at_region ?_
        refine at_do (does_move rfl) rfl rfl ?_
        refine at_do (does_move rfl) rfl rfl ?_
        refine at_buildSlice (e := 9) (sz := 1) (vs := [.string (bs (x.take 60))]) (cs := [.string (bs (x.take 60))]) (by kernel_rfl) rfl rfl rfl rfl rfl rfl (fun g => ?_)
        refine at_append (i := 1) (sz := 1) (by' := 16) (k := 1) (A := ⟨g, 0, none⟩) (news := [.string (bs (x.take 60))]) (by kernel_rfl) rfl rfl rfl rfl (fun w ho => lit_cells ho (i := 0) rfl) (oneCell_of rfl) (by simp only [maxLen]; omega) rfl (fun v4 hv4 => ?_)
        refine at_do (does_assign rfl) rfl rfl ?_
        refine at_nil ?_
        refine at_inb ?_
        refine at_then ?_
        refine at_region ?_
        refine at_do (does_move rfl) rfl rfl ?_
        refine at_do (does_addi rfl rfl (by (first | omega | (simp only; omega)))) rfl rfl ?_
        refine at_do (does_assign rfl) rfl rfl ?_
        refine at_nil ?_
        refine at_then ?_
        rotate_left
        refine at_againw fun w ho => ⟨(v4, i + 1), by show i + 1 ≤ Lt.length; omega, by show Lt.length - (i + 1) < Lt.length - i; omega, ⟨rfl, rfl, rfl, trivial⟩, rfl, ?_⟩
        show Own _ [.row v4 9 1 (i + 1) (strs ((Lt.map (·.take 60)).take (i + 1)))] w
        rw [hsucc]
        exact ho.sublist (List.sublist_cons_self ..)
      · have hxe : x.take 60 = x := List.take_of_length_le (by omega)
        rw [hxe] at hsucc
        refine at_seq ?_
        refine at_seq ?_
        refine at_region ?_
        refine at_do (does_move rfl) rfl rfl ?_
        refine at_do (does_move rfl) rfl rfl ?_
        refine at_do (does_len (by kernel_rfl) rfl) rfl rfl ?_
        refine at_do (does_lss rfl rfl) rfl rfl ?_
        refine at_nil ?_
        refine at_then ?_
        refine at_cond_t rfl (decide_eq_true (by omega)) ?_
        refine at_skip ?_
        refine at_then ?_
        refine at_seq ?_
        refine at_block ?_
        refine at_seq ?_
        refine at_region ?_
        refine at_do (does_move rfl) rfl rfl ?_
        refine at_do (does_move rfl) rfl rfl ?_
        refine at_do (does_indexAddr1 (by kernel_rfl) rfl rfl (by (first | omega | (simp only; omega)))) rfl rfl ?_
        refine at_do (does_load_mem (by kernel_rfl) rfl (fun w' ho => Below.cellOld ho.plain hci)) rfl rfl ?_
        refine at_do (does_assign rfl) rfl rfl ?_
        refine at_nil ?_
        refine at_then ?_
        refine at_seq ?_
        refine at_seq ?_
        refine at_region ?_
        refine at_do (does_move rfl) rfl rfl ?_
        refine at_do (does_slen (by kernel_rfl) rfl) rfl rfl ?_
        refine at_do (does_gtr rfl rfl) rfl rfl ?_
        refine at_nil ?_
        refine at_then ?_
        refine at_cond_f rfl (decide_eq_false (by omega)) ?_
        refine at_skip ?_
        refine at_then ?_
        refine at_region ?_
        refine at_do (does_move rfl) rfl rfl ?_
        refine at_do (does_move rfl) rfl rfl ?_
        refine at_buildSlice (e := 9) (sz := 1) (vs := [.string (bs x)]) (cs := [.string (bs x)]) (by kernel_rfl) rfl rfl rfl rfl rfl rfl (fun g => ?_)
        refine at_append (i := 1) (sz := 1) (by' := 16) (k := 1) (A := ⟨g, 0, none⟩) (news := [.string (bs x)]) (by kernel_rfl) rfl rfl rfl rfl (fun w ho => lit_cells ho (i := 0) rfl) (oneCell_of rfl) (by simp only [maxLen]; omega) rfl (fun v4 hv4 => ?_)
        refine at_do (does_assign rfl) rfl rfl ?_
        refine at_nil ?_
        refine at_inb ?_
        refine at_then ?_
        refine at_region ?_
        refine at_do (does_move rfl) rfl rfl ?_
        refine at_do (does_addi rfl rfl (by (first | omega | (simp only; omega)))) rfl rfl ?_
        refine at_do (does_assign rfl) rfl rfl ?_
        refine at_nil ?_
        refine at_then ?_
        rotate_left
        refine at_againw fun w ho => ⟨(v4, i + 1), by show i + 1 ≤ Lt.length; omega, by show Lt.length - (i + 1) < Lt.length - i; omega, ⟨rfl, rfl, rfl, trivial⟩, rfl, ?_⟩
        show Own _ [.row v4 9 1 (i + 1) (strs ((Lt.map (·.take 60)).take (i + 1)))] w
        rw [hsucc]
        exact ho.sublist (List.sublist_cons_self ..)
    · obtain rfl : i = Lt.length := by omega
      refine at_seq ?_
      refine at_seq ?_
      refine at_region ?_
      refine at_do (does_move rfl) rfl rfl ?_
      refine at_do (does_move rfl) rfl rfl ?_
      refine at_do (does_vlen (vs := strs Lt) (by kernel_rfl) rfl (fun w ho => ho.oldVals hV)) rfl rfl ?_
      refine at_do (does_lss rfl rfl) rfl rfl ?_
      refine at_nil ?_
      refine at_then ?_
      refine at_cond_f rfl (decide_eq_false (by omega)) ?_
      refine at_exit ?_
      refine at_then_exit ?_
      refine at_then_exit ?_
      refine at_inb_here ?_
      refine at_then ?_
      refine at_seq ?_
      refine at_region ?_
      refine at_do (does_move rfl) rfl rfl ?_
      refine at_do (does_assign rfl) rfl rfl ?_
      refine at_nil ?_
      refine at_then ?_
      refine at_ret ?_
      refine at_ret1 rfl rfl rfl (fun w9 ho9 => ?_)
      rotate_left
      have e : (Lt.map (·.take 60)).take Lt.length = Lt.map (·.take 60) := List.take_of_length_le (by simp)
      refine ⟨v3, rfl, ho9.plain, ?_⟩
      have := ho9.rowOut (List.mem_cons_self ..)
      rw [e] at this
      exact this
  · refine calls_plain Tryd.func60 rfl Tryd.ntmps60 rfl ?_
    refine at_seq ?_
    refine at_region ?_
    refine at_do (does_assign rfl) rfl rfl ?_
    refine at_nil ?_
    refine at_then ?_
    refine at_seq ?_
    refine at_seq ?_
    refine at_region ?_
    refine at_do (does_move rfl) rfl rfl ?_
    refine at_do (does_vlen (vs := strs L0) (by kernel_rfl) rfl (fun w ho => ho.oldVals hV0)) rfl rfl ?_
    refine at_do (does_gtr rfl rfl) rfl rfl ?_
    refine at_nil ?_
    refine at_then ?_
    refine at_cond_f rfl (decide_eq_false (by omega)) ?_
    refine at_skip ?_
    refine at_then ?_
    refine at_seq ?_
    refine at_region ?_
    refine at_do (does_assign rfl) rfl rfl ?_
    refine at_nil ?_
    refine at_then ?_
    refine at_seq ?_
    refine at_seq ?_
    refine at_region ?_
    refine at_do (does_assign rfl) rfl rfl ?_
    refine at_nil ?_
    refine at_then ?_
    refine at_block ?_
    rotate_left
    have hV : ValsAt w v0 (strs Lt) := by rw [hLt, List.take_of_length_le (by omega)]; exact hV0
    have hlt := strs_len Lt
    refine at_loopH (σ := Value × Nat) (fun s => s.2 ≤ Lt.length) (fun s => [(0, v0), (3, s.1), (4, .int .i64 s.2)]) (fun s => [.row s.1 9 1 s.2 (strs ((Lt.map (·.take 60)).take s.2))]) (fun s => Lt.length - s.2)
      (fun w ho => ⟨(.slice none 0 0, 0), Nat.zero_le _, ⟨rfl, rfl, rfl, trivial⟩, ho.nilrow 9 1⟩) ?_
    rintro ⟨v3, i⟩ hi
    simp only at hi
    by_cases hil : i < Lt.length
    · obtain ⟨gb, o, c, hve, hc, hltb, hcell⟩ := hV.form (by omega)
      rw [hve]
      have hci := hcell i _ (strs_get hil)
      have hsucc : strs ((Lt.map (·.take 60)).take (i + 1)) = strs ((Lt.map (·.take 60)).take i) ++ [.string (bs (Lt[i].take 60))] := by
        rw [List.take_succ_eq_append_getElem (by simpa using hil)]; simp [strs]
      generalize Lt[i] = x at hci hsucc
      by_cases hx : 60 < x.length
      · refine at_seq ?_
        refine at_seq ?_
        refine at_region ?_
        refine at_do (does_move rfl) rfl rfl ?_
        refine at_do (does_move rfl) rfl rfl ?_
        refine at_do (does_len (by kernel_rfl) rfl) rfl rfl ?_
        refine at_do (does_lss rfl rfl) rfl rfl ?_
        refine at_nil ?_
        refine at_then ?_
        refine at_cond_t rfl (decide_eq_true (by omega)) ?_
        refine at_skip ?_
        refine at_then ?_
        refine at_seq ?_
        refine at_block ?_
        refine at_seq ?_
        refine at_region ?_
        refine at_do (does_move rfl) rfl rfl ?_
        refine at_do (does_move rfl) rfl rfl ?_
        refine at_do (does_indexAddr1 (by kernel_rfl) rfl rfl (by (first | omega | (simp only; omega)))) rfl rfl ?_
        refine at_do (does_load_mem (by kernel_rfl) rfl (fun w' ho => Below.cellOld ho.plain hci)) rfl rfl ?_
        refine at_do (does_assign rfl) rfl rfl ?_
        refine at_nil ?_
        refine at_then ?_
        refine at_seq ?_
        refine at_seq ?_
        refine at_region ?_
        refine at_do (does_move rfl) rfl rfl ?_
        refine at_do (does_slen (by kernel_rfl) rfl) rfl rfl ?_
        refine at_do (does_gtr rfl rfl) rfl rfl ?_
        refine at_nil ?_
        refine at_then ?_
        refine at_cond_t rfl (decide_eq_true (by omega)) ?_
        refine at_region ?_
        refine at_do (does_move rfl) rfl rfl ?_
        refine at_do (does_sslice_hi (by kernel_rfl) rfl rfl (by (first | omega | (simp only; omega)))) rfl rfl ?_
        refine at_do (does_assign rfl) rfl rfl ?_
        refine at_nil ?_
        refine at_then ?_
        refine at_region ?_
        refine at_do (does_move rfl) rfl rfl ?_
        refine at_do (does_move rfl) rfl rfl ?_
        refine at_buildSlice (e := 9) (sz := 1) (vs := [.string (bs (x.take 60))]) (cs := [.string (bs (x.take 60))]) (by kernel_rfl) rfl rfl rfl rfl rfl rfl (fun g => ?_)
        refine at_append (i := 1) (sz := 1) (by' := 16) (k := 1) (A := ⟨g, 0, none⟩) (news := [.string (bs (x.take 60))]) (by kernel_rfl) rfl rfl rfl rfl (fun w ho => lit_cells ho (i := 0) rfl) (oneCell_of rfl) (by simp only [maxLen]; omega) rfl (fun v4 hv4 => ?_)
        refine at_do (does_assign rfl) rfl rfl ?_
        refine at_nil ?_
        refine at_inb ?_
        refine at_then ?_
        refine at_region ?_
        refine at_do (does_move rfl) rfl rfl ?_
        refine at_do (does_addi rfl rfl (by (first | omega | (simp only; omega)))) rfl rfl ?_
        refine at_do (does_assign rfl) rfl rfl ?_
        refine at_nil ?_
        refine at_then ?_
        rotate_left
        refine at_againw fun w ho => ⟨(v4, i + 1), by show i + 1 ≤ Lt.length; omega, by show Lt.length - (i + 1) < Lt.length - i; omega, ⟨rfl, rfl, rfl, trivial⟩, rfl, ?_⟩
        show Own _ [.row v4 9 1 (i + 1) (strs ((Lt.map (·.take 60)).take (i + 1)))] w
        rw [hsucc]
        exact ho.sublist (List.sublist_cons_self ..)
      · have hxe : x.take 60 = x := List.take_of_length_le (by omega)
        rw [hxe] at hsucc
        refine at_seq ?_
        refine at_seq ?_
        refine at_region ?_
        refine at_do (does_move rfl) rfl rfl ?_
        refine at_do (does_move rfl) rfl rfl ?_
        refine at_do (does_len (by kernel_rfl) rfl) rfl rfl ?_
        refine at_do (does_lss rfl rfl) rfl rfl ?_
        refine at_nil ?_
        refine at_then ?_
        refine at_cond_t rfl (decide_eq_true (by omega)) ?_
        refine at_skip ?_
        refine at_then ?_
        refine at_seq ?_
        refine at_block ?_
        refine at_seq ?_
        refine at_region ?_
        refine at_do (does_move rfl) rfl rfl ?_
        refine at_do (does_move rfl) rfl rfl ?_
        refine at_do (does_indexAddr1 (by kernel_rfl) rfl rfl (by (first | omega | (simp only; omega)))) rfl rfl ?_
        refine at_do (does_load_mem (by kernel_rfl) rfl (fun w' ho => Below.cellOld ho.plain hci)) rfl rfl ?_
        refine at_do (does_assign rfl) rfl rfl ?_
        refine at_nil ?_
        refine at_then ?_
        refine at_seq ?_
        refine at_seq ?_
        refine at_region ?_
        refine at_do (does_move rfl) rfl rfl ?_
        refine at_do (does_slen (by kernel_rfl) rfl) rfl rfl ?_
        refine at_do (does_gtr rfl rfl) rfl rfl ?_
        refine at_nil ?_
        refine at_then ?_
        refine at_cond_f rfl (decide_eq_false (by omega)) ?_
        refine at_skip ?_
        refine at_then ?_
        refine at_region ?_
        refine at_do (does_move rfl) rfl rfl ?_
        refine at_do (does_move rfl) rfl rfl ?_
        refine at_buildSlice (e := 9) (sz := 1) (vs := [.string (bs x)]) (cs := [.string (bs x)]) (by kernel_rfl) rfl rfl rfl rfl rfl rfl (fun g => ?_)
        refine at_append (i := 1) (sz := 1) (by' := 16) (k := 1) (A := ⟨g, 0, none⟩) (news := [.string (bs x)]) (by kernel_rfl) rfl rfl rfl rfl (fun w ho => lit_cells ho (i := 0) rfl) (oneCell_of rfl) (by simp only [maxLen]; omega) rfl (fun v4 hv4 => ?_)
        refine at_do (does_assign rfl) rfl rfl ?_
        refine at_nil ?_
        refine at_inb ?_
        refine at_then ?_
        refine at_region ?_
        refine at_do (does_move rfl) rfl rfl ?_
        refine at_do (does_addi rfl rfl (by (first | omega | (simp only; omega)))) rfl rfl ?_
        refine at_do (does_assign rfl) rfl rfl ?_
        refine at_nil ?_
        refine at_then ?_
        rotate_left
        refine at_againw fun w ho => ⟨(v4, i + 1), by show i + 1 ≤ Lt.length; omega, by show Lt.length - (i + 1) < Lt.length - i; omega, ⟨rfl, rfl, rfl, trivial⟩, rfl, ?_⟩
        show Own _ [.row v4 9 1 (i + 1) (strs ((Lt.map (·.take 60)).take (i + 1)))] w
        rw [hsucc]
        exact ho.sublist (List.sublist_cons_self ..)
    · obtain rfl : i = Lt.length := by omega
      refine at_seq ?_
      refine at_seq ?_
      refine at_region ?_
      refine at_do (does_move rfl) rfl rfl ?_
      refine at_do (does_move rfl) rfl rfl ?_
      refine at_do (does_vlen (vs := strs Lt) (by kernel_rfl) rfl (fun w ho => ho.oldVals hV)) rfl rfl ?_
      refine at_do (does_lss rfl rfl) rfl rfl ?_
      refine at_nil ?_
      refine at_then ?_
      refine at_cond_f rfl (decide_eq_false (by omega)) ?_
      refine at_exit ?_
      refine at_then_exit ?_
      refine at_then_exit ?_
      refine at_inb_here ?_
      refine at_then ?_
      refine at_seq ?_
      refine at_region ?_
      refine at_do (does_move rfl) rfl rfl ?_
      refine at_do (does_assign rfl) rfl rfl ?_
      refine at_nil ?_
      refine at_then ?_
      refine at_ret ?_
      refine at_ret1 rfl rfl rfl (fun w9 ho9 => ?_)
      rotate_left
      have e : (Lt.map (·.take 60)).take Lt.length = Lt.map (·.take 60) := List.take_of_length_le (by simp)
      refine ⟨v3, rfl, ho9.plain, ?_⟩
      have := ho9.rowOut (List.mem_cons_self ..)
      rw [e] at this
      exact this
end Go.Proofs.YtchfecmabhfooaaDoor
set_option linter.unusedSimpArgs false
set_option linter.unusedVariables false
namespace Go.Proofs.YtchfecmabhfooaaDoor
open Go.RowKit
section
variable {P : Program} {n : Nat} {E : List (Nat × Value)} {C : Ctx} {H : List Res} {t : TypeId}
theorem at_retagg0 {fn : Func} {R : Ending → World → Prop} {s i h k : Nat} {tb : TypeId} {cs : Array Value} (hr : fn.results = #[.cell s t]) (hm : C.marks = []) (ht : eget E s = some (.pointer (some ⟨h, 0, none⟩))) (hi : H[i]? = some (.blk h tb cs)) (hT : aggT P t = some k) (hv : cs.size = k)
    (hk : ∀ w, Own C H w → R (.returned (.agg cs)) w) : At n E C H (fin P fn R .ret) := by
  intro a w hf hd ho
  refine fin_ret (v := .agg cs) hm hd ?_ (hk w ho)
  have h1 := hf.get s _ ht
  have h2 := run_loadAgg (P := P) (t := t) hT (ho.get hi) hv
  have h3 : a.tmps.getD s undef = .pointer (some ⟨h, 0, none⟩) := by rw [Array.getD_eq_getD_getElem?, h1]; rfl
  unfold results
  rw [hr]
  simp only [List.mapM_toArray, List.mapM_cons, List.mapM_nil, h3, asAddr, Sem.run_bind, Sem.run_pure, Result.andThen, map_eq_pure_bind, h2]
  rfl
end
attribute [local irreducible] cwp lwp Exit.then Exit.inBlock Exit.noGoto wpQuiet Calls fin At AtQ Again endQ RQ

theorem shapeWant : shapeOf Tryd.prog 24 = some ([.slice none 0 0, .slice none 0 0], [(0, 1), (1, 1)]) := by kernel_rfl
def TwoB (b : Nat) (R W : List (List UInt8)) (v : Value) (w : World) : Prop := ∃ u1 u2, v = .agg #[u1, u2] ∧ RowB b 9 R.length (strs R) u1 w ∧ RowB b 9 W.length (strs W) u2 w
theorem twoB_stab (b : Nat) (R W : List (List UInt8)) : (Spec.rel (TwoB b R W)).stab := fun v w w' ⟨u1, u2, h, h1, h2⟩ hb => ⟨u1, u2, h, rowB_stab _ _ _ _ u1 w w' h1 hb, rowB_stab _ _ _ _ u2 w w' h2 hb⟩
theorem rowB_one {b e m : Nat} {xs : List Value} {v : Value} {w : World} (h : RowB b e m xs v w) : v.oneCell' = true := row_one h
theorem rowB_fill {b e m b' e' m' : Nat} {xs ys : List Value} {u v : Value} {w : World} (h1 : RowB b e m xs u w) (h2 : RowB b' e' m' ys v w) :
    Instr.fill (fun i => ([(0, 1), (1, 1)] : List (Nat × Nat))[i]?) #[.slice none 0 0, .slice none 0 0] [(0, u), (1, v)] = some #[u, v] := by
  rcases (row_cases h1).2 with ⟨rfl, _⟩ | ⟨g, c, rfl⟩ <;> rcases (row_cases h2).2 with ⟨rfl, _⟩ | ⟨g', c', rfl⟩ <;> rfl
theorem cpat {v : Value} {L : List (List UInt8)} {w0 w : World} {b : Nat} (hb : b ≤ w.heap.size) (hV : ValsAt w v (strs L)) : Calls Tryd.prog 60 #[v] w fun e w' => ∃ u, e = .returned u ∧ Below w.heap.size w w' ∧ RowB b 9 (cutL L).length (strs (cutL L)) u w' :=
  (law_patterns v L w hV).mono fun e w' ⟨u, h1, h2, h3⟩ => ⟨u, h1, h2, h3.1, h3.2.imp id fun ⟨g, cap, cur, q1, q2, q3⟩ => ⟨g, cap, cur, q1, Nat.le_trans hb q2, q3⟩⟩
/-- What is handed out is of new memory. -/
def New (b : Nat) (v : Value) : Prop := ∀ g ∈ v.ownBlock, b ≤ g
theorem rowB_new {b e m : Nat} {xs : List Value} {v : Value} {w : World} (h : RowB b e m xs v w) : New b v := by
  intro g hg
  rcases h.2 with ⟨rfl, _⟩ | ⟨g', cap, cur, rfl, hb, _⟩
  · simp [Value.ownBlock] at hg
  · simp [Value.ownBlock] at hg; omega
set_option maxHeartbeats 4000000 in
theorem law_Wants (a b : Value) (R W : List (List UInt8)) (w : World) (h1 : ValsAt w a (strs R)) (h2 : ValsAt w b (strs W)) (o1 : a.oneCell' = true) (o2 : b.oneCell' = true) :
    Calls Tryd.prog 13 #[.agg #[a, b]] w fun e w' => ∃ v, e = .returned v ∧ Below w.heap.size w w' ∧ ∃ u1 u2, v = .agg #[u1, u2] ∧ ValsAt w' u1 (strs (cutL R)) ∧ ValsAt w' u2 (strs (cutL W)) ∧ New w.heap.size u1 ∧ New w.heap.size u2 ∧ u1.oneCell' = true ∧ u2.oneCell' = true := by
  refine calls_plain Tryd.func13 rfl Tryd.ntmps13 rfl ?_
  refine at_seq ?_
  refine at_region ?_
  refine at_boxagg rfl rfl fun gz0 => ?_
  refine at_allocagg Tryd.zeroValue24 rfl fun gz1 => ?_
  refine at_nil ?_
  refine at_then ?_
  refine at_seq ?_
  rotate_left
  refine at_reW fun W2 hW2 hold => ?_
  have hwW : w.heap.size ≤ W2.heap.size := hW2.orig.size
  apply at_drawR 7 [.val _, .val a, .rel (RowB W2.heap.size 9 (cutL R).length (strs (cutL R))), .val _, .val b, .rel (RowB W2.heap.size 9 (cutL W).length (strs (cutL W))), .rel (TwoB W2.heap.size (cutL R) (cutL W))] (by kernel_rfl) (by kernel_rfl) rfl ⟨trivial, trivial, rowB_stab _ _ _ _, trivial, trivial, rowB_stab _ _ _ _, twoB_stab _ _ _, trivial⟩
  · refine so_cons rfl (fun vs => ?_) ?_
    exact step1_does (does_fieldAddr (o := 0) (by kernel_rfl) rfl)
    refine so_cons rfl (fun vs => ?_) ?_
    exact step1_does (does_load (i := 1) (by kernel_rfl) rfl rfl rfl)
    refine so_cons rfl (fun vs => ?_) ?_
    exact step1_rel (f := 60) (enters_fn (by kernel_rfl) rfl) (fun w ho hx => cpat (w0 := w) ho.base.size (ho.oldVals h1))
    refine so_cons rfl (fun vs => ?_) ?_
    exact step1_does (does_fieldAddr (o := 1) (by kernel_rfl) rfl)
    refine so_cons rfl (fun vs => ?_) ?_
    exact step1_does (does_load (i := 1) (by kernel_rfl) rfl rfl rfl)
    refine so_cons rfl (fun vs => ?_) ?_
    exact step1_rel (f := 60) (enters_fn (by kernel_rfl) rfl) (fun w ho hx => cpat (w0 := w) ho.base.size (ho.oldVals h2))
    refine so_cons rfl (fun vs => ?_) ?_
    rotate_left
    exact so_nil
    refine step1_run fun ac wc hf ho hX => ?_
    have x1 : RowB W2.heap.size 9 (cutL R).length (strs (cutL R)) (vs 2) wc := hX.1
    have x2 : RowB W2.heap.size 9 (cutL W).length (strs (cutL W)) (vs 5) wc := hX.2.1
    refine ⟨_, _, does_build (ps := [(0, .tmp 5), (1, .tmp 8)]) (cs := [vs 2, vs 5]) (vs := [(0, vs 2), (1, vs 5)]) shapeWant ?_ (rowB_fill x1 x2) ac wc hf ho, Below.refl _ _, vs 2, vs 5, rfl, x1, x2⟩
    rfl
  · intro vs w3 hw3 hp
    obtain ⟨_, _, ⟨u1, u2, hu, y1, y2⟩, _⟩ := hp
    refine at_weak (E' := [(2, .pointer (some ⟨gz1, 0, none⟩)), (9, .agg #[u1, u2])]) ⟨rfl, by rw [← hu]; rfl, trivial⟩ ?_
    show At _ _ _ _ (lwp _ _ _ _ (_ :: _))
    have q1 := rowB_one y1
    have q2 := rowB_one y2
    apply at_storeagg (i := 0) (h := gz1) (tb := 24) (cs := #[.slice none 0 0, .slice none 0 0]) (vs := #[u1, u2])
    · kernel_rfl
    · rfl
    · rfl
    · simp [q1, q2]
    · rfl
    · simp
    refine at_nil ?_
    repeat (first | refine at_then ?_ | refine at_then_ret ?_ | refine at_inb ?_ | refine at_inb_ret ?_ | refine at_nog ?_ | refine at_nog_ret ?_ | refine at_ret ?_)
    refine at_retagg0 (i := 0) rfl rfl rfl rfl (by kernel_rfl) rfl (fun w9 ho9 => ?_)
    have hF : ∀ k, k ∈ bls [Res.blk gz1 24 #[.slice none 0 0, .slice none 0 0], Res.blk gz0 24 #[a, b]] → k < W2.heap.size := hold
    have keep : ∀ {u : Value} {L : List (List UInt8)}, RowB W2.heap.size 9 L.length (strs L) u w3 → RowB W2.heap.size 9 L.length (strs L) u w9 := by
      intro u L hr
      refine ⟨hr.1, hr.2.imp id ?_⟩
      rintro ⟨g, cap, cur, p1, p2, p3, p4⟩
      refine ⟨g, cap, cur, p1, p2, (ho9.base.old g (Array.getElem?_eq_some_iff.1 p3).1 (fun hk => ?_)).trans p3, p4⟩
      have := hF g hk
      omega
    have z1 := keep y1
    have z2 := keep y2
    exact ⟨_, rfl, ho9.plain, u1, u2, rfl, vals_of_row z1, vals_of_row z2, fun g hg => Nat.le_trans hwW (rowB_new z1 g hg), fun g hg => Nat.le_trans hwW (rowB_new z2 g hg), q1, q2⟩
end Go.Proofs.YtchfecmabhfooaaDoor
set_option linter.unusedSimpArgs false
set_option linter.unusedVariables false
namespace Go.Proofs.YtchfecmabhfooaaDoor
open Go.RowKit

abbrev Want2 := List (List UInt8) × List (List UInt8)
/-- These wants lie there. -/
def WantsAt (w : World) (arg : Value) (L : List Want2) : Prop := ∃ A c, arg = .slice A L.length c ∧ L.length ≤ c ∧ (0 < L.length → ∃ gb o, A = some ⟨gb, o, none⟩ ∧ gb < w.heap.size ∧
  ∀ i (h : i < L.length), ∃ a b, w.cell? ⟨gb, o + i * 2, none⟩ = some a ∧ w.cell? ⟨gb, o + i * 2 + 1, none⟩ = some b ∧ ValsAt w a (strs L[i].1) ∧ ValsAt w b (strs L[i].2) ∧ a.oneCell' = true ∧ b.oneCell' = true)
theorem WantsAt.keep {w w' : World} {arg : Value} {L : List Want2} (h : WantsAt w arg L) (hb : Below w.heap.size w w') : WantsAt w' arg L := by
  obtain ⟨A, c, h1, h2, h3⟩ := h
  refine ⟨A, c, h1, h2, fun hl => ?_⟩
  obtain ⟨gb, o, q1, q2, q3⟩ := h3 hl
  refine ⟨gb, o, q1, Nat.lt_of_lt_of_le q2 hb.size, fun i hi => ?_⟩
  obtain ⟨a, b, p1, p2, p3, p4, p5, p6⟩ := q3 i hi
  exact ⟨a, b, Below.cellOld hb p1, Below.cellOld hb p2, p3.keep hb, p4.keep hb, p5, p6⟩
theorem Own.oldWants {w0 w b : World} {M F : Nat → Prop} {D : List Nat} {H : List Res} {arg : Value} {L : List Want2} (h : Own ⟨w0, fun _ => False, M, b, F, D⟩ H w) (hB : WantsAt w0 arg L) : WantsAt w arg L := hB.keep h.plain
/-- Two cells that lie one behind the other. -/
theorem two_cells {w : World} {gb p : Nat} {a b : Value} (h1 : w.cell? ⟨gb, p, none⟩ = some a) (h2 : w.cell? ⟨gb, p + 1, none⟩ = some b) : ∀ j v, [a, b][j]? = some v → w.cell? ((⟨gb, p, none⟩ : Addr).add j) = some v := by
  intro j v hv
  rw [add_none]
  match j, hv with
  | 0, hv => cases hv; exact h1
  | 1, hv => cases hv; exact h2
def okW (x : Want2) : Bool := okL x.1 && okL x.2
def ShortW (L : List Want2) : Prop := L.length ≤ 1000 ∧ ∀ x ∈ L, Short x.1 ∧ Short x.2
attribute [local irreducible] cwp lwp Exit.then Exit.inBlock Exit.noGoto wpQuiet Calls fin At AtQ Again endQ RQ
abbrev badW : Value := .func (.func 91) #[] #[]
theorem right_bad (a b : Value) (R W : List (List UInt8)) (w : World) (hG : Glob w) (h1 : ValsAt w a (strs R)) (h2 : ValsAt w b (strs W)) (hR : Short R) (hW : Short W) (o1 : a.oneCell' = true) (o2 : b.oneCell' = true) :
    Calls Tryd.prog 91 #[.agg #[a, b]] w fun e w' => e = .returned (.bool (!(okL R && okL W))) ∧ Below w.heap.size w w' := by
  refine calls_plain Tryd.func91 rfl Tryd.ntmps91 rfl ?_
  refine at_seq ?_
  refine at_region ?_
  refine at_boxagg rfl rfl fun gz0 => ?_
  refine at_do (does_assign rfl) rfl rfl ?_
  refine at_nil ?_
  refine at_then ?_
  refine at_seq ?_
  refine at_region ?_
  refine at_do (does_loadagg (i := 0) (k := 2) (by kernel_rfl) rfl rfl rfl) rfl rfl ?_
  refine at_callv (f := 61) (enters_fn (by kernel_rfl) rfl) (fun w ho => clash_may a b R W w (ho.glob hG id) (ho.oldVals h1) (ho.oldVals h2) hR hW o1 o2) rfl rfl ?_
  refine at_do (does_not rfl) rfl rfl ?_
  refine at_do (does_assign rfl) rfl rfl ?_
  refine at_nil ?_
  refine at_then ?_
  refine at_ret ?_
  refine at_ret1 rfl rfl rfl (fun w9 ho9 => ?_)
  rotate_left
  exact ⟨rfl, ho9.plain⟩
theorem idxW_ok (arg : Value) (L : List Want2) (w : World) (hG : Glob w) (hV : WantsAt w arg L) (hS : ShortW L) (h : L.all okW = true) :
    Calls Tryd.prog 102 #[arg, badW] w fun e w' => e = .returned (.int .i64 (-1)) ∧ Below w.heap.size w w' := by
  have hS1 := hS.1
  have hall : ∀ i (hi : i < L.length), okW L[i] = true := fun i hi => List.all_eq_true.1 h _ (List.getElem_mem hi)
  obtain ⟨A0, c0, rfl, hc, hcell⟩ := hV
  refine calls_plain Tryd.func102 rfl Tryd.ntmps102 rfl ?_
  refine at_seq ?_
  refine at_region ?_
  refine at_do (does_assign rfl) rfl rfl ?_
  refine at_nil ?_
  refine at_then ?_
  refine at_seq ?_
  refine at_seq ?_
  refine at_region ?_
  refine at_do (does_move rfl) rfl rfl ?_
  refine at_do (does_len (by kernel_rfl) rfl) rfl rfl ?_
  refine at_do (does_move rfl) rfl rfl ?_
  refine at_nil ?_
  refine at_then ?_
  refine at_block ?_
  rotate_left
  refine at_loop0 (fun i : Nat => i ≤ L.length) (fun i => [(0, .slice A0 L.length c0), (1, badW), (7, .int .i64 L.length), (8, .int .i64 i)]) (fun i => L.length - i) 0 (Nat.zero_le _) ⟨rfl, rfl, rfl, rfl, trivial⟩ ?_
  rintro i hi
  by_cases hil : i < L.length
  · obtain ⟨gb, o, rfl, hlt, hce⟩ := hcell (by omega)
    obtain ⟨a, b, p1, p2, p3, p4, p5, p6⟩ := hce i hil
    have hk := hall i hil
    have hx := hS.2 L[i] (List.getElem_mem hil)
    generalize L[i] = x at p3 p4 hk hx
    refine at_seq ?_
    refine at_region ?_
    refine at_do (does_lss rfl rfl) rfl rfl ?_
    refine at_nil ?_
    refine at_then ?_
    refine at_seq ?_
    refine at_cond_t rfl (decide_eq_true (by omega)) ?_
    refine at_skip ?_
    refine at_then ?_
    refine at_seq ?_
    refine at_block ?_
    refine at_seq ?_
    refine at_region ?_
    refine at_do (does_move rfl) rfl rfl ?_
    refine at_do (does_assign rfl) rfl rfl ?_
    refine at_nil ?_
    refine at_then ?_
    refine at_seq ?_
    refine at_region ?_
    refine at_do (does_move rfl) rfl rfl ?_
    refine at_do (does_move rfl) rfl rfl ?_
    refine at_do (does_move rfl) rfl rfl ?_
    refine at_do (does_indexAddrk (k := 2) (j := i) (by kernel_rfl) rfl rfl (by omega)) rfl rfl ?_
    refine at_do (does_loadagg_mem (vs := [a, b]) (by kernel_rfl) rfl (fun w' ho => two_cells (Below.cellOld ho.plain p1) (Below.cellOld ho.plain p2))) rfl rfl ?_
    refine at_callv (f := 91) (enters_val rfl (by kernel_rfl) rfl) (fun w ho => right_bad a b x.1 x.2 w (ho.glob hG id) (ho.oldVals p3) (ho.oldVals p4) hx.1 hx.2 p5 p6) rfl rfl ?_
    refine at_nil ?_
    refine at_then ?_
    refine at_cond_f rfl (by (rw [show (okL x.1 && okL x.2) = true from hk]; rfl)) ?_
    refine at_skip ?_
    refine at_inb ?_
    refine at_then ?_
    refine at_region ?_
    refine at_do (does_addi rfl rfl (by omega)) rfl rfl ?_
    refine at_do (does_move rfl) rfl rfl ?_
    refine at_nil ?_
    refine at_then ?_
    rotate_left
    refine at_again0 (i + 1) (by omega) (by omega) ⟨rfl, rfl, rfl, rfl, trivial⟩
  · obtain rfl : i = L.length := by omega
    refine at_seq ?_
    refine at_region ?_
    refine at_do (does_lss rfl rfl) rfl rfl ?_
    refine at_nil ?_
    refine at_then ?_
    refine at_seq ?_
    refine at_cond_f rfl (decide_eq_false (by omega)) ?_
    refine at_exit ?_
    refine at_then_exit ?_
    refine at_then_exit ?_
    refine at_inb_here ?_
    refine at_then ?_
    refine at_seq ?_
    refine at_region ?_
    refine at_do (does_assign rfl) rfl rfl ?_
    refine at_nil ?_
    refine at_then ?_
    refine at_ret ?_
    refine at_ret1 rfl rfl rfl (fun w9 ho9 => ?_)
    rotate_left
    exact ⟨rfl, ho9.plain⟩
theorem idxW_bad (arg : Value) (L : List Want2) (w : World) (hG : Glob w) (hV : WantsAt w arg L) (hS : ShortW L) (h : L.all okW = false) :
    Calls Tryd.prog 102 #[arg, badW] w fun e w' => ∃ v, e = .returned v ∧ Below w.heap.size w w' ∧ ∃ n : Nat, v = .int .i64 (n : Int) := by
  have hS1 := hS.1
  obtain ⟨A0, c0, rfl, hc, hcell⟩ := hV
  refine calls_plain Tryd.func102 rfl Tryd.ntmps102 rfl ?_
  refine at_seq ?_
  refine at_region ?_
  refine at_do (does_assign rfl) rfl rfl ?_
  refine at_nil ?_
  refine at_then ?_
  refine at_seq ?_
  refine at_seq ?_
  refine at_region ?_
  refine at_do (does_move rfl) rfl rfl ?_
  refine at_do (does_len (by kernel_rfl) rfl) rfl rfl ?_
  refine at_do (does_move rfl) rfl rfl ?_
  refine at_nil ?_
  refine at_then ?_
  refine at_block ?_
  rotate_left
  refine at_loop0 (fun i : Nat => i ≤ L.length ∧ (L.take i).all okW = true) (fun i => [(0, .slice A0 L.length c0), (1, badW), (7, .int .i64 L.length), (8, .int .i64 i)]) (fun i => L.length - i) 0 ⟨Nat.zero_le _, rfl⟩ ⟨rfl, rfl, rfl, rfl, trivial⟩ ?_
  rintro i ⟨hi, hI⟩
  by_cases hil : i < L.length
  · obtain ⟨gb, o, rfl, hlt, hce⟩ := hcell (by omega)
    obtain ⟨a, b, p1, p2, p3, p4, p5, p6⟩ := hce i hil
    have hI2 := all_take (p := okW) hil
    have hx := hS.2 L[i] (List.getElem_mem hil)
    generalize L[i] = x at p3 p4 hI2 hx
    cases hk : okW x
    · refine at_seq ?_
      refine at_region ?_
      refine at_do (does_lss rfl rfl) rfl rfl ?_
      refine at_nil ?_
      refine at_then ?_
      refine at_seq ?_
      refine at_cond_t rfl (decide_eq_true (by omega)) ?_
      refine at_skip ?_
      refine at_then ?_
      refine at_seq ?_
      refine at_block ?_
      refine at_seq ?_
      refine at_region ?_
      refine at_do (does_move rfl) rfl rfl ?_
      refine at_do (does_assign rfl) rfl rfl ?_
      refine at_nil ?_
      refine at_then ?_
      refine at_seq ?_
      refine at_region ?_
      refine at_do (does_move rfl) rfl rfl ?_
      refine at_do (does_move rfl) rfl rfl ?_
      refine at_do (does_move rfl) rfl rfl ?_
      refine at_do (does_indexAddrk (k := 2) (j := i) (by kernel_rfl) rfl rfl (by omega)) rfl rfl ?_
      refine at_do (does_loadagg_mem (vs := [a, b]) (by kernel_rfl) rfl (fun w' ho => two_cells (Below.cellOld ho.plain p1) (Below.cellOld ho.plain p2))) rfl rfl ?_
      refine at_callv (f := 91) (enters_val rfl (by kernel_rfl) rfl) (fun w ho => right_bad a b x.1 x.2 w (ho.glob hG id) (ho.oldVals p3) (ho.oldVals p4) hx.1 hx.2 p5 p6) rfl rfl ?_
      refine at_nil ?_
      refine at_then ?_
      refine at_cond_t rfl (by (rw [show (okL x.1 && okL x.2) = false from hk]; rfl)) ?_
      refine at_seq ?_
      refine at_region ?_
      refine at_do (does_move rfl) rfl rfl ?_
      refine at_do (does_assign rfl) rfl rfl ?_
      refine at_nil ?_
      refine at_then ?_
      refine at_ret ?_
      refine at_inb_ret ?_
      refine at_then_ret ?_
      refine at_then_ret ?_
      refine at_inb_ret ?_
      refine at_then_ret ?_
      refine at_ret1 rfl rfl rfl (fun w9 ho9 => ?_)
      rotate_left
      exact ⟨_, rfl, ho9.plain, i, rfl⟩
    · refine at_seq ?_
      refine at_region ?_
      refine at_do (does_lss rfl rfl) rfl rfl ?_
      refine at_nil ?_
      refine at_then ?_
      refine at_seq ?_
      refine at_cond_t rfl (decide_eq_true (by omega)) ?_
      refine at_skip ?_
      refine at_then ?_
      refine at_seq ?_
      refine at_block ?_
      refine at_seq ?_
      refine at_region ?_
      refine at_do (does_move rfl) rfl rfl ?_
      refine at_do (does_assign rfl) rfl rfl ?_
      refine at_nil ?_
      refine at_then ?_
      refine at_seq ?_
      refine at_region ?_
      refine at_do (does_move rfl) rfl rfl ?_
      refine at_do (does_move rfl) rfl rfl ?_
      refine at_do (does_move rfl) rfl rfl ?_
      refine at_do (does_indexAddrk (k := 2) (j := i) (by kernel_rfl) rfl rfl (by omega)) rfl rfl ?_
      refine at_do (does_loadagg_mem (vs := [a, b]) (by kernel_rfl) rfl (fun w' ho => two_cells (Below.cellOld ho.plain p1) (Below.cellOld ho.plain p2))) rfl rfl ?_
      refine at_callv (f := 91) (enters_val rfl (by kernel_rfl) rfl) (fun w ho => right_bad a b x.1 x.2 w (ho.glob hG id) (ho.oldVals p3) (ho.oldVals p4) hx.1 hx.2 p5 p6) rfl rfl ?_
      refine at_nil ?_
      refine at_then ?_
      refine at_cond_f rfl (by (rw [show (okL x.1 && okL x.2) = true from hk]; rfl)) ?_
      refine at_skip ?_
      refine at_inb ?_
      refine at_then ?_
      refine at_region ?_
      refine at_do (does_addi rfl rfl (by omega)) rfl rfl ?_
      refine at_do (does_move rfl) rfl rfl ?_
      refine at_nil ?_
      refine at_then ?_
      rotate_left
      refine at_again0 (i + 1) ⟨by omega, by rw [hI2, hI, hk]; rfl⟩ (by omega) ⟨rfl, rfl, rfl, rfl, trivial⟩
  · obtain rfl : i = L.length := by omega
    rw [List.take_length] at hI
    exact absurd (hI.symm.trans h) (by simp)
theorem containsW_bad (arg : Value) (L : List Want2) (w : World) (hG : Glob w) (hV : WantsAt w arg L) (hS : ShortW L) :
    Calls Tryd.prog 90 #[arg, badW] w fun e w' => e = .returned (.bool (!L.all okW)) ∧ Below w.heap.size w w' := by
  refine calls_plain Tryd.func90 rfl Tryd.ntmps90 rfl ?_
  cases h : L.all okW
  · refine at_seq ?_
    refine at_region ?_
    refine at_do (does_assign rfl) rfl rfl ?_
    refine at_nil ?_
    refine at_then ?_
    refine at_seq ?_
    refine at_region ?_
    refine at_do (does_move rfl) rfl rfl ?_
    refine at_do (does_move rfl) rfl rfl ?_
    refine at_callk (f := 102) (Φ := fun v _ => ∃ n : Nat, v = .int .i64 (n : Int)) (enters_fn (by kernel_rfl) rfl) (fun w ho => idxW_bad arg L w (ho.glob hG id) (ho.oldWants hV) hS h) rfl rfl (fun v w1 hw1 hv => ?_)
    rotate_left
    obtain ⟨n, rfl⟩ := hv
    refine at_do (does_geq rfl rfl) rfl rfl ?_
    refine at_do (does_assign rfl) rfl rfl ?_
    refine at_nil ?_
    refine at_then ?_
    refine at_ret ?_
    refine at_ret1 rfl rfl rfl (fun w9 ho9 => ?_)
    rotate_left
    exact ⟨ret_bool (decide_eq_true (Int.natCast_nonneg n)), ho9.plain⟩
  · refine at_seq ?_
    refine at_region ?_
    refine at_do (does_assign rfl) rfl rfl ?_
    refine at_nil ?_
    refine at_then ?_
    refine at_seq ?_
    refine at_region ?_
    refine at_do (does_move rfl) rfl rfl ?_
    refine at_do (does_move rfl) rfl rfl ?_
    refine at_callv (f := 102) (enters_fn (by kernel_rfl) rfl) (fun w ho => idxW_ok arg L w (ho.glob hG id) (ho.oldWants hV) hS h) rfl rfl ?_
    refine at_do (does_geq rfl rfl) rfl rfl ?_
    refine at_do (does_assign rfl) rfl rfl ?_
    refine at_nil ?_
    refine at_then ?_
    refine at_ret ?_
    refine at_ret1 rfl rfl rfl (fun w9 ho9 => ?_)
    rotate_left
    exact ⟨rfl, ho9.plain⟩
/-- May a list be? -/
def rightL (L : List Want2) : Bool := decide (L.length ≤ 64) && L.all okW
theorem clash_right (arg : Value) (L : List Want2) (w : World) (hG : Glob w) (hV : WantsAt w arg L) (hS : ShortW L) :
    Calls Tryd.prog 66 #[arg] w fun e w' => e = .returned (.bool (rightL L)) ∧ Below w.heap.size w w' := by
  obtain ⟨A0, c0, rfl, _, _⟩ := id hV
  refine calls_plain Tryd.func66 rfl Tryd.ntmps66 rfl ?_
  by_cases h : L.length ≤ 64
  · refine at_seq ?_
    refine at_region ?_
    refine at_do (does_assign rfl) rfl rfl ?_
    refine at_nil ?_
    refine at_then ?_
    refine at_seq ?_
    refine at_region ?_
    refine at_do (does_move rfl) rfl rfl ?_
    refine at_do (does_len (by kernel_rfl) rfl) rfl rfl ?_
    refine at_do (does_leq rfl rfl) rfl rfl ?_
    refine at_do (does_move rfl) rfl rfl ?_
    refine at_know (t := 6) (d := true) rfl (decide_eq_true (by omega)) ?_
    refine at_on rfl rfl ?_
    refine at_do (does_move rfl) rfl rfl ?_
    refine at_on rfl rfl ?_
    refine at_callv (f := 90) (enters_fn (by kernel_rfl) rfl) (fun w ho => containsW_bad _ L w (ho.glob hG id) (ho.oldWants hV) hS) rfl rfl ?_
    refine at_on rfl rfl ?_
    refine at_do (does_not rfl) rfl rfl ?_
    refine at_do (does_pick_true rfl rfl) rfl rfl ?_
    refine at_do (does_assign rfl) rfl rfl ?_
    refine at_nil ?_
    refine at_then ?_
    refine at_ret ?_
    refine at_ret1 rfl rfl rfl (fun w9 ho9 => ?_)
    rotate_left
    exact ⟨ret_bool (by simp [rightL, h]), ho9.plain⟩
  · refine at_seq ?_
    refine at_region ?_
    refine at_do (does_assign rfl) rfl rfl ?_
    refine at_nil ?_
    refine at_then ?_
    refine at_seq ?_
    refine at_region ?_
    refine at_do (does_move rfl) rfl rfl ?_
    refine at_do (does_len (by kernel_rfl) rfl) rfl rfl ?_
    refine at_do (does_leq rfl rfl) rfl rfl ?_
    refine at_do (does_move rfl) rfl rfl ?_
    refine at_know (t := 6) (d := false) rfl (decide_eq_false (by omega)) ?_
    refine at_no rfl rfl rfl rfl ?_
    refine at_no rfl rfl rfl rfl ?_
    refine at_no rfl rfl rfl rfl ?_
    refine at_do (does_pick_false rfl rfl) rfl rfl ?_
    refine at_do (does_assign rfl) rfl rfl ?_
    refine at_nil ?_
    refine at_then ?_
    refine at_ret ?_
    refine at_ret1 rfl rfl rfl (fun w9 ho9 => ?_)
    rotate_left
    exact ⟨ret_bool (by simp [rightL, h]), ho9.plain⟩
end Go.Proofs.YtchfecmabhfooaaDoor
set_option linter.unusedSimpArgs false
set_option linter.unusedVariables false
namespace Go.Proofs.YtchfecmabhfooaaDoor
open Go.RowKit
attribute [local irreducible] cwp lwp Exit.then Exit.inBlock Exit.noGoto wpQuiet Calls fin At AtQ Again endQ RQ
theorem ref_Right (arg : Value) (L : List Want2) (w : World) (hV : WantsAt w arg L) (hS : ShortW L) :
    Calls Tryd.prog 20 #[arg] w fun e w' => e = .returned (.bool (rightL L)) ∧ Below w.heap.size w w' := by
  have hS1 := hS.1
  obtain ⟨A0, c0, rfl, hc, hcell⟩ := hV
  refine calls_plain Tryd.func20 rfl Tryd.ntmps20 rfl ?_
  refine at_seq ?_
  refine at_region ?_
  refine at_do (does_assign rfl) rfl rfl ?_
  refine at_nil ?_
  refine at_then ?_
  refine at_seq ?_
  refine at_seq ?_
  refine at_region ?_
  refine at_do (does_assign rfl) rfl rfl ?_
  refine at_nil ?_
  refine at_then ?_
  refine at_block ?_
  rotate_left
  refine at_loop0 (fun i : Nat => i ≤ L.length ∧ (L.take i).all okW = true) (fun i => [(0, .slice A0 L.length c0), (3, .int .i64 i)]) (fun i => L.length - i) 0 ⟨Nat.zero_le _, rfl⟩ ⟨rfl, rfl, trivial⟩ ?_
  rintro i ⟨hi, hI⟩
  by_cases hil : i < L.length
  · obtain ⟨gb, o, rfl, hlt, hce⟩ := hcell (by omega)
    obtain ⟨a, b, p1, p2, p3, p4, p5, p6⟩ := hce i hil
    have hI2 := all_take (p := okW) hil
    have hF := all_false (p := okW) hil
    have hx := hS.2 L[i] (List.getElem_mem hil)
    generalize L[i] = x at p3 p4 hI2 hF hx
    cases hk : okW x
    · refine at_seq ?_
      refine at_seq ?_
      refine at_region ?_
      refine at_do (does_move rfl) rfl rfl ?_
      refine at_do (does_move rfl) rfl rfl ?_
      refine at_do (does_len (by kernel_rfl) rfl) rfl rfl ?_
      refine at_do (does_lss rfl rfl) rfl rfl ?_
      refine at_nil ?_
      refine at_then ?_
      refine at_cond_t rfl (decide_eq_true (by omega)) ?_
      refine at_skip ?_
      refine at_then ?_
      refine at_seq ?_
      refine at_block ?_
      refine at_seq ?_
      refine at_region ?_
      refine at_do (does_move rfl) rfl rfl ?_
      refine at_do (does_move rfl) rfl rfl ?_
      refine at_do (does_indexAddrk (k := 2) (j := i) (by kernel_rfl) rfl rfl (by omega)) rfl rfl ?_
      refine at_do (does_loadagg_mem (vs := [a, b]) (by kernel_rfl) rfl (fun w' ho => two_cells (Below.cellOld ho.plain p1) (Below.cellOld ho.plain p2))) rfl rfl ?_
      refine at_callv (f := 63) (enters_fn (by kernel_rfl) rfl) (fun w ho => ref_May a b x.1 x.2 w (ho.oldVals p3) (ho.oldVals p4) hx.1 hx.2 p5 p6) rfl rfl ?_
      refine at_do (does_not rfl) rfl rfl ?_
      refine at_nil ?_
      refine at_then ?_
      refine at_cond_t rfl (by (rw [show (okL x.1 && okL x.2) = false from hk]; rfl)) ?_
      refine at_seq ?_
      refine at_region ?_
      refine at_do (does_assign rfl) rfl rfl ?_
      refine at_nil ?_
      refine at_then ?_
      refine at_ret ?_
      refine at_inb_ret ?_
      refine at_then_ret ?_
      refine at_then_ret ?_
      refine at_inb_ret ?_
      refine at_then_ret ?_
      refine at_ret1 rfl rfl rfl (fun w9 ho9 => ?_)
      rotate_left
      exact ⟨ret_bool (by simp [rightL, hF hk]), ho9.plain⟩
    · refine at_seq ?_
      refine at_seq ?_
      refine at_region ?_
      refine at_do (does_move rfl) rfl rfl ?_
      refine at_do (does_move rfl) rfl rfl ?_
      refine at_do (does_len (by kernel_rfl) rfl) rfl rfl ?_
      refine at_do (does_lss rfl rfl) rfl rfl ?_
      refine at_nil ?_
      refine at_then ?_
      refine at_cond_t rfl (decide_eq_true (by omega)) ?_
      refine at_skip ?_
      refine at_then ?_
      refine at_seq ?_
      refine at_block ?_
      refine at_seq ?_
      refine at_region ?_
      refine at_do (does_move rfl) rfl rfl ?_
      refine at_do (does_move rfl) rfl rfl ?_
      refine at_do (does_indexAddrk (k := 2) (j := i) (by kernel_rfl) rfl rfl (by omega)) rfl rfl ?_
      refine at_do (does_loadagg_mem (vs := [a, b]) (by kernel_rfl) rfl (fun w' ho => two_cells (Below.cellOld ho.plain p1) (Below.cellOld ho.plain p2))) rfl rfl ?_
      refine at_callv (f := 63) (enters_fn (by kernel_rfl) rfl) (fun w ho => ref_May a b x.1 x.2 w (ho.oldVals p3) (ho.oldVals p4) hx.1 hx.2 p5 p6) rfl rfl ?_
      refine at_do (does_not rfl) rfl rfl ?_
      refine at_nil ?_
      refine at_then ?_
      refine at_cond_f rfl (by (rw [show (okL x.1 && okL x.2) = true from hk]; rfl)) ?_
      refine at_skip ?_
      refine at_inb ?_
      refine at_then ?_
      refine at_region ?_
      refine at_do (does_move rfl) rfl rfl ?_
      refine at_do (does_addi rfl rfl (by omega)) rfl rfl ?_
      refine at_do (does_assign rfl) rfl rfl ?_
      refine at_nil ?_
      refine at_then ?_
      rotate_left
      refine at_again0 (i + 1) ⟨by omega, by rw [hI2, hI, hk]; rfl⟩ (by omega) ⟨rfl, rfl, trivial⟩
  · obtain rfl : i = L.length := by omega
    rw [List.take_length] at hI
    refine at_seq ?_
    refine at_seq ?_
    refine at_region ?_
    refine at_do (does_move rfl) rfl rfl ?_
    refine at_do (does_move rfl) rfl rfl ?_
    refine at_do (does_len (by kernel_rfl) rfl) rfl rfl ?_
    refine at_do (does_lss rfl rfl) rfl rfl ?_
    refine at_nil ?_
    refine at_then ?_
    refine at_cond_f rfl (decide_eq_false (by omega)) ?_
    refine at_exit ?_
    refine at_then_exit ?_
    refine at_then_exit ?_
    refine at_inb_here ?_
    refine at_then ?_
    refine at_seq ?_
    refine at_region ?_
    refine at_do (does_move rfl) rfl rfl ?_
    refine at_do (does_len (by kernel_rfl) rfl) rfl rfl ?_
    refine at_do (does_leq rfl rfl) rfl rfl ?_
    refine at_do (does_assign rfl) rfl rfl ?_
    refine at_nil ?_
    refine at_then ?_
    refine at_ret ?_
    refine at_ret1 rfl rfl rfl (fun w9 ho9 => ?_)
    rotate_left
    exact ⟨ret_bool (by rw [rightL, hI, Bool.and_true]; exact decide_eq_decide.2 (by omega)), ho9.plain⟩
end Go.Proofs.YtchfecmabhfooaaDoor
set_option linter.unusedSimpArgs false
set_option linter.unusedVariables false
namespace Go.Proofs.YtchfecmabhfooaaDoor
open Go.RowKit

def cutW (x : Want2) : Want2 := (cutL x.1, cutL x.2)
/-- One of a want's lists, kept out of these blocks. -/
def Kept (w : World) (B : Nat → Prop) (v : Value) (L : List (List UInt8)) : Prop := v.oneCell' = true ∧ ValsAt w v (strs L) ∧ (0 < L.length → ∀ g ∈ v.ownBlock, ¬ B g)
def WantV (w : World) (B : Nat → Prop) (a b : Value) (x : Want2) : Prop := Kept w B a x.1 ∧ Kept w B b x.2
def WantB (w : World) (B : Nat → Prop) (cs : List Value) (j : Nat) (x : Want2) : Prop := ∃ a b, cs[j * 2]? = some a ∧ cs[j * 2 + 1]? = some b ∧ WantV w B a b x
theorem Kept.move {w w' : World} {B B' : Nat → Prop} {v : Value} {L : List (List UInt8)} (h : Kept w B v L) (hf : Frm w B w') (hB : ∀ k, k < w.heap.size → B' k → B k) : Kept w' B' v L := by
  refine ⟨h.1, ?_, fun hl g hg hb => ?_⟩
  · by_cases hl : 0 < L.length
    · obtain ⟨gb, o, c, rfl, hc, hlt, hce⟩ := h.2.1.form (by rw [strs_len]; exact hl)
      refine .inr ⟨⟨gb, o, none⟩, c, rfl, hc, fun j u hu => ?_⟩
      rw [add_none]
      exact (World.cell?_of_block (hf.old gb hlt (h.2.2 hl gb (by simp [Value.ownBlock])))).trans (hce j u hu)
    · obtain rfl : L = [] := List.eq_nil_of_length_eq_zero (by omega)
      rcases h.2.1 with ⟨rfl, _⟩ | ⟨A, c, rfl, hc, _⟩
      · exact .inl ⟨rfl, rfl⟩
      · exact .inr ⟨A, c, rfl, hc, fun j u hu => by simp [strs] at hu⟩
  · obtain ⟨gb, o, c, rfl, hc, hlt, hce⟩ := h.2.1.form (by rw [strs_len]; exact hl)
    have hg' : g = gb := by simpa [Value.ownBlock] using hg.symm
    subst hg'
    exact h.2.2 hl g hg (hB g hlt hb)
theorem WantV.move {w w' : World} {B B' : Nat → Prop} {a b : Value} {x : Want2} (h : WantV w B a b x) (hf : Frm w B w') (hB : ∀ k, k < w.heap.size → B' k → B k) : WantV w' B' a b x := ⟨h.1.move hf hB, h.2.move hf hB⟩
theorem two_one {a b : Value} (h1 : a.oneCell' = true) (h2 : b.oneCell' = true) : ∀ u ∈ [a, b], u.oneCell' = true := by
  intro u hu
  simp only [List.mem_cons, List.not_mem_nil, or_false] at hu
  rcases hu with rfl | rfl
  · exact h1
  · exact h2
theorem want_call {C : Ctx} {H : List Res} {w : World} {a b : Value} {x : Want2} (ho : Own C H w) (h1 : ValsAt w a (strs x.1)) (h2 : ValsAt w b (strs x.2)) (o1 : a.oneCell' = true) (o2 : b.oneCell' = true) :
    Calls Tryd.prog 13 #[.agg #[a, b]] w fun e w' => ∃ v, e = .returned v ∧ Below w.heap.size w w' ∧ ∃ u1 u2, v = .agg #[u1, u2] ∧ WantV w' (fun k => k ∈ bls H) u1 u2 (cutW x) :=
  (law_Wants a b x.1 x.2 w h1 h2 o1 o2).mono fun e w' ⟨v, q1, q2, u1, u2, q3, q4, q5, q6, q7, q8, q9⟩ => ⟨v, q1, q2, u1, u2, q3, ⟨q8, q4, fun _ g hg hb => by have := q6 g hg; have := ho.lt g hb; omega⟩, ⟨q9, q5, fun _ g hg hb => by have := q7 g hg; have := ho.lt g hb; omega⟩⟩
theorem wants_of_row {w : World} {B : Nat → Prop} {e n : Nat} {v : Value} {cs : List Value} {L : List Want2} (h : w.ownsRow 0 e 2 v n cs) (hl : L.length = n) (hk : ∀ j x, j < n → L[j]? = some x → WantB w B cs j x) : WantsAt w v L := by
  rcases h.2 with ⟨rfl, h0⟩ | ⟨g, cap, cur, rfl, h1, hg, h2, h3, h4, h5⟩
  · exact ⟨none, 0, by rw [hl, h0], by omega, fun hp => by omega⟩
  · refine ⟨some ⟨g, 0, none⟩, cap, by rw [hl], by omega, fun hp => ⟨g, 0, rfl, (Array.getElem?_eq_some_iff.1 hg).1, fun i hi => ?_⟩⟩
    obtain ⟨a, b, e1, e2, k1, k2⟩ := hk i L[i] (by omega) (List.getElem?_eq_getElem hi)
    have hcell : ∀ j u, cs[j]? = some u → w.cell? ⟨g, 0 + j, none⟩ = some u := fun j u hu => by
      rw [Nat.zero_add, cell_of_row w g j cur e (0, 0) hg]
      rw [← h5, List.getElem?_take] at hu
      split at hu
      · simpa using hu
      · cases hu
    exact ⟨a, b, hcell _ _ e1, by have := hcell _ _ e2; rwa [← Nat.add_assoc] at this, k1.2.1, k2.2.1, k1.1, k2.1⟩
attribute [local irreducible] cwp lwp Exit.then Exit.inBlock Exit.noGoto wpQuiet Calls fin At AtQ Again endQ RQ
set_option maxHeartbeats 4000000 in
theorem law_Few (arg : Value) (L0 : List Want2) (w : World) (hV : WantsAt w arg L0) (hn9 : L0.length ≤ 9223372036854775807) :
    Calls Tryd.prog 17 #[arg] w fun e w' => ∃ v, e = .returned v ∧ Below w.heap.size w w' ∧ WantsAt w' v ((L0.take 66).map cutW) := by
  obtain ⟨A0, c0, rfl, hc, hcell⟩ := hV
  by_cases hs : 66 < L0.length
  · refine calls_plain Tryd.func17 rfl Tryd.ntmps17 rfl ?_
    obtain ⟨gb0, o0, rfl, _, _⟩ := hcell (by omega)
    obtain ⟨n, hn⟩ : ∃ n, n = 66 := ⟨_, rfl⟩
    have hnl : n ≤ L0.length := by omega
    refine at_seq ?_
    refine at_region ?_
    refine at_do (does_assign rfl) rfl rfl ?_
    refine at_nil ?_
    refine at_then ?_
    refine at_seq ?_
    refine at_seq ?_
    refine at_region ?_
    refine at_do (does_move rfl) rfl rfl ?_
    refine at_do (does_len (by kernel_rfl) rfl) rfl rfl ?_
    refine at_do (does_gtr rfl rfl) rfl rfl ?_
    refine at_nil ?_
    refine at_then ?_
    refine at_cond_t rfl (decide_eq_true (by omega)) ?_
    refine at_region ?_
    refine at_do (does_move rfl) rfl rfl ?_
    refine at_do (does_slice_hi (sz := 2) (by kernel_rfl) rfl rfl (by omega)) rfl rfl ?_
    refine at_do (does_assign rfl) rfl rfl ?_
    refine at_nil ?_
    refine at_then ?_
    refine at_seq ?_
    refine at_region ?_
    refine at_do (does_assign rfl) rfl rfl ?_
    refine at_nil ?_
    refine at_then ?_
    refine at_seq ?_
    refine at_seq ?_
    refine at_region ?_
    refine at_do (does_assign rfl) rfl rfl ?_
    refine at_nil ?_
    refine at_then ?_
    refine at_block ?_
    rotate_left
    refine at_weak (E' := [(0, .slice (some ⟨gb0, o0, none⟩) n c0), (3, .slice none 0 0), (4, .int .i64 0)]) ⟨by rw [hn]; rfl, rfl, rfl, trivial⟩ ?_
    refine at_loop (σ := World × Value × List Value × Nat) (fun s => s.2.2.2 ≤ n ∧ s.2.2.1.length = s.2.2.2 * 2 ∧ ∀ j x, j < s.2.2.2 → L0[j]? = some x → WantB s.1 (fun k => k ∈ bls [Res.row s.2.1 24 2 s.2.2.2 s.2.2.1]) s.2.2.1 j (cutW x)) (fun s => [(0, .slice (some ⟨gb0, o0, none⟩) n c0), (3, s.2.1), (4, .int .i64 s.2.2.2)])
      (fun s => ⟨w, fun _ => False, fun _ => False, s.1, fun k => k ∈ bls [Res.row s.2.1 24 2 s.2.2.2 s.2.2.1], []⟩) (fun s => [.row s.2.1 24 2 s.2.2.2 s.2.2.1]) (fun s => n - s.2.2.2)
      (fun w1 ho => ⟨(w1, .slice none 0 0, [], 0), ⟨Nat.zero_le _, rfl, fun j x hj => absurd hj (by simp)⟩, ⟨rfl, rfl, rfl, trivial⟩, rfl, (ho.nilrow 24 2).re⟩) ?_
    rintro ⟨W1, v3, cs, i⟩ ⟨hi, hcl, hI⟩
    simp only at hi hcl hI
    by_cases hil : i < n
    · obtain ⟨gb, o, hA, hlt, hce⟩ := hcell (by omega)
      obtain ⟨a, b, p1, p2, p3, p4, p5, p6⟩ := hce i (by omega)
      have hgen : cutW L0[i] = (cutL L0[i].1, cutL L0[i].2) := rfl
      refine at_seq ?_
      refine at_seq ?_
      refine at_region ?_
      refine at_do (does_move rfl) rfl rfl ?_
      refine at_do (does_move rfl) rfl rfl ?_
      refine at_do (does_len (by kernel_rfl) rfl) rfl rfl ?_
      refine at_do (does_lss rfl rfl) rfl rfl ?_
      refine at_nil ?_
      refine at_then ?_
      refine at_cond_t rfl (decide_eq_true (by (simp only; omega))) ?_
      refine at_skip ?_
      refine at_then ?_
      refine at_seq ?_
      refine at_block ?_
      refine at_region ?_
      refine at_do (does_move rfl) rfl rfl ?_
      refine at_do (does_move rfl) rfl rfl ?_
      refine at_do (does_move rfl) rfl rfl ?_
      refine at_do (does_indexAddrk (k := 2) (j := i) (h := gb) (o := o) (q := n) (c := c0) (by kernel_rfl) (by rw [hA]; rfl) rfl (by omega)) rfl rfl ?_
      refine at_do (does_loadagg_mem (vs := [a, b]) (by kernel_rfl) rfl (fun w' ho => two_cells (Below.cellOld ho.plain p1) (Below.cellOld ho.plain p2))) rfl rfl ?_
      refine at_callk (f := 13) (Φ := fun v w' => ∃ u1 u2, v = .agg #[u1, u2] ∧ WantV w' (fun k => k ∈ bls [Res.row v3 24 2 i cs]) u1 u2 (cutW L0[i])) (enters_fn (by kernel_rfl) rfl) (fun w ho => want_call ho (ho.oldVals p3) (ho.oldVals p4) p5 p6) rfl rfl (fun v w1 hw1 hv => ?_)
      rotate_left
      obtain ⟨u1, u2, rfl, hu⟩ := hv
      have q1 := hu.1.1
      have q2 := hu.2.1
      refine at_buildSlice (e := 24) (sz := 2) (vs := [.agg #[u1, u2]]) (cs := [u1, u2]) (by kernel_rfl) rfl rfl rfl rfl rfl rfl (fun g => ?_)
      refine at_append (i := 1) (sz := 2) (by' := 48) (k := 1) (A := ⟨g, 0, none⟩) (news := [u1, u2]) (by kernel_rfl) rfl rfl rfl rfl (fun w ho => lit_cells ho (i := 0) rfl) (two_one q1 q2) (by simp only [maxLen]; omega) rfl (fun v4 hv4 => ?_)
      refine at_do (does_assign rfl) rfl rfl ?_
      refine at_nil ?_
      refine at_inb ?_
      refine at_then ?_
      refine at_region ?_
      refine at_do (does_move rfl) rfl rfl ?_
      refine at_do (does_addi rfl rfl (by (first | omega | (simp only; omega)))) rfl rfl ?_
      refine at_do (does_assign rfl) rfl rfl ?_
      refine at_nil ?_
      refine at_then ?_
      rotate_left
      refine at_againw fun w' ho => ⟨(w', v4, cs ++ [u1, u2], i + 1), ⟨by show i + 1 ≤ n; omega, by show (cs ++ [u1, u2]).length = (i + 1) * 2; simp; omega, ?_⟩, by show n - (i + 1) < n - i; omega, ⟨rfl, rfl, rfl, trivial⟩, rfl, ?_⟩
      · have hfrm : Frm W1 (fun k => k ∈ bls [Res.row v3 24 2 i cs]) w' := hw1.base.trans ho.base (fun k _ h => h)
        have hsz : W1.heap.size ≤ w1.heap.size := hw1.base.size
        have hsub : ∀ k, k < w1.heap.size → k ∈ bls [Res.row v4 24 2 (i + 1) (cs ++ [u1, u2])] → k ∈ bls [Res.row v3 24 2 i cs] := fun k hk hm => by
          have h9 := (ho.sublist (List.sublist_cons_self ..)).mine k hm
          exact h9.2.resolve_left (fun h8 => by have h8 : w1.heap.size ≤ k := h8; omega)
        intro j x hj hx
        have hj : j < i + 1 := hj
        by_cases hji : j < i
        · obtain ⟨a', b', e1, e2, hv⟩ := hI j x hji hx
          exact ⟨a', b', by rw [List.getElem?_append_left (by omega)]; exact e1, by rw [List.getElem?_append_left (by omega)]; exact e2, hv.move hfrm (fun k hk => hsub k (by omega))⟩
        · have hje : j = i := by omega
          have hxe : x = L0[i]'(by omega) := by
            rw [hje, List.getElem?_eq_getElem (by omega)] at hx
            exact (Option.some.inj hx).symm
          rw [hje, hxe]
          exact ⟨u1, u2, by rw [List.getElem?_append_right (by omega), show i * 2 - cs.length = 0 by omega]; rfl, by rw [List.getElem?_append_right (by omega), show i * 2 + 1 - cs.length = 1 by omega]; rfl, hu.move ho.base hsub⟩
      · exact (ho.sublist (List.sublist_cons_self ..)).re
    · obtain rfl : i = n := by omega
      refine at_seq ?_
      refine at_seq ?_
      refine at_region ?_
      refine at_do (does_move rfl) rfl rfl ?_
      refine at_do (does_move rfl) rfl rfl ?_
      refine at_do (does_len (by kernel_rfl) rfl) rfl rfl ?_
      refine at_do (does_lss rfl rfl) rfl rfl ?_
      refine at_nil ?_
      refine at_then ?_
      refine at_cond_f rfl (decide_eq_false (by (simp only; omega))) ?_
      refine at_exit ?_
      refine at_then_exit ?_
      refine at_then_exit ?_
      refine at_inb_here ?_
      refine at_then ?_
      refine at_seq ?_
      refine at_region ?_
      refine at_do (does_move rfl) rfl rfl ?_
      refine at_do (does_assign rfl) rfl rfl ?_
      refine at_nil ?_
      refine at_then ?_
      refine at_ret ?_
      refine at_ret1 rfl rfl rfl (fun w9 ho9 => ?_)
      rotate_left
      refine ⟨v3, rfl, ho9.plain, wants_of_row (ho9.rowAt (i := 0) rfl) (B := fun k => k ∈ bls [Res.row v3 24 2 i cs]) (by simp; omega) (fun j x hj hx => ?_)⟩
      simp only [List.getElem?_map, Option.map_eq_some_iff] at hx
      obtain ⟨y, hy, rfl⟩ := hx
      rw [List.getElem?_take] at hy
      split at hy
      · obtain ⟨a', b', e1, e2, hv⟩ := hI j y hj hy
        exact ⟨a', b', e1, e2, hv.move ho9.base (fun k _ h => h)⟩
      · cases hy
  · refine calls_plain Tryd.func17 rfl Tryd.ntmps17 rfl ?_
    obtain ⟨n, hn⟩ : ∃ n, n = L0.length := ⟨_, rfl⟩
    have hnl : n ≤ L0.length := by omega
    rw [← hn]
    refine at_seq ?_
    refine at_region ?_
    refine at_do (does_assign rfl) rfl rfl ?_
    refine at_nil ?_
    refine at_then ?_
    refine at_seq ?_
    refine at_seq ?_
    refine at_region ?_
    refine at_do (does_move rfl) rfl rfl ?_
    refine at_do (does_len (by kernel_rfl) rfl) rfl rfl ?_
    refine at_do (does_gtr rfl rfl) rfl rfl ?_
    refine at_nil ?_
    refine at_then ?_
    refine at_cond_f rfl (decide_eq_false (by omega)) ?_
    refine at_skip ?_
    refine at_then ?_
    refine at_seq ?_
    refine at_region ?_
    refine at_do (does_assign rfl) rfl rfl ?_
    refine at_nil ?_
    refine at_then ?_
    refine at_seq ?_
    refine at_seq ?_
    refine at_region ?_
    refine at_do (does_assign rfl) rfl rfl ?_
    refine at_nil ?_
    refine at_then ?_
    refine at_block ?_
    rotate_left
    refine at_loop (σ := World × Value × List Value × Nat) (fun s => s.2.2.2 ≤ n ∧ s.2.2.1.length = s.2.2.2 * 2 ∧ ∀ j x, j < s.2.2.2 → L0[j]? = some x → WantB s.1 (fun k => k ∈ bls [Res.row s.2.1 24 2 s.2.2.2 s.2.2.1]) s.2.2.1 j (cutW x)) (fun s => [(0, .slice A0 n c0), (3, s.2.1), (4, .int .i64 s.2.2.2)])
      (fun s => ⟨w, fun _ => False, fun _ => False, s.1, fun k => k ∈ bls [Res.row s.2.1 24 2 s.2.2.2 s.2.2.1], []⟩) (fun s => [.row s.2.1 24 2 s.2.2.2 s.2.2.1]) (fun s => n - s.2.2.2)
      (fun w1 ho => ⟨(w1, .slice none 0 0, [], 0), ⟨Nat.zero_le _, rfl, fun j x hj => absurd hj (by simp)⟩, ⟨rfl, rfl, rfl, trivial⟩, rfl, (ho.nilrow 24 2).re⟩) ?_
    rintro ⟨W1, v3, cs, i⟩ ⟨hi, hcl, hI⟩
    simp only at hi hcl hI
    by_cases hil : i < n
    · obtain ⟨gb, o, hA, hlt, hce⟩ := hcell (by omega)
      obtain ⟨a, b, p1, p2, p3, p4, p5, p6⟩ := hce i (by omega)
      have hgen : cutW L0[i] = (cutL L0[i].1, cutL L0[i].2) := rfl
      refine at_seq ?_
      refine at_seq ?_
      refine at_region ?_
      refine at_do (does_move rfl) rfl rfl ?_
      refine at_do (does_move rfl) rfl rfl ?_
      refine at_do (does_len (by kernel_rfl) rfl) rfl rfl ?_
      refine at_do (does_lss rfl rfl) rfl rfl ?_
      refine at_nil ?_
      refine at_then ?_
      refine at_cond_t rfl (decide_eq_true (by (simp only; omega))) ?_
      refine at_skip ?_
      refine at_then ?_
      refine at_seq ?_
      refine at_block ?_
      refine at_region ?_
      refine at_do (does_move rfl) rfl rfl ?_
      refine at_do (does_move rfl) rfl rfl ?_
      refine at_do (does_move rfl) rfl rfl ?_
      refine at_do (does_indexAddrk (k := 2) (j := i) (h := gb) (o := o) (q := n) (c := c0) (by kernel_rfl) (by rw [hA]; rfl) rfl (by omega)) rfl rfl ?_
      refine at_do (does_loadagg_mem (vs := [a, b]) (by kernel_rfl) rfl (fun w' ho => two_cells (Below.cellOld ho.plain p1) (Below.cellOld ho.plain p2))) rfl rfl ?_
      refine at_callk (f := 13) (Φ := fun v w' => ∃ u1 u2, v = .agg #[u1, u2] ∧ WantV w' (fun k => k ∈ bls [Res.row v3 24 2 i cs]) u1 u2 (cutW L0[i])) (enters_fn (by kernel_rfl) rfl) (fun w ho => want_call ho (ho.oldVals p3) (ho.oldVals p4) p5 p6) rfl rfl (fun v w1 hw1 hv => ?_)
      rotate_left
      obtain ⟨u1, u2, rfl, hu⟩ := hv
      have q1 := hu.1.1
      have q2 := hu.2.1
      refine at_buildSlice (e := 24) (sz := 2) (vs := [.agg #[u1, u2]]) (cs := [u1, u2]) (by kernel_rfl) rfl rfl rfl rfl rfl rfl (fun g => ?_)
      refine at_append (i := 1) (sz := 2) (by' := 48) (k := 1) (A := ⟨g, 0, none⟩) (news := [u1, u2]) (by kernel_rfl) rfl rfl rfl rfl (fun w ho => lit_cells ho (i := 0) rfl) (two_one q1 q2) (by simp only [maxLen]; omega) rfl (fun v4 hv4 => ?_)
      refine at_do (does_assign rfl) rfl rfl ?_
      refine at_nil ?_
      refine at_inb ?_
      refine at_then ?_
      refine at_region ?_
      refine at_do (does_move rfl) rfl rfl ?_
      refine at_do (does_addi rfl rfl (by (first | omega | (simp only; omega)))) rfl rfl ?_
      refine at_do (does_assign rfl) rfl rfl ?_
      refine at_nil ?_
      refine at_then ?_
      rotate_left
      refine at_againw fun w' ho => ⟨(w', v4, cs ++ [u1, u2], i + 1), ⟨by show i + 1 ≤ n; omega, by show (cs ++ [u1, u2]).length = (i + 1) * 2; simp; omega, ?_⟩, by show n - (i + 1) < n - i; omega, ⟨rfl, rfl, rfl, trivial⟩, rfl, ?_⟩
      · have hfrm : Frm W1 (fun k => k ∈ bls [Res.row v3 24 2 i cs]) w' := hw1.base.trans ho.base (fun k _ h => h)
        have hsz : W1.heap.size ≤ w1.heap.size := hw1.base.size
        have hsub : ∀ k, k < w1.heap.size → k ∈ bls [Res.row v4 24 2 (i + 1) (cs ++ [u1, u2])] → k ∈ bls [Res.row v3 24 2 i cs] := fun k hk hm => by
          have h9 := (ho.sublist (List.sublist_cons_self ..)).mine k hm
          exact h9.2.resolve_left (fun h8 => by have h8 : w1.heap.size ≤ k := h8; omega)
        intro j x hj hx
        have hj : j < i + 1 := hj
        by_cases hji : j < i
        · obtain ⟨a', b', e1, e2, hv⟩ := hI j x hji hx
          exact ⟨a', b', by rw [List.getElem?_append_left (by omega)]; exact e1, by rw [List.getElem?_append_left (by omega)]; exact e2, hv.move hfrm (fun k hk => hsub k (by omega))⟩
        · have hje : j = i := by omega
          have hxe : x = L0[i]'(by omega) := by
            rw [hje, List.getElem?_eq_getElem (by omega)] at hx
            exact (Option.some.inj hx).symm
          rw [hje, hxe]
          exact ⟨u1, u2, by rw [List.getElem?_append_right (by omega), show i * 2 - cs.length = 0 by omega]; rfl, by rw [List.getElem?_append_right (by omega), show i * 2 + 1 - cs.length = 1 by omega]; rfl, hu.move ho.base hsub⟩
      · exact (ho.sublist (List.sublist_cons_self ..)).re
    · obtain rfl : i = n := by omega
      refine at_seq ?_
      refine at_seq ?_
      refine at_region ?_
      refine at_do (does_move rfl) rfl rfl ?_
      refine at_do (does_move rfl) rfl rfl ?_
      refine at_do (does_len (by kernel_rfl) rfl) rfl rfl ?_
      refine at_do (does_lss rfl rfl) rfl rfl ?_
      refine at_nil ?_
      refine at_then ?_
      refine at_cond_f rfl (decide_eq_false (by (simp only; omega))) ?_
      refine at_exit ?_
      refine at_then_exit ?_
      refine at_then_exit ?_
      refine at_inb_here ?_
      refine at_then ?_
      refine at_seq ?_
      refine at_region ?_
      refine at_do (does_move rfl) rfl rfl ?_
      refine at_do (does_assign rfl) rfl rfl ?_
      refine at_nil ?_
      refine at_then ?_
      refine at_ret ?_
      refine at_ret1 rfl rfl rfl (fun w9 ho9 => ?_)
      rotate_left
      refine ⟨v3, rfl, ho9.plain, wants_of_row (ho9.rowAt (i := 0) rfl) (B := fun k => k ∈ bls [Res.row v3 24 2 i cs]) (by simp; omega) (fun j x hj hx => ?_)⟩
      simp only [List.getElem?_map, Option.map_eq_some_iff] at hx
      obtain ⟨y, hy, rfl⟩ := hx
      rw [List.getElem?_take] at hy
      split at hy
      · obtain ⟨a', b', e1, e2, hv⟩ := hI j y hj hy
        exact ⟨a', b', e1, e2, hv.move ho9.base (fun k _ h => h)⟩
      · cases hy
end Go.Proofs.YtchfecmabhfooaaDoor
