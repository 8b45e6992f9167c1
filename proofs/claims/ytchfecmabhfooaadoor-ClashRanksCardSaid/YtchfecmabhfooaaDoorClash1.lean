/-
  The reference's answer whether two wants clash. No condition of its own.
-/
import Derived.Test.YtchfecmabhfooaaDoorKey5
import Derived.Test.YtchfecmabhfooaaDoorVals
set_option linter.unusedSimpArgs false
set_option linter.unusedVariables false
namespace Go.Proofs.YtchfecmabhfooaaDoor
open Go.RowKit
attribute [local irreducible] cwp lwp Exit.then Exit.inBlock Exit.noGoto wpQuiet Calls fin At AtQ Again endQ RQ

def okL (L : List (List UInt8)) : Bool := L.all keyOk
def meetB (a b : List UInt8) : Bool := beg a b || beg b a
def someB (A B : List (List UInt8)) : Bool := A.any fun a => B.any fun b => meetB a b
theorem strs_get {L : List (List UInt8)} {i : Nat} (h : i < L.length) : (strs L)[i]? = some (.string (bs L[i])) := by simp [strs, h]
theorem strs_len (L : List (List UInt8)) : (strs L).length = L.length := by simp [strs]
theorem all_take {α : Type} {p : α → Bool} {L : List α} {i : Nat} (h : i < L.length) : (L.take (i + 1)).all p = ((L.take i).all p && p L[i]) := by
  rw [List.take_succ_eq_append_getElem h, List.all_append, List.all_cons, List.all_nil, Bool.and_true]
theorem any_take {α : Type} {p : α → Bool} {L : List α} {i : Nat} (h : i < L.length) : (L.take (i + 1)).any p = ((L.take i).any p || p L[i]) := by
  rw [List.take_succ_eq_append_getElem h, List.any_append, List.any_cons, List.any_nil, Bool.or_false]
theorem all_false {α : Type} {p : α → Bool} {L : List α} {i : Nat} (h : i < L.length) (hp : p L[i] = false) : L.all p = false :=
  List.all_eq_false.2 ⟨L[i], List.getElem_mem h, by simp [hp]⟩
theorem any_true {α : Type} {p : α → Bool} {L : List α} {i : Nat} (h : i < L.length) (hp : p L[i] = true) : L.any p = true :=
  List.any_eq_true.2 ⟨L[i], List.getElem_mem h, hp⟩
/-- A list of patterns that no one is too long of. -/
def Short (L : List (List UInt8)) : Prop := L.length ≤ 1000 ∧ ∀ x ∈ L, x.length ≤ 1000
theorem ref_Patterns (arg : Value) (L : List (List UInt8)) (w : World) (hV : ValsAt w arg (strs L)) (hS : Short L) :
    Calls Tryd.prog 88 #[arg] w fun e w' => e = .returned (.bool (okL L)) ∧ Below w.heap.size w w' := by
  have hl := strs_len L
  have hS1 := hS.1
  refine calls_plain Tryd.func88 rfl Tryd.ntmps88 rfl ?_
  refine at_seq ?_
  refine at_region ?_
  refine at_do (does_assign rfl) rfl rfl ?_
  refine at_nil ?_
  refine at_then ?_
  refine at_seq ?_
  refine at_seq ?_
  refine at_region ?_
  refine at_do (does_assign rfl) rfl rfl ?_
  refine at_nil ?_
  refine at_then ?_
  refine at_block ?_
  rotate_left
  refine at_loop0 (fun i : Nat => i ≤ L.length ∧ (L.take i).all keyOk = true) (fun i => [(0, arg), (3, .int .i64 i)]) (fun i => L.length - i) 0 ⟨Nat.zero_le _, rfl⟩ ⟨rfl, rfl, trivial⟩ ?_
  rintro i ⟨hi, hI⟩
  by_cases hil : i < L.length
  · obtain ⟨gb, o, c, rfl, hc, hlt, hcell⟩ := hV.form (by omega)
    have hci := hcell i _ (strs_get hil)
    have hx := hS.2 L[i] (List.getElem_mem hil)
    have hI2 := all_take (p := keyOk) hil
    have hF := all_false (p := keyOk) hil
    generalize L[i] = x at hci hx hI2 hF
    cases hk : keyOk x
    · refine at_seq ?_
      refine at_seq ?_
      refine at_region ?_
      refine at_do (does_move rfl) rfl rfl ?_
      refine at_do (does_move rfl) rfl rfl ?_
      refine at_do (does_len (by kernel_rfl) rfl) rfl rfl ?_
      refine at_do (does_lss rfl rfl) rfl rfl ?_
      refine at_nil ?_
      refine at_then ?_
      refine at_cond_t rfl (decide_eq_true (by omega)) ?_
      refine at_skip ?_
      refine at_then ?_
      refine at_seq ?_
      refine at_block ?_
      refine at_seq ?_
      refine at_region ?_
      refine at_do (does_move rfl) rfl rfl ?_
      refine at_do (does_move rfl) rfl rfl ?_
      refine at_do (does_indexAddr1 (by kernel_rfl) rfl rfl (by omega)) rfl rfl ?_
      refine at_do (does_load_mem (by kernel_rfl) rfl (fun w' ho => Below.cellOld ho.plain hci)) rfl rfl ?_
      refine at_callv (f := 42) (enters_fn (by kernel_rfl) rfl) (fun w ho => ref_Pattern x w (by omega)) rfl rfl ?_
      refine at_do (does_not rfl) rfl rfl ?_
      refine at_nil ?_
      refine at_then ?_
      refine at_cond_t rfl (by (rw [hk]; rfl)) ?_
      refine at_seq ?_
      refine at_region ?_
      refine at_do (does_assign rfl) rfl rfl ?_
      refine at_nil ?_
      refine at_then ?_
      refine at_ret ?_
      refine at_inb_ret ?_
      refine at_then_ret ?_
      refine at_then_ret ?_
      refine at_inb_ret ?_
      refine at_then_ret ?_
      refine at_ret1 rfl rfl rfl (fun w9 ho9 => ?_)
      rotate_left
      exact ⟨ret_bool (hF hk).symm, ho9.plain⟩
    · refine at_seq ?_
      refine at_seq ?_
      refine at_region ?_
      refine at_do (does_move rfl) rfl rfl ?_
      refine at_do (does_move rfl) rfl rfl ?_
      refine at_do (does_len (by kernel_rfl) rfl) rfl rfl ?_
      refine at_do (does_lss rfl rfl) rfl rfl ?_
      refine at_nil ?_
      refine at_then ?_
      refine at_cond_t rfl (decide_eq_true (by omega)) ?_
      refine at_skip ?_
      refine at_then ?_
      refine at_seq ?_
      refine at_block ?_
      refine at_seq ?_
      refine at_region ?_
      refine at_do (does_move rfl) rfl rfl ?_
      refine at_do (does_move rfl) rfl rfl ?_
      refine at_do (does_indexAddr1 (by kernel_rfl) rfl rfl (by omega)) rfl rfl ?_
      refine at_do (does_load_mem (by kernel_rfl) rfl (fun w' ho => Below.cellOld ho.plain hci)) rfl rfl ?_
      refine at_callv (f := 42) (enters_fn (by kernel_rfl) rfl) (fun w ho => ref_Pattern x w (by omega)) rfl rfl ?_
      refine at_do (does_not rfl) rfl rfl ?_
      refine at_nil ?_
      refine at_then ?_
      refine at_cond_f rfl (by (rw [hk]; rfl)) ?_
      refine at_skip ?_
      refine at_inb ?_
      refine at_then ?_
      refine at_region ?_
      refine at_do (does_move rfl) rfl rfl ?_
      refine at_do (does_addi rfl rfl (by omega)) rfl rfl ?_
      refine at_do (does_assign rfl) rfl rfl ?_
      refine at_nil ?_
      refine at_then ?_
      rotate_left
      refine at_again0 (i + 1) ⟨by omega, by rw [hI2, hI, hk]; rfl⟩ (by omega) ⟨rfl, rfl, trivial⟩
  · obtain rfl : i = L.length := by omega
    refine at_seq ?_
    refine at_seq ?_
    refine at_region ?_
    refine at_do (does_move rfl) rfl rfl ?_
    refine at_do (does_move rfl) rfl rfl ?_
    refine at_do (does_vlen (vs := strs L) (by kernel_rfl) rfl (fun w ho => ho.oldVals hV)) rfl rfl ?_
    refine at_do (does_lss rfl rfl) rfl rfl ?_
    refine at_nil ?_
    refine at_then ?_
    refine at_cond_f rfl (decide_eq_false (by omega)) ?_
    refine at_exit ?_
    refine at_then_exit ?_
    refine at_then_exit ?_
    refine at_inb_here ?_
    refine at_then ?_
    refine at_seq ?_
    refine at_region ?_
    refine at_do (does_assign rfl) rfl rfl ?_
    refine at_nil ?_
    refine at_then ?_
    refine at_ret ?_
    refine at_ret1 rfl rfl rfl (fun w9 ho9 => ?_)
    rotate_left
    exact ⟨ret_bool (by rw [okL, ← hI, List.take_length]), ho9.plain⟩
theorem ref_meet (a b : List UInt8) (w : World) : Calls Tryd.prog 89 #[.string (bs a), .string (bs b)] w fun e w' => e = .returned (.bool (meetB a b)) ∧ Below w.heap.size w w' := by
  refine calls_plain Tryd.func89 rfl Tryd.ntmps89 rfl ?_
  cases h : beg a b
  · refine at_seq ?_
    refine at_region ?_
    refine at_do (does_assign rfl) rfl rfl ?_
    refine at_nil ?_
    refine at_then ?_
    refine at_seq ?_
    refine at_region ?_
    refine at_do (does_move rfl) rfl rfl ?_
    refine at_do (does_move rfl) rfl rfl ?_
    refine at_callv (f := 43) (enters_fn (by kernel_rfl) rfl) (fun w ho => ref_Begins _ _ w) rfl rfl ?_
    refine at_do (does_move rfl) rfl rfl ?_
    refine at_know (t := 8) (d := false) rfl (by exact h) ?_
    refine at_on rfl rfl ?_
    refine at_do (does_move rfl) rfl rfl ?_
    refine at_on rfl rfl ?_
    refine at_do (does_move rfl) rfl rfl ?_
    refine at_on rfl rfl ?_
    refine at_callv (f := 43) (enters_fn (by kernel_rfl) rfl) (fun w ho => ref_Begins _ _ w) rfl rfl ?_
    refine at_do (does_pick_false rfl rfl) rfl rfl ?_
    refine at_do (does_assign rfl) rfl rfl ?_
    refine at_nil ?_
    refine at_then ?_
    refine at_ret ?_
    refine at_ret1 rfl rfl rfl (fun w9 ho9 => ?_)
    rotate_left
    exact ⟨ret_bool (by simp [meetB, h]), ho9.plain⟩
  · refine at_seq ?_
    refine at_region ?_
    refine at_do (does_assign rfl) rfl rfl ?_
    refine at_nil ?_
    refine at_then ?_
    refine at_seq ?_
    refine at_region ?_
    refine at_do (does_move rfl) rfl rfl ?_
    refine at_do (does_move rfl) rfl rfl ?_
    refine at_callv (f := 43) (enters_fn (by kernel_rfl) rfl) (fun w ho => ref_Begins _ _ w) rfl rfl ?_
    refine at_do (does_move rfl) rfl rfl ?_
    refine at_know (t := 8) (d := true) rfl (by exact h) ?_
    refine at_no rfl rfl rfl rfl ?_
    refine at_no rfl rfl rfl rfl ?_
    refine at_no rfl rfl rfl rfl ?_
    refine at_do (does_pick_true rfl rfl) rfl rfl ?_
    refine at_do (does_assign rfl) rfl rfl ?_
    refine at_nil ?_
    refine at_then ?_
    refine at_ret ?_
    refine at_ret1 rfl rfl rfl (fun w9 ho9 => ?_)
    rotate_left
    exact ⟨ret_bool (by simp [meetB, h]), ho9.plain⟩
theorem ref_some (v1 v2 : Value) (A B : List (List UInt8)) (w : World) (h1 : ValsAt w v1 (strs A)) (h2 : ValsAt w v2 (strs B)) (hA : A.length ≤ 1000) (hB : B.length ≤ 1000) :
    Calls Tryd.prog 64 #[v1, v2] w fun e w' => e = .returned (.bool (someB A B)) ∧ Below w.heap.size w w' := by
  have la := strs_len A
  have lb := strs_len B
  refine calls_plain Tryd.func64 rfl Tryd.ntmps64 rfl ?_
  refine at_seq ?_
  refine at_region ?_
  refine at_do (does_assign rfl) rfl rfl ?_
  refine at_nil ?_
  refine at_then ?_
  refine at_seq ?_
  refine at_seq ?_
  refine at_region ?_
  refine at_do (does_assign rfl) rfl rfl ?_
  refine at_nil ?_
  refine at_then ?_
  refine at_block ?_
  rotate_left
  refine at_loop0 (fun i : Nat => i ≤ A.length ∧ (A.take i).any (fun a => B.any fun b => meetB a b) = false) (fun i => [(0, v1), (1, v2), (5, .int .i64 i)]) (fun i => A.length - i) 0 ⟨Nat.zero_le _, rfl⟩ ⟨rfl, rfl, rfl, trivial⟩ ?_
  rintro i ⟨hi, hI⟩
  by_cases hil : i < A.length
  · obtain ⟨gb, o, c, rfl, hc, hlt, hcell⟩ := h1.form (by omega)
    have hci := hcell i _ (strs_get hil)
    have hI2 := any_take (p := fun a => B.any fun b => meetB a b) hil
    have hT := any_true (p := fun a => B.any fun b => meetB a b) hil
    generalize A[i] = x at hci hI2 hT
    refine at_seq ?_
    refine at_seq ?_
    refine at_region ?_
    refine at_do (does_move rfl) rfl rfl ?_
    refine at_do (does_move rfl) rfl rfl ?_
    refine at_do (does_len (by kernel_rfl) rfl) rfl rfl ?_
    refine at_do (does_lss rfl rfl) rfl rfl ?_
    refine at_nil ?_
    refine at_then ?_
    refine at_cond_t rfl (decide_eq_true (by omega)) ?_
    refine at_skip ?_
    refine at_then ?_
    refine at_seq ?_
    refine at_block ?_
    refine at_seq ?_
    refine at_region ?_
    refine at_do (does_assign rfl) rfl rfl ?_
    refine at_nil ?_
    refine at_then ?_
    refine at_block ?_
    rotate_left
    refine at_loop0 (fun j : Nat => j ≤ B.length ∧ (B.take j).any (fun b => meetB x b) = false) (fun j => [(0, .slice (some ⟨gb, o, none⟩) (strs A).length c), (1, v2), (5, .int .i64 i), (6, .int .i64 j)]) (fun j => B.length - j) 0 ⟨Nat.zero_le _, rfl⟩ ⟨rfl, rfl, rfl, rfl, trivial⟩ ?_
    rintro j ⟨hj, hJ⟩
    by_cases hjl : j < B.length
    · obtain ⟨gb2, o2, c2, rfl, hc2, hlt2, hcell2⟩ := h2.form (by omega)
      have hcj := hcell2 j _ (strs_get hjl)
      have hJ2 := any_take (p := fun b => meetB x b) hjl
      have hT2 := any_true (p := fun b => meetB x b) hjl
      generalize B[j] = y at hcj hJ2 hT2
      cases hk : meetB x y
      · refine at_seq ?_
        refine at_seq ?_
        refine at_region ?_
        refine at_do (does_move rfl) rfl rfl ?_
        refine at_do (does_move rfl) rfl rfl ?_
        refine at_do (does_len (by kernel_rfl) rfl) rfl rfl ?_
        refine at_do (does_lss rfl rfl) rfl rfl ?_
        refine at_nil ?_
        refine at_then ?_
        refine at_cond_t rfl (decide_eq_true (by omega)) ?_
        refine at_skip ?_
        refine at_then ?_
        refine at_seq ?_
        refine at_block ?_
        refine at_seq ?_
        refine at_draw (by kernel_rfl) (by kernel_rfl) ?_
        refine atq_do (does_move rfl) rfl rfl ?_
        refine atq_do (does_move rfl) rfl rfl ?_
        refine atq_do (does_indexAddr1 (by kernel_rfl) rfl rfl (by omega)) rfl rfl ?_
        refine atq_do (does_load_mem (by kernel_rfl) rfl (fun w' ho => Below.cellOld ho.plain hci)) rfl rfl ?_
        refine atq_do (does_move rfl) rfl rfl ?_
        refine atq_do (does_move rfl) rfl rfl ?_
        refine atq_do (does_indexAddr1 (by kernel_rfl) rfl rfl (by omega)) rfl rfl ?_
        refine atq_do (does_load_mem (by kernel_rfl) rfl (fun w' ho => Below.cellOld ho.plain hcj)) rfl rfl ?_
        refine atq_callv (f := 89) (enters_fn (by kernel_rfl) rfl) (fun w ho => ref_meet x y w) rfl rfl ?_
        refine atq_nil ?_
        refine at_then ?_
        refine at_cond_f rfl (by omega) ?_
        refine at_skip ?_
        refine at_inb ?_
        refine at_then ?_
        refine at_region ?_
        refine at_do (does_move rfl) rfl rfl ?_
        refine at_do (does_addi rfl rfl (by omega)) rfl rfl ?_
        refine at_do (does_assign rfl) rfl rfl ?_
        refine at_nil ?_
        refine at_then ?_
        rotate_left
        refine at_again0 (j + 1) ⟨by omega, by rw [hJ2, hJ, hk]; rfl⟩ (by omega) ⟨rfl, rfl, rfl, rfl, trivial⟩
      · refine at_seq ?_
        refine at_seq ?_
        refine at_region ?_
        refine at_do (does_move rfl) rfl rfl ?_
        refine at_do (does_move rfl) rfl rfl ?_
        refine at_do (does_len (by kernel_rfl) rfl) rfl rfl ?_
        refine at_do (does_lss rfl rfl) rfl rfl ?_
        refine at_nil ?_
        refine at_then ?_
        refine at_cond_t rfl (decide_eq_true (by omega)) ?_
        refine at_skip ?_
        refine at_then ?_
        refine at_seq ?_
        refine at_block ?_
        refine at_seq ?_
        refine at_draw (by kernel_rfl) (by kernel_rfl) ?_
        refine atq_do (does_move rfl) rfl rfl ?_
        refine atq_do (does_move rfl) rfl rfl ?_
        refine atq_do (does_indexAddr1 (by kernel_rfl) rfl rfl (by omega)) rfl rfl ?_
        refine atq_do (does_load_mem (by kernel_rfl) rfl (fun w' ho => Below.cellOld ho.plain hci)) rfl rfl ?_
        refine atq_do (does_move rfl) rfl rfl ?_
        refine atq_do (does_move rfl) rfl rfl ?_
        refine atq_do (does_indexAddr1 (by kernel_rfl) rfl rfl (by omega)) rfl rfl ?_
        refine atq_do (does_load_mem (by kernel_rfl) rfl (fun w' ho => Below.cellOld ho.plain hcj)) rfl rfl ?_
        refine atq_callv (f := 89) (enters_fn (by kernel_rfl) rfl) (fun w ho => ref_meet x y w) rfl rfl ?_
        refine atq_nil ?_
        refine at_then ?_
        refine at_cond_t rfl (by omega) ?_
        refine at_seq ?_
        refine at_region ?_
        refine at_do (does_assign rfl) rfl rfl ?_
        refine at_nil ?_
        refine at_then ?_
        refine at_ret ?_
        refine at_inb_ret ?_
        refine at_then_ret ?_
        refine at_then_ret ?_
        refine at_inb_ret ?_
        refine at_inb_ret ?_
        refine at_then_ret ?_
        refine at_then_ret ?_
        refine at_inb_ret ?_
        refine at_then_ret ?_
        refine at_ret1 rfl rfl rfl (fun w9 ho9 => ?_)
        rotate_left
        exact ⟨ret_bool (hT (hT2 hk)).symm, ho9.plain⟩
    · obtain rfl : j = B.length := by omega
      rw [List.take_length] at hJ
      refine at_seq ?_
      refine at_seq ?_
      refine at_region ?_
      refine at_do (does_move rfl) rfl rfl ?_
      refine at_do (does_move rfl) rfl rfl ?_
      refine at_do (does_vlen (vs := strs B) (by kernel_rfl) rfl (fun w ho => ho.oldVals h2)) rfl rfl ?_
      refine at_do (does_lss rfl rfl) rfl rfl ?_
      refine at_nil ?_
      refine at_then ?_
      refine at_cond_f rfl (decide_eq_false (by omega)) ?_
      refine at_exit ?_
      refine at_then_exit ?_
      refine at_then_exit ?_
      refine at_inb_here ?_
      refine at_inb ?_
      refine at_then ?_
      refine at_region ?_
      refine at_do (does_move rfl) rfl rfl ?_
      refine at_do (does_addi rfl rfl (by omega)) rfl rfl ?_
      refine at_do (does_assign rfl) rfl rfl ?_
      refine at_nil ?_
      refine at_then ?_
      rotate_left
      refine at_again0 (i + 1) ⟨by omega, by rw [hI2, hI, hJ]; rfl⟩ (by omega) ⟨rfl, rfl, rfl, trivial⟩
  · obtain rfl : i = A.length := by omega
    refine at_seq ?_
    refine at_seq ?_
    refine at_region ?_
    refine at_do (does_move rfl) rfl rfl ?_
    refine at_do (does_move rfl) rfl rfl ?_
    refine at_do (does_vlen (vs := strs A) (by kernel_rfl) rfl (fun w ho => ho.oldVals h1)) rfl rfl ?_
    refine at_do (does_lss rfl rfl) rfl rfl ?_
    refine at_nil ?_
    refine at_then ?_
    refine at_cond_f rfl (decide_eq_false (by omega)) ?_
    refine at_exit ?_
    refine at_then_exit ?_
    refine at_then_exit ?_
    refine at_inb_here ?_
    refine at_then ?_
    refine at_seq ?_
    refine at_region ?_
    refine at_do (does_assign rfl) rfl rfl ?_
    refine at_nil ?_
    refine at_then ?_
    refine at_ret ?_
    refine at_ret1 rfl rfl rfl (fun w9 ho9 => ?_)
    rotate_left
    exact ⟨ret_bool (by rw [someB, ← hI, List.take_length]), ho9.plain⟩
/-- A want. -/
def wantV (a b : Value) : Value := .agg #[a, b]
theorem ref_May (a b : Value) (R W : List (List UInt8)) (w : World) (h1 : ValsAt w a (strs R)) (h2 : ValsAt w b (strs W)) (hR : Short R) (hW : Short W) (o1 : a.oneCell' = true) (o2 : b.oneCell' = true) :
    Calls Tryd.prog 63 #[.agg #[a, b]] w fun e w' => e = .returned (.bool (okL R && okL W)) ∧ Below w.heap.size w w' := by
  refine calls_plain Tryd.func63 rfl Tryd.ntmps63 rfl ?_
  cases h : okL R
  · refine at_seq ?_
    refine at_region ?_
    refine at_boxagg rfl rfl fun gz0 => ?_
    refine at_do (does_assign rfl) rfl rfl ?_
    refine at_nil ?_
    refine at_then ?_
    refine at_seq ?_
    refine at_region ?_
    refine at_do (does_fieldAddr (o := 0) (by kernel_rfl) rfl) rfl rfl ?_
    refine at_do (does_load (i := 0) (by kernel_rfl) rfl rfl rfl) rfl rfl ?_
    refine at_callv (f := 88) (enters_fn (by kernel_rfl) rfl) (fun w ho => ref_Patterns a R w (ho.oldVals h1) hR) rfl rfl ?_
    refine at_do (does_move rfl) rfl rfl ?_
    refine at_know (t := 6) (d := false) rfl (by exact h) ?_
    refine at_no rfl rfl rfl rfl ?_
    refine at_no rfl rfl rfl rfl ?_
    refine at_no rfl rfl rfl rfl ?_
    refine at_do (does_pick_false rfl rfl) rfl rfl ?_
    refine at_do (does_assign rfl) rfl rfl ?_
    refine at_nil ?_
    refine at_then ?_
    refine at_ret ?_
    refine at_ret1 rfl rfl rfl (fun w9 ho9 => ?_)
    rotate_left
    exact ⟨ret_bool (by first | rfl | simp [h]), ho9.plain⟩
  · refine at_seq ?_
    refine at_region ?_
    refine at_boxagg rfl rfl fun gz0 => ?_
    refine at_do (does_assign rfl) rfl rfl ?_
    refine at_nil ?_
    refine at_then ?_
    refine at_seq ?_
    refine at_region ?_
    refine at_do (does_fieldAddr (o := 0) (by kernel_rfl) rfl) rfl rfl ?_
    refine at_do (does_load (i := 0) (by kernel_rfl) rfl rfl rfl) rfl rfl ?_
    refine at_callv (f := 88) (enters_fn (by kernel_rfl) rfl) (fun w ho => ref_Patterns a R w (ho.oldVals h1) hR) rfl rfl ?_
    refine at_do (does_move rfl) rfl rfl ?_
    refine at_know (t := 6) (d := true) rfl (by exact h) ?_
    refine at_on rfl rfl ?_
    refine at_do (does_fieldAddr (o := 1) (by kernel_rfl) rfl) rfl rfl ?_
    refine at_on rfl rfl ?_
    refine at_do (does_load (i := 0) (by kernel_rfl) rfl rfl rfl) rfl rfl ?_
    refine at_on rfl rfl ?_
    refine at_callv (f := 88) (enters_fn (by kernel_rfl) rfl) (fun w ho => ref_Patterns b W w (ho.oldVals h2) hW) rfl rfl ?_
    refine at_do (does_pick_true rfl rfl) rfl rfl ?_
    refine at_do (does_assign rfl) rfl rfl ?_
    refine at_nil ?_
    refine at_then ?_
    refine at_ret ?_
    refine at_ret1 rfl rfl rfl (fun w9 ho9 => ?_)
    rotate_left
    exact ⟨ret_bool (by first | rfl | simp [h]), ho9.plain⟩
def pairF (r1 w1 r2 w2 : List (List UInt8)) : Bool := (okL r1 && okL w1) && (okL r2 && okL w2) && (someB w1 w2 || someB w1 r2 || someB r1 w2)
set_option maxHeartbeats 4000000 in
theorem ref_Pair (a1 b1 a2 b2 : Value) (r1 w1 r2 w2 : List (List UInt8)) (w : World) (h1 : ValsAt w a1 (strs r1)) (h2 : ValsAt w b1 (strs w1)) (h3 : ValsAt w a2 (strs r2)) (h4 : ValsAt w b2 (strs w2))
    (s1 : Short r1) (s2 : Short w1) (s3 : Short r2) (s4 : Short w2) (o1 : a1.oneCell' = true) (o2 : b1.oneCell' = true) (o3 : a2.oneCell' = true) (o4 : b2.oneCell' = true) :
    Calls Tryd.prog 15 #[.agg #[a1, b1], .agg #[a2, b2]] w fun e w' => e = .returned (.bool (pairF r1 w1 r2 w2)) ∧ Below w.heap.size w w' := by
  have cM1 : ∀ {w'}, ValsAt w' a1 (strs r1) → ValsAt w' b1 (strs w1) → Calls Tryd.prog 63 #[.agg #[a1, b1]] w' fun e w3 => e = .returned (.bool (okL r1 && okL w1)) ∧ Below w'.heap.size w' w3 := fun x y => ref_May a1 b1 r1 w1 _ x y s1 s2 o1 o2
  have cM2 : ∀ {w'}, ValsAt w' a2 (strs r2) → ValsAt w' b2 (strs w2) → Calls Tryd.prog 63 #[.agg #[a2, b2]] w' fun e w3 => e = .returned (.bool (okL r2 && okL w2)) ∧ Below w'.heap.size w' w3 := fun x y => ref_May a2 b2 r2 w2 _ x y s3 s4 o3 o4
  have cA : ∀ {w'}, ValsAt w' b1 (strs w1) → ValsAt w' b2 (strs w2) → Calls Tryd.prog 64 #[b1, b2] w' fun e w3 => e = .returned (.bool (someB w1 w2)) ∧ Below w'.heap.size w' w3 := fun x y => ref_some b1 b2 w1 w2 _ x y s2.1 s4.1
  have cB : ∀ {w'}, ValsAt w' b1 (strs w1) → ValsAt w' a2 (strs r2) → Calls Tryd.prog 64 #[b1, a2] w' fun e w3 => e = .returned (.bool (someB w1 r2)) ∧ Below w'.heap.size w' w3 := fun x y => ref_some b1 a2 w1 r2 _ x y s2.1 s3.1
  have cC : ∀ {w'}, ValsAt w' a1 (strs r1) → ValsAt w' b2 (strs w2) → Calls Tryd.prog 64 #[a1, b2] w' fun e w3 => e = .returned (.bool (someB r1 w2)) ∧ Below w'.heap.size w' w3 := fun x y => ref_some a1 b2 r1 w2 _ x y s1.1 s4.1
  have hF : pairF r1 w1 r2 w2 = ((okL r1 && okL w1) && (okL r2 && okL w2) && (someB w1 w2 || someB w1 r2 || someB r1 w2)) := rfl
  rw [hF]
  clear hF
  generalize (okL r1 && okL w1) = m1 at cM1 ⊢
  generalize (okL r2 && okL w2) = m2 at cM2 ⊢
  generalize someB w1 w2 = p1 at cA ⊢
  generalize someB w1 r2 = p2 at cB ⊢
  generalize someB r1 w2 = p3 at cC ⊢
  refine calls_plain Tryd.func15 rfl Tryd.ntmps15 rfl ?_
  refine at_seq ?_
  refine at_region ?_
  refine at_boxagg rfl rfl fun gz0 => ?_
  refine at_boxagg rfl rfl fun gz1 => ?_
  refine at_do (does_assign rfl) rfl rfl ?_
  refine at_nil ?_
  refine at_then ?_
  refine at_seq ?_
  refine at_region ?_
  refine at_do (does_loadagg (i := 1) (k := 2) (by kernel_rfl) rfl rfl rfl) rfl rfl ?_
  refine at_callv (f := 63) (enters_fn (by kernel_rfl) rfl) (fun w ho => cM1 (ho.oldVals h1) (ho.oldVals h2)) rfl rfl ?_
  refine at_do (does_move rfl) rfl rfl ?_
  refine at_guard rfl rfl (fun z2 => ?_) (fun z2 => ?_)
  refine at_on rfl rfl ?_
  refine at_do (does_loadagg (i := 0) (k := 2) (by kernel_rfl) rfl rfl rfl) rfl rfl ?_
  refine at_on rfl rfl ?_
  refine at_callv (f := 63) (enters_fn (by kernel_rfl) rfl) (fun w ho => cM2 (ho.oldVals h3) (ho.oldVals h4)) rfl rfl ?_
  refine at_do (does_pick_true rfl rfl) rfl rfl ?_
  refine at_do (does_move rfl) rfl rfl ?_
  refine at_guard rfl rfl (fun z3 => ?_) (fun z3 => ?_)
  refine at_on rfl rfl ?_
  refine at_do (does_fieldAddr (o := 1) (by kernel_rfl) rfl) rfl rfl ?_
  refine at_on rfl rfl ?_
  refine at_do (does_load (i := 1) (by kernel_rfl) rfl rfl rfl) rfl rfl ?_
  refine at_on rfl rfl ?_
  refine at_do (does_fieldAddr (o := 1) (by kernel_rfl) rfl) rfl rfl ?_
  refine at_on rfl rfl ?_
  refine at_do (does_load (i := 0) (by kernel_rfl) rfl rfl rfl) rfl rfl ?_
  refine at_on rfl rfl ?_
  refine at_callv (f := 64) (enters_fn (by kernel_rfl) rfl) (fun w ho => cA (ho.oldVals h2) (ho.oldVals h4)) rfl rfl ?_
  refine at_on rfl rfl ?_
  refine at_do (does_move rfl) rfl rfl ?_
  refine at_guard rfl rfl (fun z4 => ?_) (fun z4 => ?_)
  refine at_no rfl rfl rfl rfl ?_
  refine at_no rfl rfl rfl rfl ?_
  refine at_no rfl rfl rfl rfl ?_
  refine at_no rfl rfl rfl rfl ?_
  refine at_no rfl rfl rfl rfl ?_
  refine at_on rfl rfl ?_
  refine at_do (does_pick_true rfl rfl) rfl rfl ?_
  refine at_on rfl rfl ?_
  refine at_do (does_move rfl) rfl rfl ?_
  refine at_no rfl rfl rfl rfl ?_
  refine at_no rfl rfl rfl rfl ?_
  refine at_no rfl rfl rfl rfl ?_
  refine at_no rfl rfl rfl rfl ?_
  refine at_no rfl rfl rfl rfl ?_
  refine at_on rfl rfl ?_
  refine at_do (does_pick_true rfl rfl) rfl rfl ?_
  refine at_do (does_pick_true rfl rfl) rfl rfl ?_
  refine at_do (does_assign rfl) rfl rfl ?_
  refine at_nil ?_
  refine at_then ?_
  refine at_ret ?_
  refine at_ret1 rfl rfl rfl (fun w9 ho9 => ?_)
  rotate_left
  refine at_on rfl rfl ?_
  refine at_do (does_fieldAddr (o := 1) (by kernel_rfl) rfl) rfl rfl ?_
  refine at_on rfl rfl ?_
  refine at_do (does_load (i := 1) (by kernel_rfl) rfl rfl rfl) rfl rfl ?_
  refine at_on rfl rfl ?_
  refine at_do (does_fieldAddr (o := 0) (by kernel_rfl) rfl) rfl rfl ?_
  refine at_on rfl rfl ?_
  refine at_do (does_load (i := 0) (by kernel_rfl) rfl rfl rfl) rfl rfl ?_
  refine at_on rfl rfl ?_
  refine at_callv (f := 64) (enters_fn (by kernel_rfl) rfl) (fun w ho => cB (ho.oldVals h2) (ho.oldVals h3)) rfl rfl ?_
  refine at_on rfl rfl ?_
  refine at_do (does_pick_false rfl rfl) rfl rfl ?_
  refine at_on rfl rfl ?_
  refine at_do (does_move rfl) rfl rfl ?_
  refine at_guard rfl rfl (fun z5 => ?_) (fun z5 => ?_)
  refine at_no rfl rfl rfl rfl ?_
  refine at_no rfl rfl rfl rfl ?_
  refine at_no rfl rfl rfl rfl ?_
  refine at_no rfl rfl rfl rfl ?_
  refine at_no rfl rfl rfl rfl ?_
  refine at_on rfl rfl ?_
  refine at_do (does_pick_true rfl rfl) rfl rfl ?_
  refine at_do (does_pick_true rfl rfl) rfl rfl ?_
  refine at_do (does_assign rfl) rfl rfl ?_
  refine at_nil ?_
  refine at_then ?_
  refine at_ret ?_
  refine at_ret1 rfl rfl rfl (fun w9 ho9 => ?_)
  rotate_left
  refine at_on rfl rfl ?_
  refine at_do (does_fieldAddr (o := 0) (by kernel_rfl) rfl) rfl rfl ?_
  refine at_on rfl rfl ?_
  refine at_do (does_load (i := 1) (by kernel_rfl) rfl rfl rfl) rfl rfl ?_
  refine at_on rfl rfl ?_
  refine at_do (does_fieldAddr (o := 1) (by kernel_rfl) rfl) rfl rfl ?_
  refine at_on rfl rfl ?_
  refine at_do (does_load (i := 0) (by kernel_rfl) rfl rfl rfl) rfl rfl ?_
  refine at_on rfl rfl ?_
  refine at_callv (f := 64) (enters_fn (by kernel_rfl) rfl) (fun w ho => cC (ho.oldVals h1) (ho.oldVals h4)) rfl rfl ?_
  refine at_on rfl rfl ?_
  refine at_do (does_pick_false rfl rfl) rfl rfl ?_
  refine at_do (does_pick_true rfl rfl) rfl rfl ?_
  refine at_do (does_assign rfl) rfl rfl ?_
  refine at_nil ?_
  refine at_then ?_
  refine at_ret ?_
  refine at_ret1 rfl rfl rfl (fun w9 ho9 => ?_)
  rotate_left
  refine at_no rfl rfl rfl rfl ?_
  refine at_no rfl rfl rfl rfl ?_
  refine at_no rfl rfl rfl rfl ?_
  refine at_no rfl rfl rfl rfl ?_
  refine at_no rfl rfl rfl rfl ?_
  refine at_no rfl rfl rfl rfl ?_
  refine at_no rfl rfl rfl rfl ?_
  refine at_no rfl rfl rfl rfl ?_
  refine at_no rfl rfl rfl rfl ?_
  refine at_no rfl rfl rfl rfl ?_
  refine at_no rfl rfl rfl rfl ?_
  refine at_no rfl rfl rfl rfl ?_
  refine at_no rfl rfl rfl rfl ?_
  refine at_no rfl rfl rfl rfl ?_
  refine at_no rfl rfl rfl rfl ?_
  refine at_no rfl rfl rfl rfl ?_
  refine at_no rfl rfl rfl rfl ?_
  refine at_no rfl rfl rfl rfl ?_
  refine at_no rfl rfl rfl rfl ?_
  refine at_do (does_pick_false rfl rfl) rfl rfl ?_
  refine at_do (does_assign rfl) rfl rfl ?_
  refine at_nil ?_
  refine at_then ?_
  refine at_ret ?_
  refine at_ret1 rfl rfl rfl (fun w9 ho9 => ?_)
  rotate_left
  refine at_no rfl rfl rfl rfl ?_
  refine at_no rfl rfl rfl rfl ?_
  refine at_do (does_pick_false rfl rfl) rfl rfl ?_
  refine at_do (does_move rfl) rfl rfl ?_
  refine at_no rfl rfl rfl rfl ?_
  refine at_no rfl rfl rfl rfl ?_
  refine at_no rfl rfl rfl rfl ?_
  refine at_no rfl rfl rfl rfl ?_
  refine at_no rfl rfl rfl rfl ?_
  refine at_no rfl rfl rfl rfl ?_
  refine at_no rfl rfl rfl rfl ?_
  refine at_no rfl rfl rfl rfl ?_
  refine at_no rfl rfl rfl rfl ?_
  refine at_no rfl rfl rfl rfl ?_
  refine at_no rfl rfl rfl rfl ?_
  refine at_no rfl rfl rfl rfl ?_
  refine at_no rfl rfl rfl rfl ?_
  refine at_no rfl rfl rfl rfl ?_
  refine at_no rfl rfl rfl rfl ?_
  refine at_no rfl rfl rfl rfl ?_
  refine at_no rfl rfl rfl rfl ?_
  refine at_no rfl rfl rfl rfl ?_
  refine at_no rfl rfl rfl rfl ?_
  refine at_do (does_pick_false rfl rfl) rfl rfl ?_
  refine at_do (does_assign rfl) rfl rfl ?_
  refine at_nil ?_
  refine at_then ?_
  refine at_ret ?_
  refine at_ret1 rfl rfl rfl (fun w9 ho9 => ?_)
  rotate_left
  all_goals exact ⟨ret_bool (by clear cM1 cM2 cA cB cC; simp_all), ho9.plain⟩
end Go.Proofs.YtchfecmabhfooaaDoor
