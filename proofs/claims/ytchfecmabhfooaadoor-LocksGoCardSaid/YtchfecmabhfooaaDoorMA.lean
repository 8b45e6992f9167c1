/-
  The reference's answer whether two wants clash. No condition of its own.
  Whether a want may be. No condition of its own.
  What a want touches, one behind the other. No condition of its own.
  Whether what one want writes meets what the other touches. No condition of its own.
  Whether two wants clash. No condition of its own.
-/
import Derived.Test.YtchfecmabhfooaaDoorKey5
import Derived.Test.YtchfecmabhfooaaDoorVals
set_option linter.unusedSimpArgs false
set_option linter.unusedVariables false
namespace Go.Proofs.YtchfecmabhfooaaDoor
open Go.RowKit
attribute [local irreducible] cwp lwp Exit.then Exit.inBlock Exit.noGoto wpQuiet Calls fin At AtQ Again endQ RQ

def okL (L : List (List UInt8)) : Bool := L.all keyOk
def meetB (a b : List UInt8) : Bool := beg a b || beg b a
def someB (A B : List (List UInt8)) : Bool := A.any fun a => B.any fun b => meetB a b
theorem strs_get {L : List (List UInt8)} {i : Nat} (h : i < L.length) : (strs L)[i]? = some (.string (bs L[i])) := by simp [strs, h]
theorem strs_len (L : List (List UInt8)) : (strs L).length = L.length := by simp [strs]
theorem all_take {α : Type} {p : α → Bool} {L : List α} {i : Nat} (h : i < L.length) : (L.take (i + 1)).all p = ((L.take i).all p && p L[i]) := by
  rw [List.take_succ_eq_append_getElem h, List.all_append, List.all_cons, List.all_nil, Bool.and_true]
theorem any_take {α : Type} {p : α → Bool} {L : List α} {i : Nat} (h : i < L.length) : (L.take (i + 1)).any p = ((L.take i).any p || p L[i]) := by
  rw [List.take_succ_eq_append_getElem h, List.any_append, List.any_cons, List.any_nil, Bool.or_false]
theorem all_false {α : Type} {p : α → Bool} {L : List α} {i : Nat} (h : i < L.length) (hp : p L[i] = false) : L.all p = false :=
  List.all_eq_false.2 ⟨L[i], List.getElem_mem h, by simp [hp]⟩
theorem any_true {α : Type} {p : α → Bool} {L : List α} {i : Nat} (h : i < L.length) (hp : p L[i] = true) : L.any p = true :=
  List.any_eq_true.2 ⟨L[i], List.getElem_mem h, hp⟩
/-- A list of patterns that no one is too long of. -/
def Short (L : List (List UInt8)) : Prop := L.length ≤ 1000 ∧ ∀ x ∈ L, x.length ≤ 1000
theorem ref_Patterns (arg : Value) (L : List (List UInt8)) (w : World) (hV : ValsAt w arg (strs L)) (hS : Short L) :
    Calls Tryd.prog 88 #[arg] w fun e w' => e = .returned (.bool (okL L)) ∧ Below w.heap.size w w' := by
  have hl := strs_len L
  have hS1 := hS.1
  refine calls_plain Tryd.func88 rfl Tryd.ntmps88 rfl ?_
  refine at_seq ?_
  refine at_region ?_
  refine at_do (does_assign rfl) rfl rfl ?_
  refine at_nil ?_
  refine at_then ?_
  refine at_seq ?_
  refine at_seq ?_
  refine at_region ?_
  refine at_do (does_assign rfl) rfl rfl ?_
  refine at_nil ?_
  refine at_then ?_
  refine at_block ?_
  rotate_left
  refine at_loop0 (fun i : Nat => i ≤ L.length ∧ (L.take i).all keyOk = true) (fun i => [(0, arg), (3, .int .i64 i)]) (fun i => L.length - i) 0 ⟨Nat.zero_le _, rfl⟩ ⟨rfl, rfl, trivial⟩ ?_
  rintro i ⟨hi, hI⟩
  by_cases hil : i < L.length
  · obtain ⟨gb, o, c, rfl, hc, hlt, hcell⟩ := hV.form (by omega)
    have hci := hcell i _ (strs_get hil)
    have hx := hS.2 L[i] (List.getElem_mem hil)
    have hI2 := all_take (p := keyOk) hil
    have hF := all_false (p := keyOk) hil
    generalize L[i] = x at hci hx hI2 hF
    cases hk : keyOk x
    · refine at_seq ?_
      refine at_seq ?_
      refine at_region ?_
      refine at_do (does_move rfl) rfl rfl ?_
      refine at_do (does_move rfl) rfl rfl ?_
      refine at_do (does_len (by kernel_rfl) rfl) rfl rfl ?_
      refine at_do (does_lss rfl rfl) rfl rfl ?_
      refine at_nil ?_
      refine at_then ?_
      refine at_cond_t rfl (decide_eq_true (by omega)) ?_
      refine at_skip ?_
      refine at_then ?_
      refine at_seq ?_
      refine at_block ?_
      refine at_seq ?_
      refine at_region ?_
      refine at_do (does_move rfl) rfl rfl ?_
      refine at_do (does_move rfl) rfl rfl ?_
      refine at_do (does_indexAddr1 (by kernel_rfl) rfl rfl (by omega)) rfl rfl ?_
      refine at_do (does_load_mem (by kernel_rfl) rfl (fun w' ho => Below.cellOld ho.plain hci)) rfl rfl ?_
      refine at_callv (f := 42) (enters_fn (by kernel_rfl) rfl) (fun w ho => ref_Pattern x w (by omega)) rfl rfl ?_
      refine at_do (does_not rfl) rfl rfl ?_
      refine at_nil ?_
      refine at_then ?_
      refine at_cond_t rfl (by (rw [hk]; rfl)) ?_
      refine at_seq ?_
      refine at_region ?_
      refine at_do (does_assign rfl) rfl rfl ?_
      refine at_nil ?_
      refine at_then ?_
      refine at_ret ?_
      refine at_inb_ret ?_
      refine at_then_ret ?_
      refine at_then_ret ?_
      refine at_inb_ret ?_
      refine at_then_ret ?_
      refine at_ret1 rfl rfl rfl (fun w9 ho9 => ?_)
      rotate_left
      exact ⟨ret_bool (hF hk).symm, ho9.plain⟩
    · refine at_seq ?_
      refine at_seq ?_
      refine at_region ?_
      refine at_do (does_move rfl) rfl rfl ?_
      refine at_do (does_move rfl) rfl rfl ?_
      refine at_do (does_len (by kernel_rfl) rfl) rfl rfl ?_
      refine at_do (does_lss rfl rfl) rfl rfl ?_
      refine at_nil ?_
      refine at_then ?_
      refine at_cond_t rfl (decide_eq_true (by omega)) ?_
      refine at_skip ?_
      refine at_then ?_
      refine at_seq ?_
      refine at_block ?_
      refine at_seq ?_
      refine at_region ?_
      refine at_do (does_move rfl) rfl rfl ?_
      refine at_do (does_move rfl) rfl rfl ?_
      refine at_do (does_indexAddr1 (by kernel_rfl) rfl rfl (by omega)) rfl rfl ?_
      refine at_do (does_load_mem (by kernel_rfl) rfl (fun w' ho => Below.cellOld ho.plain hci)) rfl rfl ?_
      refine at_callv (f := 42) (enters_fn (by kernel_rfl) rfl) (fun w ho => ref_Pattern x w (by omega)) rfl rfl ?_
      refine at_do (does_not rfl) rfl rfl ?_
      refine at_nil ?_
      refine at_then ?_
      refine at_cond_f rfl (by (rw [hk]; rfl)) ?_
      refine at_skip ?_
      refine at_inb ?_
      refine at_then ?_
      refine at_region ?_
      refine at_do (does_move rfl) rfl rfl ?_
      refine at_do (does_addi rfl rfl (by omega)) rfl rfl ?_
      refine at_do (does_assign rfl) rfl rfl ?_
      refine at_nil ?_
      refine at_then ?_
      rotate_left
      refine at_again0 (i + 1) ⟨by omega, by rw [hI2, hI, hk]; rfl⟩ (by omega) ⟨rfl, rfl, trivial⟩
  · obtain rfl : i = L.length := by omega
    refine at_seq ?_
    refine at_seq ?_
    refine at_region ?_
    refine at_do (does_move rfl) rfl rfl ?_
    refine at_do (does_move rfl) rfl rfl ?_
    refine at_do (does_vlen (vs := strs L) (by kernel_rfl) rfl (fun w ho => ho.oldVals hV)) rfl rfl ?_
    refine at_do (does_lss rfl rfl) rfl rfl ?_
    refine at_nil ?_
    refine at_then ?_
    refine at_cond_f rfl (decide_eq_false (by omega)) ?_
    refine at_exit ?_
    refine at_then_exit ?_
    refine at_then_exit ?_
    refine at_inb_here ?_
    refine at_then ?_
    refine at_seq ?_
    refine at_region ?_
    refine at_do (does_assign rfl) rfl rfl ?_
    refine at_nil ?_
    refine at_then ?_
    refine at_ret ?_
    refine at_ret1 rfl rfl rfl (fun w9 ho9 => ?_)
    rotate_left
    exact ⟨ret_bool (by rw [okL, ← hI, List.take_length]), ho9.plain⟩
theorem ref_meet (a b : List UInt8) (w : World) : Calls Tryd.prog 89 #[.string (bs a), .string (bs b)] w fun e w' => e = .returned (.bool (meetB a b)) ∧ Below w.heap.size w w' := by
  refine calls_plain Tryd.func89 rfl Tryd.ntmps89 rfl ?_
  cases h : beg a b
  · refine at_seq ?_
    refine at_region ?_
    refine at_do (does_assign rfl) rfl rfl ?_
    refine at_nil ?_
    refine at_then ?_
    refine at_seq ?_
    refine at_region ?_
    refine at_do (does_move rfl) rfl rfl ?_
    refine at_do (does_move rfl) rfl rfl ?_
    refine at_callv (f := 43) (enters_fn (by kernel_rfl) rfl) (fun w ho => ref_Begins _ _ w) rfl rfl ?_
    refine at_do (does_move rfl) rfl rfl ?_
    refine at_know (t := 8) (d := false) rfl (by exact h) ?_
    refine at_on rfl rfl ?_
    refine at_do (does_move rfl) rfl rfl ?_
    refine at_on rfl rfl ?_
    refine at_do (does_move rfl) rfl rfl ?_
    refine at_on rfl rfl ?_
    refine at_callv (f := 43) (enters_fn (by kernel_rfl) rfl) (fun w ho => ref_Begins _ _ w) rfl rfl ?_
    refine at_do (does_pick_false rfl rfl) rfl rfl ?_
    refine at_do (does_assign rfl) rfl rfl ?_
    refine at_nil ?_
    refine at_then ?_
    refine at_ret ?_
    refine at_ret1 rfl rfl rfl (fun w9 ho9 => ?_)
    rotate_left
    exact ⟨ret_bool (by simp [meetB, h]), ho9.plain⟩
  · refine at_seq ?_
    refine at_region ?_
    refine at_do (does_assign rfl) rfl rfl ?_
    refine at_nil ?_
    refine at_then ?_
    refine at_seq ?_
    refine at_region ?_
    refine at_do (does_move rfl) rfl rfl ?_
    refine at_do (does_move rfl) rfl rfl ?_
    refine at_callv (f := 43) (enters_fn (by kernel_rfl) rfl) (fun w ho => ref_Begins _ _ w) rfl rfl ?_
    refine at_do (does_move rfl) rfl rfl ?_
    refine at_know (t := 8) (d := true) rfl (by exact h) ?_
    refine at_no rfl rfl rfl rfl ?_
    refine at_no rfl rfl rfl rfl ?_
    refine at_no rfl rfl rfl rfl ?_
    refine at_do (does_pick_true rfl rfl) rfl rfl ?_
    refine at_do (does_assign rfl) rfl rfl ?_
    refine at_nil ?_
    refine at_then ?_
    refine at_ret ?_
    refine at_ret1 rfl rfl rfl (fun w9 ho9 => ?_)
    rotate_left
    exact ⟨ret_bool (by simp [meetB, h]), ho9.plain⟩
theorem ref_some (v1 v2 : Value) (A B : List (List UInt8)) (w : World) (h1 : ValsAt w v1 (strs A)) (h2 : ValsAt w v2 (strs B)) (hA : A.length ≤ 1000) (hB : B.length ≤ 1000) :
    Calls Tryd.prog 64 #[v1, v2] w fun e w' => e = .returned (.bool (someB A B)) ∧ Below w.heap.size w w' := by
  have la := strs_len A
  have lb := strs_len B
  refine calls_plain Tryd.func64 rfl Tryd.ntmps64 rfl ?_
  refine at_seq ?_
  refine at_region ?_
  refine at_do (does_assign rfl) rfl rfl ?_
  refine at_nil ?_
  refine at_then ?_
  refine at_seq ?_
  refine at_seq ?_
  refine at_region ?_
  refine at_do (does_assign rfl) rfl rfl ?_
  refine at_nil ?_
  refine at_then ?_
  refine at_block ?_
  rotate_left
  refine at_loop0 (fun i : Nat => i ≤ A.length ∧ (A.take i).any (fun a => B.any fun b => meetB a b) = false) (fun i => [(0, v1), (1, v2), (5, .int .i64 i)]) (fun i => A.length - i) 0 ⟨Nat.zero_le _, rfl⟩ ⟨rfl, rfl, rfl, trivial⟩ ?_
  rintro i ⟨hi, hI⟩
  by_cases hil : i < A.length
  · obtain ⟨gb, o, c, rfl, hc, hlt, hcell⟩ := h1.form (by omega)
    have hci := hcell i _ (strs_get hil)
    have hI2 := any_take (p := fun a => B.any fun b => meetB a b) hil
    have hT := any_true (p := fun a => B.any fun b => meetB a b) hil
    generalize A[i] = x at hci hI2 hT
    refine at_seq ?_
    refine at_seq ?_
    refine at_region ?_
    refine at_do (does_move rfl) rfl rfl ?_
    refine at_do (does_move rfl) rfl rfl ?_
    refine at_do (does_len (by kernel_rfl) rfl) rfl rfl ?_
    refine at_do (does_lss rfl rfl) rfl rfl ?_
    refine at_nil ?_
    refine at_then ?_
    refine at_cond_t rfl (decide_eq_true (by omega)) ?_
    refine at_skip ?_
    refine at_then ?_
    refine at_seq ?_
    refine at_block ?_
    refine at_seq ?_
    refine at_region ?_
    refine at_do (does_assign rfl) rfl rfl ?_
    refine at_nil ?_
    refine at_then ?_
    refine at_block ?_
    rotate_left
    refine at_loop0 (fun j : Nat => j ≤ B.length ∧ (B.take j).any (fun b => meetB x b) = false) (fun j => [(0, .slice (some ⟨gb, o, none⟩) (strs A).length c), (1, v2), (5, .int .i64 i), (6, .int .i64 j)]) (fun j => B.length - j) 0 ⟨Nat.zero_le _, rfl⟩ ⟨rfl, rfl, rfl, rfl, trivial⟩ ?_
    rintro j ⟨hj, hJ⟩
    by_cases hjl : j < B.length
    · obtain ⟨gb2, o2, c2, rfl, hc2, hlt2, hcell2⟩ := h2.form (by omega)
      have hcj := hcell2 j _ (strs_get hjl)
      have hJ2 := any_take (p := fun b => meetB x b) hjl
      have hT2 := any_true (p := fun b => meetB x b) hjl
      generalize B[j] = y at hcj hJ2 hT2
      cases hk : meetB x y
      · refine at_seq ?_
        refine at_seq ?_
        refine at_region ?_
        refine at_do (does_move rfl) rfl rfl ?_
        refine at_do (does_move rfl) rfl rfl ?_
        refine at_do (does_len (by kernel_rfl) rfl) rfl rfl ?_
        refine at_do (does_lss rfl rfl) rfl rfl ?_
        refine at_nil ?_
        refine at_then ?_
        refine at_cond_t rfl (decide_eq_true (by omega)) ?_
        refine at_skip ?_
        refine at_then ?_
        refine at_seq ?_
        refine at_block ?_
        refine at_seq ?_
        refine at_draw (by kernel_rfl) (by kernel_rfl) ?_
        refine atq_do (does_move rfl) rfl rfl ?_
        refine atq_do (does_move rfl) rfl rfl ?_
        refine atq_do (does_indexAddr1 (by kernel_rfl) rfl rfl (by omega)) rfl rfl ?_
        refine atq_do (does_load_mem (by kernel_rfl) rfl (fun w' ho => Below.cellOld ho.plain hci)) rfl rfl ?_
        refine atq_do (does_move rfl) rfl rfl ?_
        refine atq_do (does_move rfl) rfl rfl ?_
        refine atq_do (does_indexAddr1 (by kernel_rfl) rfl rfl (by omega)) rfl rfl ?_
        refine atq_do (does_load_mem (by kernel_rfl) rfl (fun w' ho => Below.cellOld ho.plain hcj)) rfl rfl ?_
        refine atq_callv (f := 89) (enters_fn (by kernel_rfl) rfl) (fun w ho => ref_meet x y w) rfl rfl ?_
        refine atq_nil ?_
        refine at_then ?_
        refine at_cond_f rfl (by omega) ?_
        refine at_skip ?_
        refine at_inb ?_
        refine at_then ?_
        refine at_region ?_
        refine at_do (does_move rfl) rfl rfl ?_
        refine at_do (does_addi rfl rfl (by omega)) rfl rfl ?_
        refine at_do (does_assign rfl) rfl rfl ?_
        refine at_nil ?_
        refine at_then ?_
        rotate_left
        refine at_again0 (j + 1) ⟨by omega, by rw [hJ2, hJ, hk]; rfl⟩ (by omega) ⟨rfl, rfl, rfl, rfl, trivial⟩
      · refine at_seq ?_
        refine at_seq ?_
        refine at_region ?_
        refine at_do (does_move rfl) rfl rfl ?_
        refine at_do (does_move rfl) rfl rfl ?_
        refine at_do (does_len (by kernel_rfl) rfl) rfl rfl ?_
        refine at_do (does_lss rfl rfl) rfl rfl ?_
        refine at_nil ?_
        refine at_then ?_
        refine at_cond_t rfl (decide_eq_true (by omega)) ?_
        refine at_skip ?_
        refine at_then ?_
        refine at_seq ?_
        refine at_block ?_
        refine at_seq ?_
        refine at_draw (by kernel_rfl) (by kernel_rfl) ?_
        refine atq_do (does_move rfl) rfl rfl ?_
        refine atq_do (does_move rfl) rfl rfl ?_
        refine atq_do (does_indexAddr1 (by kernel_rfl) rfl rfl (by omega)) rfl rfl ?_
        refine atq_do (does_load_mem (by kernel_rfl) rfl (fun w' ho => Below.cellOld ho.plain hci)) rfl rfl ?_
        refine atq_do (does_move rfl) rfl rfl ?_
        refine atq_do (does_move rfl) rfl rfl ?_
        refine atq_do (does_indexAddr1 (by kernel_rfl) rfl rfl (by omega)) rfl rfl ?_
        refine atq_do (does_load_mem (by kernel_rfl) rfl (fun w' ho => Below.cellOld ho.plain hcj)) rfl rfl ?_
        refine atq_callv (f := 89) (enters_fn (by kernel_rfl) rfl) (fun w ho => ref_meet x y w) rfl rfl ?_
        refine atq_nil ?_
        refine at_then ?_
        refine at_cond_t rfl (by omega) ?_
        refine at_seq ?_
        refine at_region ?_
        refine at_do (does_assign rfl) rfl rfl ?_
        refine at_nil ?_
        refine at_then ?_
        refine at_ret ?_
        refine at_inb_ret ?_
        refine at_then_ret ?_
        refine at_then_ret ?_
        refine at_inb_ret ?_
        refine at_inb_ret ?_
        refine at_then_ret ?_
        refine at_then_ret ?_
        refine at_inb_ret ?_
        refine at_then_ret ?_
        refine at_ret1 rfl rfl rfl (fun w9 ho9 => ?_)
        rotate_left
        exact ⟨ret_bool (hT (hT2 hk)).symm, ho9.plain⟩
    · obtain rfl : j = B.length := by omega
      rw [List.take_length] at hJ
      refine at_seq ?_
      refine at_seq ?_
      refine at_region ?_
      refine at_do (does_move rfl) rfl rfl ?_
      refine at_do (does_move rfl) rfl rfl ?_
      refine at_do (does_vlen (vs := strs B) (by kernel_rfl) rfl (fun w ho => ho.oldVals h2)) rfl rfl ?_
      refine at_do (does_lss rfl rfl) rfl rfl ?_
      refine at_nil ?_
      refine at_then ?_
      refine at_cond_f rfl (decide_eq_false (by omega)) ?_
      refine at_exit ?_
      refine at_then_exit ?_
      refine at_then_exit ?_
      refine at_inb_here ?_
      refine at_inb ?_
      refine at_then ?_
      refine at_region ?_
      refine at_do (does_move rfl) rfl rfl ?_
      refine at_do (does_addi rfl rfl (by omega)) rfl rfl ?_
      refine at_do (does_assign rfl) rfl rfl ?_
      refine at_nil ?_
      refine at_then ?_
      rotate_left
      refine at_again0 (i + 1) ⟨by omega, by rw [hI2, hI, hJ]; rfl⟩ (by omega) ⟨rfl, rfl, rfl, trivial⟩
  · obtain rfl : i = A.length := by omega
    refine at_seq ?_
    refine at_seq ?_
    refine at_region ?_
    refine at_do (does_move rfl) rfl rfl ?_
    refine at_do (does_move rfl) rfl rfl ?_
    refine at_do (does_vlen (vs := strs A) (by kernel_rfl) rfl (fun w ho => ho.oldVals h1)) rfl rfl ?_
    refine at_do (does_lss rfl rfl) rfl rfl ?_
    refine at_nil ?_
    refine at_then ?_
    refine at_cond_f rfl (decide_eq_false (by omega)) ?_
    refine at_exit ?_
    refine at_then_exit ?_
    refine at_then_exit ?_
    refine at_inb_here ?_
    refine at_then ?_
    refine at_seq ?_
    refine at_region ?_
    refine at_do (does_assign rfl) rfl rfl ?_
    refine at_nil ?_
    refine at_then ?_
    refine at_ret ?_
    refine at_ret1 rfl rfl rfl (fun w9 ho9 => ?_)
    rotate_left
    exact ⟨ret_bool (by rw [someB, ← hI, List.take_length]), ho9.plain⟩
/-- A want. -/
def wantV (a b : Value) : Value := .agg #[a, b]
theorem ref_May (a b : Value) (R W : List (List UInt8)) (w : World) (h1 : ValsAt w a (strs R)) (h2 : ValsAt w b (strs W)) (hR : Short R) (hW : Short W) (o1 : a.oneCell' = true) (o2 : b.oneCell' = true) :
    Calls Tryd.prog 63 #[.agg #[a, b]] w fun e w' => e = .returned (.bool (okL R && okL W)) ∧ Below w.heap.size w w' := by
  refine calls_plain Tryd.func63 rfl Tryd.ntmps63 rfl ?_
  cases h : okL R
  · refine at_seq ?_
    refine at_region ?_
    refine at_boxagg rfl rfl fun gz0 => ?_
    refine at_do (does_assign rfl) rfl rfl ?_
    refine at_nil ?_
    refine at_then ?_
    refine at_seq ?_
    refine at_region ?_
    refine at_do (does_fieldAddr (o := 0) (by kernel_rfl) rfl) rfl rfl ?_
    refine at_do (does_load (i := 0) (by kernel_rfl) rfl rfl rfl) rfl rfl ?_
    refine at_callv (f := 88) (enters_fn (by kernel_rfl) rfl) (fun w ho => ref_Patterns a R w (ho.oldVals h1) hR) rfl rfl ?_
    refine at_do (does_move rfl) rfl rfl ?_
    refine at_know (t := 6) (d := false) rfl (by exact h) ?_
    refine at_no rfl rfl rfl rfl ?_
    refine at_no rfl rfl rfl rfl ?_
    refine at_no rfl rfl rfl rfl ?_
    refine at_do (does_pick_false rfl rfl) rfl rfl ?_
    refine at_do (does_assign rfl) rfl rfl ?_
    refine at_nil ?_
    refine at_then ?_
    refine at_ret ?_
    refine at_ret1 rfl rfl rfl (fun w9 ho9 => ?_)
    rotate_left
    exact ⟨ret_bool (by first | rfl | simp [h]), ho9.plain⟩
  · refine at_seq ?_
    refine at_region ?_
    refine at_boxagg rfl rfl fun gz0 => ?_
    refine at_do (does_assign rfl) rfl rfl ?_
    refine at_nil ?_
    refine at_then ?_
    refine at_seq ?_
    refine at_region ?_
    refine at_do (does_fieldAddr (o := 0) (by kernel_rfl) rfl) rfl rfl ?_
    refine at_do (does_load (i := 0) (by kernel_rfl) rfl rfl rfl) rfl rfl ?_
    refine at_callv (f := 88) (enters_fn (by kernel_rfl) rfl) (fun w ho => ref_Patterns a R w (ho.oldVals h1) hR) rfl rfl ?_
    refine at_do (does_move rfl) rfl rfl ?_
    refine at_know (t := 6) (d := true) rfl (by exact h) ?_
    refine at_on rfl rfl ?_
    refine at_do (does_fieldAddr (o := 1) (by kernel_rfl) rfl) rfl rfl ?_
    refine at_on rfl rfl ?_
    refine at_do (does_load (i := 0) (by kernel_rfl) rfl rfl rfl) rfl rfl ?_
    refine at_on rfl rfl ?_
    refine at_callv (f := 88) (enters_fn (by kernel_rfl) rfl) (fun w ho => ref_Patterns b W w (ho.oldVals h2) hW) rfl rfl ?_
    refine at_do (does_pick_true rfl rfl) rfl rfl ?_
    refine at_do (does_assign rfl) rfl rfl ?_
    refine at_nil ?_
    refine at_then ?_
    refine at_ret ?_
    refine at_ret1 rfl rfl rfl (fun w9 ho9 => ?_)
    rotate_left
    exact ⟨ret_bool (by first | rfl | simp [h]), ho9.plain⟩
def pairF (r1 w1 r2 w2 : List (List UInt8)) : Bool := (okL r1 && okL w1) && (okL r2 && okL w2) && (someB w1 w2 || someB w1 r2 || someB r1 w2)
set_option maxHeartbeats 4000000 in
theorem ref_Pair (a1 b1 a2 b2 : Value) (r1 w1 r2 w2 : List (List UInt8)) (w : World) (h1 : ValsAt w a1 (strs r1)) (h2 : ValsAt w b1 (strs w1)) (h3 : ValsAt w a2 (strs r2)) (h4 : ValsAt w b2 (strs w2))
    (s1 : Short r1) (s2 : Short w1) (s3 : Short r2) (s4 : Short w2) (o1 : a1.oneCell' = true) (o2 : b1.oneCell' = true) (o3 : a2.oneCell' = true) (o4 : b2.oneCell' = true) :
    Calls Tryd.prog 15 #[.agg #[a1, b1], .agg #[a2, b2]] w fun e w' => e = .returned (.bool (pairF r1 w1 r2 w2)) ∧ Below w.heap.size w w' := by
  have cM1 : ∀ {w'}, ValsAt w' a1 (strs r1) → ValsAt w' b1 (strs w1) → Calls Tryd.prog 63 #[.agg #[a1, b1]] w' fun e w3 => e = .returned (.bool (okL r1 && okL w1)) ∧ Below w'.heap.size w' w3 := fun x y => ref_May a1 b1 r1 w1 _ x y s1 s2 o1 o2
  have cM2 : ∀ {w'}, ValsAt w' a2 (strs r2) → ValsAt w' b2 (strs w2) → Calls Tryd.prog 63 #[.agg #[a2, b2]] w' fun e w3 => e = .returned (.bool (okL r2 && okL w2)) ∧ Below w'.heap.size w' w3 := fun x y => ref_May a2 b2 r2 w2 _ x y s3 s4 o3 o4
  have cA : ∀ {w'}, ValsAt w' b1 (strs w1) → ValsAt w' b2 (strs w2) → Calls Tryd.prog 64 #[b1, b2] w' fun e w3 => e = .returned (.bool (someB w1 w2)) ∧ Below w'.heap.size w' w3 := fun x y => ref_some b1 b2 w1 w2 _ x y s2.1 s4.1
  have cB : ∀ {w'}, ValsAt w' b1 (strs w1) → ValsAt w' a2 (strs r2) → Calls Tryd.prog 64 #[b1, a2] w' fun e w3 => e = .returned (.bool (someB w1 r2)) ∧ Below w'.heap.size w' w3 := fun x y => ref_some b1 a2 w1 r2 _ x y s2.1 s3.1
  have cC : ∀ {w'}, ValsAt w' a1 (strs r1) → ValsAt w' b2 (strs w2) → Calls Tryd.prog 64 #[a1, b2] w' fun e w3 => e = .returned (.bool (someB r1 w2)) ∧ Below w'.heap.size w' w3 := fun x y => ref_some a1 b2 r1 w2 _ x y s1.1 s4.1
  have hF : pairF r1 w1 r2 w2 = ((okL r1 && okL w1) && (okL r2 && okL w2) && (someB w1 w2 || someB w1 r2 || someB r1 w2)) := rfl
  rw [hF]
  clear hF
  generalize (okL r1 && okL w1) = m1 at cM1 ⊢
  generalize (okL r2 && okL w2) = m2 at cM2 ⊢
  generalize someB w1 w2 = p1 at cA ⊢
  generalize someB w1 r2 = p2 at cB ⊢
  generalize someB r1 w2 = p3 at cC ⊢
  refine calls_plain Tryd.func15 rfl Tryd.ntmps15 rfl ?_
  refine at_seq ?_
  refine at_region ?_
  refine at_boxagg rfl rfl fun gz0 => ?_
  refine at_boxagg rfl rfl fun gz1 => ?_
  refine at_do (does_assign rfl) rfl rfl ?_
  refine at_nil ?_
  refine at_then ?_
  refine at_seq ?_
  refine at_region ?_
  refine at_do (does_loadagg (i := 1) (k := 2) (by kernel_rfl) rfl rfl rfl) rfl rfl ?_
  refine at_callv (f := 63) (enters_fn (by kernel_rfl) rfl) (fun w ho => cM1 (ho.oldVals h1) (ho.oldVals h2)) rfl rfl ?_
  refine at_do (does_move rfl) rfl rfl ?_
  refine at_guard rfl rfl (fun z2 => ?_) (fun z2 => ?_)
  refine at_on rfl rfl ?_
  refine at_do (does_loadagg (i := 0) (k := 2) (by kernel_rfl) rfl rfl rfl) rfl rfl ?_
  refine at_on rfl rfl ?_
  refine at_callv (f := 63) (enters_fn (by kernel_rfl) rfl) (fun w ho => cM2 (ho.oldVals h3) (ho.oldVals h4)) rfl rfl ?_
  refine at_do (does_pick_true rfl rfl) rfl rfl ?_
  refine at_do (does_move rfl) rfl rfl ?_
  refine at_guard rfl rfl (fun z3 => ?_) (fun z3 => ?_)
  refine at_on rfl rfl ?_
  refine at_do (does_fieldAddr (o := 1) (by kernel_rfl) rfl) rfl rfl ?_
  refine at_on rfl rfl ?_
  refine at_do (does_load (i := 1) (by kernel_rfl) rfl rfl rfl) rfl rfl ?_
  refine at_on rfl rfl ?_
  refine at_do (does_fieldAddr (o := 1) (by kernel_rfl) rfl) rfl rfl ?_
  refine at_on rfl rfl ?_
  refine at_do (does_load (i := 0) (by kernel_rfl) rfl rfl rfl) rfl rfl ?_
  refine at_on rfl rfl ?_
  refine at_callv (f := 64) (enters_fn (by kernel_rfl) rfl) (fun w ho => cA (ho.oldVals h2) (ho.oldVals h4)) rfl rfl ?_
  refine at_on rfl rfl ?_
  refine at_do (does_move rfl) rfl rfl ?_
  refine at_guard rfl rfl (fun z4 => ?_) (fun z4 => ?_)
  refine at_no rfl rfl rfl rfl ?_
  refine at_no rfl rfl rfl rfl ?_
  refine at_no rfl rfl rfl rfl ?_
  refine at_no rfl rfl rfl rfl ?_
  refine at_no rfl rfl rfl rfl ?_
  refine at_on rfl rfl ?_
  refine at_do (does_pick_true rfl rfl) rfl rfl ?_
  refine at_on rfl rfl ?_
  refine at_do (does_move rfl) rfl rfl ?_
  refine at_no rfl rfl rfl rfl ?_
  refine at_no rfl rfl rfl rfl ?_
  refine at_no rfl rfl rfl rfl ?_
  refine at_no rfl rfl rfl rfl ?_
  refine at_no rfl rfl rfl rfl ?_
  refine at_on rfl rfl ?_
  refine at_do (does_pick_true rfl rfl) rfl rfl ?_
  refine at_do (does_pick_true rfl rfl) rfl rfl ?_
  refine at_do (does_assign rfl) rfl rfl ?_
  refine at_nil ?_
  refine at_then ?_
  refine at_ret ?_
  refine at_ret1 rfl rfl rfl (fun w9 ho9 => ?_)
  rotate_left
  refine at_on rfl rfl ?_
  refine at_do (does_fieldAddr (o := 1) (by kernel_rfl) rfl) rfl rfl ?_
  refine at_on rfl rfl ?_
  refine at_do (does_load (i := 1) (by kernel_rfl) rfl rfl rfl) rfl rfl ?_
  refine at_on rfl rfl ?_
  refine at_do (does_fieldAddr (o := 0) (by kernel_rfl) rfl) rfl rfl ?_
  refine at_on rfl rfl ?_
  refine at_do (does_load (i := 0) (by kernel_rfl) rfl rfl rfl) rfl rfl ?_
  refine at_on rfl rfl ?_
  refine at_callv (f := 64) (enters_fn (by kernel_rfl) rfl) (fun w ho => cB (ho.oldVals h2) (ho.oldVals h3)) rfl rfl ?_
  refine at_on rfl rfl ?_
  refine at_do (does_pick_false rfl rfl) rfl rfl ?_
  refine at_on rfl rfl ?_
  refine at_do (does_move rfl) rfl rfl ?_
  refine at_guard rfl rfl (fun z5 => ?_) (fun z5 => ?_)
  refine at_no rfl rfl rfl rfl ?_
  refine at_no rfl rfl rfl rfl ?_
  refine at_no rfl rfl rfl rfl ?_
  refine at_no rfl rfl rfl rfl ?_
  refine at_no rfl rfl rfl rfl ?_
  refine at_on rfl rfl ?_
  refine at_do (does_pick_true rfl rfl) rfl rfl ?_
  refine at_do (does_pick_true rfl rfl) rfl rfl ?_
  refine at_do (does_assign rfl) rfl rfl ?_
  refine at_nil ?_
  refine at_then ?_
  refine at_ret ?_
  refine at_ret1 rfl rfl rfl (fun w9 ho9 => ?_)
  rotate_left
  refine at_on rfl rfl ?_
  refine at_do (does_fieldAddr (o := 0) (by kernel_rfl) rfl) rfl rfl ?_
  refine at_on rfl rfl ?_
  refine at_do (does_load (i := 1) (by kernel_rfl) rfl rfl rfl) rfl rfl ?_
  refine at_on rfl rfl ?_
  refine at_do (does_fieldAddr (o := 1) (by kernel_rfl) rfl) rfl rfl ?_
  refine at_on rfl rfl ?_
  refine at_do (does_load (i := 0) (by kernel_rfl) rfl rfl rfl) rfl rfl ?_
  refine at_on rfl rfl ?_
  refine at_callv (f := 64) (enters_fn (by kernel_rfl) rfl) (fun w ho => cC (ho.oldVals h1) (ho.oldVals h4)) rfl rfl ?_
  refine at_on rfl rfl ?_
  refine at_do (does_pick_false rfl rfl) rfl rfl ?_
  refine at_do (does_pick_true rfl rfl) rfl rfl ?_
  refine at_do (does_assign rfl) rfl rfl ?_
  refine at_nil ?_
  refine at_then ?_
  refine at_ret ?_
  refine at_ret1 rfl rfl rfl (fun w9 ho9 => ?_)
  rotate_left
  refine at_no rfl rfl rfl rfl ?_
  refine at_no rfl rfl rfl rfl ?_
  refine at_no rfl rfl rfl rfl ?_
  refine at_no rfl rfl rfl rfl ?_
  refine at_no rfl rfl rfl rfl ?_
  refine at_no rfl rfl rfl rfl ?_
  refine at_no rfl rfl rfl rfl ?_
  refine at_no rfl rfl rfl rfl ?_
  refine at_no rfl rfl rfl rfl ?_
  refine at_no rfl rfl rfl rfl ?_
  refine at_no rfl rfl rfl rfl ?_
  refine at_no rfl rfl rfl rfl ?_
  refine at_no rfl rfl rfl rfl ?_
  refine at_no rfl rfl rfl rfl ?_
  refine at_no rfl rfl rfl rfl ?_
  refine at_no rfl rfl rfl rfl ?_
  refine at_no rfl rfl rfl rfl ?_
  refine at_no rfl rfl rfl rfl ?_
  refine at_no rfl rfl rfl rfl ?_
  refine at_do (does_pick_false rfl rfl) rfl rfl ?_
  refine at_do (does_assign rfl) rfl rfl ?_
  refine at_nil ?_
  refine at_then ?_
  refine at_ret ?_
  refine at_ret1 rfl rfl rfl (fun w9 ho9 => ?_)
  rotate_left
  refine at_no rfl rfl rfl rfl ?_
  refine at_no rfl rfl rfl rfl ?_
  refine at_do (does_pick_false rfl rfl) rfl rfl ?_
  refine at_do (does_move rfl) rfl rfl ?_
  refine at_no rfl rfl rfl rfl ?_
  refine at_no rfl rfl rfl rfl ?_
  refine at_no rfl rfl rfl rfl ?_
  refine at_no rfl rfl rfl rfl ?_
  refine at_no rfl rfl rfl rfl ?_
  refine at_no rfl rfl rfl rfl ?_
  refine at_no rfl rfl rfl rfl ?_
  refine at_no rfl rfl rfl rfl ?_
  refine at_no rfl rfl rfl rfl ?_
  refine at_no rfl rfl rfl rfl ?_
  refine at_no rfl rfl rfl rfl ?_
  refine at_no rfl rfl rfl rfl ?_
  refine at_no rfl rfl rfl rfl ?_
  refine at_no rfl rfl rfl rfl ?_
  refine at_no rfl rfl rfl rfl ?_
  refine at_no rfl rfl rfl rfl ?_
  refine at_no rfl rfl rfl rfl ?_
  refine at_no rfl rfl rfl rfl ?_
  refine at_no rfl rfl rfl rfl ?_
  refine at_do (does_pick_false rfl rfl) rfl rfl ?_
  refine at_do (does_assign rfl) rfl rfl ?_
  refine at_nil ?_
  refine at_then ?_
  refine at_ret ?_
  refine at_ret1 rfl rfl rfl (fun w9 ho9 => ?_)
  rotate_left
  all_goals exact ⟨ret_bool (by clear cM1 cM2 cA cB cC; simp_all), ho9.plain⟩
end Go.Proofs.YtchfecmabhfooaaDoor
set_option linter.unusedSimpArgs false
set_option linter.unusedVariables false
namespace Go.Proofs.YtchfecmabhfooaaDoor
open Go.RowKit
attribute [local irreducible] cwp lwp Exit.then Exit.inBlock Exit.noGoto wpQuiet Calls fin At AtQ Again endQ RQ

abbrev badFn : Value := .func (.func 85) #[] #[]
theorem may_bad (s : List UInt8) (w : World) (hG : Glob w) : Calls Tryd.prog 85 #[.string (bs s)] w fun e w' => e = .returned (.bool (!keyOk s)) ∧ Below w.heap.size w w' := by
  refine calls_plain Tryd.func85 rfl Tryd.ntmps85 rfl ?_
  refine at_seq ?_
  refine at_region ?_
  refine at_do (does_assign rfl) rfl rfl ?_
  refine at_nil ?_
  refine at_then ?_
  refine at_seq ?_
  refine at_region ?_
  refine at_do (does_move rfl) rfl rfl ?_
  refine at_callv (f := 45) (enters_fn (by kernel_rfl) rfl) (fun w ho => key_Pattern s w (ho.glob hG id)) rfl rfl ?_
  refine at_do (does_not rfl) rfl rfl ?_
  refine at_do (does_assign rfl) rfl rfl ?_
  refine at_nil ?_
  refine at_then ?_
  refine at_ret ?_
  refine at_ret1 rfl rfl rfl (fun w9 ho9 => ?_)
  rotate_left
  exact ⟨rfl, ho9.plain⟩
theorem idx_ok (arg : Value) (L : List (List UInt8)) (w : World) (hG : Glob w) (hV : ValsAt w arg (strs L)) (hS : Short L) (h : okL L = true) :
    Calls Tryd.prog 100 #[arg, badFn] w fun e w' => e = .returned (.int .i64 (-1)) ∧ Below w.heap.size w w' := by
  have hl := strs_len L
  have hS1 := hS.1
  have hall : ∀ i (hi : i < L.length), keyOk L[i] = true := fun i hi => List.all_eq_true.1 h _ (List.getElem_mem hi)
  obtain ⟨A0, c0, rfl⟩ := hV.len
  refine calls_plain Tryd.func100 rfl Tryd.ntmps100 rfl ?_
  refine at_seq ?_
  refine at_region ?_
  refine at_do (does_assign rfl) rfl rfl ?_
  refine at_nil ?_
  refine at_then ?_
  refine at_seq ?_
  refine at_seq ?_
  refine at_region ?_
  refine at_do (does_move rfl) rfl rfl ?_
  refine at_do (does_len (by kernel_rfl) rfl) rfl rfl ?_
  refine at_do (does_move rfl) rfl rfl ?_
  refine at_nil ?_
  refine at_then ?_
  refine at_block ?_
  rotate_left
  refine at_loop0 (fun i : Nat => i ≤ L.length) (fun i => [(0, .slice A0 (strs L).length c0), (1, badFn), (7, .int .i64 (strs L).length), (8, .int .i64 i)]) (fun i => L.length - i) 0 (Nat.zero_le _) ⟨rfl, rfl, rfl, rfl, trivial⟩ ?_
  rintro i hi
  by_cases hil : i < L.length
  · obtain ⟨gb, o, c, hv, hc, hlt, hcell⟩ := hV.form (by omega)
    simp only [Value.slice.injEq, true_and] at hv
    obtain ⟨rfl, rfl⟩ := hv
    have hci := hcell i _ (strs_get hil)
    have hk := hall i hil
    generalize L[i] = x at hci hk
    refine at_seq ?_
    refine at_region ?_
    refine at_do (does_lss rfl rfl) rfl rfl ?_
    refine at_nil ?_
    refine at_then ?_
    refine at_seq ?_
    refine at_cond_t rfl (decide_eq_true (by omega)) ?_
    refine at_skip ?_
    refine at_then ?_
    refine at_seq ?_
    refine at_block ?_
    refine at_seq ?_
    refine at_region ?_
    refine at_do (does_move rfl) rfl rfl ?_
    refine at_do (does_assign rfl) rfl rfl ?_
    refine at_nil ?_
    refine at_then ?_
    refine at_seq ?_
    refine at_region ?_
    refine at_do (does_move rfl) rfl rfl ?_
    refine at_do (does_move rfl) rfl rfl ?_
    refine at_do (does_move rfl) rfl rfl ?_
    refine at_do (does_indexAddr1 (by kernel_rfl) rfl rfl (by omega)) rfl rfl ?_
    refine at_do (does_load_mem (by kernel_rfl) rfl (fun w' ho => Below.cellOld ho.plain hci)) rfl rfl ?_
    refine at_callv (f := 85) (enters_val rfl (by kernel_rfl) rfl) (fun w ho => may_bad x w (ho.glob hG id)) rfl rfl ?_
    refine at_nil ?_
    refine at_then ?_
    refine at_cond_f rfl (by (rw [hk]; rfl)) ?_
    refine at_skip ?_
    refine at_inb ?_
    refine at_then ?_
    refine at_region ?_
    refine at_do (does_addi rfl rfl (by omega)) rfl rfl ?_
    refine at_do (does_move rfl) rfl rfl ?_
    refine at_nil ?_
    refine at_then ?_
    rotate_left
    refine at_again0 (i + 1) (by omega) (by omega) ⟨rfl, rfl, rfl, rfl, trivial⟩
  · obtain rfl : i = L.length := by omega
    refine at_seq ?_
    refine at_region ?_
    refine at_do (does_lss rfl rfl) rfl rfl ?_
    refine at_nil ?_
    refine at_then ?_
    refine at_seq ?_
    refine at_cond_f rfl (decide_eq_false (by omega)) ?_
    refine at_exit ?_
    refine at_then_exit ?_
    refine at_then_exit ?_
    refine at_inb_here ?_
    refine at_then ?_
    refine at_seq ?_
    refine at_region ?_
    refine at_do (does_assign rfl) rfl rfl ?_
    refine at_nil ?_
    refine at_then ?_
    refine at_ret ?_
    refine at_ret1 rfl rfl rfl (fun w9 ho9 => ?_)
    rotate_left
    exact ⟨rfl, ho9.plain⟩
theorem idx_bad (arg : Value) (L : List (List UInt8)) (w : World) (hG : Glob w) (hV : ValsAt w arg (strs L)) (hS : Short L) (h : okL L = false) :
    Calls Tryd.prog 100 #[arg, badFn] w fun e w' => ∃ v, e = .returned v ∧ Below w.heap.size w w' ∧ ∃ n : Nat, v = .int .i64 (n : Int) := by
  have hl := strs_len L
  have hS1 := hS.1
  obtain ⟨A0, c0, rfl⟩ := hV.len
  refine calls_plain Tryd.func100 rfl Tryd.ntmps100 rfl ?_
  refine at_seq ?_
  refine at_region ?_
  refine at_do (does_assign rfl) rfl rfl ?_
  refine at_nil ?_
  refine at_then ?_
  refine at_seq ?_
  refine at_seq ?_
  refine at_region ?_
  refine at_do (does_move rfl) rfl rfl ?_
  refine at_do (does_len (by kernel_rfl) rfl) rfl rfl ?_
  refine at_do (does_move rfl) rfl rfl ?_
  refine at_nil ?_
  refine at_then ?_
  refine at_block ?_
  rotate_left
  refine at_loop0 (fun i : Nat => i ≤ L.length ∧ (L.take i).all keyOk = true) (fun i => [(0, .slice A0 (strs L).length c0), (1, badFn), (7, .int .i64 (strs L).length), (8, .int .i64 i)]) (fun i => L.length - i) 0 ⟨Nat.zero_le _, rfl⟩ ⟨rfl, rfl, rfl, rfl, trivial⟩ ?_
  rintro i ⟨hi, hI⟩
  by_cases hil : i < L.length
  · obtain ⟨gb, o, c, hv, hc, hlt, hcell⟩ := hV.form (by omega)
    simp only [Value.slice.injEq, true_and] at hv
    obtain ⟨rfl, rfl⟩ := hv
    have hci := hcell i _ (strs_get hil)
    have hI2 := all_take (p := keyOk) hil
    generalize L[i] = x at hci hI2
    cases hk : keyOk x
    · refine at_seq ?_
      refine at_region ?_
      refine at_do (does_lss rfl rfl) rfl rfl ?_
      refine at_nil ?_
      refine at_then ?_
      refine at_seq ?_
      refine at_cond_t rfl (decide_eq_true (by omega)) ?_
      refine at_skip ?_
      refine at_then ?_
      refine at_seq ?_
      refine at_block ?_
      refine at_seq ?_
      refine at_region ?_
      refine at_do (does_move rfl) rfl rfl ?_
      refine at_do (does_assign rfl) rfl rfl ?_
      refine at_nil ?_
      refine at_then ?_
      refine at_seq ?_
      refine at_region ?_
      refine at_do (does_move rfl) rfl rfl ?_
      refine at_do (does_move rfl) rfl rfl ?_
      refine at_do (does_move rfl) rfl rfl ?_
      refine at_do (does_indexAddr1 (by kernel_rfl) rfl rfl (by omega)) rfl rfl ?_
      refine at_do (does_load_mem (by kernel_rfl) rfl (fun w' ho => Below.cellOld ho.plain hci)) rfl rfl ?_
      refine at_callv (f := 85) (enters_val rfl (by kernel_rfl) rfl) (fun w ho => may_bad x w (ho.glob hG id)) rfl rfl ?_
      refine at_nil ?_
      refine at_then ?_
      refine at_cond_t rfl (by (rw [hk]; rfl)) ?_
      refine at_seq ?_
      refine at_region ?_
      refine at_do (does_move rfl) rfl rfl ?_
      refine at_do (does_assign rfl) rfl rfl ?_
      refine at_nil ?_
      refine at_then ?_
      refine at_ret ?_
      refine at_inb_ret ?_
      refine at_then_ret ?_
      refine at_then_ret ?_
      refine at_inb_ret ?_
      refine at_then_ret ?_
      refine at_ret1 rfl rfl rfl (fun w9 ho9 => ?_)
      rotate_left
      exact ⟨_, rfl, ho9.plain, i, rfl⟩
    · refine at_seq ?_
      refine at_region ?_
      refine at_do (does_lss rfl rfl) rfl rfl ?_
      refine at_nil ?_
      refine at_then ?_
      refine at_seq ?_
      refine at_cond_t rfl (decide_eq_true (by omega)) ?_
      refine at_skip ?_
      refine at_then ?_
      refine at_seq ?_
      refine at_block ?_
      refine at_seq ?_
      refine at_region ?_
      refine at_do (does_move rfl) rfl rfl ?_
      refine at_do (does_assign rfl) rfl rfl ?_
      refine at_nil ?_
      refine at_then ?_
      refine at_seq ?_
      refine at_region ?_
      refine at_do (does_move rfl) rfl rfl ?_
      refine at_do (does_move rfl) rfl rfl ?_
      refine at_do (does_move rfl) rfl rfl ?_
      refine at_do (does_indexAddr1 (by kernel_rfl) rfl rfl (by omega)) rfl rfl ?_
      refine at_do (does_load_mem (by kernel_rfl) rfl (fun w' ho => Below.cellOld ho.plain hci)) rfl rfl ?_
      refine at_callv (f := 85) (enters_val rfl (by kernel_rfl) rfl) (fun w ho => may_bad x w (ho.glob hG id)) rfl rfl ?_
      refine at_nil ?_
      refine at_then ?_
      refine at_cond_f rfl (by (rw [hk]; rfl)) ?_
      refine at_skip ?_
      refine at_inb ?_
      refine at_then ?_
      refine at_region ?_
      refine at_do (does_addi rfl rfl (by omega)) rfl rfl ?_
      refine at_do (does_move rfl) rfl rfl ?_
      refine at_nil ?_
      refine at_then ?_
      rotate_left
      refine at_again0 (i + 1) ⟨by omega, by rw [hI2, hI, hk]; rfl⟩ (by omega) ⟨rfl, rfl, rfl, rfl, trivial⟩
  · obtain rfl : i = L.length := by omega
    rw [List.take_length] at hI
    exact absurd (hI.symm.trans h) (by simp)
theorem contains_bad (arg : Value) (L : List (List UInt8)) (w : World) (hG : Glob w) (hV : ValsAt w arg (strs L)) (hS : Short L) :
    Calls Tryd.prog 86 #[arg, badFn] w fun e w' => e = .returned (.bool (!okL L)) ∧ Below w.heap.size w w' := by
  refine calls_plain Tryd.func86 rfl Tryd.ntmps86 rfl ?_
  cases h : okL L
  · refine at_seq ?_
    refine at_region ?_
    refine at_do (does_assign rfl) rfl rfl ?_
    refine at_nil ?_
    refine at_then ?_
    refine at_seq ?_
    refine at_region ?_
    refine at_do (does_move rfl) rfl rfl ?_
    refine at_do (does_move rfl) rfl rfl ?_
    refine at_callk (f := 100) (Φ := fun v _ => ∃ n : Nat, v = .int .i64 (n : Int)) (enters_fn (by kernel_rfl) rfl) (fun w ho => idx_bad arg L w (ho.glob hG id) (ho.oldVals hV) hS h) rfl rfl (fun v w1 hw1 hv => ?_)
    rotate_left
    obtain ⟨n, rfl⟩ := hv
    refine at_do (does_geq rfl rfl) rfl rfl ?_
    refine at_do (does_assign rfl) rfl rfl ?_
    refine at_nil ?_
    refine at_then ?_
    refine at_ret ?_
    refine at_ret1 rfl rfl rfl (fun w9 ho9 => ?_)
    rotate_left
    exact ⟨ret_bool (decide_eq_true (Int.natCast_nonneg n)), ho9.plain⟩
  · refine at_seq ?_
    refine at_region ?_
    refine at_do (does_assign rfl) rfl rfl ?_
    refine at_nil ?_
    refine at_then ?_
    refine at_seq ?_
    refine at_region ?_
    refine at_do (does_move rfl) rfl rfl ?_
    refine at_do (does_move rfl) rfl rfl ?_
    refine at_callv (f := 100) (enters_fn (by kernel_rfl) rfl) (fun w ho => idx_ok arg L w (ho.glob hG id) (ho.oldVals hV) hS h) rfl rfl ?_
    refine at_do (does_geq rfl rfl) rfl rfl ?_
    refine at_do (does_assign rfl) rfl rfl ?_
    refine at_nil ?_
    refine at_then ?_
    refine at_ret ?_
    refine at_ret1 rfl rfl rfl (fun w9 ho9 => ?_)
    rotate_left
    exact ⟨rfl, ho9.plain⟩
theorem clash_may (a b : Value) (R W : List (List UInt8)) (w : World) (hG : Glob w) (h1 : ValsAt w a (strs R)) (h2 : ValsAt w b (strs W)) (hR : Short R) (hW : Short W) (o1 : a.oneCell' = true) (o2 : b.oneCell' = true) :
    Calls Tryd.prog 61 #[.agg #[a, b]] w fun e w' => e = .returned (.bool (okL R && okL W)) ∧ Below w.heap.size w w' := by
  refine calls_plain Tryd.func61 rfl Tryd.ntmps61 rfl ?_
  cases h : okL R
  · refine at_seq ?_
    refine at_region ?_
    refine at_boxagg rfl rfl fun gz0 => ?_
    refine at_do (does_assign rfl) rfl rfl ?_
    refine at_nil ?_
    refine at_then ?_
    refine at_seq ?_
    refine at_region ?_
    refine at_do (does_assign rfl) rfl rfl ?_
    refine at_nil ?_
    refine at_then ?_
    refine at_seq ?_
    refine at_region ?_
    refine at_do (does_fieldAddr (o := 0) (by kernel_rfl) rfl) rfl rfl ?_
    refine at_do (does_load (i := 0) (by kernel_rfl) rfl rfl rfl) rfl rfl ?_
    refine at_do (does_move rfl) rfl rfl ?_
    refine at_callv (f := 86) (enters_fn (by kernel_rfl) rfl) (fun w ho => contains_bad a R w (ho.glob hG id) (ho.oldVals h1) hR) rfl rfl ?_
    refine at_do (does_not rfl) rfl rfl ?_
    refine at_do (does_move rfl) rfl rfl ?_
    refine at_know (t := 9) (d := false) rfl (by (rw [h]; rfl)) ?_
    refine at_no rfl rfl rfl rfl ?_
    refine at_no rfl rfl rfl rfl ?_
    refine at_no rfl rfl rfl rfl ?_
    refine at_no rfl rfl rfl rfl ?_
    refine at_no rfl rfl rfl rfl ?_
    refine at_do (does_pick_false rfl rfl) rfl rfl ?_
    refine at_do (does_assign rfl) rfl rfl ?_
    refine at_nil ?_
    refine at_then ?_
    refine at_ret ?_
    refine at_ret1 rfl rfl rfl (fun w9 ho9 => ?_)
    rotate_left
    exact ⟨ret_bool (by first | rfl | simp [h]), ho9.plain⟩
  · refine at_seq ?_
    refine at_region ?_
    refine at_boxagg rfl rfl fun gz0 => ?_
    refine at_do (does_assign rfl) rfl rfl ?_
    refine at_nil ?_
    refine at_then ?_
    refine at_seq ?_
    refine at_region ?_
    refine at_do (does_assign rfl) rfl rfl ?_
    refine at_nil ?_
    refine at_then ?_
    refine at_seq ?_
    refine at_region ?_
    refine at_do (does_fieldAddr (o := 0) (by kernel_rfl) rfl) rfl rfl ?_
    refine at_do (does_load (i := 0) (by kernel_rfl) rfl rfl rfl) rfl rfl ?_
    refine at_do (does_move rfl) rfl rfl ?_
    refine at_callv (f := 86) (enters_fn (by kernel_rfl) rfl) (fun w ho => contains_bad a R w (ho.glob hG id) (ho.oldVals h1) hR) rfl rfl ?_
    refine at_do (does_not rfl) rfl rfl ?_
    refine at_do (does_move rfl) rfl rfl ?_
    refine at_know (t := 9) (d := true) rfl (by (rw [h]; rfl)) ?_
    refine at_on rfl rfl ?_
    refine at_do (does_fieldAddr (o := 1) (by kernel_rfl) rfl) rfl rfl ?_
    refine at_on rfl rfl ?_
    refine at_do (does_load (i := 0) (by kernel_rfl) rfl rfl rfl) rfl rfl ?_
    refine at_on rfl rfl ?_
    refine at_do (does_move rfl) rfl rfl ?_
    refine at_on rfl rfl ?_
    refine at_callv (f := 86) (enters_fn (by kernel_rfl) rfl) (fun w ho => contains_bad b W w (ho.glob hG id) (ho.oldVals h2) hW) rfl rfl ?_
    refine at_on rfl rfl ?_
    refine at_do (does_not rfl) rfl rfl ?_
    refine at_do (does_pick_true rfl rfl) rfl rfl ?_
    refine at_do (does_assign rfl) rfl rfl ?_
    refine at_nil ?_
    refine at_then ?_
    refine at_ret ?_
    refine at_ret1 rfl rfl rfl (fun w9 ho9 => ?_)
    rotate_left
    exact ⟨ret_bool (by first | rfl | simp [h]), ho9.plain⟩
end Go.Proofs.YtchfecmabhfooaaDoor
set_option linter.unusedSimpArgs false
set_option linter.unusedVariables false
namespace Go.Proofs.YtchfecmabhfooaaDoor
open Go.RowKit

def arrCell (P : Program) (t : TypeId) : Option Nat := match P.underlying t with
  | some (.array l e) => if sizeT P e == some 1 && plainT P e then some l else none
  | _ => none
theorem does_aidx {P : Program} {n : Nat} {E : List (Nat × Value)} {C : Ctx} {H : List Res} {dst : Option Tmp} {ty : TypeId} {pos : String} {after : Array Edge} {g : Option (Nat × Bool)} {x y : Operand} {xT : TypeId} {cs : Array Value} {l q : Nat} {kk : IntKind} {v : Value}
    (hT : arrCell P xT = some l) (hx : ev E x = some (.agg cs)) (hy : ev E y = some (.int kk (q : Int))) (hq : q < l) (hv : cs[q]? = some v) : Does P n E C H ⟨dst, .index xT x y, ty, pos, after, g⟩ v := by
  intro a w hf ho
  unfold arrCell at hT
  split at hT
  · rename_i l' e he
    split at hT
    · rename_i hh
      cases hT
      simp only [Bool.and_eq_true, beq_iff_eq] at hh
      have hs := run_sizeT hh.1 w
      simp only [execOp, hf.eval hx, hf.eval hy]
      simp [go_sem, Instr.index, asIntOf, run_underlying he, hq, hs, part, run_isAgg_plain hh.2, asAgg, hv]
    · cases hT
  · cases hT
attribute [local irreducible] cwp lwp Exit.then Exit.inBlock Exit.noGoto wpQuiet Calls fin At AtQ Again endQ RQ
theorem clash_all (a b : Value) (w : World) (o1 : a.oneCell' = true) (o2 : b.oneCell' = true) : Calls Tryd.prog 87 #[.agg #[a, b]] w fun e w' => ∃ h, e = .returned (.func (.func 101) #[] #[.pointer (some ⟨h, 0, none⟩)]) ∧ Below w.heap.size w w' ∧ w.heap.size ≤ h ∧ w'.heap[h]? = some (.cells #[a, b] 24) := by
  refine calls_plain Tryd.func87 rfl Tryd.ntmps87 rfl ?_
  refine at_seq ?_
  refine at_region ?_
  refine at_boxagg rfl rfl fun gz0 => ?_
  refine at_do (does_assign rfl) rfl rfl ?_
  refine at_nil ?_
  refine at_then ?_
  refine at_seq ?_
  refine at_region ?_
  refine at_do (does_makeFunc rfl) rfl rfl ?_
  refine at_do (does_assign rfl) rfl rfl ?_
  refine at_nil ?_
  refine at_then ?_
  refine at_ret ?_
  refine at_ret1 rfl rfl rfl (fun w9 ho9 => ?_)
  rotate_left
  exact ⟨_, rfl, ho9.plain, (ho9.blkOut (List.mem_cons_self ..)).1, (ho9.blkOut (List.mem_cons_self ..)).2⟩
def offF (R W : List (List UInt8)) (k : Nat) : Nat := if k = 0 then 0 else if k = 1 then R.length else R.length + W.length
theorem shapeTwo : shapeArr Tryd.prog 111 = some ([.slice none 0 0, .slice none 0 0], 1) := by kernel_rfl
set_option maxHeartbeats 1000000 in
theorem clash_all1 (a b : Value) (R W : List (List UInt8)) {h tb : Nat} (w : World) (G : Nat → Prop) (hc : w.heap[h]? = some (.cells #[a, b] tb)) (h1 : ValsAt w a (strs R)) (h2 : ValsAt w b (strs W)) (hR : R.length ≤ 1000) (hW : W.length ≤ 1000)
    (hG1 : 0 < R.length → ∀ g ∈ a.ownBlock, ¬ G g) (hG2 : 0 < W.length → ∀ g ∈ b.ownBlock, ¬ G g) : SeqC Tryd.prog 101 [.pointer (some ⟨h, 0, none⟩)] (strs (R ++ W)) G w := by
  intro l J Jx hJf hxf hst hxst hY h0
  obtain ⟨A1, c1, rfl⟩ := h1.len
  obtain ⟨A2, c2, rfl⟩ := h2.len
  have hcell : ∀ j u, (#[.slice A1 (strs R).length c1, .slice A2 (strs W).length c2] : Array Value)[j]? = some u → w.cell? ⟨h, j, none⟩ = some u := fun j u hu => (cell_of_row w h j _ tb (0, 0) hc).trans hu
  have lr := strs_len R
  have lw := strs_len W
  refine calls_it G Tryd.func101 rfl Tryd.ntmps101 rfl ?_
  refine at_seq ?_
  refine at_region ?_
  refine at_do (does_fieldAddr (o := 0) (by kernel_rfl) rfl) rfl rfl ?_
  refine at_do (does_load_mem (by kernel_rfl) rfl (fun w' ho => Below.cellOld ho.it (hcell 0 _ rfl))) rfl rfl ?_
  refine at_do (does_fieldAddr (o := 1) (by kernel_rfl) rfl) rfl rfl ?_
  refine at_do (does_load_mem (by kernel_rfl) rfl (fun w' ho => Below.cellOld ho.it (hcell 1 _ rfl))) rfl rfl ?_
  refine at_do (does_buildarr (cs := [.slice A1 (strs R).length c1, .slice A2 (strs W).length c2]) shapeTwo rfl rfl) rfl rfl ?_
  refine at_do (does_move rfl) rfl rfl ?_
  refine at_nil ?_
  refine at_then ?_
  refine at_block ?_
  rotate_left
  refine at_itloop hJf hst (offF R W) (fun k : Nat => k ≤ 2) (fun k => [(0, yv l), (11, .agg #[.slice A1 (strs R).length c1, .slice A2 (strs W).length c2]), (12, .int .i64 k)]) (fun k => 2 - k) 0 (Nat.zero_le _) h0 ⟨rfl, rfl, rfl, trivial⟩ ?_
  rintro k W0 hk hJ
  by_cases hk2 : k < 2
  · obtain ⟨T, AT, cT, hidx, hT, hTl, hGT, hxs, hoff⟩ : ∃ (T : List (List UInt8)) (AT : Option Addr) (cT : Nat), (#[.slice A1 (strs R).length c1, .slice A2 (strs W).length c2] : Array Value)[k]? = some (.slice AT (strs T).length cT) ∧ ValsAt w (.slice AT (strs T).length cT) (strs T) ∧ T.length ≤ 1000 ∧ (0 < T.length → ∀ g ∈ (Value.slice AT (strs T).length cT).ownBlock, ¬ G g) ∧
        (∀ i (hi : i < T.length), (strs (R ++ W))[offF R W k + i]? = some (.string (bs T[i]))) ∧ offF R W (k + 1) = offF R W k + T.length := by
      match k, hk2 with
      | 0, _ => exact ⟨R, A1, c1, rfl, h1, hR, hG1, fun i hi => by
          have : (R ++ W)[i]? = some R[i] := by rw [List.getElem?_append_left hi, List.getElem?_eq_getElem hi]
          rw [show offF R W 0 + i = i by simp [offF]]
          unfold strs
          rw [List.getElem?_map, this]; rfl, by simp [offF]⟩
      | 1, _ => exact ⟨W, A2, c2, rfl, h2, hW, hG2, fun i hi => by
          have : (R ++ W)[R.length + i]? = some W[i] := by rw [List.getElem?_append_right (by omega), show R.length + i - R.length = i by omega, List.getElem?_eq_getElem hi]
          rw [show offF R W 1 + i = R.length + i by simp [offF]]
          unfold strs
          rw [List.getElem?_map, this]; rfl, by simp [offF]⟩
    have lt := strs_len T
    refine at_seq ?_
    refine at_region ?_
    refine at_do (does_lss rfl rfl) rfl rfl ?_
    refine at_nil ?_
    refine at_then ?_
    refine at_seq ?_
    refine at_cond_t rfl (decide_eq_true (by omega)) ?_
    refine at_skip ?_
    refine at_then ?_
    refine at_seq ?_
    refine at_block ?_
    refine at_seq ?_
    refine at_region ?_
    refine at_do (does_aidx (q := k) (by kernel_rfl) rfl rfl (by omega) hidx) rfl rfl ?_
    refine at_do (does_assign rfl) rfl rfl ?_
    refine at_nil ?_
    refine at_then ?_
    refine at_seq ?_
    refine at_region ?_
    refine at_do (does_move rfl) rfl rfl ?_
    refine at_do (does_len (by kernel_rfl) rfl) rfl rfl ?_
    refine at_do (does_move rfl) rfl rfl ?_
    refine at_nil ?_
    refine at_then ?_
    refine at_block ?_
    rotate_left
    refine at_itloop hJf hst (fun i => offF R W k + i) (fun i : Nat => i ≤ T.length) (fun i => [(0, yv l), (11, .agg #[.slice A1 (strs R).length c1, .slice A2 (strs W).length c2]), (12, .int .i64 k), (15, .slice AT (strs T).length cT), (16, .int .i64 (strs T).length), (17, .int .i64 i)]) (fun i => T.length - i) 0 (Nat.zero_le _) hJ ⟨rfl, rfl, rfl, rfl, rfl, rfl, trivial⟩ ?_
    rintro i W1 hi hJ1
    by_cases hil : i < T.length
    · obtain ⟨gb, o, c, hv, hcc, hlt, hce⟩ := hT.form (by omega)
      simp only [Value.slice.injEq, true_and] at hv
      obtain ⟨rfl, rfl⟩ := hv
      have hci := hce i _ (strs_get hil)
      have hci1 : W1.cell? ⟨gb, o + i, none⟩ = some (.string (bs T[i])) := (World.cell?_of_block ((hJf _ _ hJ1).old gb hlt (hGT (by omega) gb (by simp [Value.ownBlock])))).trans hci
      have hxi := hxs i hil
      generalize T[i] = x at hci1 hxi
      refine at_seq ?_
      refine at_region ?_
      refine at_do (does_lss rfl rfl) rfl rfl ?_
      refine at_nil ?_
      refine at_then ?_
      refine at_seq ?_
      refine at_cond_t rfl (decide_eq_true (by omega)) ?_
      refine at_skip ?_
      refine at_then ?_
      refine at_seq ?_
      refine at_block ?_
      refine at_seq ?_
      refine at_region ?_
      refine at_do (does_indexAddr1 (by kernel_rfl) rfl rfl (by omega)) rfl rfl ?_
      refine at_do (does_load_mem (by kernel_rfl) rfl (fun w' ho => Below.cellOld ho.it hci1)) rfl rfl ?_
      refine at_do (does_assign rfl) rfl rfl ?_
      refine at_nil ?_
      refine at_then ?_
      refine at_seq ?_
      refine at_region ?_
      refine at_do (does_move rfl) rfl rfl ?_
      refine at_do (does_move rfl) rfl rfl ?_
      refine at_yield (i := offF R W k + i) (x := .string (bs x)) rfl rfl rfl hJf hxf hst hJ1 (fun W' hj => hY _ _ W' hxi hj) (fun W' hj => ?_) (fun W' hj => ?_)
      refine at_do (does_not rfl) rfl rfl ?_
      refine at_nil ?_
      refine at_then ?_
      refine at_cond_f rfl (by rfl) ?_
      refine at_skip ?_
      refine at_inb ?_
      refine at_then ?_
      refine at_region ?_
      refine at_do (does_addi rfl rfl (by omega)) rfl rfl ?_
      refine at_do (does_move rfl) rfl rfl ?_
      refine at_nil ?_
      refine at_then ?_
      rotate_left
      refine at_do (does_not rfl) rfl rfl ?_
      refine at_nil ?_
      refine at_then ?_
      refine at_cond_t rfl (by rfl) ?_
      refine at_ret ?_
      refine at_inb_ret ?_
      refine at_then_ret ?_
      refine at_then_ret ?_
      refine at_inb_ret ?_
      refine at_inb_ret ?_
      refine at_then_ret ?_
      refine at_then_ret ?_
      refine at_inb_ret ?_
      refine at_ret0 rfl rfl (fun w9 ho9 => ?_)
      rotate_left
      · refine at_againw fun w ho => ⟨(i + 1, w), ⟨by show i + 1 ≤ T.length; omega, hst _ _ _ hj ho.it⟩, by show T.length - (i + 1) < T.length - i; omega, ⟨rfl, rfl, rfl, rfl, rfl, rfl, trivial⟩, rfl, itC_own (hJf _ _ (hst _ _ _ hj ho.it))⟩
      · exact ⟨⟨_, rfl⟩, .inr (hxst _ _ hj ho9.it)⟩
    · obtain rfl : i = T.length := by omega
      refine at_seq ?_
      refine at_region ?_
      refine at_do (does_lss rfl rfl) rfl rfl ?_
      refine at_nil ?_
      refine at_then ?_
      refine at_seq ?_
      refine at_cond_f rfl (decide_eq_false (by omega)) ?_
      refine at_exit ?_
      refine at_then_exit ?_
      refine at_then_exit ?_
      refine at_inb_here ?_
      refine at_inb ?_
      refine at_then ?_
      refine at_region ?_
      refine at_do (does_addi rfl rfl (by omega)) rfl rfl ?_
      refine at_do (does_move rfl) rfl rfl ?_
      refine at_nil ?_
      refine at_then ?_
      rotate_left
      refine at_againw fun w ho => ⟨(k + 1, w), ⟨by show k + 1 ≤ 2; omega, by show J (offF R W (k + 1)) w; rw [hoff]; exact hst _ _ _ hJ1 ho.it⟩, by show 2 - (k + 1) < 2 - k; omega, ⟨rfl, rfl, rfl, trivial⟩, rfl, itC_own (hJf _ _ (hst _ _ _ hJ1 ho.it))⟩
  · obtain rfl : k = 2 := by omega
    refine at_seq ?_
    refine at_region ?_
    refine at_do (does_lss rfl rfl) rfl rfl ?_
    refine at_nil ?_
    refine at_then ?_
    refine at_seq ?_
    refine at_cond_f rfl (decide_eq_false (by omega)) ?_
    refine at_exit ?_
    refine at_then_exit ?_
    refine at_then_exit ?_
    refine at_inb_here ?_
    refine at_end0 rfl rfl (fun w9 ho9 => ?_)
    rotate_left
    refine ⟨⟨_, rfl⟩, .inl ?_⟩
    have e : (strs (R ++ W)).length = offF R W 2 := by simp [strs, offF]
    rw [e]
    exact hst _ _ _ hJ ho9.it
end Go.Proofs.YtchfecmabhfooaaDoor
set_option linter.unusedSimpArgs false
set_option linter.unusedVariables false
namespace Go.Proofs.YtchfecmabhfooaaDoor
open Go.RowKit
attribute [local irreducible] cwp lwp Exit.then Exit.inBlock Exit.noGoto wpQuiet Calls fin At AtQ Again endQ RQ

def meetK (s p : List UInt8) : Bool := keyOk s && keyOk p && (beg s p || beg p s)
def hitF (W1 T2 : List (List UInt8)) : Bool := W1.any fun s => T2.any fun p => meetK s p
theorem Own.young {w0 w b : World} {L F : Nat → Prop} {D : List Nat} {H : List Res} (h : Own ⟨w0, L, fun _ => False, b, F, D⟩ H w) : ∀ k ∈ bls H, w0.heap.size ≤ k := fun k hk => (h.mine k hk).1.resolve_right id
theorem vals_notG {C : Ctx} {H : List Res} {W1 w : World} {G : Nat → Prop} {v : Value} {L : List (List UInt8)} (ho : Own C H W1) (hG : ∀ k, G k → k ∈ bls H ∨ ∃ q, W1.heap[k]? = some (.loop q)) (hw : C.W = w) (hM : ∀ k, ¬ C.M k) (hV : ValsAt w v (strs L)) (hV1 : ValsAt W1 v (strs L)) : 0 < L.length → ∀ g ∈ v.ownBlock, ¬ G g := by
  intro hl g hg
  obtain ⟨gb, o, c, rfl, _, hlt, hcell⟩ := hV.form (by rw [strs_len]; exact hl)
  obtain ⟨gb', o', c', he, _, _, hcell'⟩ := hV1.form (by rw [strs_len]; exact hl)
  simp only [Value.slice.injEq, Option.some.injEq, Addr.mk.injEq, and_true, true_and] at he
  obtain ⟨⟨rfl, rfl⟩, rfl⟩ := he
  simp [Value.ownBlock] at hg
  subst hg
  obtain ⟨ob, hob, hne⟩ := obj_of_cell (hcell' 0 _ (strs_get hl))
  exact ho.notG hG (hw ▸ hlt) (hM _) hob hne
set_option maxHeartbeats 4000000 in
theorem clash_hits (a1 b1 a2 b2 : Value) (W1 R2 W2 : List (List UInt8)) (w : World) (hG : Glob w) (h2 : ValsAt w b1 (strs W1)) (h3 : ValsAt w a2 (strs R2)) (h4 : ValsAt w b2 (strs W2))
    (s2 : Short W1) (s3 : Short R2) (s4 : Short W2) (o1 : a1.oneCell' = true) (o2 : b1.oneCell' = true) (o3 : a2.oneCell' = true) (o4 : b2.oneCell' = true) :
    Calls Tryd.prog 62 #[.agg #[a1, b1], .agg #[a2, b2]] w fun e w' => e = .returned (.bool (hitF W1 (R2 ++ W2))) ∧ Below w.heap.size w w' := by
  have l1 := strs_len W1
  have s21 := s2.1
  have hw0 : 0 < w.heap.size := World.block_lt_of_cell? _ _ hG.1
  obtain ⟨A1, c1, hb1⟩ := h2.len
  refine calls_plain Tryd.func62 rfl Tryd.ntmps62 rfl ?_
  refine at_seq ?_
  refine at_region ?_
  refine at_boxagg rfl rfl fun gz0 => ?_
  refine at_boxagg rfl rfl fun gz1 => ?_
  refine at_alloc rfl Tryd.zeroValue4 rfl fun gz2 => ?_
  refine at_nil ?_
  refine at_then ?_
  refine at_seq ?_
  refine at_seq ?_
  refine at_region ?_
  refine at_do (does_fieldAddr (o := 1) (by kernel_rfl) rfl) rfl rfl ?_
  refine at_do (does_load (i := 2) (by kernel_rfl) rfl rfl rfl) rfl rfl ?_
  refine at_do (does_vlen (vs := strs W1) (by kernel_rfl) rfl (fun w ho => ho.oldVals h2)) rfl rfl ?_
  refine at_do (does_move rfl) rfl rfl ?_
  refine at_nil ?_
  refine at_then ?_
  refine at_block ?_
  rotate_left
  refine at_loop (σ := Nat × List Nat) (fun s => s.1 ≤ W1.length ∧ (W1.take s.1).any (fun x => (R2 ++ W2).any fun p => meetK x p) = false) (fun s => [(3, .pointer (some ⟨gz1, 0, none⟩)), (4, .pointer (some ⟨gz2, 0, none⟩)), (9, b1), (10, .int .i64 (strs W1).length), (11, .int .i64 s.1)])
    (fun s => ⟨w, fun _ => False, fun _ => False, w, fun _ => False, s.2⟩) (fun s => [.blk gz2 4 #[.bool false], .blk gz1 24 #[a2, b2]]) (fun s => W1.length - s.1)
    (fun w1 ho => ⟨(0, []), ⟨Nat.zero_le _, rfl⟩, ⟨rfl, rfl, rfl, rfl, rfl, trivial⟩, rfl, ho.sublist (.cons_cons _ (.cons_cons _ (List.nil_sublist _)))⟩) ?_
  rintro ⟨i, D⟩ ⟨hi, hI⟩
  simp only at hi hI
  by_cases hil : i < W1.length
  · obtain ⟨gb, o, c, rfl, hc, hlt, hcell⟩ := h2.form (by omega)
    have hci := hcell i _ (strs_get hil)
    have hI2 := any_take (p := fun x => (R2 ++ W2).any fun p => meetK x p) hil
    have hT := any_true (p := fun x => (R2 ++ W2).any fun p => meetK x p) hil
    generalize W1[i] = x at hci hI2 hT
    refine at_seq ?_
    refine at_region ?_
    refine at_do (does_lss rfl rfl) rfl rfl ?_
    refine at_nil ?_
    refine at_then ?_
    refine at_seq ?_
    refine at_cond_t rfl (decide_eq_true (by omega)) ?_
    refine at_skip ?_
    refine at_then ?_
    refine at_seq ?_
    refine at_block ?_
    refine at_seq ?_
    refine at_region ?_
    refine at_do (does_indexAddr1 (by kernel_rfl) rfl rfl (by (first | omega | (simp only; omega)))) rfl rfl ?_
    refine at_do (does_load_mem (by kernel_rfl) rfl (fun w' ho => Below.cellOld ho.plain hci)) rfl rfl ?_
    refine at_alloc rfl Tryd.zeroValue9 rfl fun gz0 => ?_
    refine at_store (i := 0) (by kernel_rfl) rfl rfl rfl rfl rfl ?_
    refine at_nil ?_
    refine at_then ?_
    refine at_seq ?_
    refine at_region ?_
    refine at_do (does_loadagg (i := 2) (k := 2) (by kernel_rfl) rfl rfl rfl) rfl rfl ?_
    refine at_callblk (f := 87) (enters_fn (by kernel_rfl) rfl) (fun w ho => clash_all a2 b2 w o3 o4) rfl rfl (fun hb => ?_)
    refine at_nil ?_
    refine at_then ?_
    refine at_block ?_
    rotate_left
    refine at_range (σ := Unit) (xs := strs (R2 ++ W2)) (fun j _ => ((R2 ++ W2).take j).any (fun p => meetK x p) = false) (fun _ _ => [.blk hb 24 #[a2, b2], .blk gz0 9 #[.string (bs x)], .blk gz2 4 #[.bool false], .blk gz1 24 #[a2, b2]])
      (fun c _ => c = .ret ∧ (R2 ++ W2).any (fun p => meetK x p) = true) (fun _ _ => [.blk hb 24 #[a2, b2], .blk gz0 9 #[.string (bs x)], .blk gz2 4 #[.bool true], .blk gz1 24 #[a2, b2]]) () rfl rfl rfl (by kernel_rfl) rfl rfl ?_ ?_ ?_ ?_
    · intro X1 G hGG hX1
      have v3 := hX1.oldVals h3
      have v4 := hX1.oldVals h4
      exact clash_all1 a2 b2 R2 W2 X1 G (hX1.get (i := 0) rfl) v3 v4 s3.1 s4.1 (vals_notG hX1 hGG rfl (fun _ h => h) h3 v3) (vals_notG hX1 hGG rfl (fun _ h => h) h4 v4)
    · intro l j y u X hy hIj hX
      obtain ⟨p, hp, rfl⟩ : ∃ p, (R2 ++ W2)[j]? = some p ∧ y = .string (bs p) := by
        simp only [strs, List.getElem?_map, Option.map_eq_some_iff] at hy
        obtain ⟨p, q1, q2⟩ := hy
        exact ⟨p, q1, q2.symm⟩
      have hj : j < (R2 ++ W2).length := (List.getElem?_eq_some_iff.1 hp).1
      have hpe : (R2 ++ W2)[j] = p := by
        have := List.getElem?_eq_getElem hj
        rw [hp] at this; exact (Option.some.inj this).symm
      have hJ2 := any_take (p := fun p => meetK x p) hj
      have hT2 := any_true (p := fun p => meetK x p) hj
      rw [hpe] at hJ2 hT2
      have hGX : Glob X := hX.glob hG id
      have hyo := hX.young
      have h0 : 0 ∉ bls [Res.blk hb 24 #[a2, b2], .blk gz0 9 #[.string (bs x)], .blk gz2 4 #[.bool false], .blk gz1 24 #[a2, b2]] := fun hm => by have := hyo 0 hm; omega
      have cM : ∀ w1, Glob w1 → Calls Tryd.prog 54 #[.string (bs x), .string (bs p)] w1 fun e w' => e = .returned (.bool (meetK x p)) ∧ Below w1.heap.size w1 w' := fun w1 hg => key_Meet x p w1 hg
      cases hk : meetK x p
      · refine at_block ?_
        refine at_seq ?_
        refine at_region ?_
        refine at_do (does_load (i := 1) (by kernel_rfl) rfl rfl rfl) rfl rfl ?_
        refine at_do (does_move rfl) rfl rfl ?_
        refine at_callv (f := 54) (enters_fn (by kernel_rfl) rfl) (fun w ho => cM w (ho.glob hGX h0)) rfl rfl ?_
        refine at_nil ?_
        refine at_then ?_
        refine at_cond_f rfl (by exact hk) ?_
        refine at_skip ?_
        refine at_inb ?_
        rotate_left
        exact at_next () (by rw [hJ2, hIj, hk]; rfl) rfl
      · refine at_block ?_
        refine at_seq ?_
        refine at_region ?_
        refine at_do (does_load (i := 1) (by kernel_rfl) rfl rfl rfl) rfl rfl ?_
        refine at_do (does_move rfl) rfl rfl ?_
        refine at_callv (f := 54) (enters_fn (by kernel_rfl) rfl) (fun w ho => cM w (ho.glob hGX h0)) rfl rfl ?_
        refine at_nil ?_
        refine at_then ?_
        refine at_cond_t rfl (by exact hk) ?_
        refine at_seq ?_
        refine at_region ?_
        refine at_store (i := 2) (by kernel_rfl) rfl rfl rfl rfl rfl ?_
        refine at_nil ?_
        refine at_then ?_
        refine at_ret ?_
        refine at_inb_ret ?_
        rotate_left
        exact at_nextret () ⟨rfl, hT2 hk⟩ rfl
    · intro D1 u hI1
      rw [strs_len, List.take_length] at hI1
      refine at_inb ?_
      refine at_inb ?_
      refine at_then ?_
      refine at_region ?_
      refine at_do (does_addi rfl rfl (by (first | omega | (simp only; omega)))) rfl rfl ?_
      refine at_do (does_move rfl) rfl rfl ?_
      refine at_nil ?_
      refine at_then ?_
      rotate_left
      refine at_againw fun w' ho => ⟨(i + 1, D1 :: D), ⟨by show i + 1 ≤ W1.length; omega, by show (W1.take (i + 1)).any _ = false; rw [hI2, hI, hI1]; rfl⟩, by show W1.length - (i + 1) < W1.length - i; omega, ⟨rfl, rfl, rfl, rfl, rfl, trivial⟩, rfl, ho.sublist (.cons _ (.cons _ (List.Sublist.refl _)))⟩
    · rintro D1 cc u ⟨rfl, hTT⟩
      refine at_ret ?_
      refine at_inb_ret ?_
      refine at_inb_ret ?_
      refine at_then_ret ?_
      refine at_then_ret ?_
      refine at_inb_ret ?_
      refine at_then_ret ?_
      refine at_retcell (i := 2) rfl rfl rfl (by kernel_rfl) rfl (fun w9 ho9 => ?_)
      rotate_left
      exact ⟨ret_bool (hT hTT).symm, Own.orig ho9 |>.toBelow⟩
  · obtain rfl : i = W1.length := by omega
    rw [List.take_length] at hI
    refine at_seq ?_
    refine at_region ?_
    refine at_do (does_lss rfl rfl) rfl rfl ?_
    refine at_nil ?_
    refine at_then ?_
    refine at_seq ?_
    refine at_cond_f rfl (decide_eq_false (by omega)) ?_
    refine at_exit ?_
    refine at_then_exit ?_
    refine at_then_exit ?_
    refine at_inb_here ?_
    refine at_then ?_
    refine at_seq ?_
    refine at_region ?_
    refine at_store (i := 0) (by kernel_rfl) rfl rfl rfl rfl rfl ?_
    refine at_nil ?_
    refine at_then ?_
    refine at_ret ?_
    refine at_retcell (i := 0) rfl rfl rfl (by kernel_rfl) rfl (fun w9 ho9 => ?_)
    rotate_left
    exact ⟨ret_bool hI.symm, Own.orig ho9 |>.toBelow⟩
end Go.Proofs.YtchfecmabhfooaaDoor
set_option linter.unusedSimpArgs false
set_option linter.unusedVariables false
namespace Go.Proofs.YtchfecmabhfooaaDoor
open Go.RowKit
attribute [local irreducible] cwp lwp Exit.then Exit.inBlock Exit.noGoto wpQuiet Calls fin At AtQ Again endQ RQ

theorem meetB_comm (a b : List UInt8) : meetB a b = meetB b a := by unfold meetB; rw [Bool.or_comm]
theorem someB_comm (A B : List (List UInt8)) : someB A B = someB B A := by
  rw [Bool.eq_iff_iff]
  simp only [someB, List.any_eq_true]
  constructor
  · rintro ⟨a, ha, b, hb, h⟩; exact ⟨b, hb, a, ha, by rw [meetB_comm]; exact h⟩
  · rintro ⟨a, ha, b, hb, h⟩; exact ⟨b, hb, a, ha, by rw [meetB_comm]; exact h⟩
theorem someB_append (A B D : List (List UInt8)) : someB A (B ++ D) = (someB A B || someB A D) := by
  rw [Bool.eq_iff_iff]
  simp only [someB, List.any_eq_true, List.mem_append, Bool.or_eq_true]
  constructor
  · rintro ⟨a, ha, b, hb | hb, h⟩
    · exact .inl ⟨a, ha, b, hb, h⟩
    · exact .inr ⟨a, ha, b, hb, h⟩
  · rintro (⟨a, ha, b, hb, h⟩ | ⟨a, ha, b, hb, h⟩)
    · exact ⟨a, ha, b, .inl hb, h⟩
    · exact ⟨a, ha, b, .inr hb, h⟩
theorem hit_some (A B : List (List UInt8)) (hA : okL A = true) (hB : okL B = true) : hitF A B = someB A B := by
  rw [Bool.eq_iff_iff]
  simp only [hitF, someB, List.any_eq_true]
  constructor
  · rintro ⟨a, ha, b, hb, h⟩
    refine ⟨a, ha, b, hb, ?_⟩
    simp only [meetK, Bool.and_eq_true] at h
    exact h.2
  · rintro ⟨a, ha, b, hb, h⟩
    refine ⟨a, ha, b, hb, ?_⟩
    simp only [meetK, Bool.and_eq_true]
    exact ⟨⟨List.all_eq_true.1 hA a ha, List.all_eq_true.1 hB b hb⟩, h⟩
theorem okL_append (A B : List (List UInt8)) : okL (A ++ B) = (okL A && okL B) := by simp [okL]
theorem pair_hit (r1 w1 r2 w2 : List (List UInt8)) : pairF r1 w1 r2 w2 = ((okL r1 && okL w1) && (okL r2 && okL w2) && (hitF w1 (r2 ++ w2) || hitF w2 (r1 ++ w1))) := by
  unfold pairF
  cases h1 : okL r1
  · simp
  · cases h2 : okL w1
    · simp
    · cases h3 : okL r2
      · simp
      · cases h4 : okL w2
        · simp
        · rw [hit_some _ _ h2 (by rw [okL_append, h3, h4]; rfl), hit_some _ _ h4 (by rw [okL_append, h1, h2]; rfl), someB_append, someB_append, someB_comm w2 r1, someB_comm w2 w1]
          cases someB w1 w2 <;> cases someB w1 r2 <;> cases someB r1 w2 <;> rfl
theorem pairF_comm (r1 w1 r2 w2 : List (List UInt8)) : pairF r1 w1 r2 w2 = pairF r2 w2 r1 w1 := by
  rw [pair_hit, pair_hit, Bool.and_comm (okL r1 && okL w1), Bool.or_comm (hitF w1 _)]
set_option maxHeartbeats 4000000 in
theorem clash_Pair (a1 b1 a2 b2 : Value) (r1 w1 r2 w2 : List (List UInt8)) (w : World) (hG : Glob w) (h1 : ValsAt w a1 (strs r1)) (h2 : ValsAt w b1 (strs w1)) (h3 : ValsAt w a2 (strs r2)) (h4 : ValsAt w b2 (strs w2))
    (s1 : Short r1) (s2 : Short w1) (s3 : Short r2) (s4 : Short w2) (o1 : a1.oneCell' = true) (o2 : b1.oneCell' = true) (o3 : a2.oneCell' = true) (o4 : b2.oneCell' = true) :
    Calls Tryd.prog 14 #[.agg #[a1, b1], .agg #[a2, b2]] w fun e w' => e = .returned (.bool (pairF r1 w1 r2 w2)) ∧ Below w.heap.size w w' := by
  have cM1 : ∀ {w'}, Glob w' → ValsAt w' a1 (strs r1) → ValsAt w' b1 (strs w1) → Calls Tryd.prog 61 #[.agg #[a1, b1]] w' fun e w3 => e = .returned (.bool (okL r1 && okL w1)) ∧ Below w'.heap.size w' w3 := fun g x y => clash_may a1 b1 r1 w1 _ g x y s1 s2 o1 o2
  have cM2 : ∀ {w'}, Glob w' → ValsAt w' a2 (strs r2) → ValsAt w' b2 (strs w2) → Calls Tryd.prog 61 #[.agg #[a2, b2]] w' fun e w3 => e = .returned (.bool (okL r2 && okL w2)) ∧ Below w'.heap.size w' w3 := fun g x y => clash_may a2 b2 r2 w2 _ g x y s3 s4 o3 o4
  have cH1 : ∀ {w'}, Glob w' → ValsAt w' b1 (strs w1) → ValsAt w' a2 (strs r2) → ValsAt w' b2 (strs w2) → Calls Tryd.prog 62 #[.agg #[a1, b1], .agg #[a2, b2]] w' fun e w3 => e = .returned (.bool (hitF w1 (r2 ++ w2))) ∧ Below w'.heap.size w' w3 := fun g x y z => clash_hits a1 b1 a2 b2 w1 r2 w2 _ g x y z s2 s3 s4 o1 o2 o3 o4
  have cH2 : ∀ {w'}, Glob w' → ValsAt w' b2 (strs w2) → ValsAt w' a1 (strs r1) → ValsAt w' b1 (strs w1) → Calls Tryd.prog 62 #[.agg #[a2, b2], .agg #[a1, b1]] w' fun e w3 => e = .returned (.bool (hitF w2 (r1 ++ w1))) ∧ Below w'.heap.size w' w3 := fun g x y z => clash_hits a2 b2 a1 b1 w2 r1 w1 _ g x y z s4 s1 s2 o3 o4 o1 o2
  rw [pair_hit]
  generalize (okL r1 && okL w1) = m1 at cM1 ⊢
  generalize (okL r2 && okL w2) = m2 at cM2 ⊢
  generalize hitF w1 (r2 ++ w2) = p1 at cH1 ⊢
  generalize hitF w2 (r1 ++ w1) = p2 at cH2 ⊢
  refine calls_plain Tryd.func14 rfl Tryd.ntmps14 rfl ?_
  refine at_seq ?_
  refine at_region ?_
  refine at_boxagg rfl rfl fun gz0 => ?_
  refine at_boxagg rfl rfl fun gz1 => ?_
  refine at_do (does_assign rfl) rfl rfl ?_
  refine at_nil ?_
  refine at_then ?_
  refine at_seq ?_
  refine at_region ?_
  refine at_do (does_loadagg (i := 1) (k := 2) (by kernel_rfl) rfl rfl rfl) rfl rfl ?_
  refine at_callv (f := 61) (enters_fn (by kernel_rfl) rfl) (fun w ho => cM1 (ho.glob hG id) (ho.oldVals h1) (ho.oldVals h2)) rfl rfl ?_
  refine at_do (does_move rfl) rfl rfl ?_
  refine at_guard rfl rfl (fun z2 => ?_) (fun z2 => ?_)
  refine at_on rfl rfl ?_
  refine at_do (does_loadagg (i := 0) (k := 2) (by kernel_rfl) rfl rfl rfl) rfl rfl ?_
  refine at_on rfl rfl ?_
  refine at_callv (f := 61) (enters_fn (by kernel_rfl) rfl) (fun w ho => cM2 (ho.glob hG id) (ho.oldVals h3) (ho.oldVals h4)) rfl rfl ?_
  refine at_do (does_pick_true rfl rfl) rfl rfl ?_
  refine at_do (does_move rfl) rfl rfl ?_
  refine at_guard rfl rfl (fun z3 => ?_) (fun z3 => ?_)
  refine at_on rfl rfl ?_
  refine at_do (does_loadagg (i := 1) (k := 2) (by kernel_rfl) rfl rfl rfl) rfl rfl ?_
  refine at_on rfl rfl ?_
  refine at_do (does_loadagg (i := 0) (k := 2) (by kernel_rfl) rfl rfl rfl) rfl rfl ?_
  refine at_on rfl rfl ?_
  refine at_callv (f := 62) (enters_fn (by kernel_rfl) rfl) (fun w ho => cH1 (ho.glob hG id) (ho.oldVals h2) (ho.oldVals h3) (ho.oldVals h4)) rfl rfl ?_
  refine at_on rfl rfl ?_
  refine at_do (does_move rfl) rfl rfl ?_
  refine at_guard rfl rfl (fun z4 => ?_) (fun z4 => ?_)
  refine at_no rfl rfl rfl rfl ?_
  refine at_no rfl rfl rfl rfl ?_
  refine at_no rfl rfl rfl rfl ?_
  refine at_on rfl rfl ?_
  refine at_do (does_pick_true rfl rfl) rfl rfl ?_
  refine at_do (does_pick_true rfl rfl) rfl rfl ?_
  refine at_do (does_assign rfl) rfl rfl ?_
  refine at_nil ?_
  refine at_then ?_
  refine at_ret ?_
  refine at_ret1 rfl rfl rfl (fun w9 ho9 => ?_)
  rotate_left
  refine at_on rfl rfl ?_
  refine at_do (does_loadagg (i := 0) (k := 2) (by kernel_rfl) rfl rfl rfl) rfl rfl ?_
  refine at_on rfl rfl ?_
  refine at_do (does_loadagg (i := 1) (k := 2) (by kernel_rfl) rfl rfl rfl) rfl rfl ?_
  refine at_on rfl rfl ?_
  refine at_callv (f := 62) (enters_fn (by kernel_rfl) rfl) (fun w ho => cH2 (ho.glob hG id) (ho.oldVals h4) (ho.oldVals h1) (ho.oldVals h2)) rfl rfl ?_
  refine at_on rfl rfl ?_
  refine at_do (does_pick_false rfl rfl) rfl rfl ?_
  refine at_do (does_pick_true rfl rfl) rfl rfl ?_
  refine at_do (does_assign rfl) rfl rfl ?_
  refine at_nil ?_
  refine at_then ?_
  refine at_ret ?_
  refine at_ret1 rfl rfl rfl (fun w9 ho9 => ?_)
  rotate_left
  refine at_no rfl rfl rfl rfl ?_
  refine at_no rfl rfl rfl rfl ?_
  refine at_no rfl rfl rfl rfl ?_
  refine at_no rfl rfl rfl rfl ?_
  refine at_no rfl rfl rfl rfl ?_
  refine at_no rfl rfl rfl rfl ?_
  refine at_no rfl rfl rfl rfl ?_
  refine at_no rfl rfl rfl rfl ?_
  refine at_do (does_pick_false rfl rfl) rfl rfl ?_
  refine at_do (does_assign rfl) rfl rfl ?_
  refine at_nil ?_
  refine at_then ?_
  refine at_ret ?_
  refine at_ret1 rfl rfl rfl (fun w9 ho9 => ?_)
  rotate_left
  refine at_no rfl rfl rfl rfl ?_
  refine at_no rfl rfl rfl rfl ?_
  refine at_do (does_pick_false rfl rfl) rfl rfl ?_
  refine at_do (does_move rfl) rfl rfl ?_
  refine at_no rfl rfl rfl rfl ?_
  refine at_no rfl rfl rfl rfl ?_
  refine at_no rfl rfl rfl rfl ?_
  refine at_no rfl rfl rfl rfl ?_
  refine at_no rfl rfl rfl rfl ?_
  refine at_no rfl rfl rfl rfl ?_
  refine at_no rfl rfl rfl rfl ?_
  refine at_no rfl rfl rfl rfl ?_
  refine at_do (does_pick_false rfl rfl) rfl rfl ?_
  refine at_do (does_assign rfl) rfl rfl ?_
  refine at_nil ?_
  refine at_then ?_
  refine at_ret ?_
  refine at_ret1 rfl rfl rfl (fun w9 ho9 => ?_)
  rotate_left
  all_goals exact ⟨ret_bool (by clear cM1 cM2 cH1 cH2; simp_all), ho9.plain⟩
end Go.Proofs.YtchfecmabhfooaaDoor
