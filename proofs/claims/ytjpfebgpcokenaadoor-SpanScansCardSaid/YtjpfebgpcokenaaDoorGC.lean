/-
  What is wrong with a trunk and patterns. No condition of its own.
  The first items of a range. No condition of its own.
  A range's items, how many there are, the first one. No condition of its own.
  The first item from a key on; a list turned round. No condition of its own.
-/
import Derived.Test.YtjpfebgpcokenaaDoorGB
set_option linter.unusedSimpArgs false
set_option linter.unusedVariables false
namespace Go.Proofs.YtjpfebgpcokenaaDoor
open Go.RowKit
attribute [local irreducible] cwp lwp Exit.then Exit.inBlock Exit.noGoto wpQuiet Calls fin At AtQ Again endQ RQ

theorem trunk_all {w : World} {B : Nat → Prop} {ls : List Value} {fs : List (List Itm)} {vs : List Int} (h : TrunkV w B ls fs) : ∀ u ∈ trunkC ls vs, u.oneCell' = true := fun u hu => List.all_eq_true.1 (trunk_one h) u (by simpa using hu)
def strs (L : List (List UInt8)) : List Value := L.map fun b => .string (bs b)
theorem strs_len (L : List (List UInt8)) : (strs L).length = L.length := by simp [strs]
theorem strs_get {L : List (List UInt8)} {i : Nat} (h : i < L.length) : (strs L)[i]? = some (.string (bs L[i])) := by simp [strs, h]
theorem all_take {α : Type} {p : α → Bool} {L : List α} {i : Nat} (h : i < L.length) : (L.take (i + 1)).all p = ((L.take i).all p && p L[i]) := by
  rw [List.take_succ_eq_append_getElem h, List.all_append, List.all_cons, List.all_nil, Bool.and_true]
theorem all_false {α : Type} {p : α → Bool} {L : List α} {i : Nat} (h : i < L.length) (hp : p L[i] = false) : L.all p = false :=
  List.all_eq_false.2 ⟨L[i], List.getElem_mem h, by simp [hp]⟩
def errR (fs : List (List Itm)) (vs : List Int) (L : List (List UInt8)) : Int := if mayT fs vs = false then 1 else if L.all keyOk then 0 else 3
theorem span_right (ls : List Value) (vs : List Int) (fs : List (List Itm)) (arg : Value) (L : List (List UInt8)) (w : World) (hG : Glob w) (hT : TrunkV w Nof ls fs) (hvs : vs.length = 16) (hS : SmallT fs) (hV : ValsAt w arg (strs L)) (hL : L.length ≤ 1000) :
    Calls Tryd.prog 38 #[trunkA ls vs, arg] w fun e w' => e = .returned (.int .i64 (errR fs vs L)) ∧ Below w.heap.size w w' := by
  have hl := strs_len L
  have h32 := trunk_size hT.l1 hvs
  have cM : ∀ {w'}, Glob w' → TrunkV w' Nof ls fs → Calls Tryd.prog 62 #[trunkA ls vs] w' fun e w3 => e = .returned (.bool (mayT fs vs)) ∧ Below w'.heap.size w' w3 := fun g h => trunk_May ls vs fs _ g h hvs hS
  refine calls_plain Tryd.func38 rfl Tryd.ntmps38 rfl ?_
  cases hm : mayT fs vs
  · rw [hm] at cM
    have hr : errR fs vs L = 1 := by rw [errR, if_pos hm]
    rw [hr]
    refine at_seq ?_
    refine at_region ?_
    refine at_boxagg rfl rfl fun gz0 => ?_
    refine at_do (does_assign rfl) rfl rfl ?_
    refine at_nil ?_
    refine at_then ?_
    refine at_seq ?_
    refine at_seq ?_
    refine at_region ?_
    refine at_do (does_loadagg (i := 0) (k := 32) (by kernel_rfl) rfl rfl h32) rfl rfl ?_
    refine at_callv (f := 62) (enters_fn (by kernel_rfl) rfl) (fun w ho => cM (ho.glob hG id) (ho.oldTrunk hT)) rfl rfl ?_
    refine at_do (does_not rfl) rfl rfl ?_
    refine at_nil ?_
    refine at_then ?_
    refine at_cond_t rfl (by decide) ?_
    refine at_seq ?_
    refine at_region ?_
    refine at_do (does_assign rfl) rfl rfl ?_
    refine at_nil ?_
    refine at_then ?_
    refine at_ret ?_
    refine at_then_ret ?_
    refine at_ret1 rfl rfl rfl (fun w9 ho9 => ?_)
    rotate_left
    exact ⟨rfl, ho9.plain⟩
  · rw [hm] at cM
    refine at_seq ?_
    refine at_region ?_
    refine at_boxagg rfl rfl fun gz0 => ?_
    refine at_do (does_assign rfl) rfl rfl ?_
    refine at_nil ?_
    refine at_then ?_
    refine at_seq ?_
    refine at_seq ?_
    refine at_region ?_
    refine at_do (does_loadagg (i := 0) (k := 32) (by kernel_rfl) rfl rfl h32) rfl rfl ?_
    refine at_callv (f := 62) (enters_fn (by kernel_rfl) rfl) (fun w ho => cM (ho.glob hG id) (ho.oldTrunk hT)) rfl rfl ?_
    refine at_do (does_not rfl) rfl rfl ?_
    refine at_nil ?_
    refine at_then ?_
    refine at_cond_f rfl (by decide) ?_
    refine at_skip ?_
    refine at_then ?_
    refine at_seq ?_
    refine at_seq ?_
    refine at_region ?_
    refine at_do (does_move rfl) rfl rfl ?_
    refine at_do (does_vlen (vs := strs L) (by kernel_rfl) rfl (fun w ho => ho.oldVals hV)) rfl rfl ?_
    refine at_do (does_move rfl) rfl rfl ?_
    refine at_nil ?_
    refine at_then ?_
    refine at_block ?_
    rotate_left
    have hr : errR fs vs L = if L.all keyOk then 0 else 3 := by rw [errR, hm, if_neg (by simp)]
    refine at_loop0 (fun i : Nat => i ≤ L.length ∧ (L.take i).all keyOk = true) (fun i => [(10, arg), (11, .int .i64 L.length), (12, .int .i64 i), (4, .int .i64 0)]) (fun i => L.length - i) 0 ⟨Nat.zero_le _, rfl⟩ ⟨rfl, by rw [hl]; rfl, rfl, rfl, trivial⟩ ?_
    rintro i ⟨hi, hI⟩
    by_cases hil : i < L.length
    · obtain ⟨gb, o, c, rfl, hc, hlt, hcell⟩ := hV.form (by omega)
      have hci := hcell i _ (strs_get hil)
      have hI2 := all_take (p := keyOk) hil
      have hF := all_false (p := keyOk) hil
      generalize L[i] = x at hci hI2 hF
      cases hk : keyOk x
      · refine at_seq ?_
        refine at_region ?_
        refine at_do (does_lss rfl rfl) rfl rfl ?_
        refine at_nil ?_
        refine at_then ?_
        refine at_seq ?_
        refine at_cond_t rfl (decide_eq_true (by omega)) ?_
        refine at_skip ?_
        refine at_then ?_
        refine at_seq ?_
        refine at_block ?_
        refine at_seq ?_
        refine at_region ?_
        refine at_do (does_indexAddr1 (by kernel_rfl) rfl rfl (by omega)) rfl rfl ?_
        refine at_do (does_load_mem (by kernel_rfl) rfl (fun w' ho => Below.cellOld ho.plain hci)) rfl rfl ?_
        refine at_do (does_assign rfl) rfl rfl ?_
        refine at_nil ?_
        refine at_then ?_
        refine at_seq ?_
        refine at_region ?_
        refine at_do (does_move rfl) rfl rfl ?_
        refine at_callv (f := 63) (enters_fn (by kernel_rfl) rfl) (fun w ho => key_Pattern x w (ho.glob hG id)) rfl rfl ?_
        refine at_do (does_not rfl) rfl rfl ?_
        refine at_nil ?_
        refine at_then ?_
        refine at_cond_t rfl (by (rw [hk]; rfl)) ?_
        refine at_seq ?_
        refine at_region ?_
        refine at_do (does_assign rfl) rfl rfl ?_
        refine at_nil ?_
        refine at_then ?_
        refine at_ret ?_
        refine at_inb_ret ?_
        refine at_then_ret ?_
        refine at_then_ret ?_
        refine at_inb_ret ?_
        refine at_then_ret ?_
        refine at_ret1 rfl rfl rfl (fun w9 ho9 => ?_)
        rotate_left
        exact ⟨by rw [hr, hF hk]; rfl, ho9.plain⟩
      · refine at_seq ?_
        refine at_region ?_
        refine at_do (does_lss rfl rfl) rfl rfl ?_
        refine at_nil ?_
        refine at_then ?_
        refine at_seq ?_
        refine at_cond_t rfl (decide_eq_true (by omega)) ?_
        refine at_skip ?_
        refine at_then ?_
        refine at_seq ?_
        refine at_block ?_
        refine at_seq ?_
        refine at_region ?_
        refine at_do (does_indexAddr1 (by kernel_rfl) rfl rfl (by omega)) rfl rfl ?_
        refine at_do (does_load_mem (by kernel_rfl) rfl (fun w' ho => Below.cellOld ho.plain hci)) rfl rfl ?_
        refine at_do (does_assign rfl) rfl rfl ?_
        refine at_nil ?_
        refine at_then ?_
        refine at_seq ?_
        refine at_region ?_
        refine at_do (does_move rfl) rfl rfl ?_
        refine at_callv (f := 63) (enters_fn (by kernel_rfl) rfl) (fun w ho => key_Pattern x w (ho.glob hG id)) rfl rfl ?_
        refine at_do (does_not rfl) rfl rfl ?_
        refine at_nil ?_
        refine at_then ?_
        refine at_cond_f rfl (by (rw [hk]; rfl)) ?_
        refine at_skip ?_
        refine at_inb ?_
        refine at_then ?_
        refine at_region ?_
        refine at_do (does_addi rfl rfl (by omega)) rfl rfl ?_
        refine at_do (does_move rfl) rfl rfl ?_
        refine at_nil ?_
        refine at_then ?_
        rotate_left
        refine at_again0 (i + 1) ⟨by omega, by rw [hI2, hI, hk]; rfl⟩ (by omega) ⟨rfl, rfl, rfl, rfl, trivial⟩
    · obtain rfl : i = L.length := by omega
      refine at_seq ?_
      refine at_region ?_
      refine at_do (does_lss rfl rfl) rfl rfl ?_
      refine at_nil ?_
      refine at_then ?_
      refine at_seq ?_
      refine at_cond_f rfl (decide_eq_false (by omega)) ?_
      refine at_exit ?_
      refine at_then_exit ?_
      refine at_then_exit ?_
      refine at_inb_here ?_
      refine at_then ?_
      refine at_seq ?_
      refine at_region ?_
      refine at_do (does_assign rfl) rfl rfl ?_
      refine at_nil ?_
      refine at_then ?_
      refine at_ret ?_
      refine at_ret1 rfl rfl rfl (fun w9 ho9 => ?_)
      rotate_left
      exact ⟨by rw [hr, ← List.take_length (l := L), hI]; rfl, ho9.plain⟩
def errW (fs : List (List Itm)) (vs : List Int) (a b : List UInt8) : Int := if mayT fs vs = false then 1 else if keyOk a && keyOk b then 0 else 3
theorem err_two (fs : List (List Itm)) (vs : List Int) (a b : List UInt8) : errR fs vs [a, b] = errW fs vs a b := by simp [errR, errW]
theorem err_one (fs : List (List Itm)) (vs : List Int) (a : List UInt8) : errR fs vs [a] = errW fs vs a a := by simp [errR, errW]
theorem law_wrong (ls : List Value) (vs : List Int) (fs : List (List Itm)) (a b : List UInt8) (w : World) (hT : TrunkV w Nof ls fs) (hvs : vs.length = 16) (hS : SmallT fs) (ha : a.length ≤ 1000) (hb : b.length ≤ 1000) :
    Calls Tryd.prog 10 #[trunkA ls vs, .string (bs a), .string (bs b)] w fun e w' => e = .returned (.int .i64 (errW fs vs a b)) ∧ Below w.heap.size w w' := by
  have h32 := trunk_size hT.l1 hvs
  have cM : ∀ {w'}, TrunkV w' Nof ls fs → Calls Tryd.prog 31 #[trunkA ls vs] w' fun e w3 => e = .returned (.bool (mayT fs vs)) ∧ Below w'.heap.size w' w3 := fun h => refl_MayT ls vs fs _ h hvs hS
  refine calls_plain Tryd.func10 rfl Tryd.ntmps10 rfl ?_
  cases hm : mayT fs vs
  · rw [hm] at cM
    have hr : errW fs vs a b = 1 := by rw [errW, if_pos hm]
    rw [hr]
    refine at_seq ?_
    refine at_region ?_
    refine at_boxagg rfl rfl fun gz0 => ?_
    refine at_do (does_assign rfl) rfl rfl ?_
    refine at_nil ?_
    refine at_then ?_
    refine at_seq ?_
    refine at_seq ?_
    refine at_region ?_
    refine at_do (does_loadagg (i := 0) (k := 32) (by kernel_rfl) rfl rfl h32) rfl rfl ?_
    refine at_callv (f := 31) (enters_fn (by kernel_rfl) rfl) (fun w ho => cM (ho.oldTrunk hT)) rfl rfl ?_
    refine at_do (does_not rfl) rfl rfl ?_
    refine at_nil ?_
    refine at_then ?_
    refine at_cond_t rfl (by decide) ?_
    refine at_seq ?_
    refine at_region ?_
    refine at_do (does_assign rfl) rfl rfl ?_
    refine at_nil ?_
    refine at_then ?_
    refine at_ret ?_
    refine at_then_ret ?_
    refine at_ret1 rfl rfl rfl (fun w9 ho9 => ?_)
    rotate_left
    exact ⟨rfl, ho9.plain⟩
  · rw [hm] at cM
    have hr : errW fs vs a b = if keyOk a && keyOk b then 0 else 3 := by rw [errW, hm, if_neg (by simp)]
    rw [hr]
    cases ha' : keyOk a
    · refine at_seq ?_
      refine at_region ?_
      refine at_boxagg rfl rfl fun gz0 => ?_
      refine at_do (does_assign rfl) rfl rfl ?_
      refine at_nil ?_
      refine at_then ?_
      refine at_seq ?_
      refine at_seq ?_
      refine at_region ?_
      refine at_do (does_loadagg (i := 0) (k := 32) (by kernel_rfl) rfl rfl h32) rfl rfl ?_
      refine at_callv (f := 31) (enters_fn (by kernel_rfl) rfl) (fun w ho => cM (ho.oldTrunk hT)) rfl rfl ?_
      refine at_do (does_not rfl) rfl rfl ?_
      refine at_nil ?_
      refine at_then ?_
      refine at_cond_f rfl (by decide) ?_
      refine at_skip ?_
      refine at_then ?_
      refine at_seq ?_
      refine at_seq ?_
      refine at_region ?_
      refine at_do (does_move rfl) rfl rfl ?_
      refine at_callv (f := 32) (enters_fn (by kernel_rfl) rfl) (fun w ho => ref_Pattern _ w (by omega)) rfl rfl ?_
      refine at_do (does_not rfl) rfl rfl ?_
      refine at_do (does_move rfl) rfl rfl ?_
      refine at_know (t := 13) (d := true) rfl (by (rw [ha']; rfl)) ?_
      refine at_no rfl rfl rfl rfl ?_
      refine at_no rfl rfl rfl rfl ?_
      refine at_no rfl rfl rfl rfl ?_
      refine at_do (does_pick_true rfl rfl) rfl rfl ?_
      refine at_nil ?_
      refine at_then ?_
      refine at_cond_true rfl ?_
      refine at_seq ?_
      refine at_region ?_
      refine at_do (does_assign rfl) rfl rfl ?_
      refine at_nil ?_
      refine at_then ?_
      refine at_ret ?_
      refine at_then_ret ?_
      refine at_ret1 rfl rfl rfl (fun w9 ho9 => ?_)
      rotate_left
      exact ⟨rfl, ho9.plain⟩
    · cases hb' : keyOk b
      · refine at_seq ?_
        refine at_region ?_
        refine at_boxagg rfl rfl fun gz0 => ?_
        refine at_do (does_assign rfl) rfl rfl ?_
        refine at_nil ?_
        refine at_then ?_
        refine at_seq ?_
        refine at_seq ?_
        refine at_region ?_
        refine at_do (does_loadagg (i := 0) (k := 32) (by kernel_rfl) rfl rfl h32) rfl rfl ?_
        refine at_callv (f := 31) (enters_fn (by kernel_rfl) rfl) (fun w ho => cM (ho.oldTrunk hT)) rfl rfl ?_
        refine at_do (does_not rfl) rfl rfl ?_
        refine at_nil ?_
        refine at_then ?_
        refine at_cond_f rfl (by decide) ?_
        refine at_skip ?_
        refine at_then ?_
        refine at_seq ?_
        refine at_seq ?_
        refine at_region ?_
        refine at_do (does_move rfl) rfl rfl ?_
        refine at_callv (f := 32) (enters_fn (by kernel_rfl) rfl) (fun w ho => ref_Pattern _ w (by omega)) rfl rfl ?_
        refine at_do (does_not rfl) rfl rfl ?_
        refine at_do (does_move rfl) rfl rfl ?_
        refine at_know (t := 13) (d := false) rfl (by (rw [ha']; rfl)) ?_
        refine at_on rfl rfl ?_
        refine at_do (does_move rfl) rfl rfl ?_
        refine at_on rfl rfl ?_
        refine at_callv (f := 32) (enters_fn (by kernel_rfl) rfl) (fun w ho => ref_Pattern _ w (by omega)) rfl rfl ?_
        refine at_on rfl rfl ?_
        refine at_do (does_not rfl) rfl rfl ?_
        refine at_do (does_pick_false rfl rfl) rfl rfl ?_
        refine at_nil ?_
        refine at_then ?_
        refine at_cond_t rfl (by (rw [hb']; rfl)) ?_
        refine at_seq ?_
        refine at_region ?_
        refine at_do (does_assign rfl) rfl rfl ?_
        refine at_nil ?_
        refine at_then ?_
        refine at_ret ?_
        refine at_then_ret ?_
        refine at_ret1 rfl rfl rfl (fun w9 ho9 => ?_)
        rotate_left
        exact ⟨rfl, ho9.plain⟩
      · refine at_seq ?_
        refine at_region ?_
        refine at_boxagg rfl rfl fun gz0 => ?_
        refine at_do (does_assign rfl) rfl rfl ?_
        refine at_nil ?_
        refine at_then ?_
        refine at_seq ?_
        refine at_seq ?_
        refine at_region ?_
        refine at_do (does_loadagg (i := 0) (k := 32) (by kernel_rfl) rfl rfl h32) rfl rfl ?_
        refine at_callv (f := 31) (enters_fn (by kernel_rfl) rfl) (fun w ho => cM (ho.oldTrunk hT)) rfl rfl ?_
        refine at_do (does_not rfl) rfl rfl ?_
        refine at_nil ?_
        refine at_then ?_
        refine at_cond_f rfl (by decide) ?_
        refine at_skip ?_
        refine at_then ?_
        refine at_seq ?_
        refine at_seq ?_
        refine at_region ?_
        refine at_do (does_move rfl) rfl rfl ?_
        refine at_callv (f := 32) (enters_fn (by kernel_rfl) rfl) (fun w ho => ref_Pattern _ w (by omega)) rfl rfl ?_
        refine at_do (does_not rfl) rfl rfl ?_
        refine at_do (does_move rfl) rfl rfl ?_
        refine at_know (t := 13) (d := false) rfl (by (rw [ha']; rfl)) ?_
        refine at_on rfl rfl ?_
        refine at_do (does_move rfl) rfl rfl ?_
        refine at_on rfl rfl ?_
        refine at_callv (f := 32) (enters_fn (by kernel_rfl) rfl) (fun w ho => ref_Pattern _ w (by omega)) rfl rfl ?_
        refine at_on rfl rfl ?_
        refine at_do (does_not rfl) rfl rfl ?_
        refine at_do (does_pick_false rfl rfl) rfl rfl ?_
        refine at_nil ?_
        refine at_then ?_
        refine at_cond_f rfl (by (rw [hb']; rfl)) ?_
        refine at_skip ?_
        refine at_then ?_
        refine at_seq ?_
        refine at_region ?_
        refine at_do (does_assign rfl) rfl rfl ?_
        refine at_nil ?_
        refine at_then ?_
        refine at_ret ?_
        refine at_ret1 rfl rfl rfl (fun w9 ho9 => ?_)
        rotate_left
        exact ⟨rfl, ho9.plain⟩
end Go.Proofs.YtjpfebgpcokenaaDoor
set_option linter.unusedSimpArgs false
set_option linter.unusedVariables false
namespace Go.Proofs.YtjpfebgpcokenaaDoor
open Go.RowKit

section
variable {P : Program} {n : Nat} {E : List (Nat × Value)} {C : Ctx} {H : List Res} {K : Act → World → Prop}
/-- A block that is not turned again: what it holds is known of the world as it stands. -/
theorem at_dropblk {h e : Nat} {cs : Array Value} (k : ∀ w1, h < w1.heap.size → w1.heap[h]? = some (.cells cs e) → h ∉ bls H → C.W.heap.size ≤ w1.heap.size → At n E (C.re w1 H) H K) : At n E C (.blk h e cs :: H) K := fun a w hf hd ho => by
  have h1 : w.heap[h]? = some (.cells cs e) := ho.get (i := 0) rfl
  have h2 := ho.nodup
  simp only [bls, List.flatMap_cons, Res.blocks, List.cons_append, List.nil_append, List.nodup_cons] at h2
  exact k w (Array.getElem?_eq_some_iff.1 h1).1 h1 h2.1 ho.orig.size a w hf hd (ho.sublist (List.sublist_cons_self ..)).re
end
attribute [local irreducible] cwp lwp Exit.then Exit.inBlock Exit.noGoto wpQuiet Calls fin At AtQ Again endQ RQ
theorem Own.notG2 {W1 w1 : World} {C : Ctx} {H : List Res} {G : Nat → Prop} {b : Nat} {cs : Array Value} {e : Nat} (h : Own (C.re w1 H) H W1) (hG : ∀ k, G k → k ∈ bls H ∨ ∃ q, W1.heap[k]? = some (.loop q)) (hb : b ∉ bls H) (ho : w1.heap[b]? = some (.cells cs e)) : W1.heap[b]? = some (.cells cs e) ∧ ¬ G b := by
  have h1 : W1.heap[b]? = some (.cells cs e) := (h.base.old b (Array.getElem?_eq_some_iff.1 ho).1 hb).trans ho
  refine ⟨h1, fun hg => ?_⟩
  rcases hG b hg with h2 | ⟨q, h2⟩
  · exact hb h2
  · rw [h1] at h2; cases h2
theorem TrunkV.notG {W1 w : World} {b : World} {F : Nat → Prop} {D : List Nat} {H : List Res} {G : Nat → Prop} {ls : List Value} {fs : List (List Itm)} (h : TrunkV w Nof ls fs) (ho : Own ⟨w, fun _ => False, fun _ => False, b, F, D⟩ H W1) (hG : ∀ k, G k → k ∈ bls H ∨ ∃ q, W1.heap[k]? = some (.loop q)) : TrunkV W1 G ls fs :=
  ⟨h.l1, h.l2, fun i hi => by
    obtain ⟨v, q1, q2⟩ := h.at' i hi
    refine ⟨v, q1, q2.1.keep ho.plain, fun hl g hg => ?_⟩
    obtain ⟨gb, o, c, rfl, hc, hlt, hce⟩ := q2.1.form hl
    have hg' : g = gb := by simpa [Value.ownBlock] using hg.symm
    subst hg'
    obtain ⟨ob, h1, h2⟩ := obj_of_cell (Below.cellOld ho.plain (hce 0 hl).key)
    exact ho.notG hG hlt id h1 h2⟩
def errN (fs : List (List Itm)) (vs : List Int) (f t : List UInt8) (xs : List Itm) : List Itm := if errW fs vs f t = 0 then xs else []
abbrev NN : Nat := 2000
theorem scanG_len (most : Int) (f t : List UInt8) : ∀ (xs out : List Itm), (scanG most f t out xs).length ≤ out.length + xs.length
  | [], out => by simp [scanG]
  | x :: xs, out => by
    unfold scanG
    split
    · simp
    · have := scanG_len most f t xs (if Op.bytesLess x.key f then out else out ++ [x])
      have h2 : (if Op.bytesLess x.key f then out else out ++ [x]).length ≤ out.length + 1 := by
        split <;> simp
      simp only [List.length_cons]
      omega
theorem small_flat : ∀ {fs : List (List Itm)} (m : Nat), (∀ b, (fs.getD b []).length ≤ m) → fs.flatten.length ≤ fs.length * m
  | [], m, _ => by simp
  | f :: fs, m, h => by
    have h0 := h 0
    have ih := small_flat (fs := fs) m fun b => by simpa using h (b + 1)
    simp only [List.flatten_cons, List.length_append, List.length_cons, Nat.add_mul, Nat.one_mul]
    have h0 : f.length ≤ m := by simpa using h0
    omega
theorem SmallT.flat {fs : List (List Itm)} (h : SmallT fs) (hl : fs.length = 16) : fs.flatten.length ≤ NN := by
  have := small_flat 66 fun b => (h b).1
  rw [hl] at this
  show fs.flatten.length ≤ 2000
  omega
set_option maxHeartbeats 8000000 in
theorem span_Scan (ls : List Value) (vs : List Int) (fs : List (List Itm)) (f t : List UInt8) (most : Int) (w : World) (hG : Glob w) (hT : TrunkV w Nof ls fs) (hvs : vs.length = 16) (hS : SmallT fs) :
    Calls Tryd.prog 22 #[trunkA ls vs, .string (bs f), .string (bs t), .int .i64 most] w fun e w' => ∃ v, e = .returned (.tuple #[v, .int .i64 (errW fs vs f t)]) ∧ Below w.heap.size w w' ∧ w'.ownsRow w.heap.size 43 5 v (errN fs vs f t (scanG most f t [] (mergeI NN fs))).length (itms (errN fs vs f t (scanG most f t [] (mergeI NN fs)))) := by
  have h32 := trunk_size hT.l1 hvs
  have cR : ∀ {w' arg}, Glob w' → TrunkV w' Nof ls fs → ValsAt w' arg (strs [f, t]) → Calls Tryd.prog 38 #[trunkA ls vs, arg] w' fun e w3 => e = .returned (.int .i64 (errW fs vs f t)) ∧ Below w'.heap.size w' w3 := fun g h hv => by
    rw [← err_two]; exact span_right ls vs fs _ [f, t] _ g h hvs hS hv (by simp)
  refine calls_plain Tryd.func22 rfl Tryd.ntmps22 rfl ?_
  refine at_seq ?_
  refine at_region ?_
  refine at_boxagg rfl rfl fun gz0 => ?_
  refine at_box rfl rfl rfl fun gz1 => ?_
  refine at_box rfl rfl rfl fun gz2 => ?_
  refine at_box rfl rfl rfl fun gz3 => ?_
  refine at_do (does_assign rfl) rfl rfl ?_
  refine at_do (does_assign rfl) rfl rfl ?_
  refine at_nil ?_
  refine at_then ?_
  refine at_seq ?_
  refine at_seq ?_
  refine at_region ?_
  refine at_do (does_loadagg (i := 3) (k := 32) (by kernel_rfl) rfl rfl h32) rfl rfl ?_
  refine at_do (does_load (i := 2) (by kernel_rfl) rfl rfl rfl) rfl rfl ?_
  refine at_do (does_load (i := 1) (by kernel_rfl) rfl rfl rfl) rfl rfl ?_
  refine at_buildSlice (e := 9) (sz := 1) (vs := strs [f, t]) (cs := strs [f, t]) (by kernel_rfl) rfl rfl rfl rfl rfl rfl (fun hlit => ?_)
  rotate_left
  have hv2 : ∀ w', Own ⟨w, fun _ => False, fun _ => False, w, fun _ => False, []⟩ [Res.blk hlit 9 (strs [f, t]).toArray, Res.blk gz3 3 #[Value.int IntKind.i64 most], Res.blk gz2 9 #[Value.string (bs t)], Res.blk gz1 9 #[Value.string (bs f)], Res.blk gz0 26 (trunkC ls vs)] w' → ValsAt w' (.slice (some ⟨hlit, 0, none⟩) 2 2) (strs [f, t]) := fun w' ho => .inr ⟨_, 2, rfl, Nat.le_refl _, fun j u hu => lit_cells ho (i := 0) rfl j u hu⟩
  by_cases he : errW fs vs f t = 0
  · rw [he] at cR ⊢
    have hN : ∀ xs, errN fs vs f t xs = xs := fun xs => by rw [errN, if_pos he]
    rw [hN]
    refine at_callv (f := 38) (enters_fn (by kernel_rfl) rfl) (fun w ho => cR (ho.glob hG id) (ho.oldTrunk hT) (hv2 _ ho)) rfl rfl ?_
    refine at_do (does_assign rfl) rfl rfl ?_
    refine at_nil ?_
    refine at_then ?_
    refine at_seq ?_
    refine at_region ?_
    refine at_do (does_move rfl) rfl rfl ?_
    refine at_do (does_neq rfl rfl) rfl rfl ?_
    refine at_nil ?_
    refine at_then ?_
    refine at_cond_f rfl (decide_eq_false (by decide)) ?_
    refine at_skip ?_
    refine at_then ?_
    refine at_seq ?_
    refine at_region ?_
    refine at_alloc rfl Tryd.zeroValue22 rfl fun gz0 => ?_
    refine at_nil ?_
    refine at_then ?_
    refine at_seq ?_
    refine at_seq ?_
    refine at_region ?_
    refine at_do (does_loadagg (i := 5) (k := 32) (by kernel_rfl) rfl rfl h32) rfl rfl ?_
    refine at_callblk (f := 39) (enters_fn (by kernel_rfl) rfl) (fun w ho => span_all ls vs w) rfl rfl (fun hb => ?_)
    refine at_nil ?_
    refine at_then ?_
    refine at_block ?_
    rotate_left
    refine at_drop (H' := [.blk hb 26 (trunkC ls vs), .blk gz0 22 #[.slice none 0 0], .blk gz3 3 #[.int .i64 most], .blk gz2 9 #[.string (bs t)], .blk gz1 9 #[.string (bs f)]]) (.cons_cons _ (.cons_cons _ (.cons _ (.cons_cons _ (.cons_cons _ (.cons_cons _ (.cons _ .slnil))))))) ?_
    refine at_dropblk fun w1 hb1 hb2 hb3 hb4 => ?_
    refine at_nilrow 43 5 ?_
    have hmlen := mergeI_len NN fs
    have hfl := hS.flat hT.l2
    obtain ⟨xs, hxs⟩ : ∃ xs, xs = mergeI NN fs := ⟨_, rfl⟩
    rw [← hxs] at hmlen ⊢
    have hNN : xs.length ≤ 2000 := hmlen
    refine at_range2 (σ := Value × List Itm) (ι := Nat) (gf := 64) (lb := [.pointer (some ⟨hb, 0, none⟩)]) (xs := seqP xs) (fun i s => scanG most f t s.2 (xs.drop i) = scanG most f t [] xs ∧ s.2.length ≤ i) (fun _ s => [.row s.1 43 5 s.2.length (itms s.2), .blk gz0 22 #[s.1], .blk gz3 3 #[.int .i64 most], .blk gz2 9 #[.string (bs t)], .blk gz1 9 #[.string (bs f)]])
      (fun _ s j => [(13, .pointer (some ⟨j, 0, none⟩)), (5, .pointer (some ⟨gz1, 0, none⟩)), (6, .pointer (some ⟨gz2, 0, none⟩)), (7, .pointer (some ⟨gz3, 0, none⟩)), (11, .pointer (some ⟨gz0, 0, none⟩))])
      (fun _ x s j => [.blk j 43 x.2.cells, .row s.1 43 5 s.2.length (itms s.2), .blk gz0 22 #[s.1], .blk gz3 3 #[.int .i64 most], .blk gz2 9 #[.string (bs t)], .blk gz1 9 #[.string (bs f)]])
      (fun c s => c = .exit 0 ∧ s.2 = scanG most f t [] xs) (fun _ s => [.row s.1 43 5 s.2.length (itms s.2), .blk gz0 22 #[s.1], .blk gz3 3 #[.int .i64 most], .blk gz2 9 #[.string (bs t)], .blk gz1 9 #[.string (bs f)]])
      (.slice none 0 0, []) ⟨rfl, Nat.le_refl _⟩ rfl rfl (by kernel_rfl) rfl rfl ?_ ?_ ?_ ?_ ?_
    · intro W1 G B0 hGG hW1
      have h0 : hb ∉ bls ([.row (.slice none 0 0) 43 5 ([] : List Itm).length (itms []), .blk gz0 22 #[.slice none 0 0], .blk gz3 3 #[.int .i64 most], .blk gz2 9 #[.string (bs t)], .blk gz1 9 #[.string (bs f)]]) := fun hm => hb3 (by simpa [bls, Res.blocks, Value.ownBlock] using hm)
      obtain ⟨q1, q2⟩ := Own.notG2 (C := ⟨w, fun _ => False, fun _ => False, w, fun _ => False, []⟩) (w1 := w1) hW1 hGG h0 hb2
      rw [hxs]
      exact span_all1 ls vs fs NN W1 G B0 q1 q2 (hT.notG hW1 hGG) (by decide) hfl
    · intro l i x s W hx hI hW
      obtain ⟨y, hy, rfl⟩ : ∃ y, xs[i]? = some y ∧ x = (.int .i64 (i : Int), itmA y) := by
        have hi : i < xs.length := by have := (List.getElem?_eq_some_iff.1 hx).1; rwa [seqP_len] at this
        rw [seqP_get hi] at hx
        exact ⟨xs[i], List.getElem?_eq_getElem hi, (Option.some.inj hx).symm⟩
      refine at_region ?_
      refine at_allocagg Tryd.zeroValue43 rfl fun gz0 => ?_
      refine at_storeagg (i := 0) (by kernel_rfl) rfl rfl rfl rfl rfl ?_
      refine at_nil ?_
      rotate_left
      exact at_aq gz0 ⟨rfl, rfl, rfl, rfl, rfl, trivial⟩ rfl
    · intro l i x s j W hx hI hW
      obtain ⟨y, hy, rfl⟩ : ∃ y, xs[i]? = some y ∧ x = (.int .i64 (i : Int), itmA y) := by
        have hi : i < xs.length := by have := (List.getElem?_eq_some_iff.1 hx).1; rwa [seqP_len] at this
        rw [seqP_get hi] at hx
        exact ⟨xs[i], List.getElem?_eq_getElem hi, (Option.some.inj hx).symm⟩
      obtain ⟨v, out⟩ := s
      obtain ⟨hI1, hI2⟩ := hI
      simp only at hI1 hI2
      have hil : i < xs.length := (List.getElem?_eq_some_iff.1 hy).1
      have hdr : xs.drop i = y :: xs.drop (i + 1) := by
        rw [List.drop_eq_getElem_cons hil, (List.getElem?_eq_some_iff.1 hy).2]
      rw [hdr, scanG] at hI1
      by_cases hA : (out.length : Int) ≥ most
      · rw [if_pos (by simp [stopI, hA])] at hI1
        refine at_block ?_
        refine at_seq ?_
        refine at_seq ?_
        refine at_region ?_
        refine at_do (does_load (i := 2) (by kernel_rfl) rfl rfl rfl) rfl rfl ?_
        refine at_do (does_rowlen (i := 1) (by kernel_rfl) rfl rfl) rfl rfl ?_
        refine at_do (does_load (i := 3) (by kernel_rfl) rfl rfl rfl) rfl rfl ?_
        refine at_do (does_geq rfl rfl) rfl rfl ?_
        refine at_do (does_move rfl) rfl rfl ?_
        refine at_know (t := 30) (d := true) rfl (decide_eq_true (by (simp only; omega))) ?_
        refine at_no rfl rfl rfl rfl ?_
        refine at_no rfl rfl rfl rfl ?_
        refine at_no rfl rfl rfl rfl ?_
        refine at_no rfl rfl rfl rfl ?_
        refine at_no rfl rfl rfl rfl ?_
        refine at_no rfl rfl rfl rfl ?_
        refine at_no rfl rfl rfl rfl ?_
        refine at_no rfl rfl rfl rfl ?_
        refine at_do (does_pick_true rfl rfl) rfl rfl ?_
        refine at_nil ?_
        refine at_then ?_
        refine at_cond_true rfl ?_
        refine at_exit ?_
        refine at_then_exit ?_
        refine at_inb_far rfl ?_
        rotate_left
        exact at_drop (List.sublist_cons_self ..) (at_nextexit (v, out) ⟨rfl, hI1⟩ rfl)
      · by_cases ht : t = []
        · have hst : stopI most t out y = false := by subst ht; simp only [stopI, decide_eq_false hA]; rfl
          rw [hst, if_neg (by simp)] at hI1
          cases hf : Op.bytesLess y.key f
          · rw [hf, if_neg (by simp)] at hI1
            refine at_block ?_
            refine at_seq ?_
            refine at_seq ?_
            refine at_region ?_
            refine at_do (does_load (i := 2) (by kernel_rfl) rfl rfl rfl) rfl rfl ?_
            refine at_do (does_rowlen (i := 1) (by kernel_rfl) rfl rfl) rfl rfl ?_
            refine at_do (does_load (i := 3) (by kernel_rfl) rfl rfl rfl) rfl rfl ?_
            refine at_do (does_geq rfl rfl) rfl rfl ?_
            refine at_do (does_move rfl) rfl rfl ?_
            refine at_know (t := 30) (d := false) rfl (decide_eq_false (by (simp only; omega))) ?_
            refine at_on rfl rfl ?_
            refine at_do (does_load (i := 4) (by kernel_rfl) rfl rfl rfl) rfl rfl ?_
            refine at_on rfl rfl ?_
            refine at_do (does_sneq rfl rfl) rfl rfl ?_
            refine at_on rfl rfl ?_
            refine at_do (does_move rfl) rfl rfl ?_
            refine at_know (t := 33) (d := false) rfl (decide_eq_false (by simpa using ht)) ?_
            refine at_no rfl rfl rfl rfl ?_
            refine at_no rfl rfl rfl rfl ?_
            refine at_no rfl rfl rfl rfl ?_
            refine at_no rfl rfl rfl rfl ?_
            refine at_on rfl rfl ?_
            refine at_do (does_pick_false rfl rfl) rfl rfl ?_
            refine at_do (does_pick_false rfl rfl) rfl rfl ?_
            refine at_nil ?_
            refine at_then ?_
            refine at_cond_false rfl ?_
            refine at_skip ?_
            refine at_then ?_
            refine at_seq ?_
            refine at_region ?_
            refine at_do (does_fieldAddr (o := 0) (by kernel_rfl) rfl) rfl rfl ?_
            refine at_do (does_load (i := 0) (by kernel_rfl) rfl rfl rfl) rfl rfl ?_
            refine at_do (does_load (i := 5) (by kernel_rfl) rfl rfl rfl) rfl rfl ?_
            refine at_do (does_sgeq rfl rfl) rfl rfl ?_
            refine at_nil ?_
            refine at_then ?_
            refine at_cond_t rfl (by (rw [hf]; rfl)) ?_
            refine at_region ?_
            refine at_do (does_load (i := 2) (by kernel_rfl) rfl rfl rfl) rfl rfl ?_
            refine at_do (does_loadagg (i := 0) (k := 5) (by kernel_rfl) rfl rfl rfl) rfl rfl ?_
            refine at_buildSlice (e := 43) (sz := 5) (vs := [itmA y]) (cs := itmV y) (by kernel_rfl) rfl rfl rfl rfl rfl rfl (fun hl => ?_)
            refine at_append (i := 2) (e := 43) (sz := 5) (by' := 56) (m := out.length) (k := 1) (news := itmV y) (by kernel_rfl) rfl rfl rfl rfl (fun w ho => lit_cells ho (i := 0) rfl) (itmV_one y) (by simp only [maxLen]; omega) rfl (fun v4 hv4 => ?_)
            refine at_store (i := 3) (by kernel_rfl) rfl rfl (by assumption) rfl rfl ?_
            refine at_nil ?_
            refine at_inb ?_
            rotate_left
            refine at_drop (H' := [.row v4 43 5 (out.length + 1) (itms out ++ itmV y), .blk gz0 22 #[v4], .blk gz3 3 #[.int .i64 most], .blk gz2 9 #[.string (bs t)], .blk gz1 9 #[.string (bs f)]]) (.cons _ (.cons _ (List.Sublist.refl _))) ?_
            exact at_next (v4, out ++ [y]) ⟨hI1, by simp; omega⟩ (by simp [itms_snoc])
          · rw [hf, if_pos rfl] at hI1
            refine at_block ?_
            refine at_seq ?_
            refine at_seq ?_
            refine at_region ?_
            refine at_do (does_load (i := 2) (by kernel_rfl) rfl rfl rfl) rfl rfl ?_
            refine at_do (does_rowlen (i := 1) (by kernel_rfl) rfl rfl) rfl rfl ?_
            refine at_do (does_load (i := 3) (by kernel_rfl) rfl rfl rfl) rfl rfl ?_
            refine at_do (does_geq rfl rfl) rfl rfl ?_
            refine at_do (does_move rfl) rfl rfl ?_
            refine at_know (t := 30) (d := false) rfl (decide_eq_false (by (simp only; omega))) ?_
            refine at_on rfl rfl ?_
            refine at_do (does_load (i := 4) (by kernel_rfl) rfl rfl rfl) rfl rfl ?_
            refine at_on rfl rfl ?_
            refine at_do (does_sneq rfl rfl) rfl rfl ?_
            refine at_on rfl rfl ?_
            refine at_do (does_move rfl) rfl rfl ?_
            refine at_know (t := 33) (d := false) rfl (decide_eq_false (by simpa using ht)) ?_
            refine at_no rfl rfl rfl rfl ?_
            refine at_no rfl rfl rfl rfl ?_
            refine at_no rfl rfl rfl rfl ?_
            refine at_no rfl rfl rfl rfl ?_
            refine at_on rfl rfl ?_
            refine at_do (does_pick_false rfl rfl) rfl rfl ?_
            refine at_do (does_pick_false rfl rfl) rfl rfl ?_
            refine at_nil ?_
            refine at_then ?_
            refine at_cond_false rfl ?_
            refine at_skip ?_
            refine at_then ?_
            refine at_seq ?_
            refine at_region ?_
            refine at_do (does_fieldAddr (o := 0) (by kernel_rfl) rfl) rfl rfl ?_
            refine at_do (does_load (i := 0) (by kernel_rfl) rfl rfl rfl) rfl rfl ?_
            refine at_do (does_load (i := 5) (by kernel_rfl) rfl rfl rfl) rfl rfl ?_
            refine at_do (does_sgeq rfl rfl) rfl rfl ?_
            refine at_nil ?_
            refine at_then ?_
            refine at_cond_f rfl (by (rw [hf]; rfl)) ?_
            refine at_skip ?_
            refine at_inb ?_
            rotate_left
            exact at_drop (List.sublist_cons_self ..) (at_next (v, out) ⟨hI1, by show out.length ≤ i + 1; omega⟩ rfl)
        · cases hlt : Op.bytesLess y.key t
          · have hst : stopI most t out y = true := by simp [stopI, hlt, ht]
            rw [hst, if_pos rfl] at hI1
            refine at_block ?_
            refine at_seq ?_
            refine at_seq ?_
            refine at_region ?_
            refine at_do (does_load (i := 2) (by kernel_rfl) rfl rfl rfl) rfl rfl ?_
            refine at_do (does_rowlen (i := 1) (by kernel_rfl) rfl rfl) rfl rfl ?_
            refine at_do (does_load (i := 3) (by kernel_rfl) rfl rfl rfl) rfl rfl ?_
            refine at_do (does_geq rfl rfl) rfl rfl ?_
            refine at_do (does_move rfl) rfl rfl ?_
            refine at_know (t := 30) (d := false) rfl (decide_eq_false (by (simp only; omega))) ?_
            refine at_on rfl rfl ?_
            refine at_do (does_load (i := 4) (by kernel_rfl) rfl rfl rfl) rfl rfl ?_
            refine at_on rfl rfl ?_
            refine at_do (does_sneq rfl rfl) rfl rfl ?_
            refine at_on rfl rfl ?_
            refine at_do (does_move rfl) rfl rfl ?_
            refine at_know (t := 33) (d := true) rfl (decide_eq_true (by simpa using ht)) ?_
            refine at_on rfl rfl ?_
            refine at_do (does_fieldAddr (o := 0) (by kernel_rfl) rfl) rfl rfl ?_
            refine at_on rfl rfl ?_
            refine at_do (does_load (i := 0) (by kernel_rfl) rfl rfl rfl) rfl rfl ?_
            refine at_on rfl rfl ?_
            refine at_do (does_load (i := 4) (by kernel_rfl) rfl rfl rfl) rfl rfl ?_
            refine at_on rfl rfl ?_
            refine at_do (does_sgeq rfl rfl) rfl rfl ?_
            refine at_on rfl rfl ?_
            refine at_do (does_pick_true rfl rfl) rfl rfl ?_
            refine at_do (does_pick_false rfl rfl) rfl rfl ?_
            refine at_nil ?_
            refine at_then ?_
            refine at_cond_t rfl (by (rw [hlt]; rfl)) ?_
            refine at_exit ?_
            refine at_then_exit ?_
            refine at_inb_far rfl ?_
            rotate_left
            exact at_drop (List.sublist_cons_self ..) (at_nextexit (v, out) ⟨rfl, hI1⟩ rfl)
          · have hst : stopI most t out y = false := by simp [stopI, hlt, decide_eq_false hA]
            rw [hst, if_neg (by simp)] at hI1
            cases hf : Op.bytesLess y.key f
            · rw [hf, if_neg (by simp)] at hI1
              refine at_block ?_
              refine at_seq ?_
              refine at_seq ?_
              refine at_region ?_
              refine at_do (does_load (i := 2) (by kernel_rfl) rfl rfl rfl) rfl rfl ?_
              refine at_do (does_rowlen (i := 1) (by kernel_rfl) rfl rfl) rfl rfl ?_
              refine at_do (does_load (i := 3) (by kernel_rfl) rfl rfl rfl) rfl rfl ?_
              refine at_do (does_geq rfl rfl) rfl rfl ?_
              refine at_do (does_move rfl) rfl rfl ?_
              refine at_know (t := 30) (d := false) rfl (decide_eq_false (by (simp only; omega))) ?_
              refine at_on rfl rfl ?_
              refine at_do (does_load (i := 4) (by kernel_rfl) rfl rfl rfl) rfl rfl ?_
              refine at_on rfl rfl ?_
              refine at_do (does_sneq rfl rfl) rfl rfl ?_
              refine at_on rfl rfl ?_
              refine at_do (does_move rfl) rfl rfl ?_
              refine at_know (t := 33) (d := true) rfl (decide_eq_true (by simpa using ht)) ?_
              refine at_on rfl rfl ?_
              refine at_do (does_fieldAddr (o := 0) (by kernel_rfl) rfl) rfl rfl ?_
              refine at_on rfl rfl ?_
              refine at_do (does_load (i := 0) (by kernel_rfl) rfl rfl rfl) rfl rfl ?_
              refine at_on rfl rfl ?_
              refine at_do (does_load (i := 4) (by kernel_rfl) rfl rfl rfl) rfl rfl ?_
              refine at_on rfl rfl ?_
              refine at_do (does_sgeq rfl rfl) rfl rfl ?_
              refine at_on rfl rfl ?_
              refine at_do (does_pick_true rfl rfl) rfl rfl ?_
              refine at_do (does_pick_false rfl rfl) rfl rfl ?_
              refine at_nil ?_
              refine at_then ?_
              refine at_cond_f rfl (by (rw [hlt]; rfl)) ?_
              refine at_skip ?_
              refine at_then ?_
              refine at_seq ?_
              refine at_region ?_
              refine at_do (does_fieldAddr (o := 0) (by kernel_rfl) rfl) rfl rfl ?_
              refine at_do (does_load (i := 0) (by kernel_rfl) rfl rfl rfl) rfl rfl ?_
              refine at_do (does_load (i := 5) (by kernel_rfl) rfl rfl rfl) rfl rfl ?_
              refine at_do (does_sgeq rfl rfl) rfl rfl ?_
              refine at_nil ?_
              refine at_then ?_
              refine at_cond_t rfl (by (rw [hf]; rfl)) ?_
              refine at_region ?_
              refine at_do (does_load (i := 2) (by kernel_rfl) rfl rfl rfl) rfl rfl ?_
              refine at_do (does_loadagg (i := 0) (k := 5) (by kernel_rfl) rfl rfl rfl) rfl rfl ?_
              refine at_buildSlice (e := 43) (sz := 5) (vs := [itmA y]) (cs := itmV y) (by kernel_rfl) rfl rfl rfl rfl rfl rfl (fun hl => ?_)
              refine at_append (i := 2) (e := 43) (sz := 5) (by' := 56) (m := out.length) (k := 1) (news := itmV y) (by kernel_rfl) rfl rfl rfl rfl (fun w ho => lit_cells ho (i := 0) rfl) (itmV_one y) (by simp only [maxLen]; omega) rfl (fun v4 hv4 => ?_)
              refine at_store (i := 3) (by kernel_rfl) rfl rfl (by assumption) rfl rfl ?_
              refine at_nil ?_
              refine at_inb ?_
              rotate_left
              refine at_drop (H' := [.row v4 43 5 (out.length + 1) (itms out ++ itmV y), .blk gz0 22 #[v4], .blk gz3 3 #[.int .i64 most], .blk gz2 9 #[.string (bs t)], .blk gz1 9 #[.string (bs f)]]) (.cons _ (.cons _ (List.Sublist.refl _))) ?_
              exact at_next (v4, out ++ [y]) ⟨hI1, by simp; omega⟩ (by simp [itms_snoc])
            · rw [hf, if_pos rfl] at hI1
              refine at_block ?_
              refine at_seq ?_
              refine at_seq ?_
              refine at_region ?_
              refine at_do (does_load (i := 2) (by kernel_rfl) rfl rfl rfl) rfl rfl ?_
              refine at_do (does_rowlen (i := 1) (by kernel_rfl) rfl rfl) rfl rfl ?_
              refine at_do (does_load (i := 3) (by kernel_rfl) rfl rfl rfl) rfl rfl ?_
              refine at_do (does_geq rfl rfl) rfl rfl ?_
              refine at_do (does_move rfl) rfl rfl ?_
              refine at_know (t := 30) (d := false) rfl (decide_eq_false (by (simp only; omega))) ?_
              refine at_on rfl rfl ?_
              refine at_do (does_load (i := 4) (by kernel_rfl) rfl rfl rfl) rfl rfl ?_
              refine at_on rfl rfl ?_
              refine at_do (does_sneq rfl rfl) rfl rfl ?_
              refine at_on rfl rfl ?_
              refine at_do (does_move rfl) rfl rfl ?_
              refine at_know (t := 33) (d := true) rfl (decide_eq_true (by simpa using ht)) ?_
              refine at_on rfl rfl ?_
              refine at_do (does_fieldAddr (o := 0) (by kernel_rfl) rfl) rfl rfl ?_
              refine at_on rfl rfl ?_
              refine at_do (does_load (i := 0) (by kernel_rfl) rfl rfl rfl) rfl rfl ?_
              refine at_on rfl rfl ?_
              refine at_do (does_load (i := 4) (by kernel_rfl) rfl rfl rfl) rfl rfl ?_
              refine at_on rfl rfl ?_
              refine at_do (does_sgeq rfl rfl) rfl rfl ?_
              refine at_on rfl rfl ?_
              refine at_do (does_pick_true rfl rfl) rfl rfl ?_
              refine at_do (does_pick_false rfl rfl) rfl rfl ?_
              refine at_nil ?_
              refine at_then ?_
              refine at_cond_f rfl (by (rw [hlt]; rfl)) ?_
              refine at_skip ?_
              refine at_then ?_
              refine at_seq ?_
              refine at_region ?_
              refine at_do (does_fieldAddr (o := 0) (by kernel_rfl) rfl) rfl rfl ?_
              refine at_do (does_load (i := 0) (by kernel_rfl) rfl rfl rfl) rfl rfl ?_
              refine at_do (does_load (i := 5) (by kernel_rfl) rfl rfl rfl) rfl rfl ?_
              refine at_do (does_sgeq rfl rfl) rfl rfl ?_
              refine at_nil ?_
              refine at_then ?_
              refine at_cond_f rfl (by (rw [hf]; rfl)) ?_
              refine at_skip ?_
              refine at_inb ?_
              rotate_left
              exact at_drop (List.sublist_cons_self ..) (at_next (v, out) ⟨hI1, by show out.length ≤ i + 1; omega⟩ rfl)
    · rintro D ⟨v, out⟩ ⟨hI, _⟩
      rw [seqP_len, List.drop_length] at hI
      have hI : out = scanG most f t [] xs := hI
      refine at_inb ?_
      refine at_then ?_
      refine at_seq ?_
      refine at_region ?_
      refine at_do (does_load (i := 1) (by kernel_rfl) rfl rfl rfl) rfl rfl ?_
      refine at_do (does_assign rfl) rfl rfl ?_
      refine at_do (does_assign rfl) rfl rfl ?_
      refine at_nil ?_
      refine at_then ?_
      refine at_ret ?_
      refine at_retm2 rfl rfl rfl (fun w9 ho9 => ?_)
      rotate_left
      rw [← hI]
      exact ⟨_, rfl, ho9.plain, ho9.rowOut (List.mem_cons_self ..)⟩
    · rintro D c ⟨v, out⟩ ⟨rfl, hI⟩
      refine at_exit ?_
      refine at_inb_here ?_
      refine at_then ?_
      refine at_seq ?_
      refine at_region ?_
      refine at_do (does_load (i := 1) (by kernel_rfl) rfl rfl rfl) rfl rfl ?_
      refine at_do (does_assign rfl) rfl rfl ?_
      refine at_do (does_assign rfl) rfl rfl ?_
      refine at_nil ?_
      refine at_then ?_
      refine at_ret ?_
      refine at_retm2 rfl rfl rfl (fun w9 ho9 => ?_)
      rotate_left
      rw [← hI]
      exact ⟨_, rfl, ho9.plain, ho9.rowOut (List.mem_cons_self ..)⟩
  · have hN : ∀ xs, errN fs vs f t xs = [] := fun xs => by rw [errN, if_neg he]
    rw [hN]
    refine at_callv (f := 38) (enters_fn (by kernel_rfl) rfl) (fun w ho => cR (ho.glob hG id) (ho.oldTrunk hT) (hv2 _ ho)) rfl rfl ?_
    refine at_do (does_assign rfl) rfl rfl ?_
    refine at_nil ?_
    refine at_then ?_
    refine at_seq ?_
    refine at_region ?_
    refine at_do (does_move rfl) rfl rfl ?_
    refine at_do (does_neq rfl rfl) rfl rfl ?_
    refine at_nil ?_
    refine at_then ?_
    refine at_cond_t rfl (decide_eq_true (by simpa using he)) ?_
    refine at_seq ?_
    refine at_region ?_
    refine at_do (does_move rfl) rfl rfl ?_
    refine at_do (does_assign rfl) rfl rfl ?_
    refine at_do (does_assign rfl) rfl rfl ?_
    refine at_nil ?_
    refine at_then ?_
    refine at_ret ?_
    refine at_then_ret ?_
    refine at_ret2 rfl rfl rfl rfl (fun w9 ho9 => ?_)
    rotate_left
    exact ⟨_, rfl, ho9.plain, World.ownsRow_nil _ _ _ _⟩
end Go.Proofs.YtjpfebgpcokenaaDoor
set_option linter.unusedSimpArgs false
set_option linter.unusedVariables false
namespace Go.Proofs.YtjpfebgpcokenaaDoor
open Go.RowKit

section
variable {P : Program} {r : Option Nat} {n : Nat} {E : List (Nat × Value)} {C : Ctx} {H : List Res} {Q : Exit → Act → World → Prop} {ops : Array Oper} {rest : List Oper}
/-- A callee that hands out a row of its own making, and a number. -/
theorem at_callrow2 {d : Nat} {op : Op} {ty : TypeId} {pos : String} {after : Array Edge} {e sz m : Nat} {z : Value} {xs : List Value} {f : FuncId} {args : Array Value} (he : Enters P n E C H ⟨some d, op, ty, pos, after, none⟩ f args)
    (hc : ∀ w, Own C H w → Calls P f args w fun e' w' => ∃ v, e' = .returned (.tuple #[v, z]) ∧ Below w.heap.size w w' ∧ w'.ownsRow w.heap.size e sz v m xs) (hn : Op.isDefer op = false) (hd : Nat.blt d n = true)
    (k : ∀ v, At n ((d, .tuple #[v, z]) :: E) C (.row v e sz m xs :: H) (lwp r P ops Q rest)) : At n E C H (lwp r P ops Q (⟨some d, op, ty, pos, after, none⟩ :: rest)) :=
  at_call (ι := Value) (fun v => .tuple #[v, z]) (fun v => .row v e sz m xs :: H) he (fun w ho => (hc w ho).mono fun e' w' ⟨v, h1, h2, h3⟩ => ⟨v, h1, ho.gain h2 ⟨h3.1, h3.2.imp id fun ⟨g, cap, cur, q1, q2, q3⟩ => ⟨g, cap, cur, q1, Nat.zero_le _, q3⟩⟩ (fun k hk => (h3.lt k (by simpa [Res.blocks] using hk)).1)⟩) rfl hn hd k
end
attribute [local irreducible] cwp lwp Exit.then Exit.inBlock Exit.noGoto wpQuiet Calls fin At AtQ Again endQ RQ
/-- All items of a range. -/
def scanR (most : Int) (fs : List (List Itm)) (vs : List Int) (f t : List UInt8) : List Itm := errN fs vs f t (scanG most f t [] (mergeI NN fs))
abbrev allR : List (List Itm) → List Int → List UInt8 → List UInt8 → List Itm := scanR 1024
/-- What holds of a trunk that is asked. -/
structure Tr (w : World) (ls : List Value) (vs : List Int) (fs : List (List Itm)) : Prop where
  glob : Glob w
  t : TrunkV w Nof ls fs
  l : vs.length = 16
  s : SmallT fs
theorem Own.tr {w0 w b : World} {F : Nat → Prop} {D : List Nat} {H : List Res} {ls : List Value} {vs : List Int} {fs : List (List Itm)} (h : Own ⟨w0, fun _ => False, fun _ => False, b, F, D⟩ H w) (ht : Tr w0 ls vs fs) : Tr w ls vs fs := ⟨h.glob ht.glob id, h.oldTrunk ht.t, ht.l, ht.s⟩
theorem Tr.size {w : World} {ls : List Value} {vs : List Int} {fs : List (List Itm)} (h : Tr w ls vs fs) : (trunkC ls vs).size = 32 := trunk_size h.t.l1 h.l
abbrev IT : Nat := 43
theorem shapeItem : shapeOf Tryd.prog 43 = some (itmV default, [(0, 1), (1, 3), (4, 1)]) := by kernel_rfl
theorem span_scan (ls : List Value) (vs : List Int) (fs : List (List Itm)) (f t : List UInt8) (most : Int) (w : World) (hT : Tr w ls vs fs) :
    Calls Tryd.prog 22 #[trunkA ls vs, .string (bs f), .string (bs t), .int .i64 most] w fun e w' => ∃ v, e = .returned (.tuple #[v, .int .i64 (errW fs vs f t)]) ∧ Below w.heap.size w w' ∧ w'.ownsRow w.heap.size IT 5 v (scanR most fs vs f t).length (itms (scanR most fs vs f t)) := span_Scan ls vs fs f t most w hT.glob hT.t hT.l hT.s
theorem span_whole (ls : List Value) (vs : List Int) (fs : List (List Itm)) (f t : List UInt8) (w : World) (hT : Tr w ls vs fs) :
    Calls Tryd.prog 28 #[trunkA ls vs, .string (bs f), .string (bs t)] w fun e w' => ∃ v, e = .returned (.tuple #[v, .int .i64 (errW fs vs f t)]) ∧ Below w.heap.size w w' ∧ w'.ownsRow w.heap.size IT 5 v (allR fs vs f t).length (itms (allR fs vs f t)) := by
  have h32 := hT.size
  refine calls_plain Tryd.func28 rfl Tryd.ntmps28 rfl ?_
  refine at_seq ?_
  refine at_region ?_
  refine at_boxagg rfl rfl fun gz0 => ?_
  refine at_do (does_assign rfl) rfl rfl ?_
  refine at_do (does_assign rfl) rfl rfl ?_
  refine at_nil ?_
  refine at_then ?_
  refine at_seq ?_
  refine at_region ?_
  refine at_do (does_loadagg (i := 0) (k := 32) (by kernel_rfl) rfl rfl h32) rfl rfl ?_
  refine at_do (does_move rfl) rfl rfl ?_
  refine at_do (does_move rfl) rfl rfl ?_
  refine at_callrow2 (f := 22) (enters_fn (by kernel_rfl) rfl) (fun w ho => span_scan ls vs fs f t 1024 w (ho.tr hT)) rfl rfl (fun v => ?_)
  refine at_do (does_extract rfl rfl) rfl rfl ?_
  refine at_do (does_extract rfl rfl) rfl rfl ?_
  refine at_do (does_assign rfl) rfl rfl ?_
  refine at_do (does_assign rfl) rfl rfl ?_
  refine at_nil ?_
  refine at_then ?_
  refine at_ret ?_
  refine at_ret2 rfl rfl rfl rfl (fun w9 ho9 => ?_)
  rotate_left
  exact ⟨_, rfl, ho9.plain, ho9.rowOut (List.mem_cons_self ..)⟩
theorem span_Count (ls : List Value) (vs : List Int) (fs : List (List Itm)) (f t : List UInt8) (w : World) (hT : Tr w ls vs fs) :
    Calls Tryd.prog 24 #[trunkA ls vs, .string (bs f), .string (bs t)] w fun e w' => e = .returned (.tuple #[.int .i64 (allR fs vs f t).length, .int .i64 (errW fs vs f t)]) ∧ Below w.heap.size w w' := by
  have h32 := hT.size
  refine calls_plain Tryd.func24 rfl Tryd.ntmps24 rfl ?_
  refine at_seq ?_
  refine at_region ?_
  refine at_boxagg rfl rfl fun gz0 => ?_
  refine at_do (does_assign rfl) rfl rfl ?_
  refine at_do (does_assign rfl) rfl rfl ?_
  refine at_nil ?_
  refine at_then ?_
  refine at_seq ?_
  refine at_region ?_
  refine at_do (does_loadagg (i := 0) (k := 32) (by kernel_rfl) rfl rfl h32) rfl rfl ?_
  refine at_do (does_move rfl) rfl rfl ?_
  refine at_do (does_move rfl) rfl rfl ?_
  refine at_callrow2 (f := 28) (enters_fn (by kernel_rfl) rfl) (fun w ho => span_whole ls vs fs f t w (ho.tr hT)) rfl rfl (fun v => ?_)
  refine at_do (does_move rfl) rfl rfl ?_
  refine at_do (does_extract rfl rfl) rfl rfl ?_
  refine at_do (does_extract rfl rfl) rfl rfl ?_
  refine at_do (does_assign rfl) rfl rfl ?_
  refine at_do (does_assign rfl) rfl rfl ?_
  refine at_nil ?_
  refine at_then ?_
  refine at_seq ?_
  refine at_region ?_
  refine at_do (does_move rfl) rfl rfl ?_
  refine at_do (does_rowlen (i := 0) (by kernel_rfl) rfl rfl) rfl rfl ?_
  refine at_do (does_move rfl) rfl rfl ?_
  refine at_do (does_assign rfl) rfl rfl ?_
  refine at_do (does_assign rfl) rfl rfl ?_
  refine at_nil ?_
  refine at_then ?_
  refine at_ret ?_
  refine at_ret2 rfl rfl rfl rfl (fun w9 ho9 => ?_)
  rotate_left
  exact ⟨rfl, ho9.plain⟩
def headI (e : Int) (xs : List Itm) : Itm := if e = 0 then xs.headD default else default
def headE (e : Int) (xs : List Itm) : Int := if e = 0 then (if xs = [] then 6 else 0) else e
set_option maxHeartbeats 1000000 in
theorem span_one (v : Value) (xs : List Itm) (e : Int) (w : World) (hV : ItemsAt w v xs) :
    Calls Tryd.prog 37 #[v, .int .i64 e] w fun e' w' => e' = .returned (.tuple #[itmA (headI e xs), .int .i64 (headE e xs)]) ∧ Below w.heap.size w w' := by
  refine calls_plain Tryd.func37 rfl Tryd.ntmps37 rfl ?_
  by_cases he : e = 0
  · subst he
    cases xs with
    | nil =>
      obtain ⟨A, c, rfl⟩ : ∃ A c, v = .slice A 0 c := by
        rcases hV with ⟨rfl, _⟩ | ⟨A, c, rfl, _⟩
        · exact ⟨none, 0, rfl⟩
        · exact ⟨some A, c, rfl⟩
      refine at_seq ?_
      refine at_region ?_
      refine at_allocagg Tryd.zeroValue43 rfl fun gz0 => ?_
      refine at_do (does_assign rfl) rfl rfl ?_
      refine at_nil ?_
      refine at_then ?_
      refine at_seq ?_
      refine at_block ?_
      refine at_seq ?_
      refine at_region ?_
      refine at_do (does_move rfl) rfl rfl ?_
      refine at_do (does_neq rfl rfl) rfl rfl ?_
      refine at_do (does_assign rfl) rfl rfl ?_
      refine at_nil ?_
      refine at_then ?_
      refine at_cond_f rfl (decide_eq_false (by decide)) ?_
      refine at_seq ?_
      refine at_region ?_
      refine at_do (does_move rfl) rfl rfl ?_
      refine at_do (does_len (by kernel_rfl) rfl) rfl rfl ?_
      refine at_do (does_eql rfl rfl) rfl rfl ?_
      refine at_do (does_assign rfl) rfl rfl ?_
      refine at_nil ?_
      refine at_then ?_
      refine at_cond_t rfl (decide_eq_true (by decide)) ?_
      refine at_seq ?_
      refine at_region ?_
      refine at_do (does_build (ps := []) (vs := []) (cs := itmV default) shapeItem rfl rfl) rfl rfl ?_
      refine at_storeagg (i := 0) (by kernel_rfl) rfl rfl rfl rfl rfl ?_
      refine at_do (does_assign rfl) rfl rfl ?_
      refine at_nil ?_
      refine at_then ?_
      refine at_ret ?_
      refine at_inb_ret ?_
      refine at_then_ret ?_
      refine at_retagg1 (i := 0) (k := 5) rfl rfl rfl rfl rfl (by kernel_rfl) rfl (fun w9 ho9 => ?_)
      rotate_left
      exact ⟨rfl, ho9.plain⟩
    | cons x r =>
      obtain ⟨gb, o, c, rfl, hc, hlt, hce⟩ := hV.form (by simp)
      have hx : ItmAt w gb (o + 0 * 5) x := hce 0 (by simp)
      refine at_seq ?_
      refine at_region ?_
      refine at_allocagg Tryd.zeroValue43 rfl fun gz0 => ?_
      refine at_do (does_assign rfl) rfl rfl ?_
      refine at_nil ?_
      refine at_then ?_
      refine at_seq ?_
      refine at_block ?_
      refine at_seq ?_
      refine at_region ?_
      refine at_do (does_move rfl) rfl rfl ?_
      refine at_do (does_neq rfl rfl) rfl rfl ?_
      refine at_do (does_assign rfl) rfl rfl ?_
      refine at_nil ?_
      refine at_then ?_
      refine at_cond_f rfl (decide_eq_false (by decide)) ?_
      refine at_seq ?_
      refine at_region ?_
      refine at_do (does_move rfl) rfl rfl ?_
      refine at_do (does_len (by kernel_rfl) rfl) rfl rfl ?_
      refine at_do (does_eql rfl rfl) rfl rfl ?_
      refine at_do (does_assign rfl) rfl rfl ?_
      refine at_nil ?_
      refine at_then ?_
      refine at_cond_f rfl (decide_eq_false (by (simp only [List.length_cons]; omega))) ?_
      refine at_skip ?_
      refine at_inb ?_
      refine at_then ?_
      refine at_seq ?_
      refine at_region ?_
      refine at_do (does_move rfl) rfl rfl ?_
      refine at_do (does_indexAddrk (k := 5) (j := 0) (by kernel_rfl) rfl rfl (by simp)) rfl rfl ?_
      refine at_do (does_loadagg_mem (vs := itmV x) (by kernel_rfl) rfl (fun w' ho => (hx.keep ho.plain).agg)) rfl rfl ?_
      refine at_storeagg (i := 0) (by kernel_rfl) rfl rfl rfl rfl rfl ?_
      refine at_do (does_assign rfl) rfl rfl ?_
      refine at_nil ?_
      refine at_then ?_
      refine at_ret ?_
      refine at_retagg1 (i := 0) (k := 5) rfl rfl rfl rfl rfl (by kernel_rfl) rfl (fun w9 ho9 => ?_)
      rotate_left
      exact ⟨rfl, ho9.plain⟩
  · refine at_seq ?_
    refine at_region ?_
    refine at_allocagg Tryd.zeroValue43 rfl fun gz0 => ?_
    refine at_do (does_assign rfl) rfl rfl ?_
    refine at_nil ?_
    refine at_then ?_
    refine at_seq ?_
    refine at_block ?_
    refine at_seq ?_
    refine at_region ?_
    refine at_do (does_move rfl) rfl rfl ?_
    refine at_do (does_neq rfl rfl) rfl rfl ?_
    refine at_do (does_assign rfl) rfl rfl ?_
    refine at_nil ?_
    refine at_then ?_
    refine at_cond_t rfl (decide_eq_true (by simpa using he)) ?_
    refine at_seq ?_
    refine at_region ?_
    refine at_do (does_build (ps := []) (vs := []) (cs := itmV default) shapeItem rfl rfl) rfl rfl ?_
    refine at_do (does_move rfl) rfl rfl ?_
    refine at_storeagg (i := 0) (by kernel_rfl) rfl rfl rfl rfl rfl ?_
    refine at_do (does_assign rfl) rfl rfl ?_
    refine at_nil ?_
    refine at_then ?_
    refine at_ret ?_
    refine at_inb_ret ?_
    refine at_then_ret ?_
    refine at_retagg1 (i := 0) (k := 5) rfl rfl rfl rfl rfl (by kernel_rfl) rfl (fun w9 ho9 => ?_)
    rotate_left
    exact ⟨by rw [headI, headE, if_neg he, if_neg he]; rfl, ho9.plain⟩
end Go.Proofs.YtjpfebgpcokenaaDoor
set_option linter.unusedSimpArgs false
set_option linter.unusedVariables false
namespace Go.Proofs.YtjpfebgpcokenaaDoor
open Go.RowKit
attribute [local irreducible] cwp lwp Exit.then Exit.inBlock Exit.noGoto wpQuiet Calls fin At AtQ Again endQ RQ
theorem span_First (ls : List Value) (vs : List Int) (fs : List (List Itm)) (k : List UInt8) (w : World) (hT : Tr w ls vs fs) :
    Calls Tryd.prog 14 #[trunkA ls vs, .string (bs k)] w fun e w' => e = .returned (.tuple #[itmA (headI (errW fs vs k []) (scanR 1 fs vs k [])), .int .i64 (headE (errW fs vs k []) (scanR 1 fs vs k []))]) ∧ Below w.heap.size w w' := by
  have h32 := hT.size
  refine calls_plain Tryd.func14 rfl Tryd.ntmps14 rfl ?_
  refine at_seq ?_
  refine at_region ?_
  refine at_boxagg rfl rfl fun gz0 => ?_
  refine at_allocagg Tryd.zeroValue43 rfl fun gz1 => ?_
  refine at_do (does_assign rfl) rfl rfl ?_
  refine at_nil ?_
  refine at_then ?_
  refine at_seq ?_
  refine at_region ?_
  refine at_do (does_loadagg (i := 1) (k := 32) (by kernel_rfl) rfl rfl h32) rfl rfl ?_
  refine at_do (does_move rfl) rfl rfl ?_
  refine at_callrow2 (f := 22) (enters_fn (by kernel_rfl) rfl) (fun w ho => span_scan ls vs fs k [] 1 w (ho.tr hT)) rfl rfl (fun v => ?_)
  refine at_do (does_move rfl) rfl rfl ?_
  refine at_do (does_extract rfl rfl) rfl rfl ?_
  refine at_do (does_extract rfl rfl) rfl rfl ?_
  refine at_do (does_assign rfl) rfl rfl ?_
  refine at_do (does_assign rfl) rfl rfl ?_
  refine at_nil ?_
  refine at_then ?_
  refine at_seq ?_
  refine at_region ?_
  refine at_do (does_move rfl) rfl rfl ?_
  refine at_do (does_move rfl) rfl rfl ?_
  refine at_callv (f := 37) (enters_fn (by kernel_rfl) rfl) (fun w ho => span_one v _ _ w (items_of_row (ho.rowAt (i := 0) rfl))) rfl rfl ?_
  refine at_do (does_extract rfl rfl) rfl rfl ?_
  refine at_do (does_extract rfl rfl) rfl rfl ?_
  refine at_storeagg (i := 1) (by kernel_rfl) rfl rfl rfl rfl rfl ?_
  refine at_do (does_assign rfl) rfl rfl ?_
  refine at_nil ?_
  refine at_then ?_
  refine at_ret ?_
  refine at_retagg1 (i := 1) (k := 5) rfl rfl rfl rfl rfl (by kernel_rfl) rfl (fun w9 ho9 => ?_)
  rotate_left
  exact ⟨rfl, ho9.plain⟩
end Go.Proofs.YtjpfebgpcokenaaDoor
