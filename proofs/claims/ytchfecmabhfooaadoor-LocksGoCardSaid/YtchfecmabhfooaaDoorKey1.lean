/-
  What the small functions of keys give: which bytes, which texts are patterns. No condition of its own.
-/
import Derived.Test.YtchfecmabhfooaaDoorTurn
import Derived.Test.YtchfecmabhfooaaDoorProg
import Derived.Test.YtchfecmabhfooaaDoorMops
set_option linter.unusedSimpArgs false
set_option linter.unusedVariables false
namespace Go.Proofs.YtchfecmabhfooaaDoor
open Go.RowKit
attribute [local irreducible] cwp lwp Exit.then Exit.inBlock Exit.noGoto wpQuiet Calls fin At AtQ Again endQ

/-! ### The plain part -/
def signR (c : Int) : Bool := (decide (97 ≤ c) && decide (c ≤ 122)) || (decide (48 ≤ c) && decide (c ≤ 57)) || decide (c = 45) || decide (c = 46) || decide (c = 47) || decide (c = 95)
def signB (c : UInt8) : Bool := signR (c.toNat : Int)
def keyOk (l : List UInt8) : Bool := decide (l.length ≤ 24) && l.all signB
def isK (l : List UInt8) : Bool := decide (l ≠ []) && keyOk l
def tab (i : Nat) : Int := if i = 0 then 288195191779622912 else 576460745860972544
def Glob (w : World) : Prop := w.cell? ⟨0, 0, none⟩ = some (.int .u64 288195191779622912) ∧ w.cell? ⟨0, 1, none⟩ = some (.int .u64 576460745860972544)
theorem Own.glob {C : Ctx} {H : List Res} {w : World} (ho : Own C H w) (h : Glob C.W) (hL : ¬ C.L 0) : Glob w := by
  have e := ho.orig.old 0 (World.block_lt_of_cell? _ _ h.1) hL
  exact ⟨(World.cell?_of_block (a := ⟨0, 0, none⟩) e).trans h.1, (World.cell?_of_block (a := ⟨0, 1, none⟩) e).trans h.2⟩
theorem Glob.cell {w : World} (h : Glob w) {i : Nat} (hi : i < 2) : w.cell? ⟨0, 0 + i * 1, none⟩ = some (.int .u64 (tab i)) := by
  match i, hi with
  | 0, _ => exact h.1
  | 1, _ => exact h.2
theorem byt_eq (l : List UInt8) (i : Nat) (h : i < l.length) : byt l i = (l[i].toNat : Int) := by simp [byt, List.getD, List.getElem?_eq_getElem h]
theorem sign_bits : ∀ c : Fin 128, decide (bits .and .u64 ((tab ((c.val : Int).fdiv (2 ^ (min (6 : Int).toNat IntKind.u8.bits))).toNat).fdiv (2 ^ (min (bits .and .u8 (c.val : Int) 63).toNat IntKind.u64.bits))) 1 = 1) = signR (c.val : Int) := by decide +kernel
theorem sign_idx : ∀ c : Fin 128, 0 ≤ (c.val : Int).fdiv (2 ^ (min (6 : Int).toNat IntKind.u8.bits)) ∧ (c.val : Int).fdiv (2 ^ (min (6 : Int).toNat IntKind.u8.bits)) < (2 : Nat) := by decide +kernel
theorem sign_and : ∀ c : Fin 128, 0 ≤ bits .and .u8 (c.val : Int) 63 := by decide +kernel
theorem sign_idx' (c : Int) (h0 : 0 ≤ c) (h1 : c < 128) : 0 ≤ c.fdiv (2 ^ (min (6 : Int).toNat IntKind.u8.bits)) ∧ c.fdiv (2 ^ (min (6 : Int).toNat IntKind.u8.bits)) < (2 : Nat) := by
  obtain ⟨k, rfl⟩ := Int.eq_ofNat_of_zero_le h0
  exact sign_idx ⟨k, by omega⟩
theorem sign_and' (c : Int) (h0 : 0 ≤ c) (h1 : c < 128) : 0 ≤ bits .and .u8 c 63 := by
  obtain ⟨k, rfl⟩ := Int.eq_ofNat_of_zero_le h0
  exact sign_and ⟨k, by omega⟩
theorem sign_bits' (c : Int) (h0 : 0 ≤ c) (h1 : c < 128) : decide (bits .and .u64 ((tab (c.fdiv (2 ^ (min (6 : Int).toNat IntKind.u8.bits))).toNat).fdiv (2 ^ (min (bits .and .u8 c 63).toNat IntKind.u64.bits))) 1 = 1) = signR c := by
  obtain ⟨k, rfl⟩ := Int.eq_ofNat_of_zero_le h0
  exact sign_bits ⟨k, by omega⟩

/-! ### The walks -/
theorem ref_sign (c : Int) (w : World) : Calls Tryd.prog 76 #[.int .u8 c] w fun e w' => e = .returned (.bool (signR c)) ∧ Below w.heap.size w w' := by
  refine calls_plain Tryd.func76 rfl Tryd.ntmps76 rfl ?_
  refine at_seq ?_
  refine at_region ?_
  refine at_do (does_assign rfl) rfl rfl ?_
  refine at_nil ?_
  refine at_then ?_
  refine at_seq ?_
  refine at_region ?_
  refine at_do (does_move rfl) rfl rfl ?_
  refine at_do (does_leq rfl rfl) rfl rfl ?_
  refine at_do (does_move rfl) rfl rfl ?_
  refine at_guardD rfl rfl (fun z0 => ?_) (fun z0 => ?_)
  refine at_on rfl rfl ?_
  refine at_do (does_move rfl) rfl rfl ?_
  refine at_on rfl rfl ?_
  refine at_do (does_leq rfl rfl) rfl rfl ?_
  refine at_do (does_pick_true rfl rfl) rfl rfl ?_
  refine at_do (does_move rfl) rfl rfl ?_
  refine at_guardD rfl rfl (fun z1 => ?_) (fun z1 => ?_)
  refine at_no rfl rfl rfl rfl ?_
  refine at_no rfl rfl rfl rfl ?_
  refine at_no rfl rfl rfl rfl ?_
  refine at_no rfl rfl rfl rfl ?_
  refine at_no rfl rfl rfl rfl ?_
  refine at_no rfl rfl rfl rfl ?_
  refine at_do (does_pick_true rfl rfl) rfl rfl ?_
  refine at_do (does_move rfl) rfl rfl ?_
  refine at_no rfl rfl rfl rfl ?_
  refine at_no rfl rfl rfl rfl ?_
  refine at_do (does_pick_true rfl rfl) rfl rfl ?_
  refine at_do (does_move rfl) rfl rfl ?_
  refine at_no rfl rfl rfl rfl ?_
  refine at_no rfl rfl rfl rfl ?_
  refine at_do (does_pick_true rfl rfl) rfl rfl ?_
  refine at_do (does_move rfl) rfl rfl ?_
  refine at_no rfl rfl rfl rfl ?_
  refine at_no rfl rfl rfl rfl ?_
  refine at_do (does_pick_true rfl rfl) rfl rfl ?_
  refine at_do (does_move rfl) rfl rfl ?_
  refine at_no rfl rfl rfl rfl ?_
  refine at_no rfl rfl rfl rfl ?_
  refine at_do (does_pick_true rfl rfl) rfl rfl ?_
  refine at_do (does_assign rfl) rfl rfl ?_
  refine at_nil ?_
  refine at_then ?_
  refine at_ret ?_
  refine at_ret1 rfl rfl rfl (fun w9 ho9 => ?_)
  rotate_left
  refine at_on rfl rfl ?_
  refine at_do (does_move rfl) rfl rfl ?_
  refine at_on rfl rfl ?_
  refine at_do (does_leq rfl rfl) rfl rfl ?_
  refine at_on rfl rfl ?_
  refine at_do (does_move rfl) rfl rfl ?_
  refine at_know (t := 12) (d := true) rfl (decide_eq_true (by omega)) ?_
  refine at_on rfl rfl ?_
  refine at_do (does_move rfl) rfl rfl ?_
  refine at_on rfl rfl ?_
  refine at_do (does_leq rfl rfl) rfl rfl ?_
  refine at_on rfl rfl ?_
  refine at_do (does_pick_true rfl rfl) rfl rfl ?_
  refine at_do (does_pick_false rfl rfl) rfl rfl ?_
  refine at_do (does_move rfl) rfl rfl ?_
  refine at_know (t := 17) (d := false) rfl (decide_eq_false (by omega)) ?_
  refine at_on rfl rfl ?_
  refine at_do (does_move rfl) rfl rfl ?_
  refine at_on rfl rfl ?_
  refine at_do (does_eql rfl rfl) rfl rfl ?_
  refine at_do (does_pick_false rfl rfl) rfl rfl ?_
  refine at_do (does_move rfl) rfl rfl ?_
  refine at_know (t := 21) (d := false) rfl (decide_eq_false (by omega)) ?_
  refine at_on rfl rfl ?_
  refine at_do (does_move rfl) rfl rfl ?_
  refine at_on rfl rfl ?_
  refine at_do (does_eql rfl rfl) rfl rfl ?_
  refine at_do (does_pick_false rfl rfl) rfl rfl ?_
  refine at_do (does_move rfl) rfl rfl ?_
  refine at_know (t := 25) (d := false) rfl (decide_eq_false (by omega)) ?_
  refine at_on rfl rfl ?_
  refine at_do (does_move rfl) rfl rfl ?_
  refine at_on rfl rfl ?_
  refine at_do (does_eql rfl rfl) rfl rfl ?_
  refine at_do (does_pick_false rfl rfl) rfl rfl ?_
  refine at_do (does_move rfl) rfl rfl ?_
  refine at_know (t := 29) (d := false) rfl (decide_eq_false (by omega)) ?_
  refine at_on rfl rfl ?_
  refine at_do (does_move rfl) rfl rfl ?_
  refine at_on rfl rfl ?_
  refine at_do (does_eql rfl rfl) rfl rfl ?_
  refine at_do (does_pick_false rfl rfl) rfl rfl ?_
  refine at_do (does_assign rfl) rfl rfl ?_
  refine at_nil ?_
  refine at_then ?_
  refine at_ret ?_
  refine at_ret1 rfl rfl rfl (fun w9 ho9 => ?_)
  rotate_left
  refine at_no rfl rfl rfl rfl ?_
  refine at_no rfl rfl rfl rfl ?_
  refine at_do (does_pick_false rfl rfl) rfl rfl ?_
  refine at_do (does_move rfl) rfl rfl ?_
  refine at_on rfl rfl ?_
  refine at_do (does_move rfl) rfl rfl ?_
  refine at_on rfl rfl ?_
  refine at_do (does_leq rfl rfl) rfl rfl ?_
  refine at_on rfl rfl ?_
  refine at_do (does_move rfl) rfl rfl ?_
  refine at_guardD rfl rfl (fun z2 => ?_) (fun z2 => ?_)
  refine at_on rfl rfl ?_
  refine at_do (does_move rfl) rfl rfl ?_
  refine at_on rfl rfl ?_
  refine at_do (does_leq rfl rfl) rfl rfl ?_
  refine at_on rfl rfl ?_
  refine at_do (does_pick_true rfl rfl) rfl rfl ?_
  refine at_do (does_pick_false rfl rfl) rfl rfl ?_
  refine at_do (does_move rfl) rfl rfl ?_
  refine at_guardD rfl rfl (fun z3 => ?_) (fun z3 => ?_)
  refine at_no rfl rfl rfl rfl ?_
  refine at_no rfl rfl rfl rfl ?_
  refine at_do (does_pick_true rfl rfl) rfl rfl ?_
  refine at_do (does_move rfl) rfl rfl ?_
  refine at_no rfl rfl rfl rfl ?_
  refine at_no rfl rfl rfl rfl ?_
  refine at_do (does_pick_true rfl rfl) rfl rfl ?_
  refine at_do (does_move rfl) rfl rfl ?_
  refine at_no rfl rfl rfl rfl ?_
  refine at_no rfl rfl rfl rfl ?_
  refine at_do (does_pick_true rfl rfl) rfl rfl ?_
  refine at_do (does_move rfl) rfl rfl ?_
  refine at_no rfl rfl rfl rfl ?_
  refine at_no rfl rfl rfl rfl ?_
  refine at_do (does_pick_true rfl rfl) rfl rfl ?_
  refine at_do (does_assign rfl) rfl rfl ?_
  refine at_nil ?_
  refine at_then ?_
  refine at_ret ?_
  refine at_ret1 rfl rfl rfl (fun w9 ho9 => ?_)
  rotate_left
  refine at_on rfl rfl ?_
  refine at_do (does_move rfl) rfl rfl ?_
  refine at_on rfl rfl ?_
  refine at_do (does_eql rfl rfl) rfl rfl ?_
  refine at_do (does_pick_false rfl rfl) rfl rfl ?_
  refine at_do (does_move rfl) rfl rfl ?_
  refine at_know (t := 21) (d := false) rfl (decide_eq_false (by omega)) ?_
  refine at_on rfl rfl ?_
  refine at_do (does_move rfl) rfl rfl ?_
  refine at_on rfl rfl ?_
  refine at_do (does_eql rfl rfl) rfl rfl ?_
  refine at_do (does_pick_false rfl rfl) rfl rfl ?_
  refine at_do (does_move rfl) rfl rfl ?_
  refine at_know (t := 25) (d := false) rfl (decide_eq_false (by omega)) ?_
  refine at_on rfl rfl ?_
  refine at_do (does_move rfl) rfl rfl ?_
  refine at_on rfl rfl ?_
  refine at_do (does_eql rfl rfl) rfl rfl ?_
  refine at_do (does_pick_false rfl rfl) rfl rfl ?_
  refine at_do (does_move rfl) rfl rfl ?_
  refine at_know (t := 29) (d := false) rfl (decide_eq_false (by omega)) ?_
  refine at_on rfl rfl ?_
  refine at_do (does_move rfl) rfl rfl ?_
  refine at_on rfl rfl ?_
  refine at_do (does_eql rfl rfl) rfl rfl ?_
  refine at_do (does_pick_false rfl rfl) rfl rfl ?_
  refine at_do (does_assign rfl) rfl rfl ?_
  refine at_nil ?_
  refine at_then ?_
  refine at_ret ?_
  refine at_ret1 rfl rfl rfl (fun w9 ho9 => ?_)
  rotate_left
  refine at_no rfl rfl rfl rfl ?_
  refine at_no rfl rfl rfl rfl ?_
  refine at_on rfl rfl ?_
  refine at_do (does_pick_false rfl rfl) rfl rfl ?_
  refine at_do (does_pick_false rfl rfl) rfl rfl ?_
  refine at_do (does_move rfl) rfl rfl ?_
  refine at_on rfl rfl ?_
  refine at_do (does_move rfl) rfl rfl ?_
  refine at_on rfl rfl ?_
  refine at_do (does_eql rfl rfl) rfl rfl ?_
  refine at_do (does_pick_false rfl rfl) rfl rfl ?_
  refine at_do (does_move rfl) rfl rfl ?_
  refine at_guardD rfl rfl (fun z4 => ?_) (fun z4 => ?_)
  refine at_no rfl rfl rfl rfl ?_
  refine at_no rfl rfl rfl rfl ?_
  refine at_do (does_pick_true rfl rfl) rfl rfl ?_
  refine at_do (does_move rfl) rfl rfl ?_
  refine at_no rfl rfl rfl rfl ?_
  refine at_no rfl rfl rfl rfl ?_
  refine at_do (does_pick_true rfl rfl) rfl rfl ?_
  refine at_do (does_move rfl) rfl rfl ?_
  refine at_no rfl rfl rfl rfl ?_
  refine at_no rfl rfl rfl rfl ?_
  refine at_do (does_pick_true rfl rfl) rfl rfl ?_
  refine at_do (does_assign rfl) rfl rfl ?_
  refine at_nil ?_
  refine at_then ?_
  refine at_ret ?_
  refine at_ret1 rfl rfl rfl (fun w9 ho9 => ?_)
  rotate_left
  refine at_on rfl rfl ?_
  refine at_do (does_move rfl) rfl rfl ?_
  refine at_on rfl rfl ?_
  refine at_do (does_eql rfl rfl) rfl rfl ?_
  refine at_do (does_pick_false rfl rfl) rfl rfl ?_
  refine at_do (does_move rfl) rfl rfl ?_
  refine at_guardD rfl rfl (fun z5 => ?_) (fun z5 => ?_)
  refine at_no rfl rfl rfl rfl ?_
  refine at_no rfl rfl rfl rfl ?_
  refine at_do (does_pick_true rfl rfl) rfl rfl ?_
  refine at_do (does_move rfl) rfl rfl ?_
  refine at_no rfl rfl rfl rfl ?_
  refine at_no rfl rfl rfl rfl ?_
  refine at_do (does_pick_true rfl rfl) rfl rfl ?_
  refine at_do (does_assign rfl) rfl rfl ?_
  refine at_nil ?_
  refine at_then ?_
  refine at_ret ?_
  refine at_ret1 rfl rfl rfl (fun w9 ho9 => ?_)
  rotate_left
  refine at_on rfl rfl ?_
  refine at_do (does_move rfl) rfl rfl ?_
  refine at_on rfl rfl ?_
  refine at_do (does_eql rfl rfl) rfl rfl ?_
  refine at_do (does_pick_false rfl rfl) rfl rfl ?_
  refine at_do (does_move rfl) rfl rfl ?_
  refine at_guardD rfl rfl (fun z6 => ?_) (fun z6 => ?_)
  refine at_no rfl rfl rfl rfl ?_
  refine at_no rfl rfl rfl rfl ?_
  refine at_do (does_pick_true rfl rfl) rfl rfl ?_
  refine at_do (does_assign rfl) rfl rfl ?_
  refine at_nil ?_
  refine at_then ?_
  refine at_ret ?_
  refine at_ret1 rfl rfl rfl (fun w9 ho9 => ?_)
  rotate_left
  refine at_on rfl rfl ?_
  refine at_do (does_move rfl) rfl rfl ?_
  refine at_on rfl rfl ?_
  refine at_do (does_eql rfl rfl) rfl rfl ?_
  refine at_do (does_pick_false rfl rfl) rfl rfl ?_
  refine at_do (does_assign rfl) rfl rfl ?_
  refine at_nil ?_
  refine at_then ?_
  refine at_ret ?_
  refine at_ret1 rfl rfl rfl (fun w9 ho9 => ?_)
  rotate_left
  all_goals
    refine ⟨ret_bool ?_, ho9.plain⟩
    rw [Bool.eq_iff_iff]; simp [signR]; omega
theorem key_sign (c : Int) (w : World) (hG : Glob w) (h0 : 0 ≤ c) (h255 : c ≤ 255) : Calls Tryd.prog 93 #[.int .u8 c] w fun e w' => e = .returned (.bool (signR c)) ∧ Below w.heap.size w w' := by
  refine calls_plain Tryd.func93 rfl Tryd.ntmps93 rfl ?_
  refine at_seq ?_
  refine at_region ?_
  refine at_do (does_assign rfl) rfl rfl ?_
  refine at_nil ?_
  refine at_then ?_
  refine at_seq ?_
  refine at_region ?_
  refine at_do (does_move rfl) rfl rfl ?_
  refine at_do (does_lss rfl rfl) rfl rfl ?_
  refine at_do (does_move rfl) rfl rfl ?_
  refine at_guardD rfl rfl (fun z0 => ?_) (fun z0 => ?_)
  refine at_on rfl rfl ?_
  refine at_do (does_move rfl) rfl rfl ?_
  refine at_on rfl rfl ?_
  refine at_do (does_shr rfl rfl (by omega)) rfl rfl ?_
  refine at_on rfl rfl ?_
  refine at_do (does_indexArr (k := 1) (by kernel_rfl) rfl rfl (sign_idx' c h0 (by omega))) rfl rfl ?_
  refine at_on rfl rfl ?_
  refine at_do (does_load_mem (by kernel_rfl) rfl (fun w ho => (ho.glob hG id).cell (by have := sign_idx' c h0 (by omega); omega))) rfl rfl ?_
  refine at_on rfl rfl ?_
  refine at_do (does_move rfl) rfl rfl ?_
  refine at_on rfl rfl ?_
  refine at_do (does_bits (by simp) rfl rfl) rfl rfl ?_
  refine at_on rfl rfl ?_
  refine at_do (does_shr rfl rfl (sign_and' c h0 (by omega))) rfl rfl ?_
  refine at_on rfl rfl ?_
  refine at_do (does_bits (by simp) rfl rfl) rfl rfl ?_
  refine at_on rfl rfl ?_
  refine at_do (does_eql rfl rfl) rfl rfl ?_
  refine at_do (does_pick_true rfl rfl) rfl rfl ?_
  refine at_do (does_assign rfl) rfl rfl ?_
  refine at_nil ?_
  refine at_then ?_
  refine at_ret ?_
  refine at_ret1 rfl rfl rfl (fun w9 ho9 => ?_)
  rotate_left
  refine at_no rfl rfl rfl rfl ?_
  refine at_no rfl rfl rfl rfl ?_
  refine at_no rfl rfl rfl rfl ?_
  refine at_no rfl rfl rfl rfl ?_
  refine at_no rfl rfl rfl rfl ?_
  refine at_no rfl rfl rfl rfl ?_
  refine at_no rfl rfl rfl rfl ?_
  refine at_no rfl rfl rfl rfl ?_
  refine at_no rfl rfl rfl rfl ?_
  refine at_do (does_pick_false rfl rfl) rfl rfl ?_
  refine at_do (does_assign rfl) rfl rfl ?_
  refine at_nil ?_
  refine at_then ?_
  refine at_ret ?_
  refine at_ret1 rfl rfl rfl (fun w9 ho9 => ?_)
  rotate_left
  · exact ⟨ret_bool (sign_bits' c h0 (by omega)), ho9.plain⟩
  · refine ⟨ret_bool ?_, ho9.plain⟩
    simp [signR]; omega
/-! A loop over the bytes: it goes on while they are such as a key may have. -/
theorem all_take_succ (l : List UInt8) (k : Nat) (h : k < l.length) : (l.take (k + 1)).all signB = ((l.take k).all signB && signR (byt l k)) := by
  rw [List.take_succ_eq_append_getElem h, List.all_append, byt_eq l k h]
  simp [signB]
theorem all_no (l : List UInt8) (k : Nat) (h : k < l.length) (hs : signR (byt l k) = false) : l.all signB = false := by
  rw [List.all_eq_false]
  exact ⟨l[k], List.getElem_mem h, by rw [byt_eq l k h] at hs; simp [signB, hs]⟩
theorem key_formed (l : List UInt8) (w : World) (hG : Glob w) : Calls Tryd.prog 77 #[.string (bs l)] w fun e w' => e = .returned (.bool (keyOk l)) ∧ Below w.heap.size w w' := by
  refine calls_plain Tryd.func77 rfl Tryd.ntmps77 rfl ?_
  refine at_seq ?_
  refine at_region ?_
  refine at_do (does_assign rfl) rfl rfl ?_
  refine at_nil ?_
  refine at_then ?_
  refine at_seq ?_
  refine at_seq ?_
  refine at_region ?_
  refine at_do (does_move rfl) rfl rfl ?_
  refine at_do (does_slen (by kernel_rfl) rfl) rfl rfl ?_
  refine at_do (does_gtr rfl rfl) rfl rfl ?_
  refine at_nil ?_
  refine at_then ?_
  refine at_condD rfl (fun z0 => ?_) (fun z0 => ?_)
  refine at_seq ?_
  refine at_region ?_
  refine at_do (does_assign rfl) rfl rfl ?_
  refine at_nil ?_
  refine at_then ?_
  refine at_ret ?_
  refine at_then_ret ?_
  refine at_ret1 rfl rfl rfl (fun w9 ho9 => ?_)
  rotate_left
  refine at_skip ?_
  refine at_then ?_
  refine at_seq ?_
  refine at_seq ?_
  refine at_region ?_
  refine at_do (does_move rfl) rfl rfl ?_
  refine at_do (does_slen (by kernel_rfl) rfl) rfl rfl ?_
  refine at_do (does_move rfl) rfl rfl ?_
  refine at_nil ?_
  refine at_then ?_
  refine at_block ?_
  rotate_left
  · refine ⟨ret_bool ?_, ho9.plain⟩
    simp [keyOk]; omega
  · refine at_loop0 (fun k : Nat => k ≤ l.length ∧ (l.take k).all signB = true) (fun k => [(0, .string (bs l)), (8, .int .i64 l.length), (9, .int .i64 k)]) (fun k => l.length - k) 0 ⟨by omega, by simp⟩ ⟨rfl, rfl, rfl, trivial⟩ ?_
    rintro k ⟨hk, hall⟩
    refine at_seq ?_
    refine at_region ?_
    refine at_do (does_lss rfl rfl) rfl rfl ?_
    refine at_nil ?_
    refine at_then ?_
    refine at_seq ?_
    refine at_condD rfl (fun z0 => ?_) (fun z0 => ?_)
    refine at_skip ?_
    refine at_then ?_
    refine at_seq ?_
    refine at_block ?_
    refine at_seq ?_
    refine at_region ?_
    refine at_do (does_move rfl) rfl rfl ?_
    refine at_do (does_assign rfl) rfl rfl ?_
    refine at_nil ?_
    refine at_then ?_
    refine at_seq ?_
    refine at_region ?_
    refine at_do (does_move rfl) rfl rfl ?_
    refine at_do (does_move rfl) rfl rfl ?_
    refine at_do (does_sidx (by kernel_rfl) rfl rfl (by omega)) rfl rfl ?_
    refine at_callv (f := 93) (enters_fn (by kernel_rfl) rfl) (fun w ho => key_sign _ w (ho.glob hG id) (byt_range _ _).1 (byt_range _ _).2) rfl rfl ?_
    refine at_do (does_not rfl) rfl rfl ?_
    refine at_nil ?_
    refine at_then ?_
    refine at_condN rfl (fun z1 => ?_) (fun z1 => ?_)
    refine at_seq ?_
    refine at_region ?_
    refine at_do (does_assign rfl) rfl rfl ?_
    refine at_nil ?_
    refine at_then ?_
    refine at_ret ?_
    refine at_inb_ret ?_
    refine at_then_ret ?_
    refine at_then_ret ?_
    refine at_inb_ret ?_
    refine at_then_ret ?_
    refine at_ret1 rfl rfl rfl (fun w9 ho9 => ?_)
    rotate_left
    refine at_skip ?_
    refine at_inb ?_
    refine at_then ?_
    refine at_region ?_
    refine at_do (does_addi rfl rfl (by omega)) rfl rfl ?_
    refine at_do (does_move rfl) rfl rfl ?_
    refine at_nil ?_
    refine at_then ?_
    rotate_left
    refine at_exit ?_
    refine at_then_exit ?_
    refine at_then_exit ?_
    refine at_inb_here ?_
    refine at_then ?_
    refine at_seq ?_
    refine at_region ?_
    refine at_do (does_assign rfl) rfl rfl ?_
    refine at_nil ?_
    refine at_then ?_
    refine at_ret ?_
    refine at_ret1 rfl rfl rfl (fun w9 ho9 => ?_)
    rotate_left
    · refine ⟨ret_bool ?_, ho9.plain⟩
      simp only [keyOk, all_no l k (by omega) z1, Bool.and_false]
    · refine at_again0 (k + 1) ⟨by omega, ?_⟩ (by omega) ⟨rfl, rfl, rfl, trivial⟩
      rw [all_take_succ l k (by omega), hall]; simpa using z1
    · refine ⟨ret_bool ?_, ho9.plain⟩
      have : k = l.length := by omega
      subst this
      rw [List.take_length] at hall
      simp [keyOk, hall]; omega
end Go.Proofs.YtchfecmabhfooaaDoor
