/-
  What the small functions of keys give: which bytes, which texts are patterns. No condition of its own.
  What the functions of keys give, the package's and the reference's. No condition of its own.
  The plain law under KeyUnder: which key begins with a pattern, told by the order of texts. No condition of its own.
  The plain law of a span: a trunk's items in order, the first ones of a range, names. No condition of its own.
  Slices of elements of one cell that lie somewhere; an append told with what it turns. No condition of its own.
  Items that lie somewhere; a trunk of which no more is looked at than may be. No condition of its own.
  A trunk of which no more is looked at than may be. No condition of its own.
-/
import Derived.Test.YtjpfebgpcokenaaDoorTurn
import Derived.Test.YtjpfebgpcokenaaDoorProg
import Derived.Test.YtjpfebgpcokenaaDoorMops
set_option linter.unusedSimpArgs false
set_option linter.unusedVariables false
namespace Go.Proofs.YtjpfebgpcokenaaDoor
open Go.RowKit
attribute [local irreducible] cwp lwp Exit.then Exit.inBlock Exit.noGoto wpQuiet Calls fin At AtQ Again endQ

/-! ### The plain part -/
def signR (c : Int) : Bool := (decide (97 ≤ c) && decide (c ≤ 122)) || (decide (48 ≤ c) && decide (c ≤ 57)) || decide (c = 45) || decide (c = 46) || decide (c = 47) || decide (c = 95)
def signB (c : UInt8) : Bool := signR (c.toNat : Int)
def keyOk (l : List UInt8) : Bool := decide (l.length ≤ 24) && l.all signB
def isK (l : List UInt8) : Bool := decide (l ≠ []) && keyOk l
def tab (i : Nat) : Int := if i = 0 then 288195191779622912 else 576460745860972544
def Glob (w : World) : Prop := w.cell? ⟨1, 0, none⟩ = some (.int .u64 288195191779622912) ∧ w.cell? ⟨1, 1, none⟩ = some (.int .u64 576460745860972544)
theorem Own.glob {C : Ctx} {H : List Res} {w : World} (ho : Own C H w) (h : Glob C.W) (hL : ¬ C.L 1) : Glob w := by
  have e := ho.orig.old 1 (World.block_lt_of_cell? _ _ h.1) hL
  exact ⟨(World.cell?_of_block (a := ⟨1, 0, none⟩) e).trans h.1, (World.cell?_of_block (a := ⟨1, 1, none⟩) e).trans h.2⟩
theorem Glob.cell {w : World} (h : Glob w) {i : Nat} (hi : i < 2) : w.cell? ⟨1, 0 + i * 1, none⟩ = some (.int .u64 (tab i)) := by
  match i, hi with
  | 0, _ => exact h.1
  | 1, _ => exact h.2
theorem byt_eq (l : List UInt8) (i : Nat) (h : i < l.length) : byt l i = (l[i].toNat : Int) := by simp [byt, List.getD, List.getElem?_eq_getElem h]
theorem sign_bits : ∀ c : Fin 128, decide (bits .and .u64 ((tab ((c.val : Int).fdiv (2 ^ (min (6 : Int).toNat IntKind.u8.bits))).toNat).fdiv (2 ^ (min (bits .and .u8 (c.val : Int) 63).toNat IntKind.u64.bits))) 1 = 1) = signR (c.val : Int) := by decide +kernel
theorem sign_idx : ∀ c : Fin 128, 0 ≤ (c.val : Int).fdiv (2 ^ (min (6 : Int).toNat IntKind.u8.bits)) ∧ (c.val : Int).fdiv (2 ^ (min (6 : Int).toNat IntKind.u8.bits)) < (2 : Nat) := by decide +kernel
theorem sign_and : ∀ c : Fin 128, 0 ≤ bits .and .u8 (c.val : Int) 63 := by decide +kernel
theorem sign_idx' (c : Int) (h0 : 0 ≤ c) (h1 : c < 128) : 0 ≤ c.fdiv (2 ^ (min (6 : Int).toNat IntKind.u8.bits)) ∧ c.fdiv (2 ^ (min (6 : Int).toNat IntKind.u8.bits)) < (2 : Nat) := by
  obtain ⟨k, rfl⟩ := Int.eq_ofNat_of_zero_le h0
  exact sign_idx ⟨k, by omega⟩
theorem sign_and' (c : Int) (h0 : 0 ≤ c) (h1 : c < 128) : 0 ≤ bits .and .u8 c 63 := by
  obtain ⟨k, rfl⟩ := Int.eq_ofNat_of_zero_le h0
  exact sign_and ⟨k, by omega⟩
theorem sign_bits' (c : Int) (h0 : 0 ≤ c) (h1 : c < 128) : decide (bits .and .u64 ((tab (c.fdiv (2 ^ (min (6 : Int).toNat IntKind.u8.bits))).toNat).fdiv (2 ^ (min (bits .and .u8 c 63).toNat IntKind.u64.bits))) 1 = 1) = signR c := by
  obtain ⟨k, rfl⟩ := Int.eq_ofNat_of_zero_le h0
  exact sign_bits ⟨k, by omega⟩

/-! ### The walks -/
theorem ref_sign (c : Int) (w : World) : Calls Tryd.prog 52 #[.int .u8 c] w fun e w' => e = .returned (.bool (signR c)) ∧ Below w.heap.size w w' := by
  refine calls_plain Tryd.func52 rfl Tryd.ntmps52 rfl ?_
  refine at_seq ?_
  refine at_region ?_
  refine at_do (does_assign rfl) rfl rfl ?_
  refine at_nil ?_
  refine at_then ?_
  refine at_seq ?_
  refine at_region ?_
  refine at_do (does_move rfl) rfl rfl ?_
  refine at_do (does_leq rfl rfl) rfl rfl ?_
  refine at_do (does_move rfl) rfl rfl ?_
  refine at_guardD rfl rfl (fun z0 => ?_) (fun z0 => ?_)
  refine at_on rfl rfl ?_
  refine at_do (does_move rfl) rfl rfl ?_
  refine at_on rfl rfl ?_
  refine at_do (does_leq rfl rfl) rfl rfl ?_
  refine at_do (does_pick_true rfl rfl) rfl rfl ?_
  refine at_do (does_move rfl) rfl rfl ?_
  refine at_guardD rfl rfl (fun z1 => ?_) (fun z1 => ?_)
  refine at_no rfl rfl rfl rfl ?_
  refine at_no rfl rfl rfl rfl ?_
  refine at_no rfl rfl rfl rfl ?_
  refine at_no rfl rfl rfl rfl ?_
  refine at_no rfl rfl rfl rfl ?_
  refine at_no rfl rfl rfl rfl ?_
  refine at_do (does_pick_true rfl rfl) rfl rfl ?_
  refine at_do (does_move rfl) rfl rfl ?_
  refine at_no rfl rfl rfl rfl ?_
  refine at_no rfl rfl rfl rfl ?_
  refine at_do (does_pick_true rfl rfl) rfl rfl ?_
  refine at_do (does_move rfl) rfl rfl ?_
  refine at_no rfl rfl rfl rfl ?_
  refine at_no rfl rfl rfl rfl ?_
  refine at_do (does_pick_true rfl rfl) rfl rfl ?_
  refine at_do (does_move rfl) rfl rfl ?_
  refine at_no rfl rfl rfl rfl ?_
  refine at_no rfl rfl rfl rfl ?_
  refine at_do (does_pick_true rfl rfl) rfl rfl ?_
  refine at_do (does_move rfl) rfl rfl ?_
  refine at_no rfl rfl rfl rfl ?_
  refine at_no rfl rfl rfl rfl ?_
  refine at_do (does_pick_true rfl rfl) rfl rfl ?_
  refine at_do (does_assign rfl) rfl rfl ?_
  refine at_nil ?_
  refine at_then ?_
  refine at_ret ?_
  refine at_ret1 rfl rfl rfl (fun w9 ho9 => ?_)
  rotate_left
  refine at_on rfl rfl ?_
  refine at_do (does_move rfl) rfl rfl ?_
  refine at_on rfl rfl ?_
  refine at_do (does_leq rfl rfl) rfl rfl ?_
  refine at_on rfl rfl ?_
  refine at_do (does_move rfl) rfl rfl ?_
  refine at_know (t := 12) (d := true) rfl (decide_eq_true (by omega)) ?_
  refine at_on rfl rfl ?_
  refine at_do (does_move rfl) rfl rfl ?_
  refine at_on rfl rfl ?_
  refine at_do (does_leq rfl rfl) rfl rfl ?_
  refine at_on rfl rfl ?_
  refine at_do (does_pick_true rfl rfl) rfl rfl ?_
  refine at_do (does_pick_false rfl rfl) rfl rfl ?_
  refine at_do (does_move rfl) rfl rfl ?_
  refine at_know (t := 17) (d := false) rfl (decide_eq_false (by omega)) ?_
  refine at_on rfl rfl ?_
  refine at_do (does_move rfl) rfl rfl ?_
  refine at_on rfl rfl ?_
  refine at_do (does_eql rfl rfl) rfl rfl ?_
  refine at_do (does_pick_false rfl rfl) rfl rfl ?_
  refine at_do (does_move rfl) rfl rfl ?_
  refine at_know (t := 21) (d := false) rfl (decide_eq_false (by omega)) ?_
  refine at_on rfl rfl ?_
  refine at_do (does_move rfl) rfl rfl ?_
  refine at_on rfl rfl ?_
  refine at_do (does_eql rfl rfl) rfl rfl ?_
  refine at_do (does_pick_false rfl rfl) rfl rfl ?_
  refine at_do (does_move rfl) rfl rfl ?_
  refine at_know (t := 25) (d := false) rfl (decide_eq_false (by omega)) ?_
  refine at_on rfl rfl ?_
  refine at_do (does_move rfl) rfl rfl ?_
  refine at_on rfl rfl ?_
  refine at_do (does_eql rfl rfl) rfl rfl ?_
  refine at_do (does_pick_false rfl rfl) rfl rfl ?_
  refine at_do (does_move rfl) rfl rfl ?_
  refine at_know (t := 29) (d := false) rfl (decide_eq_false (by omega)) ?_
  refine at_on rfl rfl ?_
  refine at_do (does_move rfl) rfl rfl ?_
  refine at_on rfl rfl ?_
  refine at_do (does_eql rfl rfl) rfl rfl ?_
  refine at_do (does_pick_false rfl rfl) rfl rfl ?_
  refine at_do (does_assign rfl) rfl rfl ?_
  refine at_nil ?_
  refine at_then ?_
  refine at_ret ?_
  refine at_ret1 rfl rfl rfl (fun w9 ho9 => ?_)
  rotate_left
  refine at_no rfl rfl rfl rfl ?_
  refine at_no rfl rfl rfl rfl ?_
  refine at_do (does_pick_false rfl rfl) rfl rfl ?_
  refine at_do (does_move rfl) rfl rfl ?_
  refine at_on rfl rfl ?_
  refine at_do (does_move rfl) rfl rfl ?_
  refine at_on rfl rfl ?_
  refine at_do (does_leq rfl rfl) rfl rfl ?_
  refine at_on rfl rfl ?_
  refine at_do (does_move rfl) rfl rfl ?_
  refine at_guardD rfl rfl (fun z2 => ?_) (fun z2 => ?_)
  refine at_on rfl rfl ?_
  refine at_do (does_move rfl) rfl rfl ?_
  refine at_on rfl rfl ?_
  refine at_do (does_leq rfl rfl) rfl rfl ?_
  refine at_on rfl rfl ?_
  refine at_do (does_pick_true rfl rfl) rfl rfl ?_
  refine at_do (does_pick_false rfl rfl) rfl rfl ?_
  refine at_do (does_move rfl) rfl rfl ?_
  refine at_guardD rfl rfl (fun z3 => ?_) (fun z3 => ?_)
  refine at_no rfl rfl rfl rfl ?_
  refine at_no rfl rfl rfl rfl ?_
  refine at_do (does_pick_true rfl rfl) rfl rfl ?_
  refine at_do (does_move rfl) rfl rfl ?_
  refine at_no rfl rfl rfl rfl ?_
  refine at_no rfl rfl rfl rfl ?_
  refine at_do (does_pick_true rfl rfl) rfl rfl ?_
  refine at_do (does_move rfl) rfl rfl ?_
  refine at_no rfl rfl rfl rfl ?_
  refine at_no rfl rfl rfl rfl ?_
  refine at_do (does_pick_true rfl rfl) rfl rfl ?_
  refine at_do (does_move rfl) rfl rfl ?_
  refine at_no rfl rfl rfl rfl ?_
  refine at_no rfl rfl rfl rfl ?_
  refine at_do (does_pick_true rfl rfl) rfl rfl ?_
  refine at_do (does_assign rfl) rfl rfl ?_
  refine at_nil ?_
  refine at_then ?_
  refine at_ret ?_
  refine at_ret1 rfl rfl rfl (fun w9 ho9 => ?_)
  rotate_left
  refine at_on rfl rfl ?_
  refine at_do (does_move rfl) rfl rfl ?_
  refine at_on rfl rfl ?_
  refine at_do (does_eql rfl rfl) rfl rfl ?_
  refine at_do (does_pick_false rfl rfl) rfl rfl ?_
  refine at_do (does_move rfl) rfl rfl ?_
  refine at_know (t := 21) (d := false) rfl (decide_eq_false (by omega)) ?_
  refine at_on rfl rfl ?_
  refine at_do (does_move rfl) rfl rfl ?_
  refine at_on rfl rfl ?_
  refine at_do (does_eql rfl rfl) rfl rfl ?_
  refine at_do (does_pick_false rfl rfl) rfl rfl ?_
  refine at_do (does_move rfl) rfl rfl ?_
  refine at_know (t := 25) (d := false) rfl (decide_eq_false (by omega)) ?_
  refine at_on rfl rfl ?_
  refine at_do (does_move rfl) rfl rfl ?_
  refine at_on rfl rfl ?_
  refine at_do (does_eql rfl rfl) rfl rfl ?_
  refine at_do (does_pick_false rfl rfl) rfl rfl ?_
  refine at_do (does_move rfl) rfl rfl ?_
  refine at_know (t := 29) (d := false) rfl (decide_eq_false (by omega)) ?_
  refine at_on rfl rfl ?_
  refine at_do (does_move rfl) rfl rfl ?_
  refine at_on rfl rfl ?_
  refine at_do (does_eql rfl rfl) rfl rfl ?_
  refine at_do (does_pick_false rfl rfl) rfl rfl ?_
  refine at_do (does_assign rfl) rfl rfl ?_
  refine at_nil ?_
  refine at_then ?_
  refine at_ret ?_
  refine at_ret1 rfl rfl rfl (fun w9 ho9 => ?_)
  rotate_left
  refine at_no rfl rfl rfl rfl ?_
  refine at_no rfl rfl rfl rfl ?_
  refine at_on rfl rfl ?_
  refine at_do (does_pick_false rfl rfl) rfl rfl ?_
  refine at_do (does_pick_false rfl rfl) rfl rfl ?_
  refine at_do (does_move rfl) rfl rfl ?_
  refine at_on rfl rfl ?_
  refine at_do (does_move rfl) rfl rfl ?_
  refine at_on rfl rfl ?_
  refine at_do (does_eql rfl rfl) rfl rfl ?_
  refine at_do (does_pick_false rfl rfl) rfl rfl ?_
  refine at_do (does_move rfl) rfl rfl ?_
  refine at_guardD rfl rfl (fun z4 => ?_) (fun z4 => ?_)
  refine at_no rfl rfl rfl rfl ?_
  refine at_no rfl rfl rfl rfl ?_
  refine at_do (does_pick_true rfl rfl) rfl rfl ?_
  refine at_do (does_move rfl) rfl rfl ?_
  refine at_no rfl rfl rfl rfl ?_
  refine at_no rfl rfl rfl rfl ?_
  refine at_do (does_pick_true rfl rfl) rfl rfl ?_
  refine at_do (does_move rfl) rfl rfl ?_
  refine at_no rfl rfl rfl rfl ?_
  refine at_no rfl rfl rfl rfl ?_
  refine at_do (does_pick_true rfl rfl) rfl rfl ?_
  refine at_do (does_assign rfl) rfl rfl ?_
  refine at_nil ?_
  refine at_then ?_
  refine at_ret ?_
  refine at_ret1 rfl rfl rfl (fun w9 ho9 => ?_)
  rotate_left
  refine at_on rfl rfl ?_
  refine at_do (does_move rfl) rfl rfl ?_
  refine at_on rfl rfl ?_
  refine at_do (does_eql rfl rfl) rfl rfl ?_
  refine at_do (does_pick_false rfl rfl) rfl rfl ?_
  refine at_do (does_move rfl) rfl rfl ?_
  refine at_guardD rfl rfl (fun z5 => ?_) (fun z5 => ?_)
  refine at_no rfl rfl rfl rfl ?_
  refine at_no rfl rfl rfl rfl ?_
  refine at_do (does_pick_true rfl rfl) rfl rfl ?_
  refine at_do (does_move rfl) rfl rfl ?_
  refine at_no rfl rfl rfl rfl ?_
  refine at_no rfl rfl rfl rfl ?_
  refine at_do (does_pick_true rfl rfl) rfl rfl ?_
  refine at_do (does_assign rfl) rfl rfl ?_
  refine at_nil ?_
  refine at_then ?_
  refine at_ret ?_
  refine at_ret1 rfl rfl rfl (fun w9 ho9 => ?_)
  rotate_left
  refine at_on rfl rfl ?_
  refine at_do (does_move rfl) rfl rfl ?_
  refine at_on rfl rfl ?_
  refine at_do (does_eql rfl rfl) rfl rfl ?_
  refine at_do (does_pick_false rfl rfl) rfl rfl ?_
  refine at_do (does_move rfl) rfl rfl ?_
  refine at_guardD rfl rfl (fun z6 => ?_) (fun z6 => ?_)
  refine at_no rfl rfl rfl rfl ?_
  refine at_no rfl rfl rfl rfl ?_
  refine at_do (does_pick_true rfl rfl) rfl rfl ?_
  refine at_do (does_assign rfl) rfl rfl ?_
  refine at_nil ?_
  refine at_then ?_
  refine at_ret ?_
  refine at_ret1 rfl rfl rfl (fun w9 ho9 => ?_)
  rotate_left
  refine at_on rfl rfl ?_
  refine at_do (does_move rfl) rfl rfl ?_
  refine at_on rfl rfl ?_
  refine at_do (does_eql rfl rfl) rfl rfl ?_
  refine at_do (does_pick_false rfl rfl) rfl rfl ?_
  refine at_do (does_assign rfl) rfl rfl ?_
  refine at_nil ?_
  refine at_then ?_
  refine at_ret ?_
  refine at_ret1 rfl rfl rfl (fun w9 ho9 => ?_)
  rotate_left
  all_goals
    refine ⟨ret_bool ?_, ho9.plain⟩
    rw [Bool.eq_iff_iff]; simp [signR]; omega
theorem key_sign (c : Int) (w : World) (hG : Glob w) (h0 : 0 ≤ c) (h255 : c ≤ 255) : Calls Tryd.prog 94 #[.int .u8 c] w fun e w' => e = .returned (.bool (signR c)) ∧ Below w.heap.size w w' := by
  refine calls_plain Tryd.func94 rfl Tryd.ntmps94 rfl ?_
  refine at_seq ?_
  refine at_region ?_
  refine at_do (does_assign rfl) rfl rfl ?_
  refine at_nil ?_
  refine at_then ?_
  refine at_seq ?_
  refine at_region ?_
  refine at_do (does_move rfl) rfl rfl ?_
  refine at_do (does_lss rfl rfl) rfl rfl ?_
  refine at_do (does_move rfl) rfl rfl ?_
  refine at_guardD rfl rfl (fun z0 => ?_) (fun z0 => ?_)
  refine at_on rfl rfl ?_
  refine at_do (does_move rfl) rfl rfl ?_
  refine at_on rfl rfl ?_
  refine at_do (does_shr rfl rfl (by omega)) rfl rfl ?_
  refine at_on rfl rfl ?_
  refine at_do (does_indexArr (k := 1) (by kernel_rfl) rfl rfl (sign_idx' c h0 (by omega))) rfl rfl ?_
  refine at_on rfl rfl ?_
  refine at_do (does_load_mem (by kernel_rfl) rfl (fun w ho => (ho.glob hG id).cell (by have := sign_idx' c h0 (by omega); omega))) rfl rfl ?_
  refine at_on rfl rfl ?_
  refine at_do (does_move rfl) rfl rfl ?_
  refine at_on rfl rfl ?_
  refine at_do (does_bits (by simp) rfl rfl) rfl rfl ?_
  refine at_on rfl rfl ?_
  refine at_do (does_shr rfl rfl (sign_and' c h0 (by omega))) rfl rfl ?_
  refine at_on rfl rfl ?_
  refine at_do (does_bits (by simp) rfl rfl) rfl rfl ?_
  refine at_on rfl rfl ?_
  refine at_do (does_eql rfl rfl) rfl rfl ?_
  refine at_do (does_pick_true rfl rfl) rfl rfl ?_
  refine at_do (does_assign rfl) rfl rfl ?_
  refine at_nil ?_
  refine at_then ?_
  refine at_ret ?_
  refine at_ret1 rfl rfl rfl (fun w9 ho9 => ?_)
  rotate_left
  refine at_no rfl rfl rfl rfl ?_
  refine at_no rfl rfl rfl rfl ?_
  refine at_no rfl rfl rfl rfl ?_
  refine at_no rfl rfl rfl rfl ?_
  refine at_no rfl rfl rfl rfl ?_
  refine at_no rfl rfl rfl rfl ?_
  refine at_no rfl rfl rfl rfl ?_
  refine at_no rfl rfl rfl rfl ?_
  refine at_no rfl rfl rfl rfl ?_
  refine at_do (does_pick_false rfl rfl) rfl rfl ?_
  refine at_do (does_assign rfl) rfl rfl ?_
  refine at_nil ?_
  refine at_then ?_
  refine at_ret ?_
  refine at_ret1 rfl rfl rfl (fun w9 ho9 => ?_)
  rotate_left
  · exact ⟨ret_bool (sign_bits' c h0 (by omega)), ho9.plain⟩
  · refine ⟨ret_bool ?_, ho9.plain⟩
    simp [signR]; omega
/-! A loop over the bytes: it goes on while they are such as a key may have. -/
theorem all_take_succ (l : List UInt8) (k : Nat) (h : k < l.length) : (l.take (k + 1)).all signB = ((l.take k).all signB && signR (byt l k)) := by
  rw [List.take_succ_eq_append_getElem h, List.all_append, byt_eq l k h]
  simp [signB]
theorem all_no (l : List UInt8) (k : Nat) (h : k < l.length) (hs : signR (byt l k) = false) : l.all signB = false := by
  rw [List.all_eq_false]
  exact ⟨l[k], List.getElem_mem h, by rw [byt_eq l k h] at hs; simp [signB, hs]⟩
theorem key_formed (l : List UInt8) (w : World) (hG : Glob w) : Calls Tryd.prog 77 #[.string (bs l)] w fun e w' => e = .returned (.bool (keyOk l)) ∧ Below w.heap.size w w' := by
  refine calls_plain Tryd.func77 rfl Tryd.ntmps77 rfl ?_
  refine at_seq ?_
  refine at_region ?_
  refine at_do (does_assign rfl) rfl rfl ?_
  refine at_nil ?_
  refine at_then ?_
  refine at_seq ?_
  refine at_seq ?_
  refine at_region ?_
  refine at_do (does_move rfl) rfl rfl ?_
  refine at_do (does_slen (by kernel_rfl) rfl) rfl rfl ?_
  refine at_do (does_gtr rfl rfl) rfl rfl ?_
  refine at_nil ?_
  refine at_then ?_
  refine at_condD rfl (fun z0 => ?_) (fun z0 => ?_)
  refine at_seq ?_
  refine at_region ?_
  refine at_do (does_assign rfl) rfl rfl ?_
  refine at_nil ?_
  refine at_then ?_
  refine at_ret ?_
  refine at_then_ret ?_
  refine at_ret1 rfl rfl rfl (fun w9 ho9 => ?_)
  rotate_left
  refine at_skip ?_
  refine at_then ?_
  refine at_seq ?_
  refine at_seq ?_
  refine at_region ?_
  refine at_do (does_move rfl) rfl rfl ?_
  refine at_do (does_slen (by kernel_rfl) rfl) rfl rfl ?_
  refine at_do (does_move rfl) rfl rfl ?_
  refine at_nil ?_
  refine at_then ?_
  refine at_block ?_
  rotate_left
  · refine ⟨ret_bool ?_, ho9.plain⟩
    simp [keyOk]; omega
  · refine at_loop0 (fun k : Nat => k ≤ l.length ∧ (l.take k).all signB = true) (fun k => [(0, .string (bs l)), (8, .int .i64 l.length), (9, .int .i64 k)]) (fun k => l.length - k) 0 ⟨by omega, by simp⟩ ⟨rfl, rfl, rfl, trivial⟩ ?_
    rintro k ⟨hk, hall⟩
    refine at_seq ?_
    refine at_region ?_
    refine at_do (does_lss rfl rfl) rfl rfl ?_
    refine at_nil ?_
    refine at_then ?_
    refine at_seq ?_
    refine at_condD rfl (fun z0 => ?_) (fun z0 => ?_)
    refine at_skip ?_
    refine at_then ?_
    refine at_seq ?_
    refine at_block ?_
    refine at_seq ?_
    refine at_region ?_
    refine at_do (does_move rfl) rfl rfl ?_
    refine at_do (does_assign rfl) rfl rfl ?_
    refine at_nil ?_
    refine at_then ?_
    refine at_seq ?_
    refine at_region ?_
    refine at_do (does_move rfl) rfl rfl ?_
    refine at_do (does_move rfl) rfl rfl ?_
    refine at_do (does_sidx (by kernel_rfl) rfl rfl (by omega)) rfl rfl ?_
    refine at_callv (f := 94) (enters_fn (by kernel_rfl) rfl) (fun w ho => key_sign _ w (ho.glob hG id) (byt_range _ _).1 (byt_range _ _).2) rfl rfl ?_
    refine at_do (does_not rfl) rfl rfl ?_
    refine at_nil ?_
    refine at_then ?_
    refine at_condN rfl (fun z1 => ?_) (fun z1 => ?_)
    refine at_seq ?_
    refine at_region ?_
    refine at_do (does_assign rfl) rfl rfl ?_
    refine at_nil ?_
    refine at_then ?_
    refine at_ret ?_
    refine at_inb_ret ?_
    refine at_then_ret ?_
    refine at_then_ret ?_
    refine at_inb_ret ?_
    refine at_then_ret ?_
    refine at_ret1 rfl rfl rfl (fun w9 ho9 => ?_)
    rotate_left
    refine at_skip ?_
    refine at_inb ?_
    refine at_then ?_
    refine at_region ?_
    refine at_do (does_addi rfl rfl (by omega)) rfl rfl ?_
    refine at_do (does_move rfl) rfl rfl ?_
    refine at_nil ?_
    refine at_then ?_
    rotate_left
    refine at_exit ?_
    refine at_then_exit ?_
    refine at_then_exit ?_
    refine at_inb_here ?_
    refine at_then ?_
    refine at_seq ?_
    refine at_region ?_
    refine at_do (does_assign rfl) rfl rfl ?_
    refine at_nil ?_
    refine at_then ?_
    refine at_ret ?_
    refine at_ret1 rfl rfl rfl (fun w9 ho9 => ?_)
    rotate_left
    · refine ⟨ret_bool ?_, ho9.plain⟩
      simp only [keyOk, all_no l k (by omega) z1, Bool.and_false]
    · refine at_again0 (k + 1) ⟨by omega, ?_⟩ (by omega) ⟨rfl, rfl, rfl, trivial⟩
      rw [all_take_succ l k (by omega), hall]; simpa using z1
    · refine ⟨ret_bool ?_, ho9.plain⟩
      have : k = l.length := by omega
      subst this
      rw [List.take_length] at hall
      simp [keyOk, hall]; omega
end Go.Proofs.YtjpfebgpcokenaaDoor
set_option linter.unusedSimpArgs false
set_option linter.unusedVariables false
namespace Go.Proofs.YtjpfebgpcokenaaDoor
open Go.RowKit
attribute [local irreducible] cwp lwp Exit.then Exit.inBlock Exit.noGoto wpQuiet Calls fin At AtQ Again endQ

/-! ### The plain part -/
def beg (s p : List UInt8) : Bool := decide (p.length ≤ s.length) && decide (s.take p.length = p)
def bucket (k : List UInt8) : Int := if isK k then byt k 0 % 16 else -1
/-- In the range from a to b. -/
def inR (k a b : List UInt8) : Bool := isK k && keyOk a && keyOk b && !Op.bytesLess k a && (decide (b = []) || Op.bytesLess k b)
/-- The end of a pattern's range. -/
theorem isK_pos {l : List UInt8} (h : isK l = true) : 0 < l.length := by
  unfold isK at h
  cases l with
  | nil => simp at h
  | cons a l => simp
theorem isK_of {l : List UInt8} : isK l = (decide (0 < l.length) && keyOk l) := by
  unfold isK
  congr 1
  rw [Bool.eq_iff_iff]
  simp [List.length_pos_iff]

/-! ### The walks -/
theorem ref_Pattern (l : List UInt8) (w : World) (hl : l.length ≤ 100000) : Calls Tryd.prog 32 #[.string (bs l)] w fun e w' => e = .returned (.bool (keyOk l)) ∧ Below w.heap.size w w' := by
  refine calls_plain Tryd.func32 rfl Tryd.ntmps32 rfl ?_
  refine at_seq ?_
  refine at_region ?_
  refine at_do (does_assign rfl) rfl rfl ?_
  refine at_nil ?_
  refine at_then ?_
  refine at_seq ?_
  refine at_seq ?_
  refine at_region ?_
  refine at_do (does_assign rfl) rfl rfl ?_
  refine at_nil ?_
  refine at_then ?_
  refine at_block ?_
  rotate_left
  · refine at_loop0 (fun k : Nat => k ≤ l.length ∧ (l.take k).all signB = true) (fun k => [(0, .string (bs l)), (3, .int .i64 k)]) (fun k => l.length - k) 0 ⟨by omega, by simp⟩ ⟨rfl, rfl, trivial⟩ ?_
    rintro k ⟨hk, hall⟩
    refine at_seq ?_
    refine at_seq ?_
    refine at_region ?_
    refine at_do (does_move rfl) rfl rfl ?_
    refine at_do (does_move rfl) rfl rfl ?_
    refine at_do (does_slen (by kernel_rfl) rfl) rfl rfl ?_
    refine at_do (does_lss rfl rfl) rfl rfl ?_
    refine at_nil ?_
    refine at_then ?_
    refine at_condD rfl (fun z0 => ?_) (fun z0 => ?_)
    refine at_skip ?_
    refine at_then ?_
    refine at_seq ?_
    refine at_block ?_
    refine at_seq ?_
    refine at_region ?_
    refine at_do (does_move rfl) rfl rfl ?_
    refine at_do (does_move rfl) rfl rfl ?_
    refine at_do (does_sidx (by kernel_rfl) rfl rfl (by omega)) rfl rfl ?_
    refine at_callv (f := 52) (enters_fn (by kernel_rfl) rfl) (fun w ho => ref_sign _ w) rfl rfl ?_
    refine at_do (does_not rfl) rfl rfl ?_
    refine at_nil ?_
    refine at_then ?_
    refine at_condN rfl (fun z1 => ?_) (fun z1 => ?_)
    refine at_seq ?_
    refine at_region ?_
    refine at_do (does_assign rfl) rfl rfl ?_
    refine at_nil ?_
    refine at_then ?_
    refine at_ret ?_
    refine at_inb_ret ?_
    refine at_then_ret ?_
    refine at_then_ret ?_
    refine at_inb_ret ?_
    refine at_then_ret ?_
    refine at_ret1 rfl rfl rfl (fun w9 ho9 => ?_)
    rotate_left
    refine at_skip ?_
    refine at_inb ?_
    refine at_then ?_
    refine at_region ?_
    refine at_do (does_move rfl) rfl rfl ?_
    refine at_do (does_addi rfl rfl (by omega)) rfl rfl ?_
    refine at_do (does_assign rfl) rfl rfl ?_
    refine at_nil ?_
    refine at_then ?_
    rotate_left
    refine at_exit ?_
    refine at_then_exit ?_
    refine at_then_exit ?_
    refine at_inb_here ?_
    refine at_then ?_
    refine at_seq ?_
    refine at_region ?_
    refine at_do (does_move rfl) rfl rfl ?_
    refine at_do (does_slen (by kernel_rfl) rfl) rfl rfl ?_
    refine at_do (does_leq rfl rfl) rfl rfl ?_
    refine at_do (does_assign rfl) rfl rfl ?_
    refine at_nil ?_
    refine at_then ?_
    refine at_ret ?_
    refine at_ret1 rfl rfl rfl (fun w9 ho9 => ?_)
    rotate_left
    · refine ⟨ret_bool ?_, ho9.plain⟩
      simp only [keyOk, all_no l k (by omega) z1, Bool.and_false]
    · refine at_again0 (k + 1) ⟨by omega, ?_⟩ (by omega) ⟨rfl, rfl, trivial⟩
      rw [all_take_succ l k (by omega), hall]; simpa using z1
    · refine ⟨ret_bool ?_, ho9.plain⟩
      have : k = l.length := by omega
      subst this
      rw [List.take_length] at hall
      rw [Bool.eq_iff_iff]; simp [keyOk, hall]; omega
theorem ref_Is (l : List UInt8) (w : World) (hl : l.length ≤ 100000) : Calls Tryd.prog 60 #[.string (bs l)] w fun e w' => e = .returned (.bool (isK l)) ∧ Below w.heap.size w w' := by
  refine calls_plain Tryd.func60 rfl Tryd.ntmps60 rfl ?_
  refine at_seq ?_
  refine at_region ?_
  refine at_do (does_assign rfl) rfl rfl ?_
  refine at_nil ?_
  refine at_then ?_
  refine at_seq ?_
  refine at_region ?_
  refine at_do (does_move rfl) rfl rfl ?_
  refine at_do (does_slen (by kernel_rfl) rfl) rfl rfl ?_
  refine at_do (does_gtr rfl rfl) rfl rfl ?_
  refine at_do (does_move rfl) rfl rfl ?_
  refine at_guardD rfl rfl (fun z0 => ?_) (fun z0 => ?_)
  refine at_on rfl rfl ?_
  refine at_do (does_move rfl) rfl rfl ?_
  refine at_on rfl rfl ?_
  refine at_callv (f := 32) (enters_fn (by kernel_rfl) rfl) (fun w ho => ref_Pattern _ w hl) rfl rfl ?_
  refine at_do (does_pick_true rfl rfl) rfl rfl ?_
  refine at_do (does_assign rfl) rfl rfl ?_
  refine at_nil ?_
  refine at_then ?_
  refine at_ret ?_
  refine at_ret1 rfl rfl rfl (fun w9 ho9 => ?_)
  rotate_left
  refine at_no rfl rfl rfl rfl ?_
  refine at_no rfl rfl rfl rfl ?_
  refine at_do (does_pick_false rfl rfl) rfl rfl ?_
  refine at_do (does_assign rfl) rfl rfl ?_
  refine at_nil ?_
  refine at_then ?_
  refine at_ret ?_
  refine at_ret1 rfl rfl rfl (fun w9 ho9 => ?_)
  rotate_left
  all_goals
    refine ⟨ret_bool ?_, ho9.plain⟩
    rw [isK_of]; simp; omega
theorem key_Is (l : List UInt8) (w : World) (hG : Glob w) : Calls Tryd.prog 107 #[.string (bs l)] w fun e w' => e = .returned (.bool (isK l)) ∧ Below w.heap.size w w' := by
  refine calls_plain Tryd.func107 rfl Tryd.ntmps107 rfl ?_
  refine at_seq ?_
  refine at_region ?_
  refine at_do (does_assign rfl) rfl rfl ?_
  refine at_nil ?_
  refine at_then ?_
  refine at_seq ?_
  refine at_region ?_
  refine at_do (does_move rfl) rfl rfl ?_
  refine at_do (does_sneq rfl rfl) rfl rfl ?_
  refine at_do (does_move rfl) rfl rfl ?_
  refine at_guardD rfl rfl (fun z0 => ?_) (fun z0 => ?_)
  refine at_on rfl rfl ?_
  refine at_do (does_move rfl) rfl rfl ?_
  refine at_on rfl rfl ?_
  refine at_callv (f := 77) (enters_fn (by kernel_rfl) rfl) (fun w ho => key_formed _ w (ho.glob hG id)) rfl rfl ?_
  refine at_do (does_pick_true rfl rfl) rfl rfl ?_
  refine at_do (does_assign rfl) rfl rfl ?_
  refine at_nil ?_
  refine at_then ?_
  refine at_ret ?_
  refine at_ret1 rfl rfl rfl (fun w9 ho9 => ?_)
  rotate_left
  refine at_no rfl rfl rfl rfl ?_
  refine at_no rfl rfl rfl rfl ?_
  refine at_do (does_pick_false rfl rfl) rfl rfl ?_
  refine at_do (does_assign rfl) rfl rfl ?_
  refine at_nil ?_
  refine at_then ?_
  refine at_ret ?_
  refine at_ret1 rfl rfl rfl (fun w9 ho9 => ?_)
  rotate_left
  all_goals
    refine ⟨ret_bool ?_, ho9.plain⟩
    simp_all [isK]
theorem key_Pattern (l : List UInt8) (w : World) (hG : Glob w) : Calls Tryd.prog 63 #[.string (bs l)] w fun e w' => e = .returned (.bool (keyOk l)) ∧ Below w.heap.size w w' := by
  refine calls_plain Tryd.func63 rfl Tryd.ntmps63 rfl ?_
  refine at_seq ?_
  refine at_region ?_
  refine at_do (does_assign rfl) rfl rfl ?_
  refine at_nil ?_
  refine at_then ?_
  refine at_seq ?_
  refine at_region ?_
  refine at_do (does_move rfl) rfl rfl ?_
  refine at_callv (f := 77) (enters_fn (by kernel_rfl) rfl) (fun w ho => key_formed _ w (ho.glob hG id)) rfl rfl ?_
  refine at_do (does_assign rfl) rfl rfl ?_
  refine at_nil ?_
  refine at_then ?_
  refine at_ret ?_
  refine at_ret1 rfl rfl rfl (fun w9 ho9 => ?_)
  rotate_left
  exact ⟨rfl, ho9.plain⟩
theorem ref_Begins (s p : List UInt8) (w : World) : Calls Tryd.prog 19 #[.string (bs s), .string (bs p)] w fun e w' => e = .returned (.bool (beg s p)) ∧ Below w.heap.size w w' := by
  refine calls_plain Tryd.func19 rfl Tryd.ntmps19 rfl ?_
  refine at_seq ?_
  refine at_region ?_
  refine at_do (does_assign rfl) rfl rfl ?_
  refine at_nil ?_
  refine at_then ?_
  refine at_seq ?_
  refine at_region ?_
  refine at_do (does_move rfl) rfl rfl ?_
  refine at_do (does_slen (by kernel_rfl) rfl) rfl rfl ?_
  refine at_do (does_move rfl) rfl rfl ?_
  refine at_do (does_slen (by kernel_rfl) rfl) rfl rfl ?_
  refine at_do (does_geq rfl rfl) rfl rfl ?_
  refine at_do (does_move rfl) rfl rfl ?_
  refine at_guardD rfl rfl (fun z0 => ?_) (fun z0 => ?_)
  refine at_on rfl rfl ?_
  refine at_do (does_move rfl) rfl rfl ?_
  refine at_on rfl rfl ?_
  refine at_do (does_move rfl) rfl rfl ?_
  refine at_on rfl rfl ?_
  refine at_do (does_slen (by kernel_rfl) rfl) rfl rfl ?_
  refine at_on rfl rfl ?_
  refine at_do (does_sslice_hi (by kernel_rfl) rfl rfl (by omega)) rfl rfl ?_
  refine at_on rfl rfl ?_
  refine at_do (does_move rfl) rfl rfl ?_
  refine at_on rfl rfl ?_
  refine at_do (does_seql rfl rfl) rfl rfl ?_
  refine at_do (does_pick_true rfl rfl) rfl rfl ?_
  refine at_do (does_assign rfl) rfl rfl ?_
  refine at_nil ?_
  refine at_then ?_
  refine at_ret ?_
  refine at_ret1 rfl rfl rfl (fun w9 ho9 => ?_)
  rotate_left
  refine at_no rfl rfl rfl rfl ?_
  refine at_no rfl rfl rfl rfl ?_
  refine at_no rfl rfl rfl rfl ?_
  refine at_no rfl rfl rfl rfl ?_
  refine at_no rfl rfl rfl rfl ?_
  refine at_no rfl rfl rfl rfl ?_
  refine at_do (does_pick_false rfl rfl) rfl rfl ?_
  refine at_do (does_assign rfl) rfl rfl ?_
  refine at_nil ?_
  refine at_then ?_
  refine at_ret ?_
  refine at_ret1 rfl rfl rfl (fun w9 ho9 => ?_)
  rotate_left
  all_goals
    refine ⟨ret_bool ?_, ho9.plain⟩
    simp [beg]; omega
theorem lite_HasPrefix (s p : List UInt8) (w : World) : Calls Tryd.prog 66 #[.string (bs s), .string (bs p)] w fun e w' => e = .returned (.bool (beg s p)) ∧ Below w.heap.size w w' := by
  refine calls_plain Tryd.func66 rfl Tryd.ntmps66 rfl ?_
  refine at_seq ?_
  refine at_region ?_
  refine at_do (does_assign rfl) rfl rfl ?_
  refine at_nil ?_
  refine at_then ?_
  refine at_seq ?_
  refine at_region ?_
  refine at_do (does_move rfl) rfl rfl ?_
  refine at_do (does_slen (by kernel_rfl) rfl) rfl rfl ?_
  refine at_do (does_move rfl) rfl rfl ?_
  refine at_do (does_slen (by kernel_rfl) rfl) rfl rfl ?_
  refine at_do (does_geq rfl rfl) rfl rfl ?_
  refine at_do (does_move rfl) rfl rfl ?_
  refine at_guardD rfl rfl (fun z0 => ?_) (fun z0 => ?_)
  refine at_on rfl rfl ?_
  refine at_do (does_move rfl) rfl rfl ?_
  refine at_on rfl rfl ?_
  refine at_do (does_move rfl) rfl rfl ?_
  refine at_on rfl rfl ?_
  refine at_do (does_slen (by kernel_rfl) rfl) rfl rfl ?_
  refine at_on rfl rfl ?_
  refine at_do (does_sslice_hi (by kernel_rfl) rfl rfl (by omega)) rfl rfl ?_
  refine at_on rfl rfl ?_
  refine at_do (does_move rfl) rfl rfl ?_
  refine at_on rfl rfl ?_
  refine at_do (does_seql rfl rfl) rfl rfl ?_
  refine at_do (does_pick_true rfl rfl) rfl rfl ?_
  refine at_do (does_assign rfl) rfl rfl ?_
  refine at_nil ?_
  refine at_then ?_
  refine at_ret ?_
  refine at_ret1 rfl rfl rfl (fun w9 ho9 => ?_)
  rotate_left
  refine at_no rfl rfl rfl rfl ?_
  refine at_no rfl rfl rfl rfl ?_
  refine at_no rfl rfl rfl rfl ?_
  refine at_no rfl rfl rfl rfl ?_
  refine at_no rfl rfl rfl rfl ?_
  refine at_no rfl rfl rfl rfl ?_
  refine at_do (does_pick_false rfl rfl) rfl rfl ?_
  refine at_do (does_assign rfl) rfl rfl ?_
  refine at_nil ?_
  refine at_then ?_
  refine at_ret ?_
  refine at_ret1 rfl rfl rfl (fun w9 ho9 => ?_)
  rotate_left
  all_goals
    refine ⟨ret_bool ?_, ho9.plain⟩
    simp [beg]; omega
theorem HasPrefix (s p : List UInt8) (w : World) : Calls Tryd.prog 40 #[.string (bs s), .string (bs p)] w fun e w' => e = .returned (.bool (beg s p)) ∧ Below w.heap.size w w' := by
  refine calls_plain Tryd.func40 rfl Tryd.ntmps40 rfl ?_
  refine at_seq ?_
  refine at_region ?_
  refine at_do (does_assign rfl) rfl rfl ?_
  refine at_nil ?_
  refine at_then ?_
  refine at_seq ?_
  refine at_region ?_
  refine at_do (does_move rfl) rfl rfl ?_
  refine at_do (does_move rfl) rfl rfl ?_
  refine at_callv (f := 66) (enters_fn (by kernel_rfl) rfl) (fun w ho => lite_HasPrefix _ _ w) rfl rfl ?_
  refine at_do (does_assign rfl) rfl rfl ?_
  refine at_nil ?_
  refine at_then ?_
  refine at_ret ?_
  refine at_ret1 rfl rfl rfl (fun w9 ho9 => ?_)
  rotate_left
  exact ⟨rfl, ho9.plain⟩
theorem key_Bucket (k : List UInt8) (w : World) (hG : Glob w) : Calls Tryd.prog 93 #[.string (bs k)] w fun e w' => e = .returned (.int .i64 (bucket k)) ∧ Below w.heap.size w w' := by
  refine calls_plain Tryd.func93 rfl Tryd.ntmps93 rfl ?_
  have hr := byt_range k 0
  have hp : isK k = true → 0 < k.length := isK_pos
  refine at_seq ?_
  refine at_region ?_
  refine at_do (does_assign rfl) rfl rfl ?_
  refine at_nil ?_
  refine at_then ?_
  refine at_seq ?_
  refine at_seq ?_
  refine at_region ?_
  refine at_do (does_move rfl) rfl rfl ?_
  refine at_callv (f := 107) (enters_fn (by kernel_rfl) rfl) (fun w ho => key_Is _ w (ho.glob hG id)) rfl rfl ?_
  refine at_do (does_not rfl) rfl rfl ?_
  refine at_nil ?_
  refine at_then ?_
  refine at_condN rfl (fun z0 => ?_) (fun z0 => ?_)
  refine at_seq ?_
  refine at_region ?_
  refine at_do (does_assign rfl) rfl rfl ?_
  refine at_nil ?_
  refine at_then ?_
  refine at_ret ?_
  refine at_then_ret ?_
  refine at_ret1 rfl rfl rfl (fun w9 ho9 => ?_)
  rotate_left
  refine at_skip ?_
  refine at_then ?_
  refine at_seq ?_
  refine at_region ?_
  refine at_do (does_move rfl) rfl rfl ?_
  refine at_do (does_sidx (by kernel_rfl) rfl rfl (by (have := hp (by assumption); simp; omega))) rfl rfl ?_
  refine at_do (does_conv8 (by kernel_rfl) (by kernel_rfl) rfl (by (have := hp (by assumption); simp; omega))) rfl rfl ?_
  refine at_do (does_remi rfl rfl (by (have := hp (by assumption); simp; omega))) rfl rfl ?_
  refine at_do (does_assign rfl) rfl rfl ?_
  refine at_nil ?_
  refine at_then ?_
  refine at_ret ?_
  refine at_ret1 rfl rfl rfl (fun w9 ho9 => ?_)
  rotate_left
  all_goals exact ⟨by simp_all [bucket], ho9.plain⟩
set_option maxRecDepth 100000 in
theorem less_append : ∀ (x a b : List UInt8), Op.bytesLess (x ++ a) (x ++ b) = Op.bytesLess a b
  | [], _, _ => rfl
  | c :: x, a, b => by
    simp only [List.cons_append]
    rw [Op.bytesLess]
    simp [less_append x a b]
theorem less_at (a b : List UInt8) (k : Nat) (h : a.take k = b.take k) : Op.bytesLess a b = Op.bytesLess (a.drop k) (b.drop k) := by
  conv => lhs; rw [← List.take_append_drop k a, ← List.take_append_drop k b, h]
  exact less_append _ _ _
theorem less_step (a b : List UInt8) (k : Nat) (h : a.take k = b.take k) (ha : k < a.length) (hb : k < b.length) (hne : byt a k ≠ byt b k) : Op.bytesLess a b = decide (byt a k < byt b k) := by
  rw [less_at a b k h, List.drop_eq_getElem_cons ha, List.drop_eq_getElem_cons hb]
  rw [byt_eq a k ha, byt_eq b k hb] at *
  have hne' : a[k] ≠ b[k] := fun e => hne (by rw [e])
  unfold Op.bytesLess
  rw [Bool.eq_iff_iff]
  simp [hne', UInt8.lt_iff_toNat_lt]
theorem less_end (a b : List UInt8) (k : Nat) (h : a.take k = b.take k) (hk : ¬ (k < a.length ∧ k < b.length)) : Op.bytesLess a b = decide (a.length < b.length) := by
  rw [less_at a b k h]
  rcases Nat.lt_or_ge k a.length with ha | ha
  · have hb : b.length ≤ k := by omega
    rw [List.drop_of_length_le hb]
    have : b.length ≤ a.length := by omega
    cases hd : List.drop k a <;> (unfold Op.bytesLess; simp; omega)
  · rw [List.drop_of_length_le ha]
    rcases Nat.lt_or_ge k b.length with hb | hb
    · rw [List.drop_eq_getElem_cons hb]
      unfold Op.bytesLess; simp; omega
    · rw [List.drop_of_length_le hb]
      unfold Op.bytesLess
      have hl := congrArg List.length h
      simp at hl
      simp; omega
theorem less_tot : ∀ (a b : List UInt8), Op.bytesLess a b = !(Op.bytesLess b a || decide (b = a))
  | [], [] => by simp [Op.bytesLess]
  | [], _ :: _ => by simp [Op.bytesLess]
  | _ :: _, [] => by simp [Op.bytesLess]
  | x :: a, y :: b => by
    have ih := less_tot a b
    rw [Op.bytesLess, Op.bytesLess, ih]
    by_cases h : x = y
    · subst h
      have : ¬ x < x := by simp [UInt8.lt_iff_toNat_lt]
      simp [this]
    · have h' : y ≠ x := fun e => h e.symm
      have : decide (x < y) = !decide (y < x) := by
        rw [Bool.eq_iff_iff]
        have hn : x.toNat ≠ y.toNat := fun e => h (UInt8.toNat_inj.1 e)
        simp [UInt8.lt_iff_toNat_lt, UInt8.le_iff_toNat_le]; omega
      have hb : (x == y) = false := by simp [h]
      have hb' : (y == x) = false := by simp [h']
      rw [this, hb, hb']
      simp [h']
theorem take_step (a b : List UInt8) (k : Nat) (h : a.take k = b.take k) (ha : k < a.length) (hb : k < b.length) (he : byt a k = byt b k) : a.take (k + 1) = b.take (k + 1) := by
  rw [List.take_succ_eq_append_getElem ha, List.take_succ_eq_append_getElem hb, h]
  rw [byt_eq a k ha, byt_eq b k hb] at he
  have : a[k] = b[k] := UInt8.toNat_inj.1 (by omega)
  rw [this]
theorem ref_Ahead (a b : List UInt8) (w : World) (hl : a.length ≤ 100001) (hb : b.length ≤ 100001) : Calls Tryd.prog 61 #[.string (bs a), .string (bs b)] w fun e w' => e = .returned (.bool (Op.bytesLess a b)) ∧ Below w.heap.size w w' := by
  refine calls_plain Tryd.func61 rfl Tryd.ntmps61 rfl ?_
  refine at_seq ?_
  refine at_region ?_
  refine at_do (does_assign rfl) rfl rfl ?_
  refine at_nil ?_
  refine at_then ?_
  refine at_seq ?_
  refine at_seq ?_
  refine at_region ?_
  refine at_do (does_assign rfl) rfl rfl ?_
  refine at_nil ?_
  refine at_then ?_
  refine at_block ?_
  rotate_left
  refine at_loop0 (fun k : Nat => k ≤ a.length ∧ k ≤ b.length ∧ a.take k = b.take k) (fun k => [(0, .string (bs a)), (1, .string (bs b)), (5, .int .i64 k)]) (fun k => a.length - k) 0 ⟨by omega, by omega, by simp⟩ ⟨rfl, rfl, rfl, trivial⟩ ?_
  rintro k ⟨hk, hkb, hs⟩
  refine at_seq ?_
  refine at_seq ?_
  refine at_region ?_
  refine at_do (does_move rfl) rfl rfl ?_
  refine at_do (does_move rfl) rfl rfl ?_
  refine at_do (does_slen (by kernel_rfl) rfl) rfl rfl ?_
  refine at_do (does_lss rfl rfl) rfl rfl ?_
  refine at_do (does_move rfl) rfl rfl ?_
  refine at_guardD rfl rfl (fun z0 => ?_) (fun z0 => ?_)
  refine at_on rfl rfl ?_
  refine at_do (does_move rfl) rfl rfl ?_
  refine at_on rfl rfl ?_
  refine at_do (does_move rfl) rfl rfl ?_
  refine at_on rfl rfl ?_
  refine at_do (does_slen (by kernel_rfl) rfl) rfl rfl ?_
  refine at_on rfl rfl ?_
  refine at_do (does_lss rfl rfl) rfl rfl ?_
  refine at_do (does_pick_true rfl rfl) rfl rfl ?_
  refine at_nil ?_
  refine at_then ?_
  refine at_condD rfl (fun z1 => ?_) (fun z1 => ?_)
  refine at_skip ?_
  refine at_then ?_
  refine at_seq ?_
  refine at_block ?_
  refine at_seq ?_
  refine at_draw (by kernel_rfl) (by kernel_rfl) ?_
  refine atq_do (does_move rfl) rfl rfl ?_
  refine atq_do (does_move rfl) rfl rfl ?_
  refine atq_do (does_sidx (by kernel_rfl) rfl rfl (by omega)) rfl rfl ?_
  refine atq_do (does_move rfl) rfl rfl ?_
  refine atq_do (does_move rfl) rfl rfl ?_
  refine atq_do (does_sidx (by kernel_rfl) rfl rfl (by omega)) rfl rfl ?_
  refine atq_do (does_neq rfl rfl) rfl rfl ?_
  refine atq_nil ?_
  refine at_then ?_
  refine at_condD rfl (fun z2 => ?_) (fun z2 => ?_)
  refine at_seq ?_
  refine at_draw (by kernel_rfl) (by kernel_rfl) ?_
  refine atq_do (does_move rfl) rfl rfl ?_
  refine atq_do (does_move rfl) rfl rfl ?_
  refine atq_do (does_sidx (by kernel_rfl) rfl rfl (by omega)) rfl rfl ?_
  refine atq_do (does_move rfl) rfl rfl ?_
  refine atq_do (does_move rfl) rfl rfl ?_
  refine atq_do (does_sidx (by kernel_rfl) rfl rfl (by omega)) rfl rfl ?_
  refine atq_do (does_lss rfl rfl) rfl rfl ?_
  refine atq_do (does_assign rfl) rfl rfl ?_
  refine atq_nil ?_
  refine at_then ?_
  refine at_ret ?_
  refine at_inb_ret ?_
  refine at_then_ret ?_
  refine at_then_ret ?_
  refine at_inb_ret ?_
  refine at_then_ret ?_
  refine at_ret1 rfl rfl rfl (fun w9 ho9 => ?_)
  rotate_left
  refine at_skip ?_
  refine at_inb ?_
  refine at_then ?_
  refine at_region ?_
  refine at_do (does_move rfl) rfl rfl ?_
  refine at_do (does_addi rfl rfl (by omega)) rfl rfl ?_
  refine at_do (does_assign rfl) rfl rfl ?_
  refine at_nil ?_
  refine at_then ?_
  rotate_left
  refine at_exit ?_
  refine at_then_exit ?_
  refine at_then_exit ?_
  refine at_inb_here ?_
  refine at_then ?_
  refine at_seq ?_
  refine at_region ?_
  refine at_do (does_move rfl) rfl rfl ?_
  refine at_do (does_slen (by kernel_rfl) rfl) rfl rfl ?_
  refine at_do (does_move rfl) rfl rfl ?_
  refine at_do (does_slen (by kernel_rfl) rfl) rfl rfl ?_
  refine at_do (does_lss rfl rfl) rfl rfl ?_
  refine at_do (does_assign rfl) rfl rfl ?_
  refine at_nil ?_
  refine at_then ?_
  refine at_ret ?_
  refine at_ret1 rfl rfl rfl (fun w9 ho9 => ?_)
  rotate_left
  refine at_no rfl rfl rfl rfl ?_
  refine at_no rfl rfl rfl rfl ?_
  refine at_no rfl rfl rfl rfl ?_
  refine at_no rfl rfl rfl rfl ?_
  refine at_do (does_pick_false rfl rfl) rfl rfl ?_
  refine at_nil ?_
  refine at_then ?_
  refine at_cond_false rfl ?_
  refine at_exit ?_
  refine at_then_exit ?_
  refine at_then_exit ?_
  refine at_inb_here ?_
  refine at_then ?_
  refine at_seq ?_
  refine at_region ?_
  refine at_do (does_move rfl) rfl rfl ?_
  refine at_do (does_slen (by kernel_rfl) rfl) rfl rfl ?_
  refine at_do (does_move rfl) rfl rfl ?_
  refine at_do (does_slen (by kernel_rfl) rfl) rfl rfl ?_
  refine at_do (does_lss rfl rfl) rfl rfl ?_
  refine at_do (does_assign rfl) rfl rfl ?_
  refine at_nil ?_
  refine at_then ?_
  refine at_ret ?_
  refine at_ret1 rfl rfl rfl (fun w9 ho9 => ?_)
  rotate_left
  · exact ⟨ret_bool (less_step a b k hs (by omega) (by omega) z2).symm, ho9.plain⟩
  · exact at_again0 (k + 1) ⟨by omega, by omega, take_step a b k hs (by omega) (by omega) (by simpa using z2)⟩ (by omega) ⟨rfl, rfl, rfl, trivial⟩
  all_goals
    refine ⟨ret_bool ?_, ho9.plain⟩
    rw [less_end a b k hs (by omega)]
    simp
theorem keyOk_nil : keyOk [] = true := by decide
set_option maxRecDepth 100000 in
theorem ref_In (k a b : List UInt8) (w : World) (hlk : k.length ≤ 100000) (hla : a.length ≤ 100000) (hlb : b.length ≤ 100000) : Calls Tryd.prog 36 #[.string (bs k), .string (bs a), .string (bs b)] w fun e w' => e = .returned (.bool (inR k a b)) ∧ Below w.heap.size w w' := by
  refine calls_plain Tryd.func36 rfl Tryd.ntmps36 rfl ?_
  refine at_seq ?_
  refine at_region ?_
  refine at_do (does_assign rfl) rfl rfl ?_
  refine at_nil ?_
  refine at_then ?_
  refine at_seq ?_
  refine at_region ?_
  refine at_do (does_move rfl) rfl rfl ?_
  refine at_callv (f := 60) (enters_fn (by kernel_rfl) rfl) (fun w ho => ref_Is _ w (by omega)) rfl rfl ?_
  refine at_do (does_move rfl) rfl rfl ?_
  refine at_guard rfl rfl (fun z0 => ?_) (fun z0 => ?_)
  refine at_on rfl rfl ?_
  refine at_do (does_move rfl) rfl rfl ?_
  refine at_on rfl rfl ?_
  refine at_callv (f := 32) (enters_fn (by kernel_rfl) rfl) (fun w ho => ref_Pattern _ w (by omega)) rfl rfl ?_
  refine at_do (does_pick_true rfl rfl) rfl rfl ?_
  refine at_do (does_move rfl) rfl rfl ?_
  refine at_guard rfl rfl (fun z1 => ?_) (fun z1 => ?_)
  refine at_on rfl rfl ?_
  refine at_do (does_move rfl) rfl rfl ?_
  refine at_on rfl rfl ?_
  refine at_callv (f := 32) (enters_fn (by kernel_rfl) rfl) (fun w ho => ref_Pattern _ w (by omega)) rfl rfl ?_
  refine at_do (does_pick_true rfl rfl) rfl rfl ?_
  refine at_do (does_move rfl) rfl rfl ?_
  refine at_guard rfl rfl (fun z2 => ?_) (fun z2 => ?_)
  refine at_on rfl rfl ?_
  refine at_do (does_move rfl) rfl rfl ?_
  refine at_on rfl rfl ?_
  refine at_do (does_move rfl) rfl rfl ?_
  refine at_on rfl rfl ?_
  refine at_callv (f := 61) (enters_fn (by kernel_rfl) rfl) (fun w ho => ref_Ahead _ _ w (by omega) (by omega)) rfl rfl ?_
  refine at_on rfl rfl ?_
  refine at_do (does_not rfl) rfl rfl ?_
  refine at_do (does_pick_true rfl rfl) rfl rfl ?_
  refine at_do (does_move rfl) rfl rfl ?_
  refine at_guardN rfl rfl (fun z3 => ?_) (fun z3 => ?_)
  refine at_on rfl rfl ?_
  refine at_do (does_move rfl) rfl rfl ?_
  refine at_on rfl rfl ?_
  refine at_do (does_seql rfl rfl) rfl rfl ?_
  refine at_on rfl rfl ?_
  refine at_do (does_move rfl) rfl rfl ?_
  refine at_guardD rfl rfl (fun z4 => ?_) (fun z4 => ?_)
  refine at_no rfl rfl rfl rfl ?_
  refine at_no rfl rfl rfl rfl ?_
  refine at_no rfl rfl rfl rfl ?_
  refine at_on rfl rfl ?_
  refine at_do (does_pick_true rfl rfl) rfl rfl ?_
  refine at_do (does_pick_true rfl rfl) rfl rfl ?_
  refine at_do (does_assign rfl) rfl rfl ?_
  refine at_nil ?_
  refine at_then ?_
  refine at_ret ?_
  refine at_ret1 rfl rfl rfl (fun w9 ho9 => ?_)
  rotate_left
  refine at_on rfl rfl ?_
  refine at_do (does_move rfl) rfl rfl ?_
  refine at_on rfl rfl ?_
  refine at_do (does_move rfl) rfl rfl ?_
  refine at_on rfl rfl ?_
  refine at_callv (f := 61) (enters_fn (by kernel_rfl) rfl) (fun w ho => ref_Ahead _ _ w (by omega) (by omega)) rfl rfl ?_
  refine at_on rfl rfl ?_
  refine at_do (does_pick_false rfl rfl) rfl rfl ?_
  refine at_do (does_pick_true rfl rfl) rfl rfl ?_
  refine at_do (does_assign rfl) rfl rfl ?_
  refine at_nil ?_
  refine at_then ?_
  refine at_ret ?_
  refine at_ret1 rfl rfl rfl (fun w9 ho9 => ?_)
  rotate_left
  refine at_no rfl rfl rfl rfl ?_
  refine at_no rfl rfl rfl rfl ?_
  refine at_no rfl rfl rfl rfl ?_
  refine at_no rfl rfl rfl rfl ?_
  refine at_no rfl rfl rfl rfl ?_
  refine at_no rfl rfl rfl rfl ?_
  refine at_no rfl rfl rfl rfl ?_
  refine at_do (does_pick_false rfl rfl) rfl rfl ?_
  refine at_do (does_assign rfl) rfl rfl ?_
  refine at_nil ?_
  refine at_then ?_
  refine at_ret ?_
  refine at_ret1 rfl rfl rfl (fun w9 ho9 => ?_)
  rotate_left
  refine at_no rfl rfl rfl rfl ?_
  refine at_no rfl rfl rfl rfl ?_
  refine at_no rfl rfl rfl rfl ?_
  refine at_no rfl rfl rfl rfl ?_
  refine at_do (does_pick_false rfl rfl) rfl rfl ?_
  refine at_do (does_move rfl) rfl rfl ?_
  refine at_no rfl rfl rfl rfl ?_
  refine at_no rfl rfl rfl rfl ?_
  refine at_no rfl rfl rfl rfl ?_
  refine at_no rfl rfl rfl rfl ?_
  refine at_no rfl rfl rfl rfl ?_
  refine at_no rfl rfl rfl rfl ?_
  refine at_no rfl rfl rfl rfl ?_
  refine at_do (does_pick_false rfl rfl) rfl rfl ?_
  refine at_do (does_assign rfl) rfl rfl ?_
  refine at_nil ?_
  refine at_then ?_
  refine at_ret ?_
  refine at_ret1 rfl rfl rfl (fun w9 ho9 => ?_)
  rotate_left
  refine at_no rfl rfl rfl rfl ?_
  refine at_no rfl rfl rfl rfl ?_
  refine at_do (does_pick_false rfl rfl) rfl rfl ?_
  refine at_do (does_move rfl) rfl rfl ?_
  refine at_no rfl rfl rfl rfl ?_
  refine at_no rfl rfl rfl rfl ?_
  refine at_no rfl rfl rfl rfl ?_
  refine at_no rfl rfl rfl rfl ?_
  refine at_do (does_pick_false rfl rfl) rfl rfl ?_
  refine at_do (does_move rfl) rfl rfl ?_
  refine at_no rfl rfl rfl rfl ?_
  refine at_no rfl rfl rfl rfl ?_
  refine at_no rfl rfl rfl rfl ?_
  refine at_no rfl rfl rfl rfl ?_
  refine at_no rfl rfl rfl rfl ?_
  refine at_no rfl rfl rfl rfl ?_
  refine at_no rfl rfl rfl rfl ?_
  refine at_do (does_pick_false rfl rfl) rfl rfl ?_
  refine at_do (does_assign rfl) rfl rfl ?_
  refine at_nil ?_
  refine at_then ?_
  refine at_ret ?_
  refine at_ret1 rfl rfl rfl (fun w9 ho9 => ?_)
  rotate_left
  refine at_no rfl rfl rfl rfl ?_
  refine at_no rfl rfl rfl rfl ?_
  refine at_do (does_pick_false rfl rfl) rfl rfl ?_
  refine at_do (does_move rfl) rfl rfl ?_
  refine at_no rfl rfl rfl rfl ?_
  refine at_no rfl rfl rfl rfl ?_
  refine at_do (does_pick_false rfl rfl) rfl rfl ?_
  refine at_do (does_move rfl) rfl rfl ?_
  refine at_no rfl rfl rfl rfl ?_
  refine at_no rfl rfl rfl rfl ?_
  refine at_no rfl rfl rfl rfl ?_
  refine at_no rfl rfl rfl rfl ?_
  refine at_do (does_pick_false rfl rfl) rfl rfl ?_
  refine at_do (does_move rfl) rfl rfl ?_
  refine at_no rfl rfl rfl rfl ?_
  refine at_no rfl rfl rfl rfl ?_
  refine at_no rfl rfl rfl rfl ?_
  refine at_no rfl rfl rfl rfl ?_
  refine at_no rfl rfl rfl rfl ?_
  refine at_no rfl rfl rfl rfl ?_
  refine at_no rfl rfl rfl rfl ?_
  refine at_do (does_pick_false rfl rfl) rfl rfl ?_
  refine at_do (does_assign rfl) rfl rfl ?_
  refine at_nil ?_
  refine at_then ?_
  refine at_ret ?_
  refine at_ret1 rfl rfl rfl (fun w9 ho9 => ?_)
  rotate_left
  all_goals
    refine ⟨ret_bool ?_, ho9.plain⟩
    simp_all [inR]
end Go.Proofs.YtjpfebgpcokenaaDoor
set_option linter.unusedSimpArgs false
set_option linter.unusedVariables false
namespace Go.Proofs.YtjpfebgpcokenaaDoor
open Go.RowKit

theorem less_trans : ∀ (a b c : List UInt8), Op.bytesLess a b = true → Op.bytesLess b c = true → Op.bytesLess a c = true
  | _, _, [], _, h => by simp [Op.bytesLess] at h
  | _, [], _ :: _, h, _ => by simp [Op.bytesLess] at h
  | [], _ :: _, _ :: _, _, _ => rfl
  | x :: a, y :: b, z :: c, h1, h2 => by
    rw [Op.bytesLess] at h1 h2 ⊢
    simp only [Bool.or_eq_true, Bool.and_eq_true, decide_eq_true_eq, beq_iff_eq, UInt8.lt_iff_toNat_lt] at h1 h2 ⊢
    rcases h1 with h1 | ⟨rfl, h1⟩
    · rcases h2 with h2 | ⟨rfl, h2⟩
      · left; omega
      · left; exact h1
    · rcases h2 with h2 | ⟨rfl, h2⟩
      · left; exact h2
      · right; exact ⟨rfl, less_trans a b c h1 h2⟩
theorem less_irr (a : List UInt8) : Op.bytesLess a a = false := by
  have := less_tot a a
  cases h : Op.bytesLess a a <;> simp [h] at this ⊢
/-- not less, less: less -/
theorem geq_less {a b c : List UInt8} (h1 : Op.bytesLess b a = false) (h2 : Op.bytesLess b c = true) : Op.bytesLess a c = true := by
  rw [less_tot, Bool.not_eq_false', Bool.or_eq_true] at h1
  rcases h1 with h1 | h1
  · exact less_trans _ _ _ h1 h2
  · have : a = b := by simpa using h1
    subst this; exact h2
theorem beg_iff {s p : List UInt8} : beg s p = true ↔ ∃ r, s = p ++ r := by
  unfold beg
  simp only [Bool.and_eq_true, decide_eq_true_eq]
  constructor
  · rintro ⟨_, h⟩
    exact ⟨s.drop p.length, by have := List.take_append_drop p.length s; rw [h] at this; exact this.symm⟩
  · rintro ⟨r, rfl⟩
    simp
theorem less_pre (p r : List UInt8) : Op.bytesLess (p ++ r) p = false := by
  have := less_append p r []
  rw [List.append_nil] at this
  rw [this]
  cases r <;> rfl
end Go.Proofs.YtjpfebgpcokenaaDoor
set_option linter.unusedSimpArgs false
set_option linter.unusedVariables false
namespace Go.Proofs.YtjpfebgpcokenaaDoor
/-- An item. -/
structure Itm where
  key : List UInt8
  kind : Int
  num : Int
  txt : List UInt8
  ver : Int
deriving DecidableEq
instance : Inhabited Itm := ⟨⟨[], 0, 0, [], 0⟩⟩
def lessI (a b : Itm) : Bool := Op.bytesLess a.key b.key
def Up (xs : List Itm) : Prop := xs.Pairwise fun a b => lessI a b = true
/-- An item among others. -/
def withI (out : List Itm) (x : Itm) : List Itm := out.filter (fun a => lessI a x) ++ [x] ++ out.filter (fun a => lessI x a)
def allI (l : List Itm) : List Itm := l.foldl withI []
theorem lessI_trans {a b c : Itm} (h1 : lessI a b = true) (h2 : lessI b c = true) : lessI a c = true := less_trans _ _ _ h1 h2
theorem lessI_asym {a b : Itm} (h1 : lessI a b = true) (h2 : lessI b a = true) : False := by
  have := lessI_trans h1 h2
  rw [lessI, less_irr] at this
  cases this
theorem lessI_tot {a b : Itm} (h : a.key ≠ b.key) : lessI a b = true ∨ lessI b a = true := by
  have := less_tot a.key b.key
  unfold lessI
  cases hb : Op.bytesLess b.key a.key
  · left
    rw [this, hb]
    simp
    exact fun h' => h h'.symm
  · right; rfl
def Keys (l : List Itm) : List (List UInt8) := l.map (·.key)
theorem filter_split (x : Itm) : ∀ out : List Itm, (∀ a ∈ out, a.key ≠ x.key) → (out.filter (fun a => lessI a x) ++ out.filter (fun a => lessI x a)).Perm out
  | [], _ => List.Perm.refl _
  | a :: out, h => by
    have ih := filter_split x out fun b hb => h b (List.mem_cons_of_mem _ hb)
    rcases lessI_tot (h a (List.mem_cons_self ..)) with h1 | h1
    · have h2 : lessI x a = false := by
        cases hx : lessI x a
        · rfl
        · exact (lessI_asym h1 hx).elim
      simp only [List.filter_cons, h1, h2, if_true, Bool.false_eq_true, if_false, List.cons_append]
      exact ih.cons a
    · have h2 : lessI a x = false := by
        cases hx : lessI a x
        · rfl
        · exact (lessI_asym h1 hx).elim
      simp only [List.filter_cons, h1, h2, if_true, Bool.false_eq_true, if_false]
      exact (List.perm_middle).trans (ih.cons a)
theorem withI_perm {out : List Itm} {x : Itm} (h : ∀ a ∈ out, a.key ≠ x.key) : (withI out x).Perm (x :: out) := by
  unfold withI
  rw [List.append_assoc]
  exact (List.perm_middle).trans ((filter_split x out h).cons x)
theorem withI_up {out : List Itm} {x : Itm} (h : Up out) : Up (withI out x) := by
  unfold withI Up
  rw [List.append_assoc]
  refine List.pairwise_append.2 ⟨List.Pairwise.sublist List.filter_sublist h, List.pairwise_append.2 ⟨by simp, List.Pairwise.sublist List.filter_sublist h, fun a ha b hb => ?_⟩, fun a ha b hb => ?_⟩
  · obtain rfl : a = x := by simpa using ha
    exact (List.mem_filter.1 hb).2
  · have h1 := (List.mem_filter.1 ha).2
    rcases List.mem_append.1 hb with hb | hb
    · obtain rfl : b = x := by simpa using hb
      exact h1
    · exact lessI_trans h1 (List.mem_filter.1 hb).2
theorem fold_with : ∀ (l out : List Itm), (Keys (out ++ l)).Nodup → Up out → Up (l.foldl withI out) ∧ (l.foldl withI out).Perm (out ++ l)
  | [], out, _, h => ⟨h, by simp⟩
  | x :: l, out, hn, h => by
    have hk : ∀ a ∈ out, a.key ≠ x.key := fun a ha e => by
      rw [Keys, List.map_append, List.nodup_append] at hn
      exact hn.2.2 a.key (List.mem_map.2 ⟨a, ha, rfl⟩) x.key (List.mem_map.2 ⟨x, List.mem_cons_self .., rfl⟩) e
    have hp := withI_perm hk
    have hp2 : (withI out x ++ l).Perm (out ++ x :: l) := (hp.append_right l).trans (List.perm_middle.symm)
    have ih := fold_with l (withI out x) ((hp2.map _).nodup_iff.2 hn) (withI_up h)
    exact ⟨ih.1, ih.2.trans hp2⟩
theorem allI_up {l : List Itm} (h : (Keys l).Nodup) : Up (allI l) := (fold_with l [] (by simpa using h) List.Pairwise.nil).1
theorem allI_perm {l : List Itm} (h : (Keys l).Nodup) : (allI l).Perm l := by simpa [allI] using (fold_with l [] (by simpa using h) List.Pairwise.nil).2
/-- Two that rise and hold the same are the same. -/
theorem up_eq : ∀ {a b : List Itm}, Up a → Up b → a.Perm b → a = b
  | [], b, _, _, h => by rw [h.nil_eq]
  | x :: a, [], _, _, h => by cases h.eq_nil
  | x :: a, y :: b, ha, hb, h => by
    have ha' := List.pairwise_cons.1 ha
    have hb' := List.pairwise_cons.1 hb
    have hxy : x = y := by
      have h1 : x ∈ y :: b := h.mem_iff.1 (List.mem_cons_self ..)
      have h2 : y ∈ x :: a := h.mem_iff.2 (List.mem_cons_self ..)
      rcases List.mem_cons.1 h1 with e | h1
      · exact e
      · rcases List.mem_cons.1 h2 with e | h2
        · exact e.symm
        · exact (lessI_asym (ha'.1 y h2) (hb'.1 x h1)).elim
    subst hxy
    rw [up_eq ha'.2 hb'.2 (List.Perm.cons_inv h)]

/-! ### The bucket whose leaf has the least key next -/
def hd (l : List Itm) : List UInt8 := match l with
  | x :: _ => x.key
  | [] => []
def leastI (fs : List (List Itm)) : Nat → Option Nat
  | 0 => none
  | b + 1 => match leastI fs b with
    | none => if (fs.getD b []) = [] then none else some b
    | some c => if (fs.getD b []) ≠ [] ∧ Op.bytesLess (hd (fs.getD b [])) (hd (fs.getD c [])) = true then some b else some c
theorem leastI_none (fs : List (List Itm)) : ∀ n, leastI fs n = none → ∀ b, b < n → fs.getD b [] = []
  | 0, _, b, hb => absurd hb (by omega)
  | n + 1, h, b, hb => by
    unfold leastI at h
    split at h
    · rename_i hn
      split at h
      · rename_i he
        by_cases e : b = n
        · rw [e]; exact he
        · exact leastI_none fs n hn b (by omega)
      · cases h
    · split at h <;> cases h
theorem not_less_trans {a b c : List UInt8} (h1 : Op.bytesLess b a = false) (h2 : Op.bytesLess c b = false) : Op.bytesLess c a = false := by
  cases h : Op.bytesLess c a
  · rfl
  · have := less_tot c b
    rw [h2] at this
    have h3 : Op.bytesLess b c = true ∨ b = c := by
      cases hb : Op.bytesLess b c
      · rw [hb] at this; simp at this; exact .inr this
      · exact .inl rfl
    rcases h3 with h3 | h3
    · rw [less_trans _ _ _ h3 h] at h1; cases h1
    · rw [h3, h] at h1; cases h1
theorem leastI_some (fs : List (List Itm)) : ∀ n c, leastI fs n = some c → c < n ∧ fs.getD c [] ≠ [] ∧ ∀ b, b < n → fs.getD b [] ≠ [] → Op.bytesLess (hd (fs.getD b [])) (hd (fs.getD c [])) = false
  | 0, c, h => by cases h
  | n + 1, c, h => by
    unfold leastI at h
    split at h
    · rename_i hn
      split at h
      · cases h
      · rename_i he
        cases h
        refine ⟨by omega, he, fun b hb hne => ?_⟩
        by_cases e : b = n
        · rw [e]; exact less_irr _
        · exact absurd (leastI_none fs n hn b (by omega)) hne
    · rename_i c0 hn
      obtain ⟨i1, i2, i3⟩ := leastI_some fs n c0 hn
      split at h
      · rename_i he
        cases h
        refine ⟨by omega, he.1, fun b hb hne => ?_⟩
        by_cases e : b = n
        · rw [e]; exact less_irr _
        · refine not_less_trans ?_ (i3 b (by omega) hne)
          cases hx : Op.bytesLess (hd (fs.getD c0 [])) (hd (fs.getD n []))
          · rfl
          · have := less_trans _ _ _ he.2 hx
            rw [less_irr] at this; cases this
      · rename_i he
        cases h
        refine ⟨by omega, i2, fun b hb hne => ?_⟩
        by_cases e : b = n
        · subst e
          cases hx : Op.bytesLess (hd (fs.getD b [])) (hd (fs.getD c []))
          · rfl
          · exact absurd ⟨hne, hx⟩ he
        · exact i3 b (by omega) hne
/-- The least one taken away. -/
def restI (fs : List (List Itm)) (c : Nat) : List (List Itm) := fs.set c (fs.getD c []).tail
def mergeI : Nat → List (List Itm) → List Itm
  | 0, _ => []
  | n + 1, fs => match leastI fs fs.length with
    | none => []
    | some c => match fs.getD c [] with
      | x :: _ => x :: mergeI n (restI fs c)
      | [] => []
theorem flatten_set : ∀ (fs : List (List Itm)) (c : Nat) (x : Itm) (r : List Itm), fs[c]? = some (x :: r) → fs.flatten.Perm (x :: (fs.set c r).flatten)
  | [], c, x, r, h => by simp at h
  | f :: fs, 0, x, r, h => by
    simp at h; subst h
    simp
  | f :: fs, c + 1, x, r, h => by
    have ih := flatten_set fs c x r (by simpa using h)
    simp only [List.flatten_cons, List.set_cons_succ]
    exact (ih.append_left f).trans List.perm_middle
theorem getD_some {fs : List (List Itm)} {c : Nat} (h : fs.getD c [] ≠ []) : ∃ x r, fs[c]? = some (x :: r) ∧ fs.getD c [] = x :: r := by
  rw [List.getD_eq_getElem?_getD] at h ⊢
  cases hc : fs[c]? with
  | none => rw [hc] at h; simp at h
  | some l =>
    rw [hc] at h
    simp at h
    cases l with
    | nil => exact absurd rfl h
    | cons x r => exact ⟨x, r, rfl, rfl⟩
theorem all_nil {fs : List (List Itm)} (h : leastI fs fs.length = none) : fs.flatten = [] := by
  have := leastI_none fs fs.length h
  rw [List.flatten_eq_nil_iff]
  intro l hl
  obtain ⟨i, hi, rfl⟩ := List.getElem_of_mem hl
  have := this i hi
  rwa [List.getD_eq_getElem?_getD, List.getElem?_eq_getElem hi] at this
theorem merge_law : ∀ (n : Nat) (fs : List (List Itm)), fs.flatten.length ≤ n → (∀ f ∈ fs, Up f) → (Keys fs.flatten).Nodup → Up (mergeI n fs) ∧ (mergeI n fs).Perm fs.flatten
  | 0, fs, hn, _, _ => by
    have : fs.flatten = [] := List.eq_nil_of_length_eq_zero (by omega)
    rw [this]
    exact ⟨List.Pairwise.nil, List.Perm.refl _⟩
  | n + 1, fs, hn, hu, hk => by
    unfold mergeI
    cases hl : leastI fs fs.length with
    | none => rw [all_nil hl]; exact ⟨List.Pairwise.nil, List.Perm.refl _⟩
    | some c =>
      obtain ⟨h1, h2, h3⟩ := leastI_some fs fs.length c hl
      obtain ⟨x, r, e1, e2⟩ := getD_some h2
      simp only [e2]
      have hrest : restI fs c = fs.set c r := by rw [restI, e2]; rfl
      rw [hrest]
      have hp := flatten_set fs c x r e1
      have hlen := hp.length_eq
      simp only [List.length_cons] at hlen
      have hk2 := (hp.map Itm.key).nodup_iff.1 hk
      simp only [List.map_cons, List.nodup_cons] at hk2
      have hmem : x :: r ∈ fs := List.mem_of_getElem? e1
      have ih := merge_law n (fs.set c r) (by omega) (fun f hf => by
        rcases List.mem_or_eq_of_mem_set hf with hf | rfl
        · exact hu f hf
        · exact (List.pairwise_cons.1 (hu _ hmem)).2) hk2.2
      refine ⟨List.pairwise_cons.2 ⟨fun y hy => ?_, ih.1⟩, (ih.2.cons x).trans hp.symm⟩
      have hy2 : y ∈ (fs.set c r).flatten := ih.2.mem_iff.1 hy
      have hne : x.key ≠ y.key := fun e => hk2.1 (List.mem_map.2 ⟨y, hy2, e.symm⟩)
      obtain ⟨f, hf, hyf⟩ := List.mem_flatten.1 hy2
      rcases List.mem_or_eq_of_mem_set hf with hf | rfl
      · obtain ⟨b, hb, rfl⟩ := List.getElem_of_mem hf
        have hbn : fs.getD b [] = fs[b] := by rw [List.getD_eq_getElem?_getD, List.getElem?_eq_getElem hb]; rfl
        have hbne : fs.getD b [] ≠ [] := by rw [hbn]; exact List.ne_nil_of_mem hyf
        have h4 := h3 b hb hbne
        rw [e2, hbn] at h4
        have hub := hu _ hf
        cases hfb : fs[b] with
        | nil => rw [hfb] at hyf; cases hyf
        | cons z t =>
          rw [hfb] at h4 hyf hub
          have h5 : Op.bytesLess y.key x.key = false := by
            rcases List.mem_cons.1 hyf with rfl | hyt
            · exact h4
            · cases hx : Op.bytesLess y.key x.key
              · rfl
              · have h6 := (List.pairwise_cons.1 hub).1 y hyt
                have h4' : Op.bytesLess z.key x.key = false := h4
                rw [less_trans _ _ _ h6 hx] at h4'
                cases h4'
          rcases lessI_tot hne with h | h
          · exact h
          · rw [lessI, h5] at h; cases h
      · exact (List.pairwise_cons.1 (hu _ hmem)).1 y hyf
/-- A trunk's items in order are the reference's. -/
theorem merge_all (fs : List (List Itm)) (n : Nat) (hn : fs.flatten.length ≤ n) (hu : ∀ f ∈ fs, Up f) (hk : (Keys fs.flatten).Nodup) : mergeI n fs = allI fs.flatten := by
  have h := merge_law n fs hn hu hk
  exact up_eq h.1 (allI_up hk) (h.2.trans (allI_perm hk).symm)

/-! ### The first ones of a range -/
def inI (f t : List UInt8) (x : Itm) : Bool := !Op.bytesLess x.key f && (decide (t = []) || Op.bytesLess x.key t)
def stopI (most : Int) (t : List UInt8) (out : List Itm) (x : Itm) : Bool := decide ((out.length : Int) ≥ most) || (decide (t ≠ []) && !Op.bytesLess x.key t)
def scanG (most : Int) (f t : List UInt8) : List Itm → List Itm → List Itm
  | out, [] => out
  | out, x :: xs => if stopI most t out x then out else scanG most f t (if Op.bytesLess x.key f then out else out ++ [x]) xs
theorem none_behind {t : List UInt8} {x : Itm} {xs : List Itm} (f : List UInt8) (hu : Up (x :: xs)) (ht : t ≠ []) (hx : Op.bytesLess x.key t = false) : (x :: xs).filter (inI f t) = [] := by
  refine List.filter_eq_nil_iff.2 fun y hy => ?_
  have hyt : Op.bytesLess y.key t = false := by
    rcases List.mem_cons.1 hy with rfl | hy
    · exact hx
    · cases h : Op.bytesLess y.key t
      · rfl
      · have := (List.pairwise_cons.1 hu).1 y hy
        rw [less_trans _ _ _ this h] at hx; cases hx
  simp [inI, hyt, ht]
theorem scan_law (most : Int) (f t : List UInt8) : ∀ (xs out : List Itm), Up xs → (out.length : Int) ≤ max most 0 → scanG most f t out xs = out ++ (xs.filter (inI f t)).take (most.toNat - out.length)
  | [], out, _, _ => by simp [scanG]
  | x :: xs, out, hu, hl => by
    unfold scanG
    by_cases h1 : (out.length : Int) ≥ most
    · rw [if_pos (by simp [stopI, h1])]
      have : most.toNat - out.length = 0 := by omega
      rw [this]; simp
    · by_cases h2 : t ≠ [] ∧ Op.bytesLess x.key t = false
      · rw [if_pos (by simp [stopI, h2])]
        rw [none_behind f hu h2.1 h2.2]; simp
      · have hs : stopI most t out x = false := by
          simp only [stopI, decide_eq_false h1, Bool.false_or, Bool.and_eq_false_iff, Bool.not_eq_false']
          rcases Classical.em (t = []) with e | e
          · left; simp [e]
          · right
            cases hb : Op.bytesLess x.key t
            · exact absurd ⟨e, hb⟩ h2
            · rfl
        rw [hs, if_neg (by simp)]
        have hu' := (List.pairwise_cons.1 hu).2
        have hin : inI f t x = !Op.bytesLess x.key f := by
          unfold inI
          rcases Classical.em (t = []) with e | e
          · simp [e]
          · cases hb : Op.bytesLess x.key t
            · exact absurd ⟨e, hb⟩ h2
            · simp
        cases hf : Op.bytesLess x.key f
        · rw [if_neg (by simp)]
          have hin' : inI f t x = true := by rw [hin, hf]; rfl
          rw [scan_law most f t xs (out ++ [x]) hu' (by simp; omega), List.filter_cons, if_pos hin']
          have : most.toNat - out.length = (most.toNat - (out ++ [x]).length) + 1 := by simp; omega
          rw [this, List.take_succ_cons, List.append_assoc]; rfl
        · rw [if_pos rfl]
          have hin' : inI f t x = false := by rw [hin, hf]; rfl
          rw [scan_law most f t xs out hu' hl, List.filter_cons, if_neg (by simp [hin'])]
theorem scan_law0 (most : Int) (f t : List UInt8) (xs : List Itm) (hu : Up xs) : scanG most f t [] xs = (xs.filter (inI f t)).take most.toNat := by
  rw [scan_law most f t xs [] hu (by simp; omega)]; simp
theorem up_keys : ∀ {l : List Itm}, Up l → (Keys l).Nodup
  | [], _ => List.nodup_nil
  | x :: l, h => by
    have h' := List.pairwise_cons.1 h
    refine List.nodup_cons.2 ⟨fun hm => ?_, up_keys h'.2⟩
    obtain ⟨y, hy, e⟩ := List.mem_map.1 hm
    have := h'.1 y hy
    rw [lessI, e, less_irr] at this; cases this
theorem flat_keys (g : List UInt8 → Nat) : ∀ (fs : List (List Itm)) (k : Nat), (∀ f ∈ fs, Up f) → (∀ b x, x ∈ fs.getD b [] → g x.key = k + b) → (Keys fs.flatten).Nodup
  | [], _, _, _ => by simp [Keys]
  | f :: fs, k, hu, hg => by
    have ih := flat_keys g fs (k + 1) (fun f hf => hu f (List.mem_cons_of_mem _ hf)) fun b x hx => by
      have := hg (b + 1) x (by simpa [List.getD_eq_getElem?_getD] using hx)
      omega
    have h0 : (Keys f).Nodup := up_keys (hu f (List.mem_cons_self ..))
    rw [List.flatten_cons, Keys, List.map_append, List.nodup_append]
    refine ⟨h0, ih, fun a ha b hb e => ?_⟩
    obtain ⟨x, hx, rfl⟩ := List.mem_map.1 ha
    obtain ⟨y, hy, rfl⟩ := List.mem_map.1 hb
    obtain ⟨l, hl, hyl⟩ := List.mem_flatten.1 hy
    obtain ⟨i, hi, rfl⟩ := List.getElem_of_mem hl
    have h1 := hg 0 x (by simpa [List.getD_eq_getElem?_getD] using hx)
    have h2 := hg (i + 1) y (by simp [List.getD_eq_getElem?_getD, List.getElem?_eq_getElem hi]; exact hyl)
    rw [e] at h1
    omega

/-! ### Names -/
def UpS (l : List (List UInt8)) : Prop := l.Pairwise fun a b => Op.bytesLess a b = true
def layS (l : List (List UInt8)) (s : List UInt8) : List (List UInt8) := l.filter (fun a => Op.bytesLess a s) ++ [s] ++ l.filter (fun a => Op.bytesLess s a)
theorem layS_up {l : List (List UInt8)} {s : List UInt8} (h : UpS l) : UpS (layS l s) := by
  unfold layS UpS
  rw [List.append_assoc]
  refine List.pairwise_append.2 ⟨List.Pairwise.sublist List.filter_sublist h, List.pairwise_append.2 ⟨by simp, List.Pairwise.sublist List.filter_sublist h, fun a ha b hb => ?_⟩, fun a ha b hb => ?_⟩
  · obtain rfl : a = s := by simpa using ha
    exact (List.mem_filter.1 hb).2
  · have h1 := (List.mem_filter.1 ha).2
    rcases List.mem_append.1 hb with hb | hb
    · obtain rfl : b = s := by simpa using hb
      exact h1
    · exact less_trans _ _ _ h1 (List.mem_filter.1 hb).2
theorem less_or {a b : List UInt8} (h : a ≠ b) : Op.bytesLess a b = true ∨ Op.bytesLess b a = true := by
  have := less_tot a b
  cases hb : Op.bytesLess b a
  · left; rw [this, hb]; simp; exact fun e => h e.symm
  · right; rfl
theorem layS_mem {l : List (List UInt8)} {s a : List UInt8} : a ∈ layS l s ↔ a = s ∨ a ∈ l := by
  unfold layS
  simp only [List.mem_append, List.mem_filter, List.mem_singleton]
  constructor
  · rintro ((h | h) | h)
    · exact .inr h.1
    · exact .inl h
    · exact .inr h.1
  · rintro (h | h)
    · exact .inl (.inr h)
    · rcases Classical.em (a = s) with e | e
      · exact .inl (.inr e)
      · rcases less_or e with q | q
        · exact .inl (.inl ⟨h, q⟩)
        · exact .inr ⟨h, q⟩
theorem lays_law : ∀ (ns l : List (List UInt8)), UpS l → UpS (ns.foldl layS l) ∧ ∀ a, a ∈ ns.foldl layS l ↔ a ∈ ns ∨ a ∈ l
  | [], l, h => ⟨h, fun a => by simp⟩
  | n :: ns, l, h => by
    have ih := lays_law ns (layS l n) (layS_up h)
    refine ⟨ih.1, fun a => ?_⟩
    rw [List.foldl_cons, ih.2 a, layS_mem, List.mem_cons]
    constructor
    · rintro (h | h | h)
      · exact .inl (.inr h)
      · exact .inl (.inl h)
      · exact .inr h
    · rintro ((h | h) | h)
      · exact .inr (.inl h)
      · exact .inl h
      · exact .inr (.inr h)
theorem upS_nodup {l : List (List UInt8)} (h : UpS l) : l.Nodup := List.Pairwise.imp (fun hab e => by subst e; rw [less_irr] at hab; cases hab) h
theorem upS_eq : ∀ {a b : List (List UInt8)}, UpS a → UpS b → (∀ x, x ∈ a ↔ x ∈ b) → a = b := by
  intro a b ha hb hm
  have hp : a.Perm b := (List.perm_ext_iff_of_nodup (upS_nodup ha) (upS_nodup hb)).2 hm
  clear hm
  induction a generalizing b with
  | nil => rw [hp.nil_eq]
  | cons x a ih =>
    cases b with
    | nil => cases hp.eq_nil
    | cons y b =>
      have ha' := List.pairwise_cons.1 ha
      have hb' := List.pairwise_cons.1 hb
      have hxy : x = y := by
        have h1 : x ∈ y :: b := hp.mem_iff.1 (List.mem_cons_self ..)
        have h2 : y ∈ x :: a := hp.mem_iff.2 (List.mem_cons_self ..)
        rcases List.mem_cons.1 h1 with e | h1
        · exact e
        · rcases List.mem_cons.1 h2 with e | h2
          · exact e.symm
          · have := less_trans _ _ _ (ha'.1 y h2) (hb'.1 x h1)
            rw [less_irr] at this; cases this
      subst hxy
      rw [ih ha'.2 hb'.2 (List.Perm.cons_inv hp)]
/-- Rising, but for the same ones. -/
def UpE (l : List (List UInt8)) : Prop := l.Pairwise fun a b => Op.bytesLess b a = false
def compS : List (List UInt8) → List (List UInt8)
  | [] => []
  | a :: l => match compS l with
    | [] => [a]
    | b :: r => if a = b then b :: r else a :: b :: r
theorem compS_mem : ∀ (l : List (List UInt8)) (x : List UInt8), x ∈ compS l ↔ x ∈ l
  | [], x => by simp [compS]
  | a :: l, x => by
    have ih := compS_mem l x
    unfold compS
    split
    · rename_i h
      rw [h] at ih
      simp at ih
      simp [ih]
    · rename_i b r h
      rw [h] at ih
      split
      · rename_i e
        subst e
        rw [ih, List.mem_cons]
        constructor
        · exact .inr
        · rintro (e | h')
          · subst e; exact ih.1 (List.mem_cons_self ..)
          · exact h'
      · rw [List.mem_cons, ih, List.mem_cons]
theorem compS_up : ∀ {l : List (List UInt8)}, UpE l → UpS (compS l)
  | [], _ => List.Pairwise.nil
  | a :: l, h => by
    have h' := List.pairwise_cons.1 h
    have ih := compS_up h'.2
    have hm := compS_mem l
    unfold compS
    split
    · simp [UpS]
    · rename_i b r hb
      rw [hb] at ih hm
      split
      · exact ih
      · rename_i hne
        refine List.pairwise_cons.2 ⟨fun y hy => ?_, ih⟩
        have hyl := (hm y).1 hy
        have h1 := h'.1 y hyl
        rcases Classical.em (a = y) with e | e
        · subst e
          rcases List.mem_cons.1 hy with e2 | hyr
          · exact absurd e2 hne
          · have h2 := (List.pairwise_cons.1 ih).1 a hyr
            have h3 := h'.1 b ((hm b).1 (List.mem_cons_self ..))
            rw [h2] at h3; cases h3
        · rcases less_or e with q | q
          · exact q
          · rw [h1] at q; cases q
theorem names_law (ns sorted : List (List UInt8)) (hu : UpE sorted) (hp : sorted.Perm ns) : compS sorted = ns.foldl layS [] := by
  have h := lays_law ns [] List.Pairwise.nil
  refine upS_eq (compS_up hu) h.1 fun x => ?_
  rw [compS_mem, hp.mem_iff, h.2 x]; simp
end Go.Proofs.YtjpfebgpcokenaaDoor
set_option linter.unusedSimpArgs false
set_option linter.unusedVariables false
namespace Go.Proofs.YtjpfebgpcokenaaDoor
open Go.RowKit

theorem add_none (gb o j : Nat) : (⟨gb, o, none⟩ : Addr).add j = ⟨gb, o + j, none⟩ := by unfold Addr.add; split <;> simp_all
theorem Below.cellOld {w0 w : World} {p : Addr} {v : Value} (hb : Below w0.heap.size w0 w) (hc : w0.cell? p = some v) : w.cell? p = some v :=
  (World.cell?_of_block (hb.block _ (World.block_lt_of_cell? _ _ hc))).trans hc
/-- These values lie there. -/
def ValsAt (w : World) (arg : Value) (vs : List Value) : Prop := (arg = .slice none 0 0 ∧ vs = []) ∨
  ∃ A c, arg = .slice (some A) vs.length c ∧ vs.length ≤ c ∧ ∀ j u, vs[j]? = some u → w.cell? (A.add j) = some u
theorem ValsAt.keep {w w' : World} {arg : Value} {vs : List Value} (h : ValsAt w arg vs) (hb : Below w.heap.size w w') : ValsAt w' arg vs :=
  h.imp id fun ⟨A, c, h1, h0, h2⟩ => ⟨A, c, h1, h0, fun j u hu => Below.cellOld hb (h2 j u hu)⟩
theorem ValsAt.len {w : World} {arg : Value} {vs : List Value} (h : ValsAt w arg vs) : ∃ A c, arg = .slice A vs.length c := by
  rcases h with ⟨rfl, rfl⟩ | ⟨A, c, rfl, _, _⟩
  · exact ⟨none, 0, rfl⟩
  · exact ⟨_, c, rfl⟩
theorem ValsAt.form {w : World} {arg : Value} {vs : List Value} (h : ValsAt w arg vs) (hne : 0 < vs.length) : ∃ gb o c, arg = .slice (some ⟨gb, o, none⟩) vs.length c ∧ vs.length ≤ c ∧ gb < w.heap.size ∧ ∀ j u, vs[j]? = some u → w.cell? ⟨gb, o + j, none⟩ = some u := by
  rcases h with ⟨_, rfl⟩ | ⟨⟨gb, o, sp⟩, c, rfl, hc, h2⟩
  · simp at hne
  · have h0 := h2 0 _ (List.getElem?_eq_getElem hne)
    have hsp : sp = none := by
      cases sp with
      | none => rfl
      | some s => simp [Addr.add, World.cell?] at h0; split at h0 <;> simp at h0
    subst hsp
    exact ⟨gb, o, c, rfl, hc, World.block_lt_of_cell? _ _ h0, fun j u hu => by rw [← add_none]; exact h2 j u hu⟩
theorem vals_of_row {w : World} {b e m : Nat} {v : Value} {vs : List Value} (h : w.ownsRow b e 1 v m vs) : ValsAt w v vs := by
  have hl : vs.length = m := by simpa using h.1
  rcases h.2 with ⟨rfl, h0⟩ | ⟨g, cap, cur, rfl, h1, hg, h2, h3, h4, h5⟩
  · exact .inl ⟨rfl, List.eq_nil_of_length_eq_zero (by omega)⟩
  · refine .inr ⟨⟨g, 0, none⟩, cap, by rw [hl], by omega, fun j u hu => ?_⟩
    have hj : j < vs.length := (List.getElem?_eq_some_iff.1 hu).1
    rw [add_none, Nat.zero_add, cell_of_row w g j cur e (0, 0) hg]
    rw [← h5, List.getElem?_take] at hu
    split at hu
    · simpa using hu
    · cases hu
theorem Own.oldVals {w0 w b : World} {M F : Nat → Prop} {D : List Nat} {H : List Res} {arg : Value} {vs : List Value} (h : Own ⟨w0, fun _ => False, M, b, F, D⟩ H w) (hB : ValsAt w0 arg vs) : ValsAt w arg vs := hB.keep h.plain
def hiV (q : Nat) : Value → Value
  | .slice A m c => .slice A q c
  | v => v
def loV (q : Nat) : Value → Value
  | .slice A m c => .slice (A.map fun a => if c = q then a else a.add q) (m - q) (c - q)
  | v => v
theorem hi_vals {w : World} {v : Value} {vs : List Value} {q : Nat} (h : ValsAt w v vs) (hq : q ≤ vs.length) : ValsAt w (hiV q v) (vs.take q) := by
  rcases h with ⟨rfl, rfl⟩ | ⟨A, c, rfl, hc, hcell⟩
  · obtain rfl : q = 0 := by simpa using hq
    exact .inl ⟨rfl, rfl⟩
  · refine .inr ⟨A, c, ?_, ?_, fun j u hu => hcell j u ?_⟩
    · rw [List.length_take, Nat.min_eq_left hq]; rfl
    · rw [List.length_take]; omega
    · rw [List.getElem?_take] at hu
      split at hu
      · exact hu
      · cases hu
theorem lo_vals {w : World} {v : Value} {vs : List Value} {q : Nat} (h : ValsAt w v vs) (hq : q ≤ vs.length) : ValsAt w (loV q v) (vs.drop q) := by
  rcases h with ⟨rfl, rfl⟩ | ⟨A, c, rfl, hc, hcell⟩
  · obtain rfl : q = 0 := by simpa using hq
    exact .inl ⟨rfl, rfl⟩
  · refine .inr ⟨if c = q then A else A.add q, c - q, by rw [List.length_drop]; rfl, by rw [List.length_drop]; omega, fun j u hu => ?_⟩
    rw [List.getElem?_drop] at hu
    split
    · have := (List.getElem?_eq_some_iff.1 hu).1
      omega
    · rw [add_add']
      exact hcell _ u hu
section
variable {P : Program} {r : Option Nat} {n : Nat} {E : List (Nat × Value)} {C : Ctx} {H : List Res} {Q : Exit → Act → World → Prop} {ops : Array Oper} {rest : List Oper}
variable {dst : Option Tmp} {ty : TypeId} {pos : String} {after : Array Edge} {g : Option (Nat × Bool)} {x y : Operand} {xT : TypeId}
theorem does_vhi {v : Value} {vs : List Value} {q : Nat} (hT : sliceSize P xT = some 1) (hx : ev E x = some v) (hy : ev E y = some (.int .i64 (q : Int))) (hB : ∀ w, Own C H w → ValsAt w v vs) (hq : q ≤ vs.length) :
    Does P n E C H ⟨dst, .slice xT x none (some y) none, ty, pos, after, g⟩ (hiV q v) := fun a w hf ho => by
  rcases hB w ho with ⟨rfl, rfl⟩ | ⟨A, c, rfl, hc, _⟩
  · obtain rfl : q = 0 := by simpa using hq
    exact does_slice_hi0 hT hx hy a w hf ho
  · exact does_slice_hi hT hx hy ⟨Int.natCast_nonneg _, by omega⟩ a w hf ho
theorem does_vlo {v : Value} {vs : List Value} {q : Nat} (hT : sliceSize P xT = some 1) (hx : ev E x = some v) (hy : ev E y = some (.int .i64 (q : Int))) (hB : ∀ w, Own C H w → ValsAt w v vs) (hq : q ≤ vs.length) :
    Does P n E C H ⟨dst, .slice xT x (some y) none none, ty, pos, after, g⟩ (loV q v) := fun a w hf ho => by
  rcases hB w ho with ⟨rfl, rfl⟩ | ⟨A, c, rfl, hc, _⟩
  · obtain rfl : q = 0 := by simpa using hq
    exact does_slice_lo0 hT hx hy a w hf ho
  · have := does_slice_lo (q := q) (dst := dst) (ty := ty) (pos := pos) (after := after) (g := g) hT hx hy ⟨hq, hc⟩ a w hf ho
    rwa [Nat.mul_one] at this
theorem does_vlen {v : Value} {vs : List Value} {t : TypeId} (hT : sliceElem P t = true) (hx : ev E x = some v) (hB : ∀ w, Own C H w → ValsAt w v vs) : Does P n E C H ⟨dst, .call ⟨.builtin .len, #[x], #[t]⟩, ty, pos, after, g⟩ (.int .i64 (vs.length : Int)) := fun a w hf ho => by
  obtain ⟨A, c, rfl⟩ := (hB w ho).len
  exact does_len hT hx a w hf ho
end

/-! ### An append, and what it turns -/
theorem oneCell_of {v : Value} (h : v.oneCell' = true) : ∀ u ∈ [v], u.oneCell' = true := by
  intro u hu
  obtain rfl : u = v := by simpa using hu
  exact h
/-- What turns of a row that has room: it stands at g, has cap places, and is known up to m. -/
structure Turned (w : World) (e g cap m : Nat) (w' : World) : Prop where
  frm : Frm w (fun k => k = g) w'
  cells : ∃ cur cur' : Array Value, w.heap[g]? = some (.cells cur e) ∧ w'.heap[g]? = some (.cells cur' e) ∧ cur.size = cap ∧ cur'.size = cap ∧ cur'.toList.take m = cur.toList.take m
theorem Turned.row {w w' : World} {e g cap m q b : Nat} {v : Value} {xs : List Value} (h : Turned w e g cap m w') (hq : q ≤ m) (ho : w.ownsRow b e 1 v q xs) : w'.ownsRow b e 1 v q xs := by
  obtain ⟨cur, cur', h1, h2, h3, h4, h5⟩ := h.cells
  refine ⟨ho.1, ho.2.imp id ?_⟩
  rintro ⟨g', cap', c', rfl, hb, hg, hn, hm, hs, ht⟩
  by_cases he : g' = g
  · subst he
    rw [hg] at h1
    cases h1
    refine ⟨g', cap', cur', rfl, hb, h2, hn, hm, by omega, ?_⟩
    rw [Nat.mul_one] at ht ⊢
    have := congrArg (List.take q) h5
    rw [List.take_take, List.take_take, Nat.min_eq_left hq] at this
    rw [this]; exact ht
  · exact ⟨g', cap', c', rfl, hb, (h.frm.old g' (Array.getElem?_eq_some_iff.1 hg).1 he).trans hg, hn, hm, hs, ht⟩
theorem Turned.lits {w w' : World} {e g cap m b len : Nat} {cs : List Value} {v : Value} (h : Turned w e g cap m w') (hne : cs.length ≠ cap) (hl : LitsN b e len cs v w) : LitsN b e len cs v w' := by
  obtain ⟨h', hb, rfl, hh⟩ := hl
  refine ⟨h', hb, rfl, (h.frm.old h' (Array.getElem?_eq_some_iff.1 hh).1 fun he => ?_).trans hh⟩
  subst he
  obtain ⟨cur, cur', h1, _, h3, _⟩ := h.cells
  rw [hh] at h1
  cases h1
  simp at h3
  omega
/-- append of k values to a row: it grows anew, or turns its own spare room. -/
theorem run_append_turn {P : Program} {w : World} {t ty e by' m k b : Nat} {v arg : Value} {xs news : List Value} (hT : appT P t e 1 by' = true) (ho : w.ownsRow b e 1 v m xs) (hbw : b ≤ w.heap.size)
    (ha : ValsAt w arg news) (hl : news.length = k) (h1 : ∀ u ∈ news, u.oneCell' = true) (hb : m + k ≤ maxLen ∧ (m + k) * by' ≤ 140737488355328) :
    ∃ v' w', (Builtin.append_ #[t, t] ty #[v, arg]).run P w = .ok v' w' ∧ w'.ownsRow b e 1 v' (m + k) (xs ++ news) ∧
      ((Below w.heap.size w w' ∧ (k = 0 → v' = v)) ∨ ∃ g cap, v = .slice (some ⟨g, 0, none⟩) m cap ∧ v' = .slice (some ⟨g, 0, none⟩) (m + k) cap ∧ 0 < k ∧ b ≤ g ∧ m + k ≤ cap ∧ Turned w e g cap m w') := by
  obtain ⟨hu, i', z, q1, q2, q3, q4, q5, q6⟩ := appT_spec hT
  have nothing : k = 0 → ∀ A c, arg = .slice (some A) k c → (Builtin.append_ #[t, t] ty #[v, arg]).run P w = .ok v w := by
    rintro rfl A c rfl
    obtain rfl : news = [] := List.eq_nil_of_length_eq_zero hl
    rcases ho.2 with ⟨rfl, rfl⟩ | ⟨g, cap, cur, rfl, _, _, hnc, _⟩
    · simp [Builtin.append_, run_underlying hu, sizeOf, typeInfo, q1, Builtin.lenOf, Builtin.firstCells, loadCells, loadCellsFrom]
    · simp [Builtin.append_, run_underlying hu, sizeOf, typeInfo, q1, Builtin.lenOf, Builtin.firstCells, hnc, storeCells, loadCells, loadCellsFrom]
  rcases ha with ⟨rfl, rfl⟩ | ⟨A, c, rfl, hc, hn⟩
  · obtain rfl : k = 0 := by simpa using hl.symm
    exact ⟨v, w, run_append_owned_none (P := P) w b t ty e i' 1 hu q1 v m xs ho, by simpa using ho, .inl ⟨Below.refl _ _, fun _ => rfl⟩⟩
  · rw [hl] at nothing hc ⊢
    by_cases hk : k = 0
    · obtain rfl : news = [] := List.eq_nil_of_length_eq_zero (by omega)
      refine ⟨v, w, nothing hk A c rfl, by subst hk; simpa using ho, .inl ⟨Below.refl _ _, fun _ => rfl⟩⟩
    · obtain ⟨v', w', hr, h2, h3, h4⟩ := run_append_own (P := P) w b t ty e i' z 1 by' hu q1 q5 q2 q3 q6 q4 v m xs ho A k c news (by simpa using hl) hn h1 hb.1 hb.2 hbw
      rcases ho.2 with ⟨rfl, rfl⟩ | ⟨g0, cap, cur, rfl, hbg, hg, hmc, hcm, hsz, htake⟩
      · refine ⟨v', w', hr, h2, .inl ⟨⟨h3.os, h3.tape, h3.output, h3.size, fun b hb' => h3.block b hb' (by simp [Value.ownBlock])⟩, fun h => absurd h hk⟩⟩
      · by_cases hroom : m + k ≤ cap
        · obtain ⟨w3, hr3, h5, h6⟩ := run_append_fits (P := P) w b t ty e i' 1 hu q1 q2 g0 m cap xs ho A k c news (by simpa using hl) hn h1 hroom
          refine ⟨_, w3, hr3, h5, .inr ⟨g0, cap, rfl, rfl, by omega, hbg, hroom, ?_, ?_⟩⟩
          · exact (frm_grown (v := .slice (some ⟨g0, 0, none⟩) m cap) (e := e) (sz := 1) (m := m) (xs := xs) h6).mono fun k _ hk => by simpa [Res.blocks, Value.ownBlock] using hk
          · rcases h5.2 with ⟨h0, _⟩ | ⟨g', cap', cur', heq, _, hg', _, _, hsz', htake'⟩
            · cases h0
            · simp only [Value.slice.injEq, Option.some.injEq, Addr.mk.injEq, and_true, true_and] at heq
              obtain ⟨rfl, rfl⟩ := heq
              refine ⟨cur, cur', hg, hg', by omega, by omega, ?_⟩
              rw [Nat.mul_one] at htake htake'
              have := congrArg (List.take m) htake'
              have hxl : xs.length = m := by simpa using ho.1
              rw [List.take_take, Nat.min_eq_left (Nat.le_add_right m k), List.take_append_of_le_length (Nat.le_of_eq hxl.symm), List.take_of_length_le (Nat.le_of_eq hxl)] at this
              rw [this, htake]
        · have hr3 := run_append_grow (P := P) w t ty e i' z hu q1 q5 ⟨g0, 0, none⟩ m cap xs (by rw [q2]; exact ho.1) (ho.cells (g := g0) rfl) A k c news (by rw [q2]; simpa using hl) hn (by omega) (by have := hb.1; simp only [maxLen] at this; omega) (growslice_fits (by omega) (by rw [q3]; exact hb.2))
          rw [hr] at hr3
          cases hr3
          exact ⟨_, _, hr, h2, .inl ⟨Below.alloc (Below.drew (Below.refl _ _)) (Nat.le_refl _) _, fun h => absurd h hk⟩⟩
end Go.Proofs.YtjpfebgpcokenaaDoor
set_option linter.unusedSimpArgs false
set_option linter.unusedVariables false
namespace Go.Proofs.YtjpfebgpcokenaaDoor
open Go.RowKit

def itmV (x : Itm) : List Value := [.string (bs x.key), .int .i64 x.kind, .int .i64 x.num, .string (bs x.txt), .int .i64 x.ver]
def itms (xs : List Itm) : List Value := xs.flatMap itmV
theorem itmV_len (x : Itm) : (itmV x).length = 5 := rfl
theorem itms_len : ∀ xs : List Itm, (itms xs).length = xs.length * 5
  | [] => rfl
  | x :: xs => by
    have := itms_len xs
    simp only [itms, List.flatMap_cons, List.length_append, itmV_len, List.length_cons] at this ⊢
    omega
theorem itms_get : ∀ (xs : List Itm) (i : Nat) (h : i < xs.length) (j : Nat), j < 5 → (itms xs)[i * 5 + j]? = (itmV xs[i])[j]?
  | x :: xs, 0, _, j, hj => by
    simp only [itms, List.flatMap_cons, Nat.zero_mul, Nat.zero_add, List.getElem_cons_zero]
    rw [List.getElem?_append_left (by rw [itmV_len]; exact hj)]
  | x :: xs, i + 1, h, j, hj => by
    have ih := itms_get xs i (by simpa using h) j hj
    simp only [itms, List.flatMap_cons, List.getElem_cons_succ] at ih ⊢
    rw [List.getElem?_append_right (by rw [itmV_len]; omega), itmV_len, show (i + 1) * 5 + j - 5 = i * 5 + j by omega]
    exact ih
theorem itmV_one (x : Itm) : ∀ u ∈ itmV x, u.oneCell' = true := by
  intro u hu
  simp only [itmV, List.mem_cons, List.not_mem_nil, or_false] at hu
  rcases hu with rfl | rfl | rfl | rfl | rfl <;> rfl
theorem itms_one (xs : List Itm) : ∀ u ∈ itms xs, u.oneCell' = true := fun u hu => by
  obtain ⟨x, _, hx⟩ := List.mem_flatMap.1 hu
  exact itmV_one x u hx
/-- These items lie there. -/
def ItemsAt (w : World) (v : Value) (xs : List Itm) : Prop := (v = .slice none 0 0 ∧ xs = []) ∨
  ∃ A c, v = .slice (some A) xs.length c ∧ xs.length ≤ c ∧ ∀ j u, (itms xs)[j]? = some u → w.cell? (A.add j) = some u
theorem ItemsAt.keep {w w' : World} {v : Value} {xs : List Itm} (h : ItemsAt w v xs) (hb : Below w.heap.size w w') : ItemsAt w' v xs :=
  h.imp id fun ⟨A, c, h1, h0, h2⟩ => ⟨A, c, h1, h0, fun j u hu => Below.cellOld hb (h2 j u hu)⟩
theorem ItemsAt.len {w : World} {v : Value} {xs : List Itm} (h : ItemsAt w v xs) : ∃ A c, v = .slice A xs.length c := by
  rcases h with ⟨rfl, rfl⟩ | ⟨A, c, rfl, _, _⟩
  · exact ⟨none, 0, rfl⟩
  · exact ⟨_, c, rfl⟩
theorem ItemsAt.one {w : World} {v : Value} {xs : List Itm} (h : ItemsAt w v xs) : v.oneCell' = true := by
  obtain ⟨A, c, rfl⟩ := h.len
  rfl
/-- The cells of one. -/
def ItmAt (w : World) (gb o : Nat) (x : Itm) : Prop := ∀ j u, (itmV x)[j]? = some u → w.cell? ⟨gb, o + j, none⟩ = some u
theorem ItemsAt.form {w : World} {v : Value} {xs : List Itm} (h : ItemsAt w v xs) (hne : 0 < xs.length) : ∃ gb o c, v = .slice (some ⟨gb, o, none⟩) xs.length c ∧ xs.length ≤ c ∧ gb < w.heap.size ∧ ∀ i (hi : i < xs.length), ItmAt w gb (o + i * 5) xs[i] := by
  rcases h with ⟨_, rfl⟩ | ⟨⟨gb, o, sp⟩, c, rfl, hc, h2⟩
  · simp at hne
  · have h0 := h2 0 _ ((itms_get xs 0 hne 0 (by omega)).trans rfl)
    have hsp : sp = none := by
      cases sp with
      | none => rfl
      | some s => simp [Addr.add, World.cell?] at h0; split at h0 <;> simp at h0
    subst hsp
    refine ⟨gb, o, c, rfl, hc, World.block_lt_of_cell? _ _ h0, fun i hi j u hu => ?_⟩
    have hj : j < 5 := by have := (List.getElem?_eq_some_iff.1 hu).1; simpa [itmV_len] using this
    have := h2 (i * 5 + j) u ((itms_get xs i hi j hj).trans hu)
    rwa [add_none, ← Nat.add_assoc] at this
theorem ItmAt.keep {w w' : World} {gb o : Nat} {x : Itm} (h : ItmAt w gb o x) (hb : Below w.heap.size w w') : ItmAt w' gb o x := fun j u hu => Below.cellOld hb (h j u hu)
theorem ItmAt.agg {w : World} {gb o : Nat} {x : Itm} (h : ItmAt w gb o x) : ∀ j v, (itmV x)[j]? = some v → w.cell? ((⟨gb, o, none⟩ : Addr).add j) = some v := fun j v hv => by rw [add_none]; exact h j v hv
theorem ItmAt.key {w : World} {gb o : Nat} {x : Itm} (h : ItmAt w gb o x) : w.cell? ⟨gb, o + 0, none⟩ = some (.string (bs x.key)) := h 0 _ rfl
theorem items_of_row {w : World} {b e n : Nat} {v : Value} {xs : List Itm} (h : w.ownsRow b e 5 v n (itms xs)) : ItemsAt w v xs := by
  have hl : xs.length = n := by have := h.1; rw [itms_len] at this; omega
  rcases h.2 with ⟨rfl, h0⟩ | ⟨g, cap, cur, rfl, h1, hg, h2, h3, h4, h5⟩
  · exact .inl ⟨rfl, List.eq_nil_of_length_eq_zero (by omega)⟩
  · refine .inr ⟨⟨g, 0, none⟩, cap, by rw [hl], by omega, fun j u hu => ?_⟩
    rw [add_none, Nat.zero_add, cell_of_row w g j cur e (0, 0) hg]
    rw [← h5, List.getElem?_take] at hu
    split at hu
    · simpa using hu
    · cases hu
theorem Own.oldItems {w0 w b : World} {M F : Nat → Prop} {D : List Nat} {H : List Res} {v : Value} {xs : List Itm} (h : Own ⟨w0, fun _ => False, M, b, F, D⟩ H w) (hB : ItemsAt w0 v xs) : ItemsAt w v xs := hB.keep h.plain
theorem Own.since {C : Ctx} {H : List Res} {w : World} (h : Own C H w) (hF : ∀ k, ¬ C.F k) : Below C.w.heap.size C.w w := (h.base.mono (G := fun _ => False) fun k _ hk => hF k hk).toBelow
section
variable {P : Program} {n : Nat} {E : List (Nat × Value)} {C : Ctx} {H : List Res} {t : TypeId}
theorem at_retagg0 {fn : Func} {R : Ending → World → Prop} {s i h k : Nat} {tb : TypeId} {cs : Array Value} (hr : fn.results = #[.cell s t]) (hm : C.marks = []) (ht : eget E s = some (.pointer (some ⟨h, 0, none⟩))) (hi : H[i]? = some (.blk h tb cs)) (hT : aggT P t = some k) (hv : cs.size = k)
    (hk : ∀ w, Own C H w → R (.returned (.agg cs)) w) : At n E C H (fin P fn R .ret) := by
  intro a w hf hd ho
  refine fin_ret (v := .agg cs) hm hd ?_ (hk w ho)
  have h1 := hf.get s _ ht
  have h2 := run_loadAgg (P := P) (t := t) hT (ho.get hi) hv
  have h3 : a.tmps.getD s undef = .pointer (some ⟨h, 0, none⟩) := by rw [Array.getD_eq_getD_getElem?, h1]; rfl
  unfold results
  rw [hr]
  simp only [List.mapM_toArray, List.mapM_cons, List.mapM_nil, h3, asAddr, Sem.run_bind, Sem.run_pure, Result.andThen, map_eq_pure_bind, h2]
  rfl
/-- A struct and one more result. -/
theorem at_retagg1 {fn : Func} {R : Ending → World → Prop} {s u i h k : Nat} {tb : TypeId} {cs : Array Value} {x : Value} (hr : fn.results = #[.cell s t, .tmp u]) (hm : C.marks = []) (ht : eget E s = some (.pointer (some ⟨h, 0, none⟩))) (hu : eget E u = some x) (hi : H[i]? = some (.blk h tb cs)) (hT : aggT P t = some k) (hv : cs.size = k)
    (hk : ∀ w, Own C H w → R (.returned (.tuple #[.agg cs, x])) w) : At n E C H (fin P fn R .ret) := by
  intro a w hf hd ho
  refine fin_ret (v := .tuple #[.agg cs, x]) hm hd ?_ (hk w ho)
  have h1 := hf.get s _ ht
  have h4 := hf.get u _ hu
  have h2 := run_loadAgg (P := P) (t := t) hT (ho.get hi) hv
  have h3 : a.tmps.getD s undef = .pointer (some ⟨h, 0, none⟩) := by rw [Array.getD_eq_getD_getElem?, h1]; rfl
  have h5 : a.tmps.getD u undef = x := by rw [Array.getD_eq_getD_getElem?, h4]; rfl
  unfold results
  rw [hr]
  simp only [List.mapM_toArray, List.mapM_cons, List.mapM_nil, h3, h5, asAddr, Sem.run_bind, Sem.run_pure, Result.andThen, map_eq_pure_bind, h2]
  rfl
end
attribute [local irreducible] cwp lwp Exit.then Exit.inBlock Exit.noGoto wpQuiet Calls fin At AtQ Again endQ RQ
theorem short10 (l : List UInt8) (w : World) : Calls Tryd.prog 70 #[.string (bs l)] w fun e w' => e = .returned (.string (bs (l.take 60))) ∧ Below w.heap.size w w' := by
  refine calls_plain Tryd.func70 rfl Tryd.ntmps70 rfl ?_
  refine at_seq ?_
  refine at_region ?_
  refine at_do (does_assign rfl) rfl rfl ?_
  refine at_nil ?_
  refine at_then ?_
  refine at_seq ?_
  refine at_seq ?_
  refine at_region ?_
  refine at_do (does_move rfl) rfl rfl ?_
  refine at_do (does_slen (by kernel_rfl) rfl) rfl rfl ?_
  refine at_do (does_gtr rfl rfl) rfl rfl ?_
  refine at_nil ?_
  refine at_then ?_
  refine at_condD rfl (fun z0 => ?_) (fun z0 => ?_)
  refine at_seq ?_
  refine at_region ?_
  refine at_do (does_move rfl) rfl rfl ?_
  refine at_do (does_sslice_hi (by kernel_rfl) rfl rfl (by omega)) rfl rfl ?_
  refine at_do (does_assign rfl) rfl rfl ?_
  refine at_nil ?_
  refine at_then ?_
  refine at_ret ?_
  refine at_then_ret ?_
  refine at_ret1 rfl rfl rfl (fun w9 ho9 => ?_)
  rotate_left
  refine at_skip ?_
  refine at_then ?_
  refine at_seq ?_
  refine at_region ?_
  refine at_do (does_move rfl) rfl rfl ?_
  refine at_do (does_assign rfl) rfl rfl ?_
  refine at_nil ?_
  refine at_then ?_
  refine at_ret ?_
  refine at_ret1 rfl rfl rfl (fun w9 ho9 => ?_)
  rotate_left
  · exact ⟨rfl, ho9.plain⟩
  · exact ⟨by rw [List.take_of_length_le (by omega)], ho9.plain⟩
theorem short11 (l : List UInt8) (w : World) : Calls Tryd.prog 8 #[.string (bs l)] w fun e w' => e = .returned (.string (bs (l.take 60))) ∧ Below w.heap.size w w' := by
  refine calls_plain Tryd.func8 rfl Tryd.ntmps8 rfl ?_
  refine at_seq ?_
  refine at_region ?_
  refine at_do (does_assign rfl) rfl rfl ?_
  refine at_nil ?_
  refine at_then ?_
  refine at_seq ?_
  refine at_seq ?_
  refine at_region ?_
  refine at_do (does_move rfl) rfl rfl ?_
  refine at_do (does_slen (by kernel_rfl) rfl) rfl rfl ?_
  refine at_do (does_gtr rfl rfl) rfl rfl ?_
  refine at_nil ?_
  refine at_then ?_
  refine at_condD rfl (fun z0 => ?_) (fun z0 => ?_)
  refine at_seq ?_
  refine at_region ?_
  refine at_do (does_move rfl) rfl rfl ?_
  refine at_do (does_sslice_hi (by kernel_rfl) rfl rfl (by omega)) rfl rfl ?_
  refine at_do (does_assign rfl) rfl rfl ?_
  refine at_nil ?_
  refine at_then ?_
  refine at_ret ?_
  refine at_then_ret ?_
  refine at_ret1 rfl rfl rfl (fun w9 ho9 => ?_)
  rotate_left
  refine at_skip ?_
  refine at_then ?_
  refine at_seq ?_
  refine at_region ?_
  refine at_do (does_move rfl) rfl rfl ?_
  refine at_do (does_assign rfl) rfl rfl ?_
  refine at_nil ?_
  refine at_then ?_
  refine at_ret ?_
  refine at_ret1 rfl rfl rfl (fun w9 ho9 => ?_)
  rotate_left
  · exact ⟨rfl, ho9.plain⟩
  · exact ⟨by rw [List.take_of_length_le (by omega)], ho9.plain⟩
def oneI (x : Itm) : Itm := ⟨x.key.take 60, x.kind, x.num, x.txt.take 200, x.ver⟩
def itmA (x : Itm) : Value := .agg (itmV x).toArray
theorem law_One (x : Itm) (w : World) : Calls Tryd.prog 48 #[itmA x] w fun e w' => e = .returned (itmA (oneI x)) ∧ Below w.heap.size w w' := by
  refine calls_plain Tryd.func48 rfl Tryd.ntmps48 rfl ?_
  by_cases h : 200 < x.txt.length
  · refine at_seq ?_
    refine at_region ?_
    refine at_boxagg rfl rfl fun gz0 => ?_
    refine at_allocagg Tryd.zeroValue43 rfl fun gz1 => ?_
    refine at_nil ?_
    refine at_then ?_
    refine at_seq ?_
    refine at_region ?_
    refine at_do (does_fieldAddr (o := 0) (by kernel_rfl) rfl) rfl rfl ?_
    refine at_do (does_load (i := 1) (by kernel_rfl) rfl rfl rfl) rfl rfl ?_
    refine at_callv (f := 70) (enters_fn (by kernel_rfl) rfl) (fun w ho => short10 x.key w) rfl rfl ?_
    refine at_do (does_fieldAddr (o := 0) (by kernel_rfl) rfl) rfl rfl ?_
    refine at_store (i := 1) (by kernel_rfl) rfl rfl rfl rfl rfl ?_
    refine at_nil ?_
    refine at_then ?_
    refine at_seq ?_
    refine at_seq ?_
    refine at_region ?_
    refine at_do (does_fieldAddr (o := 1) (by kernel_rfl) rfl) rfl rfl ?_
    refine at_do (does_fieldAddr (o := 2) (by kernel_rfl) rfl) rfl rfl ?_
    refine at_do (does_load (i := 1) (by kernel_rfl) rfl rfl rfl) rfl rfl ?_
    refine at_do (does_slen (by kernel_rfl) rfl) rfl rfl ?_
    refine at_do (does_gtr rfl rfl) rfl rfl ?_
    refine at_nil ?_
    refine at_then ?_
    refine at_cond_t rfl (decide_eq_true (by omega)) ?_
    refine at_region ?_
    refine at_do (does_fieldAddr (o := 1) (by kernel_rfl) rfl) rfl rfl ?_
    refine at_do (does_fieldAddr (o := 2) (by kernel_rfl) rfl) rfl rfl ?_
    refine at_do (does_load (i := 1) (by kernel_rfl) rfl rfl rfl) rfl rfl ?_
    refine at_do (does_sslice_hi (by kernel_rfl) rfl rfl (by omega)) rfl rfl ?_
    refine at_do (does_fieldAddr (o := 1) (by kernel_rfl) rfl) rfl rfl ?_
    refine at_do (does_fieldAddr (o := 2) (by kernel_rfl) rfl) rfl rfl ?_
    refine at_store (i := 1) (by kernel_rfl) rfl rfl rfl rfl rfl ?_
    refine at_nil ?_
    refine at_then ?_
    refine at_seq ?_
    refine at_region ?_
    refine at_do (does_loadagg (i := 1) (k := 5) (by kernel_rfl) rfl rfl rfl) rfl rfl ?_
    refine at_storeagg (i := 0) (by kernel_rfl) rfl rfl rfl rfl rfl ?_
    refine at_nil ?_
    refine at_then ?_
    refine at_ret ?_
    refine at_retagg (i := 0) rfl rfl rfl (by kernel_rfl) rfl (fun w9 ho9 => ?_)
    rotate_left
    exact ⟨rfl, ho9.plain⟩
  · have e : oneI x = ⟨x.key.take 60, x.kind, x.num, x.txt, x.ver⟩ := by rw [oneI, List.take_of_length_le (l := x.txt) (by omega)]
    rw [e]
    refine at_seq ?_
    refine at_region ?_
    refine at_boxagg rfl rfl fun gz0 => ?_
    refine at_allocagg Tryd.zeroValue43 rfl fun gz1 => ?_
    refine at_nil ?_
    refine at_then ?_
    refine at_seq ?_
    refine at_region ?_
    refine at_do (does_fieldAddr (o := 0) (by kernel_rfl) rfl) rfl rfl ?_
    refine at_do (does_load (i := 1) (by kernel_rfl) rfl rfl rfl) rfl rfl ?_
    refine at_callv (f := 70) (enters_fn (by kernel_rfl) rfl) (fun w ho => short10 x.key w) rfl rfl ?_
    refine at_do (does_fieldAddr (o := 0) (by kernel_rfl) rfl) rfl rfl ?_
    refine at_store (i := 1) (by kernel_rfl) rfl rfl rfl rfl rfl ?_
    refine at_nil ?_
    refine at_then ?_
    refine at_seq ?_
    refine at_seq ?_
    refine at_region ?_
    refine at_do (does_fieldAddr (o := 1) (by kernel_rfl) rfl) rfl rfl ?_
    refine at_do (does_fieldAddr (o := 2) (by kernel_rfl) rfl) rfl rfl ?_
    refine at_do (does_load (i := 1) (by kernel_rfl) rfl rfl rfl) rfl rfl ?_
    refine at_do (does_slen (by kernel_rfl) rfl) rfl rfl ?_
    refine at_do (does_gtr rfl rfl) rfl rfl ?_
    refine at_nil ?_
    refine at_then ?_
    refine at_cond_f rfl (decide_eq_false (by omega)) ?_
    refine at_skip ?_
    refine at_then ?_
    refine at_seq ?_
    refine at_region ?_
    refine at_do (does_loadagg (i := 1) (k := 5) (by kernel_rfl) rfl rfl rfl) rfl rfl ?_
    refine at_storeagg (i := 0) (by kernel_rfl) rfl rfl rfl rfl rfl ?_
    refine at_nil ?_
    refine at_then ?_
    refine at_ret ?_
    refine at_retagg (i := 0) rfl rfl rfl (by kernel_rfl) rfl (fun w9 ho9 => ?_)
    rotate_left
    exact ⟨rfl, ho9.plain⟩
def cutI (xs : List Itm) : List Itm := (xs.take 66).map oneI
theorem cutI_take (xs : List Itm) (n i : Nat) (hn : n ≤ xs.length) (h : i < n) : ((xs.take (i + 1)).map oneI) = (xs.take i).map oneI ++ [oneI (xs[i]'(by omega))] := by
  rw [List.take_succ_eq_append_getElem (by omega), List.map_append]; rfl
theorem itms_snoc (xs : List Itm) (x : Itm) : itms (xs ++ [x]) = itms xs ++ itmV x := by simp [itms]
set_option maxHeartbeats 4000000 in
theorem law_items (arg : Value) (xs : List Itm) (w : World) (hV : ItemsAt w arg xs) (hn9 : xs.length ≤ 9223372036854775807) :
    Calls Tryd.prog 27 #[arg] w fun e w' => ∃ v, e = .returned v ∧ Below w.heap.size w w' ∧ w'.ownsRow w.heap.size 43 5 v (cutI xs).length (itms (cutI xs)) := by
  obtain ⟨A0, c0, rfl⟩ := hV.len
  by_cases hs : 66 < xs.length
  · obtain ⟨gb, o, c1, hv, hc, hlt, hce⟩ := hV.form (by omega)
    simp only [Value.slice.injEq, true_and] at hv
    obtain ⟨rfl, rfl⟩ := hv
    refine calls_plain Tryd.func27 rfl Tryd.ntmps27 rfl ?_
    refine at_seq ?_
    refine at_region ?_
    refine at_do (does_assign rfl) rfl rfl ?_
    refine at_nil ?_
    refine at_then ?_
    refine at_seq ?_
    refine at_seq ?_
    refine at_region ?_
    refine at_do (does_move rfl) rfl rfl ?_
    refine at_do (does_len (by kernel_rfl) rfl) rfl rfl ?_
    refine at_do (does_gtr rfl rfl) rfl rfl ?_
    refine at_nil ?_
    refine at_then ?_
    refine at_cond_t rfl (decide_eq_true (by omega)) ?_
    refine at_region ?_
    refine at_do (does_move rfl) rfl rfl ?_
    refine at_do (does_slice_hi (sz := 5) (by kernel_rfl) rfl rfl (by omega)) rfl rfl ?_
    refine at_do (does_assign rfl) rfl rfl ?_
    refine at_nil ?_
    refine at_then ?_
    refine at_seq ?_
    refine at_region ?_
    refine at_do (does_assign rfl) rfl rfl ?_
    refine at_nil ?_
    refine at_then ?_
    refine at_seq ?_
    refine at_seq ?_
    refine at_region ?_
    refine at_do (does_assign rfl) rfl rfl ?_
    refine at_nil ?_
    refine at_then ?_
    refine at_block ?_
    rotate_left
    refine at_nilrow 43 5 ?_
    obtain ⟨n, hn⟩ : ∃ n, n = 66 := ⟨_, rfl⟩
    have hnl : n ≤ xs.length := by omega
    refine at_weak (E' := [(0, .slice (some ⟨gb, o, none⟩) n c0), (3, .slice none 0 0), (4, .int .i64 0)]) ⟨by rw [hn]; rfl, rfl, rfl, trivial⟩ ?_
    refine at_loopH (σ := Value × Nat) (fun s => s.2 ≤ n) (fun s => [(0, .slice (some ⟨gb, o, none⟩) n c0), (3, s.1), (4, .int .i64 s.2)])
      (fun s => [.row s.1 43 5 s.2 (itms ((xs.take s.2).map oneI))]) (fun s => n - s.2)
      (fun w ho => ⟨(.slice none 0 0, 0), Nat.zero_le _, ⟨rfl, rfl, rfl, trivial⟩, ho⟩) ?_
    rintro ⟨v3, i⟩ hi
    simp only at hi
    by_cases hil : i < n
    · have hx := hce i (by omega)
      have hst := cutI_take xs n i hnl hil
      generalize xs[i] = x at hx hst
      refine at_seq ?_
      refine at_seq ?_
      refine at_region ?_
      refine at_do (does_move rfl) rfl rfl ?_
      refine at_do (does_move rfl) rfl rfl ?_
      refine at_do (does_len (by kernel_rfl) rfl) rfl rfl ?_
      refine at_do (does_lss rfl rfl) rfl rfl ?_
      refine at_nil ?_
      refine at_then ?_
      refine at_cond_t rfl (decide_eq_true (by omega)) ?_
      refine at_skip ?_
      refine at_then ?_
      refine at_seq ?_
      refine at_block ?_
      refine at_region ?_
      refine at_do (does_move rfl) rfl rfl ?_
      refine at_do (does_move rfl) rfl rfl ?_
      refine at_do (does_move rfl) rfl rfl ?_
      refine at_do (does_indexAddrk (k := 5) (j := i) (by kernel_rfl) rfl rfl hil) rfl rfl ?_
      refine at_do (does_loadagg_mem (vs := itmV x) (by kernel_rfl) rfl (fun w' ho => (hx.keep ho.plain).agg)) rfl rfl ?_
      refine at_callv (f := 48) (enters_fn (by kernel_rfl) rfl) (fun w ho => law_One x w) rfl rfl ?_
      refine at_buildSlice (e := 43) (sz := 5) (vs := [itmA (oneI x)]) (cs := itmV (oneI x)) (by kernel_rfl) rfl rfl rfl rfl rfl rfl (fun g => ?_)
      refine at_append (i := 1) (sz := 5) (by' := 56) (k := 1) (A := ⟨g, 0, none⟩) (news := itmV (oneI x)) (by kernel_rfl) rfl rfl rfl rfl (fun w ho => lit_cells ho (i := 0) rfl) (itmV_one _) (by simp only [maxLen]; omega) rfl (fun v' hv' => ?_)
      refine at_do (does_assign rfl) rfl rfl ?_
      refine at_nil ?_
      refine at_inb ?_
      refine at_then ?_
      refine at_region ?_
      refine at_do (does_move rfl) rfl rfl ?_
      refine at_do (does_addi rfl rfl (by (first | omega | (simp only; omega)))) rfl rfl ?_
      refine at_do (does_assign rfl) rfl rfl ?_
      refine at_nil ?_
      refine at_then ?_
      rotate_left
      refine at_againw fun w' ho => ⟨(v', i + 1), by show i + 1 ≤ n; omega, by show n - (i + 1) < n - i; omega, ⟨rfl, rfl, rfl, trivial⟩, rfl, ?_⟩
      show Own _ [.row v' 43 5 (i + 1) (itms ((xs.take (i + 1)).map oneI))] w'
      rw [hst, itms_snoc]
      exact ho.sublist (List.sublist_cons_self ..)
    · obtain rfl : i = n := by omega
      refine at_seq ?_
      refine at_seq ?_
      refine at_region ?_
      refine at_do (does_move rfl) rfl rfl ?_
      refine at_do (does_move rfl) rfl rfl ?_
      refine at_do (does_len (by kernel_rfl) rfl) rfl rfl ?_
      refine at_do (does_lss rfl rfl) rfl rfl ?_
      refine at_nil ?_
      refine at_then ?_
      refine at_cond_f rfl (decide_eq_false (by omega)) ?_
      refine at_exit ?_
      refine at_then_exit ?_
      refine at_then_exit ?_
      refine at_inb_here ?_
      refine at_then ?_
      refine at_seq ?_
      refine at_region ?_
      refine at_do (does_move rfl) rfl rfl ?_
      refine at_do (does_assign rfl) rfl rfl ?_
      refine at_nil ?_
      refine at_then ?_
      refine at_ret ?_
      refine at_ret1 rfl rfl rfl (fun w9 ho9 => ?_)
      rotate_left
      have hl : (cutI xs).length = i := by simp [cutI]; omega
      have e : (xs.take i).map oneI = cutI xs := by rw [hn]; rfl
      rw [hl, ← e]
      exact ⟨_, rfl, ho9.plain, ho9.rowOut (List.mem_cons_self ..)⟩
  · refine calls_plain Tryd.func27 rfl Tryd.ntmps27 rfl ?_
    refine at_seq ?_
    refine at_region ?_
    refine at_do (does_assign rfl) rfl rfl ?_
    refine at_nil ?_
    refine at_then ?_
    refine at_seq ?_
    refine at_seq ?_
    refine at_region ?_
    refine at_do (does_move rfl) rfl rfl ?_
    refine at_do (does_len (by kernel_rfl) rfl) rfl rfl ?_
    refine at_do (does_gtr rfl rfl) rfl rfl ?_
    refine at_nil ?_
    refine at_then ?_
    refine at_cond_f rfl (decide_eq_false (by omega)) ?_
    refine at_skip ?_
    refine at_then ?_
    refine at_seq ?_
    refine at_region ?_
    refine at_do (does_assign rfl) rfl rfl ?_
    refine at_nil ?_
    refine at_then ?_
    refine at_seq ?_
    refine at_seq ?_
    refine at_region ?_
    refine at_do (does_assign rfl) rfl rfl ?_
    refine at_nil ?_
    refine at_then ?_
    refine at_block ?_
    rotate_left
    refine at_nilrow 43 5 ?_
    obtain ⟨n, hn⟩ : ∃ n, n = xs.length := ⟨_, rfl⟩
    have hnl : n ≤ xs.length := by omega
    refine at_weak (E' := [(0, .slice A0 n c0), (3, .slice none 0 0), (4, .int .i64 0)]) ⟨by rw [hn]; rfl, rfl, rfl, trivial⟩ ?_
    refine at_loopH (σ := Value × Nat) (fun s => s.2 ≤ n) (fun s => [(0, .slice A0 n c0), (3, s.1), (4, .int .i64 s.2)])
      (fun s => [.row s.1 43 5 s.2 (itms ((xs.take s.2).map oneI))]) (fun s => n - s.2)
      (fun w ho => ⟨(.slice none 0 0, 0), Nat.zero_le _, ⟨rfl, rfl, rfl, trivial⟩, ho⟩) ?_
    rintro ⟨v3, i⟩ hi
    simp only at hi
    by_cases hil : i < n
    · obtain ⟨gb, o, c1, hv, hc, hlt, hce⟩ := hV.form (by omega)
      simp only [Value.slice.injEq, true_and] at hv
      obtain ⟨rfl, rfl⟩ := hv
      have hx := hce i (by omega)
      have hst := cutI_take xs n i hnl hil
      generalize xs[i] = x at hx hst
      refine at_seq ?_
      refine at_seq ?_
      refine at_region ?_
      refine at_do (does_move rfl) rfl rfl ?_
      refine at_do (does_move rfl) rfl rfl ?_
      refine at_do (does_len (by kernel_rfl) rfl) rfl rfl ?_
      refine at_do (does_lss rfl rfl) rfl rfl ?_
      refine at_nil ?_
      refine at_then ?_
      refine at_cond_t rfl (decide_eq_true (by omega)) ?_
      refine at_skip ?_
      refine at_then ?_
      refine at_seq ?_
      refine at_block ?_
      refine at_region ?_
      refine at_do (does_move rfl) rfl rfl ?_
      refine at_do (does_move rfl) rfl rfl ?_
      refine at_do (does_move rfl) rfl rfl ?_
      refine at_do (does_indexAddrk (k := 5) (j := i) (by kernel_rfl) rfl rfl hil) rfl rfl ?_
      refine at_do (does_loadagg_mem (vs := itmV x) (by kernel_rfl) rfl (fun w' ho => (hx.keep ho.plain).agg)) rfl rfl ?_
      refine at_callv (f := 48) (enters_fn (by kernel_rfl) rfl) (fun w ho => law_One x w) rfl rfl ?_
      refine at_buildSlice (e := 43) (sz := 5) (vs := [itmA (oneI x)]) (cs := itmV (oneI x)) (by kernel_rfl) rfl rfl rfl rfl rfl rfl (fun g => ?_)
      refine at_append (i := 1) (sz := 5) (by' := 56) (k := 1) (A := ⟨g, 0, none⟩) (news := itmV (oneI x)) (by kernel_rfl) rfl rfl rfl rfl (fun w ho => lit_cells ho (i := 0) rfl) (itmV_one _) (by simp only [maxLen]; omega) rfl (fun v' hv' => ?_)
      refine at_do (does_assign rfl) rfl rfl ?_
      refine at_nil ?_
      refine at_inb ?_
      refine at_then ?_
      refine at_region ?_
      refine at_do (does_move rfl) rfl rfl ?_
      refine at_do (does_addi rfl rfl (by (first | omega | (simp only; omega)))) rfl rfl ?_
      refine at_do (does_assign rfl) rfl rfl ?_
      refine at_nil ?_
      refine at_then ?_
      rotate_left
      refine at_againw fun w' ho => ⟨(v', i + 1), by show i + 1 ≤ n; omega, by show n - (i + 1) < n - i; omega, ⟨rfl, rfl, rfl, trivial⟩, rfl, ?_⟩
      show Own _ [.row v' 43 5 (i + 1) (itms ((xs.take (i + 1)).map oneI))] w'
      rw [hst, itms_snoc]
      exact ho.sublist (List.sublist_cons_self ..)
    · obtain rfl : i = n := by omega
      refine at_seq ?_
      refine at_seq ?_
      refine at_region ?_
      refine at_do (does_move rfl) rfl rfl ?_
      refine at_do (does_move rfl) rfl rfl ?_
      refine at_do (does_len (by kernel_rfl) rfl) rfl rfl ?_
      refine at_do (does_lss rfl rfl) rfl rfl ?_
      refine at_nil ?_
      refine at_then ?_
      refine at_cond_f rfl (decide_eq_false (by omega)) ?_
      refine at_exit ?_
      refine at_then_exit ?_
      refine at_then_exit ?_
      refine at_inb_here ?_
      refine at_then ?_
      refine at_seq ?_
      refine at_region ?_
      refine at_do (does_move rfl) rfl rfl ?_
      refine at_do (does_assign rfl) rfl rfl ?_
      refine at_nil ?_
      refine at_then ?_
      refine at_ret ?_
      refine at_ret1 rfl rfl rfl (fun w9 ho9 => ?_)
      rotate_left
      have hl : (cutI xs).length = i := by simp [cutI]; omega
      have e : (xs.take i).map oneI = cutI xs := by rw [cutI, List.take_of_length_le (by omega), List.take_of_length_le (by omega)]
      rw [hl, ← e]
      exact ⟨_, rfl, ho9.plain, ho9.rowOut (List.mem_cons_self ..)⟩
end Go.Proofs.YtjpfebgpcokenaaDoor
set_option linter.unusedSimpArgs false
set_option linter.unusedVariables false
namespace Go.Proofs.YtjpfebgpcokenaaDoor
open Go.RowKit

/-- Items that lie out of these blocks. -/
def KeptI (w : World) (B : Nat → Prop) (v : Value) (xs : List Itm) : Prop := ItemsAt w v xs ∧ (0 < xs.length → ∀ g ∈ v.ownBlock, ¬ B g)
theorem KeptI.move {w w' : World} {B B' : Nat → Prop} {v : Value} {xs : List Itm} (h : KeptI w B v xs) (hf : Frm w B w') (hB : ∀ k, k < w.heap.size → B' k → B k) : KeptI w' B' v xs := by
  refine ⟨?_, fun hl g hg hb => ?_⟩
  · by_cases hl : 0 < xs.length
    · obtain ⟨gb, o, c, rfl, hc, hlt, hce⟩ := h.1.form hl
      refine .inr ⟨⟨gb, o, none⟩, c, rfl, hc, fun j u hu => ?_⟩
      have hn := h.2 hl gb (by simp [Value.ownBlock])
      rcases h.1 with ⟨e, _⟩ | ⟨A, c', e, _, h2⟩
      · cases e
      · simp only [Value.slice.injEq, Option.some.injEq, true_and] at e
        obtain ⟨rfl, rfl⟩ := e
        have := h2 j u hu
        rw [add_none] at this ⊢
        exact (World.cell?_of_block (hf.old gb hlt hn)).trans this
    · obtain rfl : xs = [] := List.eq_nil_of_length_eq_zero (by omega)
      rcases h.1 with ⟨rfl, _⟩ | ⟨A, c, rfl, hc, _⟩
      · exact .inl ⟨rfl, rfl⟩
      · exact .inr ⟨A, c, rfl, hc, fun j u hu => by simp [itms] at hu⟩
  · obtain ⟨gb, o, c, rfl, hc, hlt, hce⟩ := h.1.form hl
    have hg' : g = gb := by simpa [Value.ownBlock] using hg.symm
    subst hg'
    exact h.2 hl g hg (hB g hlt hb)
/-- Leaves that lie out of these blocks. -/
structure TrunkV (w : World) (B : Nat → Prop) (ls : List Value) (fs : List (List Itm)) : Prop where
  l1 : ls.length = 16
  l2 : fs.length = 16
  at' : ∀ i, i < 16 → ∃ v, ls[i]? = some v ∧ KeptI w B v (fs.getD i [])
theorem TrunkV.move {w w' : World} {B B' : Nat → Prop} {ls : List Value} {fs : List (List Itm)} (h : TrunkV w B ls fs) (hf : Frm w B w') (hB : ∀ k, k < w.heap.size → B' k → B k) : TrunkV w' B' ls fs :=
  ⟨h.l1, h.l2, fun i hi => by obtain ⟨v, h1, h2⟩ := h.at' i hi; exact ⟨v, h1, h2.move hf hB⟩⟩
theorem TrunkV.keep {w w' : World} {B : Nat → Prop} {ls : List Value} {fs : List (List Itm)} (h : TrunkV w B ls fs) (hb : Below w.heap.size w w') : TrunkV w' B ls fs :=
  h.move (Frm.ofBelow hb fun k hk hB => absurd hB (by omega)) (fun _ _ h => h)
abbrev Nof : Nat → Prop := fun _ => False
def versV (vs : List Int) : List Value := vs.map fun z => .int .i64 z
def trunkC (ls : List Value) (vs : List Int) : Array Value := (ls ++ versV vs).toArray
def trunkA (ls : List Value) (vs : List Int) : Value := .agg (trunkC ls vs)
theorem trunk_size {ls : List Value} {vs : List Int} (h1 : ls.length = 16) (h2 : vs.length = 16) : (trunkC ls vs).size = 32 := by simp [trunkC, versV, h1, h2]
theorem trunk_leaf {ls : List Value} {vs : List Int} {i : Nat} {v : Value} (h1 : ls.length = 16) (h : ls[i]? = some v) : (trunkC ls vs)[i]? = some v := by
  have hi : i < ls.length := (List.getElem?_eq_some_iff.1 h).1
  simp only [trunkC, List.getElem?_toArray]
  rw [List.getElem?_append_left hi]; exact h
theorem trunk_ver {ls : List Value} {vs : List Int} {i : Nat} (h1 : ls.length = 16) (h2 : vs.length = 16) (hi : i < 16) : (trunkC ls vs)[16 + i]? = some (.int .i64 (vs.getD i 0)) := by
  simp only [trunkC, List.getElem?_toArray, versV]
  rw [List.getElem?_append_right (by omega), List.getElem?_map, h1, show 16 + i - 16 = i by omega, List.getElem?_eq_getElem (by omega)]
  simp [List.getD_eq_getElem?_getD, h2, hi]
theorem trunk_set {ls : List Value} {vs : List Int} {i : Nat} {v : Value} (h1 : ls.length = 16) (hi : i < 16) : (trunkC ls vs).setIfInBounds i v = trunkC (ls.set i v) vs := by
  apply Array.ext'
  simp only [trunkC, Array.toList_setIfInBounds, List.toList_toArray]
  rw [List.set_append_left _ _ (by omega)]
theorem trunk_one {w : World} {B : Nat → Prop} {ls : List Value} {fs : List (List Itm)} {vs : List Int} (h : TrunkV w B ls fs) : ((trunkC ls vs).toList.all (·.oneCell')) = true := by
  rw [List.all_eq_true]
  intro u hu
  simp only [trunkC, List.toList_toArray, versV, List.mem_append, List.mem_map] at hu
  rcases hu with hu | ⟨z, _, rfl⟩
  · obtain ⟨i, hi, rfl⟩ := List.getElem_of_mem hu
    obtain ⟨v, h1, h2⟩ := h.at' i (by have := h.l1; omega)
    rw [List.getElem?_eq_getElem hi] at h1
    cases h1
    exact h2.1.one
  · rfl
section
variable {P : Program} {n : Nat} {E : List (Nat × Value)} {C : Ctx} {H : List Res} {dst : Option Tmp} {ty : TypeId} {pos : String} {after : Array Edge} {g : Option (Nat × Bool)} {x y : Operand} {xT t : TypeId}
theorem does_indexArr1 {h o len j : Nat} {kk : IntKind} (hT : arrSize P xT len = some 1) (hx : ev E x = some (.pointer (some ⟨h, o, none⟩))) (hy : ev E y = some (.int kk (j : Int))) (hp : j < len) : Does P n E C H ⟨dst, .indexAddr xT x y, ty, pos, after, g⟩ (.pointer (some ⟨h, o + j, none⟩)) := by
  have := does_indexArr (P := P) (n := n) (C := C) (H := H) (dst := dst) (ty := ty) (pos := pos) (after := after) (g := g) hT hx hy (by omega)
  simpa using this
end
attribute [local irreducible] cwp lwp Exit.then Exit.inBlock Exit.noGoto wpQuiet Calls fin At AtQ Again endQ RQ
def zeroT : Array Value := (List.replicate 16 (Value.slice none 0 0) ++ List.replicate 16 (Value.int .i64 0)).toArray
def cutT (fs : List (List Itm)) : List (List Itm) := fs.map cutI
theorem cutT_get (fs : List (List Itm)) (i : Nat) (h : i < fs.length) : (cutT fs).getD i [] = cutI (fs.getD i []) := by simp [cutT, List.getD_eq_getElem?_getD, h]
theorem items_own {C : Ctx} {H : List Res} {w : World} {v : Value} {xs : List Itm} (ho : Own C H w) (hV : ItemsAt w v xs) (hn : xs.length ≤ 9223372036854775807) :
    Calls Tryd.prog 27 #[v] w fun e w' => ∃ u, e = .returned u ∧ Below w.heap.size w w' ∧ KeptI w' (fun k => k ∈ bls H) u (cutI xs) :=
  (law_items v xs w hV hn).mono fun e w' ⟨u, q1, q2, q3⟩ => ⟨u, q1, q2, items_of_row q3, fun _ g hg hb => by
    have := (q3.lt g hg).1
    have := ho.lt g hb
    omega⟩
set_option maxHeartbeats 4000000 in
theorem law_Few (ls : List Value) (vs : List Int) (fs : List (List Itm)) (w : World) (hT : TrunkV w Nof ls fs) (hvs : vs.length = 16) (hn : ∀ i, (fs.getD i []).length ≤ 9223372036854775807) :
    Calls Tryd.prog 7 #[trunkA ls vs] w fun e w' => ∃ v, e = .returned v ∧ Below w.heap.size w w' ∧ ∃ ls', v = trunkA ls' vs ∧ TrunkV w' Nof ls' (cutT fs) := by
  have hl1 := hT.l1
  have hl2 := hT.l2
  refine calls_plain Tryd.func7 rfl Tryd.ntmps7 rfl ?_
  refine at_seq ?_
  refine at_region ?_
  refine at_boxagg rfl rfl fun gz0 => ?_
  refine at_allocagg Tryd.zeroValue26 rfl fun gz1 => ?_
  refine at_nil ?_
  refine at_then ?_
  refine at_seq ?_
  refine at_seq ?_
  refine at_region ?_
  refine at_do (does_assign rfl) rfl rfl ?_
  refine at_nil ?_
  refine at_then ?_
  refine at_block ?_
  rotate_left
  refine at_loop (σ := World × List Value × Nat) (fun s => s.2.2 ≤ 16 ∧ s.2.1.length = 16 ∧ (∀ j, j < s.2.2 → ∃ u, s.2.1[j]? = some u ∧ KeptI s.1 (fun k => k ∈ bls [Res.blk gz1 26 zeroT, Res.blk gz0 26 (trunkC s.2.1 vs)]) u (cutI (fs.getD j []))) ∧ (∀ j, s.2.2 ≤ j → j < 16 → s.2.1[j]? = ls[j]?))
    (fun s => [(1, .pointer (some ⟨gz0, 0, none⟩)), (2, .pointer (some ⟨gz1, 0, none⟩)), (3, .int .i64 s.2.2)])
    (fun s => ⟨w, fun _ => False, fun _ => False, s.1, fun k => k ∈ bls [Res.blk gz1 26 zeroT, Res.blk gz0 26 (trunkC s.2.1 vs)], []⟩) (fun s => [.blk gz1 26 zeroT, .blk gz0 26 (trunkC s.2.1 vs)]) (fun s => 16 - s.2.2)
    (fun w1 ho => ⟨(w1, ls, 0), ⟨Nat.zero_le _, hl1, fun j hj => absurd hj (by simp), fun j _ _ => rfl⟩, ⟨rfl, rfl, rfl, trivial⟩, rfl, ho.re⟩) ?_
  rintro ⟨W1, us, b⟩ ⟨hb, hul, hK, hN⟩
  simp only at hb hul hK hN
  by_cases hb16 : b < 16
  · obtain ⟨vb, hvb, hvi⟩ := hT.at' b hb16
    have hub : us[b]? = some vb := (hN b (Nat.le_refl _) hb16).trans hvb
    have hcs : (trunkC us vs)[0 + 0 + b]? = some vb := by rw [show 0 + 0 + b = b by omega]; exact trunk_leaf hul hub
    have hfn := hn b
    have hlt : Nat.blt (0 + 0 + b) (trunkC us vs).size = true := by rw [trunk_size hul hvs]; simp; omega
    refine at_seq ?_
    refine at_seq ?_
    refine at_region ?_
    refine at_do (does_move rfl) rfl rfl ?_
    refine at_do (does_lss rfl rfl) rfl rfl ?_
    refine at_nil ?_
    refine at_then ?_
    refine at_cond_t rfl (decide_eq_true (by (simp only; omega))) ?_
    refine at_skip ?_
    refine at_then ?_
    refine at_seq ?_
    refine at_block ?_
    refine at_region ?_
    refine at_do (does_move rfl) rfl rfl ?_
    refine at_do (does_move rfl) rfl rfl ?_
    refine at_do (does_fieldAddr (o := 0) (by kernel_rfl) rfl) rfl rfl ?_
    refine at_do (does_indexArr1 (len := 16) (j := b) (by kernel_rfl) rfl rfl hb16) rfl rfl ?_
    refine at_do (does_load (i := 1) (by kernel_rfl) rfl rfl hcs) rfl rfl ?_
    refine at_callk (f := 27) (Φ := fun u w' => KeptI w' (fun k => k ∈ bls [Res.blk gz1 26 zeroT, Res.blk gz0 26 (trunkC us vs)]) u (cutI (fs.getD b []))) (enters_fn (by kernel_rfl) rfl) (fun w ho => items_own ho (ho.oldItems hvi.1) hfn) rfl rfl (fun u w2 hw2 hu => ?_)
    refine at_do (does_fieldAddr (o := 0) (by kernel_rfl) rfl) rfl rfl ?_
    refine at_do (does_indexArr1 (len := 16) (j := b) (by kernel_rfl) rfl rfl hb16) rfl rfl ?_
    refine at_store (i := 1) (by kernel_rfl) rfl rfl (hu.1.one) rfl hlt ?_
    refine at_nil ?_
    refine at_inb ?_
    refine at_then ?_
    refine at_region ?_
    refine at_do (does_move rfl) rfl rfl ?_
    refine at_do (does_addi rfl rfl (by (first | omega | (simp only; omega)))) rfl rfl ?_
    refine at_do (does_assign rfl) rfl rfl ?_
    refine at_nil ?_
    refine at_then ?_
    rotate_left
    have hset : (trunkC us vs).setIfInBounds (0 + 0 + b) u = trunkC (us.set b u) vs := by rw [show 0 + 0 + b = b by omega]; exact trunk_set hul hb16
    refine at_againw fun w' ho => ⟨(w', us.set b u, b + 1), ⟨by show b + 1 ≤ 16; omega, by show (us.set b u).length = 16; simpa using hul, fun j hj => ?_, fun j hj hj16 => ?_⟩, by show 16 - (b + 1) < 16 - b; omega, ⟨rfl, rfl, rfl, trivial⟩, rfl, ?_⟩
    · have hj : j < b + 1 := hj
      have hf2 : Frm w2 (fun k => k ∈ bls [Res.blk gz1 26 zeroT, Res.blk gz0 26 (trunkC us vs)]) w' := ho.base
      have hbe : ∀ k, k ∈ bls [Res.blk gz1 26 zeroT, Res.blk gz0 26 (trunkC (us.set b u) vs)] → k ∈ bls [Res.blk gz1 26 zeroT, Res.blk gz0 26 (trunkC us vs)] := fun k hk => by simpa [bls, Res.blocks] using hk
      by_cases hjb : j < b
      · obtain ⟨u', q1, q2⟩ := hK j hjb
        refine ⟨u', by show (us.set b u)[j]? = some u'; rw [List.getElem?_set_ne (by omega)]; exact q1, (q2.move hw2.base (fun _ _ h => h)).move hf2 (fun k _ h => hbe k h)⟩
      · obtain rfl : j = b := by omega
        exact ⟨u, by show (us.set j u)[j]? = some u; rw [List.getElem?_set_self (by omega)], hu.move hf2 (fun k _ h => hbe k h)⟩
    · show (us.set b u)[j]? = ls[j]?
      have hj : b + 1 ≤ j := hj
      rw [List.getElem?_set_ne (by omega)]
      exact hN j (by omega) hj16
    · have := ho.re
      simp only [List.set_cons_succ, List.set_cons_zero] at this
      rw [hset] at this
      exact this
  · obtain rfl : b = 16 := by omega
    have hkeep : TrunkV W1 (fun k => k ∈ bls [Res.blk gz1 26 zeroT, Res.blk gz0 26 (trunkC us vs)]) us (cutT fs) := ⟨hul, by simp [cutT, hl2], fun i hi => by
      obtain ⟨u, q1, q2⟩ := hK i hi
      exact ⟨u, q1, by rw [cutT_get fs i (by omega)]; exact q2⟩⟩
    have h32 := trunk_size hul hvs
    refine at_seq ?_
    refine at_seq ?_
    refine at_region ?_
    refine at_do (does_move rfl) rfl rfl ?_
    refine at_do (does_lss rfl rfl) rfl rfl ?_
    refine at_nil ?_
    refine at_then ?_
    refine at_cond_f rfl (decide_eq_false (by (simp only; omega))) ?_
    refine at_exit ?_
    refine at_then_exit ?_
    refine at_then_exit ?_
    refine at_inb_here ?_
    refine at_then ?_
    refine at_seq ?_
    refine at_region ?_
    refine at_do (does_loadagg (i := 1) (k := 32) (by kernel_rfl) rfl rfl h32) rfl rfl ?_
    refine at_storeagg (i := 0) (h := gz1) (cs := zeroT) (vs := trunkC us vs) (by rw [h32]; kernel_rfl) rfl rfl (trunk_one hkeep) rfl (by rw [h32]; rfl) ?_
    refine at_nil ?_
    refine at_then ?_
    refine at_ret ?_
    refine at_retagg0 (i := 0) (k := 32) rfl rfl rfl rfl (by kernel_rfl) h32 (fun w9 ho9 => ?_)
    rotate_left
    exact ⟨_, rfl, ho9.plain, us, rfl, hkeep.move ho9.base (fun _ _ h => h.elim)⟩
end Go.Proofs.YtjpfebgpcokenaaDoor
