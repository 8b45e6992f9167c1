/-
  What each operation does, in a frame and a memory that are known by lists. No condition of its own.
-/
import Derived.Test.YtjpfebgpcokenaaDoorStep
import Derived.IntWalk
set_option linter.unusedSimpArgs false
set_option linter.unusedVariables false
namespace Go.Proofs.YtjpfebgpcokenaaDoor
open Go.RowKit

section
variable {P : Program} {n : Nat} {E E' : List (Nat × Value)} {C : Ctx} {H : List Res} {Q : Exit → Act → World → Prop} {K : Act → World → Prop} {ops : Array Oper} {rest : List Oper}
variable {dst : Option Tmp} {ty : TypeId} {pos : String} {after : Array Edge} {g : Option (Nat × Bool)} {x y z : Operand} {xT yT : TypeId}

theorem does_move {v : Value} (hx : ev E x = some v) : Does P n E C H ⟨dst, .move x, ty, pos, after, g⟩ v := by
  intro a w hf ho; simp only [execOp, hf.eval hx]; simp [Sem.run, pure]
theorem does_assign {v : Value} (hx : ev E x = some v) : Does P n E C H ⟨dst, .assign x, ty, pos, after, g⟩ v := by
  intro a w hf ho; simp only [execOp, hf.eval hx]; simp [Sem.run, pure]
theorem does_pick {t : Bool} {u v : Value} (hc : ev E x = some (.bool t)) (hu : ev E y = some u) (hv : ev E z = some v) : Does P n E C H ⟨dst, .pick x y z, ty, pos, after, g⟩ (if t then u else v) := by
  intro a w hf ho; cases t <;> (simp only [execOp, hf.eval hc, hf.eval hu, hf.eval hv]; simp [go_sem])
theorem does_pick_true {u : Value} (hc : ev E x = some (.bool true)) (hu : ev E y = some u) : Does P n E C H ⟨dst, .pick x y z, ty, pos, after, g⟩ u := by
  intro a w hf ho; simp only [execOp, hf.eval hc, hf.eval hu]; simp [go_sem]
theorem does_pick_false {v : Value} (hc : ev E x = some (.bool false)) (hv : ev E z = some v) : Does P n E C H ⟨dst, .pick x y z, ty, pos, after, g⟩ v := by
  intro a w hf ho; simp only [execOp, hf.eval hc, hf.eval hv]; simp [go_sem]

theorem beq_dec (p q : Int) : (p == q) = decide (p = q) := by rw [Bool.eq_iff_iff]; simp
section ints
variable {k : IntKind} {p q : Int}
theorem does_add (hx : ev E x = some (.int k p)) (hy : ev E y = some (.int k q)) : Does P n E C H ⟨dst, .binOp .add xT x y yT, ty, pos, after, g⟩ (.int k (k.wrap (p + q))) := by
  intro a w hf ho; simp only [execOp, hf.eval hx, hf.eval hy]; simp [go_sem, eqGuard, binOp, Op.intArith]
theorem does_sub (hx : ev E x = some (.int k p)) (hy : ev E y = some (.int k q)) : Does P n E C H ⟨dst, .binOp .sub xT x y yT, ty, pos, after, g⟩ (.int k (k.wrap (p - q))) := by
  intro a w hf ho; simp only [execOp, hf.eval hx, hf.eval hy]; simp [go_sem, eqGuard, binOp, Op.intArith]
theorem does_mul (hx : ev E x = some (.int k p)) (hy : ev E y = some (.int k q)) : Does P n E C H ⟨dst, .binOp .mul xT x y yT, ty, pos, after, g⟩ (.int k (k.wrap (p * q))) := by
  intro a w hf ho; simp only [execOp, hf.eval hx, hf.eval hy]; simp [go_sem, eqGuard, binOp, Op.intArith]
theorem does_quo (hx : ev E x = some (.int k p)) (hy : ev E y = some (.int k q)) (hq : q ≠ 0) : Does P n E C H ⟨dst, .binOp .quo xT x y yT, ty, pos, after, g⟩ (.int k (k.wrap (p.tdiv q))) := by
  intro a w hf ho; simp only [execOp, hf.eval hx, hf.eval hy]; simp [go_sem, eqGuard, binOp, Op.intDiv, hq]
theorem does_rem (hx : ev E x = some (.int k p)) (hy : ev E y = some (.int k q)) (hq : q ≠ 0) : Does P n E C H ⟨dst, .binOp .rem xT x y yT, ty, pos, after, g⟩ (.int k (p.tmod q)) := by
  intro a w hf ho; simp only [execOp, hf.eval hx, hf.eval hy]; simp [go_sem, eqGuard, binOp, Op.intDiv, hq]
theorem does_eql (hx : ev E x = some (.int k p)) (hy : ev E y = some (.int k q)) : Does P n E C H ⟨dst, .binOp .eql xT x y yT, ty, pos, after, g⟩ (.bool (decide (p = q))) := by
  intro a w hf ho; simp only [execOp, hf.eval hx, hf.eval hy]; simp [go_sem, eqGuard, binOp, Op.intCmp]; exact beq_dec p q
theorem does_neq (hx : ev E x = some (.int k p)) (hy : ev E y = some (.int k q)) : Does P n E C H ⟨dst, .binOp .neq xT x y yT, ty, pos, after, g⟩ (.bool (decide (p ≠ q))) := by
  intro a w hf ho; simp only [execOp, hf.eval hx, hf.eval hy]; simp [go_sem, eqGuard, binOp, Op.intCmp, bne]; exact beq_dec p q
theorem does_lss (hx : ev E x = some (.int k p)) (hy : ev E y = some (.int k q)) : Does P n E C H ⟨dst, .binOp .lss xT x y yT, ty, pos, after, g⟩ (.bool (decide (p < q))) := by
  intro a w hf ho; simp only [execOp, hf.eval hx, hf.eval hy]; simp [go_sem, eqGuard, binOp, Op.intCmp]
theorem does_leq (hx : ev E x = some (.int k p)) (hy : ev E y = some (.int k q)) : Does P n E C H ⟨dst, .binOp .leq xT x y yT, ty, pos, after, g⟩ (.bool (decide (p ≤ q))) := by
  intro a w hf ho; simp only [execOp, hf.eval hx, hf.eval hy]; simp [go_sem, eqGuard, binOp, Op.intCmp]
theorem does_gtr (hx : ev E x = some (.int k p)) (hy : ev E y = some (.int k q)) : Does P n E C H ⟨dst, .binOp .gtr xT x y yT, ty, pos, after, g⟩ (.bool (decide (q < p))) := by
  intro a w hf ho; simp only [execOp, hf.eval hx, hf.eval hy]; simp [go_sem, eqGuard, binOp, Op.intCmp]
theorem does_geq (hx : ev E x = some (.int k p)) (hy : ev E y = some (.int k q)) : Does P n E C H ⟨dst, .binOp .geq xT x y yT, ty, pos, after, g⟩ (.bool (decide (q ≤ p))) := by
  intro a w hf ho; simp only [execOp, hf.eval hx, hf.eval hy]; simp [go_sem, eqGuard, binOp, Op.intCmp]
theorem does_bits {op : BinOp} (hop : op = .and ∨ op = .or ∨ op = .xor ∨ op = .andNot) (hx : ev E x = some (.int k p)) (hy : ev E y = some (.int k q)) : Does P n E C H ⟨dst, .binOp op xT x y yT, ty, pos, after, g⟩ (.int k (bits op k p q)) := by
  intro a w hf ho
  rcases hop with rfl | rfl | rfl | rfl <;> (simp only [execOp, hf.eval hx, hf.eval hy]; simp [go_sem, eqGuard, binOp, Op.intBits, bits])
theorem does_shl {k' : IntKind} (hx : ev E x = some (.int k p)) (hy : ev E y = some (.int k' q)) (hq : 0 ≤ q) : Does P n E C H ⟨dst, .binOp .shl xT x y yT, ty, pos, after, g⟩ (.int k (k.wrap (p * 2 ^ (min q.toNat k.bits)))) := by
  intro a w hf ho
  have : ¬ q < 0 := by omega
  simp only [execOp, hf.eval hx, hf.eval hy]; simp [go_sem, eqGuard, binOp, Op.shift, this]
theorem does_shr {k' : IntKind} (hx : ev E x = some (.int k p)) (hy : ev E y = some (.int k' q)) (hq : 0 ≤ q) : Does P n E C H ⟨dst, .binOp .shr xT x y yT, ty, pos, after, g⟩ (.int k (p.fdiv (2 ^ (min q.toNat k.bits)))) := by
  intro a w hf ho
  have : ¬ q < 0 := by omega
  simp only [execOp, hf.eval hx, hf.eval hy]; simp [go_sem, eqGuard, binOp, Op.shift, this]
theorem does_addi (hx : ev E x = some (.int .i64 p)) (hy : ev E y = some (.int .i64 q)) (h : -9223372036854775808 ≤ p + q ∧ p + q ≤ 9223372036854775807) : Does P n E C H ⟨dst, .binOp .add xT x y yT, ty, pos, after, g⟩ (.int .i64 (p + q)) := by
  have := does_add (P := P) (n := n) (C := C) (H := H) (dst := dst) (ty := ty) (pos := pos) (after := after) (g := g) (xT := xT) (yT := yT) hx hy
  rwa [IntWalk.i64_in _ h] at this
theorem does_subi (hx : ev E x = some (.int .i64 p)) (hy : ev E y = some (.int .i64 q)) (h : -9223372036854775808 ≤ p - q ∧ p - q ≤ 9223372036854775807) : Does P n E C H ⟨dst, .binOp .sub xT x y yT, ty, pos, after, g⟩ (.int .i64 (p - q)) := by
  have := does_sub (P := P) (n := n) (C := C) (H := H) (dst := dst) (ty := ty) (pos := pos) (after := after) (g := g) (xT := xT) (yT := yT) hx hy
  rwa [IntWalk.i64_in _ h] at this
theorem does_muli (hx : ev E x = some (.int .i64 p)) (hy : ev E y = some (.int .i64 q)) (h : -9223372036854775808 ≤ p * q ∧ p * q ≤ 9223372036854775807) : Does P n E C H ⟨dst, .binOp .mul xT x y yT, ty, pos, after, g⟩ (.int .i64 (p * q)) := by
  have := does_mul (P := P) (n := n) (C := C) (H := H) (dst := dst) (ty := ty) (pos := pos) (after := after) (g := g) (xT := xT) (yT := yT) hx hy
  rwa [IntWalk.i64_in _ h] at this
theorem does_quoi (hx : ev E x = some (.int .i64 p)) (hy : ev E y = some (.int .i64 q)) (h : 0 ≤ p ∧ p ≤ 9223372036854775807 ∧ 1 ≤ q) : Does P n E C H ⟨dst, .binOp .quo xT x y yT, ty, pos, after, g⟩ (.int .i64 (p / q)) := by
  have := does_quo (P := P) (n := n) (C := C) (H := H) (dst := dst) (ty := ty) (pos := pos) (after := after) (g := g) (xT := xT) (yT := yT) hx hy (by omega)
  rwa [IntWalk.i64_quo _ _ h] at this
theorem does_remi (hx : ev E x = some (.int k p)) (hy : ev E y = some (.int k q)) (h : 0 ≤ p ∧ 1 ≤ q) : Does P n E C H ⟨dst, .binOp .rem xT x y yT, ty, pos, after, g⟩ (.int k (p % q)) := by
  have := does_rem (P := P) (n := n) (C := C) (H := H) (dst := dst) (ty := ty) (pos := pos) (after := after) (g := g) (xT := xT) (yT := yT) hx hy (by omega)
  rwa [IntWalk.rem_in _ _ h.1] at this
theorem does_conv (hT : P.underlying xT ≠ none) (hu : P.underlying yT = some (.int k)) {k' : IntKind} (hx : ev E x = some (.int k' p)) : Does P n E C H ⟨dst, .convert xT yT x, ty, pos, after, g⟩ (.int k (k.wrap p)) := by
  intro a w hf ho
  obtain ⟨d, hd⟩ := Option.ne_none_iff_exists'.1 hT
  simp only [execOp, hf.eval hx]
  simp [go_sem, convert, run_underlying hd, run_underlying hu, Conv.intToInt]
end ints

/-! ### Strings: a string is written as the list of its bytes -/
end
def bs (l : List UInt8) : ByteArray := ⟨l.toArray⟩
theorem bs_toList (l : List UInt8) : (bs l).toList = l := ByteArray.toList_mk l
theorem bs_data (l : List UInt8) : (bs l).data.toList = l := rfl
theorem bs_of (s : ByteArray) : s = bs s.data.toList := rfl
theorem bs_size (l : List UInt8) : (bs l).size = l.length := by simp [bs, ByteArray.size]
theorem bs_inj {l m : List UInt8} (h : bs l = bs m) : l = m := by
  have := congrArg (fun s : ByteArray => s.data.toList) h
  simpa [bs] using this
theorem bs_append (l m : List UInt8) : bs l ++ bs m = bs (l ++ m) := by
  apply ByteArray.ext
  simp [bs, ByteArray.data_append]
theorem bs_extract (l : List UInt8) (i j : Nat) : (bs l).extract i j = bs ((l.take j).drop i) := by
  apply ByteArray.ext
  rw [ByteArray.data_extract]
  simp [bs, List.drop_take]
theorem bs_get (l : List UInt8) (i : Nat) : (bs l)[i]? = l[i]? := by
  by_cases h : i < l.length
  · have h' : i < (bs l).size := by rw [bs_size]; exact h
    rw [getElem?_pos (bs l) i h', List.getElem?_eq_getElem h]
    rfl
  · have h' : ¬ i < (bs l).size := by rw [bs_size]; exact h
    rw [getElem?_neg (bs l) i h', List.getElem?_eq_none (by omega)]
/-- The byte at a place, as a number. -/
def byt (l : List UInt8) (i : Nat) : Int := ((l.getD i 0).toNat : Int)
theorem byt_range (l : List UInt8) (i : Nat) : 0 ≤ byt l i ∧ byt l i ≤ 255 := by
  unfold byt; have := (l.getD i 0).toNat_lt; omega
section
variable {P : Program} {n : Nat} {E E' : List (Nat × Value)} {C : Ctx} {H : List Res} {Q : Exit → Act → World → Prop} {K : Act → World → Prop} {ops : Array Oper} {rest : List Oper}
variable {dst : Option Tmp} {ty : TypeId} {pos : String} {after : Array Edge} {g : Option (Nat × Bool)} {x y z : Operand} {xT yT : TypeId} {l m : List UInt8}
theorem does_seql (hx : ev E x = some (.string (bs l))) (hy : ev E y = some (.string (bs m))) : Does P n E C H ⟨dst, .binOp .eql xT x y yT, ty, pos, after, g⟩ (.bool (decide (l = m))) := by
  intro a w hf ho; simp only [execOp, hf.eval hx, hf.eval hy]; simp [go_sem, eqGuard, binOp, Op.stringOp, bs_toList]
  rw [Bool.eq_iff_iff]; simp
theorem does_sneq (hx : ev E x = some (.string (bs l))) (hy : ev E y = some (.string (bs m))) : Does P n E C H ⟨dst, .binOp .neq xT x y yT, ty, pos, after, g⟩ (.bool (decide (l ≠ m))) := by
  intro a w hf ho; simp only [execOp, hf.eval hx, hf.eval hy]; simp [go_sem, eqGuard, binOp, Op.stringOp, bs_toList]
  rw [Bool.eq_iff_iff]; simp
theorem does_slss (hx : ev E x = some (.string (bs l))) (hy : ev E y = some (.string (bs m))) : Does P n E C H ⟨dst, .binOp .lss xT x y yT, ty, pos, after, g⟩ (.bool (Op.bytesLess l m)) := by
  intro a w hf ho; simp only [execOp, hf.eval hx, hf.eval hy]; simp [go_sem, eqGuard, binOp, Op.stringOp, bs_toList]
theorem does_sgeq (hx : ev E x = some (.string (bs l))) (hy : ev E y = some (.string (bs m))) : Does P n E C H ⟨dst, .binOp .geq xT x y yT, ty, pos, after, g⟩ (.bool (!Op.bytesLess l m)) := by
  intro a w hf ho; simp only [execOp, hf.eval hx, hf.eval hy]; simp [go_sem, eqGuard, binOp, Op.stringOp, bs_toList]
theorem does_sgtr (hx : ev E x = some (.string (bs l))) (hy : ev E y = some (.string (bs m))) : Does P n E C H ⟨dst, .binOp .gtr xT x y yT, ty, pos, after, g⟩ (.bool (!(Op.bytesLess l m || decide (l = m)))) := by
  intro a w hf ho; simp only [execOp, hf.eval hx, hf.eval hy]; simp [go_sem, eqGuard, binOp, Op.stringOp, bs_toList]
  rw [Bool.eq_iff_iff]; simp
theorem does_sleq (hx : ev E x = some (.string (bs l))) (hy : ev E y = some (.string (bs m))) : Does P n E C H ⟨dst, .binOp .leq xT x y yT, ty, pos, after, g⟩ (.bool (Op.bytesLess l m || decide (l = m))) := by
  intro a w hf ho; simp only [execOp, hf.eval hx, hf.eval hy]; simp [go_sem, eqGuard, binOp, Op.stringOp, bs_toList]
  rw [Bool.eq_iff_iff]; simp
theorem does_sadd (hx : ev E x = some (.string (bs l))) (hy : ev E y = some (.string (bs m))) (h : l.length + m.length ≤ 9223372036854775807) : Does P n E C H ⟨dst, .binOp .add xT x y yT, ty, pos, after, g⟩ (.string (bs (l ++ m))) := by
  intro a w hf ho; simp only [execOp, hf.eval hx, hf.eval hy]
  have h1 : ¬ (((bs l).size + (bs m).size : Nat) : Int) > IntKind.i64.max := by
    rw [bs_size, bs_size]; simp [IntKind.max, IntKind.signed, IntKind.bits]; omega
  have h2 : ((bs l).size : Int) + ((bs m).size : Int) ≤ 9223372036854775807 := by rw [bs_size, bs_size]; omega
  simp [go_sem, eqGuard, binOp, Op.stringOp, h2, bs_append]
def isStr (P : Program) (t : TypeId) : Bool := match P.underlying t with
  | some .string => true
  | _ => false
theorem isStr_eq {t : TypeId} (h : isStr P t = true) : P.underlying t = some .string := by
  unfold isStr at h; split at h
  · assumption
  · cases h
theorem does_slen {t : TypeId} (hT : isStr P t = true) (hx : ev E x = some (.string (bs l))) : Does P n E C H ⟨dst, .call ⟨.builtin .len, #[x], #[t]⟩, ty, pos, after, g⟩ (.int .i64 (l.length : Int)) := by
  intro a w hf ho
  have hm : (#[x] : Array Operand).map a.eval = #[.string (bs l)] := by simp [hf.eval hx]
  simp only [execOp, resolve, hm]
  simp [invoke, builtin, Builtin.len_, go_sem, run_underlying (isStr_eq hT), bs_size, goInt]
theorem does_sidx {k : IntKind} {q : Int} (hT : isStr P xT = true) (hx : ev E x = some (.string (bs l))) (hy : ev E y = some (.int k q)) (h : 0 ≤ q ∧ q < l.length) : Does P n E C H ⟨dst, .index xT x y, ty, pos, after, g⟩ (.int .u8 (byt l q.toNat)) := by
  intro a w hf ho
  have h0 := h.1
  have h1 : q.toNat < l.length := by omega
  simp only [execOp, hf.eval hx, hf.eval hy]
  simp [go_sem, Instr.index, asIntOf, run_underlying (isStr_eq hT), h0, bs_get, List.getElem?_eq_getElem h1, byt]
theorem does_sslice {k k' : IntKind} {p q : Int} (hT : isStr P xT = true) (hx : ev E x = some (.string (bs l))) (hy : ev E y = some (.int k p)) (hz : ev E z = some (.int k' q)) (h : 0 ≤ p ∧ p ≤ q ∧ q ≤ l.length) :
    Does P n E C H ⟨dst, .slice xT x (some y) (some z) none, ty, pos, after, g⟩ (.string (bs ((l.take q.toNat).drop p.toNat))) := by
  intro a w hf ho
  have h0 := h.1
  have h1 : 0 ≤ q ∧ q ≤ l.length := by omega
  have h2 : ¬ max q 0 < p := by omega
  have h3 : p ≤ max q 0 := by omega
  simp only [execOp, Option.map, hf.eval hx, hf.eval hy, hf.eval hz]
  simp [go_sem, Instr.sliceAt, Instr.slice, Instr.sliceBounds, Instr.sliceBound, asIntOf, run_underlying (isStr_eq hT), bs_size, h0, h1.1, h1.2, h2, h3, bs_extract]
theorem does_sslice_hi {k' : IntKind} {q : Int} (hT : isStr P xT = true) (hx : ev E x = some (.string (bs l))) (hz : ev E z = some (.int k' q)) (h : 0 ≤ q ∧ q ≤ l.length) :
    Does P n E C H ⟨dst, .slice xT x none (some z) none, ty, pos, after, g⟩ (.string (bs (l.take q.toNat))) := by
  intro a w hf ho
  simp only [execOp, Option.map, hf.eval hx, hf.eval hz]
  simp [go_sem, Instr.sliceAt, Instr.slice, Instr.sliceBounds, Instr.sliceBound, asIntOf, run_underlying (isStr_eq hT), bs_size, h.1, h.2, bs_extract]
theorem does_sslice_lo {k : IntKind} {p : Int} (hT : isStr P xT = true) (hx : ev E x = some (.string (bs l))) (hy : ev E y = some (.int k p)) (h : 0 ≤ p ∧ p ≤ l.length) :
    Does P n E C H ⟨dst, .slice xT x (some y) none none, ty, pos, after, g⟩ (.string (bs (l.drop p.toNat))) := by
  intro a w hf ho
  simp only [execOp, Option.map, hf.eval hx, hf.eval hy]
  simp [go_sem, Instr.sliceAt, Instr.slice, Instr.sliceBounds, Instr.sliceBound, asIntOf, run_underlying (isStr_eq hT), bs_size, h.1, h.2, bs_extract]
/-! ### Calls -/
def evl (E : List (Nat × Value)) : List Operand → Option (List Value)
  | [] => some []
  | x :: xs => match ev E x with
    | some v => (match evl E xs with
      | some vs => some (v :: vs)
      | none => none)
    | none => none
theorem evl_map {E : List (Nat × Value)} {a : Act} (hf : Fits n E a) : ∀ {xs : List Operand} {vs : List Value}, evl E xs = some vs → xs.map a.eval = vs
  | [], vs, h => by simpa [evl] using h
  | x :: xs, vs, h => by
    unfold evl at h
    split at h
    · rename_i v hv
      split at h
      · rename_i us hu
        cases h
        simp [hf.eval hv, evl_map hf hu]
      · cases h
    · cases h
def entr (P : Program) (f : FuncId) : Bool := match P.funcs[f]? with
  | some fn => fn.name != "runtime.NumGoroutine" && fn.body.isSome
  | none => false
theorem run_entr {f : FuncId} (h : entr P f = true) (args : Array Value) (w : World) : (callFunc f args).run P w = .ok (.enter f args) w := by
  unfold entr at h
  split at h
  · rename_i fn hfn
    simp only [Bool.and_eq_true, bne_iff_ne, ne_eq] at h
    unfold callFunc
    simp [go_sem, hfn, h.1, h.2]
    simp [Option.isNone_iff_eq_none, Option.isSome_iff_ne_none.1 h.2]
  · cases h
theorem enters_fn {f : FuncId} {args : List Operand} {vs : List Value} {aT : Array TypeId} (hf : entr P f = true) (ha : evl E args = some vs) : Enters P n E C H ⟨dst, .call ⟨.value (.func f), args.toArray, aT⟩, ty, pos, after, g⟩ f vs.toArray := by
  intro a w hfi ho
  have hm : args.toArray.map a.eval = vs.toArray := by simp [evl_map hfi ha]
  simp only [execOp, resolve, hm]
  simp [Act.eval, Deferred.ofValue, invoke, go_sem, run_entr hf]
theorem enters_val {f : FuncId} {first cap : List Value} {args : List Operand} {vs : List Value} {aT : Array TypeId} (hx : ev E x = some (.func (.func f) first.toArray cap.toArray)) (hf : entr P f = true) (ha : evl E args = some vs) : Enters P n E C H ⟨dst, .call ⟨.value x, args.toArray, aT⟩, ty, pos, after, g⟩ f (first ++ vs ++ cap).toArray := by
  intro a w hfi ho
  have hm : args.toArray.map a.eval = vs.toArray := by simp [evl_map hfi ha]
  simp only [execOp, resolve, hm, hfi.eval hx]
  simp [Deferred.ofValue, invoke, go_sem, run_entr hf]
def isBool (P : Program) (t : TypeId) : Bool := match P.underlying t with
  | some .bool => true
  | _ => false
theorem isBool_eq {t : TypeId} (h : isBool P t = true) : P.underlying t = some .bool := by
  unfold isBool at h; split at h
  · assumption
  · cases h
theorem does_beql {b c : Bool} (hT : isBool P xT = true) (hx : ev E x = some (.bool b)) (hy : ev E y = some (.bool c)) : Does P n E C H ⟨dst, .binOp .eql xT x y yT, ty, pos, after, g⟩ (.bool (b == c)) := by
  intro a w hf ho; simp only [execOp, hf.eval hx, hf.eval hy]; simp [go_sem, eqGuard, run_eql_bool w xT b c (isBool_eq hT)]
theorem does_bneq {b c : Bool} (hT : isBool P xT = true) (hx : ev E x = some (.bool b)) (hy : ev E y = some (.bool c)) : Does P n E C H ⟨dst, .binOp .neq xT x y yT, ty, pos, after, g⟩ (.bool (!(b == c))) := by
  intro a w hf ho; simp only [execOp, hf.eval hx, hf.eval hy]; simp [go_sem, eqGuard, run_neq_bool w xT b c (isBool_eq hT)]
def sliceElem (P : Program) (t : TypeId) : Bool := match P.underlying t with
  | some (.slice _) => true
  | _ => false
theorem does_len {t : TypeId} {A : Option Addr} {q c : Nat} (hT : sliceElem P t = true) (hx : ev E x = some (.slice A q c)) : Does P n E C H ⟨dst, .call ⟨.builtin .len, #[x], #[t]⟩, ty, pos, after, g⟩ (.int .i64 (q : Int)) := by
  intro a w hf ho
  have hm : (#[x] : Array Operand).map a.eval = #[.slice A q c] := by simp [hf.eval hx]
  unfold sliceElem at hT
  split at hT
  · rename_i e he
    simp only [execOp, resolve, hm]
    simp [invoke, builtin, Builtin.len_, go_sem, run_underlying he, goInt]
  · cases hT
def intT (P : Program) (t : TypeId) (k : IntKind) : Bool := match P.underlying t with
  | some (.int k') => decide (k' = k)
  | _ => false
theorem intT_eq {t : TypeId} {k : IntKind} (h : intT P t k = true) : P.underlying t = some (.int k) := by
  unfold intT at h; split at h
  · rename_i k' hk; simp at h; rw [hk, h]
  · cases h
def intKindOf (P : Program) (t : TypeId) : Option IntKind := match P.underlying t with
  | some (.int k) => some k
  | _ => none
/-- A small number made an int. -/
theorem does_conv8 {p : Int} {k' : IntKind} (hT : (P.underlying xT).isSome = true) (hu : intT P yT .i64 = true) (hx : ev E x = some (.int k' p)) (h : -9223372036854775808 ≤ p ∧ p ≤ 9223372036854775807) : Does P n E C H ⟨dst, .convert xT yT x, ty, pos, after, g⟩ (.int .i64 p) := by
  have := does_conv (P := P) (n := n) (C := C) (H := H) (dst := dst) (ty := ty) (pos := pos) (after := after) (g := g) (xT := xT) (yT := yT) (by simpa [Option.isSome_iff_ne_none] using hT) (intT_eq hu) hx
  rwa [IntWalk.i64_in _ h] at this
/-- A number made one of another kind. -/
theorem does_convw {p : Int} {k k' : IntKind} (hT : (P.underlying xT).isSome = true) (hu : intT P yT k = true) (hx : ev E x = some (.int k' p)) : Does P n E C H ⟨dst, .convert xT yT x, ty, pos, after, g⟩ (.int k (k.wrap p)) :=
  does_conv (by simpa [Option.isSome_iff_ne_none] using hT) (intT_eq hu) hx
theorem does_convu64 {p : Int} {k' : IntKind} (hT : (P.underlying xT).isSome = true) (hu : intT P yT .u64 = true) (hx : ev E x = some (.int k' p)) (h : 0 ≤ p ∧ p < 18446744073709551616) : Does P n E C H ⟨dst, .convert xT yT x, ty, pos, after, g⟩ (.int .u64 p) := by
  have := does_convw (P := P) (n := n) (C := C) (H := H) (dst := dst) (ty := ty) (pos := pos) (after := after) (g := g) hT hu hx
  rwa [IntKind.wrap_u64, Int.emod_eq_of_lt h.1 h.2] at this
theorem does_extract {i : Nat} {vs : List Value} {v : Value} (hx : ev E x = some (.tuple vs.toArray)) (hv : vs[i]? = some v) : Does P n E C H ⟨dst, .extract x i, ty, pos, after, g⟩ v := by
  intro a w hf ho; simp only [execOp, hf.eval hx]; simp [go_sem, Instr.extract, hv]
theorem does_makeFunc {fn : Fn} {cap : List Operand} {vs : List Value} (hc : evl E cap = some vs) : Does P n E C H ⟨dst, .makeFunc fn #[] cap.toArray, ty, pos, after, g⟩ (.func fn #[] vs.toArray) := by
  intro a w hf ho
  have hm : cap.toArray.map a.eval = vs.toArray := by simp [evl_map hf hc]
  simp only [execOp, hm]; simp [go_sem, Instr.makeFunc]
theorem does_pickb {t b c : Bool} (hc : ev E x = some (.bool t)) (hu : ev E y = some (.bool b)) (hv : ev E z = some (.bool c)) : Does P n E C H ⟨dst, .pick x y z, ty, pos, after, g⟩ (.bool (if t then b else c)) := by
  intro a w hf ho; cases t <;> (simp only [execOp, hf.eval hc, hf.eval hu, hf.eval hv]; simp [go_sem])
/-- A byte one up, one down. -/
theorem does_inc8 {b : UInt8} (hx : ev E x = some (.int .u8 (b.toNat : Int))) : Does P n E C H ⟨dst, .binOp .add xT x (.const (.int .u8 1)) yT, ty, pos, after, g⟩ (.int .u8 ((b + 1).toNat : Int)) := by
  have := does_add (P := P) (n := n) (C := C) (H := H) (dst := dst) (ty := ty) (pos := pos) (after := after) (g := g) (xT := xT) (yT := yT) (y := .const (.int .u8 1)) hx rfl
  have e : IntKind.u8.wrap ((b.toNat : Int) + 1) = ((b + 1).toNat : Int) := by
    rw [IntKind.wrap_u8, UInt8.toNat_add]
    have : (1 : UInt8).toNat = 1 := rfl
    rw [this]; omega
  rwa [e] at this
theorem does_dec8 {b : UInt8} (hx : ev E x = some (.int .u8 (b.toNat : Int))) : Does P n E C H ⟨dst, .binOp .sub xT x (.const (.int .u8 1)) yT, ty, pos, after, g⟩ (.int .u8 ((b - 1).toNat : Int)) := by
  have := does_sub (P := P) (n := n) (C := C) (H := H) (dst := dst) (ty := ty) (pos := pos) (after := after) (g := g) (xT := xT) (yT := yT) (y := .const (.int .u8 1)) hx rfl
  have e : IntKind.u8.wrap ((b.toNat : Int) - 1) = ((b - 1).toNat : Int) := by
    rw [IntKind.wrap_u8, UInt8.toNat_sub]
    have : (1 : UInt8).toNat = 1 := rfl
    rw [this]; omega
  rwa [e] at this
theorem does_not {b : Bool} (hx : ev E x = some (.bool b)) : Does P n E C H ⟨dst, .unOp .not xT x, ty, pos, after, g⟩ (.bool (!b)) := by
  intro a w hf ho; simp only [execOp, hf.eval hx]; simp [go_sem, Op.unary]
end
end Go.Proofs.YtjpfebgpcokenaaDoor
