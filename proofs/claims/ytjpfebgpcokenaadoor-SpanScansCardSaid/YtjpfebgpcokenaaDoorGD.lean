/-
  The library's function that is laid off the shelf: slices.Reverse at a row of items. No condition of its own.
  The last items of a range; the last one ahead of a key. No condition of its own.
  The items under a pattern. No condition of its own.
  The sum of two values. No condition of its own.
  The sum of a range's numbers. No condition of its own.
  The reference's sum of two values. No condition of its own.
  The reference's sum of two values, and of a list. No condition of its own.
-/
import Derived.Shelf.SlicesQ.Reverse
import Derived.Test.YtjpfebgpcokenaaDoorGC
import Derived.Laws.Small
set_option linter.unusedSimpArgs false
set_option linter.unusedVariables false
namespace Go.Proofs
open Go.Shelf Go.Lib Go.Sort Go.RowKit
def Tryd.rev_ren : Go.Shelf.Ren := ⟨fun | 35 => 47 | n => n, fun | 23 => 43 | 22 => 22 | n => n, fun | n => n⟩
theorem Tryd.rev : Go.Proofs.SlLaysE0.n35 Tryd.prog Tryd.rev_ren := {
  mixed := by kernel_rfl,
  f35 := ⟨"slices.Reverse[[]plenum/api.Item,plenum/api.Item]", by decide, Tryd.func47.trans (congrArg some (by kernel_rfl))⟩,
  t0 := Tryd.underlying0,
  a0 := Tryd.isAgg0,
  z0 := Tryd.sizeOf0,
  v0 := Tryd.zeroValue0,
  t3 := Tryd.underlying3,
  a3 := Tryd.isAgg3,
  z3 := Tryd.sizeOf3,
  v3 := Tryd.zeroValue3,
  t4 := Tryd.underlying4,
  a4 := Tryd.isAgg4,
  z4 := Tryd.sizeOf4,
  v4 := Tryd.zeroValue4,
  t22 := Tryd.underlying22,
  a22 := Tryd.isAgg22,
  z22 := Tryd.sizeOf22,
  v22 := Tryd.zeroValue22 }
end Go.Proofs
namespace Go.Proofs.YtjpfebgpcokenaaDoor
open Go.RowKit Go.Sort
theorem flatK_itms (xs : List Itm) : flatK itmV 5 xs.toArray = (itms xs).toArray := by
  apply Array.ext
  · rw [size_flatK]; simp [itms_len]
  · intro t h1 h2
    rw [size_flatK] at h1
    have h1 : t < xs.length * 5 := by simpa using h1
    have e := get_flatK itmV 5 xs.toArray t (by simpa using h1)
    have hq : t / 5 < xs.length := by omega
    have g := itms_get xs (t / 5) hq (t % 5) (by omega)
    rw [show t / 5 * 5 + t % 5 = t by omega] at g
    have h2' : t < (itms xs).length := by simpa using h2
    rw [List.getElem?_eq_getElem h2', List.getElem?_eq_getElem (by rw [itmV_len]; omega)] at g
    rw [getElem!_pos _ t (by rw [size_flatK]; simpa using h1)] at e
    rw [e]
    simp only [List.getElem_toArray]
    rw [Option.some.inj g]
    rw [getElem!_pos xs.toArray (t / 5) (by simpa using hq), getElem!_pos _ (t % 5) (by rw [itmV_len]; omega)]
    simp
theorem frm_putRow (w : World) (n g : Nat) (F : Array Value) : Frm w (fun k => k = g) (putRow id (Sort.ahead w n) g 0 F) := by
  refine ⟨rfl, rfl, rfl, ?_, fun k hk hg => ?_⟩
  · simp [putRow, mapBlock, Sort.ahead]
  · simp only [putRow, mapBlock, Sort.ahead, Array.getElem?_modify]
    rw [if_neg (fun e => hg e.symm)]
theorem heap_putRow {w : World} {n g e : Nat} {F cur : Array Value} (h : w.heap[g]? = some (.cells cur e)) : (putRow id (Sort.ahead w n) g 0 F).heap[g]? = some (.cells (putCells id 0 F cur) e) := by
  simp only [putRow, mapBlock, Sort.ahead, Array.getElem?_modify, if_true]
  rw [h]
  rfl
theorem putCells_take (F cur : Array Value) (h : F.size ≤ cur.size) : (putCells id 0 F cur).toList.take F.size = F.toList := by
  apply List.ext_getElem?
  intro j
  rw [List.getElem?_take]
  split
  · rename_i hj
    simp only [putCells, Array.getElem?_toList, Array.getElem?_mapIdx]
    rw [Array.getElem?_eq_getElem (show j < cur.size by omega), Array.getElem?_eq_getElem hj]
    simp only [Option.map_some, Option.some.injEq]
    rw [if_pos ⟨by omega, by omega⟩]
    simp [getElem!_pos, hj]
  · rename_i hj
    rw [List.getElem?_eq_none (by simp; omega)]
theorem reverse_call (v : Value) (xs : List Itm) (w : World) (hl : xs.length ≤ 100000) (ho : Own (inC w [.row v 43 5 xs.length (itms xs)]) [.row v 43 5 xs.length (itms xs)] w) :
    Calls Tryd.prog 47 #[v] w fun e w' => e = .returned (.tuple #[]) ∧ InR w (fun k => k ∈ bls [.row v 43 5 xs.length (itms xs)]) [.row v 43 5 xs.length (itms xs.reverse)] w' := by
  have hr := ho.rowAt (i := 0) rfl
  rcases hr.2 with ⟨rfl, h0⟩ | ⟨g, cap, cur, rfl, h1, hg, h2, h3, h4, h5⟩
  · obtain rfl : xs = [] := List.eq_nil_of_length_eq_zero h0
    refine (AnyQ.slices_Reverse_empty Tryd.rev none 0 w).mono fun e w' ⟨q1, q2⟩ => ⟨q1, ?_⟩
    subst q2
    exact ⟨_, _, ho⟩
  · have hsz : (itms xs).length = xs.length * 5 := itms_len xs
    have hH : HoldsK itmV 5 w g 0 xs.toArray := by
      intro j hj
      rw [flatK_itms] at hj ⊢
      have hj : j < (itms xs).length := by simpa using hj
      have hc : cur[j]? = some (itms xs)[j] := by
        have := congrArg (fun l => l[j]?) h5
        simp only [List.getElem?_take] at this
        rw [if_pos (by omega), List.getElem?_eq_getElem hj] at this
        simpa using this
      rw [Nat.zero_add]
      refine ⟨?_, ?_⟩
      · rw [cell_of_row w g j cur 43 (0, 0) hg, hc]
        simp [getElem!_pos, hj]
      · exact hr.frozenAt j
    refine (AnyQ.slices_Reverse Tryd.rev 5 Tryd.isAgg43 Tryd.sizeOf43 itmV itmV_len itmV_one g 0 cap xs.toArray w hH (by simp; omega)).mono fun e w' ⟨q1, n, q2⟩ => ⟨q1, ?_⟩
    subst q2
    have hre : putRowK itmV 5 (Sort.ahead w n) g 0 xs.toArray.reverse = putRow id (Sort.ahead w n) g 0 (itms xs.reverse).toArray := by
      rw [putRowK, show xs.toArray.reverse = xs.reverse.toArray by simp, flatK_itms]
    rw [hre]
    have hsz2 : (itms xs.reverse).length = xs.length * 5 := by rw [itms_len]; simp
    have hfr : Frm w (fun k => k ∈ bls [.row (.slice (some ⟨g, 0, none⟩) xs.length cap) 43 5 xs.length (itms xs)]) (putRow id (Sort.ahead w n) g 0 (itms xs.reverse).toArray) :=
      (frm_putRow w n g _).mono fun k _ hk => by simp [bls, Res.blocks, Value.ownBlock, hk]
    refine ⟨w, _, hfr, hfr, ?_, ho.nodup, fun k hk => ⟨.inr hk, .inr hk⟩, fun _ h => h, List.nodup_nil, by simp⟩
    intro r hr2
    obtain rfl := List.mem_singleton.1 hr2
    refine ⟨hsz2, .inr ⟨g, cap, _, rfl, Nat.zero_le _, heap_putRow hg, h2, h3, by simp [putCells, h4], ?_⟩⟩
    have := putCells_take (itms xs.reverse).toArray cur (by simp only [List.size_toArray]; rw [hsz2, h4]; exact Nat.mul_le_mul_right 5 h2)
    simpa [hsz2] using this
end Go.Proofs.YtjpfebgpcokenaaDoor
set_option linter.unusedSimpArgs false
set_option linter.unusedVariables false
namespace Go.Proofs.YtjpfebgpcokenaaDoor
open Go.RowKit
section
variable {P : Program} {n : Nat} {E : List (Nat × Value)} {C : Ctx} {H : List Res} {K : Act → World → Prop} {dst : Option Tmp} {ty : TypeId} {pos : String} {after : Array Edge} {g : Option (Nat × Bool)} {x y : Operand} {ts : Array TypeId}
theorem does_min2 {k k' : IntKind} {p q : Int} (hx : ev E x = some (.int k p)) (hy : ev E y = some (.int k' q)) : Does P n E C H ⟨dst, .call ⟨.builtin .min, #[x, y], ts⟩, ty, pos, after, g⟩ (.int k (if q < p then q else p)) := by
  intro a w hf ho
  have hm : (#[x, y] : Array Operand).map a.eval = #[.int k p, .int k' q] := by simp [hf.eval hx, hf.eval hy]
  simp only [execOp, resolve, hm]
  simp [invoke, go_sem]
  split <;> omega
theorem does_max2 {k k' : IntKind} {p q : Int} (hx : ev E x = some (.int k p)) (hy : ev E y = some (.int k' q)) : Does P n E C H ⟨dst, .call ⟨.builtin .max, #[x, y], ts⟩, ty, pos, after, g⟩ (.int k (if q > p then q else p)) := by
  intro a w hf ho
  have hm : (#[x, y] : Array Operand).map a.eval = #[.int k p, .int k' q] := by simp [hf.eval hx, hf.eval hy]
  simp only [execOp, resolve, hm]
  simp [invoke, go_sem]
  split <;> omega
theorem min_max (most : Int) (m : Nat) : (if (if (m : Int) < most then (m : Int) else most) > 0 then (if (m : Int) < most then (m : Int) else most) else 0) = ((min most.toNat m : Nat) : Int) := by
  split <;> split <;> omega
theorem does_max0 {k' : IntKind} {most : Int} {m : Nat} (hx : ev E x = some (.int .i64 0)) (hy : ev E y = some (.int k' (if (m : Int) < most then (m : Int) else most))) : Does P n E C H ⟨dst, .call ⟨.builtin .max, #[x, y], ts⟩, ty, pos, after, g⟩ (.int .i64 ((min most.toNat m : Nat) : Int)) := by
  rw [← min_max]; exact does_max2 hx hy
theorem does_rowhi {i e sz m c q gb : Nat} {z : Operand} {xT : TypeId} {xs : List Value} (hT : sliceSize P xT = some sz) (hx : ev E x = some (.slice (some ⟨gb, 0, none⟩) m c)) (hz : ev E z = some (.int .i64 (q : Int))) (hi : H[i]? = some (.row (.slice (some ⟨gb, 0, none⟩) m c) e sz m xs)) (hq : q ≤ m) :
    Does P n E C H ⟨dst, .slice xT x none (some z) none, ty, pos, after, g⟩ (.slice (some ⟨gb, 0, none⟩) q c) := by
  intro a w hf ho
  have hc : m ≤ c := by
    rcases (ho.rowAt hi).2 with ⟨h0, _⟩ | ⟨g, cap, cur, e1, h1, h2, h3, h4, h5, h6⟩
    · cases h0
    · simp only [Value.slice.injEq, Option.some.injEq, Addr.mk.injEq, and_true, true_and] at e1
      obtain ⟨rfl, rfl⟩ := e1
      exact h3
  exact does_slice_hi (q := (q : Int)) hT hx hz ⟨by omega, by omega⟩ a w hf ho
/-- A row's head. -/
theorem row_head {w : World} {b e sz m c q gb : Nat} {xs : List Value} (h : w.ownsRow b e sz (.slice (some ⟨gb, 0, none⟩) m c) m xs) (hq : q ≤ m) : w.ownsRow b e sz (.slice (some ⟨gb, 0, none⟩) q c) q (xs.take (q * sz)) := by
  have hle : q * sz ≤ m * sz := Nat.mul_le_mul_right sz hq
  refine ⟨by rw [List.length_take, h.1]; omega, ?_⟩
  rcases h.2 with ⟨h0, _⟩ | ⟨g, cap, cur, e1, h1, h2, h3, h4, h5, h6⟩
  · cases h0
  · simp only [Value.slice.injEq, Option.some.injEq, Addr.mk.injEq, and_true, true_and] at e1
    obtain ⟨rfl, rfl⟩ := e1
    refine .inr ⟨gb, c, cur, rfl, h1, h2, by omega, h4, h5, ?_⟩
    rw [← h6, List.take_take, Nat.min_eq_left hle]
end
attribute [local irreducible] cwp lwp Exit.then Exit.inBlock Exit.noGoto wpQuiet Calls fin At AtQ Again endQ RQ
theorem itms_take : ∀ (xs : List Itm) (q : Nat), (itms xs).take (q * 5) = itms (xs.take q)
  | [], q => by simp [itms]
  | x :: xs, 0 => by simp [itms]
  | x :: xs, q + 1 => by
    have ih := itms_take xs q
    simp only [itms, List.flatMap_cons, List.take_succ_cons] at ih ⊢
    rw [List.take_append, itmV_len, List.take_of_length_le (by rw [itmV_len]; omega), show (q + 1) * 5 - 5 = q * 5 by omega, ih]
def backR (most : Int) (fs : List (List Itm)) (vs : List Int) (f t : List UInt8) : List Itm := (allR fs vs f t).reverse.take most.toNat
theorem errN_len {fs : List (List Itm)} {vs : List Int} {f t : List UInt8} {xs : List Itm} : (errN fs vs f t xs).length ≤ xs.length := by
  unfold errN; split <;> simp
theorem scanR_len (most : Int) (fs : List (List Itm)) (vs : List Int) (f t : List UInt8) : (scanR most fs vs f t).length ≤ 2000 := by
  have h1 := errN_len (fs := fs) (vs := vs) (f := f) (t := t) (xs := scanG most f t [] (mergeI NN fs))
  have h2 := scanG_len most f t (mergeI NN fs) []
  have h3 := mergeI_len NN fs
  have h4 : NN = 2000 := rfl
  simp only [List.length_nil] at h2
  unfold scanR
  omega
theorem span_Back (ls : List Value) (vs : List Int) (fs : List (List Itm)) (f t : List UInt8) (most : Int) (w : World) (hT : Tr w ls vs fs) :
    Calls Tryd.prog 23 #[trunkA ls vs, .string (bs f), .string (bs t), .int .i64 most] w fun e w' => ∃ v, e = .returned (.tuple #[v, .int .i64 (errW fs vs f t)]) ∧ Below w.heap.size w w' ∧ w'.ownsRow w.heap.size IT 5 v (backR most fs vs f t).length (itms (backR most fs vs f t)) := by
  have h32 := hT.size
  have hlen := scanR_len 1024 fs vs f t
  refine calls_plain Tryd.func23 rfl Tryd.ntmps23 rfl ?_
  refine at_seq ?_
  refine at_region ?_
  refine at_boxagg rfl rfl fun gz0 => ?_
  refine at_do (does_assign rfl) rfl rfl ?_
  refine at_do (does_assign rfl) rfl rfl ?_
  refine at_nil ?_
  refine at_then ?_
  refine at_seq ?_
  refine at_region ?_
  refine at_do (does_loadagg (i := 0) (k := 32) (by kernel_rfl) rfl rfl h32) rfl rfl ?_
  refine at_do (does_move rfl) rfl rfl ?_
  refine at_do (does_move rfl) rfl rfl ?_
  refine at_callrow2 (f := 28) (enters_fn (by kernel_rfl) rfl) (fun w ho => span_whole ls vs fs f t w (ho.tr hT)) rfl rfl (fun v => ?_)
  refine at_do (does_move rfl) rfl rfl ?_
  refine at_do (does_extract rfl rfl) rfl rfl ?_
  refine at_do (does_extract rfl rfl) rfl rfl ?_
  refine at_do (does_assign rfl) rfl rfl ?_
  refine at_do (does_assign rfl) rfl rfl ?_
  refine at_nil ?_
  refine at_then ?_
  refine at_seq ?_
  refine at_seq ?_
  refine at_region ?_
  rotate_left
  by_cases he : errW fs vs f t = 0
  · rw [he]
    refine at_openrow (i := 0) rfl ?_
    rintro ⟨_, ⟨rfl, h0⟩ | ⟨gb, c, rfl⟩⟩
    · have hx0 : allR fs vs f t = [] := List.eq_nil_of_length_eq_zero h0
      have hm0 : min most.toNat (allR fs vs f t).length = 0 := by rw [h0]; exact Nat.min_zero _
      have hz0 : some (Value.int .i64 ((min most.toNat (allR fs vs f t).length : Nat) : Int)) = some (.int .i64 0) := by rw [hm0]; rfl
      refine at_do (does_move rfl) rfl rfl ?_
      refine at_do (does_neq rfl rfl) rfl rfl ?_
      refine at_nil ?_
      refine at_then ?_
      refine at_cond_f rfl (decide_eq_false (by decide)) ?_
      refine at_skip ?_
      refine at_then ?_
      refine at_seq ?_
      refine at_region ?_
      refine at_do (does_move rfl) rfl rfl ?_
      refine at_callin (ι := Unit) (f := 47) (H0 := [.row (.slice none 0 0) IT 5 (allR fs vs f t).length (itms (allR fs vs f t))]) (R := [.blk gz0 26 (trunkC ls vs)]) (fun _ => .tuple #[]) (fun _ => [.row (.slice none 0 0) IT 5 (allR fs vs f t).length (itms (allR fs vs f t).reverse)]) rfl (enters_fn (by kernel_rfl) rfl) (fun w _ ho => (reverse_call _ (allR fs vs f t) w (Nat.le_trans hlen (by decide)) ho).mono fun e w' h => ⟨(), h⟩) rfl rfl (fun _ => ?_)
      refine at_nil ?_
      refine at_then ?_
      refine at_seq ?_
      refine at_region ?_
      refine at_do (does_move rfl) rfl rfl ?_
      refine at_do (does_move rfl) rfl rfl ?_
      refine at_do (does_move rfl) rfl rfl ?_
      refine at_do (does_rowlen (i := 0) (by kernel_rfl) rfl rfl) rfl rfl ?_
      refine at_do (does_min2 rfl rfl) rfl rfl ?_
      refine at_do (does_max0 (m := (allR fs vs f t).length) rfl rfl) rfl rfl ?_
      refine at_do (does_slice_hi0 (sz := 5) (kk := .i64) (by kernel_rfl) rfl hz0) rfl rfl ?_
      refine at_do (does_assign rfl) rfl rfl ?_
      refine at_do (does_assign rfl) rfl rfl ?_
      refine at_nil ?_
      refine at_then ?_
      refine at_ret ?_
      refine at_ret2 rfl rfl rfl rfl (fun w9 ho9 => ?_)
      rotate_left
      have : backR most fs vs f t = [] := by rw [backR, hx0]; simp
      rw [this]
      exact ⟨_, rfl, ho9.plain, World.ownsRow_nil _ _ _ _⟩
    · have hq : min most.toNat (allR fs vs f t).length ≤ (allR fs vs f t).length := Nat.min_le_right _ _
      refine at_do (does_move rfl) rfl rfl ?_
      refine at_do (does_neq rfl rfl) rfl rfl ?_
      refine at_nil ?_
      refine at_then ?_
      refine at_cond_f rfl (decide_eq_false (by decide)) ?_
      refine at_skip ?_
      refine at_then ?_
      refine at_seq ?_
      refine at_region ?_
      refine at_do (does_move rfl) rfl rfl ?_
      refine at_callin (ι := Unit) (f := 47) (H0 := [.row (.slice (some ⟨gb, 0, none⟩) (allR fs vs f t).length c) IT 5 (allR fs vs f t).length (itms (allR fs vs f t))]) (R := [.blk gz0 26 (trunkC ls vs)]) (fun _ => .tuple #[]) (fun _ => [.row (.slice (some ⟨gb, 0, none⟩) (allR fs vs f t).length c) IT 5 (allR fs vs f t).length (itms (allR fs vs f t).reverse)]) rfl (enters_fn (by kernel_rfl) rfl) (fun w _ ho => (reverse_call _ (allR fs vs f t) w (Nat.le_trans hlen (by decide)) ho).mono fun e w' h => ⟨(), h⟩) rfl rfl (fun _ => ?_)
      refine at_nil ?_
      refine at_then ?_
      refine at_seq ?_
      refine at_region ?_
      refine at_do (does_move rfl) rfl rfl ?_
      refine at_do (does_move rfl) rfl rfl ?_
      refine at_do (does_move rfl) rfl rfl ?_
      refine at_do (does_rowlen (i := 0) (by kernel_rfl) rfl rfl) rfl rfl ?_
      refine at_do (does_min2 rfl rfl) rfl rfl ?_
      refine at_do (does_max0 (m := (allR fs vs f t).length) rfl rfl) rfl rfl ?_
      refine at_do (does_rowhi (i := 0) (q := min most.toNat (allR fs vs f t).length) (by kernel_rfl) rfl rfl rfl hq) rfl rfl ?_
      refine at_do (does_assign rfl) rfl rfl ?_
      refine at_do (does_assign rfl) rfl rfl ?_
      refine at_nil ?_
      refine at_then ?_
      refine at_ret ?_
      refine at_ret2 rfl rfl rfl rfl (fun w9 ho9 => ?_)
      rotate_left
      have h9 := row_head (ho9.rowOut (List.mem_cons_self ..)) hq
      have hb : (allR fs vs f t).reverse.take (min most.toNat (allR fs vs f t).length) = backR most fs vs f t := by
        rw [backR, List.take_eq_take_iff]; simp
      have hl : (backR most fs vs f t).length = min most.toNat (allR fs vs f t).length := by rw [backR, List.length_take, List.length_reverse]
      rw [itms_take, hb] at h9
      rw [hl]
      exact ⟨_, rfl, ho9.plain, h9⟩
  · have hN : allR fs vs f t = [] := by show scanR 1024 fs vs f t = []; rw [scanR, errN, if_neg he]
    refine at_do (does_move rfl) rfl rfl ?_
    refine at_do (does_neq rfl rfl) rfl rfl ?_
    refine at_nil ?_
    refine at_then ?_
    refine at_cond_t rfl (decide_eq_true (by simpa using he)) ?_
    refine at_seq ?_
    refine at_region ?_
    refine at_do (does_move rfl) rfl rfl ?_
    refine at_do (does_assign rfl) rfl rfl ?_
    refine at_do (does_assign rfl) rfl rfl ?_
    refine at_nil ?_
    refine at_then ?_
    refine at_ret ?_
    refine at_then_ret ?_
    refine at_ret2 rfl rfl rfl rfl (fun w9 ho9 => ?_)
    rotate_left
    have : backR most fs vs f t = [] := by rw [backR, hN]; simp
    rw [this]
    exact ⟨_, rfl, ho9.plain, World.ownsRow_nil _ _ _ _⟩
theorem span_Last (ls : List Value) (vs : List Int) (fs : List (List Itm)) (k : List UInt8) (w : World) (hT : Tr w ls vs fs) :
    Calls Tryd.prog 15 #[trunkA ls vs, .string (bs k)] w fun e w' => e = .returned (.tuple #[itmA (headI (errW fs vs [] k) (backR 1 fs vs [] k)), .int .i64 (headE (errW fs vs [] k) (backR 1 fs vs [] k))]) ∧ Below w.heap.size w w' := by
  have h32 := hT.size
  refine calls_plain Tryd.func15 rfl Tryd.ntmps15 rfl ?_
  refine at_seq ?_
  refine at_region ?_
  refine at_boxagg rfl rfl fun gz0 => ?_
  refine at_allocagg Tryd.zeroValue43 rfl fun gz1 => ?_
  refine at_do (does_assign rfl) rfl rfl ?_
  refine at_nil ?_
  refine at_then ?_
  refine at_seq ?_
  refine at_region ?_
  refine at_do (does_loadagg (i := 1) (k := 32) (by kernel_rfl) rfl rfl h32) rfl rfl ?_
  refine at_do (does_move rfl) rfl rfl ?_
  refine at_callrow2 (f := 23) (enters_fn (by kernel_rfl) rfl) (fun w ho => span_Back ls vs fs [] k 1 w (ho.tr hT)) rfl rfl (fun v => ?_)
  refine at_do (does_move rfl) rfl rfl ?_
  refine at_do (does_extract rfl rfl) rfl rfl ?_
  refine at_do (does_extract rfl rfl) rfl rfl ?_
  refine at_do (does_assign rfl) rfl rfl ?_
  refine at_do (does_assign rfl) rfl rfl ?_
  refine at_nil ?_
  refine at_then ?_
  refine at_seq ?_
  refine at_region ?_
  refine at_do (does_move rfl) rfl rfl ?_
  refine at_do (does_move rfl) rfl rfl ?_
  refine at_callv (f := 37) (enters_fn (by kernel_rfl) rfl) (fun w ho => span_one v _ _ w (items_of_row (ho.rowAt (i := 0) rfl))) rfl rfl ?_
  refine at_do (does_extract rfl rfl) rfl rfl ?_
  refine at_do (does_extract rfl rfl) rfl rfl ?_
  refine at_storeagg (i := 1) (by kernel_rfl) rfl rfl rfl rfl rfl ?_
  refine at_do (does_assign rfl) rfl rfl ?_
  refine at_nil ?_
  refine at_then ?_
  refine at_ret ?_
  refine at_retagg1 (i := 1) (k := 5) rfl rfl rfl rfl rfl (by kernel_rfl) rfl (fun w9 ho9 => ?_)
  rotate_left
  exact ⟨rfl, ho9.plain⟩
end Go.Proofs.YtjpfebgpcokenaaDoor
set_option linter.unusedSimpArgs false
set_option linter.unusedVariables false
namespace Go.Proofs.YtjpfebgpcokenaaDoor
open Go.RowKit
attribute [local irreducible] cwp lwp Exit.then Exit.inBlock Exit.noGoto wpQuiet Calls fin At AtQ Again endQ RQ
def underR (fs : List (List Itm)) (vs : List Int) (p : List UInt8) : List Itm := errN fs vs p p ((mergeI NN fs).filter fun x => beg x.key p)
theorem underR_len (fs : List (List Itm)) (vs : List Int) (p : List UInt8) : (underR fs vs p).length ≤ 2000 := by
  have h1 := errN_len (fs := fs) (vs := vs) (f := p) (t := p) (xs := (mergeI NN fs).filter fun x => beg x.key p)
  have h2 := List.length_filter_le (fun x : Itm => beg x.key p) (mergeI NN fs)
  have h3 := mergeI_len NN fs
  have h4 : NN = 2000 := rfl
  unfold underR
  omega
set_option maxHeartbeats 8000000 in
theorem span_Under (ls : List Value) (vs : List Int) (fs : List (List Itm)) (p : List UInt8) (w : World) (hT : Tr w ls vs fs) :
    Calls Tryd.prog 16 #[trunkA ls vs, .string (bs p)] w fun e w' => ∃ v, e = .returned (.tuple #[v, .int .i64 (errW fs vs p p)]) ∧ Below w.heap.size w w' ∧ w'.ownsRow w.heap.size IT 5 v (underR fs vs p).length (itms (underR fs vs p)) := by
  have h32 := hT.size
  have cR : ∀ {w' arg}, Tr w' ls vs fs → ValsAt w' arg (strs [p]) → Calls Tryd.prog 38 #[trunkA ls vs, arg] w' fun e w3 => e = .returned (.int .i64 (errW fs vs p p)) ∧ Below w'.heap.size w' w3 := fun g hv => by
    rw [← err_one]; exact span_right ls vs fs _ [p] _ g.glob g.t g.l g.s hv (by simp)
  refine calls_plain Tryd.func16 rfl Tryd.ntmps16 rfl ?_
  refine at_seq ?_
  refine at_region ?_
  refine at_boxagg rfl rfl fun gz0 => ?_
  refine at_box rfl rfl rfl fun gz1 => ?_
  refine at_do (does_assign rfl) rfl rfl ?_
  refine at_do (does_assign rfl) rfl rfl ?_
  refine at_nil ?_
  refine at_then ?_
  refine at_seq ?_
  refine at_seq ?_
  refine at_region ?_
  refine at_do (does_loadagg (i := 1) (k := 32) (by kernel_rfl) rfl rfl h32) rfl rfl ?_
  refine at_do (does_load (i := 0) (by kernel_rfl) rfl rfl rfl) rfl rfl ?_
  refine at_buildSlice (e := 9) (sz := 1) (vs := strs [p]) (cs := strs [p]) (by kernel_rfl) rfl rfl rfl rfl rfl rfl (fun hlit => ?_)
  rotate_left
  have hv2 : ∀ w', Own ⟨w, fun _ => False, fun _ => False, w, fun _ => False, []⟩ [Res.blk hlit 9 (strs [p]).toArray, Res.blk gz1 9 #[Value.string (bs p)], Res.blk gz0 26 (trunkC ls vs)] w' → ValsAt w' (.slice (some ⟨hlit, 0, none⟩) 1 1) (strs [p]) := fun w' ho => .inr ⟨_, 1, rfl, Nat.le_refl _, fun j u hu => lit_cells ho (i := 0) rfl j u hu⟩
  by_cases he : errW fs vs p p = 0
  · rw [he] at cR ⊢
    have hN : ∀ xs, errN fs vs p p xs = xs := fun xs => by rw [errN, if_pos he]
    rw [underR, hN]
    refine at_callv (f := 38) (enters_fn (by kernel_rfl) rfl) (fun w ho => cR (ho.tr hT) (hv2 _ ho)) rfl rfl ?_
    refine at_do (does_assign rfl) rfl rfl ?_
    refine at_nil ?_
    refine at_then ?_
    refine at_seq ?_
    refine at_region ?_
    refine at_do (does_move rfl) rfl rfl ?_
    refine at_do (does_neq rfl rfl) rfl rfl ?_
    refine at_nil ?_
    refine at_then ?_
    refine at_cond_f rfl (decide_eq_false (by decide)) ?_
    refine at_skip ?_
    refine at_then ?_
    refine at_seq ?_
    refine at_region ?_
    refine at_alloc rfl Tryd.zeroValue22 rfl fun gz0 => ?_
    refine at_nil ?_
    refine at_then ?_
    refine at_seq ?_
    refine at_seq ?_
    refine at_region ?_
    refine at_do (does_loadagg (i := 3) (k := 32) (by kernel_rfl) rfl rfl h32) rfl rfl ?_
    refine at_callblk (f := 39) (enters_fn (by kernel_rfl) rfl) (fun w ho => span_all ls vs w) rfl rfl (fun hb => ?_)
    refine at_nil ?_
    refine at_then ?_
    refine at_block ?_
    rotate_left
    refine at_drop (H' := [.blk hb 26 (trunkC ls vs), .blk gz0 22 #[.slice none 0 0], .blk gz1 9 #[.string (bs p)]]) (.cons_cons _ (.cons_cons _ (.cons _ (.cons_cons _ (.cons _ .slnil))))) ?_
    refine at_dropblk fun w1 hb1 hb2 hb3 hb4 => ?_
    refine at_nilrow 43 5 ?_
    have hmlen := mergeI_len NN fs
    have hfl := hT.s.flat hT.t.l2
    obtain ⟨xs, hxs⟩ : ∃ xs, xs = mergeI NN fs := ⟨_, rfl⟩
    rw [← hxs] at hmlen ⊢
    have hNN : xs.length ≤ 2000 := hmlen
    refine at_range2 (σ := Value × List Itm) (ι := Nat) (gf := 64) (lb := [.pointer (some ⟨hb, 0, none⟩)]) (xs := seqP xs) (fun i s => s.2 = (xs.take i).filter (fun x => beg x.key p) ∧ s.2.length ≤ i) (fun _ s => [.row s.1 43 5 s.2.length (itms s.2), .blk gz0 22 #[s.1], .blk gz1 9 #[.string (bs p)]])
      (fun _ s j => [(9, .pointer (some ⟨j, 0, none⟩)), (3, .pointer (some ⟨gz1, 0, none⟩)), (7, .pointer (some ⟨gz0, 0, none⟩))])
      (fun _ x s j => [.blk j 43 x.2.cells, .row s.1 43 5 s.2.length (itms s.2), .blk gz0 22 #[s.1], .blk gz1 9 #[.string (bs p)]])
      (fun c s => False) (fun _ s => [])
      (.slice none 0 0, []) ⟨rfl, Nat.le_refl _⟩ rfl rfl (by kernel_rfl) rfl rfl ?_ ?_ ?_ ?_ ?_
    · intro W1 G B0 hGG hW1
      have h0 : hb ∉ bls ([.row (.slice none 0 0) 43 5 ([] : List Itm).length (itms []), .blk gz0 22 #[.slice none 0 0], .blk gz1 9 #[.string (bs p)]]) := fun hm => hb3 (by simpa [bls, Res.blocks, Value.ownBlock] using hm)
      obtain ⟨q1, q2⟩ := Own.notG2 (C := ⟨w, fun _ => False, fun _ => False, w, fun _ => False, []⟩) (w1 := w1) hW1 hGG h0 hb2
      rw [hxs]
      exact span_all1 ls vs fs NN W1 G B0 q1 q2 (hT.t.notG hW1 hGG) (by decide) hfl
    · intro l i x s W hx hI hW
      obtain ⟨y, hy, rfl⟩ : ∃ y, xs[i]? = some y ∧ x = (.int .i64 (i : Int), itmA y) := by
        have hi : i < xs.length := by have := (List.getElem?_eq_some_iff.1 hx).1; rwa [seqP_len] at this
        rw [seqP_get hi] at hx
        exact ⟨xs[i], List.getElem?_eq_getElem hi, (Option.some.inj hx).symm⟩
      refine at_region ?_
      refine at_allocagg Tryd.zeroValue43 rfl fun gz0 => ?_
      refine at_storeagg (i := 0) (by kernel_rfl) rfl rfl rfl rfl rfl ?_
      refine at_nil ?_
      rotate_left
      exact at_aq gz0 ⟨rfl, rfl, rfl, trivial⟩ rfl
    · intro l i x s j W hx hI hW
      obtain ⟨y, hy, rfl⟩ : ∃ y, xs[i]? = some y ∧ x = (.int .i64 (i : Int), itmA y) := by
        have hi : i < xs.length := by have := (List.getElem?_eq_some_iff.1 hx).1; rwa [seqP_len] at this
        rw [seqP_get hi] at hx
        exact ⟨xs[i], List.getElem?_eq_getElem hi, (Option.some.inj hx).symm⟩
      obtain ⟨v, out⟩ := s
      obtain ⟨hI1, hI2⟩ := hI
      simp only at hI1 hI2
      have hil : i < xs.length := (List.getElem?_eq_some_iff.1 hy).1
      have htk : (xs.take (i + 1)).filter (fun x => beg x.key p) = out ++ (if beg y.key p then [y] else []) := by
        rw [List.take_add_one, hy, List.filter_append, ← hI1]
        simp [List.filter_cons]
      cases hf : beg y.key p
      · rw [hf] at htk
        refine at_block ?_
        refine at_seq ?_
        refine at_region ?_
        refine at_do (does_fieldAddr (o := 0) (by kernel_rfl) rfl) rfl rfl ?_
        refine at_do (does_load (i := 0) (by kernel_rfl) rfl rfl rfl) rfl rfl ?_
        refine at_do (does_load (i := 3) (by kernel_rfl) rfl rfl rfl) rfl rfl ?_
        refine at_callv (f := 40) (enters_fn (by kernel_rfl) rfl) (fun w ho => HasPrefix _ _ w) rfl rfl ?_
        refine at_nil ?_
        refine at_then ?_
        refine at_cond_f rfl (by exact hf) ?_
        refine at_skip ?_
        refine at_inb ?_
        rotate_left
        exact at_drop (List.sublist_cons_self ..) (at_next (v, out) ⟨by rw [htk]; simp, by show out.length ≤ i + 1; omega⟩ rfl)
      · rw [hf] at htk
        refine at_block ?_
        refine at_seq ?_
        refine at_region ?_
        refine at_do (does_fieldAddr (o := 0) (by kernel_rfl) rfl) rfl rfl ?_
        refine at_do (does_load (i := 0) (by kernel_rfl) rfl rfl rfl) rfl rfl ?_
        refine at_do (does_load (i := 3) (by kernel_rfl) rfl rfl rfl) rfl rfl ?_
        refine at_callv (f := 40) (enters_fn (by kernel_rfl) rfl) (fun w ho => HasPrefix _ _ w) rfl rfl ?_
        refine at_nil ?_
        refine at_then ?_
        refine at_cond_t rfl (by exact hf) ?_
        refine at_region ?_
        refine at_do (does_load (i := 2) (by kernel_rfl) rfl rfl rfl) rfl rfl ?_
        refine at_do (does_loadagg (i := 0) (k := 5) (by kernel_rfl) rfl rfl rfl) rfl rfl ?_
        refine at_buildSlice (e := 43) (sz := 5) (vs := [itmA y]) (cs := itmV y) (by kernel_rfl) rfl rfl rfl rfl rfl rfl (fun hl => ?_)
        refine at_append (i := 2) (e := 43) (sz := 5) (by' := 56) (m := out.length) (k := 1) (news := itmV y) (by kernel_rfl) rfl rfl rfl rfl (fun w ho => lit_cells ho (i := 0) rfl) (itmV_one y) (by simp only [maxLen]; omega) rfl (fun v4 hv4 => ?_)
        refine at_store (i := 3) (by kernel_rfl) rfl rfl (by assumption) rfl rfl ?_
        refine at_nil ?_
        refine at_inb ?_
        rotate_left
        refine at_drop (H' := [.row v4 43 5 (out.length + 1) (itms out ++ itmV y), .blk gz0 22 #[v4], .blk gz1 9 #[.string (bs p)]]) (.cons _ (.cons _ (List.Sublist.refl _))) ?_
        exact at_next (v4, out ++ [y]) ⟨by rw [htk]; rfl, by simp; omega⟩ (by simp [itms_snoc])
    · rintro D ⟨v, out⟩ ⟨hI, _⟩
      rw [seqP_len, List.take_length] at hI
      have hI : out = xs.filter (fun x => beg x.key p) := hI
      refine at_inb ?_
      refine at_then ?_
      refine at_seq ?_
      refine at_region ?_
      refine at_do (does_load (i := 1) (by kernel_rfl) rfl rfl rfl) rfl rfl ?_
      refine at_do (does_assign rfl) rfl rfl ?_
      refine at_do (does_assign rfl) rfl rfl ?_
      refine at_nil ?_
      refine at_then ?_
      refine at_ret ?_
      refine at_retm2 rfl rfl rfl (fun w9 ho9 => ?_)
      rotate_left
      rw [← hI]
      exact ⟨_, rfl, ho9.plain, ho9.rowOut (List.mem_cons_self ..)⟩
    · rintro D c ⟨v, out⟩ hI
      exact hI.elim
  · have hN : ∀ xs, errN fs vs p p xs = [] := fun xs => by rw [errN, if_neg he]
    rw [underR, hN]
    refine at_callv (f := 38) (enters_fn (by kernel_rfl) rfl) (fun w ho => cR (ho.tr hT) (hv2 _ ho)) rfl rfl ?_
    refine at_do (does_assign rfl) rfl rfl ?_
    refine at_nil ?_
    refine at_then ?_
    refine at_seq ?_
    refine at_region ?_
    refine at_do (does_move rfl) rfl rfl ?_
    refine at_do (does_neq rfl rfl) rfl rfl ?_
    refine at_nil ?_
    refine at_then ?_
    refine at_cond_t rfl (decide_eq_true (by simpa using he)) ?_
    refine at_seq ?_
    refine at_region ?_
    refine at_do (does_move rfl) rfl rfl ?_
    refine at_do (does_assign rfl) rfl rfl ?_
    refine at_do (does_assign rfl) rfl rfl ?_
    refine at_nil ?_
    refine at_then ?_
    refine at_ret ?_
    refine at_then_ret ?_
    refine at_ret2 rfl rfl rfl rfl (fun w9 ho9 => ?_)
    rotate_left
    exact ⟨_, rfl, ho9.plain, World.ownsRow_nil _ _ _ _⟩
end Go.Proofs.YtjpfebgpcokenaaDoor
set_option linter.unusedSimpArgs false
set_option linter.unusedVariables false
namespace Go.Proofs.YtjpfebgpcokenaaDoor
open Go.RowKit
attribute [local irreducible] cwp lwp Exit.then Exit.inBlock Exit.noGoto wpQuiet Calls fin At AtQ Again endQ RQ
/-- A number of 64 bits. -/
def I64 (n : Int) : Prop := -9223372036854775808 ≤ n ∧ n ≤ 9223372036854775807
instance (n : Int) : Decidable (I64 n) := by unfold I64; exact inferInstance
theorem wrap_sum {z : Int} (h : -18446744073709551616 ≤ z ∧ z ≤ 18446744073709551614) : IntKind.i64.wrap z = if 9223372036854775807 < z then z - 18446744073709551616 else if z < -9223372036854775808 then z + 18446744073709551616 else z := by
  simp only [IntKind.wrap, IntKind.signed, IntKind.bits, Bool.true_and, decide_eq_true_eq, show (2 : Int) ^ 64 = 18446744073709551616 from rfl, show (2 : Int) ^ (64 - 1) = 9223372036854775808 from rfl]
  repeat' split
  all_goals omega
theorem add_1 (n m : Int) (w : World) (hn : I64 n) (hm : I64 m) : Calls Tryd.prog 50 #[.int .i64 n, .int .i64 m] w fun e w' => e = .returned (.tuple #[.int .i64 (if I64 (n + m) then n + m else 0), .int .i64 (if I64 (n + m) then 0 else 8)]) ∧ Below w.heap.size w w' := by
  obtain ⟨n1, n2⟩ := hn
  obtain ⟨m1, m2⟩ := hm
  refine calls_plain Tryd.func50 rfl Tryd.ntmps50 rfl ?_
  have hw := wrap_sum (z := n + m) (by omega)
  refine at_seq ?_
  refine at_region ?_
  refine at_do (does_assign rfl) rfl rfl ?_
  refine at_do (does_assign rfl) rfl rfl ?_
  refine at_nil ?_
  refine at_then ?_
  refine at_seq ?_
  refine at_region ?_
  refine at_do (does_move rfl) rfl rfl ?_
  refine at_do (does_move rfl) rfl rfl ?_
  refine at_do (does_add rfl rfl) rfl rfl ?_
  refine at_do (does_assign rfl) rfl rfl ?_
  refine at_nil ?_
  refine at_then ?_
  refine at_seq ?_
  refine at_seq ?_
  refine at_region ?_
  refine at_do (does_move rfl) rfl rfl ?_
  refine at_do (does_geq rfl rfl) rfl rfl ?_
  refine at_do (does_move rfl) rfl rfl ?_
  refine at_do (does_geq rfl rfl) rfl rfl ?_
  refine at_do (does_beql (by kernel_rfl) rfl rfl) rfl rfl ?_
  refine at_do (does_move rfl) rfl rfl ?_
  refine at_guard rfl rfl (fun z0 => ?_) (fun z0 => ?_)
  refine at_on rfl rfl ?_
  refine at_do (does_move rfl) rfl rfl ?_
  refine at_on rfl rfl ?_
  refine at_do (does_geq rfl rfl) rfl rfl ?_
  refine at_on rfl rfl ?_
  refine at_do (does_move rfl) rfl rfl ?_
  refine at_on rfl rfl ?_
  refine at_do (does_geq rfl rfl) rfl rfl ?_
  refine at_on rfl rfl ?_
  refine at_do (does_bneq (by kernel_rfl) rfl rfl) rfl rfl ?_
  refine at_do (does_pick_true rfl rfl) rfl rfl ?_
  refine at_nil ?_
  refine at_then ?_
  refine at_condN rfl (fun z1 => ?_) (fun z1 => ?_)
  refine at_seq ?_
  refine at_region ?_
  refine at_do (does_assign rfl) rfl rfl ?_
  refine at_do (does_assign rfl) rfl rfl ?_
  refine at_nil ?_
  refine at_then ?_
  refine at_ret ?_
  refine at_then_ret ?_
  refine at_ret2 rfl rfl rfl rfl (fun w9 ho9 => ?_)
  rotate_left
  refine at_skip ?_
  refine at_then ?_
  refine at_seq ?_
  refine at_region ?_
  refine at_do (does_move rfl) rfl rfl ?_
  refine at_do (does_assign rfl) rfl rfl ?_
  refine at_do (does_assign rfl) rfl rfl ?_
  refine at_nil ?_
  refine at_then ?_
  refine at_ret ?_
  refine at_ret2 rfl rfl rfl rfl (fun w9 ho9 => ?_)
  rotate_left
  refine at_no rfl rfl rfl rfl ?_
  refine at_no rfl rfl rfl rfl ?_
  refine at_no rfl rfl rfl rfl ?_
  refine at_no rfl rfl rfl rfl ?_
  refine at_no rfl rfl rfl rfl ?_
  refine at_do (does_pick_false rfl rfl) rfl rfl ?_
  refine at_nil ?_
  refine at_then ?_
  refine at_cond_false rfl ?_
  refine at_skip ?_
  refine at_then ?_
  refine at_seq ?_
  refine at_region ?_
  refine at_do (does_move rfl) rfl rfl ?_
  refine at_do (does_assign rfl) rfl rfl ?_
  refine at_do (does_assign rfl) rfl rfl ?_
  refine at_nil ?_
  refine at_then ?_
  refine at_ret ?_
  refine at_ret2 rfl rfl rfl rfl (fun w9 ho9 => ?_)
  rotate_left
  all_goals
    refine ⟨?_, ho9.plain⟩
    generalize IntKind.i64.wrap (n + m) = c at *
  · have hx : ¬ I64 (n + m) := by
      simp only [beq_iff_eq, decide_eq_decide, beq_eq_false_iff_ne, ne_eq] at z0 z1
      intro h
      obtain ⟨h1, h2⟩ := h
      rw [if_neg (by omega), if_neg (by omega)] at hw
      omega
    rw [if_neg hx, if_neg hx]
  · have hx : I64 (n + m) := by
      simp only [beq_iff_eq, decide_eq_decide] at z0 z1
      refine Classical.byContradiction fun h => ?_
      unfold I64 at h
      by_cases h1 : 9223372036854775807 < n + m
      · rw [if_pos h1] at hw; omega
      · rw [if_neg h1, if_pos (by omega)] at hw; omega
    obtain ⟨h1, h2⟩ := id hx
    rw [if_neg (by omega), if_neg (by omega)] at hw
    rw [if_pos hx, if_pos hx, hw]
  · have hx : I64 (n + m) := by
      simp only [beq_eq_false_iff_ne, ne_eq, decide_eq_decide] at z0
      unfold I64
      omega
    obtain ⟨h1, h2⟩ := id hx
    rw [if_neg (by omega), if_neg (by omega)] at hw
    rw [if_pos hx, if_pos hx, hw]
def addN (n k m : Int) (t : List UInt8) : Int := if mayV k m t = true ∧ k = 2 ∧ I64 (n + m) then n + m else 0
def addK (n k m : Int) (t : List UInt8) : Int := if mayV k m t = true ∧ k = 2 ∧ I64 (n + m) then 2 else 0
def addE (n k m : Int) (t : List UInt8) : Int := if mayV k m t = false then 1 else if k ≠ 2 then 10 else if I64 (n + m) then 0 else 8
theorem add_ints (n k m : Int) (t : List UInt8) (w : World) (hn : I64 n) (hm : I64 m) :
    Calls Tryd.prog 49 #[.agg (valC 2 n []), .agg (valC k m t), .func (.func 50) #[] #[]] w fun e w' => e = .returned (.tuple #[.agg (valC (addK n k m t) (addN n k m t) []), .int .i64 (addE n k m t)]) ∧ Below w.heap.size w w' := by
  have c1 : ∀ {w'}, Calls Tryd.prog 71 #[.agg (valC 2 n [])] w' fun e w3 => e = .returned (.bool true) ∧ Below w'.heap.size w' w3 := fun {w'} => by
    have := value_May 2 n [] w'
    rwa [show mayV 2 n [] = true by simp [mayV]] at this
  refine calls_plain Tryd.func49 rfl Tryd.ntmps49 rfl ?_
  have c2 : ∀ {w'}, Calls Tryd.prog 71 #[.agg (valC k m t)] w' fun e w3 => e = .returned (.bool (mayV k m t)) ∧ Below w'.heap.size w' w3 := fun {w'} => value_May k m t w'
  cases hm' : mayV k m t
  · rw [hm'] at c2
    have e1 : addN n k m t = 0 := by simp [addN, hm']
    have e2 : addK n k m t = 0 := by simp [addK, hm']
    have e3 : addE n k m t = 1 := by simp [addE, hm']
    rw [e1, e2, e3]
    refine at_seq ?_
    refine at_region ?_
    refine at_boxagg rfl rfl fun gz0 => ?_
    refine at_boxagg rfl rfl fun gz1 => ?_
    refine at_allocagg Tryd.zeroValue41 rfl fun gz2 => ?_
    refine at_do (does_assign rfl) rfl rfl ?_
    refine at_nil ?_
    refine at_then ?_
    refine at_seq ?_
    refine at_seq ?_
    refine at_region ?_
    refine at_do (does_loadagg (i := 2) (k := 3) (by kernel_rfl) rfl rfl rfl) rfl rfl ?_
    refine at_callv (f := 71) (enters_fn (by kernel_rfl) rfl) (fun w ho => c1) rfl rfl ?_
    refine at_do (does_not rfl) rfl rfl ?_
    refine at_do (does_move rfl) rfl rfl ?_
    refine at_know (t := 13) (d := false) rfl (by decide) ?_
    refine at_on rfl rfl ?_
    refine at_do (does_loadagg (i := 1) (k := 3) (by kernel_rfl) rfl rfl rfl) rfl rfl ?_
    refine at_on rfl rfl ?_
    refine at_callv (f := 71) (enters_fn (by kernel_rfl) rfl) (fun w ho => c2) rfl rfl ?_
    refine at_on rfl rfl ?_
    refine at_do (does_not rfl) rfl rfl ?_
    refine at_do (does_pick_false rfl rfl) rfl rfl ?_
    refine at_nil ?_
    refine at_then ?_
    refine at_cond_t rfl (by decide) ?_
    refine at_seq ?_
    refine at_region ?_
    refine at_do (does_build (ps := []) (vs := []) (cs := [.int .i64 0, .int .i64 0, .string (bs [])]) shapeVal rfl rfl) rfl rfl ?_
    refine at_storeagg (i := 0) (by kernel_rfl) rfl rfl rfl rfl rfl ?_
    refine at_do (does_assign rfl) rfl rfl ?_
    refine at_nil ?_
    refine at_then ?_
    refine at_ret ?_
    refine at_then_ret ?_
    refine at_retagg1 (i := 0) (k := 3) rfl rfl rfl rfl rfl (by kernel_rfl) rfl (fun w9 ho9 => ?_)
    rotate_left
    exact ⟨rfl, ho9.plain⟩
  · rw [hm'] at c2
    by_cases hk : k = 2
    · subst hk
      by_cases hx : I64 (n + m)
      · have e1 : addN n 2 m t = n + m := by simp [addN, hm', hx]
        have e2 : addK n 2 m t = 2 := by simp [addK, hm', hx]
        have e3 : addE n 2 m t = 0 := by simp [addE, hm', hx]
        rw [e1, e2, e3]
        have c3 : ∀ {w'}, Calls Tryd.prog 50 #[.int .i64 n, .int .i64 m] w' fun e w3 => e = .returned (.tuple #[.int .i64 (n + m), .int .i64 0]) ∧ Below w'.heap.size w' w3 := fun {w'} => by
          have := add_1 n m w' hn hm
          rwa [if_pos hx, if_pos hx] at this
        refine at_seq ?_
        refine at_region ?_
        refine at_boxagg rfl rfl fun gz0 => ?_
        refine at_boxagg rfl rfl fun gz1 => ?_
        refine at_allocagg Tryd.zeroValue41 rfl fun gz2 => ?_
        refine at_do (does_assign rfl) rfl rfl ?_
        refine at_nil ?_
        refine at_then ?_
        refine at_seq ?_
        refine at_seq ?_
        refine at_region ?_
        refine at_do (does_loadagg (i := 2) (k := 3) (by kernel_rfl) rfl rfl rfl) rfl rfl ?_
        refine at_callv (f := 71) (enters_fn (by kernel_rfl) rfl) (fun w ho => c1) rfl rfl ?_
        refine at_do (does_not rfl) rfl rfl ?_
        refine at_do (does_move rfl) rfl rfl ?_
        refine at_know (t := 13) (d := false) rfl (by decide) ?_
        refine at_on rfl rfl ?_
        refine at_do (does_loadagg (i := 1) (k := 3) (by kernel_rfl) rfl rfl rfl) rfl rfl ?_
        refine at_on rfl rfl ?_
        refine at_callv (f := 71) (enters_fn (by kernel_rfl) rfl) (fun w ho => c2) rfl rfl ?_
        refine at_on rfl rfl ?_
        refine at_do (does_not rfl) rfl rfl ?_
        refine at_do (does_pick_false rfl rfl) rfl rfl ?_
        refine at_nil ?_
        refine at_then ?_
        refine at_cond_f rfl (by decide) ?_
        refine at_skip ?_
        refine at_then ?_
        refine at_seq ?_
        refine at_seq ?_
        refine at_region ?_
        refine at_do (does_fieldAddr (o := 0) (by kernel_rfl) rfl) rfl rfl ?_
        refine at_do (does_load (i := 2) (by kernel_rfl) rfl rfl rfl) rfl rfl ?_
        refine at_do (does_neq rfl rfl) rfl rfl ?_
        refine at_do (does_move rfl) rfl rfl ?_
        refine at_know (t := 22) (d := false) rfl (decide_eq_false (by decide)) ?_
        refine at_on rfl rfl ?_
        refine at_do (does_fieldAddr (o := 0) (by kernel_rfl) rfl) rfl rfl ?_
        refine at_on rfl rfl ?_
        refine at_do (does_load (i := 1) (by kernel_rfl) rfl rfl rfl) rfl rfl ?_
        refine at_on rfl rfl ?_
        refine at_do (does_neq rfl rfl) rfl rfl ?_
        refine at_do (does_pick_false rfl rfl) rfl rfl ?_
        refine at_nil ?_
        refine at_then ?_
        refine at_cond_f rfl (decide_eq_false (by decide)) ?_
        refine at_skip ?_
        refine at_then ?_
        refine at_seq ?_
        refine at_region ?_
        refine at_do (does_move rfl) rfl rfl ?_
        refine at_do (does_fieldAddr (o := 1) (by kernel_rfl) rfl) rfl rfl ?_
        refine at_do (does_load (i := 2) (by kernel_rfl) rfl rfl rfl) rfl rfl ?_
        refine at_do (does_fieldAddr (o := 1) (by kernel_rfl) rfl) rfl rfl ?_
        refine at_do (does_load (i := 1) (by kernel_rfl) rfl rfl rfl) rfl rfl ?_
        refine at_callv (f := 50) (enters_val rfl (by kernel_rfl) rfl) (fun w ho => c3) rfl rfl ?_
        refine at_do (does_move rfl) rfl rfl ?_
        refine at_do (does_extract rfl rfl) rfl rfl ?_
        refine at_do (does_extract rfl rfl) rfl rfl ?_
        refine at_do (does_assign rfl) rfl rfl ?_
        refine at_do (does_assign rfl) rfl rfl ?_
        refine at_nil ?_
        refine at_then ?_
        refine at_seq ?_
        refine at_seq ?_
        refine at_region ?_
        refine at_do (does_move rfl) rfl rfl ?_
        refine at_do (does_neq rfl rfl) rfl rfl ?_
        refine at_nil ?_
        refine at_then ?_
        refine at_cond_f rfl (decide_eq_false (by decide)) ?_
        refine at_skip ?_
        refine at_then ?_
        refine at_seq ?_
        refine at_region ?_
        refine at_do (does_move rfl) rfl rfl ?_
        refine at_callv (f := 29) (enters_fn (by kernel_rfl) rfl) (fun w ho => value_Int (n + m) w) rfl rfl ?_
        refine at_storeagg (i := 0) (by kernel_rfl) rfl rfl rfl rfl rfl ?_
        refine at_do (does_assign rfl) rfl rfl ?_
        refine at_nil ?_
        refine at_then ?_
        refine at_ret ?_
        refine at_retagg1 (i := 0) (k := 3) rfl rfl rfl rfl rfl (by kernel_rfl) rfl (fun w9 ho9 => ?_)
        rotate_left
        exact ⟨rfl, ho9.plain⟩
      · have e1 : addN n 2 m t = 0 := by simp [addN, hx]
        have e2 : addK n 2 m t = 0 := by simp [addK, hx]
        have e3 : addE n 2 m t = 8 := by simp [addE, hm', hx]
        rw [e1, e2, e3]
        have c3 : ∀ {w'}, Calls Tryd.prog 50 #[.int .i64 n, .int .i64 m] w' fun e w3 => e = .returned (.tuple #[.int .i64 0, .int .i64 8]) ∧ Below w'.heap.size w' w3 := fun {w'} => by
          have := add_1 n m w' hn hm
          rwa [if_neg hx, if_neg hx] at this
        refine at_seq ?_
        refine at_region ?_
        refine at_boxagg rfl rfl fun gz0 => ?_
        refine at_boxagg rfl rfl fun gz1 => ?_
        refine at_allocagg Tryd.zeroValue41 rfl fun gz2 => ?_
        refine at_do (does_assign rfl) rfl rfl ?_
        refine at_nil ?_
        refine at_then ?_
        refine at_seq ?_
        refine at_seq ?_
        refine at_region ?_
        refine at_do (does_loadagg (i := 2) (k := 3) (by kernel_rfl) rfl rfl rfl) rfl rfl ?_
        refine at_callv (f := 71) (enters_fn (by kernel_rfl) rfl) (fun w ho => c1) rfl rfl ?_
        refine at_do (does_not rfl) rfl rfl ?_
        refine at_do (does_move rfl) rfl rfl ?_
        refine at_know (t := 13) (d := false) rfl (by decide) ?_
        refine at_on rfl rfl ?_
        refine at_do (does_loadagg (i := 1) (k := 3) (by kernel_rfl) rfl rfl rfl) rfl rfl ?_
        refine at_on rfl rfl ?_
        refine at_callv (f := 71) (enters_fn (by kernel_rfl) rfl) (fun w ho => c2) rfl rfl ?_
        refine at_on rfl rfl ?_
        refine at_do (does_not rfl) rfl rfl ?_
        refine at_do (does_pick_false rfl rfl) rfl rfl ?_
        refine at_nil ?_
        refine at_then ?_
        refine at_cond_f rfl (by decide) ?_
        refine at_skip ?_
        refine at_then ?_
        refine at_seq ?_
        refine at_seq ?_
        refine at_region ?_
        refine at_do (does_fieldAddr (o := 0) (by kernel_rfl) rfl) rfl rfl ?_
        refine at_do (does_load (i := 2) (by kernel_rfl) rfl rfl rfl) rfl rfl ?_
        refine at_do (does_neq rfl rfl) rfl rfl ?_
        refine at_do (does_move rfl) rfl rfl ?_
        refine at_know (t := 22) (d := false) rfl (decide_eq_false (by decide)) ?_
        refine at_on rfl rfl ?_
        refine at_do (does_fieldAddr (o := 0) (by kernel_rfl) rfl) rfl rfl ?_
        refine at_on rfl rfl ?_
        refine at_do (does_load (i := 1) (by kernel_rfl) rfl rfl rfl) rfl rfl ?_
        refine at_on rfl rfl ?_
        refine at_do (does_neq rfl rfl) rfl rfl ?_
        refine at_do (does_pick_false rfl rfl) rfl rfl ?_
        refine at_nil ?_
        refine at_then ?_
        refine at_cond_f rfl (decide_eq_false (by decide)) ?_
        refine at_skip ?_
        refine at_then ?_
        refine at_seq ?_
        refine at_region ?_
        refine at_do (does_move rfl) rfl rfl ?_
        refine at_do (does_fieldAddr (o := 1) (by kernel_rfl) rfl) rfl rfl ?_
        refine at_do (does_load (i := 2) (by kernel_rfl) rfl rfl rfl) rfl rfl ?_
        refine at_do (does_fieldAddr (o := 1) (by kernel_rfl) rfl) rfl rfl ?_
        refine at_do (does_load (i := 1) (by kernel_rfl) rfl rfl rfl) rfl rfl ?_
        refine at_callv (f := 50) (enters_val rfl (by kernel_rfl) rfl) (fun w ho => c3) rfl rfl ?_
        refine at_do (does_move rfl) rfl rfl ?_
        refine at_do (does_extract rfl rfl) rfl rfl ?_
        refine at_do (does_extract rfl rfl) rfl rfl ?_
        refine at_do (does_assign rfl) rfl rfl ?_
        refine at_do (does_assign rfl) rfl rfl ?_
        refine at_nil ?_
        refine at_then ?_
        refine at_seq ?_
        refine at_seq ?_
        refine at_region ?_
        refine at_do (does_move rfl) rfl rfl ?_
        refine at_do (does_neq rfl rfl) rfl rfl ?_
        refine at_nil ?_
        refine at_then ?_
        refine at_cond_t rfl (decide_eq_true (by decide)) ?_
        refine at_seq ?_
        refine at_region ?_
        refine at_do (does_build (ps := []) (vs := []) (cs := [.int .i64 0, .int .i64 0, .string (bs [])]) shapeVal rfl rfl) rfl rfl ?_
        refine at_do (does_move rfl) rfl rfl ?_
        refine at_storeagg (i := 0) (by kernel_rfl) rfl rfl rfl rfl rfl ?_
        refine at_do (does_assign rfl) rfl rfl ?_
        refine at_nil ?_
        refine at_then ?_
        refine at_ret ?_
        refine at_then_ret ?_
        refine at_retagg1 (i := 0) (k := 3) rfl rfl rfl rfl rfl (by kernel_rfl) rfl (fun w9 ho9 => ?_)
        rotate_left
        exact ⟨rfl, ho9.plain⟩
    · have e1 : addN n k m t = 0 := by simp [addN, hk]
      have e2 : addK n k m t = 0 := by simp [addK, hk]
      have e3 : addE n k m t = 10 := by simp [addE, hm', hk]
      rw [e1, e2, e3]
      refine at_seq ?_
      refine at_region ?_
      refine at_boxagg rfl rfl fun gz0 => ?_
      refine at_boxagg rfl rfl fun gz1 => ?_
      refine at_allocagg Tryd.zeroValue41 rfl fun gz2 => ?_
      refine at_do (does_assign rfl) rfl rfl ?_
      refine at_nil ?_
      refine at_then ?_
      refine at_seq ?_
      refine at_seq ?_
      refine at_region ?_
      refine at_do (does_loadagg (i := 2) (k := 3) (by kernel_rfl) rfl rfl rfl) rfl rfl ?_
      refine at_callv (f := 71) (enters_fn (by kernel_rfl) rfl) (fun w ho => c1) rfl rfl ?_
      refine at_do (does_not rfl) rfl rfl ?_
      refine at_do (does_move rfl) rfl rfl ?_
      refine at_know (t := 13) (d := false) rfl (by decide) ?_
      refine at_on rfl rfl ?_
      refine at_do (does_loadagg (i := 1) (k := 3) (by kernel_rfl) rfl rfl rfl) rfl rfl ?_
      refine at_on rfl rfl ?_
      refine at_callv (f := 71) (enters_fn (by kernel_rfl) rfl) (fun w ho => c2) rfl rfl ?_
      refine at_on rfl rfl ?_
      refine at_do (does_not rfl) rfl rfl ?_
      refine at_do (does_pick_false rfl rfl) rfl rfl ?_
      refine at_nil ?_
      refine at_then ?_
      refine at_cond_f rfl (by decide) ?_
      refine at_skip ?_
      refine at_then ?_
      refine at_seq ?_
      refine at_seq ?_
      refine at_region ?_
      refine at_do (does_fieldAddr (o := 0) (by kernel_rfl) rfl) rfl rfl ?_
      refine at_do (does_load (i := 2) (by kernel_rfl) rfl rfl rfl) rfl rfl ?_
      refine at_do (does_neq rfl rfl) rfl rfl ?_
      refine at_do (does_move rfl) rfl rfl ?_
      refine at_know (t := 22) (d := false) rfl (decide_eq_false (by decide)) ?_
      refine at_on rfl rfl ?_
      refine at_do (does_fieldAddr (o := 0) (by kernel_rfl) rfl) rfl rfl ?_
      refine at_on rfl rfl ?_
      refine at_do (does_load (i := 1) (by kernel_rfl) rfl rfl rfl) rfl rfl ?_
      refine at_on rfl rfl ?_
      refine at_do (does_neq rfl rfl) rfl rfl ?_
      refine at_do (does_pick_false rfl rfl) rfl rfl ?_
      refine at_nil ?_
      refine at_then ?_
      refine at_cond_t rfl (decide_eq_true (by simpa using hk)) ?_
      refine at_seq ?_
      refine at_region ?_
      refine at_do (does_build (ps := []) (vs := []) (cs := [.int .i64 0, .int .i64 0, .string (bs [])]) shapeVal rfl rfl) rfl rfl ?_
      refine at_storeagg (i := 0) (by kernel_rfl) rfl rfl rfl rfl rfl ?_
      refine at_do (does_assign rfl) rfl rfl ?_
      refine at_nil ?_
      refine at_then ?_
      refine at_ret ?_
      refine at_then_ret ?_
      refine at_retagg1 (i := 0) (k := 3) rfl rfl rfl rfl rfl (by kernel_rfl) rfl (fun w9 ho9 => ?_)
      rotate_left
      exact ⟨rfl, ho9.plain⟩
theorem value_Add (n k m : Int) (t : List UInt8) (w : World) (hn : I64 n) (hm : I64 m) :
    Calls Tryd.prog 30 #[.agg (valC 2 n []), .agg (valC k m t)] w fun e w' => e = .returned (.tuple #[.agg (valC (addK n k m t) (addN n k m t) []), .int .i64 (addE n k m t)]) ∧ Below w.heap.size w w' := by
  refine calls_plain Tryd.func30 rfl Tryd.ntmps30 rfl ?_
  refine at_seq ?_
  refine at_region ?_
  refine at_boxagg rfl rfl fun gz0 => ?_
  refine at_boxagg rfl rfl fun gz1 => ?_
  refine at_allocagg Tryd.zeroValue41 rfl fun gz2 => ?_
  refine at_do (does_assign rfl) rfl rfl ?_
  refine at_nil ?_
  refine at_then ?_
  refine at_seq ?_
  refine at_region ?_
  refine at_do (does_loadagg (i := 2) (k := 3) (by kernel_rfl) rfl rfl rfl) rfl rfl ?_
  refine at_do (does_loadagg (i := 1) (k := 3) (by kernel_rfl) rfl rfl rfl) rfl rfl ?_
  refine at_callv (f := 49) (enters_fn (by kernel_rfl) rfl) (fun w ho => add_ints n k m t w hn hm) rfl rfl ?_
  refine at_do (does_extract rfl rfl) rfl rfl ?_
  refine at_do (does_extract rfl rfl) rfl rfl ?_
  refine at_storeagg (i := 0) (by kernel_rfl) rfl rfl rfl rfl rfl ?_
  refine at_do (does_assign rfl) rfl rfl ?_
  refine at_nil ?_
  refine at_then ?_
  refine at_ret ?_
  refine at_retagg1 (i := 0) (k := 3) rfl rfl rfl rfl rfl (by kernel_rfl) rfl (fun w9 ho9 => ?_)
  rotate_left
  exact ⟨rfl, ho9.plain⟩
end Go.Proofs.YtjpfebgpcokenaaDoor
set_option linter.unusedSimpArgs false
set_option linter.unusedVariables false
namespace Go.Proofs.YtjpfebgpcokenaaDoor
open Go.RowKit
attribute [local irreducible] cwp lwp Exit.then Exit.inBlock Exit.noGoto wpQuiet Calls fin At AtQ Again endQ RQ
theorem row_itm {w : World} {b e gb o c j : Nat} {xs : List Itm} (h : w.ownsRow b e 5 (.slice (some ⟨gb, o, none⟩) xs.length c) xs.length (itms xs)) (hj : j < xs.length) : ItmAt w gb (o + j * 5) xs[j] := by
  obtain ⟨gb', o', c', e1, _, _, h2⟩ := (items_of_row h).form (by omega)
  simp only [Value.slice.injEq, Option.some.injEq, Addr.mk.injEq, and_true, true_and] at e1
  obtain ⟨⟨rfl, rfl⟩, rfl⟩ := e1
  exact h2 j hj
/-- The sum from a number on: itself, and the error's number. -/
def sumL : Int → List Itm → Int × Int
  | n, [] => (n, 0)
  | n, x :: xs => if addE n x.kind x.num x.txt = 0 then sumL (addN n x.kind x.num x.txt) xs else (0, addE n x.kind x.num x.txt)
def sumR (xs : List Itm) : Int × Int := if xs.all (fun x => decide (x.kind = 2)) then sumL 0 xs else (0, 10)
def sumW (fs : List (List Itm)) (vs : List Int) (f t : List UInt8) : Int × Int := if errW fs vs f t = 0 then sumR (allR fs vs f t) else (0, errW fs vs f t)
theorem addE_kind {n k m : Int} {t : List UInt8} (h : addE n k m t = 0) : addK n k m t = 2 ∧ I64 (addN n k m t) := by
  unfold addE at h
  split at h
  · cases h
  · split at h
    · cases h
    · rename_i h1 h2
      split at h
      · rename_i h3
        have h1 : mayV k m t = true := by simpa using h1
        have h2 : k = 2 := by simpa using h2
        rw [addK, addN, if_pos ⟨h1, h2, h3⟩, if_pos ⟨h1, h2, h3⟩]
        exact ⟨rfl, h3⟩
      · cases h
theorem all_take' {α : Type} {p : α → Bool} {L : List α} {i : Nat} (h : i < L.length) (h1 : (L.take i).all p = true) (h2 : p L[i] = true) : (L.take (i + 1)).all p = true := by rw [all_take h, h1, h2]; rfl
set_option maxHeartbeats 8000000 in
theorem span_Sum (ls : List Value) (vs : List Int) (fs : List (List Itm)) (f t : List UInt8) (w : World) (hT : Tr w ls vs fs) (hI64 : ∀ x ∈ allR fs vs f t, I64 x.num) :
    Calls Tryd.prog 9 #[trunkA ls vs, .string (bs f), .string (bs t)] w fun e w' => e = .returned (.tuple #[.int .i64 (sumW fs vs f t).1, .int .i64 (sumW fs vs f t).2]) ∧ Below w.heap.size w w' := by
  have h32 := hT.size
  have hlen := scanR_len 1024 fs vs f t
  refine calls_plain Tryd.func9 rfl Tryd.ntmps9 rfl ?_
  refine at_seq ?_
  refine at_region ?_
  refine at_boxagg rfl rfl fun gz0 => ?_
  refine at_do (does_assign rfl) rfl rfl ?_
  refine at_do (does_assign rfl) rfl rfl ?_
  refine at_nil ?_
  refine at_then ?_
  refine at_seq ?_
  refine at_region ?_
  refine at_do (does_loadagg (i := 0) (k := 32) (by kernel_rfl) rfl rfl h32) rfl rfl ?_
  refine at_do (does_move rfl) rfl rfl ?_
  refine at_do (does_move rfl) rfl rfl ?_
  refine at_callrow2 (f := 28) (enters_fn (by kernel_rfl) rfl) (fun w ho => span_whole ls vs fs f t w (ho.tr hT)) rfl rfl (fun v => ?_)
  refine at_do (does_move rfl) rfl rfl ?_
  refine at_do (does_extract rfl rfl) rfl rfl ?_
  refine at_do (does_extract rfl rfl) rfl rfl ?_
  refine at_do (does_assign rfl) rfl rfl ?_
  refine at_do (does_assign rfl) rfl rfl ?_
  refine at_nil ?_
  refine at_then ?_
  refine at_seq ?_
  refine at_seq ?_
  refine at_region ?_
  rotate_left
  by_cases he : errW fs vs f t = 0
  · have hW : sumW fs vs f t = sumR (allR fs vs f t) := by rw [sumW, if_pos he]
    rw [hW, he]
    obtain ⟨xs, hxs⟩ : ∃ xs, xs = allR fs vs f t := ⟨_, rfl⟩
    rw [show (scanR 1024 fs vs f t) = xs from hxs.symm] at hlen
    rw [← hxs] at hI64
    rw [show allR fs vs f t = xs from hxs.symm]
    refine at_do (does_move rfl) rfl rfl ?_
    refine at_do (does_neq rfl rfl) rfl rfl ?_
    refine at_nil ?_
    refine at_then ?_
    refine at_cond_f rfl (decide_eq_false (by decide)) ?_
    refine at_skip ?_
    refine at_then ?_
    refine at_seq ?_
    refine at_seq ?_
    refine at_region ?_
    refine at_do (does_move rfl) rfl rfl ?_
    refine at_do (does_rowlen (i := 0) (by kernel_rfl) rfl rfl) rfl rfl ?_
    refine at_do (does_move rfl) rfl rfl ?_
    refine at_nil ?_
    refine at_then ?_
    refine at_block ?_
    rotate_left
    refine at_loopH (σ := Nat) (fun j => j ≤ xs.length ∧ (xs.take j).all (fun x => decide (x.kind = 2)) = true) (fun j => [(8, v), (9, .int .i64 0), (25, v), (26, .int .i64 xs.length), (27, .int .i64 j)]) (fun _ => [.row v IT 5 xs.length (itms xs)]) (fun j => xs.length - j)
      (fun w ho => ⟨0, ⟨Nat.zero_le _, rfl⟩, ⟨rfl, rfl, rfl, rfl, rfl, trivial⟩, ho.sublist (.cons_cons _ (List.nil_sublist _))⟩) ?_
    rintro j ⟨hj, hI⟩
    by_cases hjl : j < xs.length
    · refine at_openrow (i := 0) rfl ?_
      rintro ⟨_, ⟨rfl, h0⟩ | ⟨gb, c, rfl⟩⟩
      · omega
      · have hx := hI64 xs[j] (List.getElem_mem hjl)
        by_cases hk : xs[j].kind = 2
        · refine at_seq ?_
          refine at_region ?_
          refine at_do (does_lss rfl rfl) rfl rfl ?_
          refine at_nil ?_
          refine at_then ?_
          refine at_seq ?_
          refine at_cond_t rfl (decide_eq_true (by omega)) ?_
          refine at_skip ?_
          refine at_then ?_
          refine at_seq ?_
          refine at_block ?_
          refine at_seq ?_
          refine at_region ?_
          refine at_do (does_indexAddrk (k := 5) (j := j) (by kernel_rfl) rfl rfl hjl) rfl rfl ?_
          refine at_do (does_loadagg_mem (vs := itmV xs[j]) (by kernel_rfl) rfl (fun w' ho => (row_itm (ho.rowAt (i := 0) rfl) hjl).agg)) rfl rfl ?_
          refine at_allocagg Tryd.zeroValue43 rfl fun gz0 => ?_
          refine at_storeagg (i := 0) (by kernel_rfl) rfl rfl rfl rfl rfl ?_
          refine at_nil ?_
          refine at_then ?_
          refine at_seq ?_
          refine at_region ?_
          refine at_do (does_fieldAddr (o := 1) (by kernel_rfl) rfl) rfl rfl ?_
          refine at_do (does_fieldAddr (o := 0) (by kernel_rfl) rfl) rfl rfl ?_
          refine at_do (does_load (i := 0) (by kernel_rfl) rfl rfl rfl) rfl rfl ?_
          refine at_do (does_neq rfl rfl) rfl rfl ?_
          refine at_nil ?_
          refine at_then ?_
          refine at_cond_f rfl (decide_eq_false (by omega)) ?_
          refine at_skip ?_
          refine at_inb ?_
          refine at_then ?_
          refine at_region ?_
          refine at_do (does_addi rfl rfl (by omega)) rfl rfl ?_
          refine at_do (does_move rfl) rfl rfl ?_
          refine at_nil ?_
          refine at_then ?_
          rotate_left
          refine at_againw fun w ho => ⟨j + 1, ⟨by show j + 1 ≤ xs.length; omega, all_take' hjl hI (by simp [hk])⟩, by show xs.length - (j + 1) < xs.length - j; omega, ⟨rfl, rfl, rfl, rfl, rfl, trivial⟩, rfl, ho.sublist (List.sublist_cons_self ..)⟩
        · have hR : sumR xs = (0, 10) := by
            rw [sumR, if_neg (by rw [all_false hjl (by simp [hk])]; simp)]
          rw [hR]
          refine at_seq ?_
          refine at_region ?_
          refine at_do (does_lss rfl rfl) rfl rfl ?_
          refine at_nil ?_
          refine at_then ?_
          refine at_seq ?_
          refine at_cond_t rfl (decide_eq_true (by omega)) ?_
          refine at_skip ?_
          refine at_then ?_
          refine at_seq ?_
          refine at_block ?_
          refine at_seq ?_
          refine at_region ?_
          refine at_do (does_indexAddrk (k := 5) (j := j) (by kernel_rfl) rfl rfl hjl) rfl rfl ?_
          refine at_do (does_loadagg_mem (vs := itmV xs[j]) (by kernel_rfl) rfl (fun w' ho => (row_itm (ho.rowAt (i := 0) rfl) hjl).agg)) rfl rfl ?_
          refine at_allocagg Tryd.zeroValue43 rfl fun gz0 => ?_
          refine at_storeagg (i := 0) (by kernel_rfl) rfl rfl rfl rfl rfl ?_
          refine at_nil ?_
          refine at_then ?_
          refine at_seq ?_
          refine at_region ?_
          refine at_do (does_fieldAddr (o := 1) (by kernel_rfl) rfl) rfl rfl ?_
          refine at_do (does_fieldAddr (o := 0) (by kernel_rfl) rfl) rfl rfl ?_
          refine at_do (does_load (i := 0) (by kernel_rfl) rfl rfl rfl) rfl rfl ?_
          refine at_do (does_neq rfl rfl) rfl rfl ?_
          refine at_nil ?_
          refine at_then ?_
          refine at_cond_t rfl (decide_eq_true (by omega)) ?_
          refine at_seq ?_
          refine at_region ?_
          refine at_do (does_assign rfl) rfl rfl ?_
          refine at_do (does_assign rfl) rfl rfl ?_
          refine at_nil ?_
          refine at_then ?_
          refine at_ret ?_
          refine at_inb_ret ?_
          refine at_then_ret ?_
          refine at_then_ret ?_
          refine at_inb_ret ?_
          refine at_then_ret ?_
          refine at_ret2 rfl rfl rfl rfl (fun w9 ho9 => ?_)
          rotate_left
          exact ⟨rfl, ho9.plain⟩
    · obtain rfl : j = xs.length := by omega
      rw [List.take_length] at hI
      have hR : sumR xs = sumL 0 xs := by rw [sumR, if_pos hI]
      rw [hR]
      refine at_seq ?_
      refine at_region ?_
      refine at_do (does_lss rfl rfl) rfl rfl ?_
      refine at_nil ?_
      refine at_then ?_
      refine at_seq ?_
      refine at_cond_f rfl (decide_eq_false (by omega)) ?_
      refine at_exit ?_
      refine at_then_exit ?_
      refine at_then_exit ?_
      refine at_inb_here ?_
      refine at_then ?_
      refine at_seq ?_
      refine at_region ?_
      refine at_callv (f := 29) (enters_fn (by kernel_rfl) rfl) (fun w ho => value_Int 0 w) rfl rfl ?_
      refine at_allocagg Tryd.zeroValue41 rfl fun gz0 => ?_
      refine at_storeagg (i := 0) (by kernel_rfl) rfl rfl rfl rfl rfl ?_
      refine at_nil ?_
      refine at_then ?_
      refine at_seq ?_
      refine at_seq ?_
      refine at_region ?_
      refine at_do (does_move rfl) rfl rfl ?_
      refine at_do (does_rowlen (i := 1) (by kernel_rfl) rfl rfl) rfl rfl ?_
      refine at_do (does_move rfl) rfl rfl ?_
      refine at_nil ?_
      refine at_then ?_
      refine at_block ?_
      rotate_left
      refine at_loopH (σ := Int × Nat) (fun s => s.2 ≤ xs.length ∧ I64 s.1 ∧ sumL s.1 (xs.drop s.2) = sumL 0 xs) (fun s => [(12, .pointer (some ⟨gz0, 0, none⟩)), (37, v), (38, .int .i64 xs.length), (39, .int .i64 s.2)]) (fun s => [.blk gz0 41 (valC 2 s.1 []), .row v IT 5 xs.length (itms xs)]) (fun s => xs.length - s.2)
        (fun w ho => ⟨(0, 0), ⟨Nat.zero_le _, by decide, rfl⟩, ⟨rfl, rfl, rfl, rfl, trivial⟩, ho⟩) ?_
      rintro ⟨n, i⟩ ⟨hi, hn, hs⟩
      simp only at hi hn hs
      by_cases hil : i < xs.length
      · refine at_openrow (i := 1) rfl ?_
        rintro ⟨_, ⟨rfl, h0⟩ | ⟨gb, c, rfl⟩⟩
        · omega
        · have hx := hI64 xs[i] (List.getElem_mem hil)
          have cA : ∀ {w'}, Calls Tryd.prog 30 #[.agg (valC 2 n []), .agg (valC xs[i].kind xs[i].num xs[i].txt)] w' fun e w3 => e = .returned (.tuple #[.agg (valC (addK n xs[i].kind xs[i].num xs[i].txt) (addN n xs[i].kind xs[i].num xs[i].txt) []), .int .i64 (addE n xs[i].kind xs[i].num xs[i].txt)]) ∧ Below w'.heap.size w' w3 := fun {w'} => value_Add n _ _ _ w' hn hx
          rw [List.drop_eq_getElem_cons hil, sumL] at hs
          by_cases hE : addE n xs[i].kind xs[i].num xs[i].txt = 0
          · obtain ⟨hK, hN⟩ := addE_kind hE
            rw [if_pos hE] at hs
            rw [hE] at cA
            refine at_seq ?_
            refine at_region ?_
            refine at_do (does_lss rfl rfl) rfl rfl ?_
            refine at_nil ?_
            refine at_then ?_
            refine at_seq ?_
            refine at_cond_t rfl (decide_eq_true (by omega)) ?_
            refine at_skip ?_
            refine at_then ?_
            refine at_seq ?_
            refine at_block ?_
            refine at_seq ?_
            refine at_region ?_
            refine at_do (does_indexAddrk (k := 5) (j := i) (by kernel_rfl) rfl rfl hil) rfl rfl ?_
            refine at_do (does_loadagg_mem (vs := itmV xs[i]) (by kernel_rfl) rfl (fun w' ho => (row_itm (ho.rowAt (i := 1) rfl) hil).agg)) rfl rfl ?_
            refine at_allocagg Tryd.zeroValue43 rfl fun gz0 => ?_
            refine at_storeagg (i := 0) (by kernel_rfl) rfl rfl rfl rfl rfl ?_
            refine at_nil ?_
            refine at_then ?_
            refine at_seq ?_
            refine at_region ?_
            refine at_do (does_loadagg (i := 1) (k := 3) (by kernel_rfl) rfl rfl rfl) rfl rfl ?_
            refine at_do (does_fieldAddr (o := 1) (by kernel_rfl) rfl) rfl rfl ?_
            refine at_do (does_loadpart (i := 0) (j := 1) (vs := (valC xs[i].kind xs[i].num xs[i].txt).toList) (by kernel_rfl) rfl rfl rfl) rfl rfl ?_
            refine at_callv (f := 30) (enters_fn (by kernel_rfl) rfl) (fun w ho => cA) rfl rfl ?_
            refine at_do (does_move rfl) rfl rfl ?_
            refine at_do (does_extract rfl rfl) rfl rfl ?_
            refine at_do (does_extract rfl rfl) rfl rfl ?_
            refine at_storeagg (i := 1) (by kernel_rfl) rfl rfl rfl rfl rfl ?_
            refine at_do (does_assign rfl) rfl rfl ?_
            refine at_nil ?_
            refine at_then ?_
            refine at_seq ?_
            refine at_region ?_
            refine at_do (does_move rfl) rfl rfl ?_
            refine at_do (does_neq rfl rfl) rfl rfl ?_
            refine at_nil ?_
            refine at_then ?_
            refine at_cond_f rfl (decide_eq_false (by omega)) ?_
            refine at_skip ?_
            refine at_inb ?_
            refine at_then ?_
            refine at_region ?_
            refine at_do (does_addi rfl rfl (by omega)) rfl rfl ?_
            refine at_do (does_move rfl) rfl rfl ?_
            refine at_nil ?_
            refine at_then ?_
            rotate_left
            refine at_againw fun w ho => ⟨(addN n xs[i].kind xs[i].num xs[i].txt, i + 1), ⟨by show i + 1 ≤ xs.length; omega, hN, hs⟩, by show xs.length - (i + 1) < xs.length - i; omega, ⟨rfl, rfl, rfl, rfl, trivial⟩, rfl, ?_⟩
            have := ho.sublist (List.sublist_cons_self ..)
            rw [hK] at this
            exact this
          · rw [if_neg hE] at hs
            rw [← hs]
            refine at_seq ?_
            refine at_region ?_
            refine at_do (does_lss rfl rfl) rfl rfl ?_
            refine at_nil ?_
            refine at_then ?_
            refine at_seq ?_
            refine at_cond_t rfl (decide_eq_true (by omega)) ?_
            refine at_skip ?_
            refine at_then ?_
            refine at_seq ?_
            refine at_block ?_
            refine at_seq ?_
            refine at_region ?_
            refine at_do (does_indexAddrk (k := 5) (j := i) (by kernel_rfl) rfl rfl hil) rfl rfl ?_
            refine at_do (does_loadagg_mem (vs := itmV xs[i]) (by kernel_rfl) rfl (fun w' ho => (row_itm (ho.rowAt (i := 1) rfl) hil).agg)) rfl rfl ?_
            refine at_allocagg Tryd.zeroValue43 rfl fun gz0 => ?_
            refine at_storeagg (i := 0) (by kernel_rfl) rfl rfl rfl rfl rfl ?_
            refine at_nil ?_
            refine at_then ?_
            refine at_seq ?_
            refine at_region ?_
            refine at_do (does_loadagg (i := 1) (k := 3) (by kernel_rfl) rfl rfl rfl) rfl rfl ?_
            refine at_do (does_fieldAddr (o := 1) (by kernel_rfl) rfl) rfl rfl ?_
            refine at_do (does_loadpart (i := 0) (j := 1) (vs := (valC xs[i].kind xs[i].num xs[i].txt).toList) (by kernel_rfl) rfl rfl rfl) rfl rfl ?_
            refine at_callv (f := 30) (enters_fn (by kernel_rfl) rfl) (fun w ho => cA) rfl rfl ?_
            refine at_do (does_move rfl) rfl rfl ?_
            refine at_do (does_extract rfl rfl) rfl rfl ?_
            refine at_do (does_extract rfl rfl) rfl rfl ?_
            refine at_storeagg (i := 1) (by kernel_rfl) rfl rfl rfl rfl rfl ?_
            refine at_do (does_assign rfl) rfl rfl ?_
            refine at_nil ?_
            refine at_then ?_
            refine at_seq ?_
            refine at_region ?_
            refine at_do (does_move rfl) rfl rfl ?_
            refine at_do (does_neq rfl rfl) rfl rfl ?_
            refine at_nil ?_
            refine at_then ?_
            refine at_cond_t rfl (decide_eq_true (by omega)) ?_
            refine at_seq ?_
            refine at_region ?_
            refine at_do (does_move rfl) rfl rfl ?_
            refine at_do (does_assign rfl) rfl rfl ?_
            refine at_do (does_assign rfl) rfl rfl ?_
            refine at_nil ?_
            refine at_then ?_
            refine at_ret ?_
            refine at_inb_ret ?_
            refine at_then_ret ?_
            refine at_then_ret ?_
            refine at_inb_ret ?_
            refine at_then_ret ?_
            refine at_ret2 rfl rfl rfl rfl (fun w9 ho9 => ?_)
            rotate_left
            exact ⟨rfl, ho9.plain⟩
      · obtain rfl : i = xs.length := by omega
        rw [List.drop_length, sumL] at hs
        rw [← hs]
        refine at_seq ?_
        refine at_region ?_
        refine at_do (does_lss rfl rfl) rfl rfl ?_
        refine at_nil ?_
        refine at_then ?_
        refine at_seq ?_
        refine at_cond_f rfl (decide_eq_false (by omega)) ?_
        refine at_exit ?_
        refine at_then_exit ?_
        refine at_then_exit ?_
        refine at_inb_here ?_
        refine at_then ?_
        refine at_seq ?_
        refine at_region ?_
        refine at_do (does_fieldAddr (o := 1) (by kernel_rfl) rfl) rfl rfl ?_
        refine at_do (does_load (i := 0) (by kernel_rfl) rfl rfl rfl) rfl rfl ?_
        refine at_do (does_assign rfl) rfl rfl ?_
        refine at_do (does_assign rfl) rfl rfl ?_
        refine at_nil ?_
        refine at_then ?_
        refine at_ret ?_
        refine at_ret2 rfl rfl rfl rfl (fun w9 ho9 => ?_)
        rotate_left
        exact ⟨rfl, ho9.plain⟩
  · have hW : sumW fs vs f t = (0, errW fs vs f t) := by rw [sumW, if_neg he]
    rw [hW]
    refine at_do (does_move rfl) rfl rfl ?_
    refine at_do (does_neq rfl rfl) rfl rfl ?_
    refine at_nil ?_
    refine at_then ?_
    refine at_cond_t rfl (decide_eq_true (by simpa using he)) ?_
    refine at_seq ?_
    refine at_region ?_
    refine at_do (does_move rfl) rfl rfl ?_
    refine at_do (does_assign rfl) rfl rfl ?_
    refine at_do (does_assign rfl) rfl rfl ?_
    refine at_nil ?_
    refine at_then ?_
    refine at_ret ?_
    refine at_then_ret ?_
    refine at_ret2 rfl rfl rfl rfl (fun w9 ho9 => ?_)
    rotate_left
    exact ⟨rfl, ho9.plain⟩
end Go.Proofs.YtjpfebgpcokenaaDoor
set_option linter.unusedSimpArgs false
set_option linter.unusedVariables false
namespace Go.Proofs.YtjpfebgpcokenaaDoor
open Go.RowKit
section
variable {P : Program} {n : Nat} {E : List (Nat × Value)} {C : Ctx} {H : List Res} {K : Act → World → Prop} {dst : Option Tmp} {ty xT yT : TypeId} {pos : String} {after : Array Edge} {g : Option (Nat × Bool)} {x y : Operand}
theorem does_rem32 {p a : Int} (hx : ev E x = some (.int .i64 p)) (h : p.tmod 4294967296 = a) : Does P n E C H ⟨dst, .binOp .rem xT x (.const (.int .i64 4294967296)) yT, ty, pos, after, g⟩ (.int .i64 a) := h ▸ does_rem hx rfl (by decide)
theorem does_quo32 {p a : Int} (hx : ev E x = some (.int .i64 p)) (h : p.tdiv 4294967296 = a) (ha : I64 a) : Does P n E C H ⟨dst, .binOp .quo xT x (.const (.int .i64 4294967296)) yT, ty, pos, after, g⟩ (.int .i64 a) := by
  have := does_quo (P := P) (n := n) (C := C) (H := H) (dst := dst) (ty := ty) (pos := pos) (after := after) (g := g) (xT := xT) (yT := yT) (y := .const (.int .i64 4294967296)) hx rfl (by decide)
  rwa [h, IntWalk.i64_in _ ha] at this
end
attribute [local irreducible] cwp lwp Exit.then Exit.inBlock Exit.noGoto wpQuiet Calls fin At AtQ Again endQ RQ
theorem halves (n : Int) : ∃ a b, n.tmod 4294967296 = a ∧ n.tdiv 4294967296 = b ∧ n = b * 4294967296 + a ∧ -4294967296 < a ∧ a < 4294967296 ∧ (0 ≤ n → 0 ≤ a) ∧ (n ≤ 0 → a ≤ 0) := by
  refine ⟨_, _, rfl, rfl, ?_, Int.lt_tmod_of_pos n (by decide), Int.tmod_lt_of_pos n (by decide), fun h => Int.tmod_nonneg _ h, fun h => ?_⟩
  · have := Int.tmod_add_mul_tdiv n 4294967296
    omega
  · have h1 := Int.tmod_nonneg 4294967296 (show 0 ≤ -n by omega)
    rw [Int.neg_tmod] at h1
    omega
theorem ref_half (n : Int) (w : World) (hn : I64 n) : Calls Tryd.prog 75 #[.int .i64 n] w fun e w' => e = .returned (.tuple #[.int .i64 (n / 4294967296), .int .i64 (n % 4294967296)]) ∧ Below w.heap.size w w' := by
  obtain ⟨n1, n2⟩ := hn
  obtain ⟨a, b, ha, hb, h1, h2, h3, h4, h5⟩ := halves n
  have hbI : I64 b := by unfold I64; omega
  refine calls_plain Tryd.func75 rfl Tryd.ntmps75 rfl ?_
  by_cases h : a < 0
  · have e1 : n / 4294967296 = b - 1 := by omega
    have e2 : n % 4294967296 = a + 4294967296 := by omega
    rw [e1, e2]
    refine at_seq ?_
    refine at_region ?_
    refine at_do (does_assign rfl) rfl rfl ?_
    refine at_do (does_assign rfl) rfl rfl ?_
    refine at_nil ?_
    refine at_then ?_
    refine at_seq ?_
    refine at_region ?_
    refine at_do (does_move rfl) rfl rfl ?_
    refine at_do (does_rem32 rfl ha) rfl rfl ?_
    refine at_do (does_assign rfl) rfl rfl ?_
    refine at_nil ?_
    refine at_then ?_
    refine at_seq ?_
    refine at_region ?_
    refine at_do (does_move rfl) rfl rfl ?_
    refine at_do (does_quo32 rfl hb hbI) rfl rfl ?_
    refine at_do (does_assign rfl) rfl rfl ?_
    refine at_nil ?_
    refine at_then ?_
    refine at_seq ?_
    refine at_seq ?_
    refine at_region ?_
    refine at_do (does_move rfl) rfl rfl ?_
    refine at_do (does_lss rfl rfl) rfl rfl ?_
    refine at_nil ?_
    refine at_then ?_
    refine at_cond_t rfl (decide_eq_true (by omega)) ?_
    refine at_seq ?_
    refine at_region ?_
    refine at_do (does_move rfl) rfl rfl ?_
    refine at_do (does_addi rfl rfl (by omega)) rfl rfl ?_
    refine at_do (does_assign rfl) rfl rfl ?_
    refine at_nil ?_
    refine at_then ?_
    refine at_region ?_
    refine at_do (does_move rfl) rfl rfl ?_
    refine at_do (does_subi rfl rfl (by omega)) rfl rfl ?_
    refine at_do (does_assign rfl) rfl rfl ?_
    refine at_nil ?_
    refine at_then ?_
    refine at_seq ?_
    refine at_region ?_
    refine at_do (does_move rfl) rfl rfl ?_
    refine at_do (does_move rfl) rfl rfl ?_
    refine at_do (does_assign rfl) rfl rfl ?_
    refine at_do (does_assign rfl) rfl rfl ?_
    refine at_nil ?_
    refine at_then ?_
    refine at_ret ?_
    refine at_ret2 rfl rfl rfl rfl (fun w9 ho9 => ?_)
    rotate_left
    exact ⟨rfl, ho9.plain⟩
  · have e1 : n / 4294967296 = b := by omega
    have e2 : n % 4294967296 = a := by omega
    rw [e1, e2]
    refine at_seq ?_
    refine at_region ?_
    refine at_do (does_assign rfl) rfl rfl ?_
    refine at_do (does_assign rfl) rfl rfl ?_
    refine at_nil ?_
    refine at_then ?_
    refine at_seq ?_
    refine at_region ?_
    refine at_do (does_move rfl) rfl rfl ?_
    refine at_do (does_rem32 rfl ha) rfl rfl ?_
    refine at_do (does_assign rfl) rfl rfl ?_
    refine at_nil ?_
    refine at_then ?_
    refine at_seq ?_
    refine at_region ?_
    refine at_do (does_move rfl) rfl rfl ?_
    refine at_do (does_quo32 rfl hb hbI) rfl rfl ?_
    refine at_do (does_assign rfl) rfl rfl ?_
    refine at_nil ?_
    refine at_then ?_
    refine at_seq ?_
    refine at_seq ?_
    refine at_region ?_
    refine at_do (does_move rfl) rfl rfl ?_
    refine at_do (does_lss rfl rfl) rfl rfl ?_
    refine at_nil ?_
    refine at_then ?_
    refine at_cond_f rfl (decide_eq_false (by omega)) ?_
    refine at_skip ?_
    refine at_then ?_
    refine at_seq ?_
    refine at_region ?_
    refine at_do (does_move rfl) rfl rfl ?_
    refine at_do (does_move rfl) rfl rfl ?_
    refine at_do (does_assign rfl) rfl rfl ?_
    refine at_do (does_assign rfl) rfl rfl ?_
    refine at_nil ?_
    refine at_then ?_
    refine at_ret ?_
    refine at_ret2 rfl rfl rfl rfl (fun w9 ho9 => ?_)
    rotate_left
    exact ⟨rfl, ho9.plain⟩
theorem ref_sum (n m : Int) (w : World) (hn : I64 n) (hm : I64 m) : Calls Tryd.prog 55 #[.int .i64 n, .int .i64 m] w fun e w' => e = .returned (.tuple #[.int .i64 (if I64 (n + m) then n + m else 0), .bool (decide (I64 (n + m)))]) ∧ Below w.heap.size w w' := by
  obtain ⟨n1, n2⟩ := id hn
  obtain ⟨m1, m2⟩ := id hm
  obtain ⟨nh, hnh⟩ : ∃ a, a = n / 4294967296 := ⟨_, rfl⟩
  obtain ⟨nl, hnl⟩ : ∃ a, a = n % 4294967296 := ⟨_, rfl⟩
  obtain ⟨mh, hmh⟩ : ∃ a, a = m / 4294967296 := ⟨_, rfl⟩
  obtain ⟨ml, hml⟩ : ∃ a, a = m % 4294967296 := ⟨_, rfl⟩
  have c1 : ∀ {w'}, Calls Tryd.prog 75 #[.int .i64 n] w' fun e w3 => e = .returned (.tuple #[.int .i64 nh, .int .i64 nl]) ∧ Below w'.heap.size w' w3 := fun {w'} => by rw [hnh, hnl]; exact ref_half n w' hn
  have c2 : ∀ {w'}, Calls Tryd.prog 75 #[.int .i64 m] w' fun e w3 => e = .returned (.tuple #[.int .i64 mh, .int .i64 ml]) ∧ Below w'.heap.size w' w3 := fun {w'} => by rw [hmh, hml]; exact ref_half m w' hm
  have hnE : n = nh * 4294967296 + nl := by omega
  have hmE : m = mh * 4294967296 + ml := by omega
  have b1 : 0 ≤ nl ∧ nl < 4294967296 := by omega
  have b2 : 0 ≤ ml ∧ ml < 4294967296 := by omega
  have b3 : -2147483648 ≤ nh ∧ nh ≤ 2147483647 := by omega
  have b4 : -2147483648 ≤ mh ∧ mh ≤ 2147483647 := by omega
  clear hnh hnl hmh hml
  obtain ⟨cl, hcl⟩ : ∃ c, c = (nl + ml) / 4294967296 := ⟨_, rfl⟩
  obtain ⟨ll, hll⟩ : ∃ c, c = (nl + ml) % 4294967296 := ⟨_, rfl⟩
  refine calls_plain Tryd.func55 rfl Tryd.ntmps55 rfl ?_
  by_cases hx : I64 (n + m)
  · obtain ⟨x1, x2⟩ := id hx
    rw [if_pos hx, decide_eq_true hx]
    refine at_seq ?_
    refine at_region ?_
    refine at_do (does_assign rfl) rfl rfl ?_
    refine at_do (does_assign rfl) rfl rfl ?_
    refine at_nil ?_
    refine at_then ?_
    refine at_seq ?_
    refine at_region ?_
    refine at_do (does_move rfl) rfl rfl ?_
    refine at_callv (f := 75) (enters_fn (by kernel_rfl) rfl) (fun w ho => c1) rfl rfl ?_
    refine at_do (does_move rfl) rfl rfl ?_
    refine at_do (does_extract rfl rfl) rfl rfl ?_
    refine at_do (does_extract rfl rfl) rfl rfl ?_
    refine at_do (does_assign rfl) rfl rfl ?_
    refine at_do (does_assign rfl) rfl rfl ?_
    refine at_nil ?_
    refine at_then ?_
    refine at_seq ?_
    refine at_region ?_
    refine at_do (does_move rfl) rfl rfl ?_
    refine at_callv (f := 75) (enters_fn (by kernel_rfl) rfl) (fun w ho => c2) rfl rfl ?_
    refine at_do (does_move rfl) rfl rfl ?_
    refine at_do (does_extract rfl rfl) rfl rfl ?_
    refine at_do (does_extract rfl rfl) rfl rfl ?_
    refine at_do (does_assign rfl) rfl rfl ?_
    refine at_do (does_assign rfl) rfl rfl ?_
    refine at_nil ?_
    refine at_then ?_
    refine at_seq ?_
    refine at_region ?_
    refine at_do (does_move rfl) rfl rfl ?_
    refine at_do (does_move rfl) rfl rfl ?_
    refine at_do (does_addi rfl rfl (by omega)) rfl rfl ?_
    refine at_do (does_assign rfl) rfl rfl ?_
    refine at_nil ?_
    refine at_then ?_
    refine at_seq ?_
    refine at_region ?_
    refine at_do (does_move rfl) rfl rfl ?_
    refine at_do (does_move rfl) rfl rfl ?_
    refine at_do (does_addi rfl rfl (by omega)) rfl rfl ?_
    refine at_do (does_move rfl) rfl rfl ?_
    refine at_do (does_quoi rfl rfl (by omega)) rfl rfl ?_
    refine at_do (does_addi rfl rfl (by omega)) rfl rfl ?_
    refine at_do (does_assign rfl) rfl rfl ?_
    refine at_nil ?_
    refine at_then ?_
    refine at_seq ?_
    refine at_seq ?_
    refine at_region ?_
    refine at_do (does_move rfl) rfl rfl ?_
    refine at_do (does_lss rfl rfl) rfl rfl ?_
    refine at_do (does_move rfl) rfl rfl ?_
    refine at_know (t := 33) (d := false) rfl (decide_eq_false (by omega)) ?_
    refine at_on rfl rfl ?_
    refine at_do (does_move rfl) rfl rfl ?_
    refine at_on rfl rfl ?_
    refine at_do (does_gtr rfl rfl) rfl rfl ?_
    refine at_do (does_pick_false rfl rfl) rfl rfl ?_
    refine at_nil ?_
    refine at_then ?_
    refine at_cond_f rfl (decide_eq_false (by omega)) ?_
    refine at_skip ?_
    refine at_then ?_
    refine at_seq ?_
    refine at_region ?_
    refine at_do (does_move rfl) rfl rfl ?_
    refine at_do (does_muli rfl rfl (by omega)) rfl rfl ?_
    refine at_do (does_move rfl) rfl rfl ?_
    refine at_do (does_remi rfl rfl (by omega)) rfl rfl ?_
    refine at_do (does_addi rfl rfl (by omega)) rfl rfl ?_
    refine at_do (does_assign rfl) rfl rfl ?_
    refine at_do (does_assign rfl) rfl rfl ?_
    refine at_nil ?_
    refine at_then ?_
    refine at_ret ?_
    refine at_ret2 rfl rfl rfl rfl (fun w9 ho9 => ?_)
    rotate_left
    refine ⟨?_, ho9.plain⟩
    have : (nh + mh + (nl + ml) / 4294967296) * 4294967296 + (nl + ml) % 4294967296 = n + m := by omega
    rw [this]
  · have hx' : n + m < -9223372036854775808 ∨ 9223372036854775807 < n + m := by unfold I64 at hx; omega
    rw [if_neg hx, decide_eq_false hx]
    rcases hx' with hx' | hx'
    · refine at_seq ?_
      refine at_region ?_
      refine at_do (does_assign rfl) rfl rfl ?_
      refine at_do (does_assign rfl) rfl rfl ?_
      refine at_nil ?_
      refine at_then ?_
      refine at_seq ?_
      refine at_region ?_
      refine at_do (does_move rfl) rfl rfl ?_
      refine at_callv (f := 75) (enters_fn (by kernel_rfl) rfl) (fun w ho => c1) rfl rfl ?_
      refine at_do (does_move rfl) rfl rfl ?_
      refine at_do (does_extract rfl rfl) rfl rfl ?_
      refine at_do (does_extract rfl rfl) rfl rfl ?_
      refine at_do (does_assign rfl) rfl rfl ?_
      refine at_do (does_assign rfl) rfl rfl ?_
      refine at_nil ?_
      refine at_then ?_
      refine at_seq ?_
      refine at_region ?_
      refine at_do (does_move rfl) rfl rfl ?_
      refine at_callv (f := 75) (enters_fn (by kernel_rfl) rfl) (fun w ho => c2) rfl rfl ?_
      refine at_do (does_move rfl) rfl rfl ?_
      refine at_do (does_extract rfl rfl) rfl rfl ?_
      refine at_do (does_extract rfl rfl) rfl rfl ?_
      refine at_do (does_assign rfl) rfl rfl ?_
      refine at_do (does_assign rfl) rfl rfl ?_
      refine at_nil ?_
      refine at_then ?_
      refine at_seq ?_
      refine at_region ?_
      refine at_do (does_move rfl) rfl rfl ?_
      refine at_do (does_move rfl) rfl rfl ?_
      refine at_do (does_addi rfl rfl (by omega)) rfl rfl ?_
      refine at_do (does_assign rfl) rfl rfl ?_
      refine at_nil ?_
      refine at_then ?_
      refine at_seq ?_
      refine at_region ?_
      refine at_do (does_move rfl) rfl rfl ?_
      refine at_do (does_move rfl) rfl rfl ?_
      refine at_do (does_addi rfl rfl (by omega)) rfl rfl ?_
      refine at_do (does_move rfl) rfl rfl ?_
      refine at_do (does_quoi rfl rfl (by omega)) rfl rfl ?_
      refine at_do (does_addi rfl rfl (by omega)) rfl rfl ?_
      refine at_do (does_assign rfl) rfl rfl ?_
      refine at_nil ?_
      refine at_then ?_
      refine at_seq ?_
      refine at_seq ?_
      refine at_region ?_
      refine at_do (does_move rfl) rfl rfl ?_
      refine at_do (does_lss rfl rfl) rfl rfl ?_
      refine at_do (does_move rfl) rfl rfl ?_
      refine at_know (t := 33) (d := true) rfl (decide_eq_true (by omega)) ?_
      refine at_no rfl rfl rfl rfl ?_
      refine at_no rfl rfl rfl rfl ?_
      refine at_do (does_pick_true rfl rfl) rfl rfl ?_
      refine at_nil ?_
      refine at_then ?_
      refine at_cond_true rfl ?_
      refine at_seq ?_
      refine at_region ?_
      refine at_do (does_assign rfl) rfl rfl ?_
      refine at_do (does_assign rfl) rfl rfl ?_
      refine at_nil ?_
      refine at_then ?_
      refine at_ret ?_
      refine at_then_ret ?_
      refine at_ret2 rfl rfl rfl rfl (fun w9 ho9 => ?_)
      rotate_left
      exact ⟨rfl, ho9.plain⟩
    · refine at_seq ?_
      refine at_region ?_
      refine at_do (does_assign rfl) rfl rfl ?_
      refine at_do (does_assign rfl) rfl rfl ?_
      refine at_nil ?_
      refine at_then ?_
      refine at_seq ?_
      refine at_region ?_
      refine at_do (does_move rfl) rfl rfl ?_
      refine at_callv (f := 75) (enters_fn (by kernel_rfl) rfl) (fun w ho => c1) rfl rfl ?_
      refine at_do (does_move rfl) rfl rfl ?_
      refine at_do (does_extract rfl rfl) rfl rfl ?_
      refine at_do (does_extract rfl rfl) rfl rfl ?_
      refine at_do (does_assign rfl) rfl rfl ?_
      refine at_do (does_assign rfl) rfl rfl ?_
      refine at_nil ?_
      refine at_then ?_
      refine at_seq ?_
      refine at_region ?_
      refine at_do (does_move rfl) rfl rfl ?_
      refine at_callv (f := 75) (enters_fn (by kernel_rfl) rfl) (fun w ho => c2) rfl rfl ?_
      refine at_do (does_move rfl) rfl rfl ?_
      refine at_do (does_extract rfl rfl) rfl rfl ?_
      refine at_do (does_extract rfl rfl) rfl rfl ?_
      refine at_do (does_assign rfl) rfl rfl ?_
      refine at_do (does_assign rfl) rfl rfl ?_
      refine at_nil ?_
      refine at_then ?_
      refine at_seq ?_
      refine at_region ?_
      refine at_do (does_move rfl) rfl rfl ?_
      refine at_do (does_move rfl) rfl rfl ?_
      refine at_do (does_addi rfl rfl (by omega)) rfl rfl ?_
      refine at_do (does_assign rfl) rfl rfl ?_
      refine at_nil ?_
      refine at_then ?_
      refine at_seq ?_
      refine at_region ?_
      refine at_do (does_move rfl) rfl rfl ?_
      refine at_do (does_move rfl) rfl rfl ?_
      refine at_do (does_addi rfl rfl (by omega)) rfl rfl ?_
      refine at_do (does_move rfl) rfl rfl ?_
      refine at_do (does_quoi rfl rfl (by omega)) rfl rfl ?_
      refine at_do (does_addi rfl rfl (by omega)) rfl rfl ?_
      refine at_do (does_assign rfl) rfl rfl ?_
      refine at_nil ?_
      refine at_then ?_
      refine at_seq ?_
      refine at_seq ?_
      refine at_region ?_
      refine at_do (does_move rfl) rfl rfl ?_
      refine at_do (does_lss rfl rfl) rfl rfl ?_
      refine at_do (does_move rfl) rfl rfl ?_
      refine at_know (t := 33) (d := false) rfl (decide_eq_false (by omega)) ?_
      refine at_on rfl rfl ?_
      refine at_do (does_move rfl) rfl rfl ?_
      refine at_on rfl rfl ?_
      refine at_do (does_gtr rfl rfl) rfl rfl ?_
      refine at_do (does_pick_false rfl rfl) rfl rfl ?_
      refine at_nil ?_
      refine at_then ?_
      refine at_cond_t rfl (decide_eq_true (by omega)) ?_
      refine at_seq ?_
      refine at_region ?_
      refine at_do (does_assign rfl) rfl rfl ?_
      refine at_do (does_assign rfl) rfl rfl ?_
      refine at_nil ?_
      refine at_then ?_
      refine at_ret ?_
      refine at_then_ret ?_
      refine at_ret2 rfl rfl rfl rfl (fun w9 ho9 => ?_)
      rotate_left
      exact ⟨rfl, ho9.plain⟩
end Go.Proofs.YtjpfebgpcokenaaDoor
set_option linter.unusedSimpArgs false
set_option linter.unusedVariables false
namespace Go.Proofs.YtjpfebgpcokenaaDoor
open Go.RowKit
attribute [local irreducible] cwp lwp Exit.then Exit.inBlock Exit.noGoto wpQuiet Calls fin At AtQ Again endQ RQ
theorem ref_Two (n k m : Int) (t : List UInt8) (w : World) (hn : I64 n) (hm : I64 m) :
    Calls Tryd.prog 35 #[.int .i64 0, .agg (valC 2 n []), .agg (valC k m t)] w fun e w' => e = .returned (.tuple #[.agg (valC (addK n k m t) (addN n k m t) []), .int .i64 (addE n k m t)]) ∧ Below w.heap.size w w' := by
  have c1 : ∀ {w'}, Calls Tryd.prog 54 #[.agg (valC 2 n [])] w' fun e w3 => e = .returned (.bool true) ∧ Below w'.heap.size w' w3 := fun {w'} => by
    have := refv_May 2 n [] w'
    rwa [show mayV 2 n [] = true by simp [mayV]] at this
  have c2 : ∀ {w'}, Calls Tryd.prog 54 #[.agg (valC k m t)] w' fun e w3 => e = .returned (.bool (mayV k m t)) ∧ Below w'.heap.size w' w3 := fun {w'} => refv_May k m t w'
  refine calls_plain Tryd.func35 rfl Tryd.ntmps35 rfl ?_
  cases hm' : mayV k m t
  · rw [hm'] at c2
    have e1 : addN n k m t = 0 := by simp [addN, hm']
    have e2 : addK n k m t = 0 := by simp [addK, hm']
    have e3 : addE n k m t = 1 := by simp [addE, hm']
    rw [e1, e2, e3]
    refine at_seq ?_
    refine at_region ?_
    refine at_boxagg rfl rfl fun gz0 => ?_
    refine at_boxagg rfl rfl fun gz1 => ?_
    refine at_allocagg Tryd.zeroValue41 rfl fun gz2 => ?_
    refine at_do (does_assign rfl) rfl rfl ?_
    refine at_nil ?_
    refine at_then ?_
    refine at_seq ?_
    refine at_seq ?_
    refine at_region ?_
    refine at_do (does_loadagg (i := 2) (k := 3) (by kernel_rfl) rfl rfl rfl) rfl rfl ?_
    refine at_callv (f := 54) (enters_fn (by kernel_rfl) rfl) (fun w ho => c1) rfl rfl ?_
    refine at_do (does_not rfl) rfl rfl ?_
    refine at_do (does_move rfl) rfl rfl ?_
    refine at_know (t := 15) (d := false) rfl (by decide) ?_
    refine at_on rfl rfl ?_
    refine at_do (does_loadagg (i := 1) (k := 3) (by kernel_rfl) rfl rfl rfl) rfl rfl ?_
    refine at_on rfl rfl ?_
    refine at_callv (f := 54) (enters_fn (by kernel_rfl) rfl) (fun w ho => c2) rfl rfl ?_
    refine at_on rfl rfl ?_
    refine at_do (does_not rfl) rfl rfl ?_
    refine at_do (does_pick_false rfl rfl) rfl rfl ?_
    refine at_nil ?_
    refine at_then ?_
    refine at_cond_t rfl (by decide) ?_
    refine at_seq ?_
    refine at_region ?_
    refine at_do (does_build (ps := []) (vs := []) (cs := [.int .i64 0, .int .i64 0, .string (bs [])]) shapeVal rfl rfl) rfl rfl ?_
    refine at_storeagg (i := 0) (by kernel_rfl) rfl rfl rfl rfl rfl ?_
    refine at_do (does_assign rfl) rfl rfl ?_
    refine at_nil ?_
    refine at_then ?_
    refine at_ret ?_
    refine at_then_ret ?_
    refine at_retagg1 (i := 0) (k := 3) rfl rfl rfl rfl rfl (by kernel_rfl) rfl (fun w9 ho9 => ?_)
    rotate_left
    exact ⟨rfl, ho9.plain⟩
  · rw [hm'] at c2
    by_cases hk : k = 2
    · subst hk
      have c3 : ∀ {w'}, Calls Tryd.prog 55 #[.int .i64 n, .int .i64 m] w' fun e w3 => e = .returned (.tuple #[.int .i64 (if I64 (n + m) then n + m else 0), .bool (decide (I64 (n + m)))]) ∧ Below w'.heap.size w' w3 := fun {w'} => ref_sum n m w' hn hm
      by_cases hx : I64 (n + m)
      · have e1 : addN n 2 m t = n + m := by simp [addN, hm', hx]
        have e2 : addK n 2 m t = 2 := by simp [addK, hm', hx]
        have e3 : addE n 2 m t = 0 := by simp [addE, hm', hx]
        rw [e1, e2, e3]
        simp only [if_pos hx, decide_eq_true hx] at c3
        refine at_seq ?_
        refine at_region ?_
        refine at_boxagg rfl rfl fun gz0 => ?_
        refine at_boxagg rfl rfl fun gz1 => ?_
        refine at_allocagg Tryd.zeroValue41 rfl fun gz2 => ?_
        refine at_do (does_assign rfl) rfl rfl ?_
        refine at_nil ?_
        refine at_then ?_
        refine at_seq ?_
        refine at_seq ?_
        refine at_region ?_
        refine at_do (does_loadagg (i := 2) (k := 3) (by kernel_rfl) rfl rfl rfl) rfl rfl ?_
        refine at_callv (f := 54) (enters_fn (by kernel_rfl) rfl) (fun w ho => c1) rfl rfl ?_
        refine at_do (does_not rfl) rfl rfl ?_
        refine at_do (does_move rfl) rfl rfl ?_
        refine at_know (t := 15) (d := false) rfl (by decide) ?_
        refine at_on rfl rfl ?_
        refine at_do (does_loadagg (i := 1) (k := 3) (by kernel_rfl) rfl rfl rfl) rfl rfl ?_
        refine at_on rfl rfl ?_
        refine at_callv (f := 54) (enters_fn (by kernel_rfl) rfl) (fun w ho => c2) rfl rfl ?_
        refine at_on rfl rfl ?_
        refine at_do (does_not rfl) rfl rfl ?_
        refine at_do (does_pick_false rfl rfl) rfl rfl ?_
        refine at_nil ?_
        refine at_then ?_
        refine at_cond_f rfl (by decide) ?_
        refine at_skip ?_
        refine at_then ?_
        refine at_seq ?_
        refine at_seq ?_
        refine at_region ?_
        refine at_do (does_fieldAddr (o := 0) (by kernel_rfl) rfl) rfl rfl ?_
        refine at_do (does_load (i := 2) (by kernel_rfl) rfl rfl rfl) rfl rfl ?_
        refine at_do (does_neq rfl rfl) rfl rfl ?_
        refine at_do (does_move rfl) rfl rfl ?_
        refine at_know (t := 24) (d := false) rfl (decide_eq_false (by decide)) ?_
        refine at_on rfl rfl ?_
        refine at_do (does_fieldAddr (o := 0) (by kernel_rfl) rfl) rfl rfl ?_
        refine at_on rfl rfl ?_
        refine at_do (does_load (i := 1) (by kernel_rfl) rfl rfl rfl) rfl rfl ?_
        refine at_on rfl rfl ?_
        refine at_do (does_neq rfl rfl) rfl rfl ?_
        refine at_do (does_pick_false rfl rfl) rfl rfl ?_
        refine at_nil ?_
        refine at_then ?_
        refine at_cond_f rfl (decide_eq_false (by decide)) ?_
        refine at_skip ?_
        refine at_then ?_
        refine at_seq ?_
        refine at_region ?_
        refine at_do (does_assign rfl) rfl rfl ?_
        refine at_do (does_assign rfl) rfl rfl ?_
        refine at_nil ?_
        refine at_then ?_
        refine at_seq ?_
        refine at_seq ?_
        refine at_region ?_
        refine at_do (does_move rfl) rfl rfl ?_
        refine at_nil ?_
        refine at_then ?_
        refine at_block ?_
        refine at_seq ?_
        refine at_region ?_
        refine at_do (does_eql rfl rfl) rfl rfl ?_
        refine at_do (does_assign rfl) rfl rfl ?_
        refine at_nil ?_
        refine at_then ?_
        refine at_cond_t rfl (decide_eq_true (by decide)) ?_
        refine at_region ?_
        refine at_do (does_fieldAddr (o := 1) (by kernel_rfl) rfl) rfl rfl ?_
        refine at_do (does_load (i := 2) (by kernel_rfl) rfl rfl rfl) rfl rfl ?_
        refine at_do (does_fieldAddr (o := 1) (by kernel_rfl) rfl) rfl rfl ?_
        refine at_do (does_load (i := 1) (by kernel_rfl) rfl rfl rfl) rfl rfl ?_
        refine at_callv (f := 55) (enters_fn (by kernel_rfl) rfl) (fun w ho => c3) rfl rfl ?_
        refine at_do (does_move rfl) rfl rfl ?_
        refine at_do (does_extract rfl rfl) rfl rfl ?_
        refine at_do (does_extract rfl rfl) rfl rfl ?_
        refine at_do (does_assign rfl) rfl rfl ?_
        refine at_do (does_assign rfl) rfl rfl ?_
        refine at_nil ?_
        refine at_inb ?_
        refine at_then ?_
        refine at_seq ?_
        refine at_seq ?_
        refine at_region ?_
        refine at_do (does_move rfl) rfl rfl ?_
        refine at_do (does_not rfl) rfl rfl ?_
        refine at_nil ?_
        refine at_then ?_
        refine at_cond_f rfl (by decide) ?_
        refine at_skip ?_
        refine at_then ?_
        refine at_seq ?_
        refine at_region ?_
        refine at_do (does_move rfl) rfl rfl ?_
        refine at_callv (f := 34) (enters_fn (by kernel_rfl) rfl) (fun w ho => ref_Int (n + m) w) rfl rfl ?_
        refine at_storeagg (i := 0) (by kernel_rfl) rfl rfl rfl rfl rfl ?_
        refine at_do (does_assign rfl) rfl rfl ?_
        refine at_nil ?_
        refine at_then ?_
        refine at_ret ?_
        refine at_retagg1 (i := 0) (k := 3) rfl rfl rfl rfl rfl (by kernel_rfl) rfl (fun w9 ho9 => ?_)
        rotate_left
        exact ⟨rfl, ho9.plain⟩
      · have e1 : addN n 2 m t = 0 := by simp [addN, hx]
        have e2 : addK n 2 m t = 0 := by simp [addK, hx]
        have e3 : addE n 2 m t = 8 := by simp [addE, hm', hx]
        rw [e1, e2, e3]
        simp only [if_neg hx, decide_eq_false hx] at c3
        refine at_seq ?_
        refine at_region ?_
        refine at_boxagg rfl rfl fun gz0 => ?_
        refine at_boxagg rfl rfl fun gz1 => ?_
        refine at_allocagg Tryd.zeroValue41 rfl fun gz2 => ?_
        refine at_do (does_assign rfl) rfl rfl ?_
        refine at_nil ?_
        refine at_then ?_
        refine at_seq ?_
        refine at_seq ?_
        refine at_region ?_
        refine at_do (does_loadagg (i := 2) (k := 3) (by kernel_rfl) rfl rfl rfl) rfl rfl ?_
        refine at_callv (f := 54) (enters_fn (by kernel_rfl) rfl) (fun w ho => c1) rfl rfl ?_
        refine at_do (does_not rfl) rfl rfl ?_
        refine at_do (does_move rfl) rfl rfl ?_
        refine at_know (t := 15) (d := false) rfl (by decide) ?_
        refine at_on rfl rfl ?_
        refine at_do (does_loadagg (i := 1) (k := 3) (by kernel_rfl) rfl rfl rfl) rfl rfl ?_
        refine at_on rfl rfl ?_
        refine at_callv (f := 54) (enters_fn (by kernel_rfl) rfl) (fun w ho => c2) rfl rfl ?_
        refine at_on rfl rfl ?_
        refine at_do (does_not rfl) rfl rfl ?_
        refine at_do (does_pick_false rfl rfl) rfl rfl ?_
        refine at_nil ?_
        refine at_then ?_
        refine at_cond_f rfl (by decide) ?_
        refine at_skip ?_
        refine at_then ?_
        refine at_seq ?_
        refine at_seq ?_
        refine at_region ?_
        refine at_do (does_fieldAddr (o := 0) (by kernel_rfl) rfl) rfl rfl ?_
        refine at_do (does_load (i := 2) (by kernel_rfl) rfl rfl rfl) rfl rfl ?_
        refine at_do (does_neq rfl rfl) rfl rfl ?_
        refine at_do (does_move rfl) rfl rfl ?_
        refine at_know (t := 24) (d := false) rfl (decide_eq_false (by decide)) ?_
        refine at_on rfl rfl ?_
        refine at_do (does_fieldAddr (o := 0) (by kernel_rfl) rfl) rfl rfl ?_
        refine at_on rfl rfl ?_
        refine at_do (does_load (i := 1) (by kernel_rfl) rfl rfl rfl) rfl rfl ?_
        refine at_on rfl rfl ?_
        refine at_do (does_neq rfl rfl) rfl rfl ?_
        refine at_do (does_pick_false rfl rfl) rfl rfl ?_
        refine at_nil ?_
        refine at_then ?_
        refine at_cond_f rfl (decide_eq_false (by decide)) ?_
        refine at_skip ?_
        refine at_then ?_
        refine at_seq ?_
        refine at_region ?_
        refine at_do (does_assign rfl) rfl rfl ?_
        refine at_do (does_assign rfl) rfl rfl ?_
        refine at_nil ?_
        refine at_then ?_
        refine at_seq ?_
        refine at_seq ?_
        refine at_region ?_
        refine at_do (does_move rfl) rfl rfl ?_
        refine at_nil ?_
        refine at_then ?_
        refine at_block ?_
        refine at_seq ?_
        refine at_region ?_
        refine at_do (does_eql rfl rfl) rfl rfl ?_
        refine at_do (does_assign rfl) rfl rfl ?_
        refine at_nil ?_
        refine at_then ?_
        refine at_cond_t rfl (decide_eq_true (by decide)) ?_
        refine at_region ?_
        refine at_do (does_fieldAddr (o := 1) (by kernel_rfl) rfl) rfl rfl ?_
        refine at_do (does_load (i := 2) (by kernel_rfl) rfl rfl rfl) rfl rfl ?_
        refine at_do (does_fieldAddr (o := 1) (by kernel_rfl) rfl) rfl rfl ?_
        refine at_do (does_load (i := 1) (by kernel_rfl) rfl rfl rfl) rfl rfl ?_
        refine at_callv (f := 55) (enters_fn (by kernel_rfl) rfl) (fun w ho => c3) rfl rfl ?_
        refine at_do (does_move rfl) rfl rfl ?_
        refine at_do (does_extract rfl rfl) rfl rfl ?_
        refine at_do (does_extract rfl rfl) rfl rfl ?_
        refine at_do (does_assign rfl) rfl rfl ?_
        refine at_do (does_assign rfl) rfl rfl ?_
        refine at_nil ?_
        refine at_inb ?_
        refine at_then ?_
        refine at_seq ?_
        refine at_seq ?_
        refine at_region ?_
        refine at_do (does_move rfl) rfl rfl ?_
        refine at_do (does_not rfl) rfl rfl ?_
        refine at_nil ?_
        refine at_then ?_
        refine at_cond_t rfl (by decide) ?_
        refine at_seq ?_
        refine at_region ?_
        refine at_do (does_build (ps := []) (vs := []) (cs := [.int .i64 0, .int .i64 0, .string (bs [])]) shapeVal rfl rfl) rfl rfl ?_
        refine at_storeagg (i := 0) (by kernel_rfl) rfl rfl rfl rfl rfl ?_
        refine at_do (does_assign rfl) rfl rfl ?_
        refine at_nil ?_
        refine at_then ?_
        refine at_ret ?_
        refine at_then_ret ?_
        refine at_retagg1 (i := 0) (k := 3) rfl rfl rfl rfl rfl (by kernel_rfl) rfl (fun w9 ho9 => ?_)
        rotate_left
        exact ⟨rfl, ho9.plain⟩
    · have e1 : addN n k m t = 0 := by simp [addN, hk]
      have e2 : addK n k m t = 0 := by simp [addK, hk]
      have e3 : addE n k m t = 10 := by simp [addE, hm', hk]
      rw [e1, e2, e3]
      refine at_seq ?_
      refine at_region ?_
      refine at_boxagg rfl rfl fun gz0 => ?_
      refine at_boxagg rfl rfl fun gz1 => ?_
      refine at_allocagg Tryd.zeroValue41 rfl fun gz2 => ?_
      refine at_do (does_assign rfl) rfl rfl ?_
      refine at_nil ?_
      refine at_then ?_
      refine at_seq ?_
      refine at_seq ?_
      refine at_region ?_
      refine at_do (does_loadagg (i := 2) (k := 3) (by kernel_rfl) rfl rfl rfl) rfl rfl ?_
      refine at_callv (f := 54) (enters_fn (by kernel_rfl) rfl) (fun w ho => c1) rfl rfl ?_
      refine at_do (does_not rfl) rfl rfl ?_
      refine at_do (does_move rfl) rfl rfl ?_
      refine at_know (t := 15) (d := false) rfl (by decide) ?_
      refine at_on rfl rfl ?_
      refine at_do (does_loadagg (i := 1) (k := 3) (by kernel_rfl) rfl rfl rfl) rfl rfl ?_
      refine at_on rfl rfl ?_
      refine at_callv (f := 54) (enters_fn (by kernel_rfl) rfl) (fun w ho => c2) rfl rfl ?_
      refine at_on rfl rfl ?_
      refine at_do (does_not rfl) rfl rfl ?_
      refine at_do (does_pick_false rfl rfl) rfl rfl ?_
      refine at_nil ?_
      refine at_then ?_
      refine at_cond_f rfl (by decide) ?_
      refine at_skip ?_
      refine at_then ?_
      refine at_seq ?_
      refine at_seq ?_
      refine at_region ?_
      refine at_do (does_fieldAddr (o := 0) (by kernel_rfl) rfl) rfl rfl ?_
      refine at_do (does_load (i := 2) (by kernel_rfl) rfl rfl rfl) rfl rfl ?_
      refine at_do (does_neq rfl rfl) rfl rfl ?_
      refine at_do (does_move rfl) rfl rfl ?_
      refine at_know (t := 24) (d := false) rfl (decide_eq_false (by decide)) ?_
      refine at_on rfl rfl ?_
      refine at_do (does_fieldAddr (o := 0) (by kernel_rfl) rfl) rfl rfl ?_
      refine at_on rfl rfl ?_
      refine at_do (does_load (i := 1) (by kernel_rfl) rfl rfl rfl) rfl rfl ?_
      refine at_on rfl rfl ?_
      refine at_do (does_neq rfl rfl) rfl rfl ?_
      refine at_do (does_pick_false rfl rfl) rfl rfl ?_
      refine at_nil ?_
      refine at_then ?_
      refine at_cond_t rfl (decide_eq_true (by simpa using hk)) ?_
      refine at_seq ?_
      refine at_region ?_
      refine at_do (does_build (ps := []) (vs := []) (cs := [.int .i64 0, .int .i64 0, .string (bs [])]) shapeVal rfl rfl) rfl rfl ?_
      refine at_storeagg (i := 0) (by kernel_rfl) rfl rfl rfl rfl rfl ?_
      refine at_do (does_assign rfl) rfl rfl ?_
      refine at_nil ?_
      refine at_then ?_
      refine at_ret ?_
      refine at_then_ret ?_
      refine at_retagg1 (i := 0) (k := 3) rfl rfl rfl rfl rfl (by kernel_rfl) rfl (fun w9 ho9 => ?_)
      rotate_left
      exact ⟨rfl, ho9.plain⟩
end Go.Proofs.YtjpfebgpcokenaaDoor
