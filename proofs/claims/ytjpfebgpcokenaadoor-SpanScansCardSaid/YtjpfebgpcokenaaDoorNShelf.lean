/-
  The library's functions that are laid off the shelf: strings.Cut, slices.Sort and slices.Compact at strings. No condition of its own.
-/
import Derived.Shelf.Strings.Cut
import Derived.Shelf.Sort.Plain
import Derived.Shelf.Slices.In.SortNone
import Derived.Shelf.Slices.CompactS
import Derived.Test.YtjpfebgpcokenaaDoorGD
set_option linter.unusedSimpArgs false
set_option linter.unusedVariables false
namespace Go.Proofs
open Go.Shelf Go.Lib Go.Sort Go.RowKit
def Tryd.lays145_ren : Go.Shelf.Ren := ⟨fun | 145 => 41 | 220 => 67 | 219 => 78 | 217 => 95 | 225 => 96 | 224 => 97 | 267 => 98 | 266 => 108 | 314 => 109 | n => n, fun | 9 => 9 | 4 => 4 | 59 => 76 | 3 => 3 | 5 => 5 | 46 => 100 | 146 => 134 | 51 => 117 | n => n, fun | 1 => 0 | n => n⟩
theorem Tryd.lays145 : Go.Proofs.Lays.n145 Tryd.prog Tryd.lays145_ren := {
  mixed := by kernel_rfl,
  f145 := Tryd.func41.trans (congrArg some (by kernel_rfl)),
  f217 := Tryd.func95.trans (congrArg some (by kernel_rfl)),
  f219 := Tryd.func78.trans (congrArg some (by kernel_rfl)),
  f220 := Tryd.func67.trans (congrArg some (by kernel_rfl)),
  f224 := Tryd.func97.trans (congrArg some (by kernel_rfl)),
  f225 := Tryd.func96.trans (congrArg some (by kernel_rfl)),
  f266 := Tryd.func108.trans (congrArg some (by kernel_rfl)),
  f267 := Tryd.func98.trans (congrArg some (by kernel_rfl)),
  f314 := Tryd.func109.trans (congrArg some (by kernel_rfl)),
  t3 := Tryd.underlying3,
  a3 := Tryd.isAgg3,
  z3 := Tryd.sizeOf3,
  v3 := Tryd.zeroValue3,
  t4 := Tryd.underlying4,
  a4 := Tryd.isAgg4,
  z4 := Tryd.sizeOf4,
  v4 := Tryd.zeroValue4,
  t5 := Tryd.underlying5,
  a5 := Tryd.isAgg5,
  z5 := Tryd.sizeOf5,
  v5 := Tryd.zeroValue5,
  t9 := Tryd.underlying9,
  a9 := Tryd.isAgg9,
  z9 := Tryd.sizeOf9,
  v9 := Tryd.zeroValue9,
  t46 := Tryd.underlying100,
  a46 := Tryd.isAgg100,
  z46 := Tryd.sizeOf100,
  v46 := Tryd.zeroValue100,
  t51 := Tryd.underlying117,
  a51 := Tryd.isAgg117,
  z51 := Tryd.sizeOf117,
  v51 := Tryd.zeroValue117,
  t59 := Tryd.underlying76,
  a59 := Tryd.isAgg76,
  z59 := Tryd.sizeOf76,
  v59 := Tryd.zeroValue76,
  t146 := Tryd.underlying134,
  a146 := Tryd.isAgg134,
  z146 := Tryd.sizeOf134,
  v146 := Tryd.zeroValue134,
  g1 := by kernel_rfl }
def Tryd.lays190_ren : Go.Shelf.Ren := ⟨fun | 190 => 42 | 125 => 69 | 258 => 68 | 128 => 88 | 129 => 89 | 302 => 79 | 303 => 80 | 304 => 81 | 305 => 82 | 306 => 83 | 307 => 84 | 308 => 85 | 309 => 86 | 310 => 87 | 333 => 99 | 329 => 100 | 330 => 101 | 334 => 102 | 335 => 103 | 336 => 104 | 344 => 110 | n => n, fun | 31 => 49 | 9 => 9 | 3 => 3 | 46 => 100 | 0 => 0 | 51 => 117 | 53 => 93 | 4 => 4 | 183 => 110 | 182 => 109 | 131 => 114 | 5 => 5 | 218 => 126 | 222 => 130 | 228 => 136 | 229 => 119 | n => n, fun | n => n⟩
theorem Tryd.lays190 : Go.Proofs.Lays.n190 Tryd.prog Tryd.lays190_ren := {
  mixed := by kernel_rfl,
  f125 := Tryd.func69.trans (congrArg some (by kernel_rfl)),
  f128 := Tryd.func88.trans (congrArg some (by kernel_rfl)),
  f129 := Tryd.func89.trans (congrArg some (by kernel_rfl)),
  f190 := Tryd.func42.trans (congrArg some (by kernel_rfl)),
  f258 := Tryd.func68.trans (congrArg some (by kernel_rfl)),
  f302 := Tryd.func79.trans (congrArg some (by kernel_rfl)),
  f303 := Tryd.func80.trans (congrArg some (by kernel_rfl)),
  f304 := Tryd.func81.trans (congrArg some (by kernel_rfl)),
  f305 := Tryd.func82.trans (congrArg some (by kernel_rfl)),
  f306 := Tryd.func83.trans (congrArg some (by kernel_rfl)),
  f307 := Tryd.func84.trans (congrArg some (by kernel_rfl)),
  f308 := Tryd.func85.trans (congrArg some (by kernel_rfl)),
  f309 := Tryd.func86.trans (congrArg some (by kernel_rfl)),
  f310 := Tryd.func87.trans (congrArg some (by kernel_rfl)),
  f329 := Tryd.func100.trans (congrArg some (by kernel_rfl)),
  f330 := Tryd.func101.trans (congrArg some (by kernel_rfl)),
  f333 := Tryd.func99.trans (congrArg some (by kernel_rfl)),
  f334 := Tryd.func102.trans (congrArg some (by kernel_rfl)),
  f335 := Tryd.func103.trans (congrArg some (by kernel_rfl)),
  f336 := Tryd.func104.trans (congrArg some (by kernel_rfl)),
  f344 := Tryd.func110.trans (congrArg some (by kernel_rfl)),
  t0 := Tryd.underlying0,
  a0 := Tryd.isAgg0,
  z0 := Tryd.sizeOf0,
  v0 := Tryd.zeroValue0,
  t3 := Tryd.underlying3,
  a3 := Tryd.isAgg3,
  z3 := Tryd.sizeOf3,
  v3 := Tryd.zeroValue3,
  t4 := Tryd.underlying4,
  a4 := Tryd.isAgg4,
  z4 := Tryd.sizeOf4,
  v4 := Tryd.zeroValue4,
  t5 := Tryd.underlying5,
  a5 := Tryd.isAgg5,
  z5 := Tryd.sizeOf5,
  v5 := Tryd.zeroValue5,
  t9 := Tryd.underlying9,
  a9 := Tryd.isAgg9,
  z9 := Tryd.sizeOf9,
  v9 := Tryd.zeroValue9,
  t31 := Tryd.underlying49,
  a31 := Tryd.isAgg49,
  z31 := Tryd.sizeOf49,
  v31 := Tryd.zeroValue49,
  t46 := Tryd.underlying100,
  a46 := Tryd.isAgg100,
  z46 := Tryd.sizeOf100,
  v46 := Tryd.zeroValue100,
  t51 := Tryd.underlying117,
  a51 := Tryd.isAgg117,
  z51 := Tryd.sizeOf117,
  v51 := Tryd.zeroValue117,
  t53 := Tryd.underlying93,
  a53 := Tryd.isAgg93,
  z53 := Tryd.sizeOf93,
  v53 := Tryd.zeroValue93,
  t131 := Tryd.underlying114,
  a131 := Tryd.isAgg114,
  z131 := Tryd.sizeOf114,
  v131 := Tryd.zeroValue114,
  t182 := Tryd.underlying109,
  a182 := Tryd.isAgg109,
  z182 := Tryd.sizeOf109,
  v182 := Tryd.zeroValue109,
  t183 := Tryd.underlying110,
  a183 := Tryd.isAgg110,
  z183 := Tryd.sizeOf110,
  v183 := Tryd.zeroValue110,
  t218 := Tryd.underlying126,
  a218 := Tryd.isAgg126,
  z218 := Tryd.sizeOf126,
  v218 := Tryd.zeroValue126,
  t222 := Tryd.underlying130,
  a222 := Tryd.isAgg130,
  z222 := Tryd.sizeOf130,
  v222 := Tryd.zeroValue130,
  t228 := Tryd.underlying136,
  a228 := Tryd.isAgg136,
  z228 := Tryd.sizeOf136,
  v228 := Tryd.zeroValue136,
  t229 := Tryd.underlying119,
  a229 := Tryd.isAgg119,
  z229 := Tryd.sizeOf119,
  v229 := Tryd.zeroValue119 }
def Tryd.lays194_ren : Go.Shelf.Ren := ⟨fun | 194 => 43 | n => n, fun | 31 => 49 | 9 => 9 | 3 => 3 | 4 => 4 | 0 => 0 | n => n, fun | n => n⟩
theorem Tryd.lays194 : Go.Proofs.Lays.n194 Tryd.prog Tryd.lays194_ren := {
  mixed := by kernel_rfl,
  f194 := Tryd.func43.trans (congrArg some (by kernel_rfl)),
  t0 := Tryd.underlying0,
  a0 := Tryd.isAgg0,
  z0 := Tryd.sizeOf0,
  v0 := Tryd.zeroValue0,
  t3 := Tryd.underlying3,
  a3 := Tryd.isAgg3,
  z3 := Tryd.sizeOf3,
  v3 := Tryd.zeroValue3,
  t4 := Tryd.underlying4,
  a4 := Tryd.isAgg4,
  z4 := Tryd.sizeOf4,
  v4 := Tryd.zeroValue4,
  t9 := Tryd.underlying9,
  a9 := Tryd.isAgg9,
  z9 := Tryd.sizeOf9,
  v9 := Tryd.zeroValue9,
  t31 := Tryd.underlying49,
  a31 := Tryd.isAgg49,
  z31 := Tryd.sizeOf49,
  v31 := Tryd.zeroValue49 }
end Go.Proofs
namespace Go.Proofs.YtjpfebgpcokenaaDoor
open Go.RowKit Go.Sort
def Maxl (w : World) : Prop := ∃ m : Int, w.cell? ⟨0, 0, none⟩ = some (.int .i64 m)
theorem Own.maxl {C : Ctx} {H : List Res} {w : World} (ho : Own C H w) (h : Maxl C.W) (hL : ¬ C.L 0) : Maxl w := by
  obtain ⟨m, hm⟩ := h
  have hlt := World.block_lt_of_cell? _ _ hm
  exact ⟨m, (World.cell?_of_block (ho.orig.old 0 hlt hL)).trans hm⟩
theorem Maxl.keep {w w' : World} (h : Maxl w) (hb : Below w.heap.size w w') : Maxl w' := by
  obtain ⟨m, hm⟩ := h
  exact ⟨m, Below.cellOld hb hm⟩
/-- What stands ahead of the first stroke. -/
def nameB (l : List UInt8) : List UInt8 := l.takeWhile fun b => decide (b ≠ 47)
theorem index_cons (b : UInt8) (l : List UInt8) : Lib.index (b :: l) [47] = if b = 47 then 0 else if Lib.index l [47] = -1 then -1 else Lib.index l [47] + 1 := by
  rw [Lib.index]
  by_cases h : b = 47
  · subst h; simp [List.isPrefixOf]
  · have h' : ([47] : List UInt8).isPrefixOf (b :: l) = false := by
      simp [List.isPrefixOf]; exact fun e => h e.symm
    rw [h']
    simp [h]
theorem cut_name : ∀ l : List UInt8, (Lib.cut l [47]).1 = nameB l
  | [] => by decide
  | b :: l => by
    have ih := cut_name l
    have hge := Lib.index_ge l [47]
    unfold Lib.cut at ih ⊢
    unfold nameB at ih ⊢
    rw [index_cons, List.takeWhile_cons]
    by_cases hb : b = 47
    · subst hb; simp
    · rw [if_neg hb, decide_eq_true hb]
      by_cases h1 : Lib.index l [47] = -1
      · rw [h1] at ih ⊢
        simp at ih ⊢
        exact ih
      · have h2 : 0 ≤ Lib.index l [47] := by omega
        have h3 : (Lib.index l [47] + 1).toNat = (Lib.index l [47]).toNat + 1 := by omega
        rw [if_pos h2] at ih
        rw [if_neg h1, if_pos (by omega), h3]
        simp only [if_true] at ih ⊢
        rw [← ih]
        rfl
theorem cut_call (l : List UInt8) (w : World) (hl : l.length ≤ 1000000) (hM : Maxl w) : Calls Tryd.prog 41 #[.string (bs l), .string (bs [47])] w fun e w' => ∃ (r : List UInt8) (m : Bool), e = .returned (.tuple #[.string (bs (nameB l)), .string (bs r), .bool m]) ∧ Below w.heap.size w w' := by
  obtain ⟨k, hk⟩ := hM
  refine (Any.strings_Cut Tryd.lays145 (bs l) (bs [47]) k w (by rw [bs_size]; omega) hk).mono fun e w' ⟨he, n, hw⟩ => ⟨(Lib.cut l [47]).2.1, (Lib.cut l [47]).2.2, ?_, hw ▸ ⟨rfl, rfl, rfl, Nat.le_refl _, fun _ _ => rfl⟩⟩
  rw [he, ← cut_name]
  rfl
/-! ### Rows of strings -/
def strsL (L : List (List UInt8)) : List Value := L.map fun b => .string (bs b)
theorem frm_grow (w : World) (n g : Nat) (d : Array (List UInt8)) (os : Array Obj) : Frm w (fun k => k = g) (grow (putRow encStr (Sort.ahead w n) g 0 d) os) := by
  refine ⟨rfl, rfl, rfl, ?_, fun k hk hg => ?_⟩
  · simp [grow, putRow, mapBlock, Sort.ahead]
  · simp only [grow, putRow, mapBlock, Sort.ahead]
    rw [Array.getElem?_append_left (by simpa using hk), Array.getElem?_modify]
    rw [if_neg (fun e => hg e.symm)]
theorem heap_grow {w : World} {n g e : Nat} {d : Array (List UInt8)} {cur : Array Value} {os : Array Obj} (h : w.heap[g]? = some (.cells cur e)) : (grow (putRow encStr (Sort.ahead w n) g 0 d) os).heap[g]? = some (.cells (putCells encStr 0 d cur) e) := by
  have hlt : g < w.heap.size := (Array.getElem?_eq_some_iff.1 h).1
  simp only [grow, putRow, mapBlock, Sort.ahead]
  rw [Array.getElem?_append_left (by simpa using hlt), Array.getElem?_modify]
  simp only [if_true]
  rw [h]
  rfl
theorem putS_take (d : Array (List UInt8)) (cur : Array Value) (h : d.size ≤ cur.size) : (putCells encStr 0 d cur).toList.take d.size = strs d.toList := by
  apply List.ext_getElem?
  intro j
  rw [List.getElem?_take]
  split
  · rename_i hj
    simp only [putCells, Array.getElem?_toList, Array.getElem?_mapIdx]
    rw [Array.getElem?_eq_getElem (show j < cur.size by omega)]
    simp only [Option.map_some]
    rw [if_pos ⟨by omega, by omega⟩]
    simp [strs, getElem!_pos, hj, encStr, bs]
  · rename_i hj
    rw [List.getElem?_eq_none (by simp [strs]; omega)]
theorem holds_strs {w : World} {b e g cap m : Nat} {L : List (List UInt8)} {cur : Array Value} (hr : w.ownsRow b e 1 (.slice (some ⟨g, 0, none⟩) m cap) m (strs L)) (hm : m = L.length) (hg : w.heap[g]? = some (.cells cur e)) (h4 : L.length ≤ cur.size) (h5 : cur.toList.take (m * 1) = strs L) : Holds encStr w g 0 L.toArray := by
  intro j hj
  have hj : j < L.length := by simpa using hj
  have hc : cur[j]? = some (.string (bs L[j])) := by
    have := congrArg (fun l => l[j]?) h5
    simp only [List.getElem?_take] at this
    rw [if_pos (by omega)] at this
    simpa [strs, hj] using this
  rw [Nat.zero_add]
  refine ⟨?_, hr.frozenAt j⟩
  rw [cell_of_row w g j cur e (0, 0) hg, hc]
  simp [getElem!_pos, hj, encStr, bs]
abbrev ST : Nat := 9
abbrev leB (x y : List UInt8) : Bool := decide (x ≤ y)
theorem sort_call (v : Value) (L : List (List UInt8)) (w : World) (hl : L.length ≤ 100000) (ho : Own (inC w [.row v ST 1 L.length (strs L)]) [.row v ST 1 L.length (strs L)] w) :
    Calls Tryd.prog 42 #[v] w fun e w' => e = .returned (.tuple #[]) ∧ InR w (fun k => k ∈ bls [.row v ST 1 L.length (strs L)]) [.row v ST 1 L.length (strs (L.mergeSort leB))] w' := by
  have hr := ho.rowAt (i := 0) rfl
  rcases hr.2 with ⟨rfl, h0⟩ | ⟨g, cap, cur, rfl, h1, hg, h2, h3, h4, h5⟩
  · obtain rfl : L = [] := List.eq_nil_of_length_eq_zero h0
    refine (Any.slices_Sort_string_none Tryd.lays190 none 0 w).mono fun e w' ⟨q1, q2⟩ => ⟨q1, ?_⟩
    subst q2
    rw [List.mergeSort_nil]
    exact ⟨_, _, ho⟩
  · have hlt : g < w.heap.size := (Array.getElem?_eq_some_iff.1 hg).1
    have hH : Holds encStr w g 0 L.toArray := holds_strs hr rfl hg (by omega) h5
    refine (Any.slices_Sort_string Tryd.lays190 g 0 cap L w hH hlt (by omega)).mono fun e w' ⟨q1, n, os, q2⟩ => ⟨q1, ?_⟩
    subst q2
    have hsz2 : (L.mergeSort leB).length = L.length := List.length_mergeSort _
    have hfr : Frm w (fun k => k ∈ bls [.row (.slice (some ⟨g, 0, none⟩) L.length cap) ST 1 L.length (strs L)]) (grow (putRow encStr (Sort.ahead w n) g 0 (L.mergeSort leB).toArray) os) :=
      (frm_grow w n g _ os).mono fun k _ hk => by simp [bls, Res.blocks, Value.ownBlock, hk]
    refine ⟨w, _, hfr, hfr, ?_, ho.nodup, fun k hk => ⟨.inr hk, .inr hk⟩, fun _ h => h, List.nodup_nil, by simp⟩
    intro r hr2
    obtain rfl := List.mem_singleton.1 hr2
    refine ⟨by simp [strs, hsz2], .inr ⟨g, cap, _, rfl, Nat.zero_le _, heap_grow hg, h2, h3, by simp [putCells, h4], ?_⟩⟩
    have := putS_take (L.mergeSort leB).toArray cur (by simp only [List.size_toArray]; omega)
    simpa [hsz2] using this
theorem compact_len (zs : List (List UInt8)) : (Lib.compact zs).length ≤ zs.length := by
  unfold Lib.compact Lib.compactUpTo
  rw [List.length_map]
  exact Nat.le_trans (List.length_filter_le _ _) (by simp)
theorem compact_call (v : Value) (L : List (List UInt8)) (w : World) (hl : L.length ≤ 100000) (ho : Own (inC w [.row v ST 1 L.length (strs L)]) [.row v ST 1 L.length (strs L)] w) :
    Calls Tryd.prog 43 #[v] w fun e w' => ∃ u, e = .returned u ∧ InR w (fun k => k ∈ bls [.row v ST 1 L.length (strs L)]) [.row u ST 1 (Lib.compact L).length (strs (Lib.compact L))] w' := by
  have hr := ho.rowAt (i := 0) rfl
  rcases hr.2 with ⟨rfl, h0⟩ | ⟨g, cap, cur, rfl, h1, hg, h2, h3, h4, h5⟩
  · obtain rfl : L = [] := List.eq_nil_of_length_eq_zero h0
    refine (Any.slices_Compact_string_empty Tryd.lays194 none 0 w).mono fun e w' ⟨q1, q2⟩ => ⟨_, q1, ?_⟩
    subst q2
    exact ⟨_, _, ho⟩
  · have hH : Holds encStr w g 0 L.toArray := holds_strs hr rfl hg (by omega) h5
    have hcl := compact_len L
    refine (Any.slices_Compact_string Tryd.lays194 g 0 cap L w hH (by omega) h2).mono fun e w' ⟨q1, n, q2⟩ => ⟨_, q1, ?_⟩
    subst q2
    obtain ⟨d, hd⟩ : ∃ d, d = (Lib.compact L ++ List.replicate (L.length - (Lib.compact L).length) []).toArray := ⟨_, rfl⟩
    rw [← hd]
    have hds : d.size = L.length := by rw [hd]; simp; omega
    rw [← grow_empty (putRow encStr (Sort.ahead w n) g 0 d)]
    have hfr : Frm w (fun k => k ∈ bls [.row (.slice (some ⟨g, 0, none⟩) L.length cap) ST 1 L.length (strs L)]) (grow (putRow encStr (Sort.ahead w n) g 0 d) #[]) :=
      (frm_grow w n g _ #[]).mono fun k _ hk => by simp [bls, Res.blocks, Value.ownBlock, hk]
    refine ⟨w, _, hfr, hfr, ?_, ho.nodup, fun k hk => ⟨.inr hk, .inr hk⟩, fun _ h => h, List.nodup_nil, by simp⟩
    intro r hr2
    obtain rfl := List.mem_singleton.1 hr2
    refine ⟨by simp [strs], .inr ⟨g, cap, _, rfl, Nat.zero_le _, heap_grow hg, by omega, h3, by simp [putCells, h4], ?_⟩⟩
    have := putS_take d cur (by omega)
    have h9 := congrArg (List.take (Lib.compact L).length) this
    rw [List.take_take, Nat.min_eq_left (by omega)] at h9
    rw [Nat.mul_one, h9, hd]
    simp [strs]
/-! ### Sorted and once each -/
theorem sort_upE (L : List (List UInt8)) : UpE (L.mergeSort leB) := by
  have tr : ∀ a b c : List UInt8, leB a b = true → leB b c = true → leB a c = true := fun a b c h1 h2 => by simp only [leB, decide_eq_true_eq] at *; exact List.le_trans h1 h2
  have to : ∀ a b : List UInt8, (leB a b || leB b a) = true := fun a b => by simp only [leB, Bool.or_eq_true, decide_eq_true_eq]; exact List.le_total a b
  refine List.Pairwise.imp (fun {a b} h => ?_) (List.pairwise_mergeSort tr to L)
  simp only [leB, decide_eq_true_eq] at h
  rw [bytesLess_eq]
  simpa using h
theorem compact_inv (d : Array (List UInt8)) (hd : UpE d.toList) : ∀ m, m ≤ d.size → UpS (Lib.compactUpTo d m) ∧ (∀ x, x ∈ Lib.compactUpTo d m ↔ ∃ j, j < m ∧ x = d[j]!)
  | 0, _ => ⟨by simp [Lib.compactUpTo, UpS], fun x => by simp [Lib.compactUpTo]⟩
  | m + 1, hm => by
    obtain ⟨ih1, ih2⟩ := compact_inv d hd m (by omega)
    have hle : ∀ i j, i < j → j < d.size → Op.bytesLess d[j]! d[i]! = false := fun i j hij hj => by
      have := List.pairwise_iff_getElem.1 hd i j (by simp; omega) (by simpa using hj) hij
      simpa [getElem!_pos, show i < d.size by omega, hj] using this
    rw [Lib.compactUpTo_succ]
    cases hk : Lib.keeps d m
    · have hm0 : m ≠ 0 ∧ d[m]! = d[m - 1]! := by
        simp only [Lib.keeps, decide_eq_false_iff_not, not_or, Classical.not_not] at hk
        exact hk
      refine ⟨by simpa using ih1, fun x => ?_⟩
      simp only [Bool.false_eq_true, if_false, List.append_nil]
      rw [ih2]
      constructor
      · rintro ⟨j, hj, e⟩; exact ⟨j, by omega, e⟩
      · rintro ⟨j, hj, e⟩
        by_cases hjm : j = m
        · exact ⟨m - 1, by omega, by rw [e, hjm]; exact hm0.2⟩
        · exact ⟨j, by omega, e⟩
    · simp only [if_true]
      refine ⟨List.pairwise_append.2 ⟨ih1, by simp, fun a ha b hb => ?_⟩, fun x => ?_⟩
      · obtain rfl : b = d[m]! := by simpa using hb
        obtain ⟨j, hj, rfl⟩ := (ih2 a).1 ha
        have hk' : m = 0 ∨ d[m]! ≠ d[m - 1]! := by simpa [Lib.keeps] using hk
        have hne : d[m]! ≠ d[m - 1]! := hk'.resolve_left (by omega)
        have h1 : Op.bytesLess d[m - 1]! d[m]! = true := (less_or (Ne.symm hne)).resolve_right (by rw [hle (m - 1) m (by omega) (by omega)]; simp)
        by_cases hjm : j = m - 1
        · rw [hjm]; exact h1
        · exact geq_less (hle j (m - 1) (by omega) (by omega)) h1
      · rw [List.mem_append, ih2, List.mem_singleton]
        constructor
        · rintro (⟨j, hj, e⟩ | e)
          · exact ⟨j, by omega, e⟩
          · exact ⟨m, by omega, e⟩
        · rintro ⟨j, hj, e⟩
          by_cases hjm : j = m
          · exact .inr (by rw [e, hjm])
          · exact .inl ⟨j, by omega, e⟩
theorem compact_law (ns : List (List UInt8)) : Lib.compact (ns.mergeSort leB) = ns.foldl layS [] := by
  have h := lays_law ns [] List.Pairwise.nil
  have hi := compact_inv (ns.mergeSort leB).toArray (by simpa using sort_upE ns) (ns.mergeSort leB).length (by simp)
  refine upS_eq hi.1 h.1 fun x => ?_
  rw [Lib.compact, hi.2, h.2 x]
  have hmem : x ∈ ns ↔ x ∈ ns.mergeSort leB := (List.mergeSort_perm ns leB).mem_iff.symm
  rw [hmem, List.mem_iff_getElem]
  constructor
  · rintro ⟨j, hj, e⟩
    exact .inl ⟨j, hj, by rw [e, getElem!_pos _ j (by simpa using hj)]; simp⟩
  · rintro (⟨j, hj, e⟩ | h)
    · exact ⟨j, hj, by rw [getElem!_pos _ j (by simpa using hj)]; simp [e]⟩
    · simp at h
end Go.Proofs.YtjpfebgpcokenaaDoor
