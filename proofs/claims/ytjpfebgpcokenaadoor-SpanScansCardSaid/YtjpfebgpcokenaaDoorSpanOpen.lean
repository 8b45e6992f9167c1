/-
  Trunks that come in, opened. No condition of its own.
-/
import Derived.Test.YtjpfebgpcokenaaDoorGF
import Derived.Test.YtjpfebgpcokenaaDoorLift
import Derived.ChangeMaps5
import Derived.Deep.Slices
import Derived.Deep.Fields
import Derived.OpenShut
set_option linter.unusedSimpArgs false
set_option linter.unusedVariables false
namespace Go.Proofs.YtjpfebgpcokenaaDoor
open Go.ChangeShapes Go.WideShapes Go.ChangeAt Go.RowKit Go.ChangeMaps Go.Deep

theorem choose_lt2 {α : Type} [Inhabited α] {p : Nat → α → Prop} {n : Nat} (h : ∀ i, i < n → ∃ a, p i a) : ∃ f : Nat → α, ∀ i, i < n → p i (f i) := by
  classical
  exact ⟨fun i => if hi : i < n then (h i hi).choose else default, fun i hi => by simp only [hi, dif_pos]; exact (h i hi).choose_spec⟩
theorem list5 {α : Type} {l : List α} (h : l.length = 5) : ∃ a b c d e, l = [a, b, c, d, e] := by
  match l, h with
  | [a, b, c, d, e], _ => exact ⟨a, b, c, d, e, rfl⟩
theorem list3' {α : Type} {l : List α} (h : l.length = 3) : ∃ a b c, l = [a, b, c] := by
  match l, h with
  | [a, b, c], _ => exact ⟨a, b, c, rfl⟩
section
variable {H : Type} {enc : TypeId × Value → H} {w : World} {base : Nat} {spare : Nat → Bool} {held : Bool}
theorem trod_fieldS {P : Program} {t : TypeId} {fs : Array Field} {fuel : Nat} {cs : List Value} {x : DataW H × List MemPlace} (ht : P.underlying t = some (.struct fs)) (h : DataW.trod enc P w base spare held fuel t cs = some x) :
    ∃ n, cs.length = P.cellsOf t ∧ ∀ (i : Nat) (f : Field), fs[i]? = some f → ∃ y, DataW.trod enc P w base spare held n f.type ((cs.drop f.offset).take (P.cellsOf f.type)) = some y := by
  obtain ⟨xs, n, _, _, hl, hx, hf⟩ := DataW.trod_struct ht h
  refine ⟨n, hl, fun i f hi => ?_⟩
  have hlt : i < fs.size := (Array.getElem?_eq_some_iff.1 hi).1
  exact ⟨xs[i]'(by omega), by rw [hf i f hi, List.getElem?_eq_getElem]⟩
set_option maxRecDepth 100000 in
theorem open_valC {fuel : Nat} {cs : List Value} {x : DataW H × List MemPlace} (hf : DataW.trod enc Tryd.prog w base spare held fuel 41 cs = some x) :
    ∃ (k n : Int) (t : List UInt8), cs = [.int .i64 k, .int .i64 n, .string (bs t)] ∧ I64 n := by
  obtain ⟨n, hl, h⟩ := trod_fieldS Tryd.underlying41 hf
  have hC : Tryd.prog.cellsOf 41 = 3 := by kernel_rfl
  have hC1 : Tryd.prog.cellsOf 9 = 1 := by kernel_rfl
  have hC2 : Tryd.prog.cellsOf 3 = 1 := by kernel_rfl
  have hC4 : Tryd.prog.cellsOf 2 = 1 := by kernel_rfl
  obtain ⟨a, b, c, rfl⟩ := list3' (hl.trans hC)
  obtain ⟨y0, g0⟩ : ∃ y, DataW.trod enc Tryd.prog w base spare held n 3 (([a, b, c].drop 0).take (Tryd.prog.cellsOf 3)) = some y := h 0 _ rfl
  obtain ⟨y1, g1⟩ : ∃ y, DataW.trod enc Tryd.prog w base spare held n 2 (([a, b, c].drop 1).take (Tryd.prog.cellsOf 2)) = some y := h 1 _ rfl
  obtain ⟨y2, g2⟩ : ∃ y, DataW.trod enc Tryd.prog w base spare held n 9 (([a, b, c].drop 2).take (Tryd.prog.cellsOf 9)) = some y := h 2 _ rfl
  simp only [hC1, hC2, hC4, List.drop_zero, List.take_succ_cons, List.take_zero, List.drop_succ_cons] at g0 g1 g2
  obtain ⟨k, e0, _, _⟩ := DataW.trod_int Tryd.underlying3 g0
  obtain ⟨m, e1, _, hw⟩ := DataW.trod_int Tryd.underlying2 g1
  obtain ⟨s, e2, _⟩ := DataW.trod_string Tryd.underlying9 g2
  simp only [List.cons.injEq, and_true] at e0 e1 e2
  subst e0 e1 e2
  exact ⟨k, m, s.data.toList, rfl, bounds_i64 hw⟩
set_option maxRecDepth 100000 in
theorem open_itmC {fuel : Nat} {cs : List Value} {x : DataW H × List MemPlace} (hf : DataW.trod enc Tryd.prog w base spare held fuel 43 cs = some x) :
    ∃ z : Itm, cs = itmV z ∧ I64 z.num := by
  obtain ⟨n, hl, h⟩ := trod_fieldS Tryd.underlying43 hf
  have hC : Tryd.prog.cellsOf 43 = 5 := by kernel_rfl
  have hC1 : Tryd.prog.cellsOf 9 = 1 := by kernel_rfl
  have hC2 : Tryd.prog.cellsOf 3 = 1 := by kernel_rfl
  have hC3 : Tryd.prog.cellsOf 41 = 3 := by kernel_rfl
  obtain ⟨a, b, c, d, e, rfl⟩ := list5 (hl.trans hC)
  obtain ⟨y0, g0⟩ : ∃ y, DataW.trod enc Tryd.prog w base spare held n 9 (([a, b, c, d, e].drop 0).take (Tryd.prog.cellsOf 9)) = some y := h 0 _ rfl
  obtain ⟨y1, g1⟩ : ∃ y, DataW.trod enc Tryd.prog w base spare held n 41 (([a, b, c, d, e].drop 1).take (Tryd.prog.cellsOf 41)) = some y := h 1 _ rfl
  obtain ⟨y2, g2⟩ : ∃ y, DataW.trod enc Tryd.prog w base spare held n 3 (([a, b, c, d, e].drop 4).take (Tryd.prog.cellsOf 3)) = some y := h 2 _ rfl
  simp only [hC1, hC2, hC3, List.drop_zero, List.take_succ_cons, List.take_zero, List.drop_succ_cons] at g0 g1 g2
  obtain ⟨s, e0, _⟩ := DataW.trod_string Tryd.underlying9 g0
  obtain ⟨k, m, t, e1, hw⟩ := open_valC g1
  obtain ⟨v, e2, _, _⟩ := DataW.trod_int Tryd.underlying3 g2
  simp only [List.cons.injEq, and_true] at e0 e1 e2
  obtain ⟨rfl, rfl, rfl⟩ := e1
  subst e0 e2
  exact ⟨⟨s.data.toList, k, m, t, v⟩, rfl, hw⟩
set_option maxRecDepth 100000 in
theorem open_items1 {fuel : Nat} {v : Value} {x : DataW H × List MemPlace} (hf : DataW.trod enc Tryd.prog w base spare held fuel 22 [v] = some x) :
    ∃ xs : List Itm, ItemsAt w v xs ∧ xs.length ≤ 9223372036854775807 ∧ ∀ x ∈ xs, I64 x.num := by
  have hC : Tryd.prog.cellsOf 43 = 5 := by kernel_rfl
  rcases open_slice Tryd.underlying22 hf with ⟨hc, _⟩ | ⟨a, len, cap, k, n, D, Pl, hc, _, hl, hm, hk, _, hV⟩
  · simp only [List.cons.injEq, and_true] at hc
    exact ⟨[], .inl ⟨hc, rfl⟩, by simp, by simp⟩
  · simp only [List.cons.injEq, and_true] at hc
    subst hc
    have hmk : len ≤ k := by rw [hk]; split <;> omega
    rw [hC] at hV
    obtain ⟨S, hS⟩ := choose_lt2 (α := Itm) (p := fun i z => (∀ j u, (itmV z)[j]? = some u → w.cell? (a.add (i * 5 + j)) = some u) ∧ I64 z.num) (n := len) (fun i hi => by
      obtain ⟨cs', hcs, ht⟩ := hV i (by omega)
      obtain ⟨z, rfl, q⟩ := open_itmC ht
      obtain ⟨_, _, hcell⟩ := World.cells?_some hcs
      refine ⟨z, fun j u hu => ?_, q⟩
      have hj : j < 5 := by have := (List.getElem?_eq_some_iff.1 hu).1; rwa [itmV_len] at this
      have c0 := hcell j hj
      rw [Deep.add_add] at c0
      rw [c0, hu])
    have hsl : ((List.range len).map S).length = len := by simp
    refine ⟨(List.range len).map S, .inr ⟨a, cap, by rw [hsl], by rw [hsl]; exact hl, fun j u hu => ?_⟩, by rw [hsl]; simp only [maxLen] at hm; omega, fun x hx => ?_⟩
    · have hj : j < len * 5 := by
        have := (List.getElem?_eq_some_iff.1 hu).1
        rwa [itms_len, hsl] at this
      have hq : j / 5 < len := by omega
      have g := itms_get ((List.range len).map S) (j / 5) (by omega) (j % 5) (by omega)
      rw [show j / 5 * 5 + j % 5 = j by omega, hu] at g
      have e : ((List.range len).map S)[j / 5]'(by omega) = S (j / 5) := by simp
      rw [e] at g
      have := (hS (j / 5) hq).1 (j % 5) u g.symm
      rwa [show j / 5 * 5 + j % 5 = j by omega] at this
    · obtain ⟨i, hi, rfl⟩ := List.mem_map.1 hx
      exact (hS i (List.mem_range.1 hi)).2
set_option maxRecDepth 100000 in
theorem open_trunkC {fuel : Nat} {cs : List Value} {x : DataW H × List MemPlace} (hf : DataW.trod enc Tryd.prog w base spare held fuel 26 cs = some x) :
    ∃ (ls : List Value) (vs : List Int) (fs : List (List Itm)), cs = ls ++ versV vs ∧ TrunkV w Nof ls fs ∧ vs.length = 16 ∧ (∀ i, (fs.getD i []).length ≤ 9223372036854775807) ∧ ∀ i, ∀ x ∈ fs.getD i [], I64 x.num := by
  obtain ⟨n, hl, h⟩ := trod_fieldS Tryd.underlying26 hf
  have hC : Tryd.prog.cellsOf 26 = 32 := by kernel_rfl
  have hC1 : Tryd.prog.cellsOf 23 = 16 := by kernel_rfl
  have hC2 : Tryd.prog.cellsOf 24 = 16 := by kernel_rfl
  have hC3 : Tryd.prog.cellsOf 22 = 1 := by kernel_rfl
  have hC4 : Tryd.prog.cellsOf 3 = 1 := by kernel_rfl
  have hcl := hl.trans hC
  obtain ⟨y0, g0⟩ : ∃ y, DataW.trod enc Tryd.prog w base spare held n 23 ((cs.drop 0).take (Tryd.prog.cellsOf 23)) = some y := h 0 _ rfl
  obtain ⟨y1, g1⟩ : ∃ y, DataW.trod enc Tryd.prog w base spare held n 24 ((cs.drop 16).take (Tryd.prog.cellsOf 24)) = some y := h 1 _ rfl
  simp only [hC1, hC2, List.drop_zero] at g0 g1
  have hl0 : (cs.take 16).length = 16 := by rw [List.length_take]; omega
  have hl1 : ((cs.drop 16).take 16).length = 16 := by rw [List.length_take, List.length_drop]; omega
  obtain ⟨xs0, m0, _, _, _, x0l, e0⟩ := DataW.trod_array Tryd.underlying23 g0
  obtain ⟨xs1, m1, _, _, _, x1l, e1⟩ := DataW.trod_array Tryd.underlying24 g1
  obtain ⟨S, hS⟩ := choose_lt2 (α := List Itm) (p := fun i z => ItemsAt w ((cs.take 16).getD i undef) z ∧ z.length ≤ 9223372036854775807 ∧ ∀ x ∈ z, I64 x.num) (n := 16) (fun i hi => by
    have := e0 i hi
    rw [hC3, Nat.mul_one, take1_drop _ i undef (by omega), List.getElem?_eq_getElem (by omega)] at this
    exact open_items1 this)
  obtain ⟨Z, hZ⟩ := choose_lt2 (α := Int) (p := fun i z => ((cs.drop 16).take 16).getD i undef = .int .i64 z) (n := 16) (fun i hi => by
    have := e1 i hi
    rw [hC4, Nat.mul_one, take1_drop _ i undef (by omega), List.getElem?_eq_getElem (by omega)] at this
    obtain ⟨z, q, _⟩ := DataW.trod_int Tryd.underlying3 this
    simp only [List.cons.injEq, and_true] at q
    exact ⟨z, q⟩)
  have hfs : ∀ i, i < 16 → ((List.range 16).map S).getD i [] = S i := fun i hi => by
    rw [List.getD_eq_getElem?_getD, List.getElem?_map, List.getElem?_range hi]; rfl
  have hfo : ∀ i, 16 ≤ i → ((List.range 16).map S).getD i [] = [] := fun i hi => by
    rw [List.getD_eq_getElem?_getD, List.getElem?_eq_none (by simp; omega)]; rfl
  refine ⟨cs.take 16, (List.range 16).map Z, (List.range 16).map S, ?_, ⟨hl0, by simp, fun i hi => ⟨(cs.take 16).getD i undef, ?_, ?_, fun _ _ _ hn => hn⟩⟩, by simp, fun i => ?_, fun i x hx => ?_⟩
  · have e : versV ((List.range 16).map Z) = cs.drop 16 := by
      apply List.ext_getElem
      · simp [versV]; omega
      · intro i h1 h2
        have hi : i < 16 := by simpa [versV] using h1
        have := hZ i hi
        rw [List.getD_eq_getElem?_getD, List.getElem?_eq_getElem (by omega)] at this
        simp [versV] at this ⊢
        exact this.symm
    rw [e, List.take_append_drop]
  · rw [List.getD_eq_getElem?_getD, List.getElem?_eq_getElem (by omega)]; rfl
  · rw [hfs i hi]; exact (hS i hi).1
  · by_cases hi : i < 16
    · rw [hfs i hi]; exact (hS i hi).2.1
    · rw [hfo i (by omega)]; simp
  · by_cases hi : i < 16
    · rw [hfs i hi] at hx; exact (hS i hi).2.2 x hx
    · rw [hfo i (by omega)] at hx; simp at hx
/-- What is known of a trunk that came in. -/
structure TrunkIn (w : World) (ls : List Value) (vs : List Int) (fs : List (List Itm)) : Prop where
  t : TrunkV w Nof ls fs
  l : vs.length = 16
  n : ∀ i, (fs.getD i []).length ≤ 9223372036854775807
  i : ∀ i, ∀ x ∈ fs.getD i [], I64 x.num
set_option maxRecDepth 100000 in
theorem open_trunk {r : Reach} {b0 : Nat} {v : Value} {d : DataW H} {p : List MemPlace} (hv : Value.okWide Tryd.prog w r b0 26 v) (h : DataW.Trod enc Tryd.prog w base spare held 26 v d p) :
    ∃ (ls : List Value) (vs : List Int) (fs : List (List Itm)), v = trunkA ls vs ∧ TrunkIn w ls vs fs := by
  obtain ⟨cs, rfl, hsz⟩ := okWide_struct Tryd.underlying26 hv
  obtain ⟨fuel, hf⟩ := h
  obtain ⟨ls, vs, fs, hcs, h1, h2, h3, h4⟩ := open_trunkC (show DataW.trod enc Tryd.prog w base spare held fuel 26 cs.toList = some _ from hf)
  refine ⟨ls, vs, fs, ?_, h1, h2, h3, h4⟩
  unfold trunkA trunkC
  congr 1
  apply Array.ext'
  simpa using hcs
/-- A trunk, a range, and how many are asked. -/
def askedA (ls : List Value) (vs : List Int) (f t : List UInt8) (m : Int) : Value := .agg (ls ++ versV vs ++ [Value.string (bs f), Value.string (bs t), Value.int .i64 m]).toArray
set_option maxRecDepth 100000 in
theorem open_asked {r : Reach} {b0 : Nat} {v : Value} {d : DataW H} {p : List MemPlace} (hv : Value.okWide Tryd.prog w r b0 28 v) (h : DataW.Trod enc Tryd.prog w base spare held 28 v d p) :
    ∃ (ls : List Value) (vs : List Int) (fs : List (List Itm)) (f t : List UInt8) (m : Int), v = askedA ls vs f t m ∧ TrunkIn w ls vs fs := by
  obtain ⟨cs, rfl, hsz⟩ := okWide_struct Tryd.underlying28 hv
  obtain ⟨fuel, hf⟩ := h
  obtain ⟨n, hl, h⟩ := trod_fieldS Tryd.underlying28 (show DataW.trod enc Tryd.prog w base spare held fuel 28 cs.toList = some _ from hf)
  have hC : Tryd.prog.cellsOf 28 = 35 := by kernel_rfl
  have hC0 : Tryd.prog.cellsOf 26 = 32 := by kernel_rfl
  have hC1 : Tryd.prog.cellsOf 9 = 1 := by kernel_rfl
  have hC2 : Tryd.prog.cellsOf 3 = 1 := by kernel_rfl
  have hcl := hl.trans hC
  obtain ⟨y0, g0⟩ : ∃ y, DataW.trod enc Tryd.prog w base spare held n 26 ((cs.toList.drop 0).take (Tryd.prog.cellsOf 26)) = some y := h 0 _ rfl
  obtain ⟨y1, g1⟩ : ∃ y, DataW.trod enc Tryd.prog w base spare held n 9 ((cs.toList.drop 32).take (Tryd.prog.cellsOf 9)) = some y := h 1 _ rfl
  obtain ⟨y2, g2⟩ : ∃ y, DataW.trod enc Tryd.prog w base spare held n 9 ((cs.toList.drop 33).take (Tryd.prog.cellsOf 9)) = some y := h 2 _ rfl
  obtain ⟨y3, g3⟩ : ∃ y, DataW.trod enc Tryd.prog w base spare held n 3 ((cs.toList.drop 34).take (Tryd.prog.cellsOf 3)) = some y := h 3 _ rfl
  simp only [hC0, hC1, hC2, List.drop_zero] at g0 g1 g2 g3
  obtain ⟨ls, vs, fs, hcs, h1, h2, h3, h4⟩ := open_trunkC g0
  rw [take1_drop _ _ undef (by omega)] at g1 g2 g3
  obtain ⟨s1, e1, _⟩ := DataW.trod_string Tryd.underlying9 g1
  obtain ⟨s2, e2, _⟩ := DataW.trod_string Tryd.underlying9 g2
  obtain ⟨m, e3, _⟩ := DataW.trod_int Tryd.underlying3 g3
  simp only [List.cons.injEq, and_true] at e1 e2 e3
  refine ⟨ls, vs, fs, s1.data.toList, s2.data.toList, m, ?_, h1, h2, h3, h4⟩
  unfold askedA
  congr 1
  apply Array.ext'
  simp only [List.toList_toArray]
  rw [← hcs]
  have e : cs.toList.drop 32 = [Value.string s1, Value.string s2, Value.int .i64 m] := by
    rw [← e1, ← e2, ← e3]
    have h32 : (cs.toList.drop 32).length = 3 := by rw [List.length_drop]; omega
    obtain ⟨a, b, c, habc⟩ := list3' h32
    have q : ∀ j, cs.toList.getD (32 + j) undef = [a, b, c].getD j undef := fun j => by
      rw [← habc, List.getD_eq_getElem?_getD, List.getD_eq_getElem?_getD, List.getElem?_drop]
    rw [habc, q 0, q 1, q 2]
    rfl
  rw [show [Value.string (bs s1.data.toList), .string (bs s2.data.toList), .int .i64 m] = cs.toList.drop 32 from e.symm, List.take_append_drop]
end
end Go.Proofs.YtjpfebgpcokenaaDoor
