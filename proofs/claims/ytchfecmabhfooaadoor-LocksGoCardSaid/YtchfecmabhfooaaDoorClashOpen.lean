/-
  Wants that come in, opened. No condition of its own.
-/
import Derived.Test.YtchfecmabhfooaaDoorMD
import Derived.Test.YtchfecmabhfooaaDoorVars
import Derived.ChangeMaps5
import Derived.Deep.Slices
import Derived.Deep.Fields
namespace Go.Proofs.YtchfecmabhfooaaDoor
open Go.ChangeShapes Go.WideShapes Go.ChangeAt Go.RowKit Go.ChangeMaps Go.Deep

section
variable {H : Type} {enc : TypeId × Value → H} {w : World} {base : Nat} {spare : Nat → Bool} {held : Bool}
set_option maxRecDepth 100000 in
theorem open_strs1 {fuel : Nat} {v : Value} {x : DataW H × List MemPlace} (hf : DataW.trod enc Tryd.prog w base spare held fuel 22 [v] = some x) :
    ∃ L : List (List UInt8), ValsAt w v (strs L) ∧ v.oneCell' = true := by
  have hC : Tryd.prog.cellsOf 9 = 1 := by kernel_rfl
  rcases open_slice1 Tryd.underlying22 hC hf with ⟨hc, _⟩ | ⟨a, len, cap, k, n, V, D, Pl, hc, _, hl, hm, hk, _, hV⟩
  · simp only [List.cons.injEq, and_true] at hc
    exact ⟨[], .inl ⟨hc, rfl⟩, by rw [hc]; rfl⟩
  · simp only [List.cons.injEq, and_true] at hc
    subst hc
    have hmk : len ≤ k := by rw [hk]; split <;> omega
    obtain ⟨S, hS⟩ := choose_lt (α := List UInt8) (p := fun i s => V i = .string (bs s)) (n := len) (fun i hi => by
      obtain ⟨s, hs, _⟩ := DataW.trod_string Tryd.underlying9 (hV i (by omega)).2
      simp only [List.cons.injEq, and_true] at hs
      exact ⟨s.data.toList, hs⟩)
    refine ⟨(List.range len).map S, .inr ⟨a, cap, by simp [strs], by simp [strs]; exact hl, fun j u hu => ?_⟩, rfl⟩
    have hj : j < len := by
      have := (List.getElem?_eq_some_iff.1 hu).1
      simpa [strs] using this
    rw [(hV j (by omega)).1, hS j hj]
    rw [← hu]
    simp [strs, hj]
theorem list2 {α : Type} {l : List α} (h : l.length = 2) : ∃ a b, l = [a, b] := by
  match l, h with
  | [a, b], _ => exact ⟨a, b, rfl⟩
set_option maxRecDepth 100000 in
theorem open_wantC {fuel : Nat} {cs : List Value} {x : DataW H × List MemPlace} (hf : DataW.trod enc Tryd.prog w base spare held fuel 24 cs = some x) :
    ∃ (a b : Value) (z : Want2), cs = [a, b] ∧ ValsAt w a (strs z.1) ∧ ValsAt w b (strs z.2) ∧ a.oneCell' = true ∧ b.oneCell' = true := by
  obtain ⟨y0, y1, n, _, hl, h0, h1⟩ := trod_struct2 Tryd.underlying24 hf
  have hC : Tryd.prog.cellsOf 24 = 2 := by kernel_rfl
  have hC1 : Tryd.prog.cellsOf 22 = 1 := by kernel_rfl
  obtain ⟨a, b, rfl⟩ := list2 (hl.trans hC)
  rw [hC1] at h0 h1
  obtain ⟨L1, p1, p2⟩ := open_strs1 h0
  obtain ⟨L2, q1, q2⟩ := open_strs1 h1
  exact ⟨a, b, (L1, L2), rfl, p1, q1, p2, q2⟩
set_option maxRecDepth 100000 in
theorem open_want {r : Reach} {b0 : Nat} {v : Value} {d : DataW H} {p : List MemPlace} (hv : Value.okWide Tryd.prog w r b0 24 v) (h : DataW.Trod enc Tryd.prog w base spare held 24 v d p) :
    ∃ (a b : Value) (z : Want2), v = .agg #[a, b] ∧ ValsAt w a (strs z.1) ∧ ValsAt w b (strs z.2) ∧ a.oneCell' = true ∧ b.oneCell' = true := by
  obtain ⟨cs, rfl, hsz⟩ := okWide_struct Tryd.underlying24 hv
  obtain ⟨fuel, hf⟩ := h
  obtain ⟨a, b, z, hcs, h1⟩ := open_wantC (show DataW.trod enc Tryd.prog w base spare held fuel 24 cs.toList = some _ from hf)
  refine ⟨a, b, z, ?_, h1⟩
  congr 1
  apply Array.ext'
  simpa using hcs
set_option maxRecDepth 100000 in
theorem open_wants {r : Reach} {b0 : Nat} {v : Value} {d : DataW H} {p : List MemPlace} (hv : Value.okWide Tryd.prog w r b0 28 v) (h : DataW.Trod enc Tryd.prog w base spare held 28 v d p) :
    ∃ L : List Want2, WantsAt w v L ∧ L.length ≤ 9223372036854775807 := by
  obtain ⟨A, m, c, rfl⟩ := okWide_slice Tryd.underlying28 hv
  obtain ⟨fuel, hf⟩ := h
  have hC : Tryd.prog.cellsOf 24 = 2 := by kernel_rfl
  rcases open_slice Tryd.underlying28 (show DataW.trod enc Tryd.prog w base spare held fuel 28 [.slice A m c] = some _ from hf) with ⟨hc, _⟩ | ⟨a, len, cap, k, n, D, Pl, hc, _, hl, hm, hk, _, hV⟩
  · simp only [List.cons.injEq, Value.slice.injEq, and_true] at hc
    obtain ⟨rfl, rfl, rfl⟩ := hc
    exact ⟨[], ⟨none, 0, rfl, by simp, fun h => absurd h (by simp)⟩, by simp⟩
  · simp only [List.cons.injEq, Value.slice.injEq, and_true] at hc
    obtain ⟨rfl, rfl, rfl⟩ := hc
    have hmk : m ≤ k := by rw [hk]; split <;> omega
    rw [hC] at hV
    obtain ⟨S, hS⟩ := choose_lt (α := Want2) (p := fun i z => ∃ u1 u2, w.cell? (a.add (i * 2)) = some u1 ∧ w.cell? (a.add (i * 2 + 1)) = some u2 ∧ ValsAt w u1 (strs z.1) ∧ ValsAt w u2 (strs z.2) ∧ u1.oneCell' = true ∧ u2.oneCell' = true) (n := m) (fun i hi => by
      obtain ⟨cs', hcs, ht⟩ := hV i (by omega)
      obtain ⟨u1, u2, z, rfl, q1, q2, q3, q4⟩ := open_wantC ht
      obtain ⟨_, _, hcell⟩ := World.cells?_some hcs
      have c0 := hcell 0 (by omega)
      have c1 := hcell 1 (by omega)
      rw [Deep.add_add] at c0 c1
      exact ⟨z, u1, u2, c0, c1, q1, q2, q3, q4⟩)
    have hsl : ((List.range m).map S).length = m := by simp
    refine ⟨(List.range m).map S, ⟨some a, c, by rw [hsl], by rw [hsl]; exact hl, fun h0 => ?_⟩, by rw [hsl]; simp only [maxLen] at hm; omega⟩
    rw [hsl] at h0
    obtain ⟨b, o, sp⟩ := a
    obtain ⟨u0, _, h1, _⟩ := hS 0 h0
    have hsp : sp = none := by
      cases sp with
      | none => rfl
      | some s => simp [Addr.add, World.cell?] at h1; split at h1 <;> simp at h1
    subst hsp
    rw [add_none] at h1
    refine ⟨b, o, rfl, World.block_lt_of_cell? _ _ h1, fun i hi => ?_⟩
    have hi' : i < m := by omega
    obtain ⟨u1, u2, q1, q2, q3, q4, q5, q6⟩ := hS i hi'
    rw [add_none] at q1 q2
    have e : ((List.range m).map S)[i] = S i := by simp
    rw [e]
    exact ⟨u1, u2, q1, by rw [Nat.add_assoc]; exact q2, q3, q4, q5, q6⟩
end
end Go.Proofs.YtchfecmabhfooaaDoor
