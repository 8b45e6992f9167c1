/-
  What is done, and picks, that come in, opened. No condition of its own.
-/
import Derived.Test.YtchfecmabhfooaaDoorClashOpen
import Derived.Test.YtchfecmabhfooaaDoorLocks8
import Derived.ChangeSlices
namespace Go.Proofs.YtchfecmabhfooaaDoor
open Go.ChangeShapes Go.WideShapes Go.ChangeAt Go.RowKit Go.ChangeMaps Go.Deep

def picksV (picks : List Nat) : List Value := picks.map fun (q : Nat) => .int .u8 (q : Int)
def PicksAt (w : World) (arg : Value) (picks : List Nat) : Prop := ValsAt w arg (picksV picks) ∧ ∀ q ∈ picks, q ≤ 255
section
variable {H : Type} {enc : TypeId × Value → H} {w : World} {base : Nat} {spare : Nat → Bool} {held : Bool}
set_option maxRecDepth 100000 in
theorem open_actC {fuel : Nat} {cs : List Value} {x : DataW H × List MemPlace} (hf : DataW.trod enc Tryd.prog w base spare held fuel 46 cs = some x) :
    ∃ z : Bool × Int, cs = [.bool z.1, .int .i64 z.2] := by
  obtain ⟨y0, y1, n, _, hl, h0, h1⟩ := trod_struct2 Tryd.underlying46 hf
  have hC : Tryd.prog.cellsOf 46 = 2 := by kernel_rfl
  have hC1 : Tryd.prog.cellsOf 4 = 1 := by kernel_rfl
  have hC2 : Tryd.prog.cellsOf 3 = 1 := by kernel_rfl
  obtain ⟨a, b, rfl⟩ := list2 (hl.trans hC)
  rw [hC1] at h0
  rw [hC2] at h1
  obtain ⟨b0, e0, _⟩ := DataW.trod_bool Tryd.underlying4 h0
  obtain ⟨z1, e1, _, _⟩ := DataW.trod_int Tryd.underlying3 h1
  simp at e0 e1
  exact ⟨(b0, z1), by rw [e0, e1]⟩
set_option maxRecDepth 100000 in
theorem open_acts {r : Reach} {b0 : Nat} {v : Value} {d : DataW H} {p : List MemPlace} (hv : Value.okWide Tryd.prog w r b0 41 v) (h : DataW.Trod enc Tryd.prog w base spare held 41 v d p) :
    ∃ acts : List (Bool × Int), ActsAt w v acts ∧ acts.length ≤ 9223372036854775807 := by
  obtain ⟨A, m, c, rfl⟩ := okWide_slice Tryd.underlying41 hv
  obtain ⟨fuel, hf⟩ := h
  have hC : Tryd.prog.cellsOf 46 = 2 := by kernel_rfl
  rcases open_slice Tryd.underlying41 (show DataW.trod enc Tryd.prog w base spare held fuel 41 [.slice A m c] = some _ from hf) with ⟨hc, _⟩ | ⟨a, len, cap, k, n, D, Pl, hc, _, hl, hm, hk, _, hV⟩
  · simp only [List.cons.injEq, Value.slice.injEq, and_true] at hc
    obtain ⟨rfl, rfl, rfl⟩ := hc
    exact ⟨[], ⟨none, 0, rfl, by simp, fun h => absurd h (by simp)⟩, by simp⟩
  · simp only [List.cons.injEq, Value.slice.injEq, and_true] at hc
    obtain ⟨rfl, rfl, rfl⟩ := hc
    have hmk : m ≤ k := by rw [hk]; split <;> omega
    rw [hC] at hV
    obtain ⟨S, hS⟩ := choose_lt (α := Bool × Int) (p := fun i z => w.cell? (a.add (i * 2)) = some (.bool z.1) ∧ w.cell? (a.add (i * 2 + 1)) = some (.int .i64 z.2)) (n := m) (fun i hi => by
      obtain ⟨cs', hcs, ht⟩ := hV i (by omega)
      obtain ⟨z, rfl⟩ := open_actC ht
      obtain ⟨_, _, hcell⟩ := World.cells?_some hcs
      have c0 := hcell 0 (by omega)
      have c1 := hcell 1 (by omega)
      rw [Deep.add_add] at c0 c1
      exact ⟨z, c0, c1⟩)
    have hsl : ((List.range m).map S).length = m := by simp
    refine ⟨(List.range m).map S, ⟨some a, c, by rw [hsl], by rw [hsl]; exact hl, fun h0 => ?_⟩, by rw [hsl]; simp only [maxLen] at hm; omega⟩
    rw [hsl] at h0
    obtain ⟨b, o, sp⟩ := a
    obtain ⟨h1, _⟩ := hS 0 h0
    have hsp : sp = none := by
      cases sp with
      | none => rfl
      | some s => simp [Addr.add, World.cell?] at h1; split at h1 <;> simp at h1
    subst hsp
    refine ⟨b, o, rfl, fun i hi => ?_⟩
    have hi' : i < m := by omega
    obtain ⟨q1, q2⟩ := hS i hi'
    rw [add_none] at q1 q2
    have e : ((List.range m).map S)[i] = S i := by simp
    rw [e]
    exact ⟨q1, by rw [Nat.add_assoc]; exact q2⟩
set_option maxRecDepth 100000 in
theorem open_picks {r : Reach} {b0 : Nat} {v : Value} {d : DataW H} {p : List MemPlace} (hv : Value.okWide Tryd.prog w r b0 58 v) (h : DataW.Trod enc Tryd.prog w base spare held 58 v d p) :
    ∃ picks : List Nat, PicksAt w v picks ∧ picks.length ≤ 9223372036854775807 := by
  obtain ⟨A, m, c, rfl⟩ := okWide_slice Tryd.underlying58 hv
  obtain ⟨fuel, hf⟩ := h
  have hC : Tryd.prog.cellsOf 5 = 1 := by kernel_rfl
  rcases open_ints Tryd.underlying58 Tryd.underlying5 hC (show DataW.trod enc Tryd.prog w base spare held fuel 58 [.slice A m c] = some _ from hf) with ⟨hc, _⟩ | ⟨a, len, cap, zs, hc, _, hl, hm, hz, _, hcell, hwf⟩
  · simp only [List.cons.injEq, Value.slice.injEq, and_true] at hc
    obtain ⟨rfl, rfl, rfl⟩ := hc
    exact ⟨[], ⟨.inl ⟨rfl, rfl⟩, by simp⟩, by simp⟩
  · simp only [List.cons.injEq, Value.slice.injEq, and_true] at hc
    obtain ⟨rfl, rfl, rfl⟩ := hc
    have hlen : m ≤ zs.length := by rw [hz]; split <;> omega
    have hb : ∀ z ∈ zs, 0 ≤ z ∧ z ≤ 255 := fun z hzm => by
      have h := hwf z hzm
      simp [Lit.wf, IntKind.min, IntKind.max, IntKind.signed, IntKind.bits] at h
      omega
    refine ⟨(List.range m).map fun i => (zs.getD i 0).toNat, ⟨.inr ⟨a, c, by simp [picksV], by simp [picksV]; exact hl, fun j u hu => ?_⟩, fun q hq => ?_⟩, by simp; simp only [maxLen] at hm; omega⟩
    · have hj : j < m := by
        have := (List.getElem?_eq_some_iff.1 hu).1
        simpa [picksV] using this
      rw [hcell j (by omega)]
      rw [← hu]
      have hjz : j < zs.length := by omega
      have e : zs[j]?.getD 0 = zs[j] := by rw [List.getElem?_eq_getElem hjz]; rfl
      have hz' := hb zs[j] (List.getElem_mem _)
      rw [← e] at hz'
      simp [picksV, hj, List.getD_eq_getElem?_getD]
      omega
    · obtain ⟨i, hi, rfl⟩ := List.mem_map.1 hq
      have hi := List.mem_range.1 hi
      rw [List.getD_eq_getElem?_getD, List.getElem?_eq_getElem (show i < zs.length by omega), Option.getD_some]
      have := hb (zs[i]'(by omega)) (List.getElem_mem _)
      omega
end
end Go.Proofs.YtchfecmabhfooaaDoor
