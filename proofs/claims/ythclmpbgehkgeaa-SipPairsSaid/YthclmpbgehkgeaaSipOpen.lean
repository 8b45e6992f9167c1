/-
  A secret, bytes and numbers that come in, opened. No condition of its own.
-/
import Derived.Test.YthclmpbgehkgeaaSip12
import Derived.Test.YthclmpbgehkgeaaBase
import Derived.Test.YthclmpbgehkgeaaRows
import Derived.Deep.Slices
import Derived.Deep.Fields
import Derived.ChangeSlices
namespace Go.Proofs.Ythclmpbgehkgeaa
open Go.ChangeShapes Go.WideShapes Go.ChangeAt Go.RowKit Go.Deep

theorem own : ownKnob Try.prog.godebug = none := by kernel_rfl
theorem laidOut : laidOutB Try.prog = true := by kernel_rfl
theorem i64_bounds {n : Int} (h : (Lit.int .i64 n).wf = true) : -9223372036854775808 ≤ n ∧ n ≤ 9223372036854775807 := by
  simp [Lit.wf, IntKind.min, IntKind.max, IntKind.signed, IntKind.bits] at h
  omega
theorem u64_bounds {n : Int} (h : (Lit.int .u64 n).wf = true) : Wd n := by
  simp [Lit.wf, IntKind.min, IntKind.max, IntKind.signed, IntKind.bits] at h
  unfold Wd
  omega
theorem u8_bounds {n : Int} (h : (Lit.int .u8 n).wf = true) : 0 ≤ n ∧ n ≤ 255 := by
  simp [Lit.wf, IntKind.min, IntKind.max, IntKind.signed, IntKind.bits] at h
  omega
theorem array2 {α : Type} {cs : Array α} (h : cs.size = 2) : ∃ c0 c1, cs = #[c0, c1] := by
  obtain ⟨l⟩ := cs
  match l, h with
  | [c0, c1], _ => exact ⟨c0, c1, rfl⟩
section
variable {H : Type} {enc : TypeId × Value → H} {w : World} {base : Nat} {spare : Nat → Bool} {held : Bool}
theorem open_sec {r : Reach} {b0 : Nat} {v : Value} {d : DataW H} {p : List MemPlace} (hv : Value.okWide Try.prog w r b0 24 v) (h : DataW.Trod enc Try.prog w base spare held 24 v d p) :
    ∃ k0 k1 : Int, v = K.sec k0 k1 ∧ Wd k0 ∧ Wd k1 := by
  obtain ⟨cs, rfl, hsz⟩ := okWide_struct Try.underlying24 hv
  have hC : Try.prog.cellsOf 24 = 2 := by kernel_rfl
  obtain ⟨c0, c1, rfl⟩ := array2 (hsz.trans hC)
  obtain ⟨fuel, hf⟩ := h
  obtain ⟨xs, n, _, hx, _, hlen, hg⟩ := DataW.trod_struct Try.underlying24 hf
  have k3 : Try.prog.cellsOf 22 = 1 := by kernel_rfl
  have g0 := hg 0 _ rfl
  have g1 := hg 1 _ rfl
  simp [Value.cells, k3] at g0 g1
  match xs, hlen with
  | [y0, y1], _ =>
    obtain ⟨a0, e0, _, u0⟩ := DataW.trod_int Try.underlying22 g0
    obtain ⟨a1, e1, _, u1⟩ := DataW.trod_int Try.underlying22 g1
    simp only [List.cons.injEq, and_true] at e0 e1
    subst e0 e1
    exact ⟨a0, a1, rfl, u64_bounds u0, u64_bounds u1⟩
theorem bytes_of_ints {A : Addr} {n c : Nat} {zs : List Int} (hn : n ≤ zs.length) (hnc : n ≤ c) (hcell : ∀ i, i < zs.length → w.cell? (A.add i) = some (.int .u8 (zs.getD i 0))) (hwf : ∀ z ∈ zs, (Lit.int .u8 z).wf = true) :
    ∃ ys : List UInt8, ys.length = n ∧ K.BytesAt w (.slice (some A) n c) ys := by
  have hl : ((zs.take n).map fun z => UInt8.ofNat z.toNat).length = n := by simp; omega
  refine ⟨(zs.take n).map fun z => UInt8.ofNat z.toNat, hl, .inr ⟨A, c, by rw [hl], by rw [hl]; exact hnc, fun j u hu => ?_⟩⟩
  have hj : j < n := by
    have := (List.getElem?_eq_some_iff.1 hu).1
    simp only [K.byV, List.length_map, List.length_take] at this
    omega
  rw [hcell j (by omega)]
  have hz := u8_bounds (hwf (zs[j]'(by omega)) (List.getElem_mem _))
  simp only [K.byV, List.getElem?_map, List.getElem?_take, if_pos hj, List.getElem?_eq_getElem (show j < zs.length by omega), Option.map_some, Option.some.injEq] at hu
  rw [← hu, List.getD_eq_getElem?_getD, List.getElem?_eq_getElem (show j < zs.length by omega), Option.getD_some]
  congr 2
  simp
  omega
theorem open_bytes1 {fuel : Nat} {v : Value} {x : DataW H × List MemPlace} (hf : DataW.trod enc Try.prog w base spare held fuel 25 [v] = some x) :
    ∃ ys, K.BytesAt w v ys ∧ ys.length ≤ 9223372036854775807 := by
  have hC : Try.prog.cellsOf 5 = 1 := by kernel_rfl
  rcases open_ints Try.underlying25 Try.underlying5 hC hf with ⟨hc, _⟩ | ⟨a, len, cap, zs, hc, _, hl, hm, hz, _, hcell, hwf⟩
  · simp only [List.cons.injEq, and_true] at hc
    exact ⟨[], .inl ⟨hc, rfl⟩, by simp⟩
  · simp only [List.cons.injEq, and_true] at hc
    have hlen : len ≤ zs.length := by rw [hz]; split <;> omega
    obtain ⟨ys, h1, h2⟩ := bytes_of_ints hlen hl hcell hwf
    exact ⟨ys, hc ▸ h2, by simp only [maxLen] at hm; omega⟩
theorem open_bytes {r : Reach} {b0 : Nat} {v : Value} {d : DataW H} {p : List MemPlace} (hv : Value.okWide Try.prog w r b0 25 v) (h : DataW.Trod enc Try.prog w base spare held 25 v d p) :
    ∃ ys, K.BytesAt w v ys ∧ ys.length ≤ 9223372036854775807 := by
  obtain ⟨A, n, c, rfl⟩ := okWide_slice Try.underlying25 hv
  obtain ⟨fuel, hf⟩ := h
  exact open_bytes1 (show DataW.trod enc Try.prog w base spare held fuel 25 [.slice A n c] = some _ from hf)
theorem open_pieces {r : Reach} {b0 : Nat} {v : Value} {d : DataW H} {p : List MemPlace} (hv : Value.okWide Try.prog w r b0 30 v) (h : DataW.Trod enc Try.prog w base spare held 30 v d p) :
    ∃ A m c, v = .slice A m c ∧ m ≤ 9223372036854775807 ∧ (0 < m → ∃ b o, A = some ⟨b, o, none⟩ ∧ ∀ j, j < m → ∃ v ys, w.cell? ⟨b, o + j, none⟩ = some v ∧ K.BytesAt w v ys ∧ ys.length ≤ 9223372036854775807) := by
  obtain ⟨A, m, c, rfl⟩ := okWide_slice Try.underlying30 hv
  obtain ⟨fuel, hf⟩ := h
  have hC : Try.prog.cellsOf 25 = 1 := by kernel_rfl
  rcases open_slice1 Try.underlying30 hC (show DataW.trod enc Try.prog w base spare held fuel 30 [.slice A m c] = some _ from hf) with ⟨hc, _⟩ | ⟨a, len, cap, k, n, V, D, Pl, hc, _, hl, hm, hk, _, hV⟩
  · simp only [List.cons.injEq, Value.slice.injEq, and_true] at hc
    obtain ⟨rfl, rfl, rfl⟩ := hc
    exact ⟨_, _, _, rfl, by omega, fun h => by omega⟩
  · simp only [List.cons.injEq, Value.slice.injEq, and_true] at hc
    obtain ⟨rfl, rfl, rfl⟩ := hc
    have hmk : m ≤ k := by rw [hk]; split <;> omega
    refine ⟨_, _, _, rfl, by simp only [maxLen] at hm; omega, fun h0 => ?_⟩
    obtain ⟨b, o, sp⟩ := a
    have hsp : sp = none := by
      have h1 := (hV 0 (by omega)).1
      cases sp with
      | none => rfl
      | some s => simp [Addr.add, World.cell?] at h1; split at h1 <;> simp at h1
    subst hsp
    refine ⟨b, o, rfl, fun j hj => ?_⟩
    obtain ⟨h1, h2⟩ := hV j (by omega)
    obtain ⟨ys, h3, h4⟩ := open_bytes1 h2
    exact ⟨V j, ys, by rw [← K.add_none]; exact h1, h3, h4⟩
end
end Go.Proofs.Ythclmpbgehkgeaa
