/-
  KeyParts: at every input it returns true, and each argument reads as it read; the table of signs starts as the program's text lays it, and the card ties it to that text. No other condition.
-/
import Derived.Test.YtchfecmabhfooaaDoorKey8
import Derived.Test.YtchfecmabhfooaaDoorVars
import Derived.Test.YtchfecmabhfooaaDoorTie
import Derived.Test.YtchfecmabhfooaaDoorCards
import Derived.ChangeMaps5
import Derived.Deep.Slices
import Derived.Deep.Fields
namespace Go.Proofs.YtchfecmabhfooaaDoor
open Go.ChangeShapes Go.WideShapes Go.ChangeAt Go.RowKit Go.ChangeMaps Go.Deep

section
variable {H : Type} {enc : TypeId × Value → H} {w : World} {base : Nat} {spare : Nat → Bool} {held : Bool}
set_option maxRecDepth 100000 in
theorem open_strs {r : Reach} {b0 : Nat} {v : Value} {d : DataW H} {p : List MemPlace} (hv : Value.okWide Tryd.prog w r b0 22 v) (h : DataW.Trod enc Tryd.prog w base spare held 22 v d p) :
    ∃ L : List (List UInt8), ValsAt w v (strs L) := by
  obtain ⟨A, m, c, rfl⟩ := okWide_slice Tryd.underlying22 hv
  obtain ⟨fuel, hf⟩ := h
  have hC : Tryd.prog.cellsOf 9 = 1 := by kernel_rfl
  rcases open_slice1 Tryd.underlying22 hC (show DataW.trod enc Tryd.prog w base spare held fuel 22 [.slice A m c] = some _ from hf) with ⟨hc, _⟩ | ⟨a, len, cap, k, n, V, D, Pl, hc, _, hl, hm, hk, _, hV⟩
  · simp only [List.cons.injEq, and_true] at hc
    exact ⟨[], .inl ⟨hc, rfl⟩⟩
  · simp only [List.cons.injEq, Value.slice.injEq, and_true] at hc
    obtain ⟨rfl, rfl, rfl⟩ := hc
    have hmk : m ≤ k := by rw [hk]; split <;> omega
    obtain ⟨S, hS⟩ := choose_lt (α := List UInt8) (p := fun i s => V i = .string (bs s)) (n := m) (fun i hi => by
      obtain ⟨s, hs, _⟩ := DataW.trod_string Tryd.underlying9 (hV i (by omega)).2
      simp only [List.cons.injEq, and_true] at hs
      exact ⟨s.data.toList, hs⟩)
    refine ⟨(List.range m).map S, .inr ⟨a, c, by simp [strs], by simp [strs]; exact hl, fun j u hu => ?_⟩⟩
    have hj : j < m := by
      have := (List.getElem?_eq_some_iff.1 hu).1
      simpa [strs] using this
    rw [(hV j (by omega)).1, hS j hj]
    rw [← hu]
    simp [strs, hj]
end
set_option maxRecDepth 100000 in
theorem keyParts_lifted (os : Os) (started : os.Started) (H : Type) (enc : TypeId × Value → H) :
    ReturnsInHanded {} Tryd.checked os 12 .any (fun w args => (Rows.keyPartsSpec.pre enc Tryd.prog Tryd.f12 Rows.keyPartsRow.domain false w args ∧ laidMetH Tryd.prog laidL w) ∧ sizedMet enc Tryd.prog Tryd.f12 (OpenSpec.ofChange Rows.keyPartsSpec) false w args) (Rows.keyPartsSpec.post enc Tryd.prog Tryd.f12 false true false false) := by
  refine law_lift_laid (C := Tryd.checked) laidL own started (by kernel_rfl) Tryd.func12 rfl (by kernel_rfl) Tryd.underlying4 laidOut (by kernel_rfl) ?_
    (ChangeSpec.witness_shaped (enc := enc) (C := Tryd.checked) (os := os) (X := fun w _ => laidMetH Tryd.prog laidL w) false (World.laidAll Tryd.prog os laidL) #[.string ⟨#[]⟩, .slice none 0 0] 8 (World.laidAll_os _ _ _)
      (World.shaped_of_ZipB (by kernel_rfl) (by kernel_rfl)) (by kernel_rfl) (by kernel_rfl) (by kernel_rfl) (door_met os _)) ?_
  · intro ds h
    match ds, h with
    | [_, _], _ => rfl
  · intro W base args ds before hval0 hA0 _ _ hL hsh
    have hval : ∀ (j : Nat) t v, Tryd.f12.params[j]? = some t → args[j]? = some v → Value.okWide Tryd.prog W .any base t v := hval0
    have hA : DataW.TrodAll enc Tryd.prog W 0 (fun _ => true) true Tryd.f12.params.toList args.toList ds before := hA0
    rw [Tryd.params12] at hA hval
    obtain ⟨v0, v1, d0, d1, p0, p1, rfl, rfl, rfl, h0, h1⟩ := trodAll_two hA
    obtain ⟨s0, rfl, rfl, rfl, w0⟩ := open_string Tryd.underlying9 (hval 0 9 v0 rfl rfl) h0
    obtain ⟨L, hL2⟩ := open_strs (hval 1 22 v1 rfl rfl) h1
    exact law_KeyParts s0.data.toList v1 L W (glob_of hL) (maxl_of hsh) hL2

theorem keyParts_row : Rows.KeyPartsSaid :=
  OpenClaim.holds_of_wide 12 Tryd.f12 rfl rfl rfl rfl rfl rfl rfl ⟨rfl, rfl, rfl, rfl, rfl⟩ rfl rfl rfl rfl rfl (by kernel_rfl) Tryd.func12 (by kernel_rfl)
    (of_decide_eq_true (by kernel_rfl)) (by unfold Func.isWrapper; rw [if_neg (of_decide_eq_false (by kernel_rfl))]; exact ⟨rfl, rfl⟩)
    (fun os started H enc _ => keyParts_lifted os started H enc)
theorem keyParts_holds : Rows.KeyPartsCardSaid :=
  Claim7.holds_tied_plain_at .later [] [.data] true (true, "d68675bc6f422237e054277e6523f0ca3e5c6234c593a2594cee87a1e756db72") false
    keyParts_row (fun _ h => by cases h) (by kernel_rfl) (fun _ h => by cases h) keyParts_row_tie rfl ⟨rfl, rfl⟩ (by kernel_rfl) rfl
    (fun f fn hf hfn => by
      obtain rfl : f = 12 := Option.some.inj ((show Tryd.prog.funcNamed Tryd.f12.name = some 12 by kernel_rfl).symm.trans hf) |>.symm
      obtain rfl : fn = Tryd.f12 := (Option.some.inj (Tryd.func12.symm.trans hfn)).symm
      exact ⟨by kernel_rfl, fun j t ht => by
        rw [Tryd.params12] at ht
        have hm : t ∈ [9, 22] := by simpa using Array.mem_of_getElem? ht
        have hall : ([9, 22].all fun u => !Tryd.prog.wantsStandIn u) = true := by kernel_rfl
        exact (show Tryd.prog.wantsStandIn t = false by simpa using List.all_eq_true.1 hall t hm)⟩)
    (by kernel_rfl)
#print axioms keyParts_holds
end Go.Proofs.YtchfecmabhfooaaDoor
