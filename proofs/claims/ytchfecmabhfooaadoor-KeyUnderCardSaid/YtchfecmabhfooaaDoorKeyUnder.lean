/-
  KeyUnder: at every input it returns true, and each argument reads as it read; the table of signs starts as the program's text lays it, and the card ties it to that text. No other condition.
-/
import Derived.Test.YtchfecmabhfooaaDoorKey5
import Derived.Test.YtchfecmabhfooaaDoorVars
import Derived.Test.YtchfecmabhfooaaDoorTie
import Derived.Test.YtchfecmabhfooaaDoorCards
import Derived.ChangeMaps5
import Derived.Deep.Slices
import Derived.Deep.Fields
namespace Go.Proofs.YtchfecmabhfooaaDoor
open Go.ChangeShapes Go.WideShapes Go.ChangeAt Go.RowKit Go.ChangeMaps Go.Deep

theorem array5 {α : Type} {cs : Array α} (h : cs.size = 5) : ∃ c0 c1 c2 c3 c4, cs = #[c0, c1, c2, c3, c4] := by
  obtain ⟨l⟩ := cs
  match l, h with
  | [c0, c1, c2, c3, c4], _ => exact ⟨c0, c1, c2, c3, c4, rfl⟩
section
variable {H : Type} {enc : TypeId × Value → H} {w : World} {base : Nat} {spare : Nat → Bool} {held : Bool}
set_option maxRecDepth 100000 in
theorem open_five {r : Reach} {b0 : Nat} {v : Value} {d : DataW H} {p : List MemPlace} (hv : Value.okWide Tryd.prog w r b0 70 v) (h : DataW.Trod enc Tryd.prog w base spare held 70 v d p) :
    ∃ k a b f t : ByteArray, v = .agg #[.string k, .string a, .string b, .string f, .string t] := by
  obtain ⟨cs, rfl, hsz⟩ := okWide_struct Tryd.underlying70 hv
  have hC : Tryd.prog.cellsOf 70 = 5 := by kernel_rfl
  obtain ⟨c0, c1, c2, c3, c4, rfl⟩ := array5 (hsz.trans hC)
  obtain ⟨fuel, hf⟩ := h
  obtain ⟨xs, n, _, hx, _, hlen, hg⟩ := DataW.trod_struct Tryd.underlying70 hf
  have k9 : Tryd.prog.cellsOf 9 = 1 := by kernel_rfl
  have g0 := hg 0 _ rfl
  have g1 := hg 1 _ rfl
  have g2 := hg 2 _ rfl
  have g3 := hg 3 _ rfl
  have g4 := hg 4 _ rfl
  simp [Value.cells, k9] at g0 g1 g2 g3 g4
  match xs, hlen with
  | [y0, y1, y2, y3, y4], _ =>
    obtain ⟨a0, e0, _⟩ := DataW.trod_string Tryd.underlying9 g0
    obtain ⟨a1, e1, _⟩ := DataW.trod_string Tryd.underlying9 g1
    obtain ⟨a2, e2, _⟩ := DataW.trod_string Tryd.underlying9 g2
    obtain ⟨a3, e3, _⟩ := DataW.trod_string Tryd.underlying9 g3
    obtain ⟨a4, e4, _⟩ := DataW.trod_string Tryd.underlying9 g4
    simp only [List.cons.injEq, and_true] at e0 e1 e2 e3 e4
    subst e0 e1 e2 e3 e4
    exact ⟨a0, a1, a2, a3, a4, rfl⟩
end
set_option maxRecDepth 100000 in
theorem keyUnder_lifted (os : Os) (started : os.Started) (H : Type) (enc : TypeId × Value → H) :
    ReturnsInHanded {} Tryd.checked os 11 .any (fun w args => (Rows.keyUnderSpec.pre enc Tryd.prog Tryd.f11 Rows.keyUnderRow.domain false w args ∧ laidMetH Tryd.prog laidL w) ∧ sizedMet enc Tryd.prog Tryd.f11 (OpenSpec.ofChange Rows.keyUnderSpec) false w args) (Rows.keyUnderSpec.post enc Tryd.prog Tryd.f11 false true false false) := by
  refine law_lift_laid (C := Tryd.checked) laidL own started (by kernel_rfl) Tryd.func11 rfl (by kernel_rfl) Tryd.underlying4 laidOut (by kernel_rfl) ?_
    (ChangeSpec.witness_shaped (enc := enc) (C := Tryd.checked) (os := os) (X := fun w _ => laidMetH Tryd.prog laidL w) false (World.laidAll Tryd.prog os laidL) #[.agg #[.string ⟨#[]⟩, .string ⟨#[]⟩, .string ⟨#[]⟩, .string ⟨#[]⟩, .string ⟨#[]⟩]] 8 (World.laidAll_os _ _ _)
      (World.shaped_of_ZipB (by kernel_rfl) (by kernel_rfl)) (by kernel_rfl) (by kernel_rfl) (by kernel_rfl) (door_met os _)) ?_
  · intro ds h
    match ds, h with
    | [_], _ => rfl
  · intro W base args ds before hval0 hA0 _ _ hL hsh
    have hval : ∀ (j : Nat) t v, Tryd.f11.params[j]? = some t → args[j]? = some v → Value.okWide Tryd.prog W .any base t v := hval0
    have hA : DataW.TrodAll enc Tryd.prog W 0 (fun _ => true) true Tryd.f11.params.toList args.toList ds before := hA0
    rw [Tryd.params11] at hA hval
    obtain ⟨v0, d0, rfl, rfl, h0⟩ := trodAll_one hA
    obtain ⟨k, a, b, f, t, rfl⟩ := open_five (hval 0 70 v0 rfl rfl) h0
    exact law_KeyUnder k.data.toList a.data.toList b.data.toList f.data.toList t.data.toList W (glob_of hL) (maxl_of hsh)

theorem keyUnder_row : Rows.KeyUnderSaid :=
  OpenClaim.holds_of_wide 11 Tryd.f11 rfl rfl rfl rfl rfl rfl rfl ⟨rfl, rfl, rfl, rfl, rfl⟩ rfl rfl rfl rfl rfl (by kernel_rfl) Tryd.func11 (by kernel_rfl)
    (of_decide_eq_true (by kernel_rfl)) (by unfold Func.isWrapper; rw [if_neg (of_decide_eq_false (by kernel_rfl))]; exact ⟨rfl, rfl⟩)
    (fun os started H enc _ => keyUnder_lifted os started H enc)
theorem keyUnder_holds : Rows.KeyUnderCardSaid :=
  Claim7.holds_tied_plain_at .later [] [.data] true (true, "d68675bc6f422237e054277e6523f0ca3e5c6234c593a2594cee87a1e756db72") false
    keyUnder_row (fun _ h => by cases h) (by kernel_rfl) (fun _ h => by cases h) keyUnder_row_tie rfl ⟨rfl, rfl⟩ (by kernel_rfl) rfl
    (fun f fn hf hfn => by
      obtain rfl : f = 11 := Option.some.inj ((show Tryd.prog.funcNamed Tryd.f11.name = some 11 by kernel_rfl).symm.trans hf) |>.symm
      obtain rfl : fn = Tryd.f11 := (Option.some.inj (Tryd.func11.symm.trans hfn)).symm
      exact ⟨by kernel_rfl, fun j t ht => by
        rw [Tryd.params11] at ht
        have hm : t ∈ [70] := by simpa using Array.mem_of_getElem? ht
        have hall : ([70].all fun u => !Tryd.prog.wantsStandIn u) = true := by kernel_rfl
        exact (show Tryd.prog.wantsStandIn t = false by simpa using List.all_eq_true.1 hall t hm)⟩)
    (by kernel_rfl)
#print axioms keyUnder_holds
end Go.Proofs.YtchfecmabhfooaaDoor
