/-
  Blocks that are known whole, and what becomes of them. No condition of its own.
-/
import Derived.Test.YthclmpbgehkgeaaBase
import Derived.WalkLawsBesides
import Derived.WalkSpells
import Derived.Handy
import Derived.BigQuiet
import Derived.Deep.QuietTactic
import Derived.Deep.RegionHeld3
import Derived.Deep.DeepCutAuto
namespace Go.Proofs.Ythclmpbgehkgeaa
open Go.RowKit

/-- Block g holds just these cells, none of them frozen. -/
def Blk (w : World) (g : Nat) (t : TypeId) (cs : Array Value) : Prop := w.heap[g]? = some (.cells cs t (0, 0))

section
variable {w w' : World} {g : Nat} {t : TypeId} {cs : Array Value}
theorem Blk.lt (h : Blk w g t cs) : g < w.heap.size := by
  rcases Nat.lt_or_ge g w.heap.size with hlt | hge
  · exact hlt
  · unfold Blk at h; rw [Array.getElem?_eq_none hge] at h; cases h
theorem Blk.cell (h : Blk w g t cs) (i : Nat) : w.cell? ⟨g, i, none⟩ = cs[i]? := cell_of_row w g i cs t (0, 0) h
theorem Blk.free (h : Blk w g t cs) (i : Nat) : w.frozen? ⟨g, i, none⟩ = false := by
  unfold Blk at h
  simp [World.frozen?, h]
theorem Blk.new (w : World) (t : TypeId) (cs : Array Value) : Blk (w.alloc (.cells cs t)) w.heap.size t cs := heap_alloc_new w _
theorem Blk.newAt {g : Nat} (hg : g = w.heap.size) : Blk (w.alloc (.cells cs t)) g t cs := by subst hg; exact heap_alloc_new w _
theorem Blk.drew (h : Blk w g t cs) : Blk w.drew g t cs := h
theorem Blk.drewN (h : Blk w g t cs) (n : Nat) : Blk (w.drewN n) g t cs := h
theorem Blk.alloc (h : Blk w g t cs) (o : Obj) : Blk (w.alloc o) g t cs := (Below.heap_alloc w o g h.lt).trans h
theorem Blk.put (h : Blk w g t cs) (i : Nat) (u : Value) : Blk (w.setCell ⟨g, i, none⟩ u) g t (cs.setIfInBounds i u) := by
  unfold Blk at h ⊢
  simp [World.setCell, Array.getElem?_modify, h]
theorem Blk.far (h : Blk w g t cs) {p : Addr} (hp : g ≠ p.block) (u : Value) : Blk (w.setCell p u) g t cs := (Below.heap_setCell w p u g hp).trans h
theorem Blk.below {B : Nat} (h : Blk w g t cs) (hb : Below B w w') (hg : g < B) : Blk w' g t cs := (hb.block g hg).trans h
theorem Blk.belowAll (h : Blk w g t cs) (hb : Below w.heap.size w w') : Blk w' g t cs := h.below hb h.lt
end

/-- Only blocks in S, and what is new, may have turned. -/
structure Sel (S : Nat → Prop) (w w' : World) : Prop where
  os : w'.os = w.os
  tape : w'.tape = w.tape
  output : w'.output = w.output
  size : w.heap.size ≤ w'.heap.size
  block : ∀ k, k < w.heap.size → ¬ S k → w'.heap[k]? = w.heap[k]?
section
variable {S : Nat → Prop} {a w : World}
theorem Sel.refl (S : Nat → Prop) (w : World) : Sel S w w := ⟨rfl, rfl, rfl, Nat.le_refl _, fun _ _ _ => rfl⟩
theorem Sel.drew (h : Sel S a w) : Sel S a w.drew := ⟨h.os, h.tape, h.output, h.size, h.block⟩
theorem Sel.drewN (h : Sel S a w) (n : Nat) : Sel S a (w.drewN n) := ⟨h.os, h.tape, h.output, h.size, h.block⟩
theorem Sel.alloc (h : Sel S a w) (o : Obj) : Sel S a (w.alloc o) :=
  ⟨h.os, h.tape, h.output, Nat.le_trans h.size (by simp), fun i hi hne => (Below.heap_alloc w o i (Nat.lt_of_lt_of_le hi h.size)).trans (h.block i hi hne)⟩
theorem Sel.put (h : Sel S a w) (g i : Nat) (u : Value) (hp : S g ∨ a.heap.size ≤ g) : Sel S a (w.setCell ⟨g, i, none⟩ u) :=
  ⟨h.os, h.tape, h.output, by simpa [World.setCell] using h.size, fun k hk hne => (Below.heap_setCell w ⟨g, i, none⟩ u k (by
    show k ≠ g
    rintro rfl
    rcases hp with hp | hp
    · exact hne hp
    · omega)).trans (h.block k hk hne)⟩
theorem Sel.trans {b c : World} (h : Sel S a b) (k : Sel S b c) : Sel S a c :=
  ⟨k.os.trans h.os, k.tape.trans h.tape, k.output.trans h.output, Nat.le_trans h.size k.size, fun i hi hne => (k.block i (Nat.lt_of_lt_of_le hi h.size) hne).trans (h.block i hi hne)⟩
theorem Sel.mono {T : Nat → Prop} (h : Sel S a w) (hT : ∀ k, k < a.heap.size → S k → T k) : Sel T a w :=
  ⟨h.os, h.tape, h.output, h.size, fun k hk hne => h.block k hk fun hs => hne (hT k hk hs)⟩
theorem Sel.below {B : Nat} (h : Sel S a w) (hB : ∀ k, k < B → ¬ S k) (hB' : B ≤ a.heap.size) : Below B a w :=
  ⟨h.os, h.tape, h.output, h.size, fun k hk => h.block k (by omega) (hB k hk)⟩
theorem Sel.ofBelow {B : Nat} (h : Below B a w) (hS : ∀ k, B ≤ k → k < a.heap.size → S k) : Sel S a w :=
  ⟨h.os, h.tape, h.output, h.size, fun i hi hne => h.block i (by
    rcases Nat.lt_or_ge i B with hlt | hge
    · exact hlt
    · exact absurd (hS i hge hi) hne)⟩
theorem Blk.sel {g : Nat} {t : TypeId} {cs : Array Value} (h : Blk a g t cs) (hs : Sel S a w) (hg : ¬ S g) : Blk w g t cs := (hs.block g h.lt hg).trans h
end

theorem bcell {W w1 : World} (hb : Below W.heap.size W w1) : (∀ b o, b < W.heap.size → w1.cell? ⟨b, o, none⟩ = W.cell? ⟨b, o, none⟩) ∧ (∀ b o, b < W.heap.size → w1.frozen? ⟨b, o, none⟩ = W.frozen? ⟨b, o, none⟩) :=
  ⟨fun b o h => hb.cell (p := ⟨b, o, none⟩) h, fun b o h => hb.frozen (p := ⟨b, o, none⟩) h⟩
/-- What a region that calls and loads holds on to: old memory, and one block that it reads. -/
theorem held_first {B : Nat} {w W : World} {g : Nat} {t : TypeId} {C : Array Value} (h : Below B w W) (hb : Blk W g t C) : Below B w W.drew ∧ ∀ i, W.drew.cell? ⟨g, i, none⟩ = C[i]? := ⟨h.drew, fun i => hb.cell i⟩
theorem held_next {B : Nat} {w W w1 : World} {g : Nat} {C : Array Value} (hb : Below W.heap.size W w1) (h : Below B w W ∧ ∀ i, W.cell? ⟨g, i, none⟩ = C[i]?) (hB : B ≤ w.heap.size) (h0 : C[0]?.isSome = true) :
    Below B w w1 ∧ ∀ i, w1.cell? ⟨g, i, none⟩ = C[i]? := by
  refine ⟨h.1.trans (hb.mono (Nat.le_trans hB h.1.size)), fun i => ?_⟩
  have hlt : g < W.heap.size := by
    have h1 := h.2 0
    rw [Option.isSome_iff_exists] at h0
    obtain ⟨v, hv⟩ := h0
    exact World.block_lt_of_cell? W ⟨g, 0, none⟩ (h1.trans hv)
  exact (hb.cell (p := ⟨g, i, none⟩) hlt).trans (h.2 i)
theorem below_after {B : Nat} {w W w1 : World} (h0 : Below B w W) (hB : B ≤ W.heap.size) (hb : Below W.heap.size W w1) : Below B w w1 := h0.trans (hb.mono hB)
end Go.Proofs.Ythclmpbgehkgeaa
