/-
  A calculus of walks of this seat's own: what is known of a frame stands in a list of slots, what is known of memory in a list of blocks; a step of the code is a lemma on these lists. No condition of its own.
-/
import Derived.WalkKit
import Derived.RegionTactic
import Derived.WalkLawsBesides
import Derived.Deep.Quiet
import Derived.Laws.AppendOwn
import Derived.Laws.OwnMore
import Derived.Below
import Derived.RangeFuncRecord
import Derived.OrdersIn
import Derived.LoopIn
set_option linter.unusedSimpArgs false
set_option linter.unusedVariables false
namespace Go.Proofs.YtjpfebgpcokenaaDoor
open Go.RowKit

/-! ## Frames -/

abbrev Env := List (Nat × Value)
def eget : List (Nat × Value) → Nat → Option Value
  | [], _ => none
  | (s, v) :: E, t => match Nat.beq s t with
    | true => some v
    | false => eget E t
def ev (E : List (Nat × Value)) : Operand → Option Value
  | .tmp t => eget E t
  | .const v => some v
  | .global g => some (.pointer (some ⟨g, 0, none⟩))
  | .func f => some (.func (.func f) #[] #[])
def eput (E : List (Nat × Value)) (d : Option Tmp) (v : Value) : List (Nat × Value) := match d with
  | some t => (t, v) :: E
  | none => E
def inB (n : Nat) : Option Tmp → Bool
  | some t => Nat.blt t n
  | none => true

structure Fits (n : Nat) (E : List (Nat × Value)) (a : Act) : Prop where
  size : a.tmps.size = n
  get : ∀ t v, eget E t = some v → a.tmps[t]? = some v

section
variable {n : Nat} {E E' : List (Nat × Value)} {a : Act}
theorem Fits.eval (h : Fits n E a) {x : Operand} {v : Value} (hx : ev E x = some v) : a.eval x = v := by
  cases x with
  | tmp t => simp [ev] at hx; simp [Act.eval, h.get t v hx]
  | const u => simpa [ev, Act.eval] using hx
  | global g => simpa [ev, Act.eval] using hx
  | func f => simpa [ev, Act.eval] using hx
theorem eget_cons (t s : Nat) (v : Value) (E : List (Nat × Value)) : eget ((s, v) :: E) t = if s = t then some v else eget E t := by
  show (match Nat.beq s t with | true => some v | false => eget E t) = _
  by_cases h : s = t
  · subst h; simp
  · have : Nat.beq s t = false := by
      cases hb : Nat.beq s t
      · rfl
      · exact absurd (Nat.eq_of_beq_eq_true hb) h
    simp [this, h]
theorem Fits.put (h : Fits n E a) {d : Option Tmp} {v : Value} (hd : inB n d = true) : Fits n (eput E d v) (a.put d v) := by
  cases d with
  | none => exact h
  | some d =>
    have hlt : d < n := by simpa [inB, Nat.blt_eq] using hd
    refine ⟨by simp [Act.put, h.size], fun t u hu => ?_⟩
    simp only [eput, eget_cons] at hu
    simp only [Act.put, Array.getElem?_setIfInBounds, h.size]
    split at hu
    · rename_i e; subst e; simp [hlt]; simpa using hu
    · rename_i e; simp [e, h.get t u hu]
/-- Everything that E' says E says too. -/
def ele : List (Nat × Value) → List (Nat × Value) → Prop
  | [], _ => True
  | p :: E', E => eget E p.1 = some p.2 ∧ ele E' E
theorem ele_get : ∀ {E' E : List (Nat × Value)}, ele E' E → ∀ t v, eget E' t = some v → eget E t = some v
  | [], _, _, t, v, h => by simp [eget] at h
  | (s, u) :: E', E, h, t, v, hv => by
    rw [eget_cons] at hv
    split at hv
    · rename_i e; subst e; cases hv; exact h.1
    · exact ele_get h.2 t v hv
theorem Fits.weak (h : Fits n E a) (he : ele E' E) : Fits n E' a := ⟨h.size, fun t v hv => h.get t v (ele_get he t v hv)⟩
end

/-! ## Memory -/

inductive Res where
  | blk (g : Nat) (t : TypeId) (cs : Array Value)
  | row (v : Value) (e : TypeId) (size n : Nat) (xs : List Value)
  | seg (v : Value) (e : TypeId) (n : Nat) (xs : List Value)

def Res.blocks : Res → List Nat
  | .blk g _ _ => [g]
  | .row v _ _ _ _ => v.ownBlock.toList
  | .seg v _ _ _ => v.ownBlock.toList
/-- A slice of elements of one cell, from some place of a block on. -/
def World.ownsSeg (w : World) (base : Nat) (e : TypeId) (v : Value) (n : Nat) (xs : List Value) : Prop :=
  xs.length = n ∧ ((v = .slice none 0 0 ∧ n = 0) ∨
    ∃ g o cap cur, v = .slice (some ⟨g, o, none⟩) n cap ∧ base ≤ g ∧ w.heap[g]? = some (.cells cur e (0, 0)) ∧ n ≤ cap ∧ cap ≤ maxLen ∧ o + cap ≤ cur.size ∧ (cur.toList.drop o).take n = xs)
def Res.ok (w : World) : Res → Prop
  | .blk g t cs => w.heap[g]? = some (.cells cs t)
  | .row v e size n xs => w.ownsRow 0 e size v n xs
  | .seg v e n xs => World.ownsSeg w 0 e v n xs
def bls (H : List Res) : List Nat := H.flatMap Res.blocks

/-- W: the world when the call began; L: its blocks that may have turned; M: those of them that this call may hold; w: the world of which all is known but for the blocks in F; marks: the blocks for the deferred calls of loops over functions. -/
structure Ctx where
  W : World
  L : Nat → Prop
  M : Nat → Prop
  w : World
  F : Nat → Prop
  marks : List Nat

/-- But for the blocks in F nothing of w has turned in w'. -/
structure Frm (w : World) (F : Nat → Prop) (w' : World) : Prop where
  os : w'.os = w.os
  tape : w'.tape = w.tape
  output : w'.output = w.output
  size : w.heap.size ≤ w'.heap.size
  old : ∀ k, k < w.heap.size → ¬ F k → w'.heap[k]? = w.heap[k]?

structure Own (C : Ctx) (H : List Res) (w : World) : Prop where
  orig : Frm C.W C.L w
  base : Frm C.w C.F w
  ok : ∀ r ∈ H, r.ok w
  nodup : (bls H).Nodup
  mine : ∀ k ∈ bls H, (C.W.heap.size ≤ k ∨ C.M k) ∧ (C.w.heap.size ≤ k ∨ C.F k)
  sub : ∀ k, C.M k → C.L k
  mark : C.marks.Nodup ∧ ∀ D ∈ C.marks, C.W.heap.size ≤ D ∧ w.heap[D]? = some (.deferred (some []))

def markOf (D : Nat) : Deferred := { target := .collected D, args := #[] }
def DF (C : Ctx) (a : Act) : Prop := a.defers = C.marks.map markOf
def At (n : Nat) (E : List (Nat × Value)) (C : Ctx) (H : List Res) (K : Act → World → Prop) : Prop := ∀ a w, Fits n E a → DF C a → Own C H w → K a w
theorem DF.put {C : Ctx} {a : Act} (h : DF C a) (d : Option Tmp) (v : Value) : DF C (a.put d v) := by
  cases d <;> exact h

section
variable {w w' : World} {F : Nat → Prop}
theorem Frm.refl (w : World) (F : Nat → Prop) : Frm w F w := ⟨rfl, rfl, rfl, Nat.le_refl _, fun _ _ _ => rfl⟩
theorem Frm.trans {w'' : World} {G : Nat → Prop} (h : Frm w F w') (h' : Frm w' G w'') (hg : ∀ k, k < w.heap.size → G k → F k) : Frm w F w'' :=
  ⟨h'.os.trans h.os, h'.tape.trans h.tape, h'.output.trans h.output, Nat.le_trans h.size h'.size, fun k hk hF =>
    (h'.old k (Nat.lt_of_lt_of_le hk h.size) (fun hG => hF (hg k hk hG))).trans (h.old k hk hF)⟩
theorem Frm.ofBelow {B : Nat} (h : Below B w w') (hB : ∀ k, k < w.heap.size → B ≤ k → F k) : Frm w F w' :=
  ⟨h.os, h.tape, h.output, h.size, fun k hk hF => h.block k (by
    rcases Nat.lt_or_ge k B with h1 | h1
    · exact h1
    · exact absurd (hB k hk h1) hF)⟩
theorem Frm.toBelow (h : Frm w (fun _ => False) w') : Below w.heap.size w w' := ⟨h.os, h.tape, h.output, h.size, fun k hk => h.old k hk (fun h => h)⟩
theorem Frm.mono {G : Nat → Prop} (h : Frm w F w') (hg : ∀ k, k < w.heap.size → F k → G k) : Frm w G w' :=
  ⟨h.os, h.tape, h.output, h.size, fun k hk hG => h.old k hk (fun hF => hG (hg k hk hF))⟩
end

theorem ok_lt {w : World} {r : Res} (h : r.ok w) : ∀ k ∈ r.blocks, k < w.heap.size := by
  intro k hk
  cases r with
  | blk g t cs =>
    simp [Res.blocks] at hk; subst hk
    exact (Array.getElem?_eq_some_iff.1 h).1
  | row v e size n xs =>
    simp [Res.blocks] at hk
    exact (World.ownsRow.lt h k hk).2
  | seg v e n xs =>
    simp [Res.blocks] at hk
    rcases h.2 with ⟨rfl, _⟩ | ⟨g, o, cap, cur, rfl, _, hg, _⟩
    · simp [Value.ownBlock] at hk
    · simp [Value.ownBlock] at hk; subst hk; exact (Array.getElem?_eq_some_iff.1 hg).1
theorem ok_same {w w' : World} {r : Res} (h : r.ok w) (hs : w.heap.size ≤ w'.heap.size) (hb : ∀ k ∈ r.blocks, w'.heap[k]? = w.heap[k]?) : r.ok w' := by
  cases r with
  | blk g t cs => exact (hb g (by simp [Res.blocks])).trans h
  | row v e size n xs =>
    refine ⟨h.1, ?_⟩
    rcases h.2 with hn | ⟨g, cap, cur, rfl, hb', hgg, rest⟩
    · exact .inl hn
    · exact .inr ⟨g, cap, cur, rfl, hb', (hb g (by simp [Res.blocks, Value.ownBlock])).trans hgg, rest⟩
  | seg v e n xs =>
    refine ⟨h.1, ?_⟩
    rcases h.2 with hn | ⟨g, o, cap, cur, rfl, hb', hgg, rest⟩
    · exact .inl hn
    · exact .inr ⟨g, o, cap, cur, rfl, hb', (hb g (by simp [Res.blocks, Value.ownBlock])).trans hgg, rest⟩
theorem mem_bls {H : List Res} {k : Nat} : k ∈ bls H ↔ ∃ r ∈ H, k ∈ r.blocks := by simp [bls, List.mem_flatMap]

section
variable {C : Ctx} {H : List Res} {w w' : World}
theorem Own.lt (h : Own C H w) : ∀ k ∈ bls H, k < w.heap.size := by
  intro k hk
  obtain ⟨r, hr, hk⟩ := mem_bls.1 hk
  exact ok_lt (h.ok r hr) k hk
/-- What turns nothing that is there. -/
theorem Own.below (h : Own C H w) (hb : Below w.heap.size w w') : Own C H w' :=
  ⟨h.orig.trans (G := fun _ => False) (Frm.ofBelow hb (fun k hk hB => by omega)) (fun _ _ h => h.elim),
   h.base.trans (G := fun _ => False) (Frm.ofBelow hb (fun k hk hB => by omega)) (fun _ _ h => h.elim),
   fun r hr => ok_same (h.ok r hr) hb.size (fun k hk => hb.block k (ok_lt (h.ok r hr) k hk)), h.nodup, h.mine, h.sub,
   h.mark.1, fun D hD => ⟨(h.mark.2 D hD).1, (hb.block D (Array.getElem?_eq_some_iff.1 (h.mark.2 D hD).2).1).trans (h.mark.2 D hD).2⟩⟩
theorem ok_cells {r : Res} (h : r.ok w) : ∀ k ∈ r.blocks, ∃ cs t, w.heap[k]? = some (.cells cs t (0, 0)) := by
  intro k hk
  cases r with
  | blk g t cs => simp [Res.blocks] at hk; subst hk; exact ⟨cs, t, h⟩
  | row v e size n xs =>
    simp [Res.blocks] at hk
    rcases h.2 with ⟨rfl, _⟩ | ⟨g, cap, cur, rfl, _, hg, _⟩
    · simp [Value.ownBlock] at hk
    · simp [Value.ownBlock] at hk; subst hk; exact ⟨cur, e, hg⟩
  | seg v e n xs =>
    simp [Res.blocks] at hk
    rcases h.2 with ⟨rfl, _⟩ | ⟨g, o, cap, cur, rfl, _, hg, _⟩
    · simp [Value.ownBlock] at hk
    · simp [Value.ownBlock] at hk; subst hk; exact ⟨cur, e, hg⟩
theorem Own.notMark (h : Own C H w) {D : Nat} (hD : D ∈ C.marks) : D ∉ bls H := fun hb => by
  obtain ⟨r, hr, hk⟩ := mem_bls.1 hb
  obtain ⟨cs, t, hc⟩ := ok_cells (h.ok r hr) D hk
  rw [(h.mark.2 D hD).2] at hc
  cases hc
theorem Own.drew (h : Own C H w) : Own C H w.drew := h.below (Below.drew (Below.refl _ _))
theorem Own.alloc (h : Own C H w) (o : Obj) : Own C H (w.alloc o) := h.below (Below.alloc (Below.refl _ _) (Nat.le_refl _) o)
/-- What turns blocks of H's alone. -/
theorem Own.turn {H' : List Res} (h : Own C H w) (hf : Frm w (fun k => k ∈ bls H) w') (ok : ∀ r ∈ H', r.ok w') (nd : (bls H').Nodup) (hs : ∀ k ∈ bls H', k ∈ bls H ∨ w.heap.size ≤ k) : Own C H' w' :=
  ⟨h.orig.trans hf (fun k hk hk' => (h.mine k hk').1.elim (fun h1 => absurd h1 (by omega)) (h.sub k)),
   h.base.trans hf (fun k hk hk' => (h.mine k hk').2.elim (fun h1 => absurd h1 (by omega)) id), ok, nd, fun k hk => by
    rcases hs k hk with h1 | h1
    · exact h.mine k h1
    · exact ⟨.inl (Nat.le_trans h.orig.size h1), .inl (Nat.le_trans h.base.size h1)⟩, h.sub,
   h.mark.1, fun D hD => ⟨(h.mark.2 D hD).1, (hf.old D (Array.getElem?_eq_some_iff.1 (h.mark.2 D hD).2).1 (h.notMark hD)).trans (h.mark.2 D hD).2⟩⟩
theorem Own.new (h : Own C H w) (cs : Array Value) (t : TypeId) : Own C (.blk w.heap.size t cs :: H) (w.alloc (.cells cs t)) := by
  have h1 := h.alloc (.cells cs t)
  have hn : w.heap.size ∉ bls H := fun hm => by have := h.lt _ hm; omega
  refine ⟨h1.orig, h1.base, ?_, ?_, ?_, h1.sub, h1.mark⟩
  · intro r hr
    rcases List.mem_cons.1 hr with rfl | hr
    · exact heap_alloc_new w _
    · exact h1.ok r hr
  · show (w.heap.size :: bls H).Nodup
    exact List.nodup_cons.2 ⟨hn, h.nodup⟩
  · intro k hk
    rcases List.mem_cons.1 (show k ∈ w.heap.size :: bls H from hk) with rfl | hk
    · exact ⟨.inl h.orig.size, .inl h.base.size⟩
    · exact h.mine k hk
theorem Own.blk (h : Own C H w) {g : Nat} {t : TypeId} {cs : Array Value} (hm : Res.blk g t cs ∈ H) : w.heap[g]? = some (.cells cs t) := h.ok _ hm
theorem Own.get (h : Own C H w) {i : Nat} {g : Nat} {t : TypeId} {cs : Array Value} (hi : H[i]? = some (.blk g t cs)) : w.heap[g]? = some (.cells cs t) := h.ok _ (List.mem_of_getElem? hi)
theorem Own.cell (h : Own C H w) {i : Nat} {g : Nat} {t : TypeId} {cs : Array Value} (hi : H[i]? = some (.blk g t cs)) (j : Nat) : w.cell? ⟨g, j, none⟩ = cs[j]? := cell_of_row w g j cs t (0, 0) (h.get hi)
theorem Own.free (h : Own C H w) {i : Nat} {g : Nat} {t : TypeId} {cs : Array Value} (hi : H[i]? = some (.blk g t cs)) (j : Nat) : w.frozen? ⟨g, j, none⟩ = false := by
  have := h.get hi
  simp [World.frozen?, this]
theorem bls_append (A B : List Res) : bls (A ++ B) = bls A ++ bls B := by simp [bls]
theorem bls_cons (r : Res) (B : List Res) : bls (r :: B) = r.blocks ++ bls B := by simp [bls]
theorem Own.split {A B : List Res} {r : Res} (h : Own C (A ++ r :: B) w) : (∀ k ∈ r.blocks, k ∉ bls A ∧ k ∉ bls B) := by
  have := h.nodup
  rw [bls_append, bls_cons] at this
  intro k hk
  constructor
  · intro hA
    exact (List.nodup_append.1 this).2.2 _ hA _ (List.mem_append_left _ hk) rfl
  · intro hB
    exact (List.nodup_append.1 (List.nodup_append.1 this).2.1).2.2 _ hk _ hB rfl
theorem Own.put (h : Own C H w) {i : Nat} {g : Nat} {t : TypeId} {cs : Array Value} (hi : H[i]? = some (.blk g t cs)) (j : Nat) (u : Value) :
    Own C (H.set i (.blk g t (cs.setIfInBounds j u))) (w.setCell ⟨g, j, none⟩ u) := by
  have hlt : i < H.length := (List.getElem?_eq_some_iff.1 hi).1
  have hsp : H = H.take i ++ .blk g t cs :: H.drop (i + 1) := by
    rw [← (List.getElem?_eq_some_iff.1 hi).2, List.getElem_cons_drop, List.take_append_drop]
  have hset : H.set i (.blk g t (cs.setIfInBounds j u)) = H.take i ++ .blk g t (cs.setIfInBounds j u) :: H.drop (i + 1) := List.set_eq_take_append_cons_drop.trans (by simp [hlt])
  have hb : bls (H.set i (.blk g t (cs.setIfInBounds j u))) = bls H := by
    rw [hset]
    conv => rhs; rw [hsp]
    simp [bls_append, bls_cons, Res.blocks]
  have hne := Own.split (hsp ▸ h) g (by simp [Res.blocks])
  have hg : g ∈ bls H := mem_bls.2 ⟨_, List.mem_of_getElem? hi, by simp [Res.blocks]⟩
  have hfar : ∀ k, k ≠ g → (w.setCell ⟨g, j, none⟩ u).heap[k]? = w.heap[k]? := fun k hk => Below.heap_setCell w _ u k hk
  refine h.turn ⟨rfl, rfl, rfl, by simp [World.setCell], fun k hk hn => hfar k (fun e => hn (e ▸ hg))⟩ ?_ (hb ▸ h.nodup) (fun k hk => .inl (hb ▸ hk))
  intro r hr
  rw [hset] at hr
  rcases List.mem_append.1 hr with hr | hr
  · exact ok_same (h.ok r (by rw [hsp]; exact List.mem_append_left _ hr)) (by simp [World.setCell]) fun k hk => hfar k fun e => hne.1 (mem_bls.2 ⟨r, hr, e ▸ hk⟩)
  · rcases List.mem_cons.1 hr with rfl | hr
    · have := h.get hi
      show (w.setCell ⟨g, j, none⟩ u).heap[g]? = _
      simp [World.setCell, Array.getElem?_modify, this]
    · exact ok_same (h.ok r (by rw [hsp]; exact List.mem_append_right _ (List.mem_cons_of_mem _ hr))) (by simp [World.setCell]) fun k hk => hfar k fun e => hne.2 (mem_bls.2 ⟨r, hr, e ▸ hk⟩)
end
end Go.Proofs.YtjpfebgpcokenaaDoor
