/-
  Operations that turn what the call owns in a region that draws its order. No condition of its own.
-/
import Derived.Test.YtjpfebgpcokenaaDoorSeg
set_option linter.unusedSimpArgs false
set_option linter.unusedVariables false
namespace Go.Proofs.YtjpfebgpcokenaaDoor
open Go.RowKit

section
variable {P : Program} {r : Option Nat} {n : Nat} {E E' : List (Nat × Value)} {C : Ctx} {H : List Res} {Q : Exit → Act → World → Prop} {K : Act → World → Prop} {ops : Array Oper} {rest : List Oper}
variable {dst : Option Tmp} {ty : TypeId} {pos : String} {after : Array Edge} {g : Option (Nat × Bool)} {x y z : Operand} {t xT yT : TypeId}

/-- From here on memory as it stands is what does not turn; what is owned is of that memory. -/
theorem at_reW (h : ∀ w, Own C H w → (∀ k ∈ bls H, k < w.heap.size) → At n E (C.re w H) H K) : At n E C H K := at_re fun w hw => h w hw hw.lt
/-- append of m elements: the old row stays what it is. -/
theorem run_append_keep {w : World} {e sz by' m k c : Nat} {v : Value} {A : Addr} {xs news : List Value} (hT : appT P t e sz by' = true) (ho : w.ownsRow 0 e sz v m xs)
    (hl : news.length = k * sz) (hn : ∀ j u, news[j]? = some u → w.cell? (A.add j) = some u) (h1 : ∀ u ∈ news, u.oneCell' = true) (hb : m + k ≤ maxLen ∧ (m + k) * by' ≤ 140737488355328) :
    ∃ v' w', (Builtin.append_ #[t, t] ty #[v, .slice (some A) k c]).run P w = .ok v' w' ∧ w'.ownsRow 0 e sz v' (m + k) (xs ++ news) ∧ w'.ownsRow 0 e sz v m xs ∧ Frm w (fun b => b ∈ (Res.row v e sz m xs).blocks) w' := by
  obtain ⟨hu, i', z, q1, q2, q3, q4, q5, q6⟩ := appT_spec hT
  obtain ⟨v', w', hr, h2, h3, h4⟩ := run_append_own (P := P) w 0 t ty e i' z sz by' hu q1 q5 q2 q3 q6 q4 v m xs ho A k c news hl hn h1 hb.1 hb.2 (Nat.zero_le _)
  refine ⟨v', w', hr, h2, ?_, frm_grown h3⟩
  rcases ho.2 with ⟨rfl, rfl⟩ | ⟨g0, cap, cur, rfl, hbg, hg, hmc, hcm, hsz, htake⟩
  · have : xs = [] := by simpa using ho.1
    subst this
    exact World.ownsRow_nil w' 0 e sz
  · by_cases hroom : m + k ≤ cap
    · obtain ⟨w3, hr3, h5, _⟩ := run_append_fits (P := P) w 0 t ty e i' sz hu q1 q2 g0 m cap xs ho A k c news hl hn h1 hroom
      rw [hr] at hr3
      cases hr3
      rcases h5.2 with ⟨h0, _⟩ | ⟨g', cap', cur', heq, _, hg', _, _, hsz', htake'⟩
      · cases h0
      · simp only [Value.slice.injEq, Option.some.injEq, Addr.mk.injEq, and_true, true_and] at heq
        obtain ⟨rfl, rfl⟩ := heq
        refine ⟨ho.1, .inr ⟨g0, cap, cur', rfl, hbg, hg', hmc, hcm, hsz', ?_⟩⟩
        have := congrArg (List.take (m * sz)) htake'
        rw [List.take_take, Nat.min_eq_left (Nat.mul_le_mul_right _ (by omega)), List.take_append_of_le_length (by rw [ho.1]; exact Nat.le_refl _)] at this
        rw [this]
        exact List.take_of_length_le (by rw [ho.1]; exact Nat.le_refl _)
    · have hr3 := run_append_grow (P := P) w t ty e i' z hu q1 q5 ⟨g0, 0, none⟩ m cap xs (by rw [q2]; exact ho.1) (ho.cells (g := g0) rfl) A k c news (by rw [q2]; exact hl) hn (by omega) (by have := hb.1; simp only [maxLen] at this; omega) (growslice_fits (by omega) (by rw [q3]; exact hb.2))
      rw [hr] at hr3
      cases hr3
      have hlt : g0 < w.heap.size := (Array.getElem?_eq_some_iff.1 hg).1
      have hbl : ∀ o : Obj, Below w.heap.size w (w.drew.alloc o) := fun o => Below.alloc (Below.drew (Below.refl _ _)) (Nat.le_refl _) o
      exact ⟨ho.1, .inr ⟨g0, cap, cur, rfl, hbg, ((hbl _).block g0 hlt).trans hg, hmc, hcm, hsz, htake⟩⟩
/-- What is known of a value, where old memory turns. -/
def Spec.old (b : Nat) : Spec → Prop
  | .val _ => True
  | .rel Φ => ∀ v w w', Φ v w → Frm w (fun k => k < b) w' → Φ v w'
theorem Spec.keepOld {b : Nat} {s : Spec} (h : s.old b) {v : Value} {w w' : World} (hf : Frm w (fun k => k < b) w') (hv : s.ok v w) : s.ok v w' := by
  cases s with
  | val u => exact hv
  | rel Φ => exact h v w w' hv hf
def olds (b i : Nat) : Nat → List Spec → Prop
  | _, [] => True
  | j, s :: S => (Nat.beq j i = true ∨ s.old b) ∧ olds b i (j + 1) S
theorem olds_get {b i : Nat} : ∀ {S : List Spec} {j : Nat}, olds b i j S → ∀ q, j + q ≠ i → (spec S q).old b
  | [], _, _, q, _ => by simp [spec, Spec.old]
  | s :: S, j, h, 0, hq => h.1.resolve_left (fun hb => hq (by have := Nat.eq_of_beq_eq_true hb; omega))
  | s :: S, j, h, q + 1, hq => by
    have := olds_get h.2 q (by omega)
    simpa [spec] using this
/-- A row of such elements. -/
def RowV (e sz m : Nat) (xs : List Value) (v : Value) (w : World) : Prop := w.ownsRow 0 e sz v m xs
theorem rowV_stab (e sz m : Nat) (xs : List Value) : (Spec.rel (RowV e sz m xs)).stab := fun v w w' h hb =>
  ok_same (r := .row v e sz m xs) h hb.size fun k hk => hb.block k (ok_lt (r := .row v e sz m xs) h k hk)
/-- A new slice over a block that holds just these cells. -/
def LitsN (b e len : Nat) (cs : List Value) (v : Value) (w : World) : Prop := ∃ h, b ≤ h ∧ v = .slice (some ⟨h, 0, none⟩) len len ∧ w.heap[h]? = some (.cells cs.toArray e)
theorem litsN_stab (b e len : Nat) (cs : List Value) : (Spec.rel (LitsN b e len cs)).stab := fun v w w' ⟨h, h0, h1, h2⟩ hb =>
  ⟨h, h0, h1, (hb.block h (Array.getElem?_eq_some_iff.1 h2).1).trans h2⟩
theorem litsN_old (b e len : Nat) (cs : List Value) : (Spec.rel (LitsN b e len cs)).old b := fun v w w' ⟨h, h0, h1, h2⟩ hf =>
  ⟨h, h0, h1, (hf.old h (Array.getElem?_eq_some_iff.1 h2).1 (by omega)).trans h2⟩
theorem step1_buildSliceN {X : World → Prop} {d : Option Tmp} {e sz : Nat} {ps : List (Nat × Operand)} {vs cs : List Value} {len : Nat} (hT : sliceOf P t e sz = true) (hp : pairsOf E 0 ps = some vs) (hl : Nat.beq vs.length len = true) (hv : (vs.all fun v => Nat.beq v.cells.size sz) = true) (hb : Nat.ble (len * sz) 16777216 = true) (hcs : vs.flatMap (fun v : Value => v.cells.toList) = cs) :
    Step1 P n E C H X ⟨d, .buildSlice t len ps.toArray, ty, pos, after, none⟩ (.rel (LitsN C.w.heap.size e len cs)) := step1_run fun a w hf ho _ =>
  ⟨_, _, exec_buildSlice hf hT hp hl hv hb, Below.alloc (Below.refl _ _) (Nat.le_refl _) _, w.heap.size, ho.base.size, rfl, by rw [← hcs]; exact heap_alloc_new w _⟩
theorem _root_.List.set_eq_of_getElem? {α : Type} {l : List α} {i : Nat} {a : α} (h : l[i]? = some a) : l.set i a = l := by
  obtain ⟨hlt, h2⟩ := List.getElem?_eq_some_iff.1 h
  rw [← h2]
  exact List.set_getElem_self hlt
/-- append to a row that the call owns, of elements that lie somewhere. -/
theorem stepT_append {X : World → Prop} {S : List Spec} {q i e sz by' m k : Nat} {v : Value} {xs news : List Value} (hS : spec S q = .rel (RowV e sz (m + k) (xs ++ news))) (hT : appT P t e sz by' = true) (hx : ev E x = some v) (hi : H[i]? = some (.row v e sz m xs))
    (hy : ∀ w, Own C H w → X w → ∃ A c, ev E y = some (.slice (some A) k c) ∧ ∀ j u, news[j]? = some u → w.cell? (A.add j) = some u)
    (hl : news.length = k * sz) (h1 : ∀ u ∈ news, u.oneCell' = true) (hb : m + k ≤ maxLen ∧ (m + k) * by' ≤ 140737488355328) (hold : ∀ b ∈ bls H, b < C.w.heap.size) (hoth : olds C.w.heap.size q 0 S) :
    StepT P n E C H X ops S q ⟨dst, .call ⟨.builtin .append, #[x, y], #[t, t]⟩, ty, pos, after, none⟩ := by
  intro a w hf ho hX
  obtain ⟨A, c, hy', hn⟩ := hy w ho hX
  obtain ⟨v', w', hr, h2, h3, h4⟩ := run_append_keep (P := P) (ty := ty) (c := c) hT (ho.rowAt hi) hl hn h1 hb
  have hsub : ∀ b ∈ (Res.row v e sz m xs).blocks, b ∈ bls H := fun b hb' => mem_bls.2 ⟨_, List.mem_of_getElem? hi, hb'⟩
  refine .inl ⟨v', w', ?_, ?_, ?_, by rw [hS]; exact h2⟩
  · have hm : (#[x, y] : Array Operand).map a.eval = #[v, .slice (some A) k c] := by simp [hf.eval hx, hf.eval hy']
    simp only [execOp, resolve, hm]
    simp only [invoke, builtin, Sem.run_bind, Sem.run_pure, Result.andThen_ok, hr]
  · have := ho.swap (q' := .row v e sz m xs) hi h4 h3 (fun b hb' => .inl hb')
    rwa [show H.set i (.row v e sz m xs) = H from List.set_eq_of_getElem? hi] at this
  · intro j hj _ u hu
    exact Spec.keepOld (olds_get hoth j (by omega)) (h4.mono fun b _ hb' => hold b (hsub b hb')) hu
/-- What is owned may be told in another order. -/
theorem Own.perm {w : World} {H' : List Res} (h : Own C H w) (hp : H'.Perm H) : Own C H' w := by
  have hb : (bls H').Perm (bls H) := hp.flatMap_right _
  exact ⟨h.orig, h.base, fun r hr => h.ok r (hp.mem_iff.1 hr), hb.nodup_iff.2 h.nodup, fun k hk => h.mine k (hb.mem_iff.1 hk), h.sub, h.mark⟩
theorem at_perm {H' : List Res} (hp : H'.Perm H) (k : At n E C H' K) : At n E C H K := at_own rfl (fun w ho => ho.perm hp) k
theorem at_swap01 {a b : Res} {R : List Res} (k : At n E C (b :: a :: R) K) : At n E C (a :: b :: R) K := at_perm (List.Perm.swap ..) k
theorem does_segappend0 {i e by' m : Nat} {v : Value} {xs : List Value} (hT : appT P t e 1 by' = true) (hx : ev E x = some v) (hi : H[i]? = some (.seg v e m xs)) (hy : ev E y = some (.slice none 0 0)) :
    Does P n E C H ⟨dst, .call ⟨.builtin .append, #[x, y], #[t, t]⟩, ty, pos, after, g⟩ v := by
  intro a w hf ho
  obtain ⟨hu, i', z, q1, q2, q3, q4, q5, q6⟩ := appT_spec hT
  have hm : (#[x, y] : Array Operand).map a.eval = #[v, .slice none 0 0] := by simp [hf.eval hx, hf.eval hy]
  simp only [execOp, resolve, hm]
  simp only [invoke, builtin, Sem.run_bind, Sem.run_pure, Result.andThen_ok]
  have : (Builtin.append_ #[t, t] ty #[v, .slice none 0 0]).run P w = .ok v w := by
    rcases (ho.segAt hi).2 with ⟨rfl, rfl⟩ | ⟨gb, o, cap, cur, rfl, _, _, hnc, _⟩
    · simp [Builtin.append_, run_underlying hu, sizeOf, typeInfo, q1, Builtin.lenOf, Builtin.firstCells]
    · simp [Builtin.append_, run_underlying hu, sizeOf, typeInfo, q1, Builtin.lenOf, Builtin.firstCells, hnc, storeCells]
  rw [this]
  rfl
/-- Parts of a slice. -/
theorem sliceSize_spec {k : Nat} (h : sliceSize P t = some k) : ∃ e, P.underlying t = some (.slice e) ∧ ∀ w, (sizeOf e).run P w = .ok k w := by
  unfold sliceSize at h
  split at h
  · rename_i e he; exact ⟨e, he, fun w => run_sizeT h w⟩
  · cases h
theorem does_slice_hi {A : Addr} {m c sz : Nat} {kk : IntKind} {q : Int} (hT : sliceSize P xT = some sz) (hx : ev E x = some (.slice (some A) m c)) (hz : ev E z = some (.int kk q)) (h : 0 ≤ q ∧ q ≤ c) :
    Does P n E C H ⟨dst, .slice xT x none (some z) none, ty, pos, after, g⟩ (.slice (some A) q.toNat c) := by
  intro a w hf ho
  obtain ⟨e, hu, hsize⟩ := sliceSize_spec hT
  have h1 : ¬ q < 0 := by omega
  have h2 : ¬ (c : Int) < q := by omega
  have hadd : A.add 0 = A := by unfold Addr.add; split <;> simp_all
  simp only [execOp, Option.map, hf.eval hx, hf.eval hz]
  simp [go_sem, Instr.sliceAt, Instr.slice, Instr.sliceBounds, Instr.sliceBound, asIntOf, run_underlying hu, hsize, h1, h2, hadd, h.1, h.2]
theorem does_slice_hi0 {sz : Nat} {kk : IntKind} (hT : sliceSize P xT = some sz) (hx : ev E x = some (.slice none 0 0)) (hz : ev E z = some (.int kk 0)) :
    Does P n E C H ⟨dst, .slice xT x none (some z) none, ty, pos, after, g⟩ (.slice none 0 0) := by
  intro a w hf ho
  obtain ⟨e, hu, hsize⟩ := sliceSize_spec hT
  simp only [execOp, Option.map, hf.eval hx, hf.eval hz]
  simp [go_sem, Instr.sliceAt, Instr.slice, Instr.sliceBounds, Instr.sliceBound, asIntOf, run_underlying hu, hsize]
theorem does_slice_lo {A : Addr} {m c sz q : Nat} {kk : IntKind} (hT : sliceSize P xT = some sz) (hx : ev E x = some (.slice (some A) m c)) (hy : ev E y = some (.int kk (q : Int))) (h : q ≤ m ∧ m ≤ c) :
    Does P n E C H ⟨dst, .slice xT x (some y) none none, ty, pos, after, g⟩ (.slice (some (if c = q then A else A.add (q * sz))) (m - q) (c - q)) := by
  intro a w hf ho
  obtain ⟨e, hu, hsize⟩ := sliceSize_spec hT
  have h1 : ¬ (q : Int) < 0 := by omega
  have h2 : ¬ (m : Int) < (q : Int) := by omega
  simp only [execOp, Option.map, hf.eval hx, hf.eval hy]
  by_cases hc : c = q
  · simp [go_sem, Instr.sliceAt, Instr.slice, Instr.sliceBounds, Instr.sliceBound, asIntOf, run_underlying hu, hsize, h1, h2, hc]
    omega
  · simp [go_sem, Instr.sliceAt, Instr.slice, Instr.sliceBounds, Instr.sliceBound, asIntOf, run_underlying hu, hsize, h1, h2, hc]
    omega
theorem does_slice_lo0 {sz : Nat} {kk : IntKind} (hT : sliceSize P xT = some sz) (hx : ev E x = some (.slice none 0 0)) (hy : ev E y = some (.int kk 0)) :
    Does P n E C H ⟨dst, .slice xT x (some y) none none, ty, pos, after, g⟩ (.slice none 0 0) := by
  intro a w hf ho
  obtain ⟨e, hu, hsize⟩ := sliceSize_spec hT
  simp only [execOp, Option.map, hf.eval hx, hf.eval hy]
  simp [go_sem, Instr.sliceAt, Instr.slice, Instr.sliceBounds, Instr.sliceBound, asIntOf, run_underlying hu, hsize]
/-- A pointer held against nil. -/
def isPtr (P : Program) (t : TypeId) : Bool := match P.underlying t with
  | some (.pointer _) => true
  | _ => false
theorem isPtr_spec (h : isPtr P t = true) : ∃ e, P.underlying t = some (.pointer e) := by
  unfold isPtr at h
  split at h
  · rename_i e he; exact ⟨e, he⟩
  · cases h
theorem run_nileq {o : Option Addr} (hT : isPtr P t = true) (w : World) : (Op.equal t (.pointer o) (.pointer none)).run P w = .ok o.isNone w := by
  obtain ⟨e, he⟩ := isPtr_spec hT
  show (Op.equalIn (9999 + 1) t (.pointer o) (.pointer none)).run P w = _
  rw [Op.equalIn]
  cases o with
  | none => simp [go_sem, run_underlying he]
  | some a => simp [go_sem, run_underlying he]
theorem add_add' (A : Addr) (q j : Nat) : (A.add q).add j = A.add (q + j) := by
  unfold Addr.add
  by_cases hq : q = 0
  · subst hq; simp
  · by_cases hj : j = 0
    · subst hj; simp [hq]
    · simp [hq, hj, Nat.add_assoc]
theorem does_nileql {o : Option Addr} (hT : isPtr P xT = true) (hx : ev E x = some (.pointer o)) (hy : ev E y = some (.pointer none)) : Does P n E C H ⟨dst, .binOp .eql xT x y yT, ty, pos, after, g⟩ (.bool o.isNone) := by
  intro a w hf ho
  simp only [execOp, hf.eval hx, hf.eval hy]
  simp [go_sem, eqGuard, binOp, run_nileq hT]
theorem does_nilneq {o : Option Addr} (hT : isPtr P xT = true) (hx : ev E x = some (.pointer o)) (hy : ev E y = some (.pointer none)) : Does P n E C H ⟨dst, .binOp .neq xT x y yT, ty, pos, after, g⟩ (.bool (!o.isNone)) := by
  intro a w hf ho
  simp only [execOp, hf.eval hx, hf.eval hy]
  simp [go_sem, eqGuard, binOp, run_nileq hT]
end
end Go.Proofs.YtjpfebgpcokenaaDoor
