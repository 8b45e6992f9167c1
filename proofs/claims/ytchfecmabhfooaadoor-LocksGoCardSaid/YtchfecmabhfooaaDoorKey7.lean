/-
  The plain part of KeyParts: parts joined; what a chain of appends leaves. No condition of its own.
-/
import Derived.Test.YtchfecmabhfooaaDoorKey6
set_option linter.unusedSimpArgs false
set_option linter.unusedVariables false
namespace Go.Proofs.YtchfecmabhfooaaDoor
open Go.RowKit

theorem joinB_nil : joinB [] = [] := rfl
theorem joinB_one (p : List UInt8) : joinB [p] = p := by simp [joinB, Lib.join, List.intercalate]
theorem joinB_cons (p q : List UInt8) (r : List (List UInt8)) : joinB (p :: q :: r) = p ++ [47] ++ joinB (q :: r) := by
  simp [joinB, Lib.join, List.intercalate, List.intersperse]
theorem joinB_snoc : ∀ (L : List (List UInt8)) (x : List UInt8), L ≠ [] → joinB (L ++ [x]) = joinB L ++ [47] ++ x
  | [], _, h => absurd rfl h
  | [p], x, _ => by rw [List.singleton_append, joinB_cons, joinB_one, joinB_one]
  | p :: q :: r, x, _ => by
    have ih := joinB_snoc (q :: r) x (by simp)
    rw [List.cons_append, List.cons_append, joinB_cons, joinB_cons, ← List.cons_append, ih]
    simp
theorem joinB_len : ∀ (L : List (List UInt8)), (∀ x ∈ L, x.length ≤ 60) → (joinB L).length ≤ 61 * L.length
  | [], _ => by simp [joinB_nil]
  | [p], h => by rw [joinB_one]; have := h p (by simp); simp; omega
  | p :: q :: r, h => by
    have ih := joinB_len (q :: r) fun x hx => h x (List.mem_cons_of_mem _ hx)
    have := h p (by simp)
    rw [joinB_cons]
    simp only [List.length_append, List.length_cons, List.length_nil] at ih ⊢
    omega
theorem join_split : ∀ k : List UInt8, joinB (splitB k) = k
  | [] => rfl
  | b :: l => by
    have ih := join_split l
    rw [splitB_cons]
    cases hs : splitB l with
    | nil => exact absurd hs (splitB_ne l)
    | cons q qs =>
      rw [hs] at ih
      split
      · rename_i h
        rw [joinB_cons, ih, h]; rfl
      · cases qs with
        | nil => rw [joinB_one] at ih ⊢; rw [ih]
        | cons r rs => rw [joinB_cons] at ih ⊢; rw [← ih]; simp
/-- The list behind i rounds. -/
def mix (L : List (List UInt8)) (i : Nat) : List (List UInt8) := (L.map (·.take 60)).take i ++ L.drop i
theorem mix_len (L : List (List UInt8)) (i : Nat) (h : i ≤ L.length) : (mix L i).length = L.length := by simp [mix]; omega
theorem mix_take (L : List (List UInt8)) (i : Nat) (h : i ≤ L.length) : (mix L i).take i = (L.map (·.take 60)).take i := by
  unfold mix
  rw [List.take_left' (by simp; omega)]
theorem mix_drop (L : List (List UInt8)) (i : Nat) (h : i ≤ L.length) : (mix L i).drop (i + 1) = L.drop (i + 1) := by
  have e : (mix L i).drop i = L.drop i := by unfold mix; rw [List.drop_left' (by simp; omega)]
  rw [← List.drop_drop, e, List.drop_drop]
theorem mix_get (L : List (List UInt8)) (i : Nat) (h : i < L.length) : (mix L i)[i]? = some L[i] := by
  unfold mix
  rw [List.getElem?_append_right (by simp; omega)]
  simp only [List.length_take, List.length_map, List.getElem?_drop]
  rw [show i + (i - min i L.length) = i by omega, List.getElem?_eq_getElem h]
theorem mix_succ (L : List (List UInt8)) (i : Nat) (h : i < L.length) : mix L (i + 1) = (mix L i).take i ++ [L[i].take 60] ++ (mix L i).drop (i + 1) := by
  rw [mix_take L i (by omega), mix_drop L i (by omega)]
  unfold mix
  rw [List.take_succ_eq_append_getElem (by simpa using h)]
  simp
theorem mix_all (L : List (List UInt8)) : mix L L.length = L.map (·.take 60) := by
  unfold mix
  rw [List.take_of_length_le (by simp), List.drop_length, List.append_nil]

/-! ### The chain of appends -/
section
variable {P : Program} {n : Nat} {E : List (Nat × Value)} {C : Ctx} {H : List Res} {ops : Array Oper}
theorem Own.since {w : World} (h : Own C H w) (hF : ∀ k, ¬ C.F k) : Below C.w.heap.size C.w w := (h.base.mono (G := fun _ => False) fun k _ hk => hF k hk).toBelow
/-- A block that is new and not told of may turn. -/
theorem Own.fresh {w w' : World} {g : Nat} (h : Own C H w) (hf : Frm w (fun k => k = g) w') (h1 : C.W.heap.size ≤ g) (h2 : C.w.heap.size ≤ g) (h3 : g ∉ bls H) (hm : C.marks = []) : Own C H w' :=
  ⟨h.orig.trans hf (fun k hk e => by subst e; omega), h.base.trans hf (fun k hk e => by subst e; omega),
   fun r hr => ok_same (h.ok r hr) hf.size fun k hk => hf.old k (ok_lt (h.ok r hr) k hk) fun e => h3 (mem_bls.2 ⟨r, hr, e ▸ hk⟩), h.nodup, h.mine, h.sub, by rw [hm]; simp⟩
def RowB (b e m : Nat) (xs : List Value) (v : Value) (w : World) : Prop := w.ownsRow b e 1 v m xs
theorem rowB_stab (b e m : Nat) (xs : List Value) : (Spec.rel (RowB b e m xs)).stab := fun v w w' h hb => by
  refine ⟨h.1, h.2.imp id ?_⟩
  rintro ⟨g, cap, cur, h1, h2, hg, h3⟩
  exact ⟨g, cap, cur, h1, h2, (hb.block g (Array.getElem?_eq_some_iff.1 hg).1).trans hg, h3⟩
/-- The first of the chain. -/
def RowF (b e i : Nat) (xs : List Value) (v : Value) (w : World) : Prop := RowB b e i xs v w ∧ (i = 0 → ∃ g, v = .slice (some ⟨g, 0, none⟩) 0 0)
theorem rowF_stab (b e m : Nat) (xs : List Value) : (Spec.rel (RowF b e m xs)).stab := fun v w w' h hb => ⟨rowB_stab b e m xs v w w' h.1 hb, h.2⟩
theorem litsN_vals {w : World} {b e : Nat} {cs : List Value} {v : Value} (h : LitsN b e cs.length cs v w) : ValsAt w v cs := by
  obtain ⟨g, _, rfl, h2⟩ := h
  exact .inr ⟨⟨g, 0, none⟩, cs.length, rfl, Nat.le_refl _, fun j u hu => by rw [add_none, Nat.zero_add, cell_of_row w g j _ e (0, 0) h2]; simpa using hu⟩
theorem append_exec {a : Act} {w w' : World} {dst : Option Tmp} {ty t : TypeId} {pos : String} {after : Array Edge} {g : Option (Nat × Bool)} {x y : Operand} {v arg v' : Value} (hf : Fits n E a) (hx : ev E x = some v) (hy : ev E y = some arg)
    (hr : (Builtin.append_ #[t, t] ty #[v, arg]).run P w = .ok v' w') : (execOp a.eval ⟨dst, .call ⟨.builtin .append, #[x, y], #[t, t]⟩, ty, pos, after, g⟩).run P w = .ok (.value v') w' := by
  have hm : (#[x, y] : Array Operand).map a.eval = #[v, arg] := by simp [hf.eval hx, hf.eval hy]
  simp only [execOp, resolve, hm]
  simp only [invoke, builtin, Sem.run_bind, Sem.run_pure, Result.andThen_ok, hr]
/-- append to a new empty slice. -/
theorem chain_first {X : World → Prop} {d : Option Tmp} {ty t : TypeId} {pos : String} {after : Array Edge} {x y : Operand} {b e by' i : Nat} {u arg : Value} {xs : List Value} (hT : appT P t e 1 by' = true) (hx : ev E x = some u) (hy : ev E y = some arg)
    (hb : b = C.w.heap.size) (hX : ∀ w, X w → LitsN b e 0 [] u w) (hB : ∀ w, Own C H w → ValsAt w arg xs) (hl : xs.length = i) (h1 : ∀ u ∈ xs, u.oneCell' = true) (hi : i ≤ 1000 ∧ by' ≤ 1000) :
    Step1 P n E C H X ⟨d, .call ⟨.builtin .append, #[x, y], #[t, t]⟩, ty, pos, after, none⟩ (.rel (RowF b e i xs)) := step1_run fun a w hf ho hXw => by
  obtain ⟨g, hg, rfl, hh⟩ := hX w hXw
  have hrow : w.ownsRow b e 1 (.slice (some ⟨g, 0, none⟩) 0 0) 0 [] := ⟨rfl, .inr ⟨g, 0, #[], rfl, hg, hh, Nat.le_refl _, Nat.zero_le _, rfl, rfl⟩⟩
  obtain ⟨v', w', hr, h2, h3⟩ := run_append_turn (P := P) (ty := ty) hT hrow (hb ▸ ho.base.size) (hB w ho) hl h1 (by
    have : i * by' ≤ 1000 * 1000 := Nat.mul_le_mul hi.1 hi.2
    simp only [maxLen, Nat.zero_add]; omega)
  rw [Nat.zero_add, List.nil_append] at h2
  refine ⟨v', w', append_exec hf hx hy hr, ?_, h2, ?_⟩
  · rcases h3 with h3 | ⟨g', cap, he, _, hk, _, hroom, _⟩
    · exact h3.1
    · simp only [Value.slice.injEq] at he
      omega
  · intro hi0
    rcases h3 with h3 | ⟨g', cap, he, _, hk, _, hroom, _⟩
    · exact ⟨g, h3.2 hi0⟩
    · omega
/-- append to a new slice. -/
theorem chain_next {X : World → Prop} {S : List Spec} {q : Nat} {d : Option Tmp} {ty t : TypeId} {pos : String} {after : Array Edge} {x y : Operand} {b e by' m k : Nat} {u arg : Value} {xs news : List Value} (hS : spec S q = .rel (RowB b e (m + k) (xs ++ news)))
    (hT : appT P t e 1 by' = true) (hx : ev E x = some u) (hy : ev E y = some arg) (hb : b = C.w.heap.size) (hm : C.marks = []) (hH : H = []) (hWw : C.W.heap.size ≤ C.w.heap.size) (hst : stabs S)
    (hX : ∀ w, X w → RowB b e m xs u w) (h0 : ∀ w g cap, X w → u = .slice (some ⟨g, 0, none⟩) m cap → m = 0 → cap = 0) (hB : ∀ w, Own C H w → X w → ValsAt w arg news) (hl : news.length = k) (h1 : ∀ u ∈ news, u.oneCell' = true) (hi : m ≤ 1000 ∧ k ≤ 1000 ∧ by' ≤ 1000)
    (hoth : ∀ w w' g cap, 2 ≤ cap → Turned w e g cap m w' → Others ops S q w w') :
    StepT P n E C H X ops S q ⟨d, .call ⟨.builtin .append, #[x, y], #[t, t]⟩, ty, pos, after, none⟩ := by
  intro a w hf ho hXw
  obtain ⟨v', w', hr, h2, h3⟩ := run_append_turn (P := P) (ty := ty) hT (hX w hXw) (hb ▸ ho.base.size) (hB w ho hXw) hl h1 (by
    have : (m + k) * by' ≤ 2000 * 1000 := Nat.mul_le_mul (by omega) hi.2.2
    simp only [maxLen]; omega)
  refine .inl ⟨v', w', append_exec hf hx hy hr, ?_, ?_, by rw [hS]; exact h2⟩
  · rcases h3 with h3 | ⟨g', cap, he, _, hk, hbg, hroom, ht⟩
    · exact ho.below h3.1
    · subst hH
      have h4 : C.w.heap.size ≤ g' := hb ▸ hbg
      exact ho.fresh ht.frm (Nat.le_trans hWw h4) h4 (by simp [bls]) hm
  · rcases h3 with h3 | ⟨g', cap, he, _, hk, hbg, hroom, ht⟩
    · exact others_below (stabs_get hst) h3.1
    · refine hoth w w' g' cap ?_ ht
      rcases Nat.eq_zero_or_pos m with hm0 | hm0
      · have := h0 w g' cap hXw he hm0; omega
      · omega
end
end Go.Proofs.YtchfecmabhfooaaDoor
