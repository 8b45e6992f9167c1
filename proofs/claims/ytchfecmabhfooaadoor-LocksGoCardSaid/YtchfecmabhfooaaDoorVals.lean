/-
  Slices of elements of one cell that lie somewhere; an append told with what it turns. No condition of its own.
-/
import Derived.Test.YtchfecmabhfooaaDoorTurn
set_option linter.unusedSimpArgs false
set_option linter.unusedVariables false
namespace Go.Proofs.YtchfecmabhfooaaDoor
open Go.RowKit

theorem add_none (gb o j : Nat) : (⟨gb, o, none⟩ : Addr).add j = ⟨gb, o + j, none⟩ := by unfold Addr.add; split <;> simp_all
theorem Below.cellOld {w0 w : World} {p : Addr} {v : Value} (hb : Below w0.heap.size w0 w) (hc : w0.cell? p = some v) : w.cell? p = some v :=
  (World.cell?_of_block (hb.block _ (World.block_lt_of_cell? _ _ hc))).trans hc
/-- These values lie there. -/
def ValsAt (w : World) (arg : Value) (vs : List Value) : Prop := (arg = .slice none 0 0 ∧ vs = []) ∨
  ∃ A c, arg = .slice (some A) vs.length c ∧ vs.length ≤ c ∧ ∀ j u, vs[j]? = some u → w.cell? (A.add j) = some u
theorem ValsAt.keep {w w' : World} {arg : Value} {vs : List Value} (h : ValsAt w arg vs) (hb : Below w.heap.size w w') : ValsAt w' arg vs :=
  h.imp id fun ⟨A, c, h1, h0, h2⟩ => ⟨A, c, h1, h0, fun j u hu => Below.cellOld hb (h2 j u hu)⟩
theorem ValsAt.len {w : World} {arg : Value} {vs : List Value} (h : ValsAt w arg vs) : ∃ A c, arg = .slice A vs.length c := by
  rcases h with ⟨rfl, rfl⟩ | ⟨A, c, rfl, _, _⟩
  · exact ⟨none, 0, rfl⟩
  · exact ⟨_, c, rfl⟩
theorem ValsAt.form {w : World} {arg : Value} {vs : List Value} (h : ValsAt w arg vs) (hne : 0 < vs.length) : ∃ gb o c, arg = .slice (some ⟨gb, o, none⟩) vs.length c ∧ vs.length ≤ c ∧ gb < w.heap.size ∧ ∀ j u, vs[j]? = some u → w.cell? ⟨gb, o + j, none⟩ = some u := by
  rcases h with ⟨_, rfl⟩ | ⟨⟨gb, o, sp⟩, c, rfl, hc, h2⟩
  · simp at hne
  · have h0 := h2 0 _ (List.getElem?_eq_getElem hne)
    have hsp : sp = none := by
      cases sp with
      | none => rfl
      | some s => simp [Addr.add, World.cell?] at h0; split at h0 <;> simp at h0
    subst hsp
    exact ⟨gb, o, c, rfl, hc, World.block_lt_of_cell? _ _ h0, fun j u hu => by rw [← add_none]; exact h2 j u hu⟩
theorem vals_of_row {w : World} {b e m : Nat} {v : Value} {vs : List Value} (h : w.ownsRow b e 1 v m vs) : ValsAt w v vs := by
  have hl : vs.length = m := by simpa using h.1
  rcases h.2 with ⟨rfl, h0⟩ | ⟨g, cap, cur, rfl, h1, hg, h2, h3, h4, h5⟩
  · exact .inl ⟨rfl, List.eq_nil_of_length_eq_zero (by omega)⟩
  · refine .inr ⟨⟨g, 0, none⟩, cap, by rw [hl], by omega, fun j u hu => ?_⟩
    have hj : j < vs.length := (List.getElem?_eq_some_iff.1 hu).1
    rw [add_none, Nat.zero_add, cell_of_row w g j cur e (0, 0) hg]
    rw [← h5, List.getElem?_take] at hu
    split at hu
    · simpa using hu
    · cases hu
theorem Own.oldVals {w0 w b : World} {M F : Nat → Prop} {D : List Nat} {H : List Res} {arg : Value} {vs : List Value} (h : Own ⟨w0, fun _ => False, M, b, F, D⟩ H w) (hB : ValsAt w0 arg vs) : ValsAt w arg vs := hB.keep h.plain
def hiV (q : Nat) : Value → Value
  | .slice A m c => .slice A q c
  | v => v
def loV (q : Nat) : Value → Value
  | .slice A m c => .slice (A.map fun a => if c = q then a else a.add q) (m - q) (c - q)
  | v => v
theorem hi_vals {w : World} {v : Value} {vs : List Value} {q : Nat} (h : ValsAt w v vs) (hq : q ≤ vs.length) : ValsAt w (hiV q v) (vs.take q) := by
  rcases h with ⟨rfl, rfl⟩ | ⟨A, c, rfl, hc, hcell⟩
  · obtain rfl : q = 0 := by simpa using hq
    exact .inl ⟨rfl, rfl⟩
  · refine .inr ⟨A, c, ?_, ?_, fun j u hu => hcell j u ?_⟩
    · rw [List.length_take, Nat.min_eq_left hq]; rfl
    · rw [List.length_take]; omega
    · rw [List.getElem?_take] at hu
      split at hu
      · exact hu
      · cases hu
theorem lo_vals {w : World} {v : Value} {vs : List Value} {q : Nat} (h : ValsAt w v vs) (hq : q ≤ vs.length) : ValsAt w (loV q v) (vs.drop q) := by
  rcases h with ⟨rfl, rfl⟩ | ⟨A, c, rfl, hc, hcell⟩
  · obtain rfl : q = 0 := by simpa using hq
    exact .inl ⟨rfl, rfl⟩
  · refine .inr ⟨if c = q then A else A.add q, c - q, by rw [List.length_drop]; rfl, by rw [List.length_drop]; omega, fun j u hu => ?_⟩
    rw [List.getElem?_drop] at hu
    split
    · have := (List.getElem?_eq_some_iff.1 hu).1
      omega
    · rw [add_add']
      exact hcell _ u hu
section
variable {P : Program} {r : Option Nat} {n : Nat} {E : List (Nat × Value)} {C : Ctx} {H : List Res} {Q : Exit → Act → World → Prop} {ops : Array Oper} {rest : List Oper}
variable {dst : Option Tmp} {ty : TypeId} {pos : String} {after : Array Edge} {g : Option (Nat × Bool)} {x y : Operand} {xT : TypeId}
theorem does_vhi {v : Value} {vs : List Value} {q : Nat} (hT : sliceSize P xT = some 1) (hx : ev E x = some v) (hy : ev E y = some (.int .i64 (q : Int))) (hB : ∀ w, Own C H w → ValsAt w v vs) (hq : q ≤ vs.length) :
    Does P n E C H ⟨dst, .slice xT x none (some y) none, ty, pos, after, g⟩ (hiV q v) := fun a w hf ho => by
  rcases hB w ho with ⟨rfl, rfl⟩ | ⟨A, c, rfl, hc, _⟩
  · obtain rfl : q = 0 := by simpa using hq
    exact does_slice_hi0 hT hx hy a w hf ho
  · exact does_slice_hi hT hx hy ⟨Int.natCast_nonneg _, by omega⟩ a w hf ho
theorem does_vlo {v : Value} {vs : List Value} {q : Nat} (hT : sliceSize P xT = some 1) (hx : ev E x = some v) (hy : ev E y = some (.int .i64 (q : Int))) (hB : ∀ w, Own C H w → ValsAt w v vs) (hq : q ≤ vs.length) :
    Does P n E C H ⟨dst, .slice xT x (some y) none none, ty, pos, after, g⟩ (loV q v) := fun a w hf ho => by
  rcases hB w ho with ⟨rfl, rfl⟩ | ⟨A, c, rfl, hc, _⟩
  · obtain rfl : q = 0 := by simpa using hq
    exact does_slice_lo0 hT hx hy a w hf ho
  · have := does_slice_lo (q := q) (dst := dst) (ty := ty) (pos := pos) (after := after) (g := g) hT hx hy ⟨hq, hc⟩ a w hf ho
    rwa [Nat.mul_one] at this
theorem does_vlen {v : Value} {vs : List Value} {t : TypeId} (hT : sliceElem P t = true) (hx : ev E x = some v) (hB : ∀ w, Own C H w → ValsAt w v vs) : Does P n E C H ⟨dst, .call ⟨.builtin .len, #[x], #[t]⟩, ty, pos, after, g⟩ (.int .i64 (vs.length : Int)) := fun a w hf ho => by
  obtain ⟨A, c, rfl⟩ := (hB w ho).len
  exact does_len hT hx a w hf ho
end

/-! ### An append, and what it turns -/
theorem oneCell_of {v : Value} (h : v.oneCell' = true) : ∀ u ∈ [v], u.oneCell' = true := by
  intro u hu
  obtain rfl : u = v := by simpa using hu
  exact h
/-- What turns of a row that has room: it stands at g, has cap places, and is known up to m. -/
structure Turned (w : World) (e g cap m : Nat) (w' : World) : Prop where
  frm : Frm w (fun k => k = g) w'
  cells : ∃ cur cur' : Array Value, w.heap[g]? = some (.cells cur e) ∧ w'.heap[g]? = some (.cells cur' e) ∧ cur.size = cap ∧ cur'.size = cap ∧ cur'.toList.take m = cur.toList.take m
theorem Turned.row {w w' : World} {e g cap m q b : Nat} {v : Value} {xs : List Value} (h : Turned w e g cap m w') (hq : q ≤ m) (ho : w.ownsRow b e 1 v q xs) : w'.ownsRow b e 1 v q xs := by
  obtain ⟨cur, cur', h1, h2, h3, h4, h5⟩ := h.cells
  refine ⟨ho.1, ho.2.imp id ?_⟩
  rintro ⟨g', cap', c', rfl, hb, hg, hn, hm, hs, ht⟩
  by_cases he : g' = g
  · subst he
    rw [hg] at h1
    cases h1
    refine ⟨g', cap', cur', rfl, hb, h2, hn, hm, by omega, ?_⟩
    rw [Nat.mul_one] at ht ⊢
    have := congrArg (List.take q) h5
    rw [List.take_take, List.take_take, Nat.min_eq_left hq] at this
    rw [this]; exact ht
  · exact ⟨g', cap', c', rfl, hb, (h.frm.old g' (Array.getElem?_eq_some_iff.1 hg).1 he).trans hg, hn, hm, hs, ht⟩
theorem Turned.lits {w w' : World} {e g cap m b len : Nat} {cs : List Value} {v : Value} (h : Turned w e g cap m w') (hne : cs.length ≠ cap) (hl : LitsN b e len cs v w) : LitsN b e len cs v w' := by
  obtain ⟨h', hb, rfl, hh⟩ := hl
  refine ⟨h', hb, rfl, (h.frm.old h' (Array.getElem?_eq_some_iff.1 hh).1 fun he => ?_).trans hh⟩
  subst he
  obtain ⟨cur, cur', h1, _, h3, _⟩ := h.cells
  rw [hh] at h1
  cases h1
  simp at h3
  omega
/-- append of k values to a row: it grows anew, or turns its own spare room. -/
theorem run_append_turn {P : Program} {w : World} {t ty e by' m k b : Nat} {v arg : Value} {xs news : List Value} (hT : appT P t e 1 by' = true) (ho : w.ownsRow b e 1 v m xs) (hbw : b ≤ w.heap.size)
    (ha : ValsAt w arg news) (hl : news.length = k) (h1 : ∀ u ∈ news, u.oneCell' = true) (hb : m + k ≤ maxLen ∧ (m + k) * by' ≤ 140737488355328) :
    ∃ v' w', (Builtin.append_ #[t, t] ty #[v, arg]).run P w = .ok v' w' ∧ w'.ownsRow b e 1 v' (m + k) (xs ++ news) ∧
      ((Below w.heap.size w w' ∧ (k = 0 → v' = v)) ∨ ∃ g cap, v = .slice (some ⟨g, 0, none⟩) m cap ∧ v' = .slice (some ⟨g, 0, none⟩) (m + k) cap ∧ 0 < k ∧ b ≤ g ∧ m + k ≤ cap ∧ Turned w e g cap m w') := by
  obtain ⟨hu, i', z, q1, q2, q3, q4, q5, q6⟩ := appT_spec hT
  have nothing : k = 0 → ∀ A c, arg = .slice (some A) k c → (Builtin.append_ #[t, t] ty #[v, arg]).run P w = .ok v w := by
    rintro rfl A c rfl
    obtain rfl : news = [] := List.eq_nil_of_length_eq_zero hl
    rcases ho.2 with ⟨rfl, rfl⟩ | ⟨g, cap, cur, rfl, _, _, hnc, _⟩
    · simp [Builtin.append_, run_underlying hu, sizeOf, typeInfo, q1, Builtin.lenOf, Builtin.firstCells, loadCells, loadCellsFrom]
    · simp [Builtin.append_, run_underlying hu, sizeOf, typeInfo, q1, Builtin.lenOf, Builtin.firstCells, hnc, storeCells, loadCells, loadCellsFrom]
  rcases ha with ⟨rfl, rfl⟩ | ⟨A, c, rfl, hc, hn⟩
  · obtain rfl : k = 0 := by simpa using hl.symm
    exact ⟨v, w, run_append_owned_none (P := P) w b t ty e i' 1 hu q1 v m xs ho, by simpa using ho, .inl ⟨Below.refl _ _, fun _ => rfl⟩⟩
  · rw [hl] at nothing hc ⊢
    by_cases hk : k = 0
    · obtain rfl : news = [] := List.eq_nil_of_length_eq_zero (by omega)
      refine ⟨v, w, nothing hk A c rfl, by subst hk; simpa using ho, .inl ⟨Below.refl _ _, fun _ => rfl⟩⟩
    · obtain ⟨v', w', hr, h2, h3, h4⟩ := run_append_own (P := P) w b t ty e i' z 1 by' hu q1 q5 q2 q3 q6 q4 v m xs ho A k c news (by simpa using hl) hn h1 hb.1 hb.2 hbw
      rcases ho.2 with ⟨rfl, rfl⟩ | ⟨g0, cap, cur, rfl, hbg, hg, hmc, hcm, hsz, htake⟩
      · refine ⟨v', w', hr, h2, .inl ⟨⟨h3.os, h3.tape, h3.output, h3.size, fun b hb' => h3.block b hb' (by simp [Value.ownBlock])⟩, fun h => absurd h hk⟩⟩
      · by_cases hroom : m + k ≤ cap
        · obtain ⟨w3, hr3, h5, h6⟩ := run_append_fits (P := P) w b t ty e i' 1 hu q1 q2 g0 m cap xs ho A k c news (by simpa using hl) hn h1 hroom
          refine ⟨_, w3, hr3, h5, .inr ⟨g0, cap, rfl, rfl, by omega, hbg, hroom, ?_, ?_⟩⟩
          · exact (frm_grown (v := .slice (some ⟨g0, 0, none⟩) m cap) (e := e) (sz := 1) (m := m) (xs := xs) h6).mono fun k _ hk => by simpa [Res.blocks, Value.ownBlock] using hk
          · rcases h5.2 with ⟨h0, _⟩ | ⟨g', cap', cur', heq, _, hg', _, _, hsz', htake'⟩
            · cases h0
            · simp only [Value.slice.injEq, Option.some.injEq, Addr.mk.injEq, and_true, true_and] at heq
              obtain ⟨rfl, rfl⟩ := heq
              refine ⟨cur, cur', hg, hg', by omega, by omega, ?_⟩
              rw [Nat.mul_one] at htake htake'
              have := congrArg (List.take m) htake'
              have hxl : xs.length = m := by simpa using ho.1
              rw [List.take_take, Nat.min_eq_left (Nat.le_add_right m k), List.take_append_of_le_length (Nat.le_of_eq hxl.symm), List.take_of_length_le (Nat.le_of_eq hxl)] at this
              rw [this, htake]
        · have hr3 := run_append_grow (P := P) w t ty e i' z hu q1 q5 ⟨g0, 0, none⟩ m cap xs (by rw [q2]; exact ho.1) (ho.cells (g := g0) rfl) A k c news (by rw [q2]; simpa using hl) hn (by omega) (by have := hb.1; simp only [maxLen] at this; omega) (growslice_fits (by omega) (by rw [q3]; exact hb.2))
          rw [hr] at hr3
          cases hr3
          exact ⟨_, _, hr, h2, .inl ⟨Below.alloc (Below.drew (Below.refl _ _)) (Nat.le_refl _) _, fun h => absurd h hk⟩⟩
end Go.Proofs.YtchfecmabhfooaaDoor
