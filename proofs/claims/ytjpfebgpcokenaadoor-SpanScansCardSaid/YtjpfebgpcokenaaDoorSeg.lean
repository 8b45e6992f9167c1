/-
  Slices that begin at some place of a block: appended to, cut at their head, read. No condition of its own.
-/
import Derived.Test.YtjpfebgpcokenaaDoorBuild
import Derived.ArgAppend
import Derived.Deep.Upon
set_option linter.unusedSimpArgs false
set_option linter.unusedVariables false
namespace Go.Proofs.YtjpfebgpcokenaaDoor
open Go.RowKit

section
variable {P : Program} {r : Option Nat} {n : Nat} {E E' : List (Nat × Value)} {C : Ctx} {H : List Res} {Q : Exit → Act → World → Prop} {K : Act → World → Prop} {ops : Array Oper} {rest : List Oper}
variable {dst : Option Tmp} {ty : TypeId} {pos : String} {after : Array Edge} {g : Option (Nat × Bool)} {x y z : Operand} {t xT yT : TypeId}

theorem setCells_heap (b : Nat) : ∀ (vs : List Value) (o : Nat) (w : World) (cur : Array Value) (e : TypeId), w.heap[b]? = some (.cells cur e (0, 0)) → o + vs.length ≤ cur.size →
    (w.setCells b o vs).heap[b]? = some (.cells (cur.toList.take o ++ vs ++ cur.toList.drop (o + vs.length)).toArray e (0, 0))
  | [], o, w, cur, e, h, hl => by simp [World.setCells, h]
  | v :: vs, o, w, cur, e, h, hl => by
    simp only [List.length_cons] at hl
    have h1 : (w.setCell ⟨b, o, none⟩ v).heap[b]? = some (.cells (cur.setIfInBounds o v) e (0, 0)) := heap_setCell_same w b o cur e v h
    have ih := setCells_heap b vs (o + 1) (w.setCell ⟨b, o, none⟩ v) (cur.setIfInBounds o v) e h1 (by simp; omega)
    show ((w.setCell ⟨b, o, none⟩ v).setCells b (o + 1) vs).heap[b]? = _
    rw [ih]
    congr 2
    have hlt : o < cur.toList.length := by simp; omega
    have e0 : (cur.setIfInBounds o v).toList = cur.toList.set o v := by simp
    rw [e0, List.set_eq_take_append_cons_drop, if_pos hlt]
    have h2 : (cur.toList.take o).length = o := by simp; omega
    rw [List.take_append, h2, List.drop_append, h2]
    have e2 : o + 1 - o = 1 := by omega
    have e3 : o + 1 + vs.length - o = vs.length + 1 := by omega
    rw [e2, e3, List.take_of_length_le (by omega), List.drop_of_length_le (by omega : (cur.toList.take o).length ≤ o + 1 + vs.length)]
    simp
    rw [show o + 1 + vs.length = o + (vs.length + 1) by omega]
theorem tape_setCells (b : Nat) : ∀ (vs : List Value) (o : Nat) (w : World), (w.setCells b o vs).tape = w.tape
  | [], _, _ => rfl
  | v :: vs, o, w => (tape_setCells b vs (o + 1) _).trans rfl
theorem size_setCells' (b : Nat) : ∀ (vs : List Value) (o : Nat) (w : World), (w.setCells b o vs).heap.size = w.heap.size
  | [], _, _ => rfl
  | v :: vs, o, w => (size_setCells' b vs (o + 1) _).trans (by simp [World.setCell])
theorem seg_cells {w : World} {b : Nat} {e : TypeId} {m c gb o : Nat} {xs : List Value} (h : World.ownsSeg w b e (.slice (some ⟨gb, o, none⟩) m c) m xs) : ∀ j u, xs[j]? = some u → w.cell? ⟨gb, o + j, none⟩ = some u := by
  intro j u hu
  rcases h.2 with ⟨h', _⟩ | ⟨g', o', cap, cur, h', _, hg, _, _, hsz, htake⟩
  · cases h'
  · simp only [Value.slice.injEq, Option.some.injEq, Addr.mk.injEq, and_true, true_and] at h'
    obtain ⟨⟨rfl, rfl⟩, rfl⟩ := h'
    rw [cell_of_row w gb (o + j) cur e (0, 0) hg]
    rw [← htake, List.getElem?_take] at hu
    split at hu
    · rw [List.getElem?_drop] at hu; simpa using hu
    · cases hu
theorem seg_cases {w : World} {b : Nat} {e : TypeId} {m : Nat} {v : Value} {xs : List Value} (h : World.ownsSeg w b e v m xs) : xs.length = m ∧ ((v = .slice none 0 0 ∧ m = 0) ∨ ∃ gb o c, v = .slice (some ⟨gb, o, none⟩) m c) :=
  ⟨h.1, h.2.imp id fun ⟨gb, o, cap, cur, h1, _⟩ => ⟨gb, o, cap, h1⟩⟩
theorem Own.segAt {w : World} {i e m : Nat} {v : Value} {xs : List Value} (h : Own C H w) (hi : H[i]? = some (.seg v e m xs)) : World.ownsSeg w 0 e v m xs := h.ok _ (List.mem_of_getElem? hi)
theorem seg_of_row {w : World} {b e m : Nat} {v : Value} {xs : List Value} (h : w.ownsRow b e 1 v m xs) : World.ownsSeg w b e v m xs := by
  refine ⟨by simpa using h.1, h.2.imp id ?_⟩
  rintro ⟨gb, cap, cur, h1, h2, h3, h4, h5, h6, h7⟩
  exact ⟨gb, 0, cap, cur, h1, h2, h3, h4, h5, by omega, by simpa using h7⟩
theorem run_append_seg {w : World} {e by' m k c : Nat} {v : Value} {A : Addr} {xs news : List Value} (hT : appT P t e 1 by' = true) (ho : World.ownsSeg w 0 e v m xs)
    (hl : news.length = k) (hn : ∀ j u, news[j]? = some u → w.cell? (A.add j) = some u) (h1 : ∀ u ∈ news, u.oneCell' = true) (hb : m + k ≤ maxLen ∧ (m + k) * by' ≤ 140737488355328) :
    ∃ v' w', (Builtin.append_ #[t, t] ty #[v, .slice (some A) k c]).run P w = .ok v' w' ∧ World.ownsSeg w' 0 e v' (m + k) (xs ++ news) ∧ Frm w (fun b => b ∈ (Res.seg v e m xs).blocks) w' ∧
      (∀ b ∈ (Res.seg v' e (m + k) (xs ++ news)).blocks, b ∈ (Res.seg v e m xs).blocks ∨ w.heap.size ≤ b) := by
  obtain ⟨hu, i', z, q1, q2, q3, q4, q5, q6⟩ := appT_spec hT
  rcases ho.2 with ⟨rfl, rfl⟩ | ⟨gb, o, cap, cur, rfl, _, hg, hnc, hcm, hsz, htake⟩
  · have hx : xs = [] := List.eq_nil_of_length_eq_zero ho.1
    subst hx
    obtain ⟨v', w', hr, h2, h3, h4⟩ := run_append_own (P := P) w w.heap.size t ty e i' z 1 by' hu q1 q5 q2 q3 q6 q4 (.slice none 0 0) 0 [] (World.ownsRow_nil w _ e 1) A k c news (by simpa using hl) hn h1 hb.1 hb.2 (Nat.le_refl _)
    refine ⟨v', w', hr, ?_, ⟨h3.os, h3.tape, h3.output, h3.size, fun b hb' _ => h3.block b hb' (by simp [Value.ownBlock])⟩, fun b hb' => .inr (h2.lt b (by simpa [Res.blocks] using hb')).1⟩
    have := seg_of_row h2
    exact ⟨this.1, this.2.imp id fun ⟨gb, o, cap, cur, p1, _, p3⟩ => ⟨gb, o, cap, cur, p1, Nat.zero_le _, p3⟩⟩
  · by_cases hroom : m + k ≤ cap
    · have hcur : ∀ j, j < cur.size → w.cell? ⟨gb, j, none⟩ = some (cur.getD j undef) := fun j hj => by
        rw [cell_of_row w gb j cur e (0, 0) hg]; simp [Array.getElem?_eq_getElem hj]
      have hr := run_append_room_cells (P := P) w t ty e i' hu q1 gb o m cap A k c news (by rw [q2]; simpa using hl) hn h1 hroom
        (fun j hj => by rw [q2, Nat.mul_one, hcur (o + m + j) (by omega)]; rfl) (fun j hj => by rw [q2]; exact frozen_of_row w gb _ cur e hg)
      rw [q2, Nat.mul_one] at hr
      have hh := setCells_heap gb news (o + m) w cur e hg (by omega)
      refine ⟨_, _, hr, ⟨by simp [ho.1, hl], .inr ⟨gb, o, cap, _, rfl, Nat.zero_le _, hh, by omega, hcm, ?_, ?_⟩⟩, ⟨World.os_setCells .., ?_, World.output_setCells .., ?_, ?_⟩, fun b hb' => .inl (by simpa [Res.blocks, Value.ownBlock] using hb')⟩
      · simp; omega
      · have hto : (cur.toList.take (o + m)).length = o + m := by simp; omega
        have hdr : (cur.toList.take (o + m)).drop o = xs := by
          rw [List.drop_take, show o + m - o = m by omega]; exact htake
        rw [List.append_assoc, List.drop_append_of_le_length (by omega), hdr, ← List.append_assoc]
        exact List.take_left' (by simp [ho.1, hl])
      · exact tape_setCells ..
      · rw [size_setCells']; exact Nat.le_refl _
      · intro b hb' hnb
        exact World.heap_setCells_other w gb _ _ hb' (fun e' => hnb (by simp [Res.blocks, Value.ownBlock, e']))
    · obtain ⟨v', w', hr, h2, h3⟩ := run_append_arg_grows (P := P) w t ty e i' z 1 by' hu q1 q5 q2 q3 q6 q4 ⟨gb, o, none⟩ m cap xs (by simpa using ho.1) (fun j u hu' => by
          have hadd : (⟨gb, o, none⟩ : Addr).add j = ⟨gb, o + j, none⟩ := by unfold Addr.add; split <;> simp_all
          rw [hadd]; exact seg_cells ho j u hu') A k c news (by simpa using hl) hn (by omega) hb.1 hb.2
      refine ⟨v', w', hr, ?_, ⟨h3.os, h3.tape, h3.output, h3.size, fun b hb' _ => h3.block b hb' (by simp)⟩, fun b hb' => .inr (h2.lt b (by simpa [Res.blocks] using hb')).1⟩
      have := seg_of_row h2
      exact ⟨this.1, this.2.imp id fun ⟨gb, o, cap, cur, p1, _, p3⟩ => ⟨gb, o, cap, cur, p1, Nat.zero_le _, p3⟩⟩
theorem seg_one {w : World} {e m : Nat} {v : Value} {xs : List Value} {b : Nat} (h : World.ownsSeg w b e v m xs) : v.oneCell' = true := by
  rcases (seg_cases h).2 with ⟨rfl, _⟩ | ⟨g, o, c, rfl⟩ <;> rfl
theorem Own.nilseg {w : World} (e : Nat) (h : Own C H w) : Own C (.seg (.slice none 0 0) e 0 [] :: H) w :=
  h.gain (Below.refl _ _) (show World.ownsSeg w 0 e _ 0 [] from ⟨rfl, .inl ⟨rfl, rfl⟩⟩) (by simp [Res.blocks, Value.ownBlock])
theorem at_nilseg (e : Nat) (k : At n E C (.seg (.slice none 0 0) e 0 [] :: H) K) : At n E C H K := at_own rfl (fun w ho => ho.nilseg e) k
theorem at_openseg {i e m : Nat} {v : Value} {xs : List Value} (hi : H[i]? = some (.seg v e m xs)) (k : (xs.length = m ∧ ((v = .slice none 0 0 ∧ m = 0) ∨ ∃ gb o c, v = .slice (some ⟨gb, o, none⟩) m c)) → At n E C H K) : At n E C H K :=
  fun a w hf hd ho => k (seg_cases (ho.segAt hi)) a w hf hd ho
theorem at_segappend {d i e by' m k c : Nat} {v : Value} {A : Addr} {xs news : List Value} (hT : appT P t e 1 by' = true) (hx : ev E x = some v) (hi : H[i]? = some (.seg v e m xs)) (hy : ev E y = some (.slice (some A) k c))
    (hl : news.length = k) (hn : ∀ w, Own C H w → ∀ j u, news[j]? = some u → w.cell? (A.add j) = some u) (h1 : ∀ u ∈ news, u.oneCell' = true) (hb : m + k ≤ maxLen ∧ (m + k) * by' ≤ 140737488355328) (hd : Nat.blt d n = true)
    (kk : ∀ v' : Value, v'.oneCell' = true → At n ((d, v') :: E) C (H.set i (.seg v' e (m + k) (xs ++ news))) (lwp r P ops Q rest)) :
    At n E C H (lwp r P ops Q (⟨some d, .call ⟨.builtin .append, #[x, y], #[t, t]⟩, ty, pos, after, none⟩ :: rest)) := by
  refine at_op (ι := Value) (fun v' => v') (fun v' => H.set i (.seg v' e (m + k) (xs ++ news))) ?_ rfl rfl hd (fun v' a w hf hdf ho => kk v' (seg_one (ho.segAt (List.getElem?_set_self (List.getElem?_eq_some_iff.1 hi).1))) a w hf hdf ho)
  intro a w hf ho
  obtain ⟨v', w', hr, h2, h3, h4⟩ := run_append_seg (P := P) (ty := ty) (c := c) hT (ho.segAt hi) hl (hn w ho) h1 hb
  refine ⟨v', w', ?_, ho.swap hi h3 h2 h4⟩
  have hm : (#[x, y] : Array Operand).map a.eval = #[v, .slice (some A) k c] := by simp [hf.eval hx, hf.eval hy]
  simp only [execOp, resolve, hm]
  simp only [invoke, builtin, Sem.run_bind, Sem.run_pure, Result.andThen_ok, hr]
theorem does_seglen {i e m : Nat} {v : Value} {xs : List Value} (hT : sliceElem P t = true) (hx : ev E x = some v) (hi : H[i]? = some (.seg v e m xs)) : Does P n E C H ⟨dst, .call ⟨.builtin .len, #[x], #[t]⟩, ty, pos, after, g⟩ (.int .i64 (m : Int)) := by
  intro a w hf ho
  rcases (seg_cases (ho.segAt hi)).2 with ⟨rfl, rfl⟩ | ⟨gb, o, c, rfl⟩
  · exact does_len (A := none) (q := 0) (c := 0) hT hx a w hf ho
  · exact does_len (A := some ⟨gb, o, none⟩) (q := m) (c := c) hT hx a w hf ho
theorem does_segload {i e m gb o c j : Nat} {u : Value} {xs : List Value} (hT : plainT P t = true) (hx : ev E x = some (.pointer (some ⟨gb, o + j, none⟩))) (hi : H[i]? = some (.seg (.slice (some ⟨gb, o, none⟩) m c) e m xs)) (hu : xs[j]? = some u) : Does P n E C H ⟨dst, .load t x, ty, pos, after, g⟩ u :=
  does_load_mem hT hx fun w ho => seg_cells (ho.segAt hi) j u hu
/-- Cut at its head. -/
theorem at_segcut {d i e m q : Nat} {k0 : IntKind} {v : Value} {xs : List Value} (hT : appT P t e 1 1 = true) (hx : ev E x = some v) (hi : H[i]? = some (.seg v e m xs)) (hy : ev E y = some (.int k0 (q : Int))) (hq : 0 < q ∧ q ≤ m) (hd : Nat.blt d n = true)
    (kk : ∀ v' : Value, v'.oneCell' = true → At n ((d, v') :: E) C (H.set i (.seg v' e (m - q) (xs.drop q))) (lwp r P ops Q rest)) :
    At n E C H (lwp r P ops Q (⟨some d, .slice t x (some y) none none, ty, pos, after, none⟩ :: rest)) := by
  refine at_op (ι := Value) (fun v' => v') (fun v' => H.set i (.seg v' e (m - q) (xs.drop q))) ?_ rfl rfl hd (fun v' a w hf hdf ho => kk v' (seg_one (ho.segAt (List.getElem?_set_self (List.getElem?_eq_some_iff.1 hi).1))) a w hf hdf ho)
  intro a w hf ho
  obtain ⟨hu, i', z, q1, q2, q3, q4, q5, q6⟩ := appT_spec hT
  have hs := ho.segAt hi
  rcases hs.2 with ⟨rfl, rfl⟩ | ⟨gb, o, cap, cur, rfl, _, hg, hnc, hcm, hsz, htake⟩
  · omega
  · have hsize : (sizeOf e).run P w = .ok 1 w := by simp [sizeOf, typeInfo, go_sem, q1, q2]
    have n1 : ¬ ((q : Int) < 0) := by omega
    have n2 : ¬ ((m : Int) < (q : Int)) := by omega
    refine ⟨.slice (some (if cap = q then ⟨gb, o, none⟩ else ⟨gb, o + q, none⟩)) (m - q) (cap - q), w, ?_, ho.swap hi (Frm.refl _ _) ?_ ?_⟩
    · simp only [execOp, Option.map, hf.eval hx, hf.eval hy]
      have hadd : (⟨gb, o, none⟩ : Addr).add (q * 1) = ⟨gb, o + q, none⟩ := by unfold Addr.add; split <;> simp_all
      by_cases hc : cap = q
      · simp [go_sem, Instr.sliceAt, Instr.slice, Instr.sliceBounds, Instr.sliceBound, asIntOf, run_underlying hu, hsize, n1, n2, hc]
        omega
      · simp [go_sem, Instr.sliceAt, Instr.slice, Instr.sliceBounds, Instr.sliceBound, asIntOf, run_underlying hu, hsize, n1, n2, hc]
        intro hh
        omega
    · by_cases hc : cap = q
      · rw [if_pos hc]
        exact ⟨by simp [hs.1], .inr ⟨gb, o, cap - q, cur, rfl, Nat.zero_le _, hg, by omega, by omega, by omega, by rw [show m - q = 0 by omega]; simp; rw [← htake]; simp; omega⟩⟩
      · rw [if_neg hc]
        exact ⟨by simp [hs.1], .inr ⟨gb, o + q, cap - q, cur, rfl, Nat.zero_le _, hg, by omega, by omega, by omega, by rw [← htake, List.drop_take, List.drop_drop, Nat.add_comm]⟩⟩
    · intro b hb
      left
      split at hb <;> simpa [Res.blocks, Value.ownBlock] using hb
end
end Go.Proofs.YtjpfebgpcokenaaDoor
