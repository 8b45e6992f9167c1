/-
  Slices that the call owns: made, appended to, read, stored into, handed out, taken over. No condition of its own.
-/
import Derived.Test.YtjpfebgpcokenaaDoorAlloc
import Derived.Laws.OwnMore
set_option linter.unusedSimpArgs false
set_option linter.unusedVariables false
namespace Go.Proofs.YtjpfebgpcokenaaDoor
open Go.RowKit

section
variable {P : Program} {r : Option Nat} {n : Nat} {E E' : List (Nat × Value)} {C : Ctx} {H : List Res} {Q : Exit → Act → World → Prop} {K : Act → World → Prop} {ops : Array Oper} {rest : List Oper}
variable {dst : Option Tmp} {ty : TypeId} {pos : String} {after : Array Edge} {g : Option (Nat × Bool)} {x y z : Operand} {t xT yT : TypeId}

theorem blocks_nodup (q : Res) : q.blocks.Nodup := by
  cases q with
  | blk => simp [Res.blocks]
  | row v => simp only [Res.blocks]; cases v.ownBlock <;> simp
  | seg v => simp only [Res.blocks]; cases v.ownBlock <;> simp
/-- One of those that the call owns becomes another. -/
theorem Own.swap {w w' : World} {i : Nat} {q q' : Res} (h : Own C H w) (hi : H[i]? = some q) (hf : Frm w (fun k => k ∈ q.blocks) w') (ok : q'.ok w') (hs : ∀ k ∈ q'.blocks, k ∈ q.blocks ∨ w.heap.size ≤ k) : Own C (H.set i q') w' := by
  have hlt : i < H.length := (List.getElem?_eq_some_iff.1 hi).1
  have hsp : H = H.take i ++ q :: H.drop (i + 1) := by
    rw [← (List.getElem?_eq_some_iff.1 hi).2, List.getElem_cons_drop, List.take_append_drop]
  have hset : H.set i q' = H.take i ++ q' :: H.drop (i + 1) := List.set_eq_take_append_cons_drop.trans (by simp [hlt])
  have hne := Own.split (hsp ▸ h)
  have hmem : ∀ k ∈ q.blocks, k ∈ bls H := fun k hk => mem_bls.2 ⟨q, List.mem_of_getElem? hi, hk⟩
  have hlta : ∀ k ∈ bls H, k < w.heap.size := h.lt
  have hA : ∀ k ∈ bls (H.take i), k ∈ bls H := fun k hk => by rw [hsp, bls_append]; exact List.mem_append_left _ hk
  have hB : ∀ k ∈ bls (H.drop (i + 1)), k ∈ bls H := fun k hk => by rw [hsp, bls_append, bls_cons]; exact List.mem_append_right _ (List.mem_append_right _ hk)
  have hne' : ∀ k ∈ q'.blocks, k ∉ bls (H.take i) ∧ k ∉ bls (H.drop (i + 1)) := fun k hk => by
    rcases hs k hk with h1 | h1
    · exact hne k h1
    · exact ⟨fun h2 => by have := hlta k (hA k h2); omega, fun h2 => by have := hlta k (hB k h2); omega⟩
  have hnd : (bls (H.take i) ++ (q.blocks ++ bls (H.drop (i + 1)))).Nodup := by
    have := h.nodup
    rwa [hsp, bls_append, bls_cons] at this
  refine h.turn (hf.mono (fun k _ hk => hmem k hk)) (fun s hs' => ?_) ?_ (fun k hk => ?_)
  · rw [hset] at hs'
    rcases List.mem_append.1 hs' with hr | hr
    · have hr' : s ∈ H := by rw [hsp]; exact List.mem_append_left _ hr
      exact ok_same (h.ok s hr') hf.size fun k hk => hf.old k (ok_lt (h.ok s hr') k hk) fun e => (hne k e).1 (mem_bls.2 ⟨s, hr, hk⟩)
    · rcases List.mem_cons.1 hr with rfl | hr
      · exact ok
      · have hr' : s ∈ H := by rw [hsp]; exact List.mem_append_right _ (List.mem_cons_of_mem _ hr)
        exact ok_same (h.ok s hr') hf.size fun k hk => hf.old k (ok_lt (h.ok s hr') k hk) fun e => (hne k e).2 (mem_bls.2 ⟨s, hr, hk⟩)
  · rw [hset, bls_append, bls_cons]
    have h1 := List.nodup_append.1 hnd
    have h2 := List.nodup_append.1 h1.2.1
    refine List.nodup_append.2 ⟨h1.1, List.nodup_append.2 ⟨blocks_nodup q', h2.2.1, fun a ha b hb e => (hne' a ha).2 (e ▸ hb)⟩, fun a ha b hb e => ?_⟩
    rcases List.mem_append.1 hb with hb | hb
    · exact (hne' b hb).1 (e ▸ ha)
    · exact h1.2.2 a ha b (List.mem_append_right _ hb) e
  · rw [hset, bls_append, bls_cons] at hk
    rcases List.mem_append.1 hk with hk | hk
    · exact .inl (hA k hk)
    · rcases List.mem_append.1 hk with hk | hk
      · exact (hs k hk).imp (hmem k) id
      · exact .inl (hB k hk)
/-- One more, of what was not there. -/
theorem Own.gain {w w' : World} {q : Res} (h : Own C H w) (hb : Below w.heap.size w w') (ok : q.ok w') (hs : ∀ k ∈ q.blocks, w.heap.size ≤ k) : Own C (q :: H) w' := by
  have h' := h.below hb
  have hn : ∀ k ∈ q.blocks, k ∉ bls H := fun k hk hm => by have := h.lt k hm; have := hs k hk; omega
  refine ⟨h'.orig, h'.base, fun s hs' => ?_, ?_, fun k hk => ?_, h'.sub, h'.mark⟩
  · rcases List.mem_cons.1 hs' with rfl | hs'
    · exact ok
    · exact h'.ok s hs'
  · rw [bls_cons]
    exact List.nodup_append.2 ⟨blocks_nodup q, h.nodup, fun a ha b hb e => hn a ha (e ▸ hb)⟩
  · rw [bls_cons] at hk
    rcases List.mem_append.1 hk with hk | hk
    · exact ⟨.inl (Nat.le_trans h.orig.size (hs k hk)), .inl (Nat.le_trans h.base.size (hs k hk))⟩
    · exact h'.mine k hk
theorem Own.nilrow {w : World} (e sz : Nat) (h : Own C H w) : Own C (.row (.slice none 0 0) e sz 0 [] :: H) w :=
  h.gain (Below.refl _ _) (World.ownsRow_nil w 0 e sz) (by simp [Res.blocks, Value.ownBlock])
theorem at_nilrow (e sz : Nat) (k : At n E C (.row (.slice none 0 0) e sz 0 [] :: H) K) : At n E C H K := at_own rfl (fun w ho => ho.nilrow e sz) k
/-- A literal's block is a row. -/
theorem at_litrow {i h e k : Nat} (sz : Nat) {cs : Array Value} (hi : H[i]? = some (.blk h e cs)) (hs : cs.size = k * sz) (hk : k ≤ maxLen) (kk : At n E C (H.set i (.row (.slice (some ⟨h, 0, none⟩) k k) e sz k cs.toList)) K) : At n E C H K :=
  at_own rfl (fun w ho => ho.swap (q' := .row (.slice (some ⟨h, 0, none⟩) k k) e sz k cs.toList) hi (Frm.refl _ _) (show w.ownsRow 0 e sz _ k _ from ⟨by simpa using hs, .inr ⟨h, k, cs, rfl, Nat.zero_le _, ho.get hi, Nat.le_refl _, hk, hs, List.take_of_length_le (by simp [hs])⟩⟩) (by simp [Res.blocks, Value.ownBlock])) kk
/-- What is known of a row that is not empty. -/
theorem Own.rowAt {w : World} {i e sz m : Nat} {v : Value} {xs : List Value} (h : Own C H w) (hi : H[i]? = some (.row v e sz m xs)) : w.ownsRow 0 e sz v m xs := h.ok _ (List.mem_of_getElem? hi)
theorem row_cases {w : World} {e sz m : Nat} {v : Value} {xs : List Value} {b : Nat} (h : w.ownsRow b e sz v m xs) : xs.length = m * sz ∧ ((v = .slice none 0 0 ∧ m = 0) ∨ ∃ g c, v = .slice (some ⟨g, 0, none⟩) m c) := by
  refine ⟨h.1, h.2.imp id ?_⟩
  rintro ⟨g, cap, cur, h1, _⟩
  exact ⟨g, cap, h1⟩
theorem row_one {w : World} {e sz m : Nat} {v : Value} {xs : List Value} {b : Nat} (h : w.ownsRow b e sz v m xs) : v.oneCell' = true := by
  rcases (row_cases h).2 with ⟨rfl, _⟩ | ⟨g, c, rfl⟩ <;> rfl
theorem at_openrow {i e sz m : Nat} {v : Value} {xs : List Value} (hi : H[i]? = some (.row v e sz m xs)) (k : (xs.length = m * sz ∧ ((v = .slice none 0 0 ∧ m = 0) ∨ ∃ g c, v = .slice (some ⟨g, 0, none⟩) m c)) → At n E C H K) : At n E C H K :=
  fun a w hf hd ho => k (row_cases (ho.rowAt hi)) a w hf hd ho

/-- The closed facts of a slice's type for append. -/
def appT (P : Program) (t e sz by' : Nat) : Bool := match P.underlying t with
  | some (.slice e') => Nat.beq e' e && (match P.info? e with
    | some i => Nat.beq i.size sz && Nat.beq i.bytes by' && Nat.blt 0 sz && (match i.zero with
      | some v => Nat.beq v.cells.size sz
      | none => false)
    | none => false)
  | _ => false
theorem appT_spec {e sz by' : Nat} (h : appT P t e sz by' = true) : P.underlying t = some (.slice e) ∧ ∃ i z, P.info? e = some i ∧ i.size = sz ∧ i.bytes = by' ∧ 0 < sz ∧ i.zero = some z ∧ z.cells.size = sz := by
  unfold appT at h
  split at h
  · rename_i e' hu
    simp only [Bool.and_eq_true] at h
    obtain ⟨h1, h⟩ := h
    have h1 := Nat.eq_of_beq_eq_true h1
    subst h1
    refine ⟨hu, ?_⟩
    split at h
    · rename_i i hi
      simp only [Bool.and_eq_true] at h
      obtain ⟨⟨⟨h1, h2⟩, h3⟩, h⟩ := h
      split at h
      · rename_i v hv
        exact ⟨i, v, hi, Nat.eq_of_beq_eq_true h1, Nat.eq_of_beq_eq_true h2, by simpa using h3, hv, Nat.eq_of_beq_eq_true h⟩
      · cases h
    · cases h
  · cases h
theorem frm_grown {w w' : World} {v : Value} {e sz m : Nat} {xs : List Value} (h : w.grownBy w' v.ownBlock) : Frm w (fun k => k ∈ (Res.row v e sz m xs).blocks) w' :=
  ⟨h.os, h.tape, h.output, h.size, fun k hk hn => h.block k hk (fun e => hn (by simp [Res.blocks, ← e]))⟩
/-- append of m elements that lie somewhere to a row that the call owns. -/
theorem at_append {d i e sz by' m k c : Nat} {v : Value} {A : Addr} {xs news : List Value} (hT : appT P t e sz by' = true) (hx : ev E x = some v) (hi : H[i]? = some (.row v e sz m xs)) (hy : ev E y = some (.slice (some A) k c))
    (hl : news.length = k * sz) (hn : ∀ w, Own C H w → ∀ j u, news[j]? = some u → w.cell? (A.add j) = some u) (h1 : ∀ u ∈ news, u.oneCell' = true) (hb : m + k ≤ maxLen ∧ (m + k) * by' ≤ 140737488355328) (hd : Nat.blt d n = true)
    (kk : ∀ v' : Value, v'.oneCell' = true → At n ((d, v') :: E) C (H.set i (.row v' e sz (m + k) (xs ++ news))) (lwp r P ops Q rest)) :
    At n E C H (lwp r P ops Q (⟨some d, .call ⟨.builtin .append, #[x, y], #[t, t]⟩, ty, pos, after, none⟩ :: rest)) := by
  refine at_op (ι := Value) (fun v' => v') (fun v' => H.set i (.row v' e sz (m + k) (xs ++ news))) ?_ rfl rfl hd (fun v' a w hf hdf ho => kk v' (row_one (ho.rowAt (List.getElem?_set_self (List.getElem?_eq_some_iff.1 hi).1))) a w hf hdf ho)
  intro a w hf ho
  obtain ⟨hu, i', z, q1, q2, q3, q4, q5, q6⟩ := appT_spec hT
  obtain ⟨v', w', hr, h2, h3, h4⟩ := run_append_own (P := P) w 0 t ty e i' z sz by' hu q1 q5 q2 q3 q6 q4 v m xs (ho.rowAt hi) A k c news hl (hn w ho) h1 hb.1 hb.2 (Nat.zero_le _)
  have hown : ∀ b ∈ (Res.row v' e sz (m + k) (xs ++ news)).blocks, b ∈ (Res.row v e sz m xs).blocks ∨ w.heap.size ≤ b := by
    intro b hbb
    rcases Nat.lt_or_ge b w.heap.size with hlt | hge
    · left
      rcases (ho.rowAt hi).2 with ⟨rfl, rfl⟩ | ⟨g0, cap, cur, rfl, hbg, hg, rest0⟩
      · obtain ⟨v2, w2, hr2, h22, _, _⟩ := run_append_own (P := P) w w.heap.size t ty e i' z sz by' hu q1 q5 q2 q3 q6 q4 (.slice none 0 0) 0 xs ⟨(ho.rowAt hi).1, .inl ⟨rfl, rfl⟩⟩ A k c news hl (hn w ho) h1 hb.1 hb.2 (Nat.le_refl _)
        rw [hr] at hr2
        cases hr2
        have := h22.lt b (by simpa [Res.blocks] using hbb)
        omega
      · by_cases hroom : m + k ≤ cap
        · obtain ⟨w3, hr3, _⟩ := run_append_fits (P := P) w 0 t ty e i' sz hu q1 q2 g0 m cap xs (ho.rowAt hi) A k c news hl (hn w ho) h1 hroom
          rw [hr] at hr3
          cases hr3
          simpa [Res.blocks, Value.ownBlock] using hbb
        · have hr3 := run_append_grow (P := P) w t ty e i' z hu q1 q5 ⟨g0, 0, none⟩ m cap xs (by rw [q2]; exact (ho.rowAt hi).1) ((ho.rowAt hi).cells (g := g0) rfl) A k c news (by rw [q2]; exact hl) (hn w ho) (by omega) (by have := hb.1; simp only [maxLen] at this; omega) (growslice_fits (by omega) (by rw [q3]; exact hb.2))
          rw [hr] at hr3
          cases hr3
          simp [Res.blocks, Value.ownBlock] at hbb
          omega
    · exact .inr hge
  refine ⟨v', w', ?_, ho.swap hi (frm_grown h3) h2 hown⟩
  have hm : (#[x, y] : Array Operand).map a.eval = #[v, .slice (some A) k c] := by simp [hf.eval hx, hf.eval hy]
  simp only [execOp, resolve, hm]
  simp only [invoke, builtin, Sem.run_bind, Sem.run_pure, Result.andThen_ok, hr]
/-- append of nothing. -/
theorem does_append0 {i e sz by' m : Nat} {v : Value} {xs : List Value} (hT : appT P t e sz by' = true) (hx : ev E x = some v) (hi : H[i]? = some (.row v e sz m xs)) (hy : ev E y = some (.slice none 0 0)) :
    Does P n E C H ⟨dst, .call ⟨.builtin .append, #[x, y], #[t, t]⟩, ty, pos, after, g⟩ v := by
  intro a w hf ho
  obtain ⟨hu, i', z, q1, q2, q3, q4, q5, q6⟩ := appT_spec hT
  have hm : (#[x, y] : Array Operand).map a.eval = #[v, .slice none 0 0] := by simp [hf.eval hx, hf.eval hy]
  simp only [execOp, resolve, hm]
  simp only [invoke, builtin, Sem.run_bind, Sem.run_pure, Result.andThen_ok, run_append_owned_none (P := P) w 0 t ty e i' sz hu q1 v m xs (ho.rowAt hi)]
theorem lit_cells {w : World} {i h e : Nat} {cs : Array Value} (ho : Own C H w) (hi : H[i]? = some (.blk h e cs)) : ∀ j u, cs.toList[j]? = some u → w.cell? ((⟨h, 0, none⟩ : Addr).add j) = some u := fun j u hu => by
  have hadd : (⟨h, 0, none⟩ : Addr).add j = ⟨h, j, none⟩ := by unfold Addr.add; split <;> simp_all
  rw [hadd, ho.cell hi]
  simpa using hu
/-- make of a row. -/
theorem at_make {d e sz by' m : Nat} {kl kc : IntKind} (zv : List Value) (hT : appT P t e sz by' = true) (hz : ∀ i z, P.info? e = some i → i.zero = some z → (madeCells z.cells (m * sz)).toList = zv) (hx : ev E x = some (.int kl (m : Int))) (hy : ev E y = some (.int kc (m : Int))) (hb : by' * m ≤ 281474976710656 ∧ m ≤ maxLen) (hd : Nat.blt d n = true)
    (kk : ∀ g, At n ((d, .slice (some ⟨g, 0, none⟩) m m) :: E) C (.row (.slice (some ⟨g, 0, none⟩) m m) e sz m zv :: H) (lwp r P ops Q rest)) :
    At n E C H (lwp r P ops Q (⟨some d, .makeSlice t x y, ty, pos, after, none⟩ :: rest)) := by
  refine at_op (ι := Nat) (fun g => .slice (some ⟨g, 0, none⟩) m m) (fun g => .row (.slice (some ⟨g, 0, none⟩) m m) e sz m zv :: H) ?_ rfl rfl hd kk
  intro a w hf ho
  obtain ⟨hu, i', z, q1, q2, q3, q4, q5, q6⟩ := appT_spec hT
  obtain ⟨w', hr, h2, h3⟩ := run_make_full (P := P) w 0 t e i' z sz hu q1 q5 q2 kl kc m (by rw [q3]; exact hb.1) hb.2 (Nat.zero_le _)
  rw [hz i' z q1 q5] at h2
  refine ⟨w.heap.size, w', ?_, ho.gain ⟨h3.os, h3.tape, h3.output, h3.size, fun k hk => h3.block k hk (by simp)⟩ h2 (by simp [Res.blocks, Value.ownBlock])⟩
  simp only [execOp, hf.eval hx, hf.eval hy, Sem.run_bind, hr, Result.andThen]
  rfl
theorem does_rowlen {i e sz m : Nat} {v : Value} {xs : List Value} (hT : sliceElem P t = true) (hx : ev E x = some v) (hi : H[i]? = some (.row v e sz m xs)) : Does P n E C H ⟨dst, .call ⟨.builtin .len, #[x], #[t]⟩, ty, pos, after, g⟩ (.int .i64 (m : Int)) := by
  intro a w hf ho
  rcases (row_cases (ho.rowAt hi)).2 with ⟨rfl, rfl⟩ | ⟨g, c, rfl⟩
  · exact does_len (A := none) (q := 0) (c := 0) hT hx a w hf ho
  · exact does_len (A := some ⟨g, 0, none⟩) (q := m) (c := c) hT hx a w hf ho
/-- The address of an element, in a row that the call owns or not. -/
theorem does_rowload {i e sz m gb c j : Nat} {u : Value} {xs : List Value} (hT : plainT P t = true) (hx : ev E x = some (.pointer (some ⟨gb, j, none⟩))) (hi : H[i]? = some (.row (.slice (some ⟨gb, 0, none⟩) m c) e sz m xs)) (hj : j < m * sz) (hu : xs[j]? = some u) : Does P n E C H ⟨dst, .load t x, ty, pos, after, g⟩ u :=
  does_load_mem hT hx fun w ho => ((ho.rowAt hi).cellAt j hj).trans hu
theorem at_rowstore {i e sz m gb c j : Nat} {u : Value} {xs : List Value} (hT : sizeT P t = some 1) (hx : ev E x = some (.pointer (some ⟨gb, j, none⟩))) (hy : ev E y = some u) (h1 : u.oneCell' = true) (hi : H[i]? = some (.row (.slice (some ⟨gb, 0, none⟩) m c) e sz m xs)) (hj : j < m * sz)
    (k : At n E C (H.set i (.row (.slice (some ⟨gb, 0, none⟩) m c) e sz m (xs.set j u))) (lwp r P ops Q rest)) : At n E C H (lwp r P ops Q (⟨none, .store t x y, ty, pos, after, none⟩ :: rest)) := by
  refine at_skipop (H' := H.set i (.row (.slice (some ⟨gb, 0, none⟩) m c) e sz m (xs.set j u))) ?_ rfl rfl rfl k
  intro a w hf ho
  have hrow := ho.rowAt hi
  have hstored := hrow.stored j u
  refine ⟨w.setCell ⟨gb, j, none⟩ u, ?_, ho.swap hi (frm_grown (v := .slice (some ⟨gb, 0, none⟩) m c) hstored.2) hstored.1 (by simp [Res.blocks, Value.ownBlock])⟩
  have hlen : j < xs.length := by rw [hrow.1]; exact hj
  have hc := hrow.cellAt j hj
  rw [List.getElem?_eq_getElem hlen] at hc
  have hfr := hrow.frozenAt j
  simp only [execOp, hf.eval hx, hf.eval hy]
  have hst : (storeCells ⟨gb, j, none⟩ [u]).run P w = .ok () (w.setCell ⟨gb, j, none⟩ u) := by
    cases u <;> first | (cases h1; done) | simp [storeCells, store, go_sem, hc, hfr, Addr.add, Sem.run]
  have hc1 := cells_one h1
  have hsv : (storeVar t ⟨gb, j, none⟩ u).run P w = .ok () (w.setCell ⟨gb, j, none⟩ u) := by
    simp only [storeVar, hc1]
    simp [Sem.run_bind, run_sizeT hT]
    exact hst
  have hsa : (Instr.storeAt t (.pointer (some ⟨gb, j, none⟩)) u).run P w = .ok () (w.setCell ⟨gb, j, none⟩ u) := hsv
  simp only [Sem.run_bind, hsa, Result.andThen]
  rfl
/-- A callee that hands out a row of its own making. -/
theorem at_callrow {d : Nat} {op : Op} {e sz m : Nat} {xs : List Value} {f : FuncId} {args : Array Value} (he : Enters P n E C H ⟨some d, op, ty, pos, after, none⟩ f args)
    (hc : ∀ w, Own C H w → Calls P f args w fun e' w' => ∃ v, e' = .returned v ∧ Below w.heap.size w w' ∧ w'.ownsRow w.heap.size e sz v m xs) (hn : Op.isDefer op = false) (hd : Nat.blt d n = true)
    (k : ∀ v, At n ((d, v) :: E) C (.row v e sz m xs :: H) (lwp r P ops Q rest)) : At n E C H (lwp r P ops Q (⟨some d, op, ty, pos, after, none⟩ :: rest)) :=
  at_call (ι := Value) (fun v => v) (fun v => .row v e sz m xs :: H) he (fun w ho => (hc w ho).mono fun e' w' ⟨v, h1, h2, h3⟩ => ⟨v, h1, ho.gain h2 ⟨h3.1, h3.2.imp id fun ⟨g, cap, cur, q1, q2, q3⟩ => ⟨g, cap, cur, q1, Nat.zero_le _, q3⟩⟩ (fun k hk => (h3.lt k (by simpa [Res.blocks] using hk)).1)⟩) rfl hn hd k
/-- A callee that hands out a block of its own making. -/
theorem at_callblk {d : Nat} {op : Op} {tb : TypeId} {cs : Array Value} {v : Nat → Value} {f : FuncId} {args : Array Value} (he : Enters P n E C H ⟨some d, op, ty, pos, after, none⟩ f args)
    (hc : ∀ w, Own C H w → Calls P f args w fun e' w' => ∃ h, e' = .returned (v h) ∧ Below w.heap.size w w' ∧ w.heap.size ≤ h ∧ w'.heap[h]? = some (.cells cs tb)) (hn : Op.isDefer op = false) (hd : Nat.blt d n = true)
    (k : ∀ h, At n ((d, v h) :: E) C (.blk h tb cs :: H) (lwp r P ops Q rest)) : At n E C H (lwp r P ops Q (⟨some d, op, ty, pos, after, none⟩ :: rest)) :=
  at_call (ι := Nat) v (fun h => .blk h tb cs :: H) he (fun w ho => (hc w ho).mono fun e' w' ⟨h, h1, h2, h3, h4⟩ => ⟨h, h1, ho.gain h2 h4 (by simpa [Res.blocks] using h3)⟩) rfl hn hd k
/-- What is handed out is of this call's making. -/
theorem Own.rowOut {w0 w b : World} {L F : Nat → Prop} {D : List Nat} {e sz m : Nat} {v : Value} {xs : List Value} (h : Own ⟨w0, L, fun _ => False, b, F, D⟩ H w) (hm : Res.row v e sz m xs ∈ H) : w.ownsRow w0.heap.size e sz v m xs := by
  have h1 := h.ok _ hm
  refine ⟨h1.1, h1.2.imp id ?_⟩
  rintro ⟨g, cap, cur, rfl, _, q⟩
  exact ⟨g, cap, cur, rfl, (h.mine g (mem_bls.2 ⟨_, hm, by simp [Res.blocks, Value.ownBlock]⟩)).1.resolve_right id, q⟩
theorem Own.blkOut {w0 w b : World} {L F : Nat → Prop} {D : List Nat} {h0 : Nat} {tb : TypeId} {cs : Array Value} (h : Own ⟨w0, L, fun _ => False, b, F, D⟩ H w) (hm : Res.blk h0 tb cs ∈ H) : w0.heap.size ≤ h0 ∧ w.heap[h0]? = some (.cells cs tb) :=
  ⟨(h.mine h0 (mem_bls.2 ⟨_, hm, by simp [Res.blocks]⟩)).1.resolve_right id, h.ok _ hm⟩
/-- Some are let go. -/
theorem at_drop {H' : List Res} (hs : H'.Sublist H) (k : At n E C H' K) : At n E C H K := at_own rfl (fun w ho => ho.sublist hs) k
end
end Go.Proofs.YtjpfebgpcokenaaDoor
