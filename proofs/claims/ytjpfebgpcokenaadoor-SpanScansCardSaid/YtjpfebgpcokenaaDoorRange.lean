/-
  Loops over functions in the calculus of walks: an iterator's contract, a call of yield, the loop that ranges over it, a return behind such loops. No condition of its own.
-/
import Derived.Test.YtjpfebgpcokenaaDoorRow
import Derived.RangeFuncIn
import Derived.RangeFuncSeq
set_option linter.unusedSimpArgs false
set_option linter.unusedVariables false
namespace Go.Proofs.YtjpfebgpcokenaaDoor
open Go.RowKit

abbrev yv (l : Nat) : Value := .func (.yield l) #[] #[]
/-- The iterator gf, with lb captured, called in world w, hands these values to its yield in turn, as long as that says true; what the rounds may turn of w is in G. -/
def SeqC (P : Program) (gf : FuncId) (lb xs : List Value) (G : Nat → Prop) (w : World) : Prop :=
  ∀ (l : Nat) (J : Nat → World → Prop) (Jx : World → Prop), (∀ i W, J i W → Frm w G W) → (∀ W, Jx W → Frm w G W) →
    (∀ i W W', J i W → Below W.heap.size W W' → J i W') → (∀ W W', Jx W → Below W.heap.size W W' → Jx W') →
    (∀ i x W, xs[i]? = some x → J i W → YieldAt (fe none) 0 P l #[x] W (fun e W' => (e = .returned (.bool true) ∧ J (i + 1) W') ∨ (e = .returned (.bool false) ∧ Jx W'))) →
    J 0 w → Calls P gf (yv l :: lb).toArray w (fun e w' => (∃ v, e = .returned v) ∧ (J xs.length w' ∨ Jx w'))

/-- An iterator's frame: it owns nothing; what its rounds may turn is in G; all is known of world W. -/
def itC (w0 : World) (G : Nat → Prop) (W : World) : Ctx := ⟨w0, G, fun _ => False, W, fun k => k ∈ bls [], []⟩
theorem itC_own {w0 W : World} {G : Nat → Prop} (h : Frm w0 G W) : Own (itC w0 G W) [] W :=
  ⟨h, Frm.refl _ _, by simp, by simp [bls], by simp [bls], fun _ h => h.elim, by simp [itC]⟩
theorem Own.it {w0 W w : World} {G : Nat → Prop} (h : Own (itC w0 G W) [] w) : Below W.heap.size W w :=
  ⟨h.base.os, h.base.tape, h.base.output, h.base.size, fun k hk => h.base.old k hk (by simp [itC, bls])⟩

section
variable {P : Program} {r : Option Nat} {n : Nat} {E E' : List (Nat × Value)} {C : Ctx} {H : List Res} {Q : Exit → Act → World → Prop} {K : Act → World → Prop} {ops : Array Oper} {rest : List Oper}

theorem calls_it {f : FuncId} {fn : Func} {c : Code} {args : List Value} {w : World} {R : Ending → World → Prop} (G : Nat → Prop) (hf : P.funcs[f]? = some fn) (hb : fn.body = some c) (hn : fn.ntmps = n)
    (hl : Nat.ble args.length n = true) (h : At n (argEnv args 0) (itC w G w) [] (cwp none P c (fin P fn R))) : Calls P f args.toArray w R := by
  have hl' : args.length ≤ n := by simpa using hl
  refine callsIn_fe.1 (callsIn_of_wp_marks (F := fe none) (n := 0) hf hb trivial (h _ _ ⟨by simp [hn]; omega, fun t v hv => ?_⟩ rfl (itC_own (Frm.refl _ _))))
  obtain ⟨_, h2⟩ := argEnv_get args 0 t v hv
  have hlt : t < args.length := by simpa using (List.getElem?_eq_some_iff.1 h2).1
  simp [Array.getElem?_append, hlt]
  simpa [List.getElem?_eq_getElem hlt] using h2

theorem at_yield {w0 W : World} {G : Nat → Prop} {J : Nat → World → Prop} {Jx : World → Prop} {i d l : Nat} {c y : Operand} {x : Value} {ty : TypeId} {pos : String} {after : Array Edge} {aT : Array TypeId}
    (hc : ev E c = some (yv l)) (hx : ev E y = some x) (hd : Nat.blt d n = true) (hJf : ∀ i W, J i W → Frm w0 G W) (hxf : ∀ W, Jx W → Frm w0 G W) (hst : ∀ i W W', J i W → Below W.heap.size W W' → J i W') (hJ : J i W)
    (hY : ∀ W, J i W → YieldAt (fe none) 0 P l #[x] W (fun e W' => (e = .returned (.bool true) ∧ J (i + 1) W') ∨ (e = .returned (.bool false) ∧ Jx W')))
    (on : ∀ W', J (i + 1) W' → At n ((d, .bool true) :: E) (itC w0 G W') [] (lwp none P ops Q rest))
    (off : ∀ W', Jx W' → At n ((d, .bool false) :: E) (itC w0 G W') [] (lwp none P ops Q rest)) :
    At n E (itC w0 G W) [] (lwp none P ops Q (⟨some d, .call ⟨.value c, #[y], aT⟩, ty, pos, after, none⟩ :: rest)) := by
  intro a w hf hdf ho
  refine lwp_plain rfl rfl ?_
  have hj : J i w := hst i W w hJ ho.it
  obtain ⟨fn, tmps, assign, body, hrun, hround⟩ := hY w hj
  have hexec : (execOp a.eval ⟨some d, .call ⟨.value c, #[y], aT⟩, ty, pos, after, none⟩).run P w = .ok (.round l fn tmps assign body) w := by
    have hm : (#[y] : Array Operand).map a.eval = #[x] := by simp [hf.eval hx]
    simp only [execOp, resolve, hm, hf.eval hc]
    simp [Deferred.ofValue, invoke, go_sem, hrun]
  rw [hexec, Oper.uponIn_round]
  refine ⟨fun h => by simp [fe, Fence.wide] at h, hround.mono ?_⟩
  rintro e W' (⟨rfl, hj'⟩ | ⟨rfl, hx'⟩)
  · exact on W' hj' _ _ (hf.put (d := some d) hd) (hdf.put _ _) (itC_own (hJf _ _ hj'))
  · exact off W' hx' _ _ (hf.put (d := some d) hd) (hdf.put _ _) (itC_own (hxf _ hx'))

/-- A loop of an iterator. -/
theorem at_itloop {σ : Type} {w0 W : World} {G : Nat → Prop} {J : Nat → World → Prop} {c : Code} (hJf : ∀ i W, J i W → Frm w0 G W) (hst : ∀ i W W', J i W → Below W.heap.size W W' → J i W')
    (ix : σ → Nat) (I : σ → Prop) (E' : σ → List (Nat × Value)) (μ : σ → Nat) (s0 : σ) (hi : I s0) (hJ : J (ix s0) W) (he : ele (E' s0) E)
    (round : ∀ s W, I s → J (ix s) W → At n (E' s) (itC w0 G W) [] (cwp none P c (Exit.then (Again n (fun p : σ × World => I p.1 ∧ J (ix p.1) p.2) (fun p => E' p.1) (fun p => itC w0 G p.2) (fun _ => []) (fun p => μ p.1) (μ s)) Q))) :
    At n E (itC w0 G W) [] (cwp none P (Code.loop c) Q) :=
  at_loop (fun p : σ × World => I p.1 ∧ J (ix p.1) p.2) (fun p => E' p.1) (fun p => itC w0 G p.2) (fun _ => []) (fun p => μ p.1)
    (fun w ho => ⟨(s0, w), ⟨hi, hst _ _ _ hJ ho.it⟩, he, rfl, itC_own (hJf _ _ (hst _ _ _ hJ ho.it))⟩) (fun p hp => round p.1 p.2 hp.1 hp.2)
theorem at_itagain {σ : Type} {w0 W : World} {G : Nat → Prop} {J : Nat → World → Prop} (hJf : ∀ i W, J i W → Frm w0 G W) (hst : ∀ i W W', J i W → Below W.heap.size W W' → J i W')
    {ix : σ → Nat} {I : σ → Prop} {E' : σ → List (Nat × Value)} {μ : σ → Nat} {m : Nat} (s : σ) (hi : I s) (hJ : J (ix s) W) (hm : μ s < m) (he : ele (E' s) E) :
    At n E (itC w0 G W) [] (Again n (fun p : σ × World => I p.1 ∧ J (ix p.1) p.2) (fun p => E' p.1) (fun p => itC w0 G p.2) (fun _ => []) (fun p => μ p.1) m) :=
  at_againw fun w ho => ⟨(s, w), ⟨hi, hst _ _ _ hJ ho.it⟩, hm, he, rfl, itC_own (hJf _ _ (hst _ _ _ hJ ho.it))⟩

/-! ### The loop that ranges over a function -/
def InR (W : World) (B : Nat → Prop) (H : List Res) (w : World) : Prop := ∃ b F, Own ⟨W, B, B, b, F, []⟩ H w
/-- How a round may end. -/
def RQ {σ : Type} (W : World) (B : Nat → Prop) (I : σ → Prop) (H' : σ → List Res) (Ix : Code → σ → Prop) (Hx : Code → σ → List Res) : Exit → Act → World → Prop
  | .normal, _, w => ∃ s, I s ∧ InR W B (H' s) w
  | .ret, _, w => ∃ s, Ix .ret s ∧ InR W B (Hx .ret s) w
  | .exit id, _, w => ∃ s, Ix (.exit id) s ∧ InR W B (Hx (.exit id) s) w
  | .goto t, _, w => ∃ s, Ix (.goto t) s ∧ InR W B (Hx (.goto t) s) w
  | .panic _, _, _ => False
  | .outgrown, _, _ => False
theorem at_next {σ : Type} {W b : World} {B F : Nat → Prop} {I : σ → Prop} {H' : σ → List Res} {Ix : Code → σ → Prop} {Hx : Code → σ → List Res} (s : σ) (hi : I s) (hH : H' s = H) :
    At n E ⟨W, B, B, b, F, []⟩ H (RQ W B I H' Ix Hx .normal) := fun a w hf hd ho => ⟨s, hi, b, F, hH ▸ ho⟩
theorem at_nextret {σ : Type} {W b : World} {B F : Nat → Prop} {I : σ → Prop} {H' : σ → List Res} {Ix : Code → σ → Prop} {Hx : Code → σ → List Res} (s : σ) (hi : Ix .ret s) (hH : Hx .ret s = H) :
    At n E ⟨W, B, B, b, F, []⟩ H (RQ W B I H' Ix Hx .ret) := fun a w hf hd ho => ⟨s, hi, b, F, hH ▸ ho⟩
theorem at_nextexit {σ : Type} {id : Nat} {W b : World} {B F : Nat → Prop} {I : σ → Prop} {H' : σ → List Res} {Ix : Code → σ → Prop} {Hx : Code → σ → List Res} (s : σ) (hi : Ix (.exit id) s) (hH : Hx (.exit id) s = H) :
    At n E ⟨W, B, B, b, F, []⟩ H (RQ W B I H' Ix Hx (.exit id)) := fun a w hf hd ho => ⟨s, hi, b, F, hH ▸ ho⟩

theorem Own.notOther {w : World} (h : Own C H w) {k : Nat} {o : Obj} (hk : w.heap[k]? = some o) (hc : ∀ cs t f, o ≠ .cells cs t f) : k ∉ bls H := fun hb => by
  obtain ⟨r, hr, hkr⟩ := mem_bls.1 hb
  obtain ⟨cs, t, hc'⟩ := ok_cells (h.ok r hr) k hkr
  rw [hk] at hc'
  exact hc _ _ _ (Option.some.inj hc')
theorem frm_putObj (W : World) (l : Nat) (o : Obj) : Frm W (fun k => k = l) (W.putObj l o) := ⟨rfl, rfl, rfl, by simp, fun k _ hk => World.putObj_heap_other hk⟩
theorem Own.putLoop {w : World} (h : Own C H w) {l : Nat} {q : Loop} (hl : w.heap[l]? = some (.loop q)) (h1 : C.W.heap.size ≤ l) (h2 : C.w.heap.size ≤ l) (o : Obj) : Own C H (w.putObj l o) := by
  have hn : l ∉ bls H := h.notOther hl (by simp)
  have hf := frm_putObj w l o
  refine ⟨h.orig.trans hf (fun k hk e => absurd h1 (by omega)), h.base.trans hf (fun k hk e => absurd h2 (by omega)), fun r hr => ok_same (h.ok r hr) hf.size (fun k hk => ?_), h.nodup, h.mine, h.sub, h.mark.1, fun D hD => ⟨(h.mark.2 D hD).1, ?_⟩⟩
  · exact World.putObj_heap_other (fun e => hn (e ▸ mem_bls.2 ⟨r, hr, hk⟩))
  · have := (h.mark.2 D hD).2
    rw [World.putObj_heap_other (fun e => by subst e; rw [hl] at this; cases this)]
    exact this
theorem Own.into {w : World} (h : Own C H w) : Own ⟨w, fun k => k ∈ bls H, fun k => k ∈ bls H, w, fun k => k ∈ bls H, []⟩ H w :=
  ⟨Frm.refl _ _, Frm.refl _ _, h.ok, h.nodup, fun k hk => ⟨.inr hk, .inr hk⟩, fun _ h => h, by simp⟩
theorem Own.outof {w w' : World} {H' : List Res} (h : Own C H w) (h' : InR w (fun k => k ∈ bls H) H' w') : Own C H' w' := by
  obtain ⟨b, F, h'⟩ := h'
  have hf := h'.orig
  refine ⟨h.orig.trans hf (fun k hk hB => (h.mine k hB).1.elim (fun h1 => absurd h1 (by omega)) (h.sub k)), h.base.trans hf (fun k hk hB => (h.mine k hB).2.elim (fun h1 => absurd h1 (by omega)) id), h'.ok, h'.nodup, fun k hk => ?_, h.sub, h.mark.1, fun D hD => ⟨(h.mark.2 D hD).1, ?_⟩⟩
  · rcases (h'.mine k hk).1 with h1 | h1
    · have h1 : w.heap.size ≤ k := h1
      exact ⟨.inl (Nat.le_trans h.orig.size h1), .inl (Nat.le_trans h.base.size h1)⟩
    · exact h.mine k h1
  · exact (hf.old D (Array.getElem?_eq_some_iff.1 (h.mark.2 D hD).2).1 (h.notMark hD)).trans (h.mark.2 D hD).2
/-- What a part of what is owned becomes, the rest stays. -/
theorem Own.framed {w w' : World} {H0 R H0' : List Res} (h : Own C (H0 ++ R) w) (h' : InR w (fun k => k ∈ bls H0) H0' w') : Own C (H0' ++ R) w' := by
  obtain ⟨b, F, h'⟩ := h'
  have hf := h'.orig
  have hnd := h.nodup
  rw [bls_append] at hnd
  have hd := (List.nodup_append.1 hnd).2.2
  have hl : ∀ k ∈ bls R, k < w.heap.size := fun k hk => h.lt k (by rw [bls_append]; exact List.mem_append_right _ hk)
  have hin : ∀ k ∈ bls H0, k ∈ bls (H0 ++ R) := fun k hk => by rw [bls_append]; exact List.mem_append_left _ hk
  have hR : ∀ k ∈ bls R, k ∉ bls H0 := fun k hk h0 => hd k h0 k hk rfl
  have hm : ∀ k ∈ bls H0', w.heap.size ≤ k ∨ k ∈ bls H0 := fun k hk => (h'.mine k hk).1
  refine ⟨h.orig.trans hf (fun k hk hB => (h.mine k (hin k hB)).1.elim (fun h1 => absurd h1 (by omega)) (h.sub k)), h.base.trans hf (fun k hk hB => (h.mine k (hin k hB)).2.elim (fun h1 => absurd h1 (by omega)) id), fun r hr => ?_, ?_, fun k hk => ?_, h.sub, h.mark.1, fun D hD => ⟨(h.mark.2 D hD).1, ?_⟩⟩
  · rcases List.mem_append.1 hr with hr | hr
    · exact h'.ok r hr
    · exact ok_same (h.ok r (List.mem_append_right _ hr)) hf.size fun k hk => hf.old k (hl k (mem_bls.2 ⟨r, hr, hk⟩)) (hR k (mem_bls.2 ⟨r, hr, hk⟩))
  · rw [bls_append]
    refine List.nodup_append.2 ⟨h'.nodup, (List.nodup_append.1 hnd).2.1, fun a ha b hb e => ?_⟩
    subst e
    rcases hm a ha with h1 | h1
    · have := hl a hb; omega
    · exact hR a hb h1
  · rw [bls_append] at hk
    rcases List.mem_append.1 hk with hk | hk
    · rcases hm k hk with h1 | h1
      · exact ⟨.inl (Nat.le_trans h.orig.size h1), .inl (Nat.le_trans h.base.size h1)⟩
      · exact h.mine k (hin k h1)
    · exact h.mine k (by rw [bls_append]; exact List.mem_append_right _ hk)
  · exact (hf.old D (Array.getElem?_eq_some_iff.1 (h.mark.2 D hD).2).1 (fun h0 => h.notMark hD (hin D h0))).trans (h.mark.2 D hD).2
abbrev inC (w : World) (H0 : List Res) : Ctx := ⟨w, fun k => k ∈ bls H0, fun k => k ∈ bls H0, w, fun k => k ∈ bls H0, []⟩
/-- A call that may turn a part of what is owned. -/
theorem at_callin {ι : Type} {d : Nat} {op : Op} {ty : TypeId} {pos : String} {after : Array Edge} {f : FuncId} {args : Array Value} {H0 R : List Res} (v : ι → Value) (H0' : ι → List Res) (hH : H = H0 ++ R) (he : Enters P n E C H ⟨some d, op, ty, pos, after, none⟩ f args)
    (hc : ∀ w, Own C H w → Own (inC w H0) H0 w → Calls P f args w fun e w' => ∃ i, e = .returned (v i) ∧ InR w (fun k => k ∈ bls H0) (H0' i) w') (hn : Op.isDefer op = false) (hd : Nat.blt d n = true)
    (k : ∀ i, At n ((d, v i) :: E) C (H0' i ++ R) (lwp r P ops Q rest)) : At n E C H (lwp r P ops Q (⟨some d, op, ty, pos, after, none⟩ :: rest)) := by
  subst hH
  refine at_call v (fun i => H0' i ++ R) he (fun w ho => (hc w ho (Own.into (ho.sublist (List.sublist_append_left _ _)))).mono fun e w' ⟨i, h1, h2⟩ => ⟨i, h1, ho.framed h2⟩) rfl hn hd k
/-- A function that may turn what it is given. -/
theorem calls_in {f : FuncId} {fn : Func} {c : Code} {args : List Value} {w : World} {H0 : List Res} {R : Ending → World → Prop} (ho : Own (inC w H0) H0 w) (hf : P.funcs[f]? = some fn) (hb : fn.body = some c) (hn : fn.ntmps = n)
    (hl : Nat.ble args.length n = true) (h : At n (argEnv args 0) (inC w H0) H0 (cwp none P c (fin P fn R))) : Calls P f args.toArray w R :=
  calls_at _ _ hf hb hn hl H0 ho h
/-- The context behind such a loop: one mark more. -/
def Ctx.mk' (C : Ctx) (D : Nat) : Ctx := ⟨C.W, C.L, C.M, C.w, C.F, D :: C.marks⟩
theorem Own.mk' {w : World} (h : Own C H w) {D : Nat} (hD : w.heap[D]? = some (.deferred (some []))) (h1 : C.W.heap.size ≤ D) (h2 : D ∉ C.marks) : Own (C.mk' D) H w :=
  ⟨h.orig, h.base, h.ok, h.nodup, h.mine, h.sub, List.nodup_cons.2 ⟨h2, h.mark.1⟩, fun k hk => by
    rcases List.mem_cons.1 hk with rfl | hk
    · exact ⟨h1, hD⟩
    · exact h.mark.2 k hk⟩

theorem at_range {σ : Type} {g : Operand} {p d id : Nat} {body : Code} {gf : FuncId} {lb xs : List Value} {ty : TypeId} {pos : String} {after : Array Edge}
    (I : Nat → σ → Prop) (H' : Nat → σ → List Res) (Ix : Code → σ → Prop) (Hx : Code → σ → List Res) (s0 : σ) (h0 : I 0 s0) (hH : H' 0 s0 = H)
    (hg : ev E g = some (.func (.func gf) #[] lb.toArray)) (he : entr P gf = true) (hp : Nat.blt p n = true) (hd : Nat.blt d n = true)
    (hseq : ∀ (W1 : World) (G : Nat → Prop), (∀ k, G k → k ∈ bls H ∨ ∃ q, W1.heap[k]? = some (.loop q)) → Own C H W1 → SeqC P gf lb xs G W1)
    (round : ∀ (l i : Nat) (x : Value) (s : σ) (W : World), xs[i]? = some x → I i s → Own C (H' i s) W →
      At n ((d, x) :: (p, x) :: E) ⟨W, fun k => k ∈ bls (H' i s), fun k => k ∈ bls (H' i s), W, fun k => k ∈ bls (H' i s), []⟩ (H' i s) (cwp (some l) P body (RQ W (fun k => k ∈ bls (H' i s)) (I (i + 1)) (H' (i + 1)) Ix Hx)))
    (done : ∀ (D : Nat) (s : σ), I xs.length s → At n E (C.mk' D) (H' xs.length s) (Q .normal))
    (stop : ∀ (D : Nat) (c : Code) (s : σ), Ix c s → At n E (C.mk' D) (Hx c s) (cwp none P c Q)) :
    At n E C H (cwp none P (Code.rangeFunc g #[p] (Code.region id #[⟨some d, .assign (.tmp p), ty, pos, after, none⟩] false) body) Q) := by
  intro a w hf hdf ho
  subst hH
  refine wpIn_rangeFunc ?_
  intro fn hfn
  rw [show (fe none).round = none from rfl]
  obtain ⟨rec, hrec⟩ : ∃ rec : LoopState → Option Code → Loop, rec = fun st pe => { state := st, pending := pe, fn, tmps := a.tmps, params := #[p], assign := Code.region id #[⟨some d, .assign (.tmp p), ty, pos, after, none⟩] false, body, defers := w.heap.size } := ⟨_, rfl⟩
  obtain ⟨D, hD⟩ : ∃ D, D = w.heap.size := ⟨_, rfl⟩
  obtain ⟨l, hl⟩ : ∃ l, l = w.heap.size + 1 := ⟨_, rfl⟩
  obtain ⟨W1, hW1⟩ : ∃ W1, (w.alloc (.deferred (some []))).alloc (.loop (rec .ready none)) = W1 := ⟨_, rfl⟩
  have hb1 : Below w.heap.size w W1 := by
    rw [← hW1]; exact ((Below.refl _ w).alloc (Nat.le_refl _) _).alloc (by simp) _
  have hL1 : W1.heap[l]? = some (.loop (rec .ready none)) := by
    rw [← hW1, hl]; have := World.alloc_heap_new (w.alloc (.deferred (some []))) (.loop (rec .ready none)); rwa [World.size_alloc] at this
  have hK1 : W1.heap[D]? = some (.deferred (some [])) := by
    rw [← hW1, hD]; exact (Below.heap_alloc _ _ _ (by simp)).trans (World.alloc_heap_new w _)
  have ho1 : Own C (H' 0 s0) W1 := ho.below hb1
  have hCW := ho.orig.size
  have hCw := ho.base.size
  have hDm : D ∉ C.marks := fun hm => by
    have := (Array.getElem?_eq_some_iff.1 (ho.mark.2 D hm).2).1; omega
  have hlW : l < W1.heap.size := (Array.getElem?_eq_some_iff.1 hL1).1
  have hDW : D < W1.heap.size := (Array.getElem?_eq_some_iff.1 hK1).1
  obtain ⟨G, hG⟩ : ∃ G : Nat → Prop, G = fun k => k ∈ bls (H' 0 s0) ∨ k = l := ⟨_, rfl⟩
  -- what stands between two rounds
  let J : Nat → World → Prop := fun i W => ∃ s, I i s ∧ Own C (H' i s) W ∧ (∀ k ∈ bls (H' i s), W1.heap.size ≤ k ∨ k ∈ bls (H' 0 s0)) ∧ Frm W1 G W ∧ W.heap[l]? = some (.loop (rec .ready none)) ∧ W.heap[D]? = some (.deferred (some []))
  let Jx : World → Prop := fun W => ∃ c s, Ix c s ∧ Own C (Hx c s) W ∧ Frm W1 G W ∧ W.heap[l]? = some (.loop (rec .done (some c))) ∧ W.heap[D]? = some (.deferred (some []))
  have keepH : ∀ {W W' : World} {k : Nat} {o : Obj}, Below W.heap.size W W' → W.heap[k]? = some o → W'.heap[k]? = some o := fun hb hk => (hb.block _ (Array.getElem?_eq_some_iff.1 hk).1).trans hk
  have frmB : ∀ {W W' : World}, Frm W1 G W → Below W.heap.size W W' → Frm W1 G W' := fun h hb => h.trans (G := fun _ => False) (Frm.ofBelow hb (fun k hk hB => by omega)) (fun _ _ h => h.elim)
  have hJst : ∀ i W W', J i W → Below W.heap.size W W' → J i W' := by
    rintro i W W' ⟨s, h1, h2, h3, h4, h5, h6⟩ hb
    exact ⟨s, h1, h2.below hb, h3, frmB h4 hb, keepH hb h5, keepH hb h6⟩
  have hxst : ∀ W W', Jx W → Below W.heap.size W W' → Jx W' := by
    rintro W W' ⟨c, s, h1, h2, h4, h5, h6⟩ hb
    exact ⟨c, s, h1, h2.below hb, frmB h4 hb, keepH hb h5, keepH hb h6⟩
  have hcall := hseq W1 G (by rintro k hk; rw [hG] at hk; rcases hk with hk | rfl; exact .inl hk; exact .inr ⟨_, hL1⟩) ho1 l J Jx
    (fun i W ⟨s, _, _, _, h4, _⟩ => h4) (fun W ⟨c, s, _, _, h4, _⟩ => h4) hJst hxst ?_ ⟨s0, h0, ho1, fun k hk => .inr hk, Frm.refl _ _, hL1, hK1⟩
  · refine ⟨l, [{ target := .collected D, args := #[] }], W1, { target := .fn (.func gf) lb.toArray, args := #[.func (.yield l) #[] #[]] }, W1, gf, (yv l :: lb).toArray, W1, ?_, ?_, ?_, ?_, fun h => by simp [fe, Fence.wide] at h, ?_⟩
    · rw [← hW1, hrec, hl, hD]; exact run_enterLoop_outer _ _ _ _ _
    · simp only [resolve, hf.eval hg]
      simp [go_sem, Deferred.ofValue]
    · intro f' hf'; trivial
    · simp [invoke, go_sem, run_entr he]
    · refine callsIn_fe.2 (hcall.mono ?_)
      have hdf' : DF (C.mk' D) { a with defers := { target := .collected D, args := #[] } :: a.defers } := by
        unfold DF at hdf ⊢; simp [Ctx.mk', markOf, hdf]
      rintro e W2 ⟨⟨v, rfl⟩, (⟨s, h1, h2, h3, h4, h5, h6⟩ | ⟨c, s, h1, h2, h4, h5, h6⟩)⟩
      · refine ⟨none, _, by have := run_endLoop (P := P) h5 (by rw [hrec]; simp); rw [hrec] at this; exact this, ?_⟩
        exact done D s h1 _ _ ⟨hf.size, hf.get⟩ hdf' (Own.mk' (h2.putLoop h5 (by omega) (by omega) _) ((World.putObj_heap_other (by omega)).trans h6) (by omega) hDm)
      · refine ⟨some c, _, by have := run_endLoop (P := P) h5 (by rw [hrec]; simp); rw [hrec] at this; exact this, ?_⟩
        exact stop D c s h1 _ _ ⟨hf.size, hf.get⟩ hdf' (Own.mk' (h2.putLoop h5 (by omega) (by omega) _) ((World.putObj_heap_other (by omega)).trans h6) (by omega) hDm)
  · -- one round
    rintro i x W hx ⟨s, h1, h2, h3, h4, h5, h6⟩
    have hy := run_yield (P := P) (args := #[x]) h5 (by rw [hrec]; rfl)
    rw [hrec] at hy
    refine ⟨fn, _, _, body, hy, roundIn_of_wpIn trivial ?_⟩
    have hpl : p < a.tmps.size := by rw [hf.size]; simpa using hp
    have hE1 : Fits n ((p, x) :: E) { tmps := a.tmps.setIfInBounds p x, defers := [] } := Fits.put (d := some p) (a := { a with defers := [] }) ⟨hf.size, hf.get⟩ (by simpa [inB] using hp)
    have hE2 : Fits n ((d, x) :: (p, x) :: E) (({ tmps := a.tmps.setIfInBounds p x, defers := [] } : Act).put (some d) x) := Fits.put (d := some d) hE1 (by simpa [inB] using hd)
    have hfold : (#[p].zip #[x]).foldl (fun tmps (t, a) => tmps.setIfInBounds t a) a.tmps = a.tmps.setIfInBounds p x := by simp
    show (Code.region id _ false).wpIn (fe (some l)) 0 P _ { tmps := (#[p].zip #[x]).foldl (fun tmps (t, a) => tmps.setIfInBounds t a) a.tmps, defers := [] } W
    rw [hfold]
    refine wpIn_region_lit (l := [⟨some d, .assign (.tmp p), ty, pos, after, none⟩]) (lwp_plain (r := some l) rfl rfl ?_)
    have hev : (execOp ({ tmps := a.tmps.setIfInBounds p x, defers := [] } : Act).eval ⟨some d, .assign (.tmp p), ty, pos, after, none⟩).run P W = .ok (.value x) W := by
      have : ({ tmps := a.tmps.setIfInBounds p x, defers := [] } : Act).eval (.tmp p) = x := hE1.eval (x := .tmp p) (by show eget ((p, x) :: E) p = some x; rw [eget_cons]; simp)
      simp only [execOp, this]; simp [Sem.run, pure]
    rw [hev, Oper.uponIn_value]
    unfold lwp
    refine wpListIn_nil ⟨_, run_beginRound h5 (by rw [hrec]), ?_⟩
    have hlt : l < W.heap.size := (Array.getElem?_eq_some_iff.1 h5).1
    obtain ⟨Wb, hWb⟩ : ∃ Wb, Wb = W.putObj l (.loop { rec .ready none with state := .busy }) := ⟨_, rfl⟩
    have hlb : Wb.heap[l]? = some (.loop (rec .busy none)) := by rw [hWb, World.putObj_heap_same hlt, hrec]
    have hDb : Wb.heap[D]? = some (.deferred (some [])) := by rw [hWb, World.putObj_heap_other (by omega)]; exact h6
    have hob : Own C (H' i s) Wb := by rw [hWb]; exact h2.putLoop h5 (by omega) (by omega) _
    have hfb : Frm W1 G Wb := by rw [hWb]; exact h4.trans (frm_putObj W l _) (fun k hk e => by rw [hG]; exact .inr e)
    rw [← hWb]
    refine wpIn_mono (round l i x s Wb hx h1 hob _ _ hE2 (by simp [DF, Act.put]) hob.into) ?_
    have fin : ∀ (jump : Option Code) (H3 : List Res) (W3 : World), InR Wb (fun k => k ∈ bls (H' i s)) H3 W3 → ∃ W4, (Instr.endRound l jump).run P W3 = .ok (.bool jump.isNone) W4 ∧ Own C H3 W4 ∧ (∀ k ∈ bls H3, W1.heap.size ≤ k ∨ k ∈ bls (H' 0 s0)) ∧ Frm W1 G W4 ∧
        W4.heap[l]? = some (.loop (rec (if jump.isNone then .ready else .done) jump)) ∧ W4.heap[D]? = some (.deferred (some [])) := by
      intro jump H3 W3 hin
      have ho3 := hob.outof hin
      obtain ⟨b, F, hin⟩ := hin
      have hl3 : W3.heap[l]? = some (.loop (rec .busy none)) := (hin.orig.old l (Array.getElem?_eq_some_iff.1 hlb).1 (hob.notOther hlb (by simp))).trans hlb
      have hD3 : W3.heap[D]? = some (.deferred (some [])) := (hin.orig.old D (Array.getElem?_eq_some_iff.1 hDb).1 (hob.notOther hDb (by simp))).trans hDb
      have hf3 : Frm W1 G W3 := hfb.trans hin.orig (fun k hk hB => by rw [hG]; exact .inl ((h3 k hB).resolve_left (by omega)))
      have he3 := run_endRound (P := P) jump hl3
      rw [hrec] at he3
      refine ⟨_, he3, ho3.putLoop hl3 (by omega) (by omega) _, fun k hk => ?_, hf3.trans (frm_putObj W3 l _) (fun k hk e => by rw [hG]; exact .inr e), by rw [World.putObj_heap_same (Array.getElem?_eq_some_iff.1 hl3).1, hrec], (World.putObj_heap_other (by omega)).trans hD3⟩
      rcases (hin.mine k hk).1 with h | h
      · have h : Wb.heap.size ≤ k := h
        exact .inl (Nat.le_trans hfb.size h)
      · exact h3 k h
    rintro e a3 W3 hq
    cases e with
    | normal =>
      obtain ⟨s', hi', hin⟩ := hq
      obtain ⟨W4, hr, q1, q2, q3, q4, q5⟩ := fin none _ W3 hin
      exact ⟨_, W4, hr, .inl ⟨rfl, s', hi', q1, q2, q3, q4, q5⟩⟩
    | ret =>
      obtain ⟨s', hi', hin⟩ := hq
      obtain ⟨W4, hr, q1, q2, q3, q4, q5⟩ := fin (some .ret) _ W3 hin
      exact ⟨_, W4, hr, .inr ⟨rfl, .ret, s', hi', q1, q3, q4, q5⟩⟩
    | exit id =>
      obtain ⟨s', hi', hin⟩ := hq
      obtain ⟨W4, hr, q1, q2, q3, q4, q5⟩ := fin (some (.exit id)) _ W3 hin
      exact ⟨_, W4, hr, .inr ⟨rfl, .exit id, s', hi', q1, q3, q4, q5⟩⟩
    | goto t =>
      obtain ⟨s', hi', hin⟩ := hq
      obtain ⟨W4, hr, q1, q2, q3, q4, q5⟩ := fin (some (.goto t)) _ W3 hin
      exact ⟨_, W4, hr, .inr ⟨rfl, .goto t, s', hi', q1, q3, q4, q5⟩⟩
    | panic ch => exact hq.elim
    | outgrown => exact hq.elim

/-- What came in is not among what the rounds may turn. -/
theorem Own.notG {W1 : World} {G : Nat → Prop} {b : Nat} {o : Obj} (h : Own C H W1) (hG : ∀ k, G k → k ∈ bls H ∨ ∃ q, W1.heap[k]? = some (.loop q)) (hb : b < C.W.heap.size) (hM : ¬ C.M b) (ho : W1.heap[b]? = some o) (hl : ∀ q, o ≠ .loop q) : ¬ G b := fun hg => by
  rcases hG b hg with h1 | ⟨q, h1⟩
  · rcases (h.mine b h1).1 with h2 | h2
    · omega
    · exact hM h2
  · rw [ho] at h1
    exact hl q (Option.some.inj h1)
theorem obj_of_cell {W : World} {b j : Nat} {v : Value} (h : W.cell? ⟨b, j, none⟩ = some v) : ∃ o, W.heap[b]? = some o ∧ ∀ q, o ≠ .loop q := by
  unfold World.cell? at h
  cases ho : W.heap[b]? with
  | none => simp [ho] at h
  | some o => exact ⟨o, rfl, fun q e => by subst e; simp [ho] at h⟩

/-! ### A return behind such loops -/
def Ctx.clear (C : Ctx) (w : World) (H : List Res) : Ctx := ⟨C.W, C.L, C.M, w, fun k => k ∈ bls H, []⟩
theorem fin_marks {fn : Func} {R : Ending → World → Prop} (h : ∀ (a : Act) (w : World), Fits n E a → Own (C.clear w H) H w → ∃ v, (results fn a.tmps).run P w = .ok v w ∧ R (.returned v) w) : At n E C H (fin P fn R .ret) := by
  intro a w hf hd ho
  show LeavesInM _ _ _ _ _ _ a.defers _ _
  rw [show a.defers = C.marks.map markOf from hd]
  refine leaves_of C.marks w (fun D hD => (ho.mark.2 D hD).2) ho.mark.1 (fun w' h1 h2 h3 h4 h5 => h a w' hf ?_)
  have hne : ∀ k ∈ bls H, k ∉ C.marks := fun k hk hm => ho.notMark hm hk
  refine ⟨ho.orig.trans (G := fun k => k ∈ C.marks) ⟨h3, h4, h5, by omega, fun k _ hk => h2 k hk⟩ (fun k hk hm => absurd hk (Nat.not_lt.2 (ho.mark.2 k hm).1)), Frm.refl _ _, fun r hr => ok_same (ho.ok r hr) (by omega) (fun k hk => h2 k (hne k (mem_bls.2 ⟨r, hr, hk⟩))), ho.nodup, fun k hk => ⟨(ho.mine k hk).1, .inr hk⟩, ho.sub, by simp [Ctx.clear]⟩
theorem at_retm1 {fn : Func} {R : Ending → World → Prop} {t : Nat} {v : Value} (hr : fn.results = #[.tmp t]) (ht : eget E t = some v) (h : ∀ w, Own (C.clear w H) H w → R (.returned v) w) : At n E C H (fin P fn R .ret) := by
  refine fin_marks fun a w hf ho => ⟨v, ?_, h w ho⟩
  rw [results_tmp hr]
  simp [hf.get t v ht]
theorem at_retm2 {fn : Func} {R : Ending → World → Prop} {t u : Nat} {v x : Value} (hr : fn.results = #[.tmp t, .tmp u]) (ht : eget E t = some v) (hu : eget E u = some x) (h : ∀ w, Own (C.clear w H) H w → R (.returned (.tuple #[v, x])) w) : At n E C H (fin P fn R .ret) := by
  refine fin_marks fun a w hf ho => ⟨.tuple #[v, x], ?_, h w ho⟩
  rw [results_tmp2 hr]
  simp [hf.get t v ht, hf.get u x hu]
end
end Go.Proofs.YtjpfebgpcokenaaDoor
