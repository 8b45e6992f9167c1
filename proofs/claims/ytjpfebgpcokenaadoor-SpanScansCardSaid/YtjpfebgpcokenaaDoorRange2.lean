/-
  Loops over functions of two values, whose iterator holds blocks of its own: its contract, a call of yield, the loop that ranges over it. No condition of its own.
-/
import Derived.Test.YtjpfebgpcokenaaDoorRange
set_option linter.unusedSimpArgs false
set_option linter.unusedVariables false
namespace Go.Proofs.YtjpfebgpcokenaaDoor
open Go.RowKit

/-- The iterator gf, with lb captured, called in world w, hands these pairs to its yield in turn, as long as that says true. B: the blocks that the rounds hold; what they may turn of w is in G. -/
def SeqD (P : Program) (gf : FuncId) (lb : List Value) (xs : List (Value × Value)) (G B0 : Nat → Prop) (w : World) : Prop :=
  ∀ (l : Nat) (J : Nat → (Nat → Prop) → World → Prop) (Jx : (Nat → Prop) → World → Prop), (∀ i B W, J i B W → Frm w G W ∧ ∀ k, B k → k < W.heap.size) → (∀ B W, Jx B W → Frm w G W) →
    (∀ i B W W', J i B W → Frm W (fun k => w.heap.size ≤ k ∧ ¬ B k) W' → J i B W') → (∀ B W W', Jx B W → Frm W (fun k => w.heap.size ≤ k ∧ ¬ B k) W' → Jx B W') →
    (∀ i B x W, xs[i]? = some x → J i B W → YieldAt (fe none) 0 P l #[x.1, x.2] W (fun e W' => ∃ B', Frm W B W' ∧ (∀ k, B' k → B k ∨ W.heap.size ≤ k) ∧ ((e = .returned (.bool true) ∧ J (i + 1) B' W') ∨ (e = .returned (.bool false) ∧ Jx B' W')))) →
    J 0 B0 w → Calls P gf (yv l :: lb).toArray w (fun e w' => (∃ v, e = .returned v) ∧ ∃ B, J xs.length B w' ∨ Jx B w')
/-- An iterator's frame: what it holds is of its own making. -/
def itB (w0 : World) (G : Nat → Prop) (W : World) (H : List Res) : Ctx := ⟨w0, G, fun _ => False, W, fun k => k ∈ bls H, []⟩
theorem Own.itMine {w0 W w : World} {G : Nat → Prop} {H0 H : List Res} (h : Own (itB w0 G W H0) H w) : ∀ k ∈ bls H, w0.heap.size ≤ k := fun k hk => (h.mine k hk).1.resolve_right id
/-- What the rounds have left is as it was while the iterator turns its own blocks. -/
theorem itB_frm {w0 W w : World} {G B : Nat → Prop} {H0 H : List Res} (h : Own (itB w0 G W H0) H w) (h0 : ∀ k ∈ bls H0, w0.heap.size ≤ k ∧ ¬ B k) : Frm W (fun k => w0.heap.size ≤ k ∧ ¬ B k) w := h.base.mono fun k _ hk => h0 k hk
/-- From here on the world as it stands. -/
theorem Own.itRe {w0 W w : World} {G : Nat → Prop} {H0 H : List Res} (h : Own (itB w0 G W H0) H w) : Own (itB w0 G w H) H w :=
  ⟨h.orig, Frm.refl _ _, h.ok, h.nodup, fun k hk => ⟨(h.mine k hk).1, .inr hk⟩, h.sub, by simp [itB]⟩
section
variable {P : Program} {r : Option Nat} {n : Nat} {E E' : List (Nat × Value)} {C : Ctx} {H : List Res} {Q : Exit → Act → World → Prop} {K : Act → World → Prop} {ops : Array Oper} {rest : List Oper}
theorem at_yield2 {w0 W : World} {G B : Nat → Prop} {J : Nat → (Nat → Prop) → World → Prop} {Jx : (Nat → Prop) → World → Prop} {i d l : Nat} {c y1 y2 : Operand} {x1 x2 : Value} {ty : TypeId} {pos : String} {after : Array Edge} {aT : Array TypeId}
    (hc : ev E c = some (yv l)) (hx1 : ev E y1 = some x1) (hx2 : ev E y2 = some x2) (hd : Nat.blt d n = true) (hJf : ∀ i B W, J i B W → Frm w0 G W) (hxf : ∀ B W, Jx B W → Frm w0 G W)
    (hst : ∀ i B W W', J i B W → Frm W (fun k => w0.heap.size ≤ k ∧ ¬ B k) W' → J i B W') (hJ : J i B W) (hB : ∀ k ∈ bls H, w0.heap.size ≤ k ∧ ¬ B k)
    (hY : ∀ W, J i B W → YieldAt (fe none) 0 P l #[x1, x2] W (fun e W' => ∃ B', Frm W B W' ∧ (∀ k, B' k → B k ∨ W.heap.size ≤ k) ∧ ((e = .returned (.bool true) ∧ J (i + 1) B' W') ∨ (e = .returned (.bool false) ∧ Jx B' W'))))
    (on : ∀ B' W', J (i + 1) B' W' → (∀ k ∈ bls H, w0.heap.size ≤ k ∧ ¬ B' k) → At n ((d, .bool true) :: E) (itB w0 G W' H) H (lwp none P ops Q rest))
    (off : ∀ B' W', Jx B' W' → (∀ k ∈ bls H, w0.heap.size ≤ k ∧ ¬ B' k) → At n ((d, .bool false) :: E) (itB w0 G W' H) H (lwp none P ops Q rest)) :
    At n E (itB w0 G W H) H (lwp none P ops Q (⟨some d, .call ⟨.value c, #[y1, y2], aT⟩, ty, pos, after, none⟩ :: rest)) := by
  intro a w hf hdf ho
  refine lwp_plain rfl rfl ?_
  have hj : J i B w := hst i B W w hJ (itB_frm ho hB)
  obtain ⟨fn, tmps, assign, body, hrun, hround⟩ := hY w hj
  have hexec : (execOp a.eval ⟨some d, .call ⟨.value c, #[y1, y2], aT⟩, ty, pos, after, none⟩).run P w = .ok (.round l fn tmps assign body) w := by
    have hm : (#[y1, y2] : Array Operand).map a.eval = #[x1, x2] := by simp [hf.eval hx1, hf.eval hx2]
    simp only [execOp, resolve, hm, hf.eval hc]
    simp [Deferred.ofValue, invoke, go_sem, hrun]
  rw [hexec, Oper.uponIn_round]
  refine ⟨fun h => by simp [fe, Fence.wide] at h, hround.mono ?_⟩
  have key : ∀ {W' : World} {B' : Nat → Prop}, Frm w B W' → (∀ k, B' k → B k ∨ w.heap.size ≤ k) → Frm w0 G W' → Own (itB w0 G W' H) H W' ∧ ∀ k ∈ bls H, w0.heap.size ≤ k ∧ ¬ B' k := fun {W' B'} h1 h2 h3 =>
    ⟨⟨h3, Frm.refl _ _, fun q hq => ok_same (ho.ok q hq) h1.size fun k hk => h1.old k (ok_lt (ho.ok q hq) k hk) (hB k (mem_bls.2 ⟨q, hq, hk⟩)).2, ho.nodup, fun k hk => ⟨(ho.mine k hk).1, .inr hk⟩, fun _ h => h.elim, by simp [itB]⟩,
     fun k hk => ⟨(hB k hk).1, fun hb => by
      rcases h2 k hb with h | h
      · exact (hB k hk).2 h
      · have := ho.lt k hk; omega⟩⟩
  rintro e W' ⟨B', h1, h2, (⟨rfl, hj'⟩ | ⟨rfl, hx'⟩)⟩
  · obtain ⟨k1, k2⟩ := key h1 h2 (hJf _ _ _ hj')
    exact on B' W' hj' k2 _ _ (hf.put (d := some d) hd) (hdf.put _ _) k1
  · obtain ⟨k1, k2⟩ := key h1 h2 (hxf _ _ hx')
    exact off B' W' hx' k2 _ _ (hf.put (d := some d) hd) (hdf.put _ _) k1
/-- A loop of an iterator that holds blocks. -/
theorem at_itloop2 {σ : Type} {w0 W : World} {G B : Nat → Prop} {J : Nat → (Nat → Prop) → World → Prop} {c : Code} (hst : ∀ i B W W', J i B W → Frm W (fun k => w0.heap.size ≤ k ∧ ¬ B k) W' → J i B W')
    (ix : σ → Nat) (I : σ → Prop) (E' : σ → List (Nat × Value)) (H' : σ → List Res) (μ : σ → Nat) (s0 : σ) (hi : I s0) (hJ : J (ix s0) B W) (hB : ∀ k ∈ bls H, w0.heap.size ≤ k ∧ ¬ B k) (hH : H' s0 = H) (he : ele (E' s0) E)
    (round : ∀ s B W, I s → J (ix s) B W → (∀ k ∈ bls (H' s), w0.heap.size ≤ k ∧ ¬ B k) → At n (E' s) (itB w0 G W (H' s)) (H' s) (cwp none P c (Exit.then (Again n (fun p : σ × (Nat → Prop) × World => I p.1 ∧ J (ix p.1) p.2.1 p.2.2 ∧ ∀ k ∈ bls (H' p.1), w0.heap.size ≤ k ∧ ¬ p.2.1 k) (fun p => E' p.1) (fun p => itB w0 G p.2.2 (H' p.1)) (fun p => H' p.1) (fun p => μ p.1) (μ s)) Q))) :
    At n E (itB w0 G W H) H (cwp none P (Code.loop c) Q) := by
  subst hH
  exact at_loop (fun p : σ × (Nat → Prop) × World => I p.1 ∧ J (ix p.1) p.2.1 p.2.2 ∧ ∀ k ∈ bls (H' p.1), w0.heap.size ≤ k ∧ ¬ p.2.1 k) (fun p => E' p.1) (fun p => itB w0 G p.2.2 (H' p.1)) (fun p => H' p.1) (fun p => μ p.1)
    (fun w ho => ⟨(s0, B, w), ⟨hi, hst _ _ _ _ hJ (itB_frm ho hB), hB⟩, he, rfl, ho.itRe⟩) (fun p hp => round p.1 p.2.1 p.2.2 hp.1 hp.2.1 hp.2.2)
theorem at_itagain2 {σ : Type} {w0 W : World} {G B : Nat → Prop} {J : Nat → (Nat → Prop) → World → Prop} {H0 : List Res} (hst : ∀ i B W W', J i B W → Frm W (fun k => w0.heap.size ≤ k ∧ ¬ B k) W' → J i B W')
    {ix : σ → Nat} {I : σ → Prop} {E' : σ → List (Nat × Value)} {H' : σ → List Res} {μ : σ → Nat} {m : Nat} (s : σ) (hi : I s) (hJ : J (ix s) B W) (hB : ∀ k ∈ bls H0, w0.heap.size ≤ k ∧ ¬ B k) (hb : ∀ k ∈ bls (H' s), k ∈ bls H0) (hm : μ s < m) (he : ele (E' s) E)
    (ho' : ∀ w, Own (itB w0 G W H0) H w → Own (itB w0 G W H0) (H' s) w) :
    At n E (itB w0 G W H0) H (Again n (fun p : σ × (Nat → Prop) × World => I p.1 ∧ J (ix p.1) p.2.1 p.2.2 ∧ ∀ k ∈ bls (H' p.1), w0.heap.size ≤ k ∧ ¬ p.2.1 k) (fun p => E' p.1) (fun p => itB w0 G p.2.2 (H' p.1)) (fun p => H' p.1) (fun p => μ p.1) m) :=
  at_againw fun w ho => ⟨(s, B, w), ⟨hi, hst _ _ _ _ hJ (itB_frm ho hB), fun k hk => hB k (hb k hk)⟩, hm, he, rfl, (ho' w ho).itRe⟩

/-- What the assignment at a round's begin leaves. -/
def AQ {ι : Type} (n : Nat) (W : World) (B : Nat → Prop) (E1 : ι → List (Nat × Value)) (H1 : ι → List Res) : Exit → Act → World → Prop
  | .normal, a, w => a.defers = [] ∧ ∃ i, Fits n (E1 i) a ∧ InR W B (H1 i) w
  | _, _, _ => False
theorem at_aq {ι : Type} {W b : World} {B F : Nat → Prop} {E1 : ι → List (Nat × Value)} {H1 : ι → List Res} (i : ι) (he : ele (E1 i) E) (hH : H1 i = H) : At n E ⟨W, B, B, b, F, []⟩ H (AQ n W B E1 H1 .normal) := fun a w hf hd ho => ⟨hd, i, hf.weak he, b, F, hH ▸ ho⟩
set_option maxHeartbeats 1000000 in
theorem at_range2 {σ ι : Type} {g : Operand} {p1 p2 : Nat} {assign body : Code} {gf : FuncId} {lb : List Value} {xs : List (Value × Value)}
    (I : Nat → σ → Prop) (H' : Nat → σ → List Res) (E1 : Value × Value → σ → ι → List (Nat × Value)) (H1 : Nat → Value × Value → σ → ι → List Res) (Ix : Code → σ → Prop) (Hx : Code → σ → List Res) (s0 : σ) (h0 : I 0 s0) (hH : H' 0 s0 = H)
    (hg : ev E g = some (.func (.func gf) #[] lb.toArray)) (he : entr P gf = true) (hp1 : Nat.blt p1 n = true) (hp2 : Nat.blt p2 n = true)
    (hseq : ∀ (W1 : World) (G B0 : Nat → Prop), (∀ k, G k → k ∈ bls H ∨ ∃ q, W1.heap[k]? = some (.loop q)) → Own C H W1 → SeqD P gf lb xs G B0 W1)
    (asg : ∀ (l i : Nat) (x : Value × Value) (s : σ) (W : World), xs[i]? = some x → I i s → Own C (H' i s) W → At n ((p2, x.2) :: (p1, x.1) :: E) (inC W (H' i s)) (H' i s) (cwp (some l) P assign (AQ n W (fun k => k ∈ bls (H' i s)) (E1 x s) (H1 i x s))))
    (round : ∀ (l i : Nat) (x : Value × Value) (s : σ) (j : ι) (W : World), xs[i]? = some x → I i s → Own C (H1 i x s j) W →
      At n (E1 x s j) (inC W (H1 i x s j)) (H1 i x s j) (cwp (some l) P body (RQ W (fun k => k ∈ bls (H1 i x s j)) (I (i + 1)) (H' (i + 1)) Ix Hx)))
    (done : ∀ (D : Nat) (s : σ), I xs.length s → At n E (C.mk' D) (H' xs.length s) (Q .normal))
    (stop : ∀ (D : Nat) (c : Code) (s : σ), Ix c s → At n E (C.mk' D) (Hx c s) (cwp none P c Q)) :
    At n E C H (cwp none P (Code.rangeFunc g #[p1, p2] assign body) Q) := by
  intro a w hf hdf ho
  subst hH
  refine wpIn_rangeFunc ?_
  intro fn hfn
  rw [show (fe none).round = none from rfl]
  obtain ⟨rec, hrec⟩ : ∃ rec : LoopState → Option Code → Loop, rec = fun st pe => { state := st, pending := pe, fn, tmps := a.tmps, params := #[p1, p2], assign := assign, body, defers := w.heap.size } := ⟨_, rfl⟩
  obtain ⟨D, hD⟩ : ∃ D, D = w.heap.size := ⟨_, rfl⟩
  obtain ⟨l, hl⟩ : ∃ l, l = w.heap.size + 1 := ⟨_, rfl⟩
  obtain ⟨W1, hW1⟩ : ∃ W1, (w.alloc (.deferred (some []))).alloc (.loop (rec .ready none)) = W1 := ⟨_, rfl⟩
  have hb1 : Below w.heap.size w W1 := by
    rw [← hW1]; exact ((Below.refl _ w).alloc (Nat.le_refl _) _).alloc (by simp) _
  have hL1 : W1.heap[l]? = some (.loop (rec .ready none)) := by
    rw [← hW1, hl]; have := World.alloc_heap_new (w.alloc (.deferred (some []))) (.loop (rec .ready none)); rwa [World.size_alloc] at this
  have hK1 : W1.heap[D]? = some (.deferred (some [])) := by
    rw [← hW1, hD]; exact (Below.heap_alloc _ _ _ (by simp)).trans (World.alloc_heap_new w _)
  have ho1 : Own C (H' 0 s0) W1 := ho.below hb1
  have hCW := ho.orig.size
  have hCw := ho.base.size
  have hDm : D ∉ C.marks := fun hm => by
    have := (Array.getElem?_eq_some_iff.1 (ho.mark.2 D hm).2).1; omega
  have hlW : l < W1.heap.size := (Array.getElem?_eq_some_iff.1 hL1).1
  have hDW : D < W1.heap.size := (Array.getElem?_eq_some_iff.1 hK1).1
  obtain ⟨G, hG⟩ : ∃ G : Nat → Prop, G = fun k => k ∈ bls (H' 0 s0) ∨ k = l := ⟨_, rfl⟩
  have hold : ∀ {H : List Res}, Own C H W1 → True := fun _ => trivial
  -- what stands between two rounds
  let J : Nat → (Nat → Prop) → World → Prop := fun i B W => ∃ s, I i s ∧ (B = fun k => k ∈ bls (H' i s) ∨ k = l) ∧ Own C (H' i s) W ∧ (∀ k ∈ bls (H' i s), W1.heap.size ≤ k ∨ k ∈ bls (H' 0 s0)) ∧ Frm W1 G W ∧ W.heap[l]? = some (.loop (rec .ready none)) ∧ W.heap[D]? = some (.deferred (some []))
  let Jx : (Nat → Prop) → World → Prop := fun B W => ∃ c s, Ix c s ∧ (B = fun k => k ∈ bls (Hx c s) ∨ k = l) ∧ Own C (Hx c s) W ∧ Frm W1 G W ∧ W.heap[l]? = some (.loop (rec .done (some c))) ∧ W.heap[D]? = some (.deferred (some []))
  have ownF : ∀ {H : List Res} {W W' : World}, Own C H W → W1.heap.size ≤ W.heap.size → Frm W (fun k => W1.heap.size ≤ k ∧ ¬ (k ∈ bls H ∨ k = l)) W' → Own C H W' := fun {H W W'} h hs hF => by
    have hsz := hb1.size
    refine ⟨h.orig.trans hF (fun k hk hk' => absurd hk'.1 (by omega)), h.base.trans hF (fun k hk hk' => absurd hk'.1 (by omega)), fun q hq => ok_same (h.ok q hq) hF.size fun k hk => hF.old k (ok_lt (h.ok q hq) k hk) (fun hk' => hk'.2 (.inl (mem_bls.2 ⟨q, hq, hk⟩))), h.nodup, h.mine, h.sub, h.mark.1, fun D' hD' => ⟨(h.mark.2 D' hD').1, ?_⟩⟩
    have hlt : D' < w.heap.size := (Array.getElem?_eq_some_iff.1 (ho.mark.2 D' hD').2).1
    exact (hF.old D' (Array.getElem?_eq_some_iff.1 (h.mark.2 D' hD').2).1 (fun hk' => absurd hk'.1 (by omega))).trans (h.mark.2 D' hD').2
  have frmF : ∀ {W W' : World} {B : Nat → Prop}, Frm W1 G W → Frm W (fun k => W1.heap.size ≤ k ∧ ¬ B k) W' → Frm W1 G W' := fun h hF => h.trans hF (fun k hk hk' => absurd hk'.1 (by omega))
  have keepH : ∀ {W W' : World} {B : Nat → Prop} {k : Nat} {o : Obj}, Frm W (fun k => W1.heap.size ≤ k ∧ ¬ B k) W' → k < W1.heap.size → W.heap[k]? = some o → W'.heap[k]? = some o := fun hF hk hko => (hF.old _ (Array.getElem?_eq_some_iff.1 hko).1 (fun hk' => absurd hk'.1 (by omega))).trans hko
  have hJst : ∀ i B W W', J i B W → Frm W (fun k => W1.heap.size ≤ k ∧ ¬ B k) W' → J i B W' := by
    rintro i B W W' ⟨s, h1, hBe, h2, h3, h4, h5, h6⟩ hF
    exact ⟨s, h1, hBe, ownF h2 h4.size (by rw [hBe] at hF; exact hF), h3, frmF h4 hF, keepH hF hlW h5, keepH hF hDW h6⟩
  have hxst : ∀ B W W', Jx B W → Frm W (fun k => W1.heap.size ≤ k ∧ ¬ B k) W' → Jx B W' := by
    rintro B W W' ⟨c, s, h1, hBe, h2, h4, h5, h6⟩ hF
    exact ⟨c, s, h1, hBe, ownF h2 h4.size (by rw [hBe] at hF; exact hF), frmF h4 hF, keepH hF hlW h5, keepH hF hDW h6⟩
  have hcall := hseq W1 G (fun k => k ∈ bls (H' 0 s0) ∨ k = l) (by rintro k hk; rw [hG] at hk; rcases hk with hk | rfl; exact .inl hk; exact .inr ⟨_, hL1⟩) ho1 l J Jx
    (fun i B W ⟨s, _, hBe, h2, _, h4, h5, _⟩ => ⟨h4, fun k hk => by
      rw [hBe] at hk
      rcases hk with hk | rfl
      · exact h2.lt k hk
      · exact (Array.getElem?_eq_some_iff.1 h5).1⟩) (fun B W ⟨c, s, _, _, _, h4, _⟩ => h4) hJst hxst ?_ ⟨s0, h0, rfl, ho1, fun k hk => .inr hk, Frm.refl _ _, hL1, hK1⟩
  · refine ⟨l, [{ target := .collected D, args := #[] }], W1, { target := .fn (.func gf) lb.toArray, args := #[.func (.yield l) #[] #[]] }, W1, gf, (yv l :: lb).toArray, W1, ?_, ?_, ?_, ?_, fun h => by simp [fe, Fence.wide] at h, ?_⟩
    · rw [← hW1, hrec, hl, hD]; exact run_enterLoop_outer _ _ _ _ _
    · simp only [resolve, hf.eval hg]
      simp [go_sem, Deferred.ofValue]
    · intro f' hf'; trivial
    · simp [invoke, go_sem, run_entr he]
    · refine callsIn_fe.2 (hcall.mono ?_)
      have hdf' : DF (C.mk' D) { a with defers := { target := .collected D, args := #[] } :: a.defers } := by
        unfold DF at hdf ⊢; simp [Ctx.mk', markOf, hdf]
      rintro e W2 ⟨⟨v, rfl⟩, B, (⟨s, h1, _, h2, h3, h4, h5, h6⟩ | ⟨c, s, h1, _, h2, h4, h5, h6⟩)⟩
      · refine ⟨none, _, by have := run_endLoop (P := P) h5 (by rw [hrec]; simp); rw [hrec] at this; exact this, ?_⟩
        exact done D s h1 _ _ ⟨hf.size, hf.get⟩ hdf' (Own.mk' (h2.putLoop h5 (by omega) (by omega) _) ((World.putObj_heap_other (by omega)).trans h6) (by omega) hDm)
      · refine ⟨some c, _, by have := run_endLoop (P := P) h5 (by rw [hrec]; simp); rw [hrec] at this; exact this, ?_⟩
        exact stop D c s h1 _ _ ⟨hf.size, hf.get⟩ hdf' (Own.mk' (h2.putLoop h5 (by omega) (by omega) _) ((World.putObj_heap_other (by omega)).trans h6) (by omega) hDm)
  · -- one round
    rintro i B x W hx ⟨s, h1, hBe, h2, h3, h4, h5, h6⟩
    have hy := run_yield (P := P) (args := #[x.1, x.2]) h5 (by rw [hrec]; rfl)
    rw [hrec] at hy
    refine ⟨fn, _, _, body, hy, roundIn_of_wpIn trivial ?_⟩
    have hE1 : Fits n ((p1, x.1) :: E) { tmps := a.tmps.setIfInBounds p1 x.1, defers := [] } := Fits.put (d := some p1) (a := { a with defers := [] }) ⟨hf.size, hf.get⟩ (by simpa [inB] using hp1)
    have hE2 : Fits n ((p2, x.2) :: (p1, x.1) :: E) { tmps := (a.tmps.setIfInBounds p1 x.1).setIfInBounds p2 x.2, defers := [] } := Fits.put (d := some p2) hE1 (by simpa [inB] using hp2)
    have hfold : (#[p1, p2].zip #[x.1, x.2]).foldl (fun tmps (t, a) => tmps.setIfInBounds t a) a.tmps = (a.tmps.setIfInBounds p1 x.1).setIfInBounds p2 x.2 := by simp
    show assign.wpIn (fe (some l)) 0 P _ { tmps := (#[p1, p2].zip #[x.1, x.2]).foldl (fun tmps (t, a) => tmps.setIfInBounds t a) a.tmps, defers := [] } W
    rw [hfold]
    refine wpIn_mono (asg l i x s W hx h1 h2 _ _ hE2 rfl h2.into) ?_
    rintro e1 a1 w1 hq1
    cases e1 with
    | normal =>
      obtain ⟨hd1, j, hf1, hin1⟩ := hq1
      have ho2 := h2.outof hin1
      have hfr1 : Frm W (fun k => k ∈ bls (H' i s)) w1 := by obtain ⟨b, F, hin1⟩ := hin1; exact hin1.orig
      have hm1 : ∀ k ∈ bls (H1 i x s j), W.heap.size ≤ k ∨ k ∈ bls (H' i s) := fun k hk => by obtain ⟨b, F, hin1⟩ := hin1; exact (hin1.mine k hk).1
      have h5' : w1.heap[l]? = some (.loop (rec .ready none)) := (hfr1.old l (Array.getElem?_eq_some_iff.1 h5).1 (h2.notOther h5 (by simp))).trans h5
      have h6' : w1.heap[D]? = some (.deferred (some [])) := (hfr1.old D (Array.getElem?_eq_some_iff.1 h6).1 (h2.notOther h6 (by simp))).trans h6
      refine ⟨_, run_beginRound h5' (by rw [hrec]), ?_⟩
      have hlt : l < w1.heap.size := (Array.getElem?_eq_some_iff.1 h5').1
      obtain ⟨Wb, hWb⟩ : ∃ Wb, Wb = w1.putObj l (.loop { rec .ready none with state := .busy }) := ⟨_, rfl⟩
      have hlb : Wb.heap[l]? = some (.loop (rec .busy none)) := by rw [hWb, World.putObj_heap_same hlt, hrec]
      have hDb : Wb.heap[D]? = some (.deferred (some [])) := by rw [hWb, World.putObj_heap_other (by omega)]; exact h6'
      have hob : Own C (H1 i x s j) Wb := by rw [hWb]; exact ho2.putLoop h5' (by omega) (by omega) _
      have hfW : Frm W (fun k => k ∈ bls (H' i s) ∨ k = l) Wb := by
        rw [hWb]; exact (hfr1.mono (fun k _ h => .inl h)).trans (frm_putObj w1 l _) (fun k hk e => .inr e)
      have hfb : Frm W1 G Wb := h4.trans hfW (fun k hk e => by
        rw [hG]
        rcases e with e | e
        · exact .inl ((h3 k e).resolve_left (by omega))
        · exact .inr e)
      have hlW' : l < W.heap.size := (Array.getElem?_eq_some_iff.1 h5).1
      have hsz1 := h4.size
      have hsz2 := hfr1.size
      have hsz3 := hfW.size
      rw [← hWb]
      refine wpIn_mono (round l i x s j Wb hx h1 hob _ _ hf1 (by simp [DF, hd1]) hob.into) ?_
      have fin : ∀ (jump : Option Code) (H3 : List Res) (W3 : World), InR Wb (fun k => k ∈ bls (H1 i x s j)) H3 W3 → ∃ W4, (Instr.endRound l jump).run P W3 = .ok (.bool jump.isNone) W4 ∧ Own C H3 W4 ∧ (∀ k ∈ bls H3, W1.heap.size ≤ k ∨ k ∈ bls (H' 0 s0)) ∧ Frm W1 G W4 ∧
          W4.heap[l]? = some (.loop (rec (if jump.isNone then .ready else .done) jump)) ∧ W4.heap[D]? = some (.deferred (some [])) ∧ Frm W B W4 ∧ ∀ k, (k ∈ bls H3 ∨ k = l) → B k ∨ W.heap.size ≤ k := by
        intro jump H3 W3 hin
        have ho3 := hob.outof hin
        obtain ⟨b, F, hin⟩ := hin
        have hl3 : W3.heap[l]? = some (.loop (rec .busy none)) := (hin.orig.old l (Array.getElem?_eq_some_iff.1 hlb).1 (hob.notOther hlb (by simp))).trans hlb
        have hD3 : W3.heap[D]? = some (.deferred (some [])) := (hin.orig.old D (Array.getElem?_eq_some_iff.1 hDb).1 (hob.notOther hDb (by simp))).trans hDb
        have hW3 : Frm W (fun k => k ∈ bls (H' i s) ∨ k = l) W3 := hfW.trans hin.orig (fun k hk hB => .inl ((hm1 k hB).resolve_left (by omega)))
        have hf3 : Frm W1 G W3 := h4.trans hW3 (fun k hk e => by
          rw [hG]
          rcases e with e | e
          · exact .inl ((h3 k e).resolve_left (by omega))
          · exact .inr e)
        have he3 := run_endRound (P := P) jump hl3
        rw [hrec] at he3
        have hm3 : ∀ k ∈ bls H3, W.heap.size ≤ k ∨ k ∈ bls (H' i s) := fun k hk => by
          rcases (hin.mine k hk).1 with h | h
          · have h : Wb.heap.size ≤ k := h
            exact .inl (by omega)
          · exact hm1 k h
        refine ⟨_, he3, ho3.putLoop hl3 (by omega) (by omega) _, fun k hk => ?_, hf3.trans (frm_putObj W3 l _) (fun k hk e => by rw [hG]; exact .inr e), by rw [World.putObj_heap_same (Array.getElem?_eq_some_iff.1 hl3).1, hrec], (World.putObj_heap_other (by omega)).trans hD3, ?_, fun k hk => ?_⟩
        · rcases hm3 k hk with h | h
          · exact .inl (by omega)
          · exact h3 k h
        · rw [hBe]; exact hW3.trans (frm_putObj W3 l _) (fun k hk e => .inr e)
        · rw [hBe]
          rcases hk with hk | rfl
          · rcases hm3 k hk with h | h
            · exact .inr h
            · exact .inl (.inl h)
          · exact .inl (.inr rfl)
      rintro e a3 W3 hq
      cases e with
      | normal =>
        obtain ⟨s', hi', hin⟩ := hq
        obtain ⟨W4, hr, q1, q2, q3, q4, q5, q6, q7⟩ := fin none _ W3 hin
        exact ⟨_, W4, hr, _, q6, q7, .inl ⟨rfl, s', hi', rfl, q1, q2, q3, q4, q5⟩⟩
      | ret =>
        obtain ⟨s', hi', hin⟩ := hq
        obtain ⟨W4, hr, q1, q2, q3, q4, q5, q6, q7⟩ := fin (some .ret) _ W3 hin
        exact ⟨_, W4, hr, _, q6, q7, .inr ⟨rfl, .ret, s', hi', rfl, q1, q3, q4, q5⟩⟩
      | exit id =>
        obtain ⟨s', hi', hin⟩ := hq
        obtain ⟨W4, hr, q1, q2, q3, q4, q5, q6, q7⟩ := fin (some (.exit id)) _ W3 hin
        exact ⟨_, W4, hr, _, q6, q7, .inr ⟨rfl, .exit id, s', hi', rfl, q1, q3, q4, q5⟩⟩
      | goto t =>
        obtain ⟨s', hi', hin⟩ := hq
        obtain ⟨W4, hr, q1, q2, q3, q4, q5, q6, q7⟩ := fin (some (.goto t)) _ W3 hin
        exact ⟨_, W4, hr, _, q6, q7, .inr ⟨rfl, .goto t, s', hi', rfl, q1, q3, q4, q5⟩⟩
      | panic ch => exact hq.elim
      | outgrown => exact hq.elim
    | ret => exact hq1.elim
    | exit id => exact hq1.elim
    | goto t => exact hq1.elim
    | panic ch => exact hq1.elim
    | outgrown => exact hq1.elim
end
end Go.Proofs.YtjpfebgpcokenaaDoor
