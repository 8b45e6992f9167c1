/-
  The steps of the calculus of walks: one lemma for each form of code and for each operation. No condition of its own.
-/
import Derived.Test.YtjpfebgpcokenaaDoorAt
import Derived.Deep.LoopGhost
import Derived.Scope
import Derived.RangeFuncRecord
set_option linter.unusedSimpArgs false
set_option linter.unusedVariables false
namespace Go.Proofs.YtjpfebgpcokenaaDoor
open Go.RowKit

/-! ## The walk of code, in a frame of its own (none) or in a round of a loop over a function (its record) -/
def fe (r : Option Nat) : Fence := { Fence.wide with round := r }
theorem room_fe (r : Option Nat) (n : Nat) : (fe r).room n := fun _ h => by simp [fe, Fence.wide] at h
theorem callsIn_fe {r : Option Nat} {n : Nat} {P : Program} {f : FuncId} {args : Array Value} {w : World} {R : Ending → World → Prop} : CallsIn (fe r) n P f args w R ↔ Calls P f args w R :=
  (callsIn_wide (n := n) (P := P) (f := f) (args := args) (w := w) (R := R))
def cwp (r : Option Nat) (P : Program) (c : Code) (Q : Exit → Act → World → Prop) : Act → World → Prop := c.wpIn (fe r) 0 P Q
def lwp (r : Option Nat) (P : Program) (ops : Array Oper) (Q : Exit → Act → World → Prop) : List Oper → Act → World → Prop := wpListIn (fe r) 0 P ops Q
theorem cwp_none {P : Program} {c : Code} {Q : Exit → Act → World → Prop} {a : Act} {w : World} : cwp none P c Q a w ↔ c.wp P Q a w := wpIn_wide
def Op.isDefer : Op → Bool
  | .defer _ => true
  | _ => false
theorem semAt_of {r : Option Nat} {ρ : Operand → Value} {o : Oper} (h : Op.isDefer o.op = false) : o.semAt r ρ = execOp ρ o := by
  cases r with
  | none => rfl
  | some l => exact Oper.semAt_some l ρ o fun c hc => by rw [hc] at h; cases h
theorem lwp_plain {r : Option Nat} {P : Program} {ops : Array Oper} {Q : Exit → Act → World → Prop} {a : Act} {w : World} {rest : List Oper} {o : Oper} (hg : o.guard = none) (hd : Op.isDefer o.op = false)
    (h : o.uponIn (fe r) 0 P a (lwp r P ops Q rest) Q ((execOp a.eval o).run P w)) : lwp r P ops Q (o :: rest) a w :=
  wpListIn_plain hg fun K hK => ⟨fun _ _ => trivial, by
    rw [semAt_of hd]
    generalize (execOp a.eval o).run P w = res at h
    have hm := Oper.wpIn_mono (F := fe r) (n := 0) (P := P) (Q := Q) (o := o) (a := a) (w := w) (K := lwp r P ops Q rest) (K' := K) hK
    cases res with
    | ok x w' =>
      cases x <;> simp only [Oper.uponIn] at h ⊢ <;>
        first
          | exact hK _ _ h
          | exact ⟨h.1, CallsIn.mono h.2 (fun e w'' he => by cases e <;> first | exact hK _ _ he | exact he)⟩
          | exact ⟨h.1, RowsIn.mono h.2 (fun _ _ he => hK _ _ he)⟩
          | exact ⟨h.1, RoundIn.mono h.2 (fun e w'' he => by cases e <;> first | exact hK _ _ he | exact he)⟩
    | halt x w' => cases x <;> simp only [Oper.uponIn] at h ⊢ <;> exact h⟩
theorem lwp_cons {r : Option Nat} {P : Program} {ops : Array Oper} {Q : Exit → Act → World → Prop} {a : Act} {w : World} {rest : List Oper} {o : Oper} : lwp r P ops Q (o :: rest) a w ↔
    if Region.wanted o (yielded ops a.tmps) then o.wpIn (fe r) 0 P a w (lwp r P ops Q rest) Q else lwp r P ops Q rest (a.put o.dst undef) w := by
  unfold lwp
  rw [wpListIn]
  split
  · exact Iff.rfl
  · exact ⟨fun h => h.2, fun h => ⟨fun _ _ => trivial, h⟩⟩
/-- What a call asks. -/
theorem upon_call {r : Option Nat} {P : Program} {o : Oper} {a : Act} {w : World} {next : Act → World → Prop} {Q : Exit → Act → World → Prop} {f : FuncId} {args : Array Value} {R : Ending → World → Prop}
    (h : Calls P f args w R) (hR : ∀ e w', R e w' → ∃ v, e = .returned v ∧ next (a.put o.dst v) w') : o.uponIn (fe r) 0 P a next Q (.ok (.enter f args) w) := by
  rw [Oper.uponIn_enter]
  refine ⟨fun hd => by simp [fe, Fence.wide] at hd, callsIn_fe.2 (h.mono fun e w' he => ?_)⟩
  obtain ⟨v, rfl, hv⟩ := hR e w' he
  exact hv

section
variable {P : Program} {r : Option Nat} {n : Nat} {E E' : List (Nat × Value)} {C : Ctx} {H : List Res} {Q : Exit → Act → World → Prop} {K : Act → World → Prop} {ops : Array Oper} {rest : List Oper}

theorem at_weak (he : ele E' E) (h : At n E' C H K) : At n E C H K := fun a w hf hd ho => h a w (hf.weak he) hd ho
theorem at_mono {K' : Act → World → Prop} (hk : ∀ a w, K' a w → K a w) (h : At n E C H K') : At n E C H K := fun a w hf hd ho => hk _ _ (h a w hf hd ho)
/-- What holds of memory may be told anew. -/
theorem at_own {C' : Ctx} {H' : List Res} (hm : C'.marks = C.marks) (ho : ∀ w, Own C H w → Own C' H' w) (h : At n E C' H' K) : At n E C H K := fun a w hf hd hw => h a w hf (by unfold DF at *; rw [hm]; exact hd) (ho w hw)
/-- From here on memory as it stands is what does not turn. -/
def Ctx.re (C : Ctx) (w : World) (H : List Res) : Ctx := { C with w := w, F := fun k => k ∈ bls H }
theorem Own.re {w : World} (h : Own C H w) : Own (C.re w H) H w :=
  ⟨h.orig, Frm.refl _ _, h.ok, h.nodup, fun k hk => ⟨(h.mine k hk).1, .inr hk⟩, h.sub, h.mark⟩
theorem at_re (h : ∀ w, Own C H w → At n E (C.re w H) H K) : At n E C H K := fun a w hf hd hw => h w hw a w hf hd hw.re
theorem bls_sub {H' : List Res} (hs : H'.Sublist H) : (bls H').Sublist (bls H) := by
  unfold bls
  induction hs with
  | slnil => exact List.Sublist.refl _
  | cons a _ ih => rw [List.flatMap_cons]; exact ih.trans (List.sublist_append_right _ _)
  | cons_cons a _ ih => rw [List.flatMap_cons, List.flatMap_cons]; exact (List.Sublist.refl _).append ih
theorem Own.sublist {w : World} {H' : List Res} (hs : H'.Sublist H) (h : Own C H w) : Own C H' w :=
  ⟨h.orig, h.base, fun r hr => h.ok r (hs.mem hr), (bls_sub hs).nodup h.nodup, fun k hk => h.mine k ((bls_sub hs).mem hk), h.sub, h.mark⟩

theorem at_seq {x y : Code} (h : At n E C H (cwp r P x (Exit.then (cwp r P y Q) Q))) : At n E C H (cwp r P (Code.seq x y) Q) := fun a w hf hd ho => wpIn_seq (h a w hf hd ho)
theorem at_block {id : Nat} {c : Code} (h : At n E C H (cwp r P c (Exit.inBlock id Q))) : At n E C H (cwp r P (Code.block id c) Q) := fun a w hf hd ho => wpIn_block (h a w hf hd ho)
theorem at_skip (h : At n E C H (Q .normal)) : At n E C H (cwp r P Code.skip Q) := fun a w hf hd ho => wpIn_skip (h a w hf hd ho)
theorem at_exit {id : Nat} (h : At n E C H (Q (.exit id))) : At n E C H (cwp r P (Code.exit id) Q) := fun a w hf hd ho => wpIn_exit (h a w hf hd ho)
theorem at_ret (h : At n E C H (Q .ret)) : At n E C H (cwp r P Code.ret Q) := fun a w hf hd ho => wpIn_ret (h a w hf hd ho)
theorem at_cond {c : Operand} {x y : Code} {t : Bool} (hc : ev E c = some (.bool t)) (ht : t = true → At n E C H (cwp r P x Q)) (hf : t = false → At n E C H (cwp r P y Q)) : At n E C H (cwp r P (Code.cond c x y) Q) :=
  fun a w hfi hd ho => wpIn_cond_split (hfi.eval hc) (fun h => ht h a w hfi hd ho) (fun h => hf h a w hfi hd ho)
theorem at_condD {c : Operand} {x y : Code} {p : Prop} [Decidable p] (hc : ev E c = some (.bool (decide p))) (ht : p → At n E C H (cwp r P x Q)) (hf : ¬ p → At n E C H (cwp r P y Q)) : At n E C H (cwp r P (Code.cond c x y) Q) :=
  at_cond hc (fun h => ht (of_decide_eq_true h)) (fun h => hf (of_decide_eq_false h))
theorem at_condN {c : Operand} {x y : Code} {b : Bool} (hc : ev E c = some (.bool (!b))) (ht : b = false → At n E C H (cwp r P x Q)) (hf : b = true → At n E C H (cwp r P y Q)) : At n E C H (cwp r P (Code.cond c x y) Q) :=
  at_cond hc (fun h => ht (by simpa using h)) (fun h => hf (by simpa using h))
theorem at_cond_true {c : Operand} {x y : Code} (hc : ev E c = some (.bool true)) (ht : At n E C H (cwp r P x Q)) : At n E C H (cwp r P (Code.cond c x y) Q) :=
  at_cond hc (fun _ => ht) (fun h => by cases h)
theorem at_cond_false {c : Operand} {x y : Code} (hc : ev E c = some (.bool false)) (ht : At n E C H (cwp r P y Q)) : At n E C H (cwp r P (Code.cond c x y) Q) :=
  at_cond hc (fun h => by cases h) (fun _ => ht)
theorem at_cond_t {c : Operand} {x y : Code} {t : Bool} (hc : ev E c = some (.bool t)) (ht : t = true) (k : At n E C H (cwp r P x Q)) : At n E C H (cwp r P (Code.cond c x y) Q) :=
  at_cond hc (fun _ => k) (fun h => by rw [ht] at h; cases h)
theorem at_cond_f {c : Operand} {x y : Code} {t : Bool} (hc : ev E c = some (.bool t)) (ht : t = false) (k : At n E C H (cwp r P y Q)) : At n E C H (cwp r P (Code.cond c x y) Q) :=
  at_cond hc (fun h => by rw [ht] at h; cases h) (fun _ => k)
theorem at_region {id : Nat} {l : List Oper} (h : At n E C H (lwp r P l.toArray Q l)) : At n E C H (cwp r P (Code.region id l.toArray false) Q) :=
  fun a w hf hd ho => wpIn_region_lit (h a w hf hd ho)
theorem at_nil (h : At n E C H (Q .normal)) : At n E C H (lwp r P ops Q []) := fun a w hf hd ho => wpListIn_nil (h a w hf hd ho)
theorem at_then (h : At n E C H K) : At n E C H (Exit.then K Q .normal) := h
theorem at_then_exit {id : Nat} (h : At n E C H (Q (.exit id))) : At n E C H (Exit.then K Q (.exit id)) := h
theorem at_then_ret (h : At n E C H (Q .ret)) : At n E C H (Exit.then K Q .ret) := h
theorem at_inb {id : Nat} (h : At n E C H (Q .normal)) : At n E C H (Exit.inBlock id Q .normal) := h
theorem at_inb_ret {id : Nat} (h : At n E C H (Q .ret)) : At n E C H (Exit.inBlock id Q .ret) := h
theorem at_inb_here {id : Nat} (h : At n E C H (Q .normal)) : At n E C H (Exit.inBlock id Q (.exit id)) := fun a w hf hd ho => by
  have := h a w hf hd ho
  simpa [Exit.inBlock] using this
theorem at_inb_far {id id' : Nat} (hne : Nat.beq id' id = false) (h : At n E C H (Q (.exit id'))) : At n E C H (Exit.inBlock id Q (.exit id')) := fun a w hf hd ho => by
  have := h a w hf hd ho
  have hne' : ¬ id' = id := fun e => by subst e; simp at hne
  simpa [Exit.inBlock, hne'] using this
theorem at_scope {c : Code} (h : At n E C H (cwp none P c (Exit.noGoto Q))) : At n E C H (cwp none P (Code.scope c) Q) := fun a w hf hd ho => cwp_none.2 (wp_scope_straight (cwp_none.1 (h a w hf hd ho)))
theorem at_nog (h : At n E C H (Q .normal)) : At n E C H (Exit.noGoto Q .normal) := h
theorem at_nog_exit {id : Nat} (h : At n E C H (Q (.exit id))) : At n E C H (Exit.noGoto Q (.exit id)) := h
theorem at_nog_ret (h : At n E C H (Q .ret)) : At n E C H (Exit.noGoto Q .ret) := h

theorem cwp_loop_ghost {a : Act} {w : World} {c : Code} (I : Nat → Act → World → Prop) (n₀ : Nat) (h₀ : I n₀ a w)
    (round : ∀ n a w, I n a w → cwp r P c (Exit.then (fun a' w' => ∃ n', n' < n ∧ I n' a' w') Q) a w) : cwp r P (Code.loop c) Q a w := by
  refine wpIn_loop (fun a w => ∃ n, I n a w) (fun a w => leastOf (fun n => I n a w)) ⟨n₀, h₀⟩ ?_
  intro a w hI
  refine wpIn_mono (round _ a w (leastOf_spec hI).1) ?_
  intro e a' w' hq
  cases e with
  | normal =>
    obtain ⟨n', hlt, hI'⟩ := hq
    exact show (∃ n, I n a' w') ∧ leastOf (fun n => I n a' w') < leastOf (fun n => I n a w) from ⟨⟨n', hI'⟩, Nat.lt_of_le_of_lt ((leastOf_spec ⟨n', hI'⟩).2 n' hI') hlt⟩
  | exit id => exact hq
  | goto l => exact hq
  | ret => exact hq
  | panic ch => exact hq
  | outgrown => exact hq
/-- What a round hands on. -/
def Again {σ : Type} (n : Nat) (I : σ → Prop) (E' : σ → List (Nat × Value)) (C' : σ → Ctx) (H' : σ → List Res) (μ : σ → Nat) (m : Nat) (a : Act) (w : World) : Prop := ∃ s', I s' ∧ μ s' < m ∧ Fits n (E' s') a ∧ DF (C' s') a ∧ Own (C' s') (H' s') w
theorem at_loop {σ : Type} {c : Code} (I : σ → Prop) (E' : σ → List (Nat × Value)) (C' : σ → Ctx) (H' : σ → List Res) (μ : σ → Nat)
    (init : ∀ w, Own C H w → ∃ s0, I s0 ∧ ele (E' s0) E ∧ (C' s0).marks = C.marks ∧ Own (C' s0) (H' s0) w)
    (round : ∀ s, I s → At n (E' s) (C' s) (H' s) (cwp r P c (Exit.then (Again n I E' C' H' μ (μ s)) Q))) : At n E C H (cwp r P (Code.loop c) Q) := by
  intro a w hf hd ho
  obtain ⟨s0, hi, he, hm, ho'⟩ := init w ho
  refine cwp_loop_ghost (fun m a w => ∃ s, I s ∧ μ s = m ∧ Fits n (E' s) a ∧ DF (C' s) a ∧ Own (C' s) (H' s) w) (μ s0) ⟨s0, hi, rfl, hf.weak he, by unfold DF at *; rw [hm]; exact hd, ho'⟩ ?_
  rintro m a w ⟨s, hi, rfl, hf, hd, ho⟩
  refine wpIn_mono (round s hi a w hf hd ho) ?_
  intro e a' w' hq
  cases e with
  | normal =>
    obtain ⟨s', hi', hlt, hf', hd', ho'⟩ := hq
    exact ⟨μ s', hlt, s', hi', rfl, hf', hd', ho'⟩
  | exit id => exact hq
  | goto l => exact hq
  | ret => exact hq
  | panic ch => exact hq
  | outgrown => exact hq
/-- A loop that turns nothing but slots: memory and what is known of it stay. -/
theorem at_loop0 {σ : Type} {c : Code} (I : σ → Prop) (E' : σ → List (Nat × Value)) (μ : σ → Nat) (s0 : σ) (hi : I s0) (he : ele (E' s0) E)
    (round : ∀ s, I s → At n (E' s) C H (cwp r P c (Exit.then (Again n I E' (fun _ => C) (fun _ => H) μ (μ s)) Q))) : At n E C H (cwp r P (Code.loop c) Q) :=
  at_loop I E' (fun _ => C) (fun _ => H) μ (fun w ho => ⟨s0, hi, he, rfl, ho⟩) round
/-- A loop that turns slots and its own blocks. -/
theorem at_loopH {σ : Type} {c : Code} (I : σ → Prop) (E' : σ → List (Nat × Value)) (H' : σ → List Res) (μ : σ → Nat) (init : ∀ w, Own C H w → ∃ s0, I s0 ∧ ele (E' s0) E ∧ Own C (H' s0) w)
    (round : ∀ s, I s → At n (E' s) C (H' s) (cwp r P c (Exit.then (Again n I E' (fun _ => C) H' μ (μ s)) Q))) : At n E C H (cwp r P (Code.loop c) Q) :=
  at_loop I E' (fun _ => C) H' μ (fun w ho => by obtain ⟨s0, h1, h2, h3⟩ := init w ho; exact ⟨s0, h1, h2, rfl, h3⟩) round
theorem at_again {σ : Type} {I : σ → Prop} {E' : σ → List (Nat × Value)} {C' : σ → Ctx} {H' : σ → List Res} {μ : σ → Nat} {m : Nat} (s' : σ) (hi : I s') (hm : μ s' < m) (he : ele (E' s') E) (hk : (C' s').marks = C.marks) (ho : ∀ w, Own C H w → Own (C' s') (H' s') w) :
    At n E C H (Again n I E' C' H' μ m) := fun a w hf hd hw => ⟨s', hi, hm, hf.weak he, by unfold DF at *; rw [hk]; exact hd, ho w hw⟩
theorem at_again0 {σ : Type} {I : σ → Prop} {E' : σ → List (Nat × Value)} {μ : σ → Nat} {m : Nat} (s' : σ) (hi : I s') (hm : μ s' < m) (he : ele (E' s') E) :
    At n E C H (Again n I E' (fun _ => C) (fun _ => H) μ m) := fun a w hf hd hw => ⟨s', hi, hm, hf.weak he, hd, hw⟩
theorem at_againw {σ : Type} {I : σ → Prop} {E' : σ → List (Nat × Value)} {C' : σ → Ctx} {H' : σ → List Res} {μ : σ → Nat} {m : Nat} (h : ∀ w, Own C H w → ∃ s', I s' ∧ μ s' < m ∧ ele (E' s') E ∧ (C' s').marks = C.marks ∧ Own (C' s') (H' s') w) :
    At n E C H (Again n I E' C' H' μ m) := fun a w hf hd hw => by
  obtain ⟨s', h0, h1, h2, h4, h3⟩ := h w hw
  exact ⟨s', h0, h1, hf.weak h2, by unfold DF at *; rw [h4]; exact hd, h3⟩

/-! ### Operations -/

/-- In such a frame and such memory the operation yields v, and turns nothing. -/
def Does (P : Program) (n : Nat) (E : List (Nat × Value)) (C : Ctx) (H : List Res) (o : Oper) (v : Value) : Prop := ∀ a w, Fits n E a → Own C H w → (execOp a.eval o).run P w = .ok (.value v) w
theorem at_does {o : Oper} {v : Value} (h : Does P n E C H o v) (hg : o.guard = none) (hn : Op.isDefer o.op = false) (hd : inB n o.dst = true) (k : At n (eput E o.dst v) C H (lwp r P ops Q rest)) : At n E C H (lwp r P ops Q (o :: rest)) := by
  intro a w hf hm ho
  refine lwp_plain hg hn ?_
  rw [h a w hf ho]
  exact k _ _ (hf.put hd) (hm.put _ _) ho
theorem at_do {d : Nat} {op : Op} {ty : TypeId} {pos : String} {after : Array Edge} {v : Value} (h : Does P n E C H ⟨some d, op, ty, pos, after, none⟩ v) (hn : Op.isDefer op = false) (hd : Nat.blt d n = true) (k : At n ((d, v) :: E) C H (lwp r P ops Q rest)) : At n E C H (lwp r P ops Q (⟨some d, op, ty, pos, after, none⟩ :: rest)) :=
  at_does h rfl hn hd k
theorem at_op {ι : Type} {o : Oper} (v : ι → Value) (H' : ι → List Res)
    (h : ∀ a w, Fits n E a → Own C H w → ∃ i w', (execOp a.eval o).run P w = .ok (.value (v i)) w' ∧ Own C (H' i) w') (hg : o.guard = none) (hn : Op.isDefer o.op = false) (hd : inB n o.dst = true)
    (k : ∀ i, At n (eput E o.dst (v i)) C (H' i) (lwp r P ops Q rest)) : At n E C H (lwp r P ops Q (o :: rest)) := by
  intro a w hf hm ho
  refine lwp_plain hg hn ?_
  obtain ⟨i, w', h1, h2⟩ := h a w hf ho
  rw [h1]
  exact k i _ _ (hf.put hd) (hm.put _ _) h2
theorem at_opr {ι : Type} {o : Oper} (v : ι → Value) (H' : ι → List Res) (Φ : ι → World → Prop)
    (h : ∀ a w, Fits n E a → Own C H w → ∃ i w', (execOp a.eval o).run P w = .ok (.value (v i)) w' ∧ Own C (H' i) w' ∧ Φ i w') (hg : o.guard = none) (hn : Op.isDefer o.op = false) (hd : inB n o.dst = true)
    (k : ∀ i w1, Own C (H' i) w1 → Φ i w1 → At n (eput E o.dst (v i)) (C.re w1 (H' i)) (H' i) (lwp r P ops Q rest)) : At n E C H (lwp r P ops Q (o :: rest)) := by
  intro a w hf hm ho
  refine lwp_plain hg hn ?_
  obtain ⟨i, w', h1, h2, h3⟩ := h a w hf ho
  rw [h1]
  exact k i _ h2 h3 _ _ (hf.put hd) (hm.put _ _) h2.re
/-- A store: nothing is yielded. -/
theorem at_skipop {o : Oper} {H' : List Res} (h : ∀ a w, Fits n E a → Own C H w → ∃ w', (execOp a.eval o).run P w = .ok .skip w' ∧ Own C H' w') (hg : o.guard = none) (hn : Op.isDefer o.op = false) (hd : inB n o.dst = true)
    (k : At n (eput E o.dst undef) C H' (lwp r P ops Q rest)) : At n E C H (lwp r P ops Q (o :: rest)) := by
  intro a w hf hm ho
  refine lwp_plain hg hn ?_
  obtain ⟨w', h1, h2⟩ := h a w hf ho
  rw [h1]
  exact k _ _ (hf.put hd) (hm.put _ _) h2

def Enters (P : Program) (n : Nat) (E : List (Nat × Value)) (C : Ctx) (H : List Res) (o : Oper) (f : FuncId) (args : Array Value) : Prop :=
  ∀ a w, Fits n E a → Own C H w → (execOp a.eval o).run P w = .ok (.enter f args) w
theorem at_call {ι : Type} {o : Oper} {f : FuncId} {args : Array Value} (v : ι → Value) (H' : ι → List Res) (he : Enters P n E C H o f args)
    (hc : ∀ w, Own C H w → Calls P f args w fun e w' => ∃ i, e = .returned (v i) ∧ Own C (H' i) w') (hg : o.guard = none) (hn : Op.isDefer o.op = false) (hd : inB n o.dst = true)
    (k : ∀ i, At n (eput E o.dst (v i)) C (H' i) (lwp r P ops Q rest)) : At n E C H (lwp r P ops Q (o :: rest)) := by
  intro a w hf hm ho
  refine lwp_plain hg hn ?_
  rw [he a w hf ho]
  refine upon_call (hc w ho) ?_
  rintro e w' ⟨i, rfl, h2⟩
  exact ⟨_, rfl, k i _ _ (hf.put hd) (hm.put _ _) h2⟩
theorem at_callr {ι : Type} {o : Oper} {f : FuncId} {args : Array Value} (v : ι → Value) (H' : ι → List Res) (Φ : ι → World → Prop) (he : Enters P n E C H o f args)
    (hc : ∀ w, Own C H w → Calls P f args w fun e w' => ∃ i, e = .returned (v i) ∧ Own C (H' i) w' ∧ Φ i w') (hg : o.guard = none) (hn : Op.isDefer o.op = false) (hd : inB n o.dst = true)
    (k : ∀ i w1, Own C (H' i) w1 → Φ i w1 → At n (eput E o.dst (v i)) (C.re w1 (H' i)) (H' i) (lwp r P ops Q rest)) : At n E C H (lwp r P ops Q (o :: rest)) := by
  intro a w hf hm ho
  refine lwp_plain hg hn ?_
  rw [he a w hf ho]
  refine upon_call (hc w ho) ?_
  rintro e w' ⟨i, rfl, h2, h3⟩
  exact ⟨_, rfl, k i _ h2 h3 _ _ (hf.put hd) (hm.put _ _) h2.re⟩
/-- A callee that gives one of a kind, and turns nothing that was there. -/
theorem at_callk {d : Nat} {op : Op} {ty : TypeId} {pos : String} {after : Array Edge} {f : FuncId} {args : Array Value} {Φ : Value → World → Prop} (he : Enters P n E C H ⟨some d, op, ty, pos, after, none⟩ f args)
    (hc : ∀ w, Own C H w → Calls P f args w fun e w' => ∃ v, e = .returned v ∧ Below w.heap.size w w' ∧ Φ v w') (hn : Op.isDefer op = false) (hd : Nat.blt d n = true)
    (k : ∀ v w1, Own C H w1 → Φ v w1 → At n ((d, v) :: E) (C.re w1 H) H (lwp r P ops Q rest)) : At n E C H (lwp r P ops Q (⟨some d, op, ty, pos, after, none⟩ :: rest)) :=
  at_callr (ι := Value) (fun v => v) (fun _ => H) Φ he (fun w ho => (hc w ho).mono fun e w' ⟨v, h1, h2, h3⟩ => ⟨v, h1, ho.below h2, h3⟩) rfl hn hd k
/-- A callee that gives one value, whatever the world, and turns nothing that was there. -/
theorem at_call1 {o : Oper} {f : FuncId} {args : Array Value} {v : Value} (he : Enters P n E C H o f args)
    (hc : ∀ w, Own C H w → Calls P f args w fun e w' => e = .returned v ∧ Below w.heap.size w w') (hg : o.guard = none) (hn : Op.isDefer o.op = false) (hd : inB n o.dst = true)
    (k : At n (eput E o.dst v) C H (lwp r P ops Q rest)) : At n E C H (lwp r P ops Q (o :: rest)) :=
  at_call (ι := Unit) (fun _ => v) (fun _ => H) he (fun w ho => (hc w ho).mono fun e w' ⟨h1, h2⟩ => ⟨(), h1, ho.below h2⟩) hg hn hd (fun _ => k)
theorem at_callv {d : Nat} {op : Op} {ty : TypeId} {pos : String} {after : Array Edge} {f : FuncId} {args : Array Value} {v : Value} (he : Enters P n E C H ⟨some d, op, ty, pos, after, none⟩ f args)
    (hc : ∀ w, Own C H w → Calls P f args w fun e w' => e = .returned v ∧ Below w.heap.size w w') (hn : Op.isDefer op = false) (hd : Nat.blt d n = true)
    (k : At n ((d, v) :: E) C H (lwp r P ops Q rest)) : At n E C H (lwp r P ops Q (⟨some d, op, ty, pos, after, none⟩ :: rest)) := at_call1 he hc rfl hn hd k

/-! ### Guards -/
def yslot (ops : Array Oper) (j : Nat) : Option Nat := (ops[j]?).bind (·.dst)
def wantB : Value → Bool → Bool
  | .bool c, b => c == b
  | _, _ => false
theorem fits_wanted {a : Act} {o : Oper} (hf : Fits n E a) {j t : Nat} {b : Bool} {v : Value} (hg : o.guard = some (j, b)) (hj : yslot ops j = some t) (ht : eget E t = some v) : Region.wanted o (yielded ops a.tmps) = wantB v b := by
  unfold yslot at hj
  have h1 := hf.get t _ ht
  have h2 : yielded ops a.tmps j = match v with | .bool b => some b | _ => none := by
    unfold yielded
    rw [hj]
    simp only [Option.bind_some, h1]
    cases v <;> rfl
  simp only [Region.wanted, hg, h2]
  cases v <;> simp [wantB]
theorem at_on {dst : Option Tmp} {op : Op} {ty : TypeId} {pos : String} {after : Array Edge} {j t : Nat} {b : Bool} (hj : yslot ops j = some t) (ht : eget E t = some (.bool b))
    (k : At n E C H (lwp r P ops Q (⟨dst, op, ty, pos, after, none⟩ :: rest))) : At n E C H (lwp r P ops Q (⟨dst, op, ty, pos, after, some (j, b)⟩ :: rest)) := by
  intro a w hf hd ho
  have h := lwp_cons.1 (k a w hf hd ho)
  refine lwp_cons.2 ?_
  have h1 : Region.wanted ⟨dst, op, ty, pos, after, some (j, b)⟩ (yielded ops a.tmps) = true := by rw [fits_wanted hf rfl hj ht]; simp [wantB]
  have h2 : Region.wanted ⟨dst, op, ty, pos, after, none⟩ (yielded ops a.tmps) = true := rfl
  rw [if_pos h1]
  rw [if_pos h2] at h
  exact h
theorem at_off {dst : Option Tmp} {op : Op} {ty : TypeId} {pos : String} {after : Array Edge} {j t : Nat} {b : Bool} {v : Value} (hj : yslot ops j = some t) (ht : eget E t = some v) (hc : wantB v b = false) (hd : inB n dst = true)
    (k : At n (eput E dst undef) C H (lwp r P ops Q rest)) : At n E C H (lwp r P ops Q (⟨dst, op, ty, pos, after, some (j, b)⟩ :: rest)) := by
  intro a w hf hm ho
  have h := k _ w (hf.put hd) (hm.put _ _) ho
  refine lwp_cons.2 ?_
  rw [fits_wanted hf rfl hj ht, hc]
  exact h
theorem at_no {d : Nat} {op : Op} {ty : TypeId} {pos : String} {after : Array Edge} {j t : Nat} {b : Bool} {v : Value} (hj : yslot ops j = some t) (ht : eget E t = some v) (hc : wantB v b = false) (hd : Nat.blt d n = true)
    (k : At n ((d, undef) :: E) C H (lwp r P ops Q rest)) : At n E C H (lwp r P ops Q (⟨some d, op, ty, pos, after, some (j, b)⟩ :: rest)) := at_off hj ht hc hd k
theorem fits_same {a : Act} (hf : Fits n E a) {t : Nat} {v u : Value} (ht : eget E t = some v) (h : v = u) : Fits n ((t, u) :: E) a :=
  ⟨hf.size, fun s x hx => by
    rw [eget_cons] at hx
    split at hx
    · rename_i e; subst e; cases hx; exact hf.get _ _ (h ▸ ht)
    · exact hf.get s x hx⟩
/-- A guard that is not known: both ways, and the slot is known from there on. -/
theorem at_guard {dst : Option Tmp} {op : Op} {ty : TypeId} {pos : String} {after : Array Edge} {j t : Nat} {b c : Bool} (hj : yslot ops j = some t) (ht : eget E t = some (.bool c))
    (on : c = true → At n ((t, .bool true) :: E) C H (lwp r P ops Q (⟨dst, op, ty, pos, after, some (j, b)⟩ :: rest)))
    (off : c = false → At n ((t, .bool false) :: E) C H (lwp r P ops Q (⟨dst, op, ty, pos, after, some (j, b)⟩ :: rest))) : At n E C H (lwp r P ops Q (⟨dst, op, ty, pos, after, some (j, b)⟩ :: rest)) := by
  intro a w hf hd ho
  cases c
  · exact off rfl a w (fits_same hf ht rfl) hd ho
  · exact on rfl a w (fits_same hf ht rfl) hd ho
theorem at_guardD {dst : Option Tmp} {op : Op} {ty : TypeId} {pos : String} {after : Array Edge} {j t : Nat} {b : Bool} {p : Prop} [Decidable p] (hj : yslot ops j = some t) (ht : eget E t = some (.bool (decide p)))
    (on : p → At n ((t, .bool true) :: E) C H (lwp r P ops Q (⟨dst, op, ty, pos, after, some (j, b)⟩ :: rest))) (off : ¬ p → At n ((t, .bool false) :: E) C H (lwp r P ops Q (⟨dst, op, ty, pos, after, some (j, b)⟩ :: rest))) : At n E C H (lwp r P ops Q (⟨dst, op, ty, pos, after, some (j, b)⟩ :: rest)) :=
  at_guard hj ht (fun h => on (of_decide_eq_true h)) (fun h => off (of_decide_eq_false h))
theorem at_guardN {dst : Option Tmp} {op : Op} {ty : TypeId} {pos : String} {after : Array Edge} {j t : Nat} {b c : Bool} (hj : yslot ops j = some t) (ht : eget E t = some (.bool (!c)))
    (on : c = false → At n ((t, .bool true) :: E) C H (lwp r P ops Q (⟨dst, op, ty, pos, after, some (j, b)⟩ :: rest))) (off : c = true → At n ((t, .bool false) :: E) C H (lwp r P ops Q (⟨dst, op, ty, pos, after, some (j, b)⟩ :: rest))) : At n E C H (lwp r P ops Q (⟨dst, op, ty, pos, after, some (j, b)⟩ :: rest)) :=
  at_guard hj ht (fun h => on (by simpa using h)) (fun h => off (by simpa using h))
/-- The same, where a fact decides. -/
theorem at_know {ops : Array Oper} {t : Nat} {c d : Bool} {l : List Oper} (ht : eget E t = some (.bool c)) (hc : c = d) (k : At n ((t, .bool d) :: E) C H (lwp r P ops Q l)) : At n E C H (lwp r P ops Q l) :=
  fun a w hf hd ho => k a w (fits_same hf ht (by rw [hc])) hd ho

/-! ### Regions that draw their order, walked in the text's order -/
def AtQ (n : Nat) (E : List (Nat × Value)) (C : Ctx) (K : Act → Prop) : Prop := ∀ a, Fits n E a → DF C a → K a
def endQ (C : Ctx) (H : List Res) (Q : Exit → Act → World → Prop) : Act → Prop := fun a' => ∀ w', Own C H w' → Q .normal a' w'
theorem at_draw {id : Nat} {l : List Oper} (hm : P.follows .mixedOrders = true) (hB : Region.lexB .any l.toArray = true) (h : AtQ n E C (wpQuiet P l.toArray (Own C H) (endQ C H Q) l)) :
    At n E C H (cwp none P (Code.region id l.toArray true) Q) := fun a w hf hd ho =>
  cwp_none.2 (wp_region_quiet (C := Own C H) hm hB (show Own C H w.drew from ho.drew) (h a hf hd))
theorem atq_nil (h : At n E C H (Q .normal)) : AtQ n E C (wpQuiet P ops (Own C H) (endQ C H Q) []) := fun a hf hd w ho => h a w hf hd ho
theorem atq_does {o : Oper} {v : Value} {R : Act → Prop} (h : Does P n E C H o v) (hg : o.guard = none) (hd : inB n o.dst = true) (k : AtQ n (eput E o.dst v) C (wpQuiet P ops (Own C H) R rest)) : AtQ n E C (wpQuiet P ops (Own C H) R (o :: rest)) := by
  intro a hf hdf
  unfold wpQuiet
  rw [if_pos (by simp [Region.wanted, hg])]
  exact ⟨v, fun w hw => by unfold Oper.quietAt; rw [h a w hf hw]; exact ⟨rfl, rfl⟩, k _ (hf.put hd) (hdf.put _ _)⟩
theorem atq_call1 {o : Oper} {f : FuncId} {args : Array Value} {v : Value} {R : Act → Prop} (he : Enters P n E C H o f args)
    (hc : ∀ w, Own C H w → Calls P f args w fun e w' => e = .returned v ∧ Below w.heap.size w w') (hg : o.guard = none) (hd : inB n o.dst = true)
    (k : AtQ n (eput E o.dst v) C (wpQuiet P ops (Own C H) R rest)) : AtQ n E C (wpQuiet P ops (Own C H) R (o :: rest)) := by
  intro a hf hdf
  unfold wpQuiet
  rw [if_pos (by simp [Region.wanted, hg])]
  exact ⟨v, fun w hw => by
    unfold Oper.quietAt
    rw [he a w hf hw]
    exact ⟨rfl, (hc w hw).mono fun e w' ⟨h1, h2⟩ => ⟨h1, hw.below h2⟩⟩, k _ (hf.put hd) (hdf.put _ _)⟩
theorem atq_do {d : Nat} {op : Op} {ty : TypeId} {pos : String} {after : Array Edge} {v : Value} {R : Act → Prop} (h : Does P n E C H ⟨some d, op, ty, pos, after, none⟩ v) (hn : Op.isDefer op = false) (hd : Nat.blt d n = true) (k : AtQ n ((d, v) :: E) C (wpQuiet P ops (Own C H) R rest)) : AtQ n E C (wpQuiet P ops (Own C H) R (⟨some d, op, ty, pos, after, none⟩ :: rest)) :=
  atq_does h rfl hd k
theorem atq_callv {d : Nat} {op : Op} {ty : TypeId} {pos : String} {after : Array Edge} {f : FuncId} {args : Array Value} {v : Value} {R : Act → Prop} (he : Enters P n E C H ⟨some d, op, ty, pos, after, none⟩ f args)
    (hc : ∀ w, Own C H w → Calls P f args w fun e w' => e = .returned v ∧ Below w.heap.size w w') (hn : Op.isDefer op = false) (hd : Nat.blt d n = true)
    (k : AtQ n ((d, v) :: E) C (wpQuiet P ops (Own C H) R rest)) : AtQ n E C (wpQuiet P ops (Own C H) R (⟨some d, op, ty, pos, after, none⟩ :: rest)) := atq_call1 he hc rfl hd k
theorem atq_on {dst : Option Tmp} {op : Op} {ty : TypeId} {pos : String} {after : Array Edge} {j t : Nat} {b : Bool} {R : Act → Prop} {D : World → Prop} (hj : yslot ops j = some t) (ht : eget E t = some (.bool b))
    (k : AtQ n E C (wpQuiet P ops D R (⟨dst, op, ty, pos, after, none⟩ :: rest))) : AtQ n E C (wpQuiet P ops D R (⟨dst, op, ty, pos, after, some (j, b)⟩ :: rest)) := by
  intro a hf hdf
  have h := k a hf hdf
  unfold wpQuiet at h ⊢
  have h1 : Region.wanted ⟨dst, op, ty, pos, after, some (j, b)⟩ (yielded ops a.tmps) = true := by rw [fits_wanted hf rfl hj ht]; simp [wantB]
  have h2 : Region.wanted ⟨dst, op, ty, pos, after, none⟩ (yielded ops a.tmps) = true := rfl
  rw [if_pos h1]
  rw [if_pos h2] at h
  exact h
theorem atq_off {dst : Option Tmp} {op : Op} {ty : TypeId} {pos : String} {after : Array Edge} {j t : Nat} {b : Bool} {v : Value} {R : Act → Prop} {D : World → Prop} (hj : yslot ops j = some t) (ht : eget E t = some v) (hc : wantB v b = false) (hd : inB n dst = true)
    (k : AtQ n (eput E dst undef) C (wpQuiet P ops D R rest)) : AtQ n E C (wpQuiet P ops D R (⟨dst, op, ty, pos, after, some (j, b)⟩ :: rest)) := by
  intro a hf hdf
  have h := k _ (hf.put hd) (hdf.put _ _)
  unfold wpQuiet
  rw [fits_wanted hf rfl hj ht, hc]
  exact h
theorem atq_no {d : Nat} {op : Op} {ty : TypeId} {pos : String} {after : Array Edge} {j t : Nat} {b : Bool} {v : Value} {R : Act → Prop} {D : World → Prop} (hj : yslot ops j = some t) (ht : eget E t = some v) (hc : wantB v b = false) (hd : Nat.blt d n = true)
    (k : AtQ n ((d, undef) :: E) C (wpQuiet P ops D R rest)) : AtQ n E C (wpQuiet P ops D R (⟨some d, op, ty, pos, after, some (j, b)⟩ :: rest)) := atq_off hj ht hc hd k
theorem atq_guard {dst : Option Tmp} {op : Op} {ty : TypeId} {pos : String} {after : Array Edge} {j t : Nat} {b c : Bool} {R : Act → Prop} {D : World → Prop} (hj : yslot ops j = some t) (ht : eget E t = some (.bool c))
    (on : c = true → AtQ n ((t, .bool true) :: E) C (wpQuiet P ops D R (⟨dst, op, ty, pos, after, some (j, b)⟩ :: rest)))
    (off : c = false → AtQ n ((t, .bool false) :: E) C (wpQuiet P ops D R (⟨dst, op, ty, pos, after, some (j, b)⟩ :: rest))) : AtQ n E C (wpQuiet P ops D R (⟨dst, op, ty, pos, after, some (j, b)⟩ :: rest)) := by
  intro a hf hdf
  cases c
  · exact off rfl a (fits_same hf ht rfl) hdf
  · exact on rfl a (fits_same hf ht rfl) hdf

theorem atq_guardD {dst : Option Tmp} {op : Op} {ty : TypeId} {pos : String} {after : Array Edge} {j t : Nat} {b : Bool} {p : Prop} [Decidable p] {R : Act → Prop} {D : World → Prop} (hj : yslot ops j = some t) (ht : eget E t = some (.bool (decide p)))
    (on : p → AtQ n ((t, .bool true) :: E) C (wpQuiet P ops D R (⟨dst, op, ty, pos, after, some (j, b)⟩ :: rest))) (off : ¬ p → AtQ n ((t, .bool false) :: E) C (wpQuiet P ops D R (⟨dst, op, ty, pos, after, some (j, b)⟩ :: rest))) : AtQ n E C (wpQuiet P ops D R (⟨dst, op, ty, pos, after, some (j, b)⟩ :: rest)) :=
  atq_guard hj ht (fun h => on (of_decide_eq_true h)) (fun h => off (of_decide_eq_false h))
theorem atq_guardN {dst : Option Tmp} {op : Op} {ty : TypeId} {pos : String} {after : Array Edge} {j t : Nat} {b c : Bool} {R : Act → Prop} {D : World → Prop} (hj : yslot ops j = some t) (ht : eget E t = some (.bool (!c)))
    (on : c = false → AtQ n ((t, .bool true) :: E) C (wpQuiet P ops D R (⟨dst, op, ty, pos, after, some (j, b)⟩ :: rest))) (off : c = true → AtQ n ((t, .bool false) :: E) C (wpQuiet P ops D R (⟨dst, op, ty, pos, after, some (j, b)⟩ :: rest))) : AtQ n E C (wpQuiet P ops D R (⟨dst, op, ty, pos, after, some (j, b)⟩ :: rest)) :=
  atq_guard hj ht (fun h => on (by simpa using h)) (fun h => off (by simpa using h))
theorem atq_know {ops : Array Oper} {t : Nat} {c d : Bool} {l : List Oper} {R : Act → Prop} {D : World → Prop} (ht : eget E t = some (.bool c)) (hc : c = d) (k : AtQ n ((t, .bool d) :: E) C (wpQuiet P ops D R l)) : AtQ n E C (wpQuiet P ops D R l) :=
  fun a hf hdf => k a (fits_same hf ht (by rw [hc])) hdf

/-! ### Into a function and out of it -/
theorem Own.plain {w0 w : World} {H : List Res} {b : World} {F M : Nat → Prop} {D : List Nat} (h : Own ⟨w0, fun _ => False, M, b, F, D⟩ H w) : Below w0.heap.size w0 w := h.orig.toBelow
theorem ret_bool {a b : Bool} (h : a = b) : Ending.returned (.bool a) = Ending.returned (.bool b) := by rw [h]
theorem ret_int {k : IntKind} {a b : Int} (h : a = b) : Ending.returned (.int k a) = Ending.returned (.int k b) := by rw [h]
def argEnv : List Value → Nat → List (Nat × Value)
  | [], _ => []
  | v :: vs, i => (i, v) :: argEnv vs (i + 1)
theorem argEnv_get : ∀ (vs : List Value) (i t : Nat) (v : Value), eget (argEnv vs i) t = some v → i ≤ t ∧ vs[t - i]? = some v
  | [], _, _, _, h => by simp [argEnv, eget] at h
  | u :: vs, i, t, v, h => by
    rw [argEnv, eget_cons] at h
    split at h
    · rename_i e; subst e; simpa using h
    · obtain ⟨h1, h2⟩ := argEnv_get vs (i + 1) t v h
      refine ⟨by omega, ?_⟩
      rw [show t - i = (t - (i + 1)) + 1 by omega]
      simpa using h2
def fin (P : Program) (fn : Func) (R : Ending → World → Prop) : Exit → Act → World → Prop := bodyPostM (fe none) 0 P fn R
theorem calls_at {f : FuncId} {fn : Func} {c : Code} {args : List Value} {w : World} {R : Ending → World → Prop} (L M : Nat → Prop) (hf : P.funcs[f]? = some fn) (hb : fn.body = some c) (hn : fn.ntmps = n)
    (hl : Nat.ble args.length n = true) (H : List Res) (hH : Own ⟨w, L, M, w, L, []⟩ H w)
    (h : At n (argEnv args 0) ⟨w, L, M, w, L, []⟩ H (cwp none P c (fin P fn R))) : Calls P f args.toArray w R := by
  have hl' : args.length ≤ n := by simpa using hl
  refine callsIn_fe.1 (callsIn_of_wp_marks (F := fe none) (n := 0) hf hb trivial (h _ _ ⟨by simp [hn]; omega, fun t v hv => ?_⟩ rfl hH))
  obtain ⟨_, h2⟩ := argEnv_get args 0 t v hv
  have hlt : t < args.length := by simpa using (List.getElem?_eq_some_iff.1 h2).1
  simp [Array.getElem?_append, hlt]
  simpa [List.getElem?_eq_getElem hlt] using h2
/-- A function that turns nothing that was there. -/
theorem calls_plain {f : FuncId} {fn : Func} {c : Code} {args : List Value} {w : World} {R : Ending → World → Prop} (hf : P.funcs[f]? = some fn) (hb : fn.body = some c) (hn : fn.ntmps = n)
    (hl : Nat.ble args.length n = true) (h : At n (argEnv args 0) ⟨w, fun _ => False, fun _ => False, w, fun _ => False, []⟩ [] (cwp none P c (fin P fn R))) : Calls P f args.toArray w R :=
  calls_at (fun _ => False) (fun _ => False) hf hb hn hl [] ⟨Frm.refl _ _, Frm.refl _ _, by simp, by simp [bls], by simp [bls], fun _ h => h, by simp⟩ h
/-- A function's end: its marks are taken; then its results. -/
theorem leaves_of {fn : Func} {R : Ending → World → Prop} {tmps : Array Value} : ∀ (D : List Nat) (w : World), (∀ d ∈ D, w.heap[d]? = some (.deferred (some []))) → D.Nodup →
    (∀ w', w'.heap.size = w.heap.size → (∀ k, k ∉ D → w'.heap[k]? = w.heap[k]?) → w'.os = w.os → w'.tape = w.tape → w'.output = w.output → ∃ v, (results fn tmps).run P w' = .ok v w' ∧ R (.returned v) w') → LeavesInM (fe none) 0 P fn tmps R (D.map markOf) .returning w
  | [], w, _, _, h => by
    obtain ⟨v, h1, h2⟩ := h w rfl (fun _ _ => rfl) rfl rfl rfl
    exact ⟨v, h1, h2⟩
  | d :: D, w, hw, hn, h => by
    have hd := hw d (List.mem_cons_self ..)
    have hn' := List.nodup_cons.1 hn
    refine ⟨by simp, .inl ⟨d, w.putObj d (.deferred none), rfl, run_takeDeferred hd, ?_⟩⟩
    refine leaves_of D _ (fun x hx => ?_) hn'.2 (fun w' h1 h2 h3 h4 h5 => h w' (by rw [h1]; simp) (fun k hk => ?_) h3 h4 h5)
    · have hne : x ≠ d := fun e => hn'.1 (e ▸ hx)
      rw [World.putObj_heap_other hne]; exact hw x (List.mem_cons_of_mem _ hx)
    · have hne : k ≠ d := fun e => hk (e ▸ List.mem_cons_self ..)
      rw [h2 k (fun hh => hk (List.mem_cons_of_mem _ hh)), World.putObj_heap_other hne]
/-- What stands at a function's return: no loop over a function has been. -/
theorem fin_ret {fn : Func} {R : Ending → World → Prop} {a : Act} {w : World} {v : Value} (hm : C.marks = []) (hd : DF C a) (hr : (results fn a.tmps).run P w = .ok v w) (hR : R (.returned v) w) : fin P fn R .ret a w := by
  have hd' : a.defers = [] := by unfold DF at hd; rw [hd, hm]; rfl
  show LeavesInM _ _ _ _ _ _ a.defers _ _
  rw [hd']
  exact ⟨v, hr, hR⟩
theorem at_ret1 {fn : Func} {R : Ending → World → Prop} {t : Nat} {v : Value} (hr : fn.results = #[.tmp t]) (hm : C.marks = []) (ht : eget E t = some v) (h : ∀ w, Own C H w → R (.returned v) w) : At n E C H (fin P fn R .ret) := by
  intro a w hf hd ho
  have := hf.get t v ht
  refine fin_ret hm hd (v := v) ?_ (h w ho)
  rw [results_tmp hr]
  simp [this]
theorem at_ret2 {fn : Func} {R : Ending → World → Prop} {t u : Nat} {v x : Value} (hr : fn.results = #[.tmp t, .tmp u]) (hm : C.marks = []) (ht : eget E t = some v) (hu : eget E u = some x) (h : ∀ w, Own C H w → R (.returned (.tuple #[v, x])) w) : At n E C H (fin P fn R .ret) := by
  intro a w hf hd ho
  have h1 := hf.get t v ht
  have h2 := hf.get u x hu
  refine fin_ret hm hd (v := .tuple #[v, x]) ?_ (h w ho)
  rw [results_tmp2 hr]
  simp [h1, h2]
theorem at_ret3 {fn : Func} {R : Ending → World → Prop} {t u s : Nat} {v x y : Value} (hr : fn.results = #[.tmp t, .tmp u, .tmp s]) (hm : C.marks = []) (ht : eget E t = some v) (hu : eget E u = some x) (hs : eget E s = some y) (h : ∀ w, Own C H w → R (.returned (.tuple #[v, x, y])) w) : At n E C H (fin P fn R .ret) := by
  intro a w hf hd ho
  have h1 := hf.get t v ht
  have h2 := hf.get u x hu
  have h3 := hf.get s y hs
  refine fin_ret hm hd (v := .tuple #[v, x, y]) ?_ (h w ho)
  simp [results, hr, h1, h2, h3, go_sem]
theorem at_ret0 {fn : Func} {R : Ending → World → Prop} (hr : fn.results = #[]) (hm : C.marks = []) (h : ∀ w, Own C H w → R (.returned (.tuple #[])) w) : At n E C H (fin P fn R .ret) := by
  intro a w hf hd ho
  exact fin_ret hm hd (results_none hr _ _ _) (h w ho)
theorem at_end0 {fn : Func} {R : Ending → World → Prop} (hr : fn.results = #[]) (hm : C.marks = []) (h : ∀ w, Own C H w → R (.returned (.tuple #[])) w) : At n E C H (fin P fn R .normal) := by
  intro a w hf hd ho
  exact fin_ret (R := R) hm hd (results_none hr _ _ _) (h w ho)
end
end Go.Proofs.YtjpfebgpcokenaaDoor
