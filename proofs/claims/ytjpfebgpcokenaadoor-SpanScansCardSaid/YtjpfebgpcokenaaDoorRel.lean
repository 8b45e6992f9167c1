/-
  A region that draws its order, told operation by operation: each operation of its first part gives a value, or one of a kind, whatever else has come up; its last part comes up in the text's order. No condition of its own.
-/
import Derived.Test.YtjpfebgpcokenaaDoorMops
import Derived.Deep.LoopGhost
import Derived.TacticsIn
set_option linter.unusedSimpArgs false
set_option linter.unusedVariables false
namespace Go.Proofs.YtjpfebgpcokenaaDoor
open Go.RowKit

inductive Spec where
  | val (v : Value)
  | rel (Φ : Value → World → Prop)
def Spec.ok : Spec → Value → World → Prop
  | .val v, u, _ => u = v
  | .rel Φ, u, w => Φ u w
def Spec.stab : Spec → Prop
  | .val _ => True
  | .rel Φ => ∀ v w w', Φ v w → Below w.heap.size w w' → Φ v w'
theorem Spec.keep {s : Spec} (h : s.stab) {v : Value} {w w' : World} (hb : Below w.heap.size w w') (hv : s.ok v w) : s.ok v w' := by
  cases s with
  | val u => exact hv
  | rel Φ => exact h v w w' hv hb
def spec (S : List Spec) (i : Nat) : Spec := S.getD i (.val undef)

def edges (o : Oper) : List Nat := o.after.toList.filterMap fun e => if Region.binds .any e then some e.on else none
/-- From k on back to i. -/
def reach (ops : Array Oper) : Nat → Nat → Nat → Bool
  | 0, _, _ => false
  | f + 1, k, i => Nat.beq k i || (match ops[k]? with
    | some o => (edges o).any fun e => reach ops f e i
    | none => false)
def dsts (ops : Array Oper) : List Nat := ops.toList.filterMap (·.dst)
def slotsOf (o : Oper) : List Nat := o.op.operands.toList.filterMap fun | .tmp t => some t | _ => none
/-- The closed facts of such a region. -/
def regB (ops : Array Oper) (N : Nat) : Bool :=
  Region.noSelect ops && Nat.ble N ops.size &&
  (List.range ops.size).all (fun i => match ops[i]? with
    | some o => (edges o).all (fun e => Nat.blt e i) && (if Nat.blt i N then (o.dst.isSome && !Op.isDefer o.op) else true) &&
      (if Nat.blt i N then true else (List.range i).all fun k => (edges o).any fun e => reach ops ops.size e k)
    | none => false) &&
  (List.range N).all (fun i => (List.range N).all fun j => Nat.beq i j || !(((ops[i]?).bind (·.dst)) == ((ops[j]?).bind (·.dst))))
def dstsN (ops : Array Oper) (N : Nat) : List Nat := (ops.toList.take N).filterMap (·.dst)
def freshB (ops : Array Oper) (N : Nat) (E : List (Nat × Value)) : Bool := E.all fun p => !(dstsN ops N).contains p.1

section
variable {P : Program} {r : Option Nat} {n : Nat} {E : List (Nat × Value)} {C : Ctx} {H : List Res} {Q : Exit → Act → World → Prop} {ops : Array Oper}

/-- One step of the first part. -/
def Step1 (P : Program) (n : Nat) (E : List (Nat × Value)) (C : Ctx) (H : List Res) (X : World → Prop) (o : Oper) (s : Spec) : Prop := ∀ a w, Fits n E a → Own C H w → X w →
  (∃ u w', (execOp a.eval o).run P w = .ok (.value u) w' ∧ Own C H w' ∧ Below w.heap.size w w' ∧ s.ok u w') ∨
  (∃ f args, (execOp a.eval o).run P w = .ok (.enter f args) w ∧ Calls P f args w fun e w' => ∃ u, e = .returned u ∧ Own C H w' ∧ Below w.heap.size w w' ∧ s.ok u w')
theorem step1_does {X : World → Prop} {o : Oper} {v : Value} (h : Does P n E C H o v) : Step1 P n E C H X o (.val v) := fun a w hf ho _ =>
  .inl ⟨v, w, h a w hf ho, ho, Below.refl _ _, rfl⟩
theorem step1_call {X : World → Prop} {o : Oper} {f : FuncId} {args : Array Value} {v : Value} (he : Enters P n E C H o f args) (hc : ∀ w, Own C H w → X w → Calls P f args w fun e w' => e = .returned v ∧ Below w.heap.size w w') : Step1 P n E C H X o (.val v) := fun a w hf ho hx =>
  .inr ⟨f, args, he a w hf ho, (hc w ho hx).mono fun e w' ⟨h1, h2⟩ => ⟨v, h1, ho.below h2, h2, rfl⟩⟩
theorem step1_rel {X : World → Prop} {o : Oper} {f : FuncId} {args : Array Value} {Φ : Value → World → Prop} (he : Enters P n E C H o f args) (hc : ∀ w, Own C H w → X w → Calls P f args w fun e w' => ∃ u, e = .returned u ∧ Below w.heap.size w w' ∧ Φ u w') : Step1 P n E C H X o (.rel Φ) := fun a w hf ho hx =>
  .inr ⟨f, args, he a w hf ho, (hc w ho hx).mono fun e w' ⟨u, h1, h2, h3⟩ => ⟨u, h1, ho.below h2, h2, h3⟩⟩
theorem step1_run {X : World → Prop} {o : Oper} {s : Spec} (h : ∀ a w, Fits n E a → Own C H w → X w → ∃ u w', (execOp a.eval o).run P w = .ok (.value u) w' ∧ Below w.heap.size w w' ∧ s.ok u w') : Step1 P n E C H X o s := fun a w hf ho hx => by
  obtain ⟨u, w', h1, h2, h3⟩ := h a w hf ho hx
  exact .inl ⟨u, w', h1, ho.below h2, h2, h3⟩

/-- What is known of the slots of those that an operation waits for. -/
def predEnv (ops : Array Oper) (S : List Spec) (vs : Nat → Value) : List Nat → List (Nat × Value) → List (Nat × Value)
  | [], E => E
  | i :: is, E => match (ops[i]?).bind (·.dst) with
    | some d => (d, match spec S i with | .val v => v | .rel _ => vs i) :: predEnv ops S vs is E
    | none => predEnv ops S vs is E
def predFact (S : List Spec) (vs : Nat → Value) : List Nat → World → Prop
  | [], _ => True
  | i :: is, w => match spec S i with
    | .val _ => predFact S vs is w
    | .rel Φ => Φ (vs i) w ∧ predFact S vs is w
theorem predFact_of {S : List Spec} {vs : Nat → Value} {w : World} : ∀ {is : List Nat}, (∀ i ∈ is, (spec S i).ok (vs i) w) → predFact S vs is w
  | [], _ => trivial
  | i :: is, h => by
    have h1 := h i (List.mem_cons_self ..)
    have h2 := predFact_of (is := is) fun j hj => h j (List.mem_cons_of_mem _ hj)
    unfold predFact
    cases hs : spec S i with
    | val v => exact h2
    | rel Φ => rw [hs] at h1; exact ⟨h1, h2⟩
theorem fits_pred {S : List Spec} {vs : Nat → Value} {w : World} {a : Act} (hf : Fits n E a) : ∀ {is : List Nat}, (∀ i ∈ is, ∀ d, (ops[i]?).bind (·.dst) = some d → a.tmps[d]? = some (vs i) ∧ (spec S i).ok (vs i) w) → Fits n (predEnv ops S vs is E) a
  | [], _ => hf
  | i :: is, h => by
    have h2 := fits_pred hf (is := is) fun j hj => h j (List.mem_cons_of_mem _ hj)
    unfold predEnv
    cases hd : (ops[i]?).bind (·.dst) with
    | none => exact h2
    | some d =>
      obtain ⟨h3, h4⟩ := h i (List.mem_cons_self ..) d hd
      refine ⟨h2.size, fun t u hu => ?_⟩
      simp only [eget_cons] at hu
      split at hu
      · rename_i e
        subst e
        cases hu
        rw [h3]
        cases hs : spec S i with
        | val v => rw [hs] at h4; exact congrArg some h4
        | rel Φ => rfl
      · exact h2.get t u hu

/-- What others than i, and those that wait for i, have given stays what it is. -/
def Others (ops : Array Oper) (S : List Spec) (i : Nat) (w w' : World) : Prop := ∀ j, j ≠ i → reach ops ops.size j i = false → ∀ u, (spec S j).ok u w → (spec S j).ok u w'
/-- An operation that may turn what the call owns, but nothing that is known of it. -/
def StepT (P : Program) (n : Nat) (E : List (Nat × Value)) (C : Ctx) (H : List Res) (X : World → Prop) (ops : Array Oper) (S : List Spec) (i : Nat) (o : Oper) : Prop := ∀ a w, Fits n E a → Own C H w → X w →
  (∃ u w', (execOp a.eval o).run P w = .ok (.value u) w' ∧ Own C H w' ∧ Others ops S i w w' ∧ (spec S i).ok u w') ∨
  (∃ f args, (execOp a.eval o).run P w = .ok (.enter f args) w ∧ Calls P f args w fun e w' => ∃ u, e = .returned u ∧ Own C H w' ∧ Others ops S i w w' ∧ (spec S i).ok u w')
def StepB (P : Program) (n : Nat) (E : List (Nat × Value)) (C : Ctx) (H : List Res) (X : World → Prop) (ops : Array Oper) (S : List Spec) (i : Nat) (o : Oper) : Prop := Step1 P n E C H X o (spec S i) ∨ StepT P n E C H X ops S i o
theorem others_below {S : List Spec} (hst : ∀ i, (spec S i).stab) {i : Nat} {w w' : World} (hb : Below w.heap.size w w') : Others ops S i w w' := fun j _ _ u hu => Spec.keep (hst j) hb hu
/-- An operation of the first part, its guard with it. -/
def StepG (P : Program) (n : Nat) (E : List (Nat × Value)) (C : Ctx) (H : List Res) (X : World → Prop) (ops : Array Oper) (S : List Spec) (i : Nat) (o : Oper) : Prop := match o.guard with
  | none => StepB P n E C H X ops S i o
  | some (g, b) => ∃ t c, yslot ops g = some t ∧ eget E t = some c ∧ (if wantB c b then StepB P n E C H X ops S i o else ∀ w, (spec S i).ok undef w)
/-- All of them from number j on. -/
def StepsOk (P : Program) (n : Nat) (E : List (Nat × Value)) (C : Ctx) (H : List Res) (ops : Array Oper) (S : List Spec) : Nat → Nat → List Oper → Prop
  | 0, _, _ => True
  | _ + 1, _, [] => True
  | m + 1, j, o :: rest => (∀ vs : Nat → Value, StepG P n (predEnv ops S vs (edges o) E) C H (predFact S vs (edges o)) ops S j o) ∧ StepsOk P n E C H ops S m (j + 1) rest
theorem steps_get {S : List Spec} : ∀ {m j : Nat} {l : List Oper}, StepsOk P n E C H ops S m j l → ∀ i o, i < m → l[i]? = some o → ∀ vs : Nat → Value, StepG P n (predEnv ops S vs (edges o) E) C H (predFact S vs (edges o)) ops S (j + i) o
  | 0, _, _, _, i, _, hi, _, _ => absurd hi (by omega)
  | m + 1, j, [], _, i, o, _, ho, _ => by simp at ho
  | m + 1, j, o :: rest, h, i, o', hi, ho, vs => by
    cases i with
    | zero => simp at ho; subst ho; exact h.1 vs
    | succ i =>
      have := steps_get h.2 i o' (by omega) (by simpa using ho) vs
      rwa [show j + 1 + i = j + (i + 1) by omega] at this

def cnt (listed : Array Bool) : Nat := listed.toList.count false
theorem count_set : ∀ (l : List Bool) (i : Nat), l[i]? = some false → (l.set i true).count false + 1 = l.count false
  | [], i, h => by simp at h
  | b :: l, 0, h => by simp at h; subst h; simp
  | b :: l, i + 1, h => by
    have := count_set l i (by simpa using h)
    simp only [List.set_cons_succ, List.count_cons]
    omega
theorem cnt_set {listed : Array Bool} {i : Nat} (h : listed[i]? = some false) : cnt (listed.setIfInBounds i true) + 1 = cnt listed := by
  unfold cnt
  rw [Array.toList_setIfInBounds]
  exact count_set _ _ (by simpa using h)
theorem cnt_pos {listed : Array Bool} {i : Nat} (h : listed[i]? = some false) : 0 < cnt listed := by have := cnt_set h; omega

/-- Whatever an operation that has come up waits for has come up. -/
def Closed (ops : Array Oper) (listed : Array Bool) : Prop := ∀ (j : Nat) (o : Oper), ops[j]? = some o → listed[j]? = some true → ∀ e ∈ edges o, listed[e]? = some true
theorem ready_spec {listed : Array Bool} {i : Nat} (h : i ∈ Region.ready .any ops listed) (hsz : listed.size = ops.size) : listed[i]? = some false ∧ ∃ o, ops[i]? = some o ∧ ∀ e ∈ edges o, listed[e]? = some true ∨ ops.size ≤ e := by
  obtain ⟨h1, o, ho, hall⟩ := mem_ready.1 h
  have hi : i < listed.size := by rw [hsz]; exact (Array.getElem?_eq_some_iff.1 ho).1
  refine ⟨by simpa [Array.getElem?_eq_getElem hi] using h1, o, ho, fun e he => ?_⟩
  unfold edges at he
  obtain ⟨x, hx, hx'⟩ := List.mem_filterMap.1 he
  split at hx'
  · rename_i hb
    cases hx'
    have := hall x (by simpa using hx) hb
    rcases Nat.lt_or_ge x.on ops.size with hl | hl
    · have hl' : x.on < listed.size := by omega
      left
      simpa [Array.getElem?_eq_getElem hl'] using this
    · exact .inr hl
  · cases hx'
theorem reach_listed {listed : Array Bool} (hc : Closed ops listed) : ∀ f k i, reach ops f k i = true → listed[k]? = some true → listed[i]? = some true
  | 0, _, _, h, _ => by simp [reach] at h
  | f + 1, k, i, h, hk => by
    unfold reach at h
    simp only [Bool.or_eq_true] at h
    rcases h with h | h
    · have : k = i := by simpa using h
      exact this ▸ hk
    · split at h
      · rename_i o ho
        obtain ⟨e, he, hr⟩ := List.any_eq_true.1 h
        exact reach_listed hc f e i hr (hc k o ho hk e he)
      · cases h

structure Reg (ops : Array Oper) (N : Nat) : Prop where
  sel : Region.noSelect ops = true
  le : N ≤ ops.size
  low : ∀ (i : Nat) (o : Oper), ops[i]? = some o → ∀ e ∈ edges o, e < i
  dst : ∀ (i : Nat) (o : Oper), ops[i]? = some o → i < N → o.dst.isSome = true
  nd : ∀ (i : Nat) (o : Oper), ops[i]? = some o → i < N → Op.isDefer o.op = false
  tail : ∀ (i : Nat) (o : Oper), ops[i]? = some o → N ≤ i → ∀ k, k < i → ∃ e ∈ edges o, reach ops ops.size e k = true
  apart : ∀ i j, i < N → j < N → i ≠ j → ∀ d, (ops[i]?).bind (·.dst) = some d → (ops[j]?).bind (·.dst) ≠ some d
theorem reg_of {N : Nat} (h : regB ops N = true) : Reg ops N := by
  unfold regB at h
  simp only [Bool.and_eq_true] at h
  obtain ⟨⟨⟨h1, h2⟩, h3⟩, h4⟩ := h
  have h2' : N ≤ ops.size := by simpa using h2
  have g3 : ∀ (i : Nat) (o : Oper), ops[i]? = some o → _ := fun i o ho => by
    have := List.all_eq_true.1 h3 i (List.mem_range.2 (Array.getElem?_eq_some_iff.1 ho).1)
    rw [ho] at this
    simp only [Bool.and_eq_true] at this
    exact this
  refine ⟨h1, h2', fun i o ho e he => ?_, fun i o ho hi => ?_, fun i o ho hi => ?_, fun i o ho hi k hk => ?_, fun i j hi hj hne d hd hd' => ?_⟩
  · have := List.all_eq_true.1 (g3 i o ho).1.1 e he
    simpa using this
  · have := (g3 i o ho).1.2
    have hlt : Nat.blt i N = true := by simpa using hi
    rw [hlt] at this
    simp only [if_true, Bool.and_eq_true] at this
    exact this.1
  · have := (g3 i o ho).1.2
    have hlt : Nat.blt i N = true := by simpa using hi
    rw [hlt] at this
    simp only [if_true, Bool.and_eq_true] at this
    simpa using this.2
  · have := (g3 i o ho).2
    have hlt : Nat.blt i N = false := by
      cases hb : Nat.blt i N
      · rfl
      · exact absurd (by simpa using hb) (Nat.not_lt.2 hi)
    rw [hlt] at this
    simp only [Bool.false_eq_true, if_false] at this
    have := List.all_eq_true.1 this k (List.mem_range.2 hk)
    exact List.any_eq_true.1 this
  · have := List.all_eq_true.1 (List.all_eq_true.1 h4 i (List.mem_range.2 hi)) j (List.mem_range.2 hj)
    rw [hd, hd'] at this
    simp [hne] at this

theorem closed_set {listed : Array Bool} {i : Nat} (hc : Closed ops listed) {o : Oper} (ho : ops[i]? = some o) (he : ∀ e ∈ edges o, listed[e]? = some true) : Closed ops (listed.setIfInBounds i true) := by
  intro j o' ho' hj e hee
  have mono : ∀ k, listed[k]? = some true → (listed.setIfInBounds i true)[k]? = some true := fun k hk => by
    rw [Array.getElem?_setIfInBounds]
    split
    · rename_i h; subst h
      split
      · rfl
      · rename_i h'; rw [Array.getElem?_eq_none (by omega)] at hk; cases hk
    · exact hk
  by_cases hij : i = j
  · subst hij
    rw [ho] at ho'; cases ho'
    exact mono e (he e hee)
  · rw [Array.getElem?_setIfInBounds_ne hij] at hj
    exact mono e (hc j o' ho' hj e hee)

/-- The last part: in the text's order. -/
theorem any_tail {N : Nat} (hr : Reg ops N) : ∀ (fuel k : Nat) (listed : Array Bool) (a : Act) (w : World), N ≤ k → listed.size = ops.size → cnt listed ≤ fuel → (∀ i, i < k → listed[i]? = some true) → (∀ i, k ≤ i → i < ops.size → listed[i]? = some false) →
    k ≤ ops.size → wpOpsIn (fe r) 0 P ops Q (List.range' k (ops.size - k)) a w → wpAnyIn (fe r) 0 P .any ops Q fuel listed a w := by
  intro fuel
  induction fuel with
  | zero =>
    intro k listed a w hN hsz hcn hlo hhi hks h
    have hk : k = ops.size := by
      rcases Nat.lt_or_ge k ops.size with hl | hl
      · have := cnt_pos (hhi k (Nat.le_refl _) hl); omega
      · omega
    subst hk
    refine ⟨?_, by simpa [wpOpsIn] using h⟩
    apply List.eq_nil_iff_forall_not_mem.2
    intro i hi
    obtain ⟨h1, o, ho, _⟩ := ready_spec hi hsz
    rw [hlo i (Array.getElem?_eq_some_iff.1 ho).1] at h1
    cases h1
  | succ fuel ih =>
    intro k listed a w hN hsz hcn hlo hhi hks h
    have only : ∀ i ∈ Region.ready .any ops listed, i = k := fun i hi => by
      obtain ⟨h1, o, ho, he⟩ := ready_spec hi hsz
      have hik : k ≤ i := by
        rcases Nat.lt_or_ge i k with hl | hl
        · rw [hlo i hl] at h1; cases h1
        · exact hl
      rcases Nat.lt_or_ge k i with hl | hl
      · obtain ⟨e, hee, hre⟩ := hr.tail i o ho (by omega) k hl
        have hlow := hr.low i o ho e hee
        have hi' := (Array.getElem?_eq_some_iff.1 ho).1
        have hel : listed[e]? = some true := by
          rcases he e hee with h | h
          · exact h
          · omega
        have hcl : Closed ops listed := fun j o' ho' hj e' he' => by
          have hjk : j < k := by
            rcases Nat.lt_or_ge j k with hl' | hl'
            · exact hl'
            · rw [hhi j hl' (Array.getElem?_eq_some_iff.1 ho').1] at hj; cases hj
          exact hlo e' (Nat.lt_trans (hr.low j o' ho' e' he') hjk)
        have := reach_listed hcl _ e k hre hel
        rw [hhi k (Nat.le_refl _) (by omega)] at this
        cases this
      · omega
    rcases Nat.lt_or_ge k ops.size with hl | hl
    · have hcons : List.range' k (ops.size - k) = k :: List.range' (k + 1) (ops.size - (k + 1)) := by
        rw [show ops.size - k = (ops.size - (k + 1)) + 1 by omega, List.range'_succ]
      rw [hcons, wpOpsIn_cons] at h
      refine ⟨fun h0 => ?_, fun i hi => ?_⟩
      · exfalso
        have : k ∈ Region.ready .any ops listed := mem_ready.2 ⟨by rw [Array.getD_eq_getD_getElem?, hhi k (Nat.le_refl _) hl]; rfl, ops[k], Array.getElem?_eq_getElem hl, fun e hee hb => by
          have hlow := hr.low k _ (Array.getElem?_eq_getElem hl) e.on (List.mem_filterMap.2 ⟨e, by simpa using hee, by simp [hb]⟩)
          rw [Array.getD_eq_getD_getElem?, hlo e.on hlow]; rfl⟩
        rw [h0] at this
        cases this
      · have hk := only i hi
        subst hk
        refine wpOpIn_mono (fun a' w' h' => ih (i + 1) _ a' w' (by omega) (by simpa using hsz) ?_ ?_ ?_ (by omega) h') h
        · have := cnt_set (hhi i (Nat.le_refl _) hl); omega
        · intro j hj
          by_cases hji : i = j
          · subst hji; rw [Array.getElem?_setIfInBounds_self]; simp [hsz, hl]
          · rw [Array.getElem?_setIfInBounds_ne hji]; exact hlo j (by omega)
        · intro j hj hjs
          rw [Array.getElem?_setIfInBounds_ne (by omega)]
          exact hhi j (by omega) hjs
    · have hk : k = ops.size := by omega
      subst hk
      refine ⟨fun _ => by simpa [wpOpsIn] using h, fun i hi => ?_⟩
      have := only i hi
      subst this
      obtain ⟨_, o, ho, _⟩ := ready_spec hi hsz
      have := (Array.getElem?_eq_some_iff.1 ho).1
      omega
/-- What has come up of the first part gave what it is told to give. -/
def Gave (n : Nat) (E : List (Nat × Value)) (C : Ctx) (H : List Res) (ops : Array Oper) (S : List Spec) (N : Nat) (listed : Array Bool) (a : Act) (w : World) : Prop :=
  Fits n E a ∧ DF C a ∧ Own C H w ∧ ∀ i, i < N → listed[i]? = some true → ∀ d, (ops[i]?).bind (·.dst) = some d → ∃ u, a.tmps[d]? = some u ∧ (spec S i).ok u w
theorem fits_fresh {a : Act} {d : Nat} {u : Value} (hf : Fits n E a) (hd : E.all (fun p => !Nat.beq p.1 d) = true) : Fits n E (a.put (some d) u) :=
  ⟨by simp [Act.put, hf.size], fun t v hv => by
    have hne : d ≠ t := fun e => by
      subst e
      have : ∀ {E : List (Nat × Value)} {v : Value}, E.all (fun p => !Nat.beq p.1 d) = true → eget E d = some v → False := by
        intro E
        induction E with
        | nil => intro v _ h; simp [eget] at h
        | cons p E ih =>
          obtain ⟨s, x⟩ := p
          intro v ha h
          rw [eget_cons] at h
          simp only [List.all_cons, Bool.and_eq_true] at ha
          split at h
          · rename_i e; subst e; simp at ha
          · exact ih ha.2 h
      exact this hd hv
    simp only [Act.put]
    rw [Array.getElem?_setIfInBounds_ne hne]
    exact hf.get t v hv⟩
theorem fresh_of {d i N : Nat} (h : freshB ops N E = true) (hi : i < N) (hd : (ops[i]?).bind (·.dst) = some d) : E.all (fun p => !Nat.beq p.1 d) = true := by
  have hmem : d ∈ dstsN ops N := by
    cases ho : ops[i]? with
    | none => rw [ho] at hd; cases hd
    | some o =>
      rw [ho] at hd
      exact List.mem_filterMap.2 ⟨o, List.mem_of_getElem? (i := i) (by rw [List.getElem?_take, if_pos hi]; simpa using ho), hd⟩
  refine List.all_eq_true.2 fun p hp => ?_
  have := List.all_eq_true.1 h p hp
  cases hb : Nat.beq p.1 d
  · rfl
  · have e := Nat.eq_of_beq_eq_true hb
    rw [e] at this
    simp [hmem] at this

theorem any_rel {S : List Spec} {N : Nat} (hr : Reg ops N) (hst : ∀ i, (spec S i).stab) (hfr : freshB ops N E = true) (hin : ∀ (i d : Nat), (ops[i]?).bind (·.dst) = some d → d < n)
    (steps : ∀ (i : Nat) (o : Oper), i < N → ops[i]? = some o → ∀ vs : Nat → Value, StepG P n (predEnv ops S vs (edges o) E) C H (predFact S vs (edges o)) ops S i o)
    (fin : ∀ (listed : Array Bool) (a : Act) (w : World), (∀ i, i < N → listed[i]? = some true) → Gave n E C H ops S N listed a w → wpOpsIn (fe r) 0 P ops Q (List.range' N (ops.size - N)) a w) :
    ∀ (fuel : Nat) (listed : Array Bool) (a : Act) (w : World), listed.size = ops.size → cnt listed ≤ fuel → Closed ops listed → (∀ i, N ≤ i → i < ops.size → listed[i]? = some false) → Gave n E C H ops S N listed a w → wpAnyIn (fe r) 0 P .any ops Q fuel listed a w := by
  intro fuel
  have full : ∀ (fuel : Nat) (listed : Array Bool) (a : Act) (w : World), listed.size = ops.size → cnt listed ≤ fuel → (∀ i, N ≤ i → i < ops.size → listed[i]? = some false) → Gave n E C H ops S N listed a w → (∀ i, i < N → listed[i]? = some true) → wpAnyIn (fe r) 0 P .any ops Q fuel listed a w :=
    fun fuel listed a w hsz hcn hhi hg hlo => any_tail hr fuel N listed a w (Nat.le_refl _) hsz hcn hlo hhi hr.le (fin listed a w hlo hg)
  induction fuel with
  | zero =>
    intro listed a w hsz hcn hcl hhi hg
    refine full 0 listed a w hsz hcn hhi hg fun i hi => ?_
    have hlt : i < listed.size := by have := hr.le; omega
    cases hb : listed[i]? with
    | none => rw [Array.getElem?_eq_none_iff] at hb; omega
    | some b =>
      cases b
      · have := cnt_pos hb; omega
      · rfl
  | succ fuel ih =>
    intro listed a w hsz hcn hcl hhi hg
    by_cases hall : ∀ i, i < N → listed[i]? = some true
    · exact full (fuel + 1) listed a w hsz hcn hhi hg hall
    · have hex : ∃ i, i < N ∧ listed[i]? = some false := by
        refine Classical.byContradiction fun hno => hall fun i hi => ?_
        have hlt : i < listed.size := by have := hr.le; omega
        cases hb : listed[i]? with
        | none => rw [Array.getElem?_eq_none_iff] at hb; omega
        | some b =>
          cases b
          · exact absurd ⟨i, hi, hb⟩ hno
          · rfl
      have small : ∀ i ∈ Region.ready .any ops listed, i < N := fun i hi => by
        obtain ⟨h1, o, ho, he⟩ := ready_spec hi hsz
        rcases Nat.lt_or_ge i N with hl | hl
        · exact hl
        · obtain ⟨k, hk, hkf⟩ := hex
          obtain ⟨e, hee, hre⟩ := hr.tail i o ho hl k (by omega)
          have hlow := hr.low i o ho e hee
          have hi' := (Array.getElem?_eq_some_iff.1 ho).1
          have hel : listed[e]? = some true := by
            rcases he e hee with h | h
            · exact h
            · omega
          have := reach_listed hcl _ e k hre hel
          rw [hkf] at this
          cases this
      refine ⟨fun h0 => ?_, fun i hi => ?_⟩
      · exfalso
        obtain ⟨k, hk, hmin⟩ := exists_least hex
        have hko : k < ops.size := by have := hr.le; omega
        have : k ∈ Region.ready .any ops listed := mem_ready.2 ⟨by rw [Array.getD_eq_getD_getElem?, hk.2]; rfl, ops[k], Array.getElem?_eq_getElem hko, fun e hee hb => by
          have hlow := hr.low k _ (Array.getElem?_eq_getElem hko) e.on (List.mem_filterMap.2 ⟨e, by simpa using hee, by simp [hb]⟩)
          have hlt : e.on < listed.size := by omega
          cases hbb : listed[e.on]? with
          | none => rw [Array.getElem?_eq_none_iff] at hbb; omega
          | some b =>
            cases b
            · have := hmin e.on ⟨by omega, hbb⟩; omega
            · rw [Array.getD_eq_getD_getElem?, hbb]; rfl⟩
        rw [h0] at this
        cases this
      · have hiN := small i hi
        obtain ⟨h1, o, ho, he⟩ := ready_spec hi hsz
        have he' : ∀ e ∈ edges o, listed[e]? = some true := fun e hee => by
          rcases he e hee with h | h
          · exact h
          · have := hr.low i o ho e hee; have := (Array.getElem?_eq_some_iff.1 ho).1; omega
        obtain ⟨hf, hdf, ho', hgv⟩ := hg
        let vs : Nat → Value := fun k => match (ops[k]?).bind (·.dst) with
          | some d => (a.tmps[d]?).getD undef
          | none => undef
        have hpred : ∀ e ∈ edges o, ∀ d, (ops[e]?).bind (·.dst) = some d → a.tmps[d]? = some (vs e) ∧ (spec S e).ok (vs e) w := fun e hee d hd => by
          have hlow := hr.low i o ho e hee
          obtain ⟨u, hu, hok⟩ := hgv e (by omega) (he' e hee) d hd
          have : vs e = u := by simp only [vs, hd, hu, Option.getD_some]
          rw [this]
          exact ⟨hu, hok⟩
        have hfE := fits_pred (ops := ops) (S := S) (vs := vs) (w := w) hf hpred
        have hfact : predFact S vs (edges o) w := predFact_of fun e hee => by
          have hlow := hr.low i o ho e hee
          have heo : e < ops.size := by have := (Array.getElem?_eq_some_iff.1 ho).1; omega
          have hds := hr.dst e ops[e] (Array.getElem?_eq_getElem heo) (by omega)
          obtain ⟨d, hd⟩ := Option.isSome_iff_exists.1 hds
          exact (hpred e hee d (by rw [Array.getElem?_eq_getElem heo]; exact hd)).2
        have hstep := steps i o hiN ho vs
        obtain ⟨d, hd⟩ := Option.isSome_iff_exists.1 (hr.dst i o ho hiN)
        have hdi : (ops[i]?).bind (·.dst) = some d := by rw [ho]; exact hd
        -- what is handed on
        have next : ∀ (u : Value) (w' : World), Own C H w' → Others ops S i w w' → (spec S i).ok u w' → wpAnyIn (fe r) 0 P .any ops Q fuel (listed.setIfInBounds i true) (a.put o.dst u) w' := fun u w' hw' hb hok => by
          refine ih _ _ _ (by simpa using hsz) (by have := cnt_set h1; omega) (closed_set hcl ho he') (fun j hj hjs => by rw [Array.getElem?_setIfInBounds_ne (by omega)]; exact hhi j hj hjs) ⟨?_, hdf.put _ _, hw', ?_⟩
          · rw [hd]; exact fits_fresh hf (fresh_of hfr hiN hdi)
          · intro j hj hjl d' hd'
            by_cases hij : i = j
            · subst hij
              rw [hdi] at hd'; cases hd'
              refine ⟨u, ?_, hok⟩
              rw [hd]
              have : d < a.tmps.size := by rw [hf.size]; exact hin i d hdi
              simp [Act.put, this]
            · rw [Array.getElem?_setIfInBounds_ne hij] at hjl
              obtain ⟨x, hx, hxok⟩ := hgv j hj hjl d' hd'
              refine ⟨x, ?_, hb j (Ne.symm hij) (by
                cases hrr : reach ops ops.size j i with
                | false => rfl
                | true => have := reach_listed hcl _ j i hrr hjl; rw [h1] at this; cases this) x hxok⟩
              rw [hd]
              have hne : d ≠ d' := fun e => hr.apart i j hiN hj hij d hdi (e ▸ hd')
              simp only [Act.put]
              rw [Array.getElem?_setIfInBounds_ne hne]
              exact hx
        have one : StepB P n (predEnv ops S vs (edges o) E) C H (predFact S vs (edges o)) ops S i o → o.wpIn (fe r) 0 P a w (wpAnyIn (fe r) 0 P .any ops Q fuel (listed.setIfInBounds i true)) Q := fun h => by
          refine ⟨fun _ _ => trivial, ?_⟩
          rw [show (fe r).round = r from rfl, semAt_of (hr.nd i o ho hiN)]
          rcases h with h | h
          · rcases h a w hfE ho' hfact with ⟨u, w', hrun, hw', hb, hok⟩ | ⟨f, args, hrun, hcall⟩
            · rw [hrun]; exact next u w' hw' (others_below hst hb) hok
            · rw [hrun]
              refine upon_call hcall ?_
              rintro e w' ⟨u, rfl, hw', hb, hok⟩
              exact ⟨u, rfl, next u w' hw' (others_below hst hb) hok⟩
          · rcases h a w hfE ho' hfact with ⟨u, w', hrun, hw', hb, hok⟩ | ⟨f, args, hrun, hcall⟩
            · rw [hrun]; exact next u w' hw' hb hok
            · rw [hrun]
              refine upon_call hcall ?_
              rintro e w' ⟨u, rfl, hw', hb, hok⟩
              exact ⟨u, rfl, next u w' hw' hb hok⟩
        unfold wpOpIn
        simp only [ho]
        unfold StepG at hstep
        cases hg : o.guard with
        | none =>
          rw [hg] at hstep
          rw [if_pos (by simp [Region.wanted, hg])]
          exact one hstep
        | some gb =>
          obtain ⟨g, b⟩ := gb
          rw [hg] at hstep
          obtain ⟨t, c, hy, hge, hcase⟩ := hstep
          rw [fits_wanted hfE hg hy hge]
          split
          · rename_i hwb
            rw [hwb, if_pos rfl] at hcase
            exact one hcase
          · rename_i hwb
            rw [if_neg hwb] at hcase
            exact ⟨fun _ _ => trivial, next undef w ho' (fun _ _ _ _ h => h) (hcase w)⟩
def stabs : List Spec → Prop
  | [] => True
  | s :: S => s.stab ∧ stabs S
theorem stabs_get : ∀ {S : List Spec}, stabs S → ∀ i, (spec S i).stab
  | [], _, i => by simp [spec, Spec.stab]
  | s :: S, h, 0 => h.1
  | s :: S, h, i + 1 => by
    have := stabs_get h.2 i
    simpa [spec] using this
def inAll (ops : Array Oper) (n : Nat) : Bool := (dsts ops).all fun d => Nat.blt d n
theorem inAll_of (h : inAll ops n = true) (i d : Nat) (hd : (ops[i]?).bind (·.dst) = some d) : d < n := by
  have hmem : d ∈ dsts ops := by
    cases ho : ops[i]? with
    | none => rw [ho] at hd; cases hd
    | some o =>
      rw [ho] at hd
      exact List.mem_filterMap.2 ⟨o, by simpa using Array.mem_of_getElem? ho, hd⟩
  have := List.all_eq_true.1 h d hmem
  simpa using this
/-- **A region that draws its order, told operation by operation.** -/
theorem at_drawR1 {id : Nat} {l : List Oper} (N : Nat) (S : List Spec) (hm : P.follows .mixedOrders = true) (hB : regB l.toArray N = true) (hfr : freshB l.toArray N E = true) (hin : inAll l.toArray n = true) (hst : stabs S)
    (steps : StepsOk P n E C H l.toArray S N 0 l)
    (fin : ∀ (vs : Nat → Value) (w1 : World), Own C H w1 → predFact S vs (List.range N) w1 → At n (predEnv l.toArray S vs (List.range N) E) (C.re w1 H) H (lwp r P l.toArray Q (l.drop N))) :
    At n E C H (cwp r P (Code.region id l.toArray true) Q) := by
  intro a w hf hdf ho
  have hr := reg_of hB
  refine wpIn_region_any hm (any_rel hr (stabs_get hst) hfr (inAll_of hin) (fun i o hi hoo vs => ?_) ?_ _ _ _ _ (by simp) ?_ ?_ ?_ ⟨hf, hdf, (show Own C H w.drew from ho.drew), ?_⟩)
  · have := steps_get steps i o hi (by simpa using hoo) vs
    rwa [Nat.zero_add] at this
  · intro listed a' w' hlo ⟨hf', hdf', ho', hg⟩
    let vs : Nat → Value := fun k => match (l.toArray[k]?).bind (·.dst) with
      | some d => (a'.tmps[d]?).getD undef
      | none => undef
    have hall : ∀ i ∈ List.range N, ∀ d, (l.toArray[i]?).bind (·.dst) = some d → a'.tmps[d]? = some (vs i) ∧ (spec S i).ok (vs i) w' := fun i hi d hd => by
      have hiN := List.mem_range.1 hi
      obtain ⟨u, hu, hok⟩ := hg i hiN (hlo i hiN) d hd
      have : vs i = u := by simp only [vs, hd, hu, Option.getD_some]
      rw [this]
      exact ⟨hu, hok⟩
    have hfE := fits_pred (ops := l.toArray) (S := S) (vs := vs) (w := w') hf' hall
    have hfact : predFact S vs (List.range N) w' := predFact_of fun i hi => by
      have hiN := List.mem_range.1 hi
      have hio : i < l.toArray.size := Nat.lt_of_lt_of_le hiN hr.le
      obtain ⟨d, hd⟩ := Option.isSome_iff_exists.1 (hr.dst i _ (Array.getElem?_eq_getElem hio) hiN)
      exact (hall i hi d (by rw [Array.getElem?_eq_getElem hio]; exact hd)).2
    have hfin := fin vs w' ho' hfact a' w' hfE hdf' ho'.re
    have hle : N ≤ l.length := by simpa using hr.le
    have e := wpOpsIn_eq_wpListIn (F := fe r) (n := 0) (P := P) (Q := Q) (ops := l.toArray) (l.drop N) N (fun j => by simp)
    rw [List.length_drop] at e
    rw [List.size_toArray, e]
    exact hfin
  · unfold cnt; simp
  · intro j o hj hjl
    exfalso
    rw [Array.getElem?_replicate] at hjl
    split at hjl <;> simp at hjl
  · intro i hi his
    rw [Array.getElem?_replicate, if_pos his]
  · intro i hi hil
    exfalso
    rw [Array.getElem?_replicate] at hil
    split at hil <;> simp at hil
def memB : List Nat → Nat → Bool
  | [], _ => false
  | d :: ds, s => match Nat.beq d s with
    | true => true
    | false => memB ds s
/-- What is known of other slots than these. -/
def wash (ds : List Nat) : List (Nat × Value) → List (Nat × Value)
  | [] => []
  | (s, v) :: E => match memB ds s with
    | true => wash ds E
    | false => (s, v) :: wash ds E
theorem memB_iff {s : Nat} : ∀ {ds : List Nat}, memB ds s = true ↔ s ∈ ds
  | [] => by simp [memB]
  | d :: ds => by
    unfold memB
    cases hb : Nat.beq d s
    · have : d ≠ s := fun e => by subst e; simp at hb
      simp [memB_iff, Ne.symm this]
    · have := Nat.eq_of_beq_eq_true hb
      simp [this]
theorem wash_get {ds : List Nat} {t : Nat} {v : Value} : ∀ {E : List (Nat × Value)}, eget (wash ds E) t = some v → eget E t = some v
  | [], h => by simp [wash, eget] at h
  | (s, u) :: E, h => by
    unfold wash at h
    rw [eget_cons]
    split at h
    · rename_i hm
      have h1 := wash_get h
      have hst : s ≠ t := fun e => by
        subst e
        have : ∀ {E : List (Nat × Value)} {v : Value}, eget (wash ds E) s = some v → False := by
          intro E
          induction E with
          | nil => intro v h; simp [wash, eget] at h
          | cons p E ih =>
            obtain ⟨r, x⟩ := p
            intro v h
            unfold wash at h
            split at h
            · exact ih h
            · rename_i hr
              rw [eget_cons] at h
              split at h
              · rename_i e; subst e; rw [hm] at hr; cases hr
              · exact ih h
        exact this h
      rw [if_neg hst]; exact h1
    · rw [eget_cons] at h
      split at h
      · rename_i e; rw [if_pos e]; exact h
      · rename_i e; rw [if_neg e]; exact wash_get h
theorem wash_fresh {ops : Array Oper} {N : Nat} : ∀ {E : List (Nat × Value)}, freshB ops N (wash (dstsN ops N) E) = true
  | [] => rfl
  | (s, u) :: E => by
    unfold wash
    split
    · exact wash_fresh
    · rename_i hm
      have h1 : freshB ops N (wash (dstsN ops N) E) = true := wash_fresh
      unfold freshB at h1 ⊢
      rw [List.all_cons, h1, Bool.and_true]
      have : s ∉ dstsN ops N := fun h => by rw [memB_iff.2 h] at hm; cases hm
      simp [this]
theorem at_drawR {id : Nat} {l : List Oper} (N : Nat) (S : List Spec) (hm : P.follows .mixedOrders = true) (hB : regB l.toArray N = true) (hin : inAll l.toArray n = true) (hst : stabs S)
    (steps : StepsOk P n (wash (dstsN l.toArray N) E) C H l.toArray S N 0 l)
    (fin : ∀ (vs : Nat → Value) (w1 : World), Own C H w1 → predFact S vs (List.range N) w1 → At n (predEnv l.toArray S vs (List.range N) (wash (dstsN l.toArray N) E)) (C.re w1 H) H (lwp r P l.toArray Q (l.drop N))) :
    At n E C H (cwp r P (Code.region id l.toArray true) Q) := fun a w hf hdf ho =>
  at_drawR1 N S hm hB wash_fresh hin hst steps fin a w ⟨hf.size, fun t v h => hf.get t v (wash_get h)⟩ hdf ho
theorem at_drawR0 {id : Nat} {l : List Oper} (N : Nat) (S : List Spec) (hm : P.follows .mixedOrders = true) (hB : regB l.toArray N = true) (hin : inAll l.toArray n = true) (hst : stabs S)
    (steps : StepsOk P n (wash (dstsN l.toArray N) E) C H l.toArray S N 0 l)
    (fin : ∀ (vs : Nat → Value), At n (predEnv l.toArray S vs (List.range N) (wash (dstsN l.toArray N) E)) C H (lwp r P l.toArray Q (l.drop N))) :
    At n E C H (cwp r P (Code.region id l.toArray true) Q) :=
  at_drawR N S hm hB hin hst steps fun vs w1 hw1 _ a w hf hdf ho => fin vs a w hf hdf
    ⟨ho.orig, hw1.base.trans ho.base fun k hk hF => ((hw1.mine k hF).2).elim (fun h => absurd h (by omega)) (fun h => h), ho.ok, ho.nodup, hw1.mine, hw1.sub, ho.mark⟩
/-! Steps of such a region. -/
theorem so_nil {ops : Array Oper} {S : List Spec} {j : Nat} {l : List Oper} : StepsOk P n E C H ops S 0 j l := trivial
theorem so_cons {ops : Array Oper} {S : List Spec} {m j : Nat} {o : Oper} {rest : List Oper} (hg : o.guard = none) (h1 : ∀ vs : Nat → Value, Step1 P n (predEnv ops S vs (edges o) E) C H (predFact S vs (edges o)) o (spec S j)) (h2 : StepsOk P n E C H ops S m (j + 1) rest) :
    StepsOk P n E C H ops S (m + 1) j (o :: rest) := ⟨fun vs => by unfold StepG; rw [hg]; exact .inl (h1 vs), h2⟩
theorem so_turn {ops : Array Oper} {S : List Spec} {m j : Nat} {o : Oper} {rest : List Oper} (hg : o.guard = none) (h1 : ∀ vs : Nat → Value, StepT P n (predEnv ops S vs (edges o) E) C H (predFact S vs (edges o)) ops S j o) (h2 : StepsOk P n E C H ops S m (j + 1) rest) :
    StepsOk P n E C H ops S (m + 1) j (o :: rest) := ⟨fun vs => by unfold StepG; rw [hg]; exact .inr (h1 vs), h2⟩
theorem so_on {ops : Array Oper} {S : List Spec} {m j g t : Nat} {b : Bool} {c : Value} {o : Oper} {rest : List Oper} (hg : o.guard = some (g, b)) (hy : yslot ops g = some t) (ht : ∀ vs : Nat → Value, eget (predEnv ops S vs (edges o) E) t = some c) (hw : wantB c b = true)
    (h1 : ∀ vs : Nat → Value, Step1 P n (predEnv ops S vs (edges o) E) C H (predFact S vs (edges o)) o (spec S j)) (h2 : StepsOk P n E C H ops S m (j + 1) rest) :
    StepsOk P n E C H ops S (m + 1) j (o :: rest) := ⟨fun vs => by unfold StepG; rw [hg]; exact ⟨t, c, hy, ht vs, by rw [hw]; exact .inl (h1 vs)⟩, h2⟩
theorem so_off {ops : Array Oper} {S : List Spec} {m j g t : Nat} {b : Bool} {c : Value} {o : Oper} {rest : List Oper} (hg : o.guard = some (g, b)) (hy : yslot ops g = some t) (ht : ∀ vs : Nat → Value, eget (predEnv ops S vs (edges o) E) t = some c) (hw : wantB c b = false)
    (hs : spec S j = .val undef) (h2 : StepsOk P n E C H ops S m (j + 1) rest) :
    StepsOk P n E C H ops S (m + 1) j (o :: rest) := ⟨fun vs => by unfold StepG; rw [hg]; exact ⟨t, c, hy, ht vs, by rw [hw, hs]; exact fun _ => rfl⟩, h2⟩
end
end Go.Proofs.YtjpfebgpcokenaaDoor
