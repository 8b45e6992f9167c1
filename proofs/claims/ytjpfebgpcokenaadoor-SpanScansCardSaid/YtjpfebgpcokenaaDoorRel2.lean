/-
  A region that draws its order and of whose first part one operation may come up behind the next one. No condition of its own.
-/
import Derived.Test.YtjpfebgpcokenaaDoorRel
set_option linter.unusedSimpArgs false
set_option linter.unusedVariables false
namespace Go.Proofs.YtjpfebgpcokenaaDoor
open Go.RowKit
section
variable {P : Program} {r : Option Nat} {n : Nat} {E : List (Nat × Value)} {C : Ctx} {H : List Res} {Q : Exit → Act → World → Prop} {ops : Array Oper}
structure RegG (ops : Array Oper) (N : Nat) : Prop where
  le : N ≤ ops.size
  low : ∀ (i : Nat) (o : Oper), ops[i]? = some o → ∀ e ∈ edges o, e < i
  dst : ∀ (i : Nat) (o : Oper), ops[i]? = some o → i < N → o.dst.isSome = true
  nd : ∀ (i : Nat) (o : Oper), ops[i]? = some o → i < N → Op.isDefer o.op = false
  apart : ∀ i j, i < N → j < N → i ≠ j → ∀ d, (ops[i]?).bind (·.dst) = some d → (ops[j]?).bind (·.dst) ≠ some d
/-- The closed facts: operation f may come up behind operation N. -/
def regF (ops : Array Oper) (N f : Nat) : Bool :=
  Nat.blt f N && Nat.blt N ops.size &&
  (List.range ops.size).all (fun i => match ops[i]? with
    | some o => (edges o).all (fun e => Nat.blt e i) && (if Nat.blt i N then (o.dst.isSome && !Op.isDefer o.op) else true) &&
      (if Nat.blt i N then true else (List.range i).all fun k => (Nat.beq i N && Nat.beq k f) || (edges o).any fun e => reach ops ops.size e k)
    | none => false) &&
  (List.range N).all (fun i => (List.range N).all fun j => Nat.beq i j || !(((ops[i]?).bind (·.dst)) == ((ops[j]?).bind (·.dst))))
structure RegF (ops : Array Oper) (N f : Nat) : Prop extends RegG ops N where
  fN : f < N
  lt : N < ops.size
  last : ∀ (i : Nat) (o : Oper), ops[i]? = some o → N ≤ i → ∀ k, k < i → (i = N ∧ k = f) ∨ ∃ e ∈ edges o, reach ops ops.size e k = true
theorem regF_of {N f : Nat} (h : regF ops N f = true) : RegF ops N f := by
  unfold regF at h
  simp only [Bool.and_eq_true] at h
  obtain ⟨⟨⟨h1, h2⟩, h3⟩, h4⟩ := h
  have h1' : f < N := by simpa using h1
  have h2' : N < ops.size := by simpa using h2
  have g3 : ∀ (i : Nat) (o : Oper), ops[i]? = some o → _ := fun i o ho => by
    have := List.all_eq_true.1 h3 i (List.mem_range.2 (Array.getElem?_eq_some_iff.1 ho).1)
    rw [ho] at this
    simp only [Bool.and_eq_true] at this
    exact this
  refine ⟨⟨by omega, fun i o ho e he => ?_, fun i o ho hi => ?_, fun i o ho hi => ?_, fun i j hi hj hne d hd hd' => ?_⟩, h1', h2', fun i o ho hi k hk => ?_⟩
  · have := List.all_eq_true.1 (g3 i o ho).1.1 e he
    simpa using this
  · have := (g3 i o ho).1.2
    have hlt : Nat.blt i N = true := by simpa using hi
    rw [hlt] at this
    simp only [if_true, Bool.and_eq_true] at this
    exact this.1
  · have := (g3 i o ho).1.2
    have hlt : Nat.blt i N = true := by simpa using hi
    rw [hlt] at this
    simp only [if_true, Bool.and_eq_true] at this
    simpa using this.2
  · have := List.all_eq_true.1 (List.all_eq_true.1 h4 i (List.mem_range.2 hi)) j (List.mem_range.2 hj)
    rw [hd, hd'] at this
    simp [hne] at this
  · have := (g3 i o ho).2
    have hlt : Nat.blt i N = false := by
      cases hb : Nat.blt i N
      · rfl
      · exact absurd (by simpa using hb) (Nat.not_lt.2 hi)
    rw [hlt] at this
    simp only [Bool.false_eq_true, if_false] at this
    have := List.all_eq_true.1 this k (List.mem_range.2 hk)
    rw [Bool.or_eq_true] at this
    rcases this with h | h
    · left; simpa using h
    · exact .inr (List.any_eq_true.1 h)
/-- What comes up is forced: the list says how. -/
theorem any_list : ∀ (l : List Nat) (fuel : Nat) (listed : Array Bool) (a : Act) (w : World), listed.size = ops.size → cnt listed ≤ fuel →
    (∀ (l1 l2 : List Nat), l = l1 ++ l2 → ∀ (ls : Array Bool), ls = l1.foldl (fun s i => s.setIfInBounds i true) listed → match l2 with
      | [] => Region.ready .any ops ls = []
      | i :: _ => (∀ k ∈ Region.ready .any ops ls, k = i) ∧ i ∈ Region.ready .any ops ls) →
    wpOpsIn (fe r) 0 P ops Q l a w → wpAnyIn (fe r) 0 P .any ops Q fuel listed a w
  | [], fuel, listed, a, w, hsz, hcn, hl, h => by
    have h0 := hl [] [] rfl _ rfl
    simp only [List.foldl_nil] at h0
    cases fuel with
    | zero => exact ⟨h0, by simpa [wpOpsIn] using h⟩
    | succ fuel => exact ⟨fun _ => by simpa [wpOpsIn] using h, fun i hi => by rw [h0] at hi; cases hi⟩
  | i :: l, fuel, listed, a, w, hsz, hcn, hl, h => by
    have h0 := hl [] (i :: l) rfl _ rfl
    simp only [List.foldl_nil] at h0
    obtain ⟨h1, o, ho, he⟩ := ready_spec h0.2 hsz
    cases fuel with
    | zero => have := cnt_pos h1; omega
    | succ fuel =>
      refine ⟨fun hn => absurd h0.2 (by rw [hn]; exact List.not_mem_nil), fun k hk => ?_⟩
      obtain rfl := h0.1 k hk
      rw [wpOpsIn_cons] at h
      refine wpOpIn_mono (fun a' w' h' => any_list l fuel _ a' w' (by simpa using hsz) (by have := cnt_set h1; omega) (fun l1 l2 e ls hls => ?_) h') h
      exact hl (k :: l1) l2 (by rw [e]; rfl) ls (by rw [hls]; rfl)
theorem any_relG {S : List Spec} {N : Nat} (hr : RegG ops N) (hst : ∀ i, (spec S i).stab) (hfr : freshB ops N E = true) (hin : ∀ (i d : Nat), (ops[i]?).bind (·.dst) = some d → d < n)
    (steps : ∀ (i : Nat) (o : Oper), i < N → ops[i]? = some o → ∀ vs : Nat → Value, StepG P n (predEnv ops S vs (edges o) E) C H (predFact S vs (edges o)) ops S i o)
    (full : ∀ (fuel : Nat) (listed : Array Bool) (a : Act) (w : World), listed.size = ops.size → cnt listed ≤ fuel → (∀ i, N ≤ i → i < ops.size → listed[i]? = some false) → Gave n E C H ops S N listed a w → (∀ i, i < N → listed[i]? = some true) → wpAnyIn (fe r) 0 P .any ops Q fuel listed a w)
    (late : ∀ (fuel i : Nat) (listed : Array Bool) (a : Act) (w : World), listed.size = ops.size → cnt listed ≤ fuel + 1 → Closed ops listed → (∀ i, N ≤ i → i < ops.size → listed[i]? = some false) → Gave n E C H ops S N listed a w → (∃ k, k < N ∧ listed[k]? = some false) → i ∈ Region.ready .any ops listed → N ≤ i → wpOpIn (fe r) 0 P ops Q i (wpAnyIn (fe r) 0 P .any ops Q fuel (listed.setIfInBounds i true)) a w) :
    ∀ (fuel : Nat) (listed : Array Bool) (a : Act) (w : World), listed.size = ops.size → cnt listed ≤ fuel → Closed ops listed → (∀ i, N ≤ i → i < ops.size → listed[i]? = some false) → Gave n E C H ops S N listed a w → wpAnyIn (fe r) 0 P .any ops Q fuel listed a w := by
  intro fuel
  induction fuel with
  | zero =>
    intro listed a w hsz hcn hcl hhi hg
    refine full 0 listed a w hsz hcn hhi hg fun i hi => ?_
    have hlt : i < listed.size := by have := hr.le; omega
    cases hb : listed[i]? with
    | none => rw [Array.getElem?_eq_none_iff] at hb; omega
    | some b =>
      cases b
      · have := cnt_pos hb; omega
      · rfl
  | succ fuel ih =>
    intro listed a w hsz hcn hcl hhi hg
    by_cases hall : ∀ i, i < N → listed[i]? = some true
    · exact full (fuel + 1) listed a w hsz hcn hhi hg hall
    · have hex : ∃ i, i < N ∧ listed[i]? = some false := by
        refine Classical.byContradiction fun hno => hall fun i hi => ?_
        have hlt : i < listed.size := by have := hr.le; omega
        cases hb : listed[i]? with
        | none => rw [Array.getElem?_eq_none_iff] at hb; omega
        | some b =>
          cases b
          · exact absurd ⟨i, hi, hb⟩ hno
          · rfl
      refine ⟨fun h0 => ?_, fun i hi => ?_⟩
      · exfalso
        obtain ⟨k, hk, hmin⟩ := exists_least hex
        have hko : k < ops.size := by have := hr.le; omega
        have : k ∈ Region.ready .any ops listed := mem_ready.2 ⟨by rw [Array.getD_eq_getD_getElem?, hk.2]; rfl, ops[k], Array.getElem?_eq_getElem hko, fun e hee hb => by
          have hlow := hr.low k _ (Array.getElem?_eq_getElem hko) e.on (List.mem_filterMap.2 ⟨e, by simpa using hee, by simp [hb]⟩)
          have hlt : e.on < listed.size := by omega
          cases hbb : listed[e.on]? with
          | none => rw [Array.getElem?_eq_none_iff] at hbb; omega
          | some b =>
            cases b
            · have := hmin e.on ⟨by omega, hbb⟩; omega
            · rw [Array.getD_eq_getD_getElem?, hbb]; rfl⟩
        rw [h0] at this
        cases this
      · by_cases hiN : i < N
        case neg => exact late fuel i listed a w hsz hcn hcl hhi hg hex hi (by omega)
        obtain ⟨h1, o, ho, he⟩ := ready_spec hi hsz
        have he' : ∀ e ∈ edges o, listed[e]? = some true := fun e hee => by
          rcases he e hee with h | h
          · exact h
          · have := hr.low i o ho e hee; have := (Array.getElem?_eq_some_iff.1 ho).1; omega
        obtain ⟨hf, hdf, ho', hgv⟩ := hg
        let vs : Nat → Value := fun k => match (ops[k]?).bind (·.dst) with
          | some d => (a.tmps[d]?).getD undef
          | none => undef
        have hpred : ∀ e ∈ edges o, ∀ d, (ops[e]?).bind (·.dst) = some d → a.tmps[d]? = some (vs e) ∧ (spec S e).ok (vs e) w := fun e hee d hd => by
          have hlow := hr.low i o ho e hee
          obtain ⟨u, hu, hok⟩ := hgv e (by omega) (he' e hee) d hd
          have : vs e = u := by simp only [vs, hd, hu, Option.getD_some]
          rw [this]
          exact ⟨hu, hok⟩
        have hfE := fits_pred (ops := ops) (S := S) (vs := vs) (w := w) hf hpred
        have hfact : predFact S vs (edges o) w := predFact_of fun e hee => by
          have hlow := hr.low i o ho e hee
          have heo : e < ops.size := by have := (Array.getElem?_eq_some_iff.1 ho).1; omega
          have hds := hr.dst e ops[e] (Array.getElem?_eq_getElem heo) (by omega)
          obtain ⟨d, hd⟩ := Option.isSome_iff_exists.1 hds
          exact (hpred e hee d (by rw [Array.getElem?_eq_getElem heo]; exact hd)).2
        have hstep := steps i o hiN ho vs
        obtain ⟨d, hd⟩ := Option.isSome_iff_exists.1 (hr.dst i o ho hiN)
        have hdi : (ops[i]?).bind (·.dst) = some d := by rw [ho]; exact hd
        -- what is handed on
        have next : ∀ (u : Value) (w' : World), Own C H w' → Others ops S i w w' → (spec S i).ok u w' → wpAnyIn (fe r) 0 P .any ops Q fuel (listed.setIfInBounds i true) (a.put o.dst u) w' := fun u w' hw' hb hok => by
          refine ih _ _ _ (by simpa using hsz) (by have := cnt_set h1; omega) (closed_set hcl ho he') (fun j hj hjs => by rw [Array.getElem?_setIfInBounds_ne (by omega)]; exact hhi j hj hjs) ⟨?_, hdf.put _ _, hw', ?_⟩
          · rw [hd]; exact fits_fresh hf (fresh_of hfr hiN hdi)
          · intro j hj hjl d' hd'
            by_cases hij : i = j
            · subst hij
              rw [hdi] at hd'; cases hd'
              refine ⟨u, ?_, hok⟩
              rw [hd]
              have : d < a.tmps.size := by rw [hf.size]; exact hin i d hdi
              simp [Act.put, this]
            · rw [Array.getElem?_setIfInBounds_ne hij] at hjl
              obtain ⟨x, hx, hxok⟩ := hgv j hj hjl d' hd'
              refine ⟨x, ?_, hb j (Ne.symm hij) (by
                cases hrr : reach ops ops.size j i with
                | false => rfl
                | true => have := reach_listed hcl _ j i hrr hjl; rw [h1] at this; cases this) x hxok⟩
              rw [hd]
              have hne : d ≠ d' := fun e => hr.apart i j hiN hj hij d hdi (e ▸ hd')
              simp only [Act.put]
              rw [Array.getElem?_setIfInBounds_ne hne]
              exact hx
        have one : StepB P n (predEnv ops S vs (edges o) E) C H (predFact S vs (edges o)) ops S i o → o.wpIn (fe r) 0 P a w (wpAnyIn (fe r) 0 P .any ops Q fuel (listed.setIfInBounds i true)) Q := fun h => by
          refine ⟨fun _ _ => trivial, ?_⟩
          rw [show (fe r).round = r from rfl, semAt_of (hr.nd i o ho hiN)]
          rcases h with h | h
          · rcases h a w hfE ho' hfact with ⟨u, w', hrun, hw', hb, hok⟩ | ⟨f, args, hrun, hcall⟩
            · rw [hrun]; exact next u w' hw' (others_below hst hb) hok
            · rw [hrun]
              refine upon_call hcall ?_
              rintro e w' ⟨u, rfl, hw', hb, hok⟩
              exact ⟨u, rfl, next u w' hw' (others_below hst hb) hok⟩
          · rcases h a w hfE ho' hfact with ⟨u, w', hrun, hw', hb, hok⟩ | ⟨f, args, hrun, hcall⟩
            · rw [hrun]; exact next u w' hw' hb hok
            · rw [hrun]
              refine upon_call hcall ?_
              rintro e w' ⟨u, rfl, hw', hb, hok⟩
              exact ⟨u, rfl, next u w' hw' hb hok⟩
        unfold wpOpIn
        simp only [ho]
        unfold StepG at hstep
        cases hg : o.guard with
        | none =>
          rw [hg] at hstep
          rw [if_pos (by simp [Region.wanted, hg])]
          exact one hstep
        | some gb =>
          obtain ⟨g, b⟩ := gb
          rw [hg] at hstep
          obtain ⟨t, c, hy, hge, hcase⟩ := hstep
          rw [fits_wanted hfE hg hy hge]
          split
          · rename_i hwb
            rw [hwb, if_pos rfl] at hcase
            exact one hcase
          · rename_i hwb
            rw [if_neg hwb] at hcase
            exact ⟨fun _ _ => trivial, next undef w ho' (fun _ _ _ _ h => h) (hcase w)⟩
theorem ready_of {listed : Array Bool} {i : Nat} {o : Oper} (h1 : listed[i]? = some false) (ho : ops[i]? = some o) (he : ∀ e ∈ edges o, listed[e]? = some true) : i ∈ Region.ready .any ops listed :=
  mem_ready.2 ⟨by rw [Array.getD_eq_getD_getElem?, h1]; rfl, o, ho, fun e hee hb => by
    have := he e.on (List.mem_filterMap.2 ⟨e, by simpa using hee, by simp [hb]⟩)
    rw [Array.getD_eq_getD_getElem?, this]; rfl⟩
theorem set_get {s : Array Bool} {i j : Nat} (hi : i < s.size) : (s.setIfInBounds i true)[j]? = if i = j then some true else s[j]? := by
  rw [Array.getElem?_setIfInBounds]
  split <;> simp_all
/-- All of the first part but f is up, and N: what is left. -/
theorem any_float {N f : Nat} (hr : RegF ops N f) (hsz2 : ops.size = N + 2) {fuel : Nat} {listed : Array Bool} {a : Act} {w : World} (hsz : listed.size = ops.size) (hcn : cnt listed ≤ fuel) (hcl : Closed ops listed) (hlo : ∀ k, k ≤ N → k ≠ f → listed[k]? = some true) (hf0 : listed[f]? = some false) (hN1 : listed[N + 1]? = some false)
    (h : wpOpsIn (fe r) 0 P ops Q [f, N + 1] a w) : wpAnyIn (fe r) 0 P .any ops Q fuel listed a w := by
  have hfN := hr.fN
  have low := hr.low
  have s1 : ∀ j, (listed.setIfInBounds f true)[j]? = if f = j then some true else listed[j]? := fun j => set_get (by omega)
  have s2 : ∀ j, ((listed.setIfInBounds f true).setIfInBounds (N + 1) true)[j]? = if N + 1 = j then some true else if f = j then some true else listed[j]? := fun j => by rw [set_get (by simp; omega), s1]
  have of : ops[f]? = some ops[f] := Array.getElem?_eq_getElem (by omega)
  have oL : ops[N + 1]? = some ops[N + 1] := Array.getElem?_eq_getElem (by omega)
  refine any_list [f, N + 1] fuel listed a w hsz hcn (fun l1 l2 e ls hls => ?_) h
  match l1, e with
  | [], e =>
    obtain rfl : l2 = [f, N + 1] := e.symm
    rw [show ls = listed from hls]
    refine ⟨fun k hk => ?_, ready_of hf0 of fun e he => hlo e (by have := low f _ of e he; omega) (by have := low f _ of e he; omega)⟩
    obtain ⟨q1, o, ho, q2⟩ := ready_spec hk hsz
    have hks := (Array.getElem?_eq_some_iff.1 ho).1
    refine Classical.byContradiction fun hkf => ?_
    have hk1 : k = N + 1 := by
      refine Classical.byContradiction fun hk1 => ?_
      rw [hlo k (by omega) hkf] at q1
      cases q1
    subst hk1
    rcases hr.last (N + 1) o ho (by omega) f (by omega) with ⟨h1, _⟩ | ⟨e, he, hre⟩
    · omega
    · have hel : listed[e]? = some true := by
        rcases q2 e he with h | h
        · exact h
        · have := low _ _ ho e he; omega
      have := reach_listed hcl _ e f hre hel
      rw [hf0] at this
      cases this
  | [x], e =>
    simp only [List.cons_append, List.nil_append, List.cons.injEq] at e
    obtain ⟨rfl, rfl⟩ := e
    subst hls
    simp only [List.foldl_cons, List.foldl_nil]
    refine ⟨fun k hk => ?_, ready_of (by rw [s1, if_neg (by omega)]; exact hN1) oL fun e he => ?_⟩
    · obtain ⟨q1, o, ho, q2⟩ := ready_spec hk (by simpa using hsz)
      have hks := (Array.getElem?_eq_some_iff.1 ho).1
      refine Classical.byContradiction fun hk1 => ?_
      rw [s1] at q1
      split at q1
      · cases q1
      · rw [hlo k (by omega) (by omega)] at q1; cases q1
    · have hlow := low _ _ oL e he
      rw [s1]
      split
      · rfl
      · exact hlo e (by omega) (by omega)
  | [x, y], e =>
    simp only [List.cons_append, List.nil_append, List.cons.injEq] at e
    obtain ⟨rfl, rfl, rfl⟩ := e
    subst hls
    simp only [List.foldl_cons, List.foldl_nil]
    apply List.eq_nil_iff_forall_not_mem.2
    intro k hk
    obtain ⟨q1, o, ho, q2⟩ := ready_spec hk (by simpa using hsz)
    have hks := (Array.getElem?_eq_some_iff.1 ho).1
    rw [s2] at q1
    split at q1
    · cases q1
    · split at q1
      · cases q1
      · rw [hlo k (by omega) (by omega)] at q1; cases q1
  | x :: y :: z :: l1, e => simp at e
/-- As at_drawR, where operation f may come up behind operation N, the last but one. -/
theorem at_drawF {id : Nat} {l : List Oper} {oN of oL : Oper} (N f : Nat) (S : List Spec) (hm : P.follows .mixedOrders = true) (hF : regF l.toArray N f = true) (h1 : l[N]? = some oN) (h2 : l[f]? = some of) (h3 : l[N + 1]? = some oL) (hl : Nat.beq l.length (N + 2) = true) (hin : inAll l.toArray n = true) (hst : stabs S)
    (steps : StepsOk P n (wash (dstsN l.toArray N) E) C H l.toArray S N 0 l)
    (fin1 : ∀ (vs : Nat → Value) (w1 : World), Own C H w1 → predFact S vs (List.range N) w1 → At n (predEnv l.toArray S vs (List.range N) (wash (dstsN l.toArray N) E)) (C.re w1 H) H (lwp r P l.toArray Q [oN, oL]))
    (fin2 : ∀ (vs : Nat → Value) (w1 : World), Own C H w1 → predFact S vs ((List.range N).filter (fun i => !Nat.beq i f)) w1 → At n (predEnv l.toArray S vs ((List.range N).filter (fun i => !Nat.beq i f)) (wash (dstsN l.toArray N) E)) (C.re w1 H) H (lwp r P l.toArray Q [oN, of, oL])) :
    At n E C H (cwp r P (Code.region id l.toArray true) Q) := by
  intro a w hf0 hdf ho
  have hf : Fits n (wash (dstsN l.toArray N) E) a := ⟨hf0.size, fun t v h => hf0.get t v (wash_get h)⟩
  have hr := regF_of hF
  have hl2 : l.length = N + 2 := by simpa using hl
  have hsz2 : l.toArray.size = N + 2 := by simpa using hl2
  have hfN := hr.fN
  have env : ∀ (L : List Nat) (listed : Array Bool) (a' : Act) (w' : World), (∀ i ∈ L, i < N ∧ listed[i]? = some true) → Gave n (wash (dstsN l.toArray N) E) C H l.toArray S N listed a' w' → ∃ vs : Nat → Value, Fits n (predEnv l.toArray S vs L (wash (dstsN l.toArray N) E)) a' ∧ predFact S vs L w' := by
    rintro L listed a' w' hL ⟨hf', hdf', ho', hg⟩
    refine ⟨fun k => match (l.toArray[k]?).bind (·.dst) with
      | some d => (a'.tmps[d]?).getD undef
      | none => undef, ?_, ?_⟩
    · refine fits_pred (ops := l.toArray) (S := S) (w := w') hf' fun i hi d hd => ?_
      obtain ⟨u, hu, hok⟩ := hg i (hL i hi).1 (hL i hi).2 d hd
      simp only [hd, hu, Option.getD_some]
      exact ⟨trivial, hok⟩
    · refine predFact_of fun i hi => ?_
      have hio : i < l.toArray.size := by have := (hL i hi).1; omega
      obtain ⟨d, hd⟩ := Option.isSome_iff_exists.1 (hr.dst i _ (Array.getElem?_eq_getElem hio) (hL i hi).1)
      have hd' : (l.toArray[i]?).bind (·.dst) = some d := by rw [Array.getElem?_eq_getElem hio]; exact hd
      obtain ⟨u, hu, hok⟩ := hg i (hL i hi).1 (hL i hi).2 d hd'
      simp only [hd', hu, Option.getD_some]
      exact hok
  have ops1 : ∀ a' w', lwp r P l.toArray Q [oN, oL] a' w' → wpOpsIn (fe r) 0 P l.toArray Q [N, N + 1] a' w' := fun a' w' h => by
    unfold lwp at h
    simp only [wpOpsIn, wpListIn, List.getElem?_toArray, h1, h3] at h ⊢
    exact h
  have ops2 : ∀ a' w', lwp r P l.toArray Q [oN, of, oL] a' w' → wpOpsIn (fe r) 0 P l.toArray Q [N, f, N + 1] a' w' := fun a' w' h => by
    unfold lwp at h
    simp only [wpOpsIn, wpListIn, List.getElem?_toArray, h1, h2, h3] at h ⊢
    exact h
  have oN' : l.toArray[N]? = some oN := by simpa using h1
  have oL' : l.toArray[N + 1]? = some oL := by simpa using h3
  refine wpIn_region_any hm (any_relG hr.toRegG (stabs_get hst) wash_fresh (inAll_of hin) (fun i o hi hoo vs => ?_) ?_ ?_ _ _ _ _ (by simp) ?_ ?_ ?_ ⟨hf, hdf, (show Own C H w.drew from ho.drew), ?_⟩)
  · have := steps_get steps i o hi (by simpa using hoo) vs
    rwa [Nat.zero_add] at this
  · intro fuel listed a' w' hsz hcn hhi hg hlo
    obtain ⟨vs, q1, q2⟩ := env (List.range N) listed a' w' (fun i hi => ⟨List.mem_range.1 hi, hlo i (List.mem_range.1 hi)⟩) hg
    have hfin := ops1 _ _ (fin1 vs w' hg.2.2.1 q2 a' w' q1 hg.2.1 hg.2.2.1.re)
    have s1 : ∀ j, (listed.setIfInBounds N true)[j]? = if N = j then some true else listed[j]? := fun j => set_get (by omega)
    have s2 : ∀ j, ((listed.setIfInBounds N true).setIfInBounds (N + 1) true)[j]? = if N + 1 = j then some true else if N = j then some true else listed[j]? := fun j => by rw [set_get (by simp; omega), s1]
    refine any_list [N, N + 1] fuel listed a' w' hsz hcn (fun l1 l2 e ls hls => ?_) hfin
    match l1, e with
    | [], e =>
      obtain rfl : l2 = [N, N + 1] := e.symm
      rw [show ls = listed from hls]
      refine ⟨fun k hk => ?_, ready_of (hhi N (Nat.le_refl _) (by omega)) oN' fun e he => hlo e (hr.low _ _ oN' e he)⟩
      obtain ⟨p1, o, ho, p2⟩ := ready_spec hk hsz
      have hks := (Array.getElem?_eq_some_iff.1 ho).1
      refine Classical.byContradiction fun hkN => ?_
      have hk1 : k = N + 1 := by
        refine Classical.byContradiction fun hk1 => ?_
        rw [hlo k (by omega)] at p1
        cases p1
      subst hk1
      rcases hr.last (N + 1) o ho (by omega) N (by omega) with ⟨h1, _⟩ | ⟨e, he, hre⟩
      · omega
      · have hlow := hr.low _ _ ho e he
        have hel : listed[e]? = some true := by
          rcases p2 e he with h | h
          · exact h
          · omega
        have hcl : Closed l.toArray listed := fun j o' ho' hj e' he' => by
          have hjN : j < N := by
            refine Classical.byContradiction fun hj2 => ?_
            rw [hhi j (by omega) (Array.getElem?_eq_some_iff.1 ho').1] at hj; cases hj
          have := hr.low j o' ho' e' he'
          exact hlo e' (by omega)
        have := reach_listed hcl _ e N hre hel
        rw [hhi N (Nat.le_refl _) (by omega)] at this
        cases this
    | [x], e =>
      simp only [List.cons_append, List.nil_append, List.cons.injEq] at e
      obtain ⟨rfl, rfl⟩ := e
      subst hls
      simp only [List.foldl_cons, List.foldl_nil]
      refine ⟨fun k hk => ?_, ready_of (by rw [s1, if_neg (by omega)]; exact hhi (N + 1) (by omega) (by omega)) oL' fun e he => ?_⟩
      · obtain ⟨p1, o, ho, p2⟩ := ready_spec hk (by simpa using hsz)
        have hks := (Array.getElem?_eq_some_iff.1 ho).1
        refine Classical.byContradiction fun hk1 => ?_
        rw [s1] at p1
        split at p1
        · cases p1
        · rw [hlo k (by omega)] at p1; cases p1
      · have hlow := hr.low _ _ oL' e he
        rw [s1]
        split
        · rfl
        · exact hlo e (by omega)
    | [x, y], e =>
      simp only [List.cons_append, List.nil_append, List.cons.injEq] at e
      obtain ⟨rfl, rfl, rfl⟩ := e
      subst hls
      simp only [List.foldl_cons, List.foldl_nil]
      apply List.eq_nil_iff_forall_not_mem.2
      intro k hk
      obtain ⟨p1, o, ho, p2⟩ := ready_spec hk (by simpa using hsz)
      have hks := (Array.getElem?_eq_some_iff.1 ho).1
      rw [s2] at p1
      split at p1
      · cases p1
      · split at p1
        · cases p1
        · rw [hlo k (by omega)] at p1; cases p1
    | x :: y :: z :: l1, e => simp at e
  · intro fuel i listed a' w' hsz hcn hcl hhi hg hex hi hNi
    obtain ⟨k0, hk0, hkf⟩ := hex
    obtain ⟨p1, o, hoi, p2⟩ := ready_spec hi hsz
    have his := (Array.getElem?_eq_some_iff.1 hoi).1
    have p2' : ∀ e ∈ edges o, listed[e]? = some true := fun e he => by
      rcases p2 e he with h | h
      · exact h
      · have := hr.low i o hoi e he; omega
    have miss : ∀ k, k < N → listed[k]? = some false → i = N ∧ k = f := fun k hk hkf => by
      rcases hr.last i o hoi hNi k (by omega) with h | ⟨e, he, hre⟩
      · exact h
      · have := reach_listed hcl _ e k hre (p2' e he)
        rw [hkf] at this; cases this
    obtain ⟨rfl, rfl⟩ := miss k0 hk0 hkf
    have hlo : ∀ k, k < i → k ≠ k0 → listed[k]? = some true := fun k hk hne => by
      have hlt : k < listed.size := by omega
      cases hb : listed[k]? with
      | none => rw [Array.getElem?_eq_none_iff] at hb; omega
      | some b =>
        cases b
        · exact absurd (miss k hk hb).2 hne
        · rfl
    obtain ⟨vs, q1, q2⟩ := env ((List.range i).filter (fun j => !Nat.beq j k0)) listed a' w' (fun j hj => by
      obtain ⟨hj1, hj2⟩ := List.mem_filter.1 hj
      have hj1 := List.mem_range.1 hj1
      refine ⟨hj1, hlo j hj1 fun e => ?_⟩
      subst e
      simp at hj2) hg
    have hfin := ops2 _ _ (fin2 vs w' hg.2.2.1 q2 a' w' q1 hg.2.1 hg.2.2.1.re)
    rw [wpOpsIn_cons] at hfin
    have s1 : ∀ j, (listed.setIfInBounds i true)[j]? = if i = j then some true else listed[j]? := fun j => set_get (by omega)
    refine wpOpIn_mono (fun a2 w2 h2' => any_float hr hsz2 (by simpa using hsz) (by have := cnt_set p1; omega) (closed_set hcl hoi p2') (fun k hk hne => ?_) ?_ ?_ h2') hfin
    · rw [s1]
      split
      · rfl
      · exact hlo k (by omega) hne
    · rw [s1, if_neg (by omega)]; exact hkf
    · rw [s1, if_neg (by omega)]; exact hhi (i + 1) (by omega) (by omega)
  · unfold cnt; simp
  · intro j o hj hjl
    exfalso
    rw [Array.getElem?_replicate] at hjl
    split at hjl <;> simp at hjl
  · intro i hi his
    rw [Array.getElem?_replicate, if_pos his]
  · intro i hi hil
    exfalso
    rw [Array.getElem?_replicate] at hil
    split at hil <;> simp at hil
end
end Go.Proofs.YtjpfebgpcokenaaDoor
