/-
  The plain law of whatever of those that may is begun or ended next; whether an order is whole, and keeps what clashes in its places, as the reference says. No condition of its own.
-/
import Derived.Test.YtchfecmabhfooaaDoorLocks8
set_option linter.unusedSimpArgs false
set_option linter.unusedVariables false
namespace Go.Proofs.YtchfecmabhfooaaDoor
open Go.RowKit

def sumP (ps : List Nat) : Nat → Nat
  | 0 => 0
  | n + 1 => sumP ps n + ph ps n
theorem sumP_le (ps : List Nat) (h : ∀ i, ph ps i ≤ 2) : ∀ n, sumP ps n ≤ 2 * n
  | 0 => Nat.le_refl _
  | n + 1 => by have := sumP_le ps h n; have := h n; show sumP ps n + ph ps n ≤ _; omega
theorem sumP_far (ps : List Nat) (i v : Nat) : ∀ n, n ≤ i → sumP (ps.set i v) n = sumP ps n
  | 0, _ => rfl
  | n + 1, h => by
    show sumP (ps.set i v) n + ph (ps.set i v) n = sumP ps n + ph ps n
    rw [sumP_far ps i v n (by omega), ph_set, if_neg (by omega)]
theorem sumP_set (ps : List Nat) (i : Nat) (hi : i < ps.length) : ∀ n, i < n → sumP (ps.set i (ph ps i + 1)) n = sumP ps n + 1
  | 0, h => absurd h (by omega)
  | n + 1, h => by
    show sumP (ps.set i (ph ps i + 1)) n + ph (ps.set i (ph ps i + 1)) n = sumP ps n + ph ps n + 1
    by_cases e : i = n
    · subst e
      rw [sumP_far ps i _ i (Nat.le_refl _), ph_set, if_pos ⟨rfl, hi⟩]; omega
    · rw [sumP_set ps i hi n (by omega), ph_set, if_neg (fun h => e h.1)]; omega
theorem sumP_zero (n m : Nat) : sumP (List.replicate m 0) n = 0 := by
  induction n with
  | zero => rfl
  | succ n ih =>
    show sumP _ n + ph _ n = 0
    rw [ih]
    simp only [ph, List.getD_eq_getElem?_getD, List.getElem?_replicate]
    split <;> rfl
/-- What holds all along. -/
structure Going (L : List Want2) (ps ended : List Nat) (k : Nat) : Prop where
  sound : Sound ps L.length
  ahead : ∀ i, i < L.length → 1 ≤ ph ps i → ∀ q ∈ aheadL L i, ph ps q = 2
  nodup : ended.Nodup
  mem : ∀ i, i ∈ ended ↔ i < L.length ∧ ph ps i = 2
  keeps : ended.Pairwise fun x y => y < x → pairW L y x = false
  count : k = sumP ps L.length
theorem going0 (L : List Want2) (h : L.length ≤ 1000) : Going L (List.replicate L.length 0) [] 0 := by
  have hz : ∀ i, ph (List.replicate L.length 0) i = 0 := fun i => by
    simp only [ph, List.getD_eq_getElem?_getD, List.getElem?_replicate]
    split <;> rfl
  refine ⟨sound0 h, fun i _ h1 => ?_, List.nodup_nil, fun i => ?_, List.Pairwise.nil, (sumP_zero _ _).symm⟩
  · rw [hz] at h1; omega
  · rw [hz]; simp
theorem mem_run {L : List Want2} {ps : List Nat} {i : Nat} : i ∈ allOf L.length (runB ps) ↔ i < L.length ∧ ph ps i = 1 := by
  rw [mem_allOf]
  simp only [runB, decide_eq_true_eq]
  omega
theorem mem_ready {L : List Want2} {ps : List Nat} {i : Nat} : i ∈ allOf L.length (mayL L ps) ↔ i < L.length ∧ mayL L ps i = true := mem_allOf
theorem hold_none {L : List Want2} {ps : List Nat} {i : Nat} (h : mayL L ps i = true) : ∀ q ∈ aheadL L i, ph ps q = 2 := by
  simp only [mayL, Bool.and_eq_true, decide_eq_true_eq] at h
  intro q hq
  rcases Classical.em (ph ps q = 2) with h2 | h2
  · exact h2
  · have : q ∈ holdL L ps i := List.mem_filter.2 ⟨hq, by simpa using h2⟩
    rw [List.eq_nil_of_length_eq_zero h.2] at this
    cases this
theorem may_of {L : List Want2} {ps : List Nat} {i : Nat} (h0 : ph ps i = 0) (h : ∀ q ∈ aheadL L i, ph ps q = 2) : mayL L ps i = true := by
  simp only [mayL, Bool.and_eq_true, decide_eq_true_eq]
  refine ⟨h0, ?_⟩
  have : holdL L ps i = [] := List.filter_eq_nil_iff.2 fun q hq => by simp [h q hq]
  rw [this]; rfl
theorem left_none {n : Nat} {ps : List Nat} : leftN n ps = 0 ↔ ∀ i, i < n → ph ps i = 2 := by
  unfold leftN
  rw [List.length_eq_zero_iff, allOf, List.filter_eq_nil_iff]
  constructor
  · intro h i hi
    have := h i (List.mem_range.2 hi)
    simp only [leftB, decide_eq_true_eq] at this
    omega
  · intro h i hi
    have := h i (List.mem_range.1 hi)
    simp only [leftB, decide_eq_true_eq, this]
    simp
section
variable {L : List Want2} {ps ended : List Nat} {k : Nat}
theorem Going.le (h : Going L ps ended k) : k ≤ 2 * L.length := by
  rw [h.count]; exact sumP_le ps h.sound.2.2 _
/-- Two that run never clash. -/
theorem Going.apart (h : Going L ps ended k) {x y : Nat} (hx : x ∈ allOf L.length (runB ps)) (hy : y ∈ allOf L.length (runB ps)) (hxy : x < y) : pairW L x y = false := by
  have h1 := mem_run.1 hx
  have h2 := mem_run.1 hy
  cases hp : pairW L x y
  · rfl
  · have := h.ahead y h2.1 (by omega) x (mem_ahead hxy hp)
    omega
theorem least_of {p : Nat → Prop} : ∀ n, p n → ∃ m, p m ∧ ∀ j, j < m → ¬ p j := by
  intro n
  induction n using Nat.strongRecOn with
  | ind n ih =>
    intro hp
    rcases Classical.em (∃ j, j < n ∧ p j) with ⟨j, hj, hpj⟩ | hn
    · exact ih j hj hpj
    · exact ⟨n, hp, fun j hj hpj => hn ⟨j, hj, hpj⟩⟩
/-- One always can go on. -/
theorem Going.some (h : Going L ps ended k) (hl : leftN L.length ps ≠ 0) : 0 < (allOf L.length (mayL L ps)).length + (allOf L.length (runB ps)).length := by
  have hex : ∃ i, i < L.length ∧ ph ps i ≠ 2 := by
    rcases Classical.em (∃ i, i < L.length ∧ ph ps i ≠ 2) with h | h
    · exact h
    · exact absurd (left_none.2 fun i hi => Classical.byContradiction fun h2 => h ⟨i, hi, h2⟩) hl
  obtain ⟨i0, hi0⟩ := hex
  obtain ⟨i, ⟨hi, h2⟩, hmin⟩ := least_of (p := fun i => i < L.length ∧ ph ps i ≠ 2) i0 hi0
  have htwo := h.sound.2.2 i
  by_cases h0 : ph ps i = 0
  · have hm : i ∈ allOf L.length (mayL L ps) := mem_ready.2 ⟨hi, may_of h0 fun q hq => by
      have hq' : q < i := flt_mem hq
      exact Classical.byContradiction fun hn => hmin q hq' ⟨by omega, hn⟩⟩
    have := List.length_pos_of_mem hm
    omega
  · have hm : i ∈ allOf L.length (runB ps) := mem_run.2 ⟨hi, by omega⟩
    have := List.length_pos_of_mem hm
    omega
theorem Going.begins (h : Going L ps ended k) {x : Nat} (hx : x ∈ allOf L.length (mayL L ps)) : x < L.length ∧ beginC L ps x = 0 ∧ beginP L ps x = ps.set x 1 ∧ Going L (ps.set x 1) ended (k + 1) := by
  obtain ⟨hxl, hm⟩ := mem_ready.1 hx
  have h0 := mayL_zero hm
  have hps := h.sound.1
  refine ⟨hxl, by rw [beginC, if_pos h0, hm]; rfl, by rw [beginP, hm]; rfl, h.sound.set (by omega), fun i hi h1 q hq => ?_, h.nodup, fun i => ?_, h.keeps, ?_⟩
  · rw [ph_set] at h1 ⊢
    have hq2 : ph ps q = 2 := by
      by_cases e : x = i
      · subst e; exact hold_none hm q hq
      · rw [if_neg (fun he => e he.1)] at h1; exact h.ahead i hi h1 q hq
    rw [if_neg (fun e => by obtain ⟨rfl, _⟩ := e; omega)]
    exact hq2
  · rw [ph_set, h.mem i]
    by_cases e : x = i
    · subst e
      rw [if_pos ⟨rfl, by omega⟩]
      omega
    · rw [if_neg (fun he => e he.1)]
  · have := sumP_set ps x (by omega) L.length hxl
    rw [h0] at this
    rw [this, h.count]
theorem Going.ends (h : Going L ps ended k) {x : Nat} (hx : x ∈ allOf L.length (runB ps)) : x < L.length ∧ endC ps x = 0 ∧ endP ps x = ps.set x 2 ∧ Going L (ps.set x 2) (ended ++ [x]) (k + 1) := by
  obtain ⟨hxl, h1⟩ := mem_run.1 hx
  have hps := h.sound.1
  have hne : x ∉ ended := fun hm => by have := ((h.mem x).1 hm).2; omega
  refine ⟨hxl, by rw [endC, if_neg (by omega), if_neg (by omega)], by rw [endP, if_pos h1], h.sound.set (by omega), fun i hi hi1 q hq => ?_, ?_, fun i => ?_, ?_, ?_⟩
  · rw [ph_set] at hi1 ⊢
    have hi2 : 1 ≤ ph ps i := by
      by_cases e : x = i
      · subst e; omega
      · rw [if_neg (fun he => e he.1)] at hi1; exact hi1
    have := h.ahead i hi hi2 q hq
    split
    · rfl
    · exact this
  · exact List.nodup_append.2 ⟨h.nodup, by simp, fun a ha b hb e => by
      have : b = x := by simpa using hb
      subst e; subst this; exact hne ha⟩
  · rw [ph_set, List.mem_append, h.mem i]
    by_cases e : x = i
    · subst e
      rw [if_pos ⟨rfl, by omega⟩]
      simp; omega
    · rw [if_neg (fun he => e he.1)]
      have : i ∉ [x] := by simp; exact fun he => e he.symm
      simp [this]
  · refine List.pairwise_append.2 ⟨h.keeps, by simp, fun a ha b hb hlt => ?_⟩
    have : b = x := by simpa using hb
    subst this
    cases hp : pairW L b a
    · rfl
    · have ham := (h.mem a).1 ha
      have := h.ahead a ham.1 (by omega) b (mem_ahead hlt hp)
      omega
  · have := sumP_set ps x (by omega) L.length hxl
    rw [h1] at this
    rw [this, h.count]
theorem Going.whole (h : Going L ps ended k) (hl : leftN L.length ps = 0) : WholeO ended L.length := by
  have hall := left_none.1 hl
  refine ⟨?_, h.nodup, fun i hi => ((h.mem i).1 hi).1⟩
  have hp : ended.Perm (List.range L.length) := (List.perm_ext_iff_of_nodup h.nodup List.nodup_range).2 fun a => by
    rw [h.mem a, List.mem_range]
    exact ⟨fun h => h.1, fun h => ⟨h, hall a h⟩⟩
  simpa using hp.length_eq
theorem Going.few (h : Going L ps ended k) : ended.length ≤ 1000 := by
  have hp : ended.Perm (allOf L.length fun i => decide (ph ps i = 2)) := (List.perm_ext_iff_of_nodup h.nodup (List.Nodup.sublist List.filter_sublist List.nodup_range)).2 fun a => by
    rw [h.mem a, List.mem_filter, List.mem_range]; simp
  have h1 := hp.length_eq
  have h2 := allOf_len L.length fun i => decide (ph ps i = 2)
  have := h.sound.2.1
  omega
end
theorem allOf_up (n : Nat) (p : Nat → Bool) {a b : Nat} (hab : a < b) (hb : b < (allOf n p).length) : (allOf n p)[a] < (allOf n p)[b] :=
  List.pairwise_iff_getElem.1 (List.Pairwise.sublist List.filter_sublist List.pairwise_lt_range : (allOf n p).Pairwise (· < ·)) a b (by omega) hb hab
theorem count_range (k : Nat) : ∀ n, (List.range n).count k = if k < n then 1 else 0
  | 0 => by simp
  | n + 1 => by
    rw [List.range_succ, List.count_append, count_range k n, List.count_singleton]
    by_cases h1 : k < n
    · have h2 : n ≠ k := by omega
      have h3 : k < n + 1 := by omega
      simp [h1, h2, h3]
    · rw [if_neg h1]
      by_cases h2 : k = n
      · subst h2; simp
      · have : ¬ (n == k) = true := by simp; omega
        rw [if_neg (show ¬ k < n + 1 by omega)]
        simp [this]
theorem whole_perm {os : List Nat} {n : Nat} (h : WholeO os n) : os.Perm (List.range n) := by
  have hp : os.Perm ((List.range n).filter fun i => decide (i ∈ os)) := (List.perm_ext_iff_of_nodup h.2.1 (List.Nodup.sublist List.filter_sublist List.nodup_range)).2 fun a => by
    rw [List.mem_filter, List.mem_range]
    simp only [decide_eq_true_eq]
    exact ⟨fun ha => ⟨h.2.2 a ha, ha⟩, fun ha => ha.2⟩
  have h1 := hp.length_eq
  have h2 : ((List.range n).filter fun i => decide (i ∈ os)).length = (List.range n).length := by rw [← h1, h.1]; simp
  have h3 := List.length_filter_eq_length_iff.1 h2
  rw [List.filter_eq_self.2 h3] at hp
  exact hp
theorem count_one {os : List Nat} {n k : Nat} (h : WholeO os n) (hk : k < n) : os.count k = 1 := by
  rw [(whole_perm h).count_eq, count_range, if_pos hk]
attribute [local irreducible] cwp lwp Exit.then Exit.inBlock Exit.noGoto wpQuiet Calls fin At AtQ Again endQ RQ
theorem count_take (os : List Nat) (k i : Nat) (h : i < os.length) : (os.take (i + 1)).count k = (os.take i).count k + if os[i] = k then 1 else 0 := by
  rw [List.take_succ_eq_append_getElem h, List.count_append, List.count_singleton]
  congr 1
  by_cases e : os[i] = k <;> simp [e]
set_option maxHeartbeats 4000000 in
theorem whole_yes (o : Value) (os : List Nat) (n : Nat) (w : World) (hO : ValsAt w o (ints os)) (hW : WholeO os n) (hn : n ≤ 1000) :
    Calls Tryd.prog 38 #[o, .int .i64 (n : Int)] w fun e w' => e = .returned (.bool true) ∧ Below w.heap.size w w' := by
  have hol : (ints os).length = os.length := by simp [ints]
  have hon := hW.1
  obtain ⟨AO, cO, rfl⟩ := hO.len
  refine calls_plain Tryd.func38 rfl Tryd.ntmps38 rfl ?_
  refine at_seq ?_
  refine at_region ?_
  refine at_do (does_assign rfl) rfl rfl ?_
  refine at_nil ?_
  refine at_then ?_
  refine at_seq ?_
  refine at_seq ?_
  refine at_region ?_
  refine at_do (does_assign rfl) rfl rfl ?_
  refine at_nil ?_
  refine at_then ?_
  refine at_block ?_
  rotate_left
  refine at_loop0 (fun k : Nat => k ≤ n) (fun k => [(0, .slice AO (ints os).length cO), (1, .int .i64 n), (5, .int .i64 k)]) (fun k => n - k) 0 (Nat.zero_le _) ⟨rfl, rfl, rfl, trivial⟩ ?_
  rintro k hk
  by_cases hkn : k < n
  · have hc1 := count_one hW hkn
    refine at_seq ?_
    refine at_seq ?_
    refine at_region ?_
    refine at_do (does_move rfl) rfl rfl ?_
    refine at_do (does_move rfl) rfl rfl ?_
    refine at_do (does_lss rfl rfl) rfl rfl ?_
    refine at_nil ?_
    refine at_then ?_
    refine at_cond_t rfl (decide_eq_true (by omega)) ?_
    refine at_skip ?_
    refine at_then ?_
    refine at_seq ?_
    refine at_block ?_
    refine at_seq ?_
    refine at_region ?_
    refine at_do (does_assign rfl) rfl rfl ?_
    refine at_nil ?_
    refine at_then ?_
    refine at_seq ?_
    refine at_seq ?_
    refine at_region ?_
    refine at_do (does_assign rfl) rfl rfl ?_
    refine at_nil ?_
    refine at_then ?_
    refine at_block ?_
    rotate_left
    refine at_loop0 (fun i : Nat => i ≤ os.length) (fun i => [(0, .slice AO (ints os).length cO), (1, .int .i64 n), (5, .int .i64 k), (6, .int .i64 ((os.take i).count k : Nat)), (7, .int .i64 i)]) (fun i => os.length - i) 0 (Nat.zero_le _) ⟨rfl, rfl, rfl, rfl, rfl, trivial⟩ ?_
    rintro i hi
    by_cases hil : i < os.length
    · obtain ⟨gb, oo, c1, hv, hc, hlt, hcell⟩ := hO.form (by omega)
      simp only [Value.slice.injEq, true_and] at hv
      obtain ⟨rfl, rfl⟩ := hv
      have hcj : w.cell? ⟨gb, oo + i, none⟩ = some (.int .i64 ((os[i] : Nat) : Int)) := hcell i _ (by simp [ints, hil])
      have hct := count_take os k i hil
      have hcl : (os.take i).count k ≤ i := Nat.le_trans List.count_le_length (by simp; omega)
      generalize (os.take i).count k = c at hct hcl ⊢
      generalize os[i] = x at hcj hct
      by_cases hx : x = k
      · rw [if_pos hx] at hct
        refine at_seq ?_
        refine at_seq ?_
        refine at_region ?_
        refine at_do (does_move rfl) rfl rfl ?_
        refine at_do (does_move rfl) rfl rfl ?_
        refine at_do (does_len (by kernel_rfl) rfl) rfl rfl ?_
        refine at_do (does_lss rfl rfl) rfl rfl ?_
        refine at_nil ?_
        refine at_then ?_
        refine at_cond_t rfl (decide_eq_true (by omega)) ?_
        refine at_skip ?_
        refine at_then ?_
        refine at_seq ?_
        refine at_block ?_
        refine at_seq ?_
        refine at_region ?_
        refine at_do (does_move rfl) rfl rfl ?_
        refine at_do (does_move rfl) rfl rfl ?_
        refine at_do (does_indexAddr1 (by kernel_rfl) rfl rfl (by omega)) rfl rfl ?_
        refine at_do (does_load_mem (by kernel_rfl) rfl (fun w' ho => Below.cellOld ho.plain hcj)) rfl rfl ?_
        refine at_do (does_move rfl) rfl rfl ?_
        refine at_do (does_eql rfl rfl) rfl rfl ?_
        refine at_nil ?_
        refine at_then ?_
        refine at_cond_t rfl (decide_eq_true (by omega)) ?_
        refine at_region ?_
        refine at_do (does_move rfl) rfl rfl ?_
        refine at_do (does_addi rfl rfl (by omega)) rfl rfl ?_
        refine at_do (does_assign rfl) rfl rfl ?_
        refine at_nil ?_
        refine at_inb ?_
        refine at_then ?_
        refine at_region ?_
        refine at_do (does_move rfl) rfl rfl ?_
        refine at_do (does_addi rfl rfl (by omega)) rfl rfl ?_
        refine at_do (does_assign rfl) rfl rfl ?_
        refine at_nil ?_
        refine at_then ?_
        rotate_left
        refine at_again0 (i + 1) (by omega) (by omega) ⟨rfl, rfl, rfl, ?_, rfl, trivial⟩
        rw [hct]; rfl
      · rw [if_neg hx, Nat.add_zero] at hct
        refine at_seq ?_
        refine at_seq ?_
        refine at_region ?_
        refine at_do (does_move rfl) rfl rfl ?_
        refine at_do (does_move rfl) rfl rfl ?_
        refine at_do (does_len (by kernel_rfl) rfl) rfl rfl ?_
        refine at_do (does_lss rfl rfl) rfl rfl ?_
        refine at_nil ?_
        refine at_then ?_
        refine at_cond_t rfl (decide_eq_true (by omega)) ?_
        refine at_skip ?_
        refine at_then ?_
        refine at_seq ?_
        refine at_block ?_
        refine at_seq ?_
        refine at_region ?_
        refine at_do (does_move rfl) rfl rfl ?_
        refine at_do (does_move rfl) rfl rfl ?_
        refine at_do (does_indexAddr1 (by kernel_rfl) rfl rfl (by omega)) rfl rfl ?_
        refine at_do (does_load_mem (by kernel_rfl) rfl (fun w' ho => Below.cellOld ho.plain hcj)) rfl rfl ?_
        refine at_do (does_move rfl) rfl rfl ?_
        refine at_do (does_eql rfl rfl) rfl rfl ?_
        refine at_nil ?_
        refine at_then ?_
        refine at_cond_f rfl (decide_eq_false (by omega)) ?_
        refine at_skip ?_
        refine at_inb ?_
        refine at_then ?_
        refine at_region ?_
        refine at_do (does_move rfl) rfl rfl ?_
        refine at_do (does_addi rfl rfl (by omega)) rfl rfl ?_
        refine at_do (does_assign rfl) rfl rfl ?_
        refine at_nil ?_
        refine at_then ?_
        rotate_left
        refine at_again0 (i + 1) (by omega) (by omega) ⟨rfl, rfl, rfl, ?_, rfl, trivial⟩
        rw [hct]; rfl
    · obtain rfl : i = os.length := by omega
      rw [List.take_length, hc1]
      refine at_seq ?_
      refine at_seq ?_
      refine at_region ?_
      refine at_do (does_move rfl) rfl rfl ?_
      refine at_do (does_move rfl) rfl rfl ?_
      refine at_do (does_len (by kernel_rfl) rfl) rfl rfl ?_
      refine at_do (does_lss rfl rfl) rfl rfl ?_
      refine at_nil ?_
      refine at_then ?_
      refine at_cond_f rfl (decide_eq_false (by omega)) ?_
      refine at_exit ?_
      refine at_then_exit ?_
      refine at_then_exit ?_
      refine at_inb_here ?_
      refine at_then ?_
      refine at_seq ?_
      refine at_region ?_
      refine at_do (does_move rfl) rfl rfl ?_
      refine at_do (does_neq rfl rfl) rfl rfl ?_
      refine at_nil ?_
      refine at_then ?_
      refine at_cond_f rfl (decide_eq_false (by omega)) ?_
      refine at_skip ?_
      refine at_inb ?_
      refine at_then ?_
      refine at_region ?_
      refine at_do (does_move rfl) rfl rfl ?_
      refine at_do (does_addi rfl rfl (by omega)) rfl rfl ?_
      refine at_do (does_assign rfl) rfl rfl ?_
      refine at_nil ?_
      refine at_then ?_
      rotate_left
      refine at_again0 (k + 1) (by omega) (by omega) ⟨rfl, rfl, rfl, trivial⟩
  · obtain rfl : k = n := by omega
    refine at_seq ?_
    refine at_seq ?_
    refine at_region ?_
    refine at_do (does_move rfl) rfl rfl ?_
    refine at_do (does_move rfl) rfl rfl ?_
    refine at_do (does_lss rfl rfl) rfl rfl ?_
    refine at_nil ?_
    refine at_then ?_
    refine at_cond_f rfl (decide_eq_false (by omega)) ?_
    refine at_exit ?_
    refine at_then_exit ?_
    refine at_then_exit ?_
    refine at_inb_here ?_
    refine at_then ?_
    refine at_seq ?_
    refine at_region ?_
    refine at_do (does_move rfl) rfl rfl ?_
    refine at_do (does_len (by kernel_rfl) rfl) rfl rfl ?_
    refine at_do (does_move rfl) rfl rfl ?_
    refine at_do (does_eql rfl rfl) rfl rfl ?_
    refine at_do (does_assign rfl) rfl rfl ?_
    refine at_nil ?_
    refine at_then ?_
    refine at_ret ?_
    refine at_ret1 rfl rfl rfl (fun w9 ho9 => ?_)
    rotate_left
    exact ⟨ret_bool (decide_eq_true (by omega)), ho9.plain⟩
set_option maxHeartbeats 4000000 in
theorem keeps_yes (arg o : Value) (L : List Want2) (os : List Nat) (w : World) (hV : WantsAt w arg L) (hS : ShortW L) (hO : ValsAt w o (ints os)) (hW : WholeO os L.length) (hP : os.Pairwise fun x y => y < x → pairW L y x = false) :
    Calls Tryd.prog 39 #[arg, o] w fun e w' => e = .returned (.bool true) ∧ Below w.heap.size w w' := by
  have hol : (ints os).length = os.length := by simp [ints]
  have hon := hW.1
  have hS1 := hS.1
  obtain ⟨A0, c0, rfl, hc, hcell⟩ := hV
  obtain ⟨AO, cO, rfl⟩ := hO.len
  refine calls_plain Tryd.func39 rfl Tryd.ntmps39 rfl ?_
  refine at_seq ?_
  refine at_region ?_
  refine at_do (does_assign rfl) rfl rfl ?_
  refine at_nil ?_
  refine at_then ?_
  refine at_seq ?_
  refine at_seq ?_
  refine at_region ?_
  refine at_do (does_assign rfl) rfl rfl ?_
  refine at_nil ?_
  refine at_then ?_
  refine at_block ?_
  rotate_left
  refine at_loop0 (fun i : Nat => i ≤ os.length) (fun i => [(0, .slice A0 L.length c0), (1, .slice AO (ints os).length cO), (5, .int .i64 i)]) (fun i => os.length - i) 0 (Nat.zero_le _) ⟨rfl, rfl, rfl, trivial⟩ ?_
  rintro i hi
  by_cases hil : i < os.length
  · refine at_seq ?_
    refine at_seq ?_
    refine at_region ?_
    refine at_do (does_move rfl) rfl rfl ?_
    refine at_do (does_move rfl) rfl rfl ?_
    refine at_do (does_len (by kernel_rfl) rfl) rfl rfl ?_
    refine at_do (does_lss rfl rfl) rfl rfl ?_
    refine at_nil ?_
    refine at_then ?_
    refine at_cond_t rfl (decide_eq_true (by omega)) ?_
    refine at_skip ?_
    refine at_then ?_
    refine at_seq ?_
    refine at_block ?_
    refine at_seq ?_
    refine at_region ?_
    refine at_do (does_move rfl) rfl rfl ?_
    refine at_do (does_addi rfl rfl (by omega)) rfl rfl ?_
    refine at_do (does_assign rfl) rfl rfl ?_
    refine at_nil ?_
    refine at_then ?_
    refine at_block ?_
    rotate_left
    refine at_loop0 (fun k : Nat => i < k ∧ k ≤ os.length) (fun k => [(0, .slice A0 L.length c0), (1, .slice AO (ints os).length cO), (5, .int .i64 i), (6, .int .i64 k)]) (fun k => os.length - k) (i + 1) (by omega) ⟨rfl, rfl, rfl, rfl, trivial⟩ ?_
    rintro k ⟨hik, hk⟩
    by_cases hkl : k < os.length
    · obtain ⟨go, oo, c1, hv, hc1, hlt1, hcell1⟩ := hO.form (by omega)
      simp only [Value.slice.injEq, true_and] at hv
      obtain ⟨rfl, rfl⟩ := hv
      have hci : w.cell? ⟨go, oo + i, none⟩ = some (.int .i64 ((os[i] : Nat) : Int)) := hcell1 i _ (by simp [ints, hil])
      have hck : w.cell? ⟨go, oo + k, none⟩ = some (.int .i64 ((os[k] : Nat) : Int)) := hcell1 k _ (by simp [ints, hkl])
      have hp := List.pairwise_iff_getElem.1 hP i k hil hkl hik
      have hxi := hW.2.2 os[i] (List.getElem_mem hil)
      have hxk := hW.2.2 os[k] (List.getElem_mem hkl)
      generalize os[i] = x at hci hp hxi
      generalize os[k] = y at hck hp hxk
      by_cases hyx : y < x
      · obtain ⟨gb, o, rfl, hlt, hce⟩ := hcell (by omega)
        obtain ⟨ax, bx, n1, n2, n3, n4, n5, n6⟩ := hce x hxi
        have hsx := hS.2 L[x] (List.getElem_mem _)
        obtain ⟨ay, bY, k1, k2, k3, k4, k5, k6⟩ := hce y hxk
        have hsy := hS.2 L[y] (List.getElem_mem _)
        have hpf : pairF L[y].1 L[y].2 L[x].1 L[x].2 = false := (oldPair (by omega) (by omega)).symm.trans (hp hyx)
        have cP : ∀ {w'}, ValsAt w' ay (strs L[y].1) → ValsAt w' bY (strs L[y].2) → ValsAt w' ax (strs L[x].1) → ValsAt w' bx (strs L[x].2) → Calls Tryd.prog 15 #[.agg #[ay, bY], .agg #[ax, bx]] w' fun e w3 => e = .returned (.bool false) ∧ Below w'.heap.size w' w3 := fun x1 x2 x3 x4 => by
          rw [← hpf]; exact ref_Pair ay bY ax bx _ _ _ _ _ x1 x2 x3 x4 hsy.1 hsy.2 hsx.1 hsx.2 k5 k6 n5 n6
        refine at_seq ?_
        refine at_seq ?_
        refine at_region ?_
        refine at_do (does_move rfl) rfl rfl ?_
        refine at_do (does_move rfl) rfl rfl ?_
        refine at_do (does_len (by kernel_rfl) rfl) rfl rfl ?_
        refine at_do (does_lss rfl rfl) rfl rfl ?_
        refine at_nil ?_
        refine at_then ?_
        refine at_cond_t rfl (decide_eq_true (by omega)) ?_
        refine at_skip ?_
        refine at_then ?_
        refine at_seq ?_
        refine at_block ?_
        refine at_seq ?_
        refine at_draw (by kernel_rfl) (by kernel_rfl) ?_
        refine atq_do (does_move rfl) rfl rfl ?_
        refine atq_do (does_move rfl) rfl rfl ?_
        refine atq_do (does_indexAddr1 (by kernel_rfl) rfl rfl (by omega)) rfl rfl ?_
        refine atq_do (does_load_mem (by kernel_rfl) rfl (fun w' ho => Below.cellOld ho.plain hck)) rfl rfl ?_
        refine atq_do (does_move rfl) rfl rfl ?_
        refine atq_do (does_move rfl) rfl rfl ?_
        refine atq_do (does_indexAddr1 (by kernel_rfl) rfl rfl (by omega)) rfl rfl ?_
        refine atq_do (does_load_mem (by kernel_rfl) rfl (fun w' ho => Below.cellOld ho.plain hci)) rfl rfl ?_
        refine atq_do (does_lss rfl rfl) rfl rfl ?_
        refine atq_do (does_move rfl) rfl rfl ?_
        refine atq_know (t := 30) (d := true) rfl (decide_eq_true (by omega)) ?_
        refine atq_on rfl rfl ?_
        refine atq_do (does_move rfl) rfl rfl ?_
        refine atq_on rfl rfl ?_
        refine atq_do (does_move rfl) rfl rfl ?_
        refine atq_on rfl rfl ?_
        refine atq_do (does_move rfl) rfl rfl ?_
        refine atq_on rfl rfl ?_
        refine atq_do (does_indexAddr1 (by kernel_rfl) rfl rfl (by omega)) rfl rfl ?_
        refine atq_on rfl rfl ?_
        refine atq_do (does_load_mem (by kernel_rfl) rfl (fun w' ho => Below.cellOld ho.plain hck)) rfl rfl ?_
        refine atq_on rfl rfl ?_
        refine atq_do (does_indexAddrk (k := 2) (j := y) (by kernel_rfl) rfl rfl hxk) rfl rfl ?_
        refine atq_on rfl rfl ?_
        refine atq_do (does_loadagg_mem (vs := [ay, bY]) (by kernel_rfl) rfl (fun w' ho => two_cells (Below.cellOld ho.plain k1) (Below.cellOld ho.plain k2))) rfl rfl ?_
        refine atq_on rfl rfl ?_
        refine atq_do (does_move rfl) rfl rfl ?_
        refine atq_on rfl rfl ?_
        refine atq_do (does_move rfl) rfl rfl ?_
        refine atq_on rfl rfl ?_
        refine atq_do (does_move rfl) rfl rfl ?_
        refine atq_on rfl rfl ?_
        refine atq_do (does_indexAddr1 (by kernel_rfl) rfl rfl (by omega)) rfl rfl ?_
        refine atq_on rfl rfl ?_
        refine atq_do (does_load_mem (by kernel_rfl) rfl (fun w' ho => Below.cellOld ho.plain hci)) rfl rfl ?_
        refine atq_on rfl rfl ?_
        refine atq_do (does_indexAddrk (k := 2) (j := x) (by kernel_rfl) rfl rfl hxi) rfl rfl ?_
        refine atq_on rfl rfl ?_
        refine atq_do (does_loadagg_mem (vs := [ax, bx]) (by kernel_rfl) rfl (fun w' ho => two_cells (Below.cellOld ho.plain n1) (Below.cellOld ho.plain n2))) rfl rfl ?_
        refine atq_on rfl rfl ?_
        refine atq_callv (f := 15) (enters_fn (by kernel_rfl) rfl) (fun w ho => cP (ho.oldVals k3) (ho.oldVals k4) (ho.oldVals n3) (ho.oldVals n4)) rfl rfl ?_
        refine atq_do (does_pick_true rfl rfl) rfl rfl ?_
        refine atq_nil ?_
        refine at_then ?_
        refine at_cond_false rfl ?_
        refine at_skip ?_
        refine at_inb ?_
        refine at_then ?_
        refine at_region ?_
        refine at_do (does_move rfl) rfl rfl ?_
        refine at_do (does_addi rfl rfl (by omega)) rfl rfl ?_
        refine at_do (does_assign rfl) rfl rfl ?_
        refine at_nil ?_
        refine at_then ?_
        rotate_left
        refine at_again0 (k + 1) (by omega) (by omega) ⟨rfl, rfl, rfl, rfl, trivial⟩
      · refine at_seq ?_
        refine at_seq ?_
        refine at_region ?_
        refine at_do (does_move rfl) rfl rfl ?_
        refine at_do (does_move rfl) rfl rfl ?_
        refine at_do (does_len (by kernel_rfl) rfl) rfl rfl ?_
        refine at_do (does_lss rfl rfl) rfl rfl ?_
        refine at_nil ?_
        refine at_then ?_
        refine at_cond_t rfl (decide_eq_true (by omega)) ?_
        refine at_skip ?_
        refine at_then ?_
        refine at_seq ?_
        refine at_block ?_
        refine at_seq ?_
        refine at_draw (by kernel_rfl) (by kernel_rfl) ?_
        refine atq_do (does_move rfl) rfl rfl ?_
        refine atq_do (does_move rfl) rfl rfl ?_
        refine atq_do (does_indexAddr1 (by kernel_rfl) rfl rfl (by omega)) rfl rfl ?_
        refine atq_do (does_load_mem (by kernel_rfl) rfl (fun w' ho => Below.cellOld ho.plain hck)) rfl rfl ?_
        refine atq_do (does_move rfl) rfl rfl ?_
        refine atq_do (does_move rfl) rfl rfl ?_
        refine atq_do (does_indexAddr1 (by kernel_rfl) rfl rfl (by omega)) rfl rfl ?_
        refine atq_do (does_load_mem (by kernel_rfl) rfl (fun w' ho => Below.cellOld ho.plain hci)) rfl rfl ?_
        refine atq_do (does_lss rfl rfl) rfl rfl ?_
        refine atq_do (does_move rfl) rfl rfl ?_
        refine atq_know (t := 30) (d := false) rfl (decide_eq_false (by omega)) ?_
        refine atq_no rfl rfl rfl rfl ?_
        refine atq_no rfl rfl rfl rfl ?_
        refine atq_no rfl rfl rfl rfl ?_
        refine atq_no rfl rfl rfl rfl ?_
        refine atq_no rfl rfl rfl rfl ?_
        refine atq_no rfl rfl rfl rfl ?_
        refine atq_no rfl rfl rfl rfl ?_
        refine atq_no rfl rfl rfl rfl ?_
        refine atq_no rfl rfl rfl rfl ?_
        refine atq_no rfl rfl rfl rfl ?_
        refine atq_no rfl rfl rfl rfl ?_
        refine atq_no rfl rfl rfl rfl ?_
        refine atq_no rfl rfl rfl rfl ?_
        refine atq_no rfl rfl rfl rfl ?_
        refine atq_no rfl rfl rfl rfl ?_
        refine atq_do (does_pick_false rfl rfl) rfl rfl ?_
        refine atq_nil ?_
        refine at_then ?_
        refine at_cond_false rfl ?_
        refine at_skip ?_
        refine at_inb ?_
        refine at_then ?_
        refine at_region ?_
        refine at_do (does_move rfl) rfl rfl ?_
        refine at_do (does_addi rfl rfl (by omega)) rfl rfl ?_
        refine at_do (does_assign rfl) rfl rfl ?_
        refine at_nil ?_
        refine at_then ?_
        rotate_left
        refine at_again0 (k + 1) (by omega) (by omega) ⟨rfl, rfl, rfl, rfl, trivial⟩
    · obtain rfl : k = os.length := by omega
      refine at_seq ?_
      refine at_seq ?_
      refine at_region ?_
      refine at_do (does_move rfl) rfl rfl ?_
      refine at_do (does_move rfl) rfl rfl ?_
      refine at_do (does_len (by kernel_rfl) rfl) rfl rfl ?_
      refine at_do (does_lss rfl rfl) rfl rfl ?_
      refine at_nil ?_
      refine at_then ?_
      refine at_cond_f rfl (decide_eq_false (by omega)) ?_
      refine at_exit ?_
      refine at_then_exit ?_
      refine at_then_exit ?_
      refine at_inb_here ?_
      refine at_inb ?_
      refine at_then ?_
      refine at_region ?_
      refine at_do (does_move rfl) rfl rfl ?_
      refine at_do (does_addi rfl rfl (by omega)) rfl rfl ?_
      refine at_do (does_assign rfl) rfl rfl ?_
      refine at_nil ?_
      refine at_then ?_
      rotate_left
      refine at_again0 (i + 1) (by omega) (by omega) ⟨rfl, rfl, rfl, trivial⟩
  · obtain rfl : i = os.length := by omega
    refine at_seq ?_
    refine at_seq ?_
    refine at_region ?_
    refine at_do (does_move rfl) rfl rfl ?_
    refine at_do (does_move rfl) rfl rfl ?_
    refine at_do (does_len (by kernel_rfl) rfl) rfl rfl ?_
    refine at_do (does_lss rfl rfl) rfl rfl ?_
    refine at_nil ?_
    refine at_then ?_
    refine at_cond_f rfl (decide_eq_false (by omega)) ?_
    refine at_exit ?_
    refine at_then_exit ?_
    refine at_then_exit ?_
    refine at_inb_here ?_
    refine at_then ?_
    refine at_seq ?_
    refine at_region ?_
    refine at_do (does_assign rfl) rfl rfl ?_
    refine at_nil ?_
    refine at_then ?_
    refine at_ret ?_
    refine at_ret1 rfl rfl rfl (fun w9 ho9 => ?_)
    rotate_left
    exact ⟨rfl, ho9.plain⟩
end Go.Proofs.YtchfecmabhfooaaDoor
