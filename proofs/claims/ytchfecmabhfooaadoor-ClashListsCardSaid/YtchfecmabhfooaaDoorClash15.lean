/-
  Whether an order keeps what clashes in its places, of an order that is whole. No condition of its own.
-/
import Derived.Test.YtchfecmabhfooaaDoorClash14
set_option linter.unusedSimpArgs false
set_option linter.unusedVariables false
namespace Go.Proofs.YtchfecmabhfooaaDoor
open Go.RowKit

/-- The places of an order's first j. -/
def plc (os : List Nat) (n : Nat) : Nat → List Int
  | 0 => List.replicate n (-1)
  | j + 1 => (plc os n j).set (os.getD j 0) (j : Int)
theorem nodup_inj {os : List Nat} (h : os.Nodup) {i j : Nat} {hi : i < os.length} {hj : j < os.length} (e : os[i] = os[j]) : i = j := by
  rcases Nat.lt_trichotomy i j with h1 | h1 | h1
  · exact absurd e (List.pairwise_iff_getElem.1 h i j hi hj h1)
  · exact h1
  · exact absurd e.symm (List.pairwise_iff_getElem.1 h j i hj hi h1)
theorem plc_len (os : List Nat) (n : Nat) : ∀ j, (plc os n j).length = n
  | 0 => by simp [plc]
  | j + 1 => by unfold plc; rw [List.length_set, plc_len os n j]
theorem plc_free (os : List Nat) (n k : Nat) (hk : k < n) : ∀ j, j ≤ os.length → (∀ q, q < j → os.getD q 0 ≠ k) → (plc os n j).getD k 0 = -1
  | 0, _, _ => by simp [plc, List.getD_eq_getElem?_getD, List.getElem?_replicate, hk]
  | j + 1, hj, h => by
    have ih := plc_free os n k hk j (by omega) fun q hq => h q (by omega)
    unfold plc
    rw [List.getD_eq_getElem?_getD, List.getElem?_set_ne (h j (by omega)), ← List.getD_eq_getElem?_getD]
    exact ih
/-- An order that is whole. -/
def WholeO (os : List Nat) (n : Nat) : Prop := os.length = n ∧ os.Nodup ∧ ∀ k ∈ os, k < n
def keepsO (L : List Want2) (os : List Nat) : Bool := (List.range L.length).all fun i => !(aheadL L i).any (later (plc os L.length L.length) i)
def fillZ (n i : Nat) : List Int := List.replicate i (-1) ++ List.replicate (n - i) 0
theorem fillZ_len (n i : Nat) (h : i ≤ n) : (fillZ n i).length = n := by simp [fillZ]; omega
theorem fillZ_succ (n i : Nat) (h : i < n) : (fillZ n i).set i (-1) = fillZ n (i + 1) := by
  apply List.ext_getElem
  · simp [fillZ]; omega
  · intro j h1 h2
    simp only [fillZ, List.getElem_set, List.getElem_append, List.getElem_replicate, List.length_replicate]
    repeat' split
    all_goals first | rfl | omega
theorem fillZ_all (n : Nat) : fillZ n n = List.replicate n (-1) := by simp [fillZ]
theorem ints_zero (n : Nat) : ints (List.replicate n 0) = intsZ (fillZ n 0) := by simp [ints, intsZ, fillZ]
attribute [local irreducible] cwp lwp Exit.then Exit.inBlock Exit.noGoto wpQuiet Calls fin At AtQ Again endQ RQ
theorem swap_no (arg o : Value) (L : List Want2) (w : World) (hG : Glob w) (hV : WantsAt w arg L) (hS : ShortW L) (h : rightL L = false) :
    Calls Tryd.prog 22 #[arg, o] w fun e w' => e = .returned (.tuple #[.bool false, .int .i64 1]) ∧ Below w.heap.size w w' := by
  refine calls_plain Tryd.func22 rfl Tryd.ntmps22 rfl ?_
  refine at_seq ?_
  refine at_region ?_
  refine at_do (does_assign rfl) rfl rfl ?_
  refine at_do (does_assign rfl) rfl rfl ?_
  refine at_nil ?_
  refine at_then ?_
  refine at_seq ?_
  refine at_region ?_
  refine at_do (does_move rfl) rfl rfl ?_
  refine at_callv (f := 18) (enters_fn (by kernel_rfl) rfl) (fun w ho => ahead_no arg L w (ho.glob hG id) (ho.oldWants hV) hS h) rfl rfl ?_
  refine at_do (does_move rfl) rfl rfl ?_
  refine at_do (does_extract rfl rfl) rfl rfl ?_
  refine at_do (does_extract rfl rfl) rfl rfl ?_
  refine at_do (does_assign rfl) rfl rfl ?_
  refine at_do (does_assign rfl) rfl rfl ?_
  refine at_nil ?_
  refine at_then ?_
  refine at_seq ?_
  refine at_seq ?_
  refine at_region ?_
  refine at_do (does_move rfl) rfl rfl ?_
  refine at_do (does_neq rfl rfl) rfl rfl ?_
  refine at_nil ?_
  refine at_then ?_
  refine at_cond_t rfl (decide_eq_true (by decide)) ?_
  refine at_seq ?_
  refine at_region ?_
  refine at_do (does_move rfl) rfl rfl ?_
  refine at_do (does_assign rfl) rfl rfl ?_
  refine at_do (does_assign rfl) rfl rfl ?_
  refine at_nil ?_
  refine at_then ?_
  refine at_ret ?_
  refine at_then_ret ?_
  refine at_ret2 rfl rfl rfl rfl (fun w9 ho9 => ?_)
  rotate_left
  exact ⟨rfl, ho9.plain⟩
set_option maxHeartbeats 4000000 in
theorem swap_yes (arg o : Value) (L : List Want2) (os : List Nat) (w : World) (hG : Glob w) (hV : WantsAt w arg L) (hS : ShortW L) (h : rightL L = true) (hO : ValsAt w o (ints os)) (hW : WholeO os L.length) :
    Calls Tryd.prog 22 #[arg, o] w fun e w' => e = .returned (.tuple #[.bool (keepsO L os), .int .i64 0]) ∧ Below w.heap.size w w' := by
  have hS1 := hS.1
  have hW1 := hW.1
  have hol : (ints os).length = os.length := by simp [ints]
  have cA : ∀ w1, Below w.heap.size w w1 → Glob w1 → Calls Tryd.prog 18 #[arg] w1 fun e w' => ∃ v, e = .returned v ∧ Below w1.heap.size w1 w' ∧ ∃ u, v = .tuple #[u, .int .i64 0] ∧ RowsAt w' u L.length (aheadL L) := fun w1 hb hg => (ahead_yes arg L w1 hg (hV.keep hb) hS h).mono fun e w' ⟨v, q1, q2, q3, q4⟩ => ⟨_, q1, q2, v, rfl, q3⟩
  obtain ⟨A0, c0, rfl, hc, hcell⟩ := hV
  obtain ⟨AO, cO, rfl⟩ := hO.len
  refine calls_plain Tryd.func22 rfl Tryd.ntmps22 rfl ?_
  refine at_seq ?_
  refine at_region ?_
  refine at_do (does_assign rfl) rfl rfl ?_
  refine at_do (does_assign rfl) rfl rfl ?_
  refine at_nil ?_
  refine at_then ?_
  refine at_seq ?_
  refine at_region ?_
  refine at_do (does_move rfl) rfl rfl ?_
  refine at_callk (f := 18) (Φ := fun v w' => ∃ u, v = .tuple #[u, .int .i64 0] ∧ RowsAt w' u L.length (aheadL L)) (enters_fn (by kernel_rfl) rfl) (fun w ho => cA w ho.plain (ho.glob hG id)) rfl rfl (fun v w1 hw1 hv => ?_)
  refine at_do (does_move rfl) rfl rfl ?_
  rotate_left
  obtain ⟨u, rfl, ga, ca, rfl, hrows⟩ := hv
  have hsince : ∀ {H : List Res} {w' : World}, Own (Ctx.re ⟨w, fun _ => False, fun _ => False, w, fun _ => False, []⟩ w1 []) H w' → Below w1.heap.size w1 w' := fun ho => ho.since (by simp [Ctx.re, bls])
  refine at_do (does_extract rfl rfl) rfl rfl ?_
  refine at_do (does_extract rfl rfl) rfl rfl ?_
  refine at_do (does_assign rfl) rfl rfl ?_
  refine at_do (does_assign rfl) rfl rfl ?_
  refine at_nil ?_
  refine at_then ?_
  refine at_seq ?_
  refine at_seq ?_
  refine at_region ?_
  refine at_do (does_move rfl) rfl rfl ?_
  refine at_do (does_neq rfl rfl) rfl rfl ?_
  refine at_nil ?_
  refine at_then ?_
  refine at_cond_f rfl (decide_eq_false (by omega)) ?_
  refine at_skip ?_
  refine at_then ?_
  refine at_seq ?_
  refine at_seq ?_
  refine at_region ?_
  refine at_do (does_move rfl) rfl rfl ?_
  refine at_do (does_len (by kernel_rfl) rfl) rfl rfl ?_
  refine at_do (does_move rfl) rfl rfl ?_
  refine at_do (does_len (by kernel_rfl) rfl) rfl rfl ?_
  refine at_do (does_neq rfl rfl) rfl rfl ?_
  refine at_nil ?_
  refine at_then ?_
  refine at_cond_f rfl (decide_eq_false (by omega)) ?_
  refine at_skip ?_
  refine at_then ?_
  refine at_seq ?_
  refine at_region ?_
  refine at_do (does_move rfl) rfl rfl ?_
  refine at_do (does_len (by kernel_rfl) rfl) rfl rfl ?_
  refine at_make (e := 3) (sz := 1) (by' := 8) (m := L.length) (ints (List.replicate L.length 0)) (by kernel_rfl) ?_ rfl rfl (by simp only [maxLen]; omega) rfl (fun g28 => ?_)
  rotate_left
  refine at_alloc rfl Tryd.zeroValue34 rfl fun gz0 => ?_
  refine at_store (i := 0) (by kernel_rfl) rfl rfl rfl rfl rfl ?_
  refine at_nil ?_
  refine at_then ?_
  refine at_seq ?_
  refine at_seq ?_
  refine at_region ?_
  refine at_do (does_load (i := 0) (by kernel_rfl) rfl rfl rfl) rfl rfl ?_
  refine at_do (does_len (by kernel_rfl) rfl) rfl rfl ?_
  refine at_do (does_move rfl) rfl rfl ?_
  refine at_nil ?_
  refine at_then ?_
  refine at_block ?_
  rotate_left
  · intro t z q1 q2
    have hz : (Tryd.prog.info? 3).bind (·.zero) = some (.int .i64 0) := by kernel_rfl
    rw [q1] at hz
    simp only [Option.bind_some] at hz
    rw [q2] at hz
    cases hz
    exact made_ints L.length
  rw [ints_zero]
  refine at_loopH (σ := Nat) (fun i => i ≤ L.length) (fun i => [(0, .slice A0 L.length c0), (1, .slice AO (ints os).length cO), (6, .slice (some ⟨ga, 0, none⟩) L.length ca), (8, .pointer (some ⟨gz0, 0, none⟩)), (30, .int .i64 L.length), (31, .int .i64 i)])
    (fun i => [.blk gz0 34 #[.slice (some ⟨g28, 0, none⟩) L.length L.length], .row (.slice (some ⟨g28, 0, none⟩) L.length L.length) 3 1 L.length (intsZ (fillZ L.length i))]) (fun i => L.length - i)
    (fun w ho => ⟨0, Nat.zero_le _, ⟨rfl, rfl, rfl, rfl, rfl, rfl, trivial⟩, ho⟩) ?_
  rintro i hi
  by_cases hil : i < L.length
  · refine at_seq ?_
    refine at_region ?_
    refine at_do (does_lss rfl rfl) rfl rfl ?_
    refine at_nil ?_
    refine at_then ?_
    refine at_seq ?_
    refine at_cond_t rfl (decide_eq_true (by omega)) ?_
    refine at_skip ?_
    refine at_then ?_
    refine at_seq ?_
    refine at_block ?_
    refine at_seq ?_
    refine at_region ?_
    refine at_do (does_move rfl) rfl rfl ?_
    refine at_do (does_assign rfl) rfl rfl ?_
    refine at_nil ?_
    refine at_then ?_
    refine at_region ?_
    refine at_do (does_load (i := 0) (by kernel_rfl) rfl rfl rfl) rfl rfl ?_
    refine at_do (does_move rfl) rfl rfl ?_
    refine at_do (does_indexAddr1 (j := i) (by kernel_rfl) rfl rfl (by omega)) rfl rfl ?_
    refine at_rowstore (i := 1) (j := 0 + i) (by kernel_rfl) rfl rfl rfl rfl (by omega) ?_
    refine at_nil ?_
    refine at_inb ?_
    refine at_then ?_
    refine at_region ?_
    refine at_do (does_addi rfl rfl (by omega)) rfl rfl ?_
    refine at_do (does_move rfl) rfl rfl ?_
    refine at_nil ?_
    refine at_then ?_
    rotate_left
    refine at_againw fun w ho => ⟨i + 1, by omega, by omega, ⟨rfl, rfl, rfl, rfl, rfl, rfl, trivial⟩, rfl, ?_⟩
    rw [← fillZ_succ _ _ hil, ← intsZ_set]
    rw [Nat.zero_add] at ho
    exact ho
  obtain rfl : i = L.length := by omega
  rw [fillZ_all]
  refine at_seq ?_
  refine at_region ?_
  refine at_do (does_lss rfl rfl) rfl rfl ?_
  refine at_nil ?_
  refine at_then ?_
  refine at_seq ?_
  refine at_cond_f rfl (decide_eq_false (by omega)) ?_
  refine at_exit ?_
  refine at_then_exit ?_
  refine at_then_exit ?_
  refine at_inb_here ?_
  refine at_then ?_
  refine at_seq ?_
  refine at_seq ?_
  refine at_region ?_
  refine at_do (does_move rfl) rfl rfl ?_
  refine at_do (does_len (by kernel_rfl) rfl) rfl rfl ?_
  refine at_do (does_move rfl) rfl rfl ?_
  refine at_nil ?_
  refine at_then ?_
  refine at_block ?_
  rotate_left
  refine at_loopH (σ := Nat) (fun j => j ≤ os.length) (fun j => [(0, .slice A0 L.length c0), (6, .slice (some ⟨ga, 0, none⟩) L.length ca), (8, .pointer (some ⟨gz0, 0, none⟩)), (38, .slice AO (ints os).length cO), (39, .int .i64 (ints os).length), (40, .int .i64 j)])
    (fun j => [.blk gz0 34 #[.slice (some ⟨g28, 0, none⟩) L.length L.length], .row (.slice (some ⟨g28, 0, none⟩) L.length L.length) 3 1 L.length (intsZ (plc os L.length j))]) (fun j => os.length - j)
    (fun w ho => ⟨0, Nat.zero_le _, ⟨rfl, rfl, rfl, rfl, rfl, rfl, trivial⟩, ho⟩) ?_
  rintro j hj
  by_cases hjl : j < os.length
  · obtain ⟨gb, o, c1, hv, hc1, hlt1, hcell1⟩ := hO.form (by omega)
    simp only [Value.slice.injEq, true_and] at hv
    obtain ⟨rfl, rfl⟩ := hv
    have hcj : w.cell? ⟨gb, o + j, none⟩ = some (.int .i64 ((os[j] : Nat) : Int)) := hcell1 j _ (by simp [ints, hjl])
    have hk := hW.2.2 os[j] (List.getElem_mem hjl)
    have hfree := plc_free os L.length os[j] hk j (by omega) fun q hq he => by
      have hq2 : q < os.length := by omega
      rw [List.getD_eq_getElem?_getD, List.getElem?_eq_getElem hq2] at he
      have := nodup_inj hW.2.1 he
      omega
    have hstep : plc os L.length (j + 1) = (plc os L.length j).set os[j] (j : Int) := by
      show (plc os L.length j).set (os.getD j 0) (j : Int) = _
      rw [List.getD_eq_getElem?_getD, List.getElem?_eq_getElem hjl]; rfl
    have hpl := plc_len os L.length j
    generalize plc os L.length j = zs at hfree hstep hpl ⊢
    generalize os[j] = k at hcj hk hfree hstep
    have gk : (intsZ zs)[0 + k]? = some (.int .i64 (-1)) := by rw [Nat.zero_add, intsZ_get (by omega), hfree]
    refine at_seq ?_
    refine at_region ?_
    refine at_do (does_lss rfl rfl) rfl rfl ?_
    refine at_nil ?_
    refine at_then ?_
    refine at_seq ?_
    refine at_cond_t rfl (decide_eq_true (by omega)) ?_
    refine at_skip ?_
    refine at_then ?_
    refine at_seq ?_
    refine at_block ?_
    refine at_seq ?_
    refine at_region ?_
    refine at_do (does_move rfl) rfl rfl ?_
    refine at_do (does_indexAddr1 (by kernel_rfl) rfl rfl (by omega)) rfl rfl ?_
    refine at_do (does_load_mem (by kernel_rfl) rfl (fun w' ho => Below.cellOld ho.plain hcj)) rfl rfl ?_
    refine at_do (does_assign rfl) rfl rfl ?_
    refine at_do (does_assign rfl) rfl rfl ?_
    refine at_nil ?_
    refine at_then ?_
    refine at_seq ?_
    refine at_seq ?_
    refine at_region ?_
    refine at_do (does_move rfl) rfl rfl ?_
    refine at_do (does_lss rfl rfl) rfl rfl ?_
    refine at_do (does_move rfl) rfl rfl ?_
    refine at_know (t := 47) (d := false) rfl (decide_eq_false (by omega)) ?_
    refine at_on rfl rfl ?_
    refine at_do (does_move rfl) rfl rfl ?_
    refine at_on rfl rfl ?_
    refine at_do (does_move rfl) rfl rfl ?_
    refine at_on rfl rfl ?_
    refine at_do (does_len (by kernel_rfl) rfl) rfl rfl ?_
    refine at_on rfl rfl ?_
    refine at_do (does_geq rfl rfl) rfl rfl ?_
    refine at_do (does_pick_false rfl rfl) rfl rfl ?_
    refine at_do (does_move rfl) rfl rfl ?_
    refine at_know (t := 53) (d := false) rfl (decide_eq_false (by omega)) ?_
    refine at_on rfl rfl ?_
    refine at_do (does_load (i := 0) (by kernel_rfl) rfl rfl rfl) rfl rfl ?_
    refine at_on rfl rfl ?_
    refine at_do (does_move rfl) rfl rfl ?_
    refine at_on rfl rfl ?_
    refine at_do (does_indexAddr1 (j := k) (by kernel_rfl) rfl rfl (by omega)) rfl rfl ?_
    refine at_on rfl rfl ?_
    refine at_do (does_rowload (i := 1) (j := 0 + k) (by kernel_rfl) rfl rfl (by omega) gk) rfl rfl ?_
    refine at_on rfl rfl ?_
    refine at_do (does_geq rfl rfl) rfl rfl ?_
    refine at_do (does_pick_false rfl rfl) rfl rfl ?_
    refine at_nil ?_
    refine at_then ?_
    refine at_cond_f rfl (decide_eq_false (by omega)) ?_
    refine at_skip ?_
    refine at_then ?_
    refine at_region ?_
    refine at_do (does_load (i := 0) (by kernel_rfl) rfl rfl rfl) rfl rfl ?_
    refine at_do (does_move rfl) rfl rfl ?_
    refine at_do (does_move rfl) rfl rfl ?_
    refine at_do (does_indexAddr1 (j := k) (by kernel_rfl) rfl rfl (by omega)) rfl rfl ?_
    refine at_rowstore (i := 1) (j := 0 + k) (by kernel_rfl) rfl rfl rfl rfl (by omega) ?_
    refine at_nil ?_
    refine at_inb ?_
    refine at_then ?_
    refine at_region ?_
    refine at_do (does_addi rfl rfl (by omega)) rfl rfl ?_
    refine at_do (does_move rfl) rfl rfl ?_
    refine at_nil ?_
    refine at_then ?_
    rotate_left
    refine at_againw fun w ho => ⟨j + 1, by omega, by omega, ⟨rfl, rfl, rfl, rfl, rfl, rfl, trivial⟩, rfl, ?_⟩
    rw [hstep, ← intsZ_set]
    rw [Nat.zero_add] at ho
    exact ho
  obtain rfl : j = os.length := by omega
  refine at_seq ?_
  refine at_region ?_
  refine at_do (does_lss rfl rfl) rfl rfl ?_
  refine at_nil ?_
  refine at_then ?_
  refine at_seq ?_
  refine at_cond_f rfl (decide_eq_false (by omega)) ?_
  refine at_exit ?_
  refine at_then_exit ?_
  refine at_then_exit ?_
  refine at_inb_here ?_
  refine at_then ?_
  refine at_seq ?_
  refine at_seq ?_
  refine at_region ?_
  refine at_do (does_move rfl) rfl rfl ?_
  refine at_do (does_len (by kernel_rfl) rfl) rfl rfl ?_
  refine at_do (does_move rfl) rfl rfl ?_
  refine at_nil ?_
  refine at_then ?_
  refine at_block ?_
  rotate_left
  have hkO : keepsO L os = (List.range L.length).all fun i => !(aheadL L i).any (later (plc os L.length os.length) i) := by unfold keepsO; rw [hW1]
  rw [hkO]
  clear hkO
  have hpl := plc_len os L.length os.length
  generalize plc os L.length os.length = zs at hpl ⊢
  refine at_loopH (σ := Nat) (fun i => i ≤ L.length ∧ (List.range i).all (fun i => !(aheadL L i).any (later zs i)) = true) (fun i => [(0, .slice A0 L.length c0), (6, .slice (some ⟨ga, 0, none⟩) L.length ca), (8, .pointer (some ⟨gz0, 0, none⟩)), (66, .int .i64 L.length), (67, .int .i64 i)])
    (fun i => [.blk gz0 34 #[.slice (some ⟨g28, 0, none⟩) L.length L.length], .row (.slice (some ⟨g28, 0, none⟩) L.length L.length) 3 1 L.length (intsZ zs)]) (fun i => L.length - i)
    (fun w ho => ⟨0, ⟨Nat.zero_le _, rfl⟩, ⟨rfl, rfl, rfl, rfl, rfl, trivial⟩, ho⟩) ?_
  rintro i ⟨hi, hI⟩
  by_cases hil : i < L.length
  · obtain ⟨u, hu, huv⟩ := hrows i hil
    have hks : ∀ k ∈ aheadL L i, k < L.length := fun k hk => by have := flt_mem hk; omega
    have hkl := flt_len L i i
    have hkl2 : (aheadL L i).length ≤ i := hkl
    have hI2 : (List.range (i + 1)).all (fun i => !(aheadL L i).any (later zs i)) = !(aheadL L i).any (later zs i) := by
      rw [List.range_succ, List.all_append, hI]; simp
    have hF : (aheadL L i).any (later zs i) = true → (List.range L.length).all (fun i => !(aheadL L i).any (later zs i)) = false := fun h => List.all_eq_false.2 ⟨i, List.mem_range.2 hil, by simp [h]⟩
    generalize aheadL L i = ks at huv hks hkl2 hI2 hF
    have cL : ∀ {g12 : Nat} {w' : World}, Own (Ctx.re ⟨w, fun _ => False, fun _ => False, w, fun _ => False, []⟩ w1 []) [.blk g12 3 #[.int .i64 (i : Int)], .blk gz0 34 #[.slice (some ⟨g28, 0, none⟩) L.length L.length], .row (.slice (some ⟨g28, 0, none⟩) L.length L.length) 3 1 L.length (intsZ zs)] w' →
        Calls Tryd.prog 67 #[u, lookFn gz0 g12] w' fun e w3 => e = .returned (.bool (ks.any (later zs i))) ∧ Below w'.heap.size w' w3 := fun ho => by
      refine contains_later gz0 _ g28 L.length L.length i zs u ks _ ⟨ho.cell (i := 1) rfl 0, ho.cell (i := 0) rfl 0, fun j hj => ?_⟩ hil (huv.keep (hsince ho)) hks (by omega)
      have := (ho.rowAt (i := 2) rfl).cellAt j (by omega)
      rw [Nat.zero_add]
      exact this.trans (intsZ_get (by omega))
    cases hb : ks.any (later zs i)
    · rw [hb] at cL hI2
      refine at_seq ?_
      refine at_region ?_
      refine at_do (does_lss rfl rfl) rfl rfl ?_
      refine at_nil ?_
      refine at_then ?_
      refine at_seq ?_
      refine at_cond_t rfl (decide_eq_true (by omega)) ?_
      refine at_skip ?_
      refine at_then ?_
      refine at_seq ?_
      refine at_block ?_
      refine at_seq ?_
      refine at_region ?_
      refine at_do (does_move rfl) rfl rfl ?_
      refine at_alloc rfl Tryd.zeroValue3 rfl fun gz0 => ?_
      refine at_store (i := 0) (by kernel_rfl) rfl rfl rfl rfl rfl ?_
      refine at_nil ?_
      refine at_then ?_
      refine at_seq ?_
      refine at_region ?_
      refine at_do (does_move rfl) rfl rfl ?_
      refine at_do (does_load (i := 0) (by kernel_rfl) rfl rfl rfl) rfl rfl ?_
      refine at_do (does_indexAddr1 (j := i) (by kernel_rfl) rfl rfl hil) rfl rfl ?_
      refine at_do (does_load_mem (by kernel_rfl) rfl (fun w' ho => Below.cellOld (hsince ho) hu)) rfl rfl ?_
      refine at_do (does_makeFunc rfl) rfl rfl ?_
      refine at_callv (f := 67) (enters_fn (by kernel_rfl) rfl) (fun w ho => cL ho) rfl rfl ?_
      refine at_nil ?_
      refine at_then ?_
      refine at_cond_false rfl ?_
      refine at_skip ?_
      refine at_inb ?_
      refine at_then ?_
      refine at_region ?_
      refine at_do (does_addi rfl rfl (by omega)) rfl rfl ?_
      refine at_do (does_move rfl) rfl rfl ?_
      refine at_nil ?_
      refine at_then ?_
      rotate_left
      refine at_againw fun w ho => ⟨i + 1, ⟨by omega, hI2⟩, by omega, ⟨rfl, rfl, rfl, rfl, rfl, trivial⟩, rfl, ?_⟩
      exact ho.sublist (List.sublist_cons_self ..)
    · rw [hb] at cL
      rw [hF hb]
      refine at_seq ?_
      refine at_region ?_
      refine at_do (does_lss rfl rfl) rfl rfl ?_
      refine at_nil ?_
      refine at_then ?_
      refine at_seq ?_
      refine at_cond_t rfl (decide_eq_true (by omega)) ?_
      refine at_skip ?_
      refine at_then ?_
      refine at_seq ?_
      refine at_block ?_
      refine at_seq ?_
      refine at_region ?_
      refine at_do (does_move rfl) rfl rfl ?_
      refine at_alloc rfl Tryd.zeroValue3 rfl fun gz0 => ?_
      refine at_store (i := 0) (by kernel_rfl) rfl rfl rfl rfl rfl ?_
      refine at_nil ?_
      refine at_then ?_
      refine at_seq ?_
      refine at_region ?_
      refine at_do (does_move rfl) rfl rfl ?_
      refine at_do (does_load (i := 0) (by kernel_rfl) rfl rfl rfl) rfl rfl ?_
      refine at_do (does_indexAddr1 (j := i) (by kernel_rfl) rfl rfl hil) rfl rfl ?_
      refine at_do (does_load_mem (by kernel_rfl) rfl (fun w' ho => Below.cellOld (hsince ho) hu)) rfl rfl ?_
      refine at_do (does_makeFunc rfl) rfl rfl ?_
      refine at_callv (f := 67) (enters_fn (by kernel_rfl) rfl) (fun w ho => cL ho) rfl rfl ?_
      refine at_nil ?_
      refine at_then ?_
      refine at_cond_true rfl ?_
      refine at_seq ?_
      refine at_region ?_
      refine at_do (does_assign rfl) rfl rfl ?_
      refine at_do (does_assign rfl) rfl rfl ?_
      refine at_nil ?_
      refine at_then ?_
      refine at_ret ?_
      refine at_inb_ret ?_
      refine at_then_ret ?_
      refine at_then_ret ?_
      refine at_inb_ret ?_
      refine at_then_ret ?_
      refine at_ret2 rfl rfl rfl rfl (fun w9 ho9 => ?_)
      rotate_left
      exact ⟨rfl, ho9.plain⟩
  · obtain rfl : i = L.length := by omega
    rw [hI]
    refine at_seq ?_
    refine at_region ?_
    refine at_do (does_lss rfl rfl) rfl rfl ?_
    refine at_nil ?_
    refine at_then ?_
    refine at_seq ?_
    refine at_cond_f rfl (decide_eq_false (by omega)) ?_
    refine at_exit ?_
    refine at_then_exit ?_
    refine at_then_exit ?_
    refine at_inb_here ?_
    refine at_then ?_
    refine at_seq ?_
    refine at_region ?_
    refine at_do (does_assign rfl) rfl rfl ?_
    refine at_do (does_assign rfl) rfl rfl ?_
    refine at_nil ?_
    refine at_then ?_
    refine at_ret ?_
    refine at_ret2 rfl rfl rfl rfl (fun w9 ho9 => ?_)
    rotate_left
    exact ⟨rfl, ho9.plain⟩
end Go.Proofs.YtchfecmabhfooaaDoor
