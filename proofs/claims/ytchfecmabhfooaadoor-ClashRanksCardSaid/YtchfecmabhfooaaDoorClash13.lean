/-
  Each one's rank. No condition of its own.
-/
import Derived.Test.YtchfecmabhfooaaDoorClash12
set_option linter.unusedSimpArgs false
set_option linter.unusedVariables false
namespace Go.Proofs.YtchfecmabhfooaaDoor
open Go.RowKit
theorem does_maxi {P : Program} {n : Nat} {E : List (Nat × Value)} {C : Ctx} {H : List Res} {dst : Option Tmp} {ty : TypeId} {pos : String} {after : Array Edge} {g : Option (Nat × Bool)} {x y : Operand} {aT : Array TypeId} {p q : Int} (hx : ev E x = some (.int .i64 p)) (hy : ev E y = some (.int .i64 q)) :
    Does P n E C H ⟨dst, .call ⟨.builtin .max, #[x, y], aT⟩, ty, pos, after, g⟩ (.int .i64 (max p q)) := by
  intro a w hf ho
  have hm : (#[x, y] : Array Operand).map a.eval = #[.int .i64 p, .int .i64 q] := by simp [hf.eval hx, hf.eval hy]
  simp only [execOp, resolve, hm]
  simp [invoke, builtin, Builtin.max_, Builtin.max2, go_sem]
  split <;> omega
/-- One's rank, of those ahead of it. -/
def kIn (i : Nat) (ks : List Nat) (rs : List Nat) : List Nat := ks.foldl (fun rs k => rs.set i (max (rs.getD i 0) (rs.getD k 0 + 1))) rs
def kOut (f : Nat → List Nat) (n : Nat) : Nat → List Nat
  | 0 => List.replicate n 0
  | i + 1 => kIn i (f i) (kOut f n i)
attribute [local irreducible] cwp lwp Exit.then Exit.inBlock Exit.noGoto wpQuiet Calls fin At AtQ Again endQ RQ
theorem kIn_len (i : Nat) : ∀ (ks rs : List Nat), (kIn i ks rs).length = rs.length
  | [], rs => rfl
  | k :: ks, rs => by
    have := kIn_len i ks (rs.set i (max (rs.getD i 0) (rs.getD k 0 + 1)))
    simp only [List.length_set] at this
    exact this
theorem kOut_len (f : Nat → List Nat) (n : Nat) : ∀ i, (kOut f n i).length = n
  | 0 => by simp [kOut]
  | i + 1 => by unfold kOut; rw [kIn_len, kOut_len f n i]
theorem kIn_low (i : Nat) : ∀ (ks rs : List Nat), (∀ k ∈ ks, k < i) → Low rs → Low (kIn i ks rs)
  | [], rs, _, h => h
  | k :: ks, rs, hk, h => by
    refine kIn_low i ks (rs.set i (max (rs.getD i 0) (rs.getD k 0 + 1))) (fun x hx => hk x (List.mem_cons_of_mem _ hx)) fun j => ?_
    have h1 := h k
    have h2 := h i
    have h3 := hk k (List.mem_cons_self ..)
    rw [List.getD_eq_getElem?_getD, List.getElem?_set]
    split
    · split
      · simp only [Option.getD_some]; omega
      · simp
    · have := h j
      rwa [List.getD_eq_getElem?_getD] at this
theorem kOut_low (f : Nat → List Nat) (n : Nat) (hf : ∀ i, ∀ k ∈ f i, k < i) : ∀ i, Low (kOut f n i)
  | 0 => fun j => by simp [kOut, List.getD_eq_getElem?_getD, List.getElem?_replicate]; split <;> simp
  | i + 1 => kIn_low i _ _ (hf i) (kOut_low f n hf i)
theorem kIn_take (i : Nat) (ks rs : List Nat) (j : Nat) (h : j < ks.length) : kIn i (ks.take (j + 1)) rs = (kIn i (ks.take j) rs).set i (max ((kIn i (ks.take j) rs).getD i 0) ((kIn i (ks.take j) rs).getD ks[j] 0 + 1)) := by
  unfold kIn
  rw [List.take_succ_eq_append_getElem h, List.foldl_append]; rfl
theorem flt_mem {L : List Want2} {i k j : Nat} (h : j ∈ flt L i k) : j < k := by
  have := (List.mem_filter.1 h).1
  simpa using this
theorem ranks_no (arg : Value) (L : List Want2) (w : World) (hG : Glob w) (hV : WantsAt w arg L) (hS : ShortW L) (h : rightL L = false) :
    Calls Tryd.prog 19 #[arg] w fun e w' => e = .returned (.tuple #[.slice none 0 0, .int .i64 1]) ∧ Below w.heap.size w w' := by
  refine calls_plain Tryd.func19 rfl Tryd.ntmps19 rfl ?_
  refine at_seq ?_
  refine at_region ?_
  refine at_do (does_assign rfl) rfl rfl ?_
  refine at_do (does_assign rfl) rfl rfl ?_
  refine at_nil ?_
  refine at_then ?_
  refine at_seq ?_
  refine at_region ?_
  refine at_do (does_move rfl) rfl rfl ?_
  refine at_callv (f := 18) (enters_fn (by kernel_rfl) rfl) (fun w ho => ahead_no arg L w (ho.glob hG id) (ho.oldWants hV) hS h) rfl rfl ?_
  refine at_do (does_move rfl) rfl rfl ?_
  refine at_do (does_extract rfl rfl) rfl rfl ?_
  refine at_do (does_extract rfl rfl) rfl rfl ?_
  refine at_do (does_assign rfl) rfl rfl ?_
  refine at_do (does_assign rfl) rfl rfl ?_
  refine at_nil ?_
  refine at_then ?_
  refine at_seq ?_
  refine at_seq ?_
  refine at_region ?_
  refine at_do (does_move rfl) rfl rfl ?_
  refine at_do (does_neq rfl rfl) rfl rfl ?_
  refine at_nil ?_
  refine at_then ?_
  refine at_cond_t rfl (decide_eq_true (by decide)) ?_
  refine at_seq ?_
  refine at_region ?_
  refine at_do (does_move rfl) rfl rfl ?_
  refine at_do (does_assign rfl) rfl rfl ?_
  refine at_do (does_assign rfl) rfl rfl ?_
  refine at_nil ?_
  refine at_then ?_
  refine at_ret ?_
  refine at_then_ret ?_
  refine at_ret2 rfl rfl rfl rfl (fun w9 ho9 => ?_)
  rotate_left
  exact ⟨rfl, ho9.plain⟩
set_option maxHeartbeats 4000000 in
theorem ranks_yes (arg : Value) (L : List Want2) (w : World) (hG : Glob w) (hV : WantsAt w arg L) (hS : ShortW L) (h : rightL L = true) :
    Calls Tryd.prog 19 #[arg] w fun e w' => ∃ v, e = .returned (.tuple #[v, .int .i64 0]) ∧ Below w.heap.size w w' ∧ w'.ownsRow w.heap.size 3 1 v L.length (ints (kOut (aheadL L) L.length L.length)) := by
  have hS1 := hS.1
  have cA : ∀ w1, Below w.heap.size w w1 → Glob w1 → Calls Tryd.prog 18 #[arg] w1 fun e w' => ∃ v, e = .returned v ∧ Below w1.heap.size w1 w' ∧ ∃ u, v = .tuple #[u, .int .i64 0] ∧ RowsAt w' u L.length (aheadL L) := fun w1 hb hg => (ahead_yes arg L w1 hg (hV.keep hb) hS h).mono fun e w' ⟨v, q1, q2, q3, q4⟩ => ⟨_, q1, q2, v, rfl, q3⟩
  obtain ⟨A0, c0, rfl, hc, hcell⟩ := hV
  refine calls_plain Tryd.func19 rfl Tryd.ntmps19 rfl ?_
  refine at_seq ?_
  refine at_region ?_
  refine at_do (does_assign rfl) rfl rfl ?_
  refine at_do (does_assign rfl) rfl rfl ?_
  refine at_nil ?_
  refine at_then ?_
  refine at_seq ?_
  refine at_region ?_
  refine at_do (does_move rfl) rfl rfl ?_
  refine at_callk (f := 18) (Φ := fun v w' => ∃ u, v = .tuple #[u, .int .i64 0] ∧ RowsAt w' u L.length (aheadL L)) (enters_fn (by kernel_rfl) rfl) (fun w ho => cA w ho.plain (ho.glob hG id)) rfl rfl (fun v w1 hw1 hv => ?_)
  refine at_do (does_move rfl) rfl rfl ?_
  rotate_left
  obtain ⟨u, rfl, ga, ca, rfl, hrows⟩ := hv
  have hlow := kOut_low (aheadL L) L.length (fun i k hk => flt_mem hk)
  refine at_do (does_extract rfl rfl) rfl rfl ?_
  refine at_do (does_extract rfl rfl) rfl rfl ?_
  refine at_do (does_assign rfl) rfl rfl ?_
  refine at_do (does_assign rfl) rfl rfl ?_
  refine at_nil ?_
  refine at_then ?_
  refine at_seq ?_
  refine at_seq ?_
  refine at_region ?_
  refine at_do (does_move rfl) rfl rfl ?_
  refine at_do (does_neq rfl rfl) rfl rfl ?_
  refine at_nil ?_
  refine at_then ?_
  refine at_cond_f rfl (decide_eq_false (by decide)) ?_
  refine at_skip ?_
  refine at_then ?_
  refine at_seq ?_
  refine at_region ?_
  refine at_do (does_move rfl) rfl rfl ?_
  refine at_do (does_len (by kernel_rfl) rfl) rfl rfl ?_
  refine at_make (e := 3) (sz := 1) (by' := 8) (m := L.length) (ints (List.replicate L.length 0)) (by kernel_rfl) ?_ rfl rfl (by simp only [maxLen]; omega) rfl (fun g6 => ?_)
  rotate_left
  refine at_do (does_assign rfl) rfl rfl ?_
  refine at_nil ?_
  refine at_then ?_
  refine at_seq ?_
  refine at_seq ?_
  refine at_region ?_
  refine at_do (does_move rfl) rfl rfl ?_
  refine at_do (does_len (by kernel_rfl) rfl) rfl rfl ?_
  refine at_do (does_move rfl) rfl rfl ?_
  refine at_nil ?_
  refine at_then ?_
  refine at_block ?_
  rotate_left
  · intro t z q1 q2
    have hz : (Tryd.prog.info? 3).bind (·.zero) = some (.int .i64 0) := by kernel_rfl
    rw [q1] at hz
    simp only [Option.bind_some] at hz
    rw [q2] at hz
    cases hz
    exact made_ints L.length
  have hsince : ∀ {H : List Res} {w' : World}, Own (Ctx.re ⟨w, fun _ => False, fun _ => False, w, fun _ => False, []⟩ w1 []) H w' → Below w1.heap.size w1 w' := fun ho => ho.since (by simp [Ctx.re, bls])
  refine at_loopH (σ := Nat) (fun i => i ≤ L.length) (fun i => [(4, .slice (some ⟨ga, 0, none⟩) L.length ca), (6, .slice (some ⟨g6, 0, none⟩) L.length L.length), (22, .int .i64 L.length), (23, .int .i64 i)]) (fun i => [.row (.slice (some ⟨g6, 0, none⟩) L.length L.length) 3 1 L.length (ints (kOut (aheadL L) L.length i))]) (fun i => L.length - i)
    (fun w ho => ⟨0, Nat.zero_le _, ⟨rfl, rfl, rfl, rfl, trivial⟩, ho⟩) ?_
  rintro i hi
  by_cases hil : i < L.length
  · obtain ⟨u, hu, huv⟩ := hrows i hil
    have hks : ∀ k ∈ aheadL L i, k < i := fun k hk => flt_mem hk
    have hkl := flt_len L i i
    have hkO : kOut (aheadL L) L.length (i + 1) = kIn i (aheadL L i) (kOut (aheadL L) L.length i) := rfl
    have hlw0 := hlow i
    have hln0 := kOut_len (aheadL L) L.length i
    have hkl2 : (aheadL L i).length ≤ i := hkl
    generalize kOut (aheadL L) L.length i = r0 at hkO hlw0 hln0 ⊢
    generalize aheadL L i = ks at huv hks hkO hkl2
    have hil2 : (ints ks).length = ks.length := by simp [ints]
    obtain ⟨Au, cu, rfl⟩ := huv.len
    refine at_seq ?_
    refine at_region ?_
    refine at_do (does_lss rfl rfl) rfl rfl ?_
    refine at_nil ?_
    refine at_then ?_
    refine at_seq ?_
    refine at_cond_t rfl (decide_eq_true (by omega)) ?_
    refine at_skip ?_
    refine at_then ?_
    refine at_seq ?_
    refine at_block ?_
    refine at_seq ?_
    refine at_region ?_
    refine at_do (does_move rfl) rfl rfl ?_
    refine at_do (does_assign rfl) rfl rfl ?_
    refine at_nil ?_
    refine at_then ?_
    refine at_seq ?_
    refine at_region ?_
    refine at_do (does_move rfl) rfl rfl ?_
    refine at_do (does_move rfl) rfl rfl ?_
    refine at_do (does_indexAddr1 (j := i) (by kernel_rfl) rfl rfl (by omega)) rfl rfl ?_
    refine at_do (does_load_mem (by kernel_rfl) rfl (fun w' ho => Below.cellOld (hsince ho) hu)) rfl rfl ?_
    refine at_do (does_len (by kernel_rfl) rfl) rfl rfl ?_
    refine at_do (does_move rfl) rfl rfl ?_
    refine at_nil ?_
    refine at_then ?_
    refine at_block ?_
    rotate_left
    refine at_loopH (σ := Nat) (fun j => j ≤ ks.length) (fun j => [(4, .slice (some ⟨ga, 0, none⟩) L.length ca), (6, .slice (some ⟨g6, 0, none⟩) L.length L.length), (7, .int .i64 i), (22, .int .i64 L.length), (23, .int .i64 i), (29, .slice Au (ints ks).length cu), (30, .int .i64 (ints ks).length), (31, .int .i64 j)]) (fun j => [.row (.slice (some ⟨g6, 0, none⟩) L.length L.length) 3 1 L.length (ints (kIn i (ks.take j) r0))]) (fun j => ks.length - j)
      (fun w ho => ⟨0, Nat.zero_le _, ⟨rfl, rfl, rfl, rfl, rfl, rfl, rfl, rfl, trivial⟩, ho⟩) ?_
    rintro j hj
    by_cases hjl : j < ks.length
    · obtain ⟨gb, o, c, hv, hcc, hlt, hce⟩ := huv.form (by omega)
      simp only [Value.slice.injEq, true_and] at hv
      obtain ⟨rfl, rfl⟩ := hv
      have hcj : w1.cell? ⟨gb, o + j, none⟩ = some (.int .i64 ((ks[j] : Nat) : Int)) := hce j _ (by simp [ints, hjl])
      have hkj := hks ks[j] (List.getElem_mem _)
      have hstep := kIn_take i ks r0 j hjl
      have hlw := kIn_low i (ks.take j) r0 (fun k hk => hks k (List.mem_of_mem_take hk)) hlw0
      have hln : (kIn i (ks.take j) r0).length = L.length := by rw [kIn_len, hln0]
      generalize kIn i (ks.take j) r0 = rs at hstep hlw hln ⊢
      generalize ks[j] = k at hcj hkj hstep
      have gi : (ints rs)[0 + i]? = some (.int .i64 ((rs.getD i 0 : Nat) : Int)) := by rw [Nat.zero_add]; exact ints_get (by omega)
      have gk : (ints rs)[0 + k]? = some (.int .i64 ((rs.getD k 0 : Nat) : Int)) := by rw [Nat.zero_add]; exact ints_get (by omega)
      have lk := hlw k
      generalize hri : rs.getD i 0 = ri at hstep gi
      generalize hrk : rs.getD k 0 = rk at hstep gk lk
      refine at_seq ?_
      refine at_region ?_
      refine at_do (does_lss rfl rfl) rfl rfl ?_
      refine at_nil ?_
      refine at_then ?_
      refine at_seq ?_
      refine at_cond_t rfl (decide_eq_true (by omega)) ?_
      refine at_skip ?_
      refine at_then ?_
      refine at_seq ?_
      refine at_block ?_
      refine at_seq ?_
      refine at_region ?_
      refine at_do (does_indexAddr1 (j := j) (by kernel_rfl) rfl rfl (by omega)) rfl rfl ?_
      refine at_do (does_load_mem (by kernel_rfl) rfl (fun w' ho => Below.cellOld (hsince ho) hcj)) rfl rfl ?_
      refine at_do (does_assign rfl) rfl rfl ?_
      refine at_nil ?_
      refine at_then ?_
      rotate_left
      apply at_drawR0 13 [.val _, .val _, .val _, .val _, .val _, .val _, .val _, .val _, .val _, .val _, .val _, .val _, .val _] (by kernel_rfl) (by kernel_rfl) rfl ⟨trivial, trivial, trivial, trivial, trivial, trivial, trivial, trivial, trivial, trivial, trivial, trivial, trivial, trivial⟩
      · refine so_cons rfl (fun vs => ?_) ?_
        exact step1_does (does_move rfl)
        refine so_cons rfl (fun vs => ?_) ?_
        exact step1_does (does_move rfl)
        refine so_cons rfl (fun vs => ?_) ?_
        exact step1_does (does_move rfl)
        refine so_cons rfl (fun vs => ?_) ?_
        exact step1_does (does_move rfl)
        refine so_cons rfl (fun vs => ?_) ?_
        exact step1_does (does_indexAddr1 (j := i) (by kernel_rfl) rfl rfl (by omega))
        refine so_cons rfl (fun vs => ?_) ?_
        exact step1_does (does_rowload (i := 0) (j := 0 + i) (by kernel_rfl) rfl rfl (by omega) gi)
        refine so_cons rfl (fun vs => ?_) ?_
        exact step1_does (does_move rfl)
        refine so_cons rfl (fun vs => ?_) ?_
        exact step1_does (does_move rfl)
        refine so_cons rfl (fun vs => ?_) ?_
        exact step1_does (does_indexAddr1 (j := k) (by kernel_rfl) rfl rfl (by omega))
        refine so_cons rfl (fun vs => ?_) ?_
        exact step1_does (does_rowload (i := 0) (j := 0 + k) (by kernel_rfl) rfl rfl (by omega) gk)
        refine so_cons rfl (fun vs => ?_) ?_
        exact step1_does (does_addi rfl rfl (by omega))
        refine so_cons rfl (fun vs => ?_) ?_
        exact step1_does (does_maxi rfl rfl)
        refine so_cons rfl (fun vs => ?_) ?_
        exact step1_does (does_indexAddr1 (j := i) (by kernel_rfl) rfl rfl (by omega))
        exact so_nil
      · intro vs
        refine at_weak (E' := [(4, .slice (some ⟨ga, 0, none⟩) L.length ca), (6, .slice (some ⟨g6, 0, none⟩) L.length L.length), (7, .int .i64 i), (22, .int .i64 L.length), (23, .int .i64 i), (29, .slice (some ⟨gb, o, none⟩) (ints ks).length cu), (30, .int .i64 (ints ks).length), (31, .int .i64 j), (46, .int .i64 (max (ri : Int) ((rk : Int) + 1))), (47, .pointer (some ⟨g6, 0 + i, none⟩))]) ⟨rfl, rfl, rfl, rfl, rfl, rfl, rfl, rfl, rfl, rfl, trivial⟩ ?_
        show At _ _ _ _ (lwp _ _ _ _ (_ :: _))
        refine at_rowstore (i := 0) (j := 0 + i) (by kernel_rfl) rfl rfl rfl rfl (by omega) ?_
        refine at_nil ?_
        refine at_inb ?_
        refine at_then ?_
        refine at_region ?_
        refine at_do (does_addi rfl rfl (by omega)) rfl rfl ?_
        refine at_do (does_move rfl) rfl rfl ?_
        refine at_nil ?_
        refine at_then ?_
        rotate_left
        refine at_againw fun w ho => ⟨j + 1, by omega, by omega, ⟨rfl, rfl, rfl, rfl, rfl, rfl, rfl, rfl, trivial⟩, rfl, ?_⟩
        have e : (ints rs).set (0 + i) (.int .i64 (max (ri : Int) ((rk : Int) + 1))) = ints (rs.set i (max ri (rk + 1))) := by
          rw [Nat.zero_add, ← ints_set]
          congr 2
          omega
        rw [hstep, ← e]
        exact ho
    · obtain rfl : j = ks.length := by omega
      refine at_seq ?_
      refine at_region ?_
      refine at_do (does_lss rfl rfl) rfl rfl ?_
      refine at_nil ?_
      refine at_then ?_
      refine at_seq ?_
      refine at_cond_f rfl (decide_eq_false (by omega)) ?_
      refine at_exit ?_
      refine at_then_exit ?_
      refine at_then_exit ?_
      refine at_inb_here ?_
      refine at_inb ?_
      refine at_then ?_
      refine at_region ?_
      refine at_do (does_addi rfl rfl (by omega)) rfl rfl ?_
      refine at_do (does_move rfl) rfl rfl ?_
      refine at_nil ?_
      refine at_then ?_
      rotate_left
      refine at_againw fun w ho => ⟨i + 1, by omega, by omega, ⟨rfl, rfl, rfl, rfl, trivial⟩, rfl, ?_⟩
      rw [hkO]
      rw [List.take_length] at ho
      exact ho
  · obtain rfl : i = L.length := by omega
    refine at_seq ?_
    refine at_region ?_
    refine at_do (does_lss rfl rfl) rfl rfl ?_
    refine at_nil ?_
    refine at_then ?_
    refine at_seq ?_
    refine at_cond_f rfl (decide_eq_false (by omega)) ?_
    refine at_exit ?_
    refine at_then_exit ?_
    refine at_then_exit ?_
    refine at_inb_here ?_
    refine at_then ?_
    refine at_seq ?_
    refine at_region ?_
    refine at_do (does_move rfl) rfl rfl ?_
    refine at_do (does_assign rfl) rfl rfl ?_
    refine at_do (does_assign rfl) rfl rfl ?_
    refine at_nil ?_
    refine at_then ?_
    refine at_ret ?_
    refine at_ret2 rfl rfl rfl rfl (fun w9 ho9 => ?_)
    rotate_left
    exact ⟨_, rfl, ho9.plain, ho9.rowOut (List.mem_cons_self ..)⟩
end Go.Proofs.YtchfecmabhfooaaDoor
