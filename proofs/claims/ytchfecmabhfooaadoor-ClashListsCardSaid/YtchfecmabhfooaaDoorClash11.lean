/-
  The reference's rank of one of a list. No condition of its own.
-/
import Derived.Test.YtchfecmabhfooaaDoorClash10
set_option linter.unusedSimpArgs false
set_option linter.unusedVariables false
namespace Go.Proofs.YtchfecmabhfooaaDoor
open Go.RowKit

def ints (rs : List Nat) : List Value := rs.map fun (r : Nat) => .int .i64 (r : Int)
theorem ints_get {rs : List Nat} {j : Nat} (h : j < rs.length) : (ints rs)[j]? = some (.int .i64 ((rs.getD j 0 : Nat) : Int)) := by
  simp [ints, h]
theorem ints_set (rs : List Nat) (j v : Nat) : (ints rs).set j (.int .i64 (v : Int)) = ints (rs.set j v) := by simp [ints, List.map_set]
theorem made_ints (k : Nat) : (madeCells (Value.int .i64 0).cells (k * 1)).toList = ints (List.replicate k 0) := by
  apply List.ext_getElem
  · simp [madeCells, ints]
  · intro j h1 h2
    simp [madeCells, ints, Value.cells, Nat.mod_one]
/-- Do two of a list clash? -/
def pairW (L : List Want2) (k n : Nat) : Bool := match L[k]?, L[n]? with
  | some x, some y => pairF x.1 x.2 y.1 y.2
  | _, _ => false
def rIn (p : Nat → Nat → Bool) (n : Nat) : Nat → List Nat → List Nat
  | 0, rs => rs
  | k + 1, rs => if p k n && decide ((rIn p n k rs).getD n 0 ≤ (rIn p n k rs).getD k 0) then (rIn p n k rs).set n ((rIn p n k rs).getD k 0 + 1) else rIn p n k rs
def rOut (p : Nat → Nat → Bool) (m : Nat) : Nat → List Nat
  | 0 => List.replicate m 0
  | n + 1 => rIn p n n (rOut p m n)
theorem rIn_len (p : Nat → Nat → Bool) (n : Nat) : ∀ (k : Nat) (rs : List Nat), (rIn p n k rs).length = rs.length
  | 0, rs => rfl
  | k + 1, rs => by unfold rIn; split <;> simp [rIn_len p n k rs]
theorem rOut_len (p : Nat → Nat → Bool) (m : Nat) : ∀ n, (rOut p m n).length = m
  | 0 => by simp [rOut]
  | n + 1 => by unfold rOut; rw [rIn_len, rOut_len p m n]
def Low (rs : List Nat) : Prop := ∀ j, rs.getD j 0 ≤ j
theorem rIn_low (p : Nat → Nat → Bool) (n : Nat) : ∀ (k : Nat) (rs : List Nat), k ≤ n → Low rs → Low (rIn p n k rs)
  | 0, rs, _, h => h
  | k + 1, rs, hk, h => by
    have ih := rIn_low p n k rs (by omega) h
    unfold rIn
    split
    · intro j
      have hk2 := ih k
      rw [List.getD_eq_getElem?_getD, List.getElem?_set]
      split
      · rename_i hj
        split
        · simp only [Option.getD_some]; omega
        · simp
      · have := ih j
        rwa [List.getD_eq_getElem?_getD] at this
    · exact ih
theorem rOut_low (p : Nat → Nat → Bool) (m : Nat) : ∀ n, Low (rOut p m n)
  | 0 => fun j => by simp [rOut, List.getD_eq_getElem?_getD, List.getElem?_replicate]; split <;> simp
  | n + 1 => rIn_low p n n _ (Nat.le_refl _) (rOut_low p m n)
def rankL (L : List Want2) (i : Nat) : Nat := (rOut (pairW L) (i + 1) (i + 1)).getD i 0
theorem oldPair {L : List Want2} {k n : Nat} (hk : k < L.length) (hn : n < L.length) : pairW L k n = pairF L[k].1 L[k].2 L[n].1 L[n].2 := by simp [pairW, hk, hn]
attribute [local irreducible] cwp lwp Exit.then Exit.inBlock Exit.noGoto wpQuiet Calls fin At AtQ Again endQ RQ rIn rOut
set_option maxHeartbeats 4000000 in
theorem ref_Rank (arg : Value) (L : List Want2) (i : Nat) (w : World) (hV : WantsAt w arg L) (hS : ShortW L) (hi : i < L.length) :
    Calls Tryd.prog 21 #[arg, .int .i64 i] w fun e w' => e = .returned (.int .i64 ((rankL L i : Nat) : Int)) ∧ Below w.heap.size w w' := by
  have hS1 := hS.1
  obtain ⟨A0, c0, rfl, hc, hcell⟩ := hV
  obtain ⟨gb, o, rfl, hlt, hce⟩ := hcell (by omega)
  have hR : rankL L i = (rOut (pairW L) (i + 1) (i + 1)).getD i 0 := rfl
  rw [hR]
  refine calls_plain Tryd.func21 rfl Tryd.ntmps21 rfl ?_
  refine at_seq ?_
  refine at_region ?_
  refine at_do (does_assign rfl) rfl rfl ?_
  refine at_nil ?_
  refine at_then ?_
  refine at_seq ?_
  refine at_region ?_
  refine at_do (does_move rfl) rfl rfl ?_
  refine at_do (does_addi rfl rfl (by omega)) rfl rfl ?_
  refine at_make (e := 3) (sz := 1) (by' := 8) (m := i + 1) (ints (List.replicate (i + 1) 0)) (by kernel_rfl) ?_ rfl rfl (by simp only [maxLen]; omega) rfl (fun g5 => ?_)
  rotate_left
  refine at_do (does_assign rfl) rfl rfl ?_
  refine at_nil ?_
  refine at_then ?_
  refine at_seq ?_
  refine at_seq ?_
  refine at_region ?_
  refine at_do (does_assign rfl) rfl rfl ?_
  refine at_nil ?_
  refine at_then ?_
  refine at_block ?_
  rotate_left
  · intro t z q1 q2
    have hz : (Tryd.prog.info? 3).bind (·.zero) = some (.int .i64 0) := by kernel_rfl
    rw [q1] at hz
    simp only [Option.bind_some] at hz
    rw [q2] at hz
    cases hz
    exact made_ints (i + 1)
  have keepL : ∀ {C : Ctx} {H : List Res} {w' : World}, True := trivial
  refine at_loopH (σ := Nat) (fun n => n ≤ i + 1) (fun n => [(0, .slice (some ⟨gb, o, none⟩) L.length c0), (1, .int .i64 i), (5, .slice (some ⟨g5, 0, none⟩) (i + 1) (i + 1)), (6, .int .i64 n)]) (fun n => [.row (.slice (some ⟨g5, 0, none⟩) (i + 1) (i + 1)) 3 1 (i + 1) (ints (rOut (pairW L) (i + 1) n))]) (fun n => i + 1 - n)
    (fun w ho => ⟨0, Nat.zero_le _, ⟨rfl, rfl, rfl, rfl, trivial⟩, by
      have e : rOut (pairW L) (i + 1) 0 = List.replicate (i + 1) 0 := by unfold rOut; rfl
      rw [e]; exact ho⟩) ?_
  rintro n hn
  by_cases hni : n < i + 1
  · obtain ⟨an, bn, n1, n2, n3, n4, n5, n6⟩ := hce n (by omega)
    have hxn := hS.2 L[n] (List.getElem_mem _)
    refine at_seq ?_
    refine at_seq ?_
    refine at_region ?_
    refine at_do (does_move rfl) rfl rfl ?_
    refine at_do (does_move rfl) rfl rfl ?_
    refine at_do (does_leq rfl rfl) rfl rfl ?_
    refine at_nil ?_
    refine at_then ?_
    refine at_cond_t rfl (decide_eq_true (by omega)) ?_
    refine at_skip ?_
    refine at_then ?_
    refine at_seq ?_
    refine at_block ?_
    refine at_seq ?_
    refine at_region ?_
    refine at_do (does_assign rfl) rfl rfl ?_
    refine at_nil ?_
    refine at_then ?_
    refine at_block ?_
    rotate_left
    refine at_loopH (σ := Nat) (fun k => k ≤ n) (fun k => [(0, .slice (some ⟨gb, o, none⟩) L.length c0), (1, .int .i64 i), (5, .slice (some ⟨g5, 0, none⟩) (i + 1) (i + 1)), (6, .int .i64 n), (7, .int .i64 k)]) (fun k => [.row (.slice (some ⟨g5, 0, none⟩) (i + 1) (i + 1)) 3 1 (i + 1) (ints (rIn (pairW L) n k (rOut (pairW L) (i + 1) n)))]) (fun k => n - k)
      (fun w ho => ⟨0, Nat.zero_le _, ⟨rfl, rfl, rfl, rfl, rfl, trivial⟩, by
        have e : rIn (pairW L) n 0 (rOut (pairW L) (i + 1) n) = rOut (pairW L) (i + 1) n := by unfold rIn; rfl
        rw [e]; exact ho⟩) ?_
    rintro k hk
    by_cases hkn : k < n
    · obtain ⟨ak, bk, k1, k2, k3, k4, k5, k6⟩ := hce k (by omega)
      have hxk := hS.2 L[k] (List.getElem_mem _)
      have hp : pairW L k n = pairF L[k].1 L[k].2 L[n].1 L[n].2 := oldPair (by omega) (by omega)
      have hstep : rIn (pairW L) n (k + 1) (rOut (pairW L) (i + 1) n) = if pairW L k n && decide ((rIn (pairW L) n k (rOut (pairW L) (i + 1) n)).getD n 0 ≤ (rIn (pairW L) n k (rOut (pairW L) (i + 1) n)).getD k 0) then (rIn (pairW L) n k (rOut (pairW L) (i + 1) n)).set n ((rIn (pairW L) n k (rOut (pairW L) (i + 1) n)).getD k 0 + 1) else rIn (pairW L) n k (rOut (pairW L) (i + 1) n) := by
        conv => lhs; unfold rIn
      have hlow := rIn_low (pairW L) n k _ (by omega) (rOut_low (pairW L) (i + 1) n)
      have hlen : (rIn (pairW L) n k (rOut (pairW L) (i + 1) n)).length = i + 1 := by rw [rIn_len, rOut_len]
      generalize rIn (pairW L) n k (rOut (pairW L) (i + 1) n) = rs at hstep hlow hlen ⊢
      have gk : (ints rs)[0 + k]? = some (.int .i64 ((rs.getD k 0 : Nat) : Int)) := by rw [Nat.zero_add]; exact ints_get (by omega)
      have gn : (ints rs)[0 + n]? = some (.int .i64 ((rs.getD n 0 : Nat) : Int)) := by rw [Nat.zero_add]; exact ints_get (by omega)
      have lk := hlow k
      have cP : ∀ {w'}, ValsAt w' ak (strs L[k].1) → ValsAt w' bk (strs L[k].2) → ValsAt w' an (strs L[n].1) → ValsAt w' bn (strs L[n].2) → Calls Tryd.prog 15 #[.agg #[ak, bk], .agg #[an, bn]] w' fun e w3 => e = .returned (.bool (pairW L k n)) ∧ Below w'.heap.size w' w3 := fun x1 x2 x3 x4 => by
        rw [hp]; exact ref_Pair ak bk an bn _ _ _ _ _ x1 x2 x3 x4 hxk.1 hxk.2 hxn.1 hxn.2 k5 k6 n5 n6
      clear hp
      generalize pairW L k n = pk at hstep cP
      have hlk : rs.getD k 0 ≤ 1000 := by omega
      generalize hrk : rs.getD k 0 = rk at hstep gk lk hlk
      generalize hrn : rs.getD n 0 = rn at hstep gn
      cases pk
      · rw [Bool.false_and, if_neg (by simp)] at hstep
        refine at_seq ?_
        refine at_seq ?_
        refine at_region ?_
        refine at_do (does_move rfl) rfl rfl ?_
        refine at_do (does_move rfl) rfl rfl ?_
        refine at_do (does_lss rfl rfl) rfl rfl ?_
        refine at_nil ?_
        refine at_then ?_
        refine at_cond_t rfl (decide_eq_true (by omega)) ?_
        refine at_skip ?_
        refine at_then ?_
        refine at_seq ?_
        refine at_block ?_
        refine at_seq ?_
        refine at_draw (by kernel_rfl) (by kernel_rfl) ?_
        refine atq_do (does_move rfl) rfl rfl ?_
        refine atq_do (does_move rfl) rfl rfl ?_
        refine atq_do (does_indexAddrk (k := 2) (j := k) (by kernel_rfl) rfl rfl (by omega)) rfl rfl ?_
        refine atq_do (does_loadagg_mem (vs := [ak, bk]) (by kernel_rfl) rfl (fun w' ho => two_cells (Below.cellOld ho.plain k1) (Below.cellOld ho.plain k2))) rfl rfl ?_
        refine atq_do (does_move rfl) rfl rfl ?_
        refine atq_do (does_move rfl) rfl rfl ?_
        refine atq_do (does_indexAddrk (k := 2) (j := n) (by kernel_rfl) rfl rfl (by omega)) rfl rfl ?_
        refine atq_do (does_loadagg_mem (vs := [an, bn]) (by kernel_rfl) rfl (fun w' ho => two_cells (Below.cellOld ho.plain n1) (Below.cellOld ho.plain n2))) rfl rfl ?_
        refine atq_callv (f := 15) (enters_fn (by kernel_rfl) rfl) (fun w ho => cP (ho.oldVals k3) (ho.oldVals k4) (ho.oldVals n3) (ho.oldVals n4)) rfl rfl ?_
        refine atq_do (does_move rfl) rfl rfl ?_
        refine atq_no rfl rfl rfl rfl ?_
        refine atq_no rfl rfl rfl rfl ?_
        refine atq_no rfl rfl rfl rfl ?_
        refine atq_no rfl rfl rfl rfl ?_
        refine atq_no rfl rfl rfl rfl ?_
        refine atq_no rfl rfl rfl rfl ?_
        refine atq_no rfl rfl rfl rfl ?_
        refine atq_no rfl rfl rfl rfl ?_
        refine atq_no rfl rfl rfl rfl ?_
        refine atq_do (does_pick_false rfl rfl) rfl rfl ?_
        refine atq_nil ?_
        refine at_then ?_
        refine at_cond_false rfl ?_
        refine at_skip ?_
        refine at_inb ?_
        refine at_then ?_
        refine at_region ?_
        refine at_do (does_move rfl) rfl rfl ?_
        refine at_do (does_addi rfl rfl (by omega)) rfl rfl ?_
        refine at_do (does_assign rfl) rfl rfl ?_
        refine at_nil ?_
        refine at_then ?_
        rotate_left
        refine at_againw fun w ho => ⟨k + 1, by omega, by omega, ⟨rfl, rfl, rfl, rfl, rfl, trivial⟩, rfl, ?_⟩
        rw [hstep]; exact ho
      · by_cases hle : rn ≤ rk
        · rw [Bool.true_and, if_pos (decide_eq_true hle)] at hstep
          refine at_seq ?_
          refine at_seq ?_
          refine at_region ?_
          refine at_do (does_move rfl) rfl rfl ?_
          refine at_do (does_move rfl) rfl rfl ?_
          refine at_do (does_lss rfl rfl) rfl rfl ?_
          refine at_nil ?_
          refine at_then ?_
          refine at_cond_t rfl (decide_eq_true (by omega)) ?_
          refine at_skip ?_
          refine at_then ?_
          refine at_seq ?_
          refine at_block ?_
          refine at_seq ?_
          refine at_draw (by kernel_rfl) (by kernel_rfl) ?_
          refine atq_do (does_move rfl) rfl rfl ?_
          refine atq_do (does_move rfl) rfl rfl ?_
          refine atq_do (does_indexAddrk (k := 2) (j := k) (by kernel_rfl) rfl rfl (by omega)) rfl rfl ?_
          refine atq_do (does_loadagg_mem (vs := [ak, bk]) (by kernel_rfl) rfl (fun w' ho => two_cells (Below.cellOld ho.plain k1) (Below.cellOld ho.plain k2))) rfl rfl ?_
          refine atq_do (does_move rfl) rfl rfl ?_
          refine atq_do (does_move rfl) rfl rfl ?_
          refine atq_do (does_indexAddrk (k := 2) (j := n) (by kernel_rfl) rfl rfl (by omega)) rfl rfl ?_
          refine atq_do (does_loadagg_mem (vs := [an, bn]) (by kernel_rfl) rfl (fun w' ho => two_cells (Below.cellOld ho.plain n1) (Below.cellOld ho.plain n2))) rfl rfl ?_
          refine atq_callv (f := 15) (enters_fn (by kernel_rfl) rfl) (fun w ho => cP (ho.oldVals k3) (ho.oldVals k4) (ho.oldVals n3) (ho.oldVals n4)) rfl rfl ?_
          refine atq_do (does_move rfl) rfl rfl ?_
          refine atq_on rfl rfl ?_
          refine atq_do (does_move rfl) rfl rfl ?_
          refine atq_on rfl rfl ?_
          refine atq_do (does_move rfl) rfl rfl ?_
          refine atq_on rfl rfl ?_
          refine atq_do (does_indexAddr1 (j := k) (by kernel_rfl) rfl rfl (by omega)) rfl rfl ?_
          refine atq_on rfl rfl ?_
          refine atq_do (does_rowload (i := 0) (j := 0 + k) (by kernel_rfl) rfl rfl (by omega) gk) rfl rfl ?_
          refine atq_on rfl rfl ?_
          refine atq_do (does_move rfl) rfl rfl ?_
          refine atq_on rfl rfl ?_
          refine atq_do (does_move rfl) rfl rfl ?_
          refine atq_on rfl rfl ?_
          refine atq_do (does_indexAddr1 (j := n) (by kernel_rfl) rfl rfl (by omega)) rfl rfl ?_
          refine atq_on rfl rfl ?_
          refine atq_do (does_rowload (i := 0) (j := 0 + n) (by kernel_rfl) rfl rfl (by omega) gn) rfl rfl ?_
          refine atq_on rfl rfl ?_
          refine atq_do (does_geq rfl rfl) rfl rfl ?_
          refine atq_do (does_pick_true rfl rfl) rfl rfl ?_
          refine atq_nil ?_
          refine at_then ?_
          refine at_cond_t rfl (decide_eq_true (by omega)) ?_
          refine at_region ?_
          refine at_do (does_move rfl) rfl rfl ?_
          refine at_do (does_move rfl) rfl rfl ?_
          refine at_do (does_move rfl) rfl rfl ?_
          refine at_do (does_move rfl) rfl rfl ?_
          refine at_do (does_indexAddr1 (j := k) (by kernel_rfl) rfl rfl (by omega)) rfl rfl ?_
          refine at_do (does_rowload (i := 0) (j := 0 + k) (by kernel_rfl) rfl rfl (by omega) gk) rfl rfl ?_
          refine at_do (does_addi rfl rfl (by omega)) rfl rfl ?_
          refine at_do (does_indexAddr1 (j := n) (by kernel_rfl) rfl rfl (by omega)) rfl rfl ?_
          refine at_rowstore (i := 0) (j := 0 + n) (by kernel_rfl) rfl rfl rfl rfl (by omega) ?_
          refine at_nil ?_
          refine at_inb ?_
          refine at_then ?_
          refine at_region ?_
          refine at_do (does_move rfl) rfl rfl ?_
          refine at_do (does_addi rfl rfl (by omega)) rfl rfl ?_
          refine at_do (does_assign rfl) rfl rfl ?_
          refine at_nil ?_
          refine at_then ?_
          rotate_left
          refine at_againw fun w ho => ⟨k + 1, by omega, by omega, ⟨rfl, rfl, rfl, rfl, rfl, trivial⟩, rfl, ?_⟩
          rw [hstep, ← ints_set]
          have e : 0 + n = n := Nat.zero_add n
          rw [e] at ho
          exact ho
        · rw [Bool.true_and, if_neg (by simpa using hle)] at hstep
          refine at_seq ?_
          refine at_seq ?_
          refine at_region ?_
          refine at_do (does_move rfl) rfl rfl ?_
          refine at_do (does_move rfl) rfl rfl ?_
          refine at_do (does_lss rfl rfl) rfl rfl ?_
          refine at_nil ?_
          refine at_then ?_
          refine at_cond_t rfl (decide_eq_true (by omega)) ?_
          refine at_skip ?_
          refine at_then ?_
          refine at_seq ?_
          refine at_block ?_
          refine at_seq ?_
          refine at_draw (by kernel_rfl) (by kernel_rfl) ?_
          refine atq_do (does_move rfl) rfl rfl ?_
          refine atq_do (does_move rfl) rfl rfl ?_
          refine atq_do (does_indexAddrk (k := 2) (j := k) (by kernel_rfl) rfl rfl (by omega)) rfl rfl ?_
          refine atq_do (does_loadagg_mem (vs := [ak, bk]) (by kernel_rfl) rfl (fun w' ho => two_cells (Below.cellOld ho.plain k1) (Below.cellOld ho.plain k2))) rfl rfl ?_
          refine atq_do (does_move rfl) rfl rfl ?_
          refine atq_do (does_move rfl) rfl rfl ?_
          refine atq_do (does_indexAddrk (k := 2) (j := n) (by kernel_rfl) rfl rfl (by omega)) rfl rfl ?_
          refine atq_do (does_loadagg_mem (vs := [an, bn]) (by kernel_rfl) rfl (fun w' ho => two_cells (Below.cellOld ho.plain n1) (Below.cellOld ho.plain n2))) rfl rfl ?_
          refine atq_callv (f := 15) (enters_fn (by kernel_rfl) rfl) (fun w ho => cP (ho.oldVals k3) (ho.oldVals k4) (ho.oldVals n3) (ho.oldVals n4)) rfl rfl ?_
          refine atq_do (does_move rfl) rfl rfl ?_
          refine atq_on rfl rfl ?_
          refine atq_do (does_move rfl) rfl rfl ?_
          refine atq_on rfl rfl ?_
          refine atq_do (does_move rfl) rfl rfl ?_
          refine atq_on rfl rfl ?_
          refine atq_do (does_indexAddr1 (j := k) (by kernel_rfl) rfl rfl (by omega)) rfl rfl ?_
          refine atq_on rfl rfl ?_
          refine atq_do (does_rowload (i := 0) (j := 0 + k) (by kernel_rfl) rfl rfl (by omega) gk) rfl rfl ?_
          refine atq_on rfl rfl ?_
          refine atq_do (does_move rfl) rfl rfl ?_
          refine atq_on rfl rfl ?_
          refine atq_do (does_move rfl) rfl rfl ?_
          refine atq_on rfl rfl ?_
          refine atq_do (does_indexAddr1 (j := n) (by kernel_rfl) rfl rfl (by omega)) rfl rfl ?_
          refine atq_on rfl rfl ?_
          refine atq_do (does_rowload (i := 0) (j := 0 + n) (by kernel_rfl) rfl rfl (by omega) gn) rfl rfl ?_
          refine atq_on rfl rfl ?_
          refine atq_do (does_geq rfl rfl) rfl rfl ?_
          refine atq_do (does_pick_true rfl rfl) rfl rfl ?_
          refine atq_nil ?_
          refine at_then ?_
          refine at_cond_f rfl (decide_eq_false (by omega)) ?_
          refine at_skip ?_
          refine at_inb ?_
          refine at_then ?_
          refine at_region ?_
          refine at_do (does_move rfl) rfl rfl ?_
          refine at_do (does_addi rfl rfl (by omega)) rfl rfl ?_
          refine at_do (does_assign rfl) rfl rfl ?_
          refine at_nil ?_
          refine at_then ?_
          rotate_left
          refine at_againw fun w ho => ⟨k + 1, by omega, by omega, ⟨rfl, rfl, rfl, rfl, rfl, trivial⟩, rfl, ?_⟩
          rw [hstep]; exact ho
    · obtain rfl : k = n := by omega
      refine at_seq ?_
      refine at_seq ?_
      refine at_region ?_
      refine at_do (does_move rfl) rfl rfl ?_
      refine at_do (does_move rfl) rfl rfl ?_
      refine at_do (does_lss rfl rfl) rfl rfl ?_
      refine at_nil ?_
      refine at_then ?_
      refine at_cond_f rfl (decide_eq_false (by omega)) ?_
      refine at_exit ?_
      refine at_then_exit ?_
      refine at_then_exit ?_
      refine at_inb_here ?_
      refine at_inb ?_
      refine at_then ?_
      refine at_region ?_
      refine at_do (does_move rfl) rfl rfl ?_
      refine at_do (does_addi rfl rfl (by omega)) rfl rfl ?_
      refine at_do (does_assign rfl) rfl rfl ?_
      refine at_nil ?_
      refine at_then ?_
      rotate_left
      refine at_againw fun w ho => ⟨k + 1, by omega, by omega, ⟨rfl, rfl, rfl, rfl, trivial⟩, rfl, ?_⟩
      have e : rOut (pairW L) (i + 1) (k + 1) = rIn (pairW L) k k (rOut (pairW L) (i + 1) k) := by conv => lhs; unfold rOut
      rw [e]; exact ho
  · obtain rfl : n = i + 1 := by omega
    have gi : (ints (rOut (pairW L) (i + 1) (i + 1)))[0 + i]? = some (.int .i64 (((rOut (pairW L) (i + 1) (i + 1)).getD i 0 : Nat) : Int)) := by rw [Nat.zero_add]; exact ints_get (by rw [rOut_len]; omega)
    refine at_seq ?_
    refine at_seq ?_
    refine at_region ?_
    refine at_do (does_move rfl) rfl rfl ?_
    refine at_do (does_move rfl) rfl rfl ?_
    refine at_do (does_leq rfl rfl) rfl rfl ?_
    refine at_nil ?_
    refine at_then ?_
    refine at_cond_f rfl (decide_eq_false (by omega)) ?_
    refine at_exit ?_
    refine at_then_exit ?_
    refine at_then_exit ?_
    refine at_inb_here ?_
    refine at_then ?_
    refine at_seq ?_
    refine at_region ?_
    refine at_do (does_move rfl) rfl rfl ?_
    refine at_do (does_move rfl) rfl rfl ?_
    refine at_do (does_indexAddr1 (j := i) (by kernel_rfl) rfl rfl (by omega)) rfl rfl ?_
    refine at_do (does_rowload (i := 0) (j := 0 + i) (by kernel_rfl) rfl rfl (by omega) gi) rfl rfl ?_
    refine at_do (does_assign rfl) rfl rfl ?_
    refine at_nil ?_
    refine at_then ?_
    refine at_ret ?_
    refine at_ret1 rfl rfl rfl (fun w9 ho9 => ?_)
    rotate_left
    exact ⟨rfl, ho9.plain⟩
end Go.Proofs.YtchfecmabhfooaaDoor
