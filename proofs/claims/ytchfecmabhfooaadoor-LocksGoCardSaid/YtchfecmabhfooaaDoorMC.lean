/-
  The reference's rank of one of a list. No condition of its own.
  Those ahead of each that it clashes with. No condition of its own.
  Each one's rank. No condition of its own.
  Whether an order keeps what clashes in its places: the look at one. No condition of its own.
  Whether an order keeps what clashes in its places, of an order that is whole. No condition of its own.
  The plain law of ranks: one's rank is the reference's; an order by ranks is whole, and keeps what clashes in its places. No condition of its own.
-/
import Derived.Test.YtchfecmabhfooaaDoorMB
set_option linter.unusedSimpArgs false
set_option linter.unusedVariables false
namespace Go.Proofs.YtchfecmabhfooaaDoor
open Go.RowKit

def ints (rs : List Nat) : List Value := rs.map fun (r : Nat) => .int .i64 (r : Int)
theorem ints_get {rs : List Nat} {j : Nat} (h : j < rs.length) : (ints rs)[j]? = some (.int .i64 ((rs.getD j 0 : Nat) : Int)) := by
  simp [ints, h]
theorem ints_set (rs : List Nat) (j v : Nat) : (ints rs).set j (.int .i64 (v : Int)) = ints (rs.set j v) := by simp [ints, List.map_set]
theorem made_ints (k : Nat) : (madeCells (Value.int .i64 0).cells (k * 1)).toList = ints (List.replicate k 0) := by
  apply List.ext_getElem
  · simp [madeCells, ints]
  · intro j h1 h2
    simp [madeCells, ints, Value.cells, Nat.mod_one]
/-- Do two of a list clash? -/
def pairW (L : List Want2) (k n : Nat) : Bool := match L[k]?, L[n]? with
  | some x, some y => pairF x.1 x.2 y.1 y.2
  | _, _ => false
def rIn (p : Nat → Nat → Bool) (n : Nat) : Nat → List Nat → List Nat
  | 0, rs => rs
  | k + 1, rs => if p k n && decide ((rIn p n k rs).getD n 0 ≤ (rIn p n k rs).getD k 0) then (rIn p n k rs).set n ((rIn p n k rs).getD k 0 + 1) else rIn p n k rs
def rOut (p : Nat → Nat → Bool) (m : Nat) : Nat → List Nat
  | 0 => List.replicate m 0
  | n + 1 => rIn p n n (rOut p m n)
theorem rIn_len (p : Nat → Nat → Bool) (n : Nat) : ∀ (k : Nat) (rs : List Nat), (rIn p n k rs).length = rs.length
  | 0, rs => rfl
  | k + 1, rs => by unfold rIn; split <;> simp [rIn_len p n k rs]
theorem rOut_len (p : Nat → Nat → Bool) (m : Nat) : ∀ n, (rOut p m n).length = m
  | 0 => by simp [rOut]
  | n + 1 => by unfold rOut; rw [rIn_len, rOut_len p m n]
def Low (rs : List Nat) : Prop := ∀ j, rs.getD j 0 ≤ j
theorem rIn_low (p : Nat → Nat → Bool) (n : Nat) : ∀ (k : Nat) (rs : List Nat), k ≤ n → Low rs → Low (rIn p n k rs)
  | 0, rs, _, h => h
  | k + 1, rs, hk, h => by
    have ih := rIn_low p n k rs (by omega) h
    unfold rIn
    split
    · intro j
      have hk2 := ih k
      rw [List.getD_eq_getElem?_getD, List.getElem?_set]
      split
      · rename_i hj
        split
        · simp only [Option.getD_some]; omega
        · simp
      · have := ih j
        rwa [List.getD_eq_getElem?_getD] at this
    · exact ih
theorem rOut_low (p : Nat → Nat → Bool) (m : Nat) : ∀ n, Low (rOut p m n)
  | 0 => fun j => by simp [rOut, List.getD_eq_getElem?_getD, List.getElem?_replicate]; split <;> simp
  | n + 1 => rIn_low p n n _ (Nat.le_refl _) (rOut_low p m n)
def rankL (L : List Want2) (i : Nat) : Nat := (rOut (pairW L) (i + 1) (i + 1)).getD i 0
theorem oldPair {L : List Want2} {k n : Nat} (hk : k < L.length) (hn : n < L.length) : pairW L k n = pairF L[k].1 L[k].2 L[n].1 L[n].2 := by simp [pairW, hk, hn]
attribute [local irreducible] cwp lwp Exit.then Exit.inBlock Exit.noGoto wpQuiet Calls fin At AtQ Again endQ RQ rIn rOut
set_option maxHeartbeats 4000000 in
theorem ref_Rank (arg : Value) (L : List Want2) (i : Nat) (w : World) (hV : WantsAt w arg L) (hS : ShortW L) (hi : i < L.length) :
    Calls Tryd.prog 21 #[arg, .int .i64 i] w fun e w' => e = .returned (.int .i64 ((rankL L i : Nat) : Int)) ∧ Below w.heap.size w w' := by
  have hS1 := hS.1
  obtain ⟨A0, c0, rfl, hc, hcell⟩ := hV
  obtain ⟨gb, o, rfl, hlt, hce⟩ := hcell (by omega)
  have hR : rankL L i = (rOut (pairW L) (i + 1) (i + 1)).getD i 0 := rfl
  rw [hR]
  refine calls_plain Tryd.func21 rfl Tryd.ntmps21 rfl ?_
  refine at_seq ?_
  refine at_region ?_
  refine at_do (does_assign rfl) rfl rfl ?_
  refine at_nil ?_
  refine at_then ?_
  refine at_seq ?_
  refine at_region ?_
  refine at_do (does_move rfl) rfl rfl ?_
  refine at_do (does_addi rfl rfl (by omega)) rfl rfl ?_
  refine at_make (e := 3) (sz := 1) (by' := 8) (m := i + 1) (ints (List.replicate (i + 1) 0)) (by kernel_rfl) ?_ rfl rfl (by simp only [maxLen]; omega) rfl (fun g5 => ?_)
  rotate_left
  refine at_do (does_assign rfl) rfl rfl ?_
  refine at_nil ?_
  refine at_then ?_
  refine at_seq ?_
  refine at_seq ?_
  refine at_region ?_
  refine at_do (does_assign rfl) rfl rfl ?_
  refine at_nil ?_
  refine at_then ?_
  refine at_block ?_
  rotate_left
  · intro t z q1 q2
    have hz : (Tryd.prog.info? 3).bind (·.zero) = some (.int .i64 0) := by kernel_rfl
    rw [q1] at hz
    simp only [Option.bind_some] at hz
    rw [q2] at hz
    cases hz
    exact made_ints (i + 1)
  have keepL : ∀ {C : Ctx} {H : List Res} {w' : World}, True := trivial
  refine at_loopH (σ := Nat) (fun n => n ≤ i + 1) (fun n => [(0, .slice (some ⟨gb, o, none⟩) L.length c0), (1, .int .i64 i), (5, .slice (some ⟨g5, 0, none⟩) (i + 1) (i + 1)), (6, .int .i64 n)]) (fun n => [.row (.slice (some ⟨g5, 0, none⟩) (i + 1) (i + 1)) 3 1 (i + 1) (ints (rOut (pairW L) (i + 1) n))]) (fun n => i + 1 - n)
    (fun w ho => ⟨0, Nat.zero_le _, ⟨rfl, rfl, rfl, rfl, trivial⟩, by
      have e : rOut (pairW L) (i + 1) 0 = List.replicate (i + 1) 0 := by unfold rOut; rfl
      rw [e]; exact ho⟩) ?_
  rintro n hn
  by_cases hni : n < i + 1
  · obtain ⟨an, bn, n1, n2, n3, n4, n5, n6⟩ := hce n (by omega)
    have hxn := hS.2 L[n] (List.getElem_mem _)
    refine at_seq ?_
    refine at_seq ?_
    refine at_region ?_
    refine at_do (does_move rfl) rfl rfl ?_
    refine at_do (does_move rfl) rfl rfl ?_
    refine at_do (does_leq rfl rfl) rfl rfl ?_
    refine at_nil ?_
    refine at_then ?_
    refine at_cond_t rfl (decide_eq_true (by omega)) ?_
    refine at_skip ?_
    refine at_then ?_
    refine at_seq ?_
    refine at_block ?_
    refine at_seq ?_
    refine at_region ?_
    refine at_do (does_assign rfl) rfl rfl ?_
    refine at_nil ?_
    refine at_then ?_
    refine at_block ?_
    rotate_left
    refine at_loopH (σ := Nat) (fun k => k ≤ n) (fun k => [(0, .slice (some ⟨gb, o, none⟩) L.length c0), (1, .int .i64 i), (5, .slice (some ⟨g5, 0, none⟩) (i + 1) (i + 1)), (6, .int .i64 n), (7, .int .i64 k)]) (fun k => [.row (.slice (some ⟨g5, 0, none⟩) (i + 1) (i + 1)) 3 1 (i + 1) (ints (rIn (pairW L) n k (rOut (pairW L) (i + 1) n)))]) (fun k => n - k)
      (fun w ho => ⟨0, Nat.zero_le _, ⟨rfl, rfl, rfl, rfl, rfl, trivial⟩, by
        have e : rIn (pairW L) n 0 (rOut (pairW L) (i + 1) n) = rOut (pairW L) (i + 1) n := by unfold rIn; rfl
        rw [e]; exact ho⟩) ?_
    rintro k hk
    by_cases hkn : k < n
    · obtain ⟨ak, bk, k1, k2, k3, k4, k5, k6⟩ := hce k (by omega)
      have hxk := hS.2 L[k] (List.getElem_mem _)
      have hp : pairW L k n = pairF L[k].1 L[k].2 L[n].1 L[n].2 := oldPair (by omega) (by omega)
      have hstep : rIn (pairW L) n (k + 1) (rOut (pairW L) (i + 1) n) = if pairW L k n && decide ((rIn (pairW L) n k (rOut (pairW L) (i + 1) n)).getD n 0 ≤ (rIn (pairW L) n k (rOut (pairW L) (i + 1) n)).getD k 0) then (rIn (pairW L) n k (rOut (pairW L) (i + 1) n)).set n ((rIn (pairW L) n k (rOut (pairW L) (i + 1) n)).getD k 0 + 1) else rIn (pairW L) n k (rOut (pairW L) (i + 1) n) := by
        conv => lhs; unfold rIn
      have hlow := rIn_low (pairW L) n k _ (by omega) (rOut_low (pairW L) (i + 1) n)
      have hlen : (rIn (pairW L) n k (rOut (pairW L) (i + 1) n)).length = i + 1 := by rw [rIn_len, rOut_len]
      generalize rIn (pairW L) n k (rOut (pairW L) (i + 1) n) = rs at hstep hlow hlen ⊢
      have gk : (ints rs)[0 + k]? = some (.int .i64 ((rs.getD k 0 : Nat) : Int)) := by rw [Nat.zero_add]; exact ints_get (by omega)
      have gn : (ints rs)[0 + n]? = some (.int .i64 ((rs.getD n 0 : Nat) : Int)) := by rw [Nat.zero_add]; exact ints_get (by omega)
      have lk := hlow k
      have cP : ∀ {w'}, ValsAt w' ak (strs L[k].1) → ValsAt w' bk (strs L[k].2) → ValsAt w' an (strs L[n].1) → ValsAt w' bn (strs L[n].2) → Calls Tryd.prog 15 #[.agg #[ak, bk], .agg #[an, bn]] w' fun e w3 => e = .returned (.bool (pairW L k n)) ∧ Below w'.heap.size w' w3 := fun x1 x2 x3 x4 => by
        rw [hp]; exact ref_Pair ak bk an bn _ _ _ _ _ x1 x2 x3 x4 hxk.1 hxk.2 hxn.1 hxn.2 k5 k6 n5 n6
      clear hp
      generalize pairW L k n = pk at hstep cP
      have hlk : rs.getD k 0 ≤ 1000 := by omega
      generalize hrk : rs.getD k 0 = rk at hstep gk lk hlk
      generalize hrn : rs.getD n 0 = rn at hstep gn
      cases pk
      · rw [Bool.false_and, if_neg (by simp)] at hstep
        refine at_seq ?_
        refine at_seq ?_
        refine at_region ?_
        refine at_do (does_move rfl) rfl rfl ?_
        refine at_do (does_move rfl) rfl rfl ?_
        refine at_do (does_lss rfl rfl) rfl rfl ?_
        refine at_nil ?_
        refine at_then ?_
        refine at_cond_t rfl (decide_eq_true (by omega)) ?_
        refine at_skip ?_
        refine at_then ?_
        refine at_seq ?_
        refine at_block ?_
        refine at_seq ?_
        refine at_draw (by kernel_rfl) (by kernel_rfl) ?_
        refine atq_do (does_move rfl) rfl rfl ?_
        refine atq_do (does_move rfl) rfl rfl ?_
        refine atq_do (does_indexAddrk (k := 2) (j := k) (by kernel_rfl) rfl rfl (by omega)) rfl rfl ?_
        refine atq_do (does_loadagg_mem (vs := [ak, bk]) (by kernel_rfl) rfl (fun w' ho => two_cells (Below.cellOld ho.plain k1) (Below.cellOld ho.plain k2))) rfl rfl ?_
        refine atq_do (does_move rfl) rfl rfl ?_
        refine atq_do (does_move rfl) rfl rfl ?_
        refine atq_do (does_indexAddrk (k := 2) (j := n) (by kernel_rfl) rfl rfl (by omega)) rfl rfl ?_
        refine atq_do (does_loadagg_mem (vs := [an, bn]) (by kernel_rfl) rfl (fun w' ho => two_cells (Below.cellOld ho.plain n1) (Below.cellOld ho.plain n2))) rfl rfl ?_
        refine atq_callv (f := 15) (enters_fn (by kernel_rfl) rfl) (fun w ho => cP (ho.oldVals k3) (ho.oldVals k4) (ho.oldVals n3) (ho.oldVals n4)) rfl rfl ?_
        refine atq_do (does_move rfl) rfl rfl ?_
        refine atq_no rfl rfl rfl rfl ?_
        refine atq_no rfl rfl rfl rfl ?_
        refine atq_no rfl rfl rfl rfl ?_
        refine atq_no rfl rfl rfl rfl ?_
        refine atq_no rfl rfl rfl rfl ?_
        refine atq_no rfl rfl rfl rfl ?_
        refine atq_no rfl rfl rfl rfl ?_
        refine atq_no rfl rfl rfl rfl ?_
        refine atq_no rfl rfl rfl rfl ?_
        refine atq_do (does_pick_false rfl rfl) rfl rfl ?_
        refine atq_nil ?_
        refine at_then ?_
        refine at_cond_false rfl ?_
        refine at_skip ?_
        refine at_inb ?_
        refine at_then ?_
        refine at_region ?_
        refine at_do (does_move rfl) rfl rfl ?_
        refine at_do (does_addi rfl rfl (by omega)) rfl rfl ?_
        refine at_do (does_assign rfl) rfl rfl ?_
        refine at_nil ?_
        refine at_then ?_
        rotate_left
        refine at_againw fun w ho => ⟨k + 1, by omega, by omega, ⟨rfl, rfl, rfl, rfl, rfl, trivial⟩, rfl, ?_⟩
        rw [hstep]; exact ho
      · by_cases hle : rn ≤ rk
        · rw [Bool.true_and, if_pos (decide_eq_true hle)] at hstep
          refine at_seq ?_
          refine at_seq ?_
          refine at_region ?_
          refine at_do (does_move rfl) rfl rfl ?_
          refine at_do (does_move rfl) rfl rfl ?_
          refine at_do (does_lss rfl rfl) rfl rfl ?_
          refine at_nil ?_
          refine at_then ?_
          refine at_cond_t rfl (decide_eq_true (by omega)) ?_
          refine at_skip ?_
          refine at_then ?_
          refine at_seq ?_
          refine at_block ?_
          refine at_seq ?_
          refine at_draw (by kernel_rfl) (by kernel_rfl) ?_
          refine atq_do (does_move rfl) rfl rfl ?_
          refine atq_do (does_move rfl) rfl rfl ?_
          refine atq_do (does_indexAddrk (k := 2) (j := k) (by kernel_rfl) rfl rfl (by omega)) rfl rfl ?_
          refine atq_do (does_loadagg_mem (vs := [ak, bk]) (by kernel_rfl) rfl (fun w' ho => two_cells (Below.cellOld ho.plain k1) (Below.cellOld ho.plain k2))) rfl rfl ?_
          refine atq_do (does_move rfl) rfl rfl ?_
          refine atq_do (does_move rfl) rfl rfl ?_
          refine atq_do (does_indexAddrk (k := 2) (j := n) (by kernel_rfl) rfl rfl (by omega)) rfl rfl ?_
          refine atq_do (does_loadagg_mem (vs := [an, bn]) (by kernel_rfl) rfl (fun w' ho => two_cells (Below.cellOld ho.plain n1) (Below.cellOld ho.plain n2))) rfl rfl ?_
          refine atq_callv (f := 15) (enters_fn (by kernel_rfl) rfl) (fun w ho => cP (ho.oldVals k3) (ho.oldVals k4) (ho.oldVals n3) (ho.oldVals n4)) rfl rfl ?_
          refine atq_do (does_move rfl) rfl rfl ?_
          refine atq_on rfl rfl ?_
          refine atq_do (does_move rfl) rfl rfl ?_
          refine atq_on rfl rfl ?_
          refine atq_do (does_move rfl) rfl rfl ?_
          refine atq_on rfl rfl ?_
          refine atq_do (does_indexAddr1 (j := k) (by kernel_rfl) rfl rfl (by omega)) rfl rfl ?_
          refine atq_on rfl rfl ?_
          refine atq_do (does_rowload (i := 0) (j := 0 + k) (by kernel_rfl) rfl rfl (by omega) gk) rfl rfl ?_
          refine atq_on rfl rfl ?_
          refine atq_do (does_move rfl) rfl rfl ?_
          refine atq_on rfl rfl ?_
          refine atq_do (does_move rfl) rfl rfl ?_
          refine atq_on rfl rfl ?_
          refine atq_do (does_indexAddr1 (j := n) (by kernel_rfl) rfl rfl (by omega)) rfl rfl ?_
          refine atq_on rfl rfl ?_
          refine atq_do (does_rowload (i := 0) (j := 0 + n) (by kernel_rfl) rfl rfl (by omega) gn) rfl rfl ?_
          refine atq_on rfl rfl ?_
          refine atq_do (does_geq rfl rfl) rfl rfl ?_
          refine atq_do (does_pick_true rfl rfl) rfl rfl ?_
          refine atq_nil ?_
          refine at_then ?_
          refine at_cond_t rfl (decide_eq_true (by omega)) ?_
          refine at_region ?_
          refine at_do (does_move rfl) rfl rfl ?_
          refine at_do (does_move rfl) rfl rfl ?_
          refine at_do (does_move rfl) rfl rfl ?_
          refine at_do (does_move rfl) rfl rfl ?_
          refine at_do (does_indexAddr1 (j := k) (by kernel_rfl) rfl rfl (by omega)) rfl rfl ?_
          refine at_do (does_rowload (i := 0) (j := 0 + k) (by kernel_rfl) rfl rfl (by omega) gk) rfl rfl ?_
          refine at_do (does_addi rfl rfl (by omega)) rfl rfl ?_
          refine at_do (does_indexAddr1 (j := n) (by kernel_rfl) rfl rfl (by omega)) rfl rfl ?_
          refine at_rowstore (i := 0) (j := 0 + n) (by kernel_rfl) rfl rfl rfl rfl (by omega) ?_
          refine at_nil ?_
          refine at_inb ?_
          refine at_then ?_
          refine at_region ?_
          refine at_do (does_move rfl) rfl rfl ?_
          refine at_do (does_addi rfl rfl (by omega)) rfl rfl ?_
          refine at_do (does_assign rfl) rfl rfl ?_
          refine at_nil ?_
          refine at_then ?_
          rotate_left
          refine at_againw fun w ho => ⟨k + 1, by omega, by omega, ⟨rfl, rfl, rfl, rfl, rfl, trivial⟩, rfl, ?_⟩
          rw [hstep, ← ints_set]
          have e : 0 + n = n := Nat.zero_add n
          rw [e] at ho
          exact ho
        · rw [Bool.true_and, if_neg (by simpa using hle)] at hstep
          refine at_seq ?_
          refine at_seq ?_
          refine at_region ?_
          refine at_do (does_move rfl) rfl rfl ?_
          refine at_do (does_move rfl) rfl rfl ?_
          refine at_do (does_lss rfl rfl) rfl rfl ?_
          refine at_nil ?_
          refine at_then ?_
          refine at_cond_t rfl (decide_eq_true (by omega)) ?_
          refine at_skip ?_
          refine at_then ?_
          refine at_seq ?_
          refine at_block ?_
          refine at_seq ?_
          refine at_draw (by kernel_rfl) (by kernel_rfl) ?_
          refine atq_do (does_move rfl) rfl rfl ?_
          refine atq_do (does_move rfl) rfl rfl ?_
          refine atq_do (does_indexAddrk (k := 2) (j := k) (by kernel_rfl) rfl rfl (by omega)) rfl rfl ?_
          refine atq_do (does_loadagg_mem (vs := [ak, bk]) (by kernel_rfl) rfl (fun w' ho => two_cells (Below.cellOld ho.plain k1) (Below.cellOld ho.plain k2))) rfl rfl ?_
          refine atq_do (does_move rfl) rfl rfl ?_
          refine atq_do (does_move rfl) rfl rfl ?_
          refine atq_do (does_indexAddrk (k := 2) (j := n) (by kernel_rfl) rfl rfl (by omega)) rfl rfl ?_
          refine atq_do (does_loadagg_mem (vs := [an, bn]) (by kernel_rfl) rfl (fun w' ho => two_cells (Below.cellOld ho.plain n1) (Below.cellOld ho.plain n2))) rfl rfl ?_
          refine atq_callv (f := 15) (enters_fn (by kernel_rfl) rfl) (fun w ho => cP (ho.oldVals k3) (ho.oldVals k4) (ho.oldVals n3) (ho.oldVals n4)) rfl rfl ?_
          refine atq_do (does_move rfl) rfl rfl ?_
          refine atq_on rfl rfl ?_
          refine atq_do (does_move rfl) rfl rfl ?_
          refine atq_on rfl rfl ?_
          refine atq_do (does_move rfl) rfl rfl ?_
          refine atq_on rfl rfl ?_
          refine atq_do (does_indexAddr1 (j := k) (by kernel_rfl) rfl rfl (by omega)) rfl rfl ?_
          refine atq_on rfl rfl ?_
          refine atq_do (does_rowload (i := 0) (j := 0 + k) (by kernel_rfl) rfl rfl (by omega) gk) rfl rfl ?_
          refine atq_on rfl rfl ?_
          refine atq_do (does_move rfl) rfl rfl ?_
          refine atq_on rfl rfl ?_
          refine atq_do (does_move rfl) rfl rfl ?_
          refine atq_on rfl rfl ?_
          refine atq_do (does_indexAddr1 (j := n) (by kernel_rfl) rfl rfl (by omega)) rfl rfl ?_
          refine atq_on rfl rfl ?_
          refine atq_do (does_rowload (i := 0) (j := 0 + n) (by kernel_rfl) rfl rfl (by omega) gn) rfl rfl ?_
          refine atq_on rfl rfl ?_
          refine atq_do (does_geq rfl rfl) rfl rfl ?_
          refine atq_do (does_pick_true rfl rfl) rfl rfl ?_
          refine atq_nil ?_
          refine at_then ?_
          refine at_cond_f rfl (decide_eq_false (by omega)) ?_
          refine at_skip ?_
          refine at_inb ?_
          refine at_then ?_
          refine at_region ?_
          refine at_do (does_move rfl) rfl rfl ?_
          refine at_do (does_addi rfl rfl (by omega)) rfl rfl ?_
          refine at_do (does_assign rfl) rfl rfl ?_
          refine at_nil ?_
          refine at_then ?_
          rotate_left
          refine at_againw fun w ho => ⟨k + 1, by omega, by omega, ⟨rfl, rfl, rfl, rfl, rfl, trivial⟩, rfl, ?_⟩
          rw [hstep]; exact ho
    · obtain rfl : k = n := by omega
      refine at_seq ?_
      refine at_seq ?_
      refine at_region ?_
      refine at_do (does_move rfl) rfl rfl ?_
      refine at_do (does_move rfl) rfl rfl ?_
      refine at_do (does_lss rfl rfl) rfl rfl ?_
      refine at_nil ?_
      refine at_then ?_
      refine at_cond_f rfl (decide_eq_false (by omega)) ?_
      refine at_exit ?_
      refine at_then_exit ?_
      refine at_then_exit ?_
      refine at_inb_here ?_
      refine at_inb ?_
      refine at_then ?_
      refine at_region ?_
      refine at_do (does_move rfl) rfl rfl ?_
      refine at_do (does_addi rfl rfl (by omega)) rfl rfl ?_
      refine at_do (does_assign rfl) rfl rfl ?_
      refine at_nil ?_
      refine at_then ?_
      rotate_left
      refine at_againw fun w ho => ⟨k + 1, by omega, by omega, ⟨rfl, rfl, rfl, rfl, trivial⟩, rfl, ?_⟩
      have e : rOut (pairW L) (i + 1) (k + 1) = rIn (pairW L) k k (rOut (pairW L) (i + 1) k) := by conv => lhs; unfold rOut
      rw [e]; exact ho
  · obtain rfl : n = i + 1 := by omega
    have gi : (ints (rOut (pairW L) (i + 1) (i + 1)))[0 + i]? = some (.int .i64 (((rOut (pairW L) (i + 1) (i + 1)).getD i 0 : Nat) : Int)) := by rw [Nat.zero_add]; exact ints_get (by rw [rOut_len]; omega)
    refine at_seq ?_
    refine at_seq ?_
    refine at_region ?_
    refine at_do (does_move rfl) rfl rfl ?_
    refine at_do (does_move rfl) rfl rfl ?_
    refine at_do (does_leq rfl rfl) rfl rfl ?_
    refine at_nil ?_
    refine at_then ?_
    refine at_cond_f rfl (decide_eq_false (by omega)) ?_
    refine at_exit ?_
    refine at_then_exit ?_
    refine at_then_exit ?_
    refine at_inb_here ?_
    refine at_then ?_
    refine at_seq ?_
    refine at_region ?_
    refine at_do (does_move rfl) rfl rfl ?_
    refine at_do (does_move rfl) rfl rfl ?_
    refine at_do (does_indexAddr1 (j := i) (by kernel_rfl) rfl rfl (by omega)) rfl rfl ?_
    refine at_do (does_rowload (i := 0) (j := 0 + i) (by kernel_rfl) rfl rfl (by omega) gi) rfl rfl ?_
    refine at_do (does_assign rfl) rfl rfl ?_
    refine at_nil ?_
    refine at_then ?_
    refine at_ret ?_
    refine at_ret1 rfl rfl rfl (fun w9 ho9 => ?_)
    rotate_left
    exact ⟨rfl, ho9.plain⟩
end Go.Proofs.YtchfecmabhfooaaDoor
set_option linter.unusedSimpArgs false
set_option linter.unusedVariables false
namespace Go.Proofs.YtchfecmabhfooaaDoor
open Go.RowKit

def KeptV (w : World) (B : Nat → Prop) (v : Value) (vs : List Value) : Prop := ValsAt w v vs ∧ (0 < vs.length → ∀ g ∈ v.ownBlock, ¬ B g)
theorem KeptV.move {w w' : World} {B B' : Nat → Prop} {v : Value} {vs : List Value} (h : KeptV w B v vs) (hf : Frm w B w') (hB : ∀ k, k < w.heap.size → B' k → B k) : KeptV w' B' v vs := by
  refine ⟨?_, fun hl g hg hb => ?_⟩
  · by_cases hl : 0 < vs.length
    · obtain ⟨gb, o, c, rfl, hc, hlt, hce⟩ := h.1.form hl
      refine .inr ⟨⟨gb, o, none⟩, c, rfl, hc, fun j u hu => ?_⟩
      rw [add_none]
      exact (World.cell?_of_block (hf.old gb hlt (h.2 hl gb (by simp [Value.ownBlock])))).trans (hce j u hu)
    · obtain rfl : vs = [] := List.eq_nil_of_length_eq_zero (by omega)
      rcases h.1 with ⟨rfl, _⟩ | ⟨A, c, rfl, hc, _⟩
      · exact .inl ⟨rfl, rfl⟩
      · exact .inr ⟨A, c, rfl, hc, fun j u hu => by simp at hu⟩
  · obtain ⟨gb, o, c, rfl, hc, hlt, hce⟩ := h.1.form hl
    have hg' : g = gb := by simpa [Value.ownBlock] using hg.symm
    subst hg'
    exact h.2 hl g hg (hB g hlt hb)
/-- Rows of numbers in a row. -/
def RowsAt (w : World) (v : Value) (n : Nat) (f : Nat → List Nat) : Prop := ∃ g c, v = .slice (some ⟨g, 0, none⟩) n c ∧ ∀ i, i < n → ∃ u, w.cell? ⟨g, 0 + i, none⟩ = some u ∧ ValsAt w u (ints (f i))
def flt (L : List Want2) (i k : Nat) : List Nat := (List.range k).filter fun j => pairW L j i
def aheadL (L : List Want2) (i : Nat) : List Nat := flt L i i
theorem flt_succ (L : List Want2) (i k : Nat) : flt L i (k + 1) = if pairW L k i then flt L i k ++ [k] else flt L i k := by
  unfold flt
  rw [List.range_succ, List.filter_append]
  by_cases h : pairW L k i <;> simp [h]
theorem flt_len (L : List Want2) (i k : Nat) : (flt L i k).length ≤ k := by
  have := List.length_filter_le (fun j => pairW L j i) (List.range k)
  simpa [flt] using this
def nils (n : Nat) : List Value := List.replicate n (.slice none 0 0)
theorem made_nils (k : Nat) : (madeCells (Value.slice none 0 0).cells (k * 1)).toList = nils k := by
  apply List.ext_getElem
  · simp [madeCells, nils]
  · intro j h1 h2
    simp [madeCells, nils, Value.cells, Nat.mod_one]
attribute [local irreducible] cwp lwp Exit.then Exit.inBlock Exit.noGoto wpQuiet Calls fin At AtQ Again endQ RQ
theorem ahead_no (arg : Value) (L : List Want2) (w : World) (hG : Glob w) (hV : WantsAt w arg L) (hS : ShortW L) (h : rightL L = false) :
    Calls Tryd.prog 18 #[arg] w fun e w' => e = .returned (.tuple #[.slice none 0 0, .int .i64 1]) ∧ Below w.heap.size w w' := by
  refine calls_plain Tryd.func18 rfl Tryd.ntmps18 rfl ?_
  refine at_seq ?_
  refine at_region ?_
  refine at_do (does_assign rfl) rfl rfl ?_
  refine at_do (does_assign rfl) rfl rfl ?_
  refine at_nil ?_
  refine at_then ?_
  refine at_seq ?_
  refine at_seq ?_
  refine at_region ?_
  refine at_do (does_move rfl) rfl rfl ?_
  refine at_callv (f := 66) (enters_fn (by kernel_rfl) rfl) (fun w ho => clash_right arg L w (ho.glob hG id) (ho.oldWants hV) hS) rfl rfl ?_
  refine at_do (does_not rfl) rfl rfl ?_
  refine at_nil ?_
  refine at_then ?_
  refine at_cond_t rfl (by (rw [h]; rfl)) ?_
  refine at_seq ?_
  refine at_region ?_
  refine at_do (does_assign rfl) rfl rfl ?_
  refine at_do (does_assign rfl) rfl rfl ?_
  refine at_nil ?_
  refine at_then ?_
  refine at_ret ?_
  refine at_then_ret ?_
  refine at_ret2 rfl rfl rfl rfl (fun w9 ho9 => ?_)
  rotate_left
  exact ⟨rfl, ho9.plain⟩
set_option maxHeartbeats 4000000 in
theorem ahead_yes (arg : Value) (L : List Want2) (w : World) (hG : Glob w) (hV : WantsAt w arg L) (hS : ShortW L) (h : rightL L = true) :
    Calls Tryd.prog 18 #[arg] w fun e w' => ∃ v, e = .returned (.tuple #[v, .int .i64 0]) ∧ Below w.heap.size w w' ∧ RowsAt w' v L.length (aheadL L) ∧ (∀ g ∈ v.ownBlock, w.heap.size ≤ g) := by
  have cR : ∀ w1, Below w.heap.size w w1 → Glob w1 → Calls Tryd.prog 66 #[arg] w1 fun e w' => e = .returned (.bool true) ∧ Below w1.heap.size w1 w' := fun w1 hb hg => h ▸ clash_right arg L w1 hg (hV.keep hb) hS
  have hS1 := hS.1
  obtain ⟨A0, c0, rfl, hc, hcell⟩ := hV
  refine calls_plain Tryd.func18 rfl Tryd.ntmps18 rfl ?_
  refine at_seq ?_
  refine at_region ?_
  refine at_do (does_assign rfl) rfl rfl ?_
  refine at_do (does_assign rfl) rfl rfl ?_
  refine at_nil ?_
  refine at_then ?_
  refine at_seq ?_
  refine at_seq ?_
  refine at_region ?_
  refine at_do (does_move rfl) rfl rfl ?_
  refine at_callv (f := 66) (enters_fn (by kernel_rfl) rfl) (fun w ho => cR w ho.plain (ho.glob hG id)) rfl rfl ?_
  refine at_do (does_not rfl) rfl rfl ?_
  refine at_nil ?_
  refine at_then ?_
  refine at_cond_f rfl (by rfl) ?_
  refine at_skip ?_
  refine at_then ?_
  refine at_seq ?_
  refine at_region ?_
  refine at_do (does_move rfl) rfl rfl ?_
  refine at_do (does_len (by kernel_rfl) rfl) rfl rfl ?_
  refine at_make (e := 34) (sz := 1) (by' := 24) (m := L.length) (nils L.length) (by kernel_rfl) ?_ rfl rfl (by simp only [maxLen]; omega) rfl (fun g4 => ?_)
  rotate_left
  refine at_do (does_assign rfl) rfl rfl ?_
  refine at_nil ?_
  refine at_then ?_
  refine at_seq ?_
  refine at_seq ?_
  refine at_region ?_
  refine at_do (does_move rfl) rfl rfl ?_
  refine at_do (does_len (by kernel_rfl) rfl) rfl rfl ?_
  refine at_do (does_move rfl) rfl rfl ?_
  refine at_nil ?_
  refine at_then ?_
  refine at_block ?_
  rotate_left
  · intro t z q1 q2
    have hz : (Tryd.prog.info? 34).bind (·.zero) = some (.slice none 0 0) := by kernel_rfl
    rw [q1] at hz
    simp only [Option.bind_some] at hz
    rw [q2] at hz
    cases hz
    exact made_nils L.length
  refine at_loop (σ := World × List Value × Nat) (fun s => s.2.2 ≤ L.length ∧ s.2.1.length = L.length ∧ (∀ j, j < s.2.2 → ∃ u, s.2.1[j]? = some u ∧ KeptV s.1 (fun k => k ∈ bls [Res.row (.slice (some ⟨g4, 0, none⟩) L.length L.length) 34 1 L.length s.2.1]) u (ints (aheadL L j))) ∧ (∀ j, s.2.2 ≤ j → j < L.length → s.2.1[j]? = some (.slice none 0 0)))
    (fun s => [(0, .slice A0 L.length c0), (4, .slice (some ⟨g4, 0, none⟩) L.length L.length), (14, .slice A0 L.length c0), (15, .int .i64 L.length), (16, .int .i64 s.2.2)])
    (fun s => ⟨w, fun _ => False, fun _ => False, s.1, fun k => k ∈ bls [Res.row (.slice (some ⟨g4, 0, none⟩) L.length L.length) 34 1 L.length s.2.1], []⟩) (fun s => [.row (.slice (some ⟨g4, 0, none⟩) L.length L.length) 34 1 L.length s.2.1]) (fun s => L.length - s.2.2)
    (fun w1 ho => ⟨(w1, nils L.length, 0), ⟨Nat.zero_le _, by simp [nils], fun j hj => absurd hj (by simp), fun j _ hj => by simp [nils, hj]⟩, ⟨rfl, rfl, rfl, rfl, rfl, trivial⟩, rfl, ho.re⟩) ?_
  rintro ⟨W1, us, i⟩ ⟨hi, hul, hK, hN⟩
  simp only at hi hul hK hN
  by_cases hil : i < L.length
  · obtain ⟨gb, o, rfl, hlt, hce⟩ := hcell (by omega)
    obtain ⟨an, bn, n1, n2, n3, n4, n5, n6⟩ := hce i hil
    have hxn := hS.2 L[i] (List.getElem_mem _)
    have hui := hN i (Nat.le_refl _) hil
    refine at_seq ?_
    refine at_region ?_
    refine at_do (does_lss rfl rfl) rfl rfl ?_
    refine at_nil ?_
    refine at_then ?_
    refine at_seq ?_
    refine at_cond_t rfl (decide_eq_true (by (simp only; omega))) ?_
    refine at_skip ?_
    refine at_then ?_
    refine at_seq ?_
    refine at_block ?_
    refine at_seq ?_
    refine at_region ?_
    refine at_do (does_move rfl) rfl rfl ?_
    refine at_do (does_indexAddrk (k := 2) (j := i) (by kernel_rfl) rfl rfl (by omega)) rfl rfl ?_
    refine at_do (does_loadagg_mem (vs := [an, bn]) (by kernel_rfl) rfl (fun w' ho => two_cells (Below.cellOld ho.plain n1) (Below.cellOld ho.plain n2))) rfl rfl ?_
    refine at_allocagg Tryd.zeroValue24 rfl fun gz0 => ?_
    refine at_do (does_assign rfl) rfl rfl ?_
    refine at_storeagg (i := 0) (h := gz0) (tb := 24) (cs := #[.slice none 0 0, .slice none 0 0]) (vs := #[an, bn]) (by kernel_rfl) rfl rfl (by simp [n5, n6]) rfl (by simp) ?_
    refine at_nil ?_
    refine at_then ?_
    refine at_seq ?_
    refine at_region ?_
    refine at_do (does_move rfl) rfl rfl ?_
    refine at_do (does_move rfl) rfl rfl ?_
    refine at_nil ?_
    refine at_then ?_
    refine at_block ?_
    rotate_left
    refine at_nilrow 3 1 ?_
    refine at_loopH (σ := Value × Nat) (fun s => s.2 ≤ i) (fun s => [(0, .slice (some ⟨gb, o, none⟩) L.length c0), (4, .slice (some ⟨g4, 0, none⟩) L.length L.length), (5, .int .i64 i), (6, .pointer (some ⟨gz0, 0, none⟩)), (14, .slice (some ⟨gb, o, none⟩) L.length c0), (15, .int .i64 L.length), (16, .int .i64 i), (21, .int .i64 i), (22, .int .i64 s.2)])
      (fun s => [.row s.1 3 1 (flt L i s.2).length (ints (flt L i s.2)), .blk gz0 24 #[an, bn], .row (.slice (some ⟨g4, 0, none⟩) L.length L.length) 34 1 L.length (us.set i s.1)]) (fun s => i - s.2)
      (fun w ho => ⟨(.slice none 0 0, 0), Nat.zero_le _, ⟨rfl, rfl, rfl, rfl, rfl, rfl, rfl, rfl, rfl, trivial⟩, by
        show Own _ [.row (.slice none 0 0) 3 1 0 [], .blk gz0 24 #[an, bn], .row (.slice (some ⟨g4, 0, none⟩) L.length L.length) 34 1 L.length (us.set i (.slice none 0 0))] w
        rw [List.set_eq_of_getElem? hui]
        exact ho⟩) ?_
    rintro ⟨vi, k⟩ hk
    simp only at hk
    have gi : (us.set i vi)[0 + i]? = some vi := by rw [Nat.zero_add, List.getElem?_set_self (by omega)]
    by_cases hki : k < i
    · obtain ⟨ak, bk, k1, k2, k3, k4, k5, k6⟩ := hce k (by omega)
      have hxk := hS.2 L[k] (List.getElem_mem _)
      have hp : pairW L k i = pairF L[k].1 L[k].2 L[i].1 L[i].2 := oldPair (by omega) (by omega)
      have hfs := flt_succ L i k
      have hfl := flt_len L i k
      have cP : ∀ {w'}, Glob w' → ValsAt w' ak (strs L[k].1) → ValsAt w' bk (strs L[k].2) → ValsAt w' an (strs L[i].1) → ValsAt w' bn (strs L[i].2) → Calls Tryd.prog 14 #[.agg #[ak, bk], .agg #[an, bn]] w' fun e w3 => e = .returned (.bool (pairW L k i)) ∧ Below w'.heap.size w' w3 := fun g x1 x2 x3 x4 => by
        rw [hp]; exact clash_Pair ak bk an bn _ _ _ _ _ g x1 x2 x3 x4 hxk.1 hxk.2 hxn.1 hxn.2 k5 k6 n5 n6
      clear hp
      generalize pairW L k i = pk at hfs cP
      cases pk
      · rw [if_neg (by simp)] at hfs
        refine at_seq ?_
        refine at_region ?_
        refine at_do (does_lss rfl rfl) rfl rfl ?_
        refine at_nil ?_
        refine at_then ?_
        refine at_seq ?_
        refine at_cond_t rfl (decide_eq_true (by omega)) ?_
        refine at_skip ?_
        refine at_then ?_
        refine at_seq ?_
        refine at_block ?_
        refine at_seq ?_
        refine at_region ?_
        refine at_do (does_move rfl) rfl rfl ?_
        refine at_do (does_assign rfl) rfl rfl ?_
        refine at_nil ?_
        refine at_then ?_
        refine at_seq ?_
        refine at_draw (by kernel_rfl) (by kernel_rfl) ?_
        refine atq_do (does_move rfl) rfl rfl ?_
        refine atq_do (does_move rfl) rfl rfl ?_
        refine atq_do (does_indexAddrk (k := 2) (j := k) (by kernel_rfl) rfl rfl (by omega)) rfl rfl ?_
        refine atq_do (does_loadagg_mem (vs := [ak, bk]) (by kernel_rfl) rfl (fun w' ho => two_cells (Below.cellOld ho.plain k1) (Below.cellOld ho.plain k2))) rfl rfl ?_
        refine atq_do (does_loadagg (i := 1) (k := 2) (by kernel_rfl) rfl rfl rfl) rfl rfl ?_
        refine atq_callv (f := 14) (enters_fn (by kernel_rfl) rfl) (fun w ho => cP (ho.glob hG id) (ho.oldVals k3) (ho.oldVals k4) (ho.oldVals n3) (ho.oldVals n4)) rfl rfl ?_
        refine atq_nil ?_
        refine at_then ?_
        refine at_cond_false rfl ?_
        refine at_skip ?_
        refine at_inb ?_
        refine at_then ?_
        refine at_region ?_
        refine at_do (does_addi rfl rfl (by (first | omega | (simp only; omega)))) rfl rfl ?_
        refine at_do (does_move rfl) rfl rfl ?_
        refine at_nil ?_
        refine at_then ?_
        rotate_left
        refine at_againw fun w ho => ⟨(vi, k + 1), by show k + 1 ≤ i; omega, by show i - (k + 1) < i - k; omega, ⟨rfl, rfl, rfl, rfl, rfl, rfl, rfl, rfl, rfl, trivial⟩, rfl, ?_⟩
        show Own _ [.row vi 3 1 (flt L i (k + 1)).length (ints (flt L i (k + 1))), .blk gz0 24 #[an, bn], .row (.slice (some ⟨g4, 0, none⟩) L.length L.length) 34 1 L.length (us.set i vi)] w
        rw [hfs]; exact ho
      · rw [if_pos rfl] at hfs
        refine at_seq ?_
        refine at_region ?_
        refine at_do (does_lss rfl rfl) rfl rfl ?_
        refine at_nil ?_
        refine at_then ?_
        refine at_seq ?_
        refine at_cond_t rfl (decide_eq_true (by omega)) ?_
        refine at_skip ?_
        refine at_then ?_
        refine at_seq ?_
        refine at_block ?_
        refine at_seq ?_
        refine at_region ?_
        refine at_do (does_move rfl) rfl rfl ?_
        refine at_do (does_assign rfl) rfl rfl ?_
        refine at_nil ?_
        refine at_then ?_
        refine at_seq ?_
        refine at_draw (by kernel_rfl) (by kernel_rfl) ?_
        refine atq_do (does_move rfl) rfl rfl ?_
        refine atq_do (does_move rfl) rfl rfl ?_
        refine atq_do (does_indexAddrk (k := 2) (j := k) (by kernel_rfl) rfl rfl (by omega)) rfl rfl ?_
        refine atq_do (does_loadagg_mem (vs := [ak, bk]) (by kernel_rfl) rfl (fun w' ho => two_cells (Below.cellOld ho.plain k1) (Below.cellOld ho.plain k2))) rfl rfl ?_
        refine atq_do (does_loadagg (i := 1) (k := 2) (by kernel_rfl) rfl rfl rfl) rfl rfl ?_
        refine atq_callv (f := 14) (enters_fn (by kernel_rfl) rfl) (fun w ho => cP (ho.glob hG id) (ho.oldVals k3) (ho.oldVals k4) (ho.oldVals n3) (ho.oldVals n4)) rfl rfl ?_
        refine atq_nil ?_
        refine at_then ?_
        refine at_cond_true rfl ?_
        refine at_region ?_
        refine at_do (does_move rfl) rfl rfl ?_
        refine at_do (does_move rfl) rfl rfl ?_
        refine at_do (does_move rfl) rfl rfl ?_
        refine at_do (does_move rfl) rfl rfl ?_
        refine at_do (does_indexAddr1 (j := i) (by kernel_rfl) rfl rfl (by omega)) rfl rfl ?_
        refine at_do (does_rowload (i := 2) (j := 0 + i) (by kernel_rfl) rfl rfl (by omega) gi) rfl rfl ?_
        refine at_do (does_move rfl) rfl rfl ?_
        refine at_buildSlice (e := 3) (sz := 1) (vs := [.int .i64 k]) (cs := [.int .i64 k]) (by kernel_rfl) rfl rfl rfl rfl rfl rfl (fun g3 => ?_)
        refine at_append (i := 1) (sz := 1) (by' := 8) (k := 1) (A := ⟨g3, 0, none⟩) (news := [.int .i64 k]) (by kernel_rfl) rfl rfl rfl rfl (fun w ho => lit_cells ho (i := 0) rfl) (oneCell_of rfl) (by simp only [maxLen]; omega) rfl (fun v' hv' => ?_)
        refine at_do (does_indexAddr1 (j := i) (by kernel_rfl) rfl rfl (by omega)) rfl rfl ?_
        refine at_rowstore (i := 3) (j := 0 + i) (by kernel_rfl) rfl rfl hv' rfl (by omega) ?_
        refine at_nil ?_
        refine at_inb ?_
        refine at_then ?_
        refine at_region ?_
        refine at_do (does_addi rfl rfl (by (first | omega | (simp only; omega)))) rfl rfl ?_
        refine at_do (does_move rfl) rfl rfl ?_
        refine at_nil ?_
        refine at_then ?_
        rotate_left
        refine at_againw fun w ho => ⟨(v', k + 1), by show k + 1 ≤ i; omega, by show i - (k + 1) < i - k; omega, ⟨rfl, rfl, rfl, rfl, rfl, rfl, rfl, rfl, rfl, trivial⟩, rfl, ?_⟩
        show Own _ [.row v' 3 1 (flt L i (k + 1)).length (ints (flt L i (k + 1))), .blk gz0 24 #[an, bn], .row (.slice (some ⟨g4, 0, none⟩) L.length L.length) 34 1 L.length (us.set i v')] w
        have e1 : (flt L i k ++ [k]).length = (flt L i k).length + 1 := by simp
        have e2 : ints (flt L i k ++ [k]) = ints (flt L i k) ++ [.int .i64 k] := by simp [ints]
        have e3 : (us.set i vi).set (0 + i) v' = us.set i v' := by rw [Nat.zero_add, List.set_set]
        rw [hfs, e1, e2, ← e3]
        exact ho.sublist (List.sublist_cons_self ..)
    · obtain rfl : k = i := by omega
      refine at_seq ?_
      refine at_region ?_
      refine at_do (does_lss rfl rfl) rfl rfl ?_
      refine at_nil ?_
      refine at_then ?_
      refine at_seq ?_
      refine at_cond_f rfl (decide_eq_false (by omega)) ?_
      refine at_exit ?_
      refine at_then_exit ?_
      refine at_then_exit ?_
      refine at_inb_here ?_
      refine at_inb ?_
      refine at_then ?_
      refine at_region ?_
      refine at_do (does_addi rfl rfl (by omega)) rfl rfl ?_
      refine at_do (does_move rfl) rfl rfl ?_
      refine at_nil ?_
      refine at_then ?_
      rotate_left
      refine at_againw fun w' ho => ⟨(w', us.set k vi, k + 1), ⟨by show k + 1 ≤ L.length; omega, by show (us.set k vi).length = L.length; simpa using hul, fun j hj => ?_, fun j hj hjl => ?_⟩, by show L.length - (k + 1) < L.length - k; omega, ⟨rfl, rfl, rfl, rfl, rfl, trivial⟩, rfl, (ho.sublist (.cons _ (.cons _ (List.Sublist.refl _)))).re⟩
      · have hj : j < k + 1 := hj
        by_cases hjk : j < k
        · obtain ⟨u, q1, q2⟩ := hK j hjk
          exact ⟨u, by show (us.set k vi)[j]? = some u; rw [List.getElem?_set_ne (by omega)]; exact q1, q2.move ho.base (fun g _ h => h)⟩
        · have hje : j = k := by omega
          rw [hje]
          refine ⟨vi, by show (us.set k vi)[k]? = some vi; rw [List.getElem?_set_self (by omega)], vals_of_row (ho.rowAt (i := 0) rfl), fun _ g hg hb => ?_⟩
          have hsp := Own.split (A := []) ho g (by simpa [Res.blocks] using hg)
          exact hsp.2 (by rw [bls_cons]; exact List.mem_append_right _ hb)
      · show (us.set k vi)[j]? = some (.slice none 0 0)
        have hj : k + 1 ≤ j := hj
        rw [List.getElem?_set_ne (by omega)]
        exact hN j (by omega) hjl
  · obtain rfl : i = L.length := by omega
    refine at_seq ?_
    refine at_region ?_
    refine at_do (does_lss rfl rfl) rfl rfl ?_
    refine at_nil ?_
    refine at_then ?_
    refine at_seq ?_
    refine at_cond_f rfl (decide_eq_false (by (simp only; omega))) ?_
    refine at_exit ?_
    refine at_then_exit ?_
    refine at_then_exit ?_
    refine at_inb_here ?_
    refine at_then ?_
    refine at_seq ?_
    refine at_region ?_
    refine at_do (does_move rfl) rfl rfl ?_
    refine at_do (does_assign rfl) rfl rfl ?_
    refine at_do (does_assign rfl) rfl rfl ?_
    refine at_nil ?_
    refine at_then ?_
    refine at_ret ?_
    refine at_ret2 rfl rfl rfl rfl (fun w9 ho9 => ?_)
    rotate_left
    refine ⟨_, rfl, ho9.plain, ⟨g4, L.length, rfl, fun j hj => ?_⟩, fun g hg => ?_⟩
    · obtain ⟨u, q1, q2⟩ := hK j hj
      have hrow := (ho9.rowAt (i := 0) rfl).cellAt j (by omega)
      refine ⟨u, by rw [Nat.zero_add]; exact hrow.trans q1, (q2.move ho9.base (fun k _ h => h)).1⟩
    · have hg' : g = g4 := by simpa [Value.ownBlock] using hg.symm
      subst hg'
      exact (ho9.mine g (by simp [bls, Res.blocks, Value.ownBlock])).1.resolve_right id
end Go.Proofs.YtchfecmabhfooaaDoor
set_option linter.unusedSimpArgs false
set_option linter.unusedVariables false
namespace Go.Proofs.YtchfecmabhfooaaDoor
open Go.RowKit
theorem does_maxi {P : Program} {n : Nat} {E : List (Nat × Value)} {C : Ctx} {H : List Res} {dst : Option Tmp} {ty : TypeId} {pos : String} {after : Array Edge} {g : Option (Nat × Bool)} {x y : Operand} {aT : Array TypeId} {p q : Int} (hx : ev E x = some (.int .i64 p)) (hy : ev E y = some (.int .i64 q)) :
    Does P n E C H ⟨dst, .call ⟨.builtin .max, #[x, y], aT⟩, ty, pos, after, g⟩ (.int .i64 (max p q)) := by
  intro a w hf ho
  have hm : (#[x, y] : Array Operand).map a.eval = #[.int .i64 p, .int .i64 q] := by simp [hf.eval hx, hf.eval hy]
  simp only [execOp, resolve, hm]
  simp [invoke, builtin, Builtin.max_, Builtin.max2, go_sem]
  split <;> omega
/-- One's rank, of those ahead of it. -/
def kIn (i : Nat) (ks : List Nat) (rs : List Nat) : List Nat := ks.foldl (fun rs k => rs.set i (max (rs.getD i 0) (rs.getD k 0 + 1))) rs
def kOut (f : Nat → List Nat) (n : Nat) : Nat → List Nat
  | 0 => List.replicate n 0
  | i + 1 => kIn i (f i) (kOut f n i)
attribute [local irreducible] cwp lwp Exit.then Exit.inBlock Exit.noGoto wpQuiet Calls fin At AtQ Again endQ RQ
theorem kIn_len (i : Nat) : ∀ (ks rs : List Nat), (kIn i ks rs).length = rs.length
  | [], rs => rfl
  | k :: ks, rs => by
    have := kIn_len i ks (rs.set i (max (rs.getD i 0) (rs.getD k 0 + 1)))
    simp only [List.length_set] at this
    exact this
theorem kOut_len (f : Nat → List Nat) (n : Nat) : ∀ i, (kOut f n i).length = n
  | 0 => by simp [kOut]
  | i + 1 => by unfold kOut; rw [kIn_len, kOut_len f n i]
theorem kIn_low (i : Nat) : ∀ (ks rs : List Nat), (∀ k ∈ ks, k < i) → Low rs → Low (kIn i ks rs)
  | [], rs, _, h => h
  | k :: ks, rs, hk, h => by
    refine kIn_low i ks (rs.set i (max (rs.getD i 0) (rs.getD k 0 + 1))) (fun x hx => hk x (List.mem_cons_of_mem _ hx)) fun j => ?_
    have h1 := h k
    have h2 := h i
    have h3 := hk k (List.mem_cons_self ..)
    rw [List.getD_eq_getElem?_getD, List.getElem?_set]
    split
    · split
      · simp only [Option.getD_some]; omega
      · simp
    · have := h j
      rwa [List.getD_eq_getElem?_getD] at this
theorem kOut_low (f : Nat → List Nat) (n : Nat) (hf : ∀ i, ∀ k ∈ f i, k < i) : ∀ i, Low (kOut f n i)
  | 0 => fun j => by simp [kOut, List.getD_eq_getElem?_getD, List.getElem?_replicate]; split <;> simp
  | i + 1 => kIn_low i _ _ (hf i) (kOut_low f n hf i)
theorem kIn_take (i : Nat) (ks rs : List Nat) (j : Nat) (h : j < ks.length) : kIn i (ks.take (j + 1)) rs = (kIn i (ks.take j) rs).set i (max ((kIn i (ks.take j) rs).getD i 0) ((kIn i (ks.take j) rs).getD ks[j] 0 + 1)) := by
  unfold kIn
  rw [List.take_succ_eq_append_getElem h, List.foldl_append]; rfl
theorem flt_mem {L : List Want2} {i k j : Nat} (h : j ∈ flt L i k) : j < k := by
  have := (List.mem_filter.1 h).1
  simpa using this
theorem ranks_no (arg : Value) (L : List Want2) (w : World) (hG : Glob w) (hV : WantsAt w arg L) (hS : ShortW L) (h : rightL L = false) :
    Calls Tryd.prog 19 #[arg] w fun e w' => e = .returned (.tuple #[.slice none 0 0, .int .i64 1]) ∧ Below w.heap.size w w' := by
  refine calls_plain Tryd.func19 rfl Tryd.ntmps19 rfl ?_
  refine at_seq ?_
  refine at_region ?_
  refine at_do (does_assign rfl) rfl rfl ?_
  refine at_do (does_assign rfl) rfl rfl ?_
  refine at_nil ?_
  refine at_then ?_
  refine at_seq ?_
  refine at_region ?_
  refine at_do (does_move rfl) rfl rfl ?_
  refine at_callv (f := 18) (enters_fn (by kernel_rfl) rfl) (fun w ho => ahead_no arg L w (ho.glob hG id) (ho.oldWants hV) hS h) rfl rfl ?_
  refine at_do (does_move rfl) rfl rfl ?_
  refine at_do (does_extract rfl rfl) rfl rfl ?_
  refine at_do (does_extract rfl rfl) rfl rfl ?_
  refine at_do (does_assign rfl) rfl rfl ?_
  refine at_do (does_assign rfl) rfl rfl ?_
  refine at_nil ?_
  refine at_then ?_
  refine at_seq ?_
  refine at_seq ?_
  refine at_region ?_
  refine at_do (does_move rfl) rfl rfl ?_
  refine at_do (does_neq rfl rfl) rfl rfl ?_
  refine at_nil ?_
  refine at_then ?_
  refine at_cond_t rfl (decide_eq_true (by decide)) ?_
  refine at_seq ?_
  refine at_region ?_
  refine at_do (does_move rfl) rfl rfl ?_
  refine at_do (does_assign rfl) rfl rfl ?_
  refine at_do (does_assign rfl) rfl rfl ?_
  refine at_nil ?_
  refine at_then ?_
  refine at_ret ?_
  refine at_then_ret ?_
  refine at_ret2 rfl rfl rfl rfl (fun w9 ho9 => ?_)
  rotate_left
  exact ⟨rfl, ho9.plain⟩
set_option maxHeartbeats 4000000 in
theorem ranks_yes (arg : Value) (L : List Want2) (w : World) (hG : Glob w) (hV : WantsAt w arg L) (hS : ShortW L) (h : rightL L = true) :
    Calls Tryd.prog 19 #[arg] w fun e w' => ∃ v, e = .returned (.tuple #[v, .int .i64 0]) ∧ Below w.heap.size w w' ∧ w'.ownsRow w.heap.size 3 1 v L.length (ints (kOut (aheadL L) L.length L.length)) := by
  have hS1 := hS.1
  have cA : ∀ w1, Below w.heap.size w w1 → Glob w1 → Calls Tryd.prog 18 #[arg] w1 fun e w' => ∃ v, e = .returned v ∧ Below w1.heap.size w1 w' ∧ ∃ u, v = .tuple #[u, .int .i64 0] ∧ RowsAt w' u L.length (aheadL L) := fun w1 hb hg => (ahead_yes arg L w1 hg (hV.keep hb) hS h).mono fun e w' ⟨v, q1, q2, q3, q4⟩ => ⟨_, q1, q2, v, rfl, q3⟩
  obtain ⟨A0, c0, rfl, hc, hcell⟩ := hV
  refine calls_plain Tryd.func19 rfl Tryd.ntmps19 rfl ?_
  refine at_seq ?_
  refine at_region ?_
  refine at_do (does_assign rfl) rfl rfl ?_
  refine at_do (does_assign rfl) rfl rfl ?_
  refine at_nil ?_
  refine at_then ?_
  refine at_seq ?_
  refine at_region ?_
  refine at_do (does_move rfl) rfl rfl ?_
  refine at_callk (f := 18) (Φ := fun v w' => ∃ u, v = .tuple #[u, .int .i64 0] ∧ RowsAt w' u L.length (aheadL L)) (enters_fn (by kernel_rfl) rfl) (fun w ho => cA w ho.plain (ho.glob hG id)) rfl rfl (fun v w1 hw1 hv => ?_)
  refine at_do (does_move rfl) rfl rfl ?_
  rotate_left
  obtain ⟨u, rfl, ga, ca, rfl, hrows⟩ := hv
  have hlow := kOut_low (aheadL L) L.length (fun i k hk => flt_mem hk)
  refine at_do (does_extract rfl rfl) rfl rfl ?_
  refine at_do (does_extract rfl rfl) rfl rfl ?_
  refine at_do (does_assign rfl) rfl rfl ?_
  refine at_do (does_assign rfl) rfl rfl ?_
  refine at_nil ?_
  refine at_then ?_
  refine at_seq ?_
  refine at_seq ?_
  refine at_region ?_
  refine at_do (does_move rfl) rfl rfl ?_
  refine at_do (does_neq rfl rfl) rfl rfl ?_
  refine at_nil ?_
  refine at_then ?_
  refine at_cond_f rfl (decide_eq_false (by decide)) ?_
  refine at_skip ?_
  refine at_then ?_
  refine at_seq ?_
  refine at_region ?_
  refine at_do (does_move rfl) rfl rfl ?_
  refine at_do (does_len (by kernel_rfl) rfl) rfl rfl ?_
  refine at_make (e := 3) (sz := 1) (by' := 8) (m := L.length) (ints (List.replicate L.length 0)) (by kernel_rfl) ?_ rfl rfl (by simp only [maxLen]; omega) rfl (fun g6 => ?_)
  rotate_left
  refine at_do (does_assign rfl) rfl rfl ?_
  refine at_nil ?_
  refine at_then ?_
  refine at_seq ?_
  refine at_seq ?_
  refine at_region ?_
  refine at_do (does_move rfl) rfl rfl ?_
  refine at_do (does_len (by kernel_rfl) rfl) rfl rfl ?_
  refine at_do (does_move rfl) rfl rfl ?_
  refine at_nil ?_
  refine at_then ?_
  refine at_block ?_
  rotate_left
  · intro t z q1 q2
    have hz : (Tryd.prog.info? 3).bind (·.zero) = some (.int .i64 0) := by kernel_rfl
    rw [q1] at hz
    simp only [Option.bind_some] at hz
    rw [q2] at hz
    cases hz
    exact made_ints L.length
  have hsince : ∀ {H : List Res} {w' : World}, Own (Ctx.re ⟨w, fun _ => False, fun _ => False, w, fun _ => False, []⟩ w1 []) H w' → Below w1.heap.size w1 w' := fun ho => ho.since (by simp [Ctx.re, bls])
  refine at_loopH (σ := Nat) (fun i => i ≤ L.length) (fun i => [(4, .slice (some ⟨ga, 0, none⟩) L.length ca), (6, .slice (some ⟨g6, 0, none⟩) L.length L.length), (22, .int .i64 L.length), (23, .int .i64 i)]) (fun i => [.row (.slice (some ⟨g6, 0, none⟩) L.length L.length) 3 1 L.length (ints (kOut (aheadL L) L.length i))]) (fun i => L.length - i)
    (fun w ho => ⟨0, Nat.zero_le _, ⟨rfl, rfl, rfl, rfl, trivial⟩, ho⟩) ?_
  rintro i hi
  by_cases hil : i < L.length
  · obtain ⟨u, hu, huv⟩ := hrows i hil
    have hks : ∀ k ∈ aheadL L i, k < i := fun k hk => flt_mem hk
    have hkl := flt_len L i i
    have hkO : kOut (aheadL L) L.length (i + 1) = kIn i (aheadL L i) (kOut (aheadL L) L.length i) := rfl
    have hlw0 := hlow i
    have hln0 := kOut_len (aheadL L) L.length i
    have hkl2 : (aheadL L i).length ≤ i := hkl
    generalize kOut (aheadL L) L.length i = r0 at hkO hlw0 hln0 ⊢
    generalize aheadL L i = ks at huv hks hkO hkl2
    have hil2 : (ints ks).length = ks.length := by simp [ints]
    obtain ⟨Au, cu, rfl⟩ := huv.len
    refine at_seq ?_
    refine at_region ?_
    refine at_do (does_lss rfl rfl) rfl rfl ?_
    refine at_nil ?_
    refine at_then ?_
    refine at_seq ?_
    refine at_cond_t rfl (decide_eq_true (by omega)) ?_
    refine at_skip ?_
    refine at_then ?_
    refine at_seq ?_
    refine at_block ?_
    refine at_seq ?_
    refine at_region ?_
    refine at_do (does_move rfl) rfl rfl ?_
    refine at_do (does_assign rfl) rfl rfl ?_
    refine at_nil ?_
    refine at_then ?_
    refine at_seq ?_
    refine at_region ?_
    refine at_do (does_move rfl) rfl rfl ?_
    refine at_do (does_move rfl) rfl rfl ?_
    refine at_do (does_indexAddr1 (j := i) (by kernel_rfl) rfl rfl (by omega)) rfl rfl ?_
    refine at_do (does_load_mem (by kernel_rfl) rfl (fun w' ho => Below.cellOld (hsince ho) hu)) rfl rfl ?_
    refine at_do (does_len (by kernel_rfl) rfl) rfl rfl ?_
    refine at_do (does_move rfl) rfl rfl ?_
    refine at_nil ?_
    refine at_then ?_
    refine at_block ?_
    rotate_left
    refine at_loopH (σ := Nat) (fun j => j ≤ ks.length) (fun j => [(4, .slice (some ⟨ga, 0, none⟩) L.length ca), (6, .slice (some ⟨g6, 0, none⟩) L.length L.length), (7, .int .i64 i), (22, .int .i64 L.length), (23, .int .i64 i), (29, .slice Au (ints ks).length cu), (30, .int .i64 (ints ks).length), (31, .int .i64 j)]) (fun j => [.row (.slice (some ⟨g6, 0, none⟩) L.length L.length) 3 1 L.length (ints (kIn i (ks.take j) r0))]) (fun j => ks.length - j)
      (fun w ho => ⟨0, Nat.zero_le _, ⟨rfl, rfl, rfl, rfl, rfl, rfl, rfl, rfl, trivial⟩, ho⟩) ?_
    rintro j hj
    by_cases hjl : j < ks.length
    · obtain ⟨gb, o, c, hv, hcc, hlt, hce⟩ := huv.form (by omega)
      simp only [Value.slice.injEq, true_and] at hv
      obtain ⟨rfl, rfl⟩ := hv
      have hcj : w1.cell? ⟨gb, o + j, none⟩ = some (.int .i64 ((ks[j] : Nat) : Int)) := hce j _ (by simp [ints, hjl])
      have hkj := hks ks[j] (List.getElem_mem _)
      have hstep := kIn_take i ks r0 j hjl
      have hlw := kIn_low i (ks.take j) r0 (fun k hk => hks k (List.mem_of_mem_take hk)) hlw0
      have hln : (kIn i (ks.take j) r0).length = L.length := by rw [kIn_len, hln0]
      generalize kIn i (ks.take j) r0 = rs at hstep hlw hln ⊢
      generalize ks[j] = k at hcj hkj hstep
      have gi : (ints rs)[0 + i]? = some (.int .i64 ((rs.getD i 0 : Nat) : Int)) := by rw [Nat.zero_add]; exact ints_get (by omega)
      have gk : (ints rs)[0 + k]? = some (.int .i64 ((rs.getD k 0 : Nat) : Int)) := by rw [Nat.zero_add]; exact ints_get (by omega)
      have lk := hlw k
      generalize hri : rs.getD i 0 = ri at hstep gi
      generalize hrk : rs.getD k 0 = rk at hstep gk lk
      refine at_seq ?_
      refine at_region ?_
      refine at_do (does_lss rfl rfl) rfl rfl ?_
      refine at_nil ?_
      refine at_then ?_
      refine at_seq ?_
      refine at_cond_t rfl (decide_eq_true (by omega)) ?_
      refine at_skip ?_
      refine at_then ?_
      refine at_seq ?_
      refine at_block ?_
      refine at_seq ?_
      refine at_region ?_
      refine at_do (does_indexAddr1 (j := j) (by kernel_rfl) rfl rfl (by omega)) rfl rfl ?_
      refine at_do (does_load_mem (by kernel_rfl) rfl (fun w' ho => Below.cellOld (hsince ho) hcj)) rfl rfl ?_
      refine at_do (does_assign rfl) rfl rfl ?_
      refine at_nil ?_
      refine at_then ?_
      rotate_left
      apply at_drawR0 13 [.val _, .val _, .val _, .val _, .val _, .val _, .val _, .val _, .val _, .val _, .val _, .val _, .val _] (by kernel_rfl) (by kernel_rfl) rfl ⟨trivial, trivial, trivial, trivial, trivial, trivial, trivial, trivial, trivial, trivial, trivial, trivial, trivial, trivial⟩
      · refine so_cons rfl (fun vs => ?_) ?_
        exact step1_does (does_move rfl)
        refine so_cons rfl (fun vs => ?_) ?_
        exact step1_does (does_move rfl)
        refine so_cons rfl (fun vs => ?_) ?_
        exact step1_does (does_move rfl)
        refine so_cons rfl (fun vs => ?_) ?_
        exact step1_does (does_move rfl)
        refine so_cons rfl (fun vs => ?_) ?_
        exact step1_does (does_indexAddr1 (j := i) (by kernel_rfl) rfl rfl (by omega))
        refine so_cons rfl (fun vs => ?_) ?_
        exact step1_does (does_rowload (i := 0) (j := 0 + i) (by kernel_rfl) rfl rfl (by omega) gi)
        refine so_cons rfl (fun vs => ?_) ?_
        exact step1_does (does_move rfl)
        refine so_cons rfl (fun vs => ?_) ?_
        exact step1_does (does_move rfl)
        refine so_cons rfl (fun vs => ?_) ?_
        exact step1_does (does_indexAddr1 (j := k) (by kernel_rfl) rfl rfl (by omega))
        refine so_cons rfl (fun vs => ?_) ?_
        exact step1_does (does_rowload (i := 0) (j := 0 + k) (by kernel_rfl) rfl rfl (by omega) gk)
        refine so_cons rfl (fun vs => ?_) ?_
        exact step1_does (does_addi rfl rfl (by omega))
        refine so_cons rfl (fun vs => ?_) ?_
        exact step1_does (does_maxi rfl rfl)
        refine so_cons rfl (fun vs => ?_) ?_
        exact step1_does (does_indexAddr1 (j := i) (by kernel_rfl) rfl rfl (by omega))
        exact so_nil
      · intro vs
        refine at_weak (E' := [(4, .slice (some ⟨ga, 0, none⟩) L.length ca), (6, .slice (some ⟨g6, 0, none⟩) L.length L.length), (7, .int .i64 i), (22, .int .i64 L.length), (23, .int .i64 i), (29, .slice (some ⟨gb, o, none⟩) (ints ks).length cu), (30, .int .i64 (ints ks).length), (31, .int .i64 j), (46, .int .i64 (max (ri : Int) ((rk : Int) + 1))), (47, .pointer (some ⟨g6, 0 + i, none⟩))]) ⟨rfl, rfl, rfl, rfl, rfl, rfl, rfl, rfl, rfl, rfl, trivial⟩ ?_
        show At _ _ _ _ (lwp _ _ _ _ (_ :: _))
        refine at_rowstore (i := 0) (j := 0 + i) (by kernel_rfl) rfl rfl rfl rfl (by omega) ?_
        refine at_nil ?_
        refine at_inb ?_
        refine at_then ?_
        refine at_region ?_
        refine at_do (does_addi rfl rfl (by omega)) rfl rfl ?_
        refine at_do (does_move rfl) rfl rfl ?_
        refine at_nil ?_
        refine at_then ?_
        rotate_left
        refine at_againw fun w ho => ⟨j + 1, by omega, by omega, ⟨rfl, rfl, rfl, rfl, rfl, rfl, rfl, rfl, trivial⟩, rfl, ?_⟩
        have e : (ints rs).set (0 + i) (.int .i64 (max (ri : Int) ((rk : Int) + 1))) = ints (rs.set i (max ri (rk + 1))) := by
          rw [Nat.zero_add, ← ints_set]
          congr 2
          omega
        rw [hstep, ← e]
        exact ho
    · obtain rfl : j = ks.length := by omega
      refine at_seq ?_
      refine at_region ?_
      refine at_do (does_lss rfl rfl) rfl rfl ?_
      refine at_nil ?_
      refine at_then ?_
      refine at_seq ?_
      refine at_cond_f rfl (decide_eq_false (by omega)) ?_
      refine at_exit ?_
      refine at_then_exit ?_
      refine at_then_exit ?_
      refine at_inb_here ?_
      refine at_inb ?_
      refine at_then ?_
      refine at_region ?_
      refine at_do (does_addi rfl rfl (by omega)) rfl rfl ?_
      refine at_do (does_move rfl) rfl rfl ?_
      refine at_nil ?_
      refine at_then ?_
      rotate_left
      refine at_againw fun w ho => ⟨i + 1, by omega, by omega, ⟨rfl, rfl, rfl, rfl, trivial⟩, rfl, ?_⟩
      rw [hkO]
      rw [List.take_length] at ho
      exact ho
  · obtain rfl : i = L.length := by omega
    refine at_seq ?_
    refine at_region ?_
    refine at_do (does_lss rfl rfl) rfl rfl ?_
    refine at_nil ?_
    refine at_then ?_
    refine at_seq ?_
    refine at_cond_f rfl (decide_eq_false (by omega)) ?_
    refine at_exit ?_
    refine at_then_exit ?_
    refine at_then_exit ?_
    refine at_inb_here ?_
    refine at_then ?_
    refine at_seq ?_
    refine at_region ?_
    refine at_do (does_move rfl) rfl rfl ?_
    refine at_do (does_assign rfl) rfl rfl ?_
    refine at_do (does_assign rfl) rfl rfl ?_
    refine at_nil ?_
    refine at_then ?_
    refine at_ret ?_
    refine at_ret2 rfl rfl rfl rfl (fun w9 ho9 => ?_)
    rotate_left
    exact ⟨_, rfl, ho9.plain, ho9.rowOut (List.mem_cons_self ..)⟩
end Go.Proofs.YtchfecmabhfooaaDoor
set_option linter.unusedSimpArgs false
set_option linter.unusedVariables false
namespace Go.Proofs.YtchfecmabhfooaaDoor
open Go.RowKit
attribute [local irreducible] cwp lwp Exit.then Exit.inBlock Exit.noGoto wpQuiet Calls fin At AtQ Again endQ RQ

def intsZ (zs : List Int) : List Value := zs.map fun z => .int .i64 z
theorem intsZ_get {zs : List Int} {j : Nat} (h : j < zs.length) : (intsZ zs)[j]? = some (.int .i64 (zs.getD j 0)) := by
  simp [intsZ, h]
theorem intsZ_set (zs : List Int) (j : Nat) (v : Int) : (intsZ zs).set j (.int .i64 v) = intsZ (zs.set j v) := by simp [intsZ, List.map_set]
theorem intsZ_len (zs : List Int) : (intsZ zs).length = zs.length := by simp [intsZ]
/-- What the look is given: the places, and one. -/
structure Look (w : World) (h1 h2 : Nat) (gp n c : Nat) (zs : List Int) (i : Nat) : Prop where
  p : w.cell? ⟨h1, 0, none⟩ = some (.slice (some ⟨gp, 0, none⟩) n c)
  i : w.cell? ⟨h2, 0, none⟩ = some (.int .i64 (i : Int))
  z : ∀ j, j < n → w.cell? ⟨gp, 0 + j, none⟩ = some (.int .i64 (zs.getD j 0))
theorem Look.keep {w w' : World} {h1 h2 gp n c i : Nat} {zs : List Int} (h : Look w h1 h2 gp n c zs i) (hb : Below w.heap.size w w') : Look w' h1 h2 gp n c zs i :=
  ⟨Below.cellOld hb h.p, Below.cellOld hb h.i, fun j hj => Below.cellOld hb (h.z j hj)⟩
abbrev lookFn (h1 h2 : Nat) : Value := .func (.func 68) #[] #[.pointer (some ⟨h1, 0, none⟩), .pointer (some ⟨h2, 0, none⟩)]
theorem swap_look (h1 h2 gp n c i k : Nat) (zs : List Int) (w : World) (hL : Look w h1 h2 gp n c zs i) (hi : i < n) (hk : k < n) :
    Calls Tryd.prog 68 #[.int .i64 (k : Int), .pointer (some ⟨h1, 0, none⟩), .pointer (some ⟨h2, 0, none⟩)] w fun e w' => e = .returned (.bool (decide (zs.getD i 0 < zs.getD k 0))) ∧ Below w.heap.size w w' := by
  refine calls_plain Tryd.func68 rfl Tryd.ntmps68 rfl ?_
  refine at_seq ?_
  refine at_region ?_
  refine at_do (does_assign rfl) rfl rfl ?_
  refine at_nil ?_
  refine at_then ?_
  refine at_seq ?_
  refine at_draw (by kernel_rfl) (by kernel_rfl) ?_
  refine atq_do (does_load_mem (by kernel_rfl) rfl (fun w' ho => Below.cellOld ho.plain hL.p)) rfl rfl ?_
  refine atq_do (does_move rfl) rfl rfl ?_
  refine atq_do (does_indexAddr1 (j := k) (by kernel_rfl) rfl rfl hk) rfl rfl ?_
  refine atq_do (does_load_mem (by kernel_rfl) rfl (fun w' ho => Below.cellOld ho.plain (hL.z k hk))) rfl rfl ?_
  refine atq_do (does_load_mem (by kernel_rfl) rfl (fun w' ho => Below.cellOld ho.plain hL.p)) rfl rfl ?_
  refine atq_do (does_load_mem (by kernel_rfl) rfl (fun w' ho => Below.cellOld ho.plain hL.i)) rfl rfl ?_
  refine atq_do (does_indexAddr1 (j := i) (by kernel_rfl) rfl rfl hi) rfl rfl ?_
  refine atq_do (does_load_mem (by kernel_rfl) rfl (fun w' ho => Below.cellOld ho.plain (hL.z i hi))) rfl rfl ?_
  refine atq_do (does_gtr rfl rfl) rfl rfl ?_
  refine atq_do (does_assign rfl) rfl rfl ?_
  refine atq_nil ?_
  refine at_then ?_
  refine at_ret ?_
  refine at_ret1 rfl rfl rfl (fun w9 ho9 => ?_)
  rotate_left
  exact ⟨rfl, ho9.plain⟩
def later (zs : List Int) (i k : Nat) : Bool := decide (zs.getD i 0 < zs.getD k 0)
theorem idx_none (h1 h2 gp n c i : Nat) (zs : List Int) (arg : Value) (ks : List Nat) (w : World) (hL : Look w h1 h2 gp n c zs i) (hi : i < n) (hV : ValsAt w arg (ints ks)) (hks : ∀ k ∈ ks, k < n) (hl : ks.length ≤ 100000) (h : ks.any (later zs i) = false) :
    Calls Tryd.prog 92 #[arg, lookFn h1 h2] w fun e w' => e = .returned (.int .i64 (-1)) ∧ Below w.heap.size w w' := by
  have hil : (ints ks).length = ks.length := by simp [ints]
  have hall : ∀ j (hj : j < ks.length), later zs i ks[j] = false := fun j hj => by
    have := List.any_eq_false.1 h ks[j] (List.getElem_mem hj)
    simpa using this
  obtain ⟨A0, c0, rfl⟩ := hV.len
  refine calls_plain Tryd.func92 rfl Tryd.ntmps92 rfl ?_
  refine at_seq ?_
  refine at_region ?_
  refine at_do (does_assign rfl) rfl rfl ?_
  refine at_nil ?_
  refine at_then ?_
  refine at_seq ?_
  refine at_seq ?_
  refine at_region ?_
  refine at_do (does_move rfl) rfl rfl ?_
  refine at_do (does_len (by kernel_rfl) rfl) rfl rfl ?_
  refine at_do (does_move rfl) rfl rfl ?_
  refine at_nil ?_
  refine at_then ?_
  refine at_block ?_
  rotate_left
  refine at_loop0 (fun j : Nat => j ≤ ks.length) (fun j => [(0, .slice A0 (ints ks).length c0), (1, lookFn h1 h2), (7, .int .i64 (ints ks).length), (8, .int .i64 j)]) (fun j => ks.length - j) 0 (Nat.zero_le _) ⟨rfl, rfl, rfl, rfl, trivial⟩ ?_
  rintro j hj
  by_cases hjl : j < ks.length
  · obtain ⟨gb, o, c1, hv, hc, hlt, hcell⟩ := hV.form (by omega)
    simp only [Value.slice.injEq, true_and] at hv
    obtain ⟨rfl, rfl⟩ := hv
    have hcj : w.cell? ⟨gb, o + j, none⟩ = some (.int .i64 ((ks[j] : Nat) : Int)) := hcell j _ (by simp [ints, hjl])
    have hk := hks ks[j] (List.getElem_mem hjl)
    have hf := hall j hjl
    generalize ks[j] = k at hcj hk hf
    have hf' : ¬ zs.getD i 0 < zs.getD k 0 := of_decide_eq_false hf
    refine at_seq ?_
    refine at_region ?_
    refine at_do (does_lss rfl rfl) rfl rfl ?_
    refine at_nil ?_
    refine at_then ?_
    refine at_seq ?_
    refine at_cond_t rfl (decide_eq_true (by omega)) ?_
    refine at_skip ?_
    refine at_then ?_
    refine at_seq ?_
    refine at_block ?_
    refine at_seq ?_
    refine at_region ?_
    refine at_do (does_move rfl) rfl rfl ?_
    refine at_do (does_assign rfl) rfl rfl ?_
    refine at_nil ?_
    refine at_then ?_
    refine at_seq ?_
    refine at_region ?_
    refine at_do (does_move rfl) rfl rfl ?_
    refine at_do (does_move rfl) rfl rfl ?_
    refine at_do (does_move rfl) rfl rfl ?_
    refine at_do (does_indexAddr1 (by kernel_rfl) rfl rfl (by omega)) rfl rfl ?_
    refine at_do (does_load_mem (by kernel_rfl) rfl (fun w' ho => Below.cellOld ho.plain hcj)) rfl rfl ?_
    refine at_callv (f := 68) (enters_val rfl (by kernel_rfl) rfl) (fun w ho => swap_look h1 h2 gp n c i k zs w (hL.keep ho.plain) hi hk) rfl rfl ?_
    refine at_nil ?_
    refine at_then ?_
    refine at_cond_f rfl (decide_eq_false (by exact hf')) ?_
    refine at_skip ?_
    refine at_inb ?_
    refine at_then ?_
    refine at_region ?_
    refine at_do (does_addi rfl rfl (by omega)) rfl rfl ?_
    refine at_do (does_move rfl) rfl rfl ?_
    refine at_nil ?_
    refine at_then ?_
    rotate_left
    refine at_again0 (j + 1) (by omega) (by omega) ⟨rfl, rfl, rfl, rfl, trivial⟩
  · obtain rfl : j = ks.length := by omega
    refine at_seq ?_
    refine at_region ?_
    refine at_do (does_lss rfl rfl) rfl rfl ?_
    refine at_nil ?_
    refine at_then ?_
    refine at_seq ?_
    refine at_cond_f rfl (decide_eq_false (by omega)) ?_
    refine at_exit ?_
    refine at_then_exit ?_
    refine at_then_exit ?_
    refine at_inb_here ?_
    refine at_then ?_
    refine at_seq ?_
    refine at_region ?_
    refine at_do (does_assign rfl) rfl rfl ?_
    refine at_nil ?_
    refine at_then ?_
    refine at_ret ?_
    refine at_ret1 rfl rfl rfl (fun w9 ho9 => ?_)
    rotate_left
    exact ⟨rfl, ho9.plain⟩
theorem idx_some (h1 h2 gp n c i : Nat) (zs : List Int) (arg : Value) (ks : List Nat) (w : World) (hL : Look w h1 h2 gp n c zs i) (hi : i < n) (hV : ValsAt w arg (ints ks)) (hks : ∀ k ∈ ks, k < n) (hl : ks.length ≤ 100000) (h : ks.any (later zs i) = true) :
    Calls Tryd.prog 92 #[arg, lookFn h1 h2] w fun e w' => ∃ v, e = .returned v ∧ Below w.heap.size w w' ∧ ∃ m : Nat, v = .int .i64 (m : Int) := by
  have hil : (ints ks).length = ks.length := by simp [ints]
  obtain ⟨A0, c0, rfl⟩ := hV.len
  refine calls_plain Tryd.func92 rfl Tryd.ntmps92 rfl ?_
  refine at_seq ?_
  refine at_region ?_
  refine at_do (does_assign rfl) rfl rfl ?_
  refine at_nil ?_
  refine at_then ?_
  refine at_seq ?_
  refine at_seq ?_
  refine at_region ?_
  refine at_do (does_move rfl) rfl rfl ?_
  refine at_do (does_len (by kernel_rfl) rfl) rfl rfl ?_
  refine at_do (does_move rfl) rfl rfl ?_
  refine at_nil ?_
  refine at_then ?_
  refine at_block ?_
  rotate_left
  refine at_loop0 (fun j : Nat => j ≤ ks.length ∧ (ks.take j).any (later zs i) = false) (fun j => [(0, .slice A0 (ints ks).length c0), (1, lookFn h1 h2), (7, .int .i64 (ints ks).length), (8, .int .i64 j)]) (fun j => ks.length - j) 0 ⟨Nat.zero_le _, rfl⟩ ⟨rfl, rfl, rfl, rfl, trivial⟩ ?_
  rintro j ⟨hj, hI⟩
  by_cases hjl : j < ks.length
  · obtain ⟨gb, o, c1, hv, hc, hlt, hcell⟩ := hV.form (by omega)
    simp only [Value.slice.injEq, true_and] at hv
    obtain ⟨rfl, rfl⟩ := hv
    have hcj : w.cell? ⟨gb, o + j, none⟩ = some (.int .i64 ((ks[j] : Nat) : Int)) := hcell j _ (by simp [ints, hjl])
    have hk := hks ks[j] (List.getElem_mem hjl)
    have hI2 := any_take (p := later zs i) hjl
    generalize ks[j] = k at hcj hk hI2
    cases hf : later zs i k
    · have hf' : ¬ zs.getD i 0 < zs.getD k 0 := of_decide_eq_false hf
      refine at_seq ?_
      refine at_region ?_
      refine at_do (does_lss rfl rfl) rfl rfl ?_
      refine at_nil ?_
      refine at_then ?_
      refine at_seq ?_
      refine at_cond_t rfl (decide_eq_true (by omega)) ?_
      refine at_skip ?_
      refine at_then ?_
      refine at_seq ?_
      refine at_block ?_
      refine at_seq ?_
      refine at_region ?_
      refine at_do (does_move rfl) rfl rfl ?_
      refine at_do (does_assign rfl) rfl rfl ?_
      refine at_nil ?_
      refine at_then ?_
      refine at_seq ?_
      refine at_region ?_
      refine at_do (does_move rfl) rfl rfl ?_
      refine at_do (does_move rfl) rfl rfl ?_
      refine at_do (does_move rfl) rfl rfl ?_
      refine at_do (does_indexAddr1 (by kernel_rfl) rfl rfl (by omega)) rfl rfl ?_
      refine at_do (does_load_mem (by kernel_rfl) rfl (fun w' ho => Below.cellOld ho.plain hcj)) rfl rfl ?_
      refine at_callv (f := 68) (enters_val rfl (by kernel_rfl) rfl) (fun w ho => swap_look h1 h2 gp n c i k zs w (hL.keep ho.plain) hi hk) rfl rfl ?_
      refine at_nil ?_
      refine at_then ?_
      refine at_cond_f rfl (decide_eq_false (by exact hf')) ?_
      refine at_skip ?_
      refine at_inb ?_
      refine at_then ?_
      refine at_region ?_
      refine at_do (does_addi rfl rfl (by omega)) rfl rfl ?_
      refine at_do (does_move rfl) rfl rfl ?_
      refine at_nil ?_
      refine at_then ?_
      rotate_left
      refine at_again0 (j + 1) ⟨by omega, by rw [hI2, hI, hf]; rfl⟩ (by omega) ⟨rfl, rfl, rfl, rfl, trivial⟩
    · have hf' : zs.getD i 0 < zs.getD k 0 := of_decide_eq_true hf
      refine at_seq ?_
      refine at_region ?_
      refine at_do (does_lss rfl rfl) rfl rfl ?_
      refine at_nil ?_
      refine at_then ?_
      refine at_seq ?_
      refine at_cond_t rfl (decide_eq_true (by omega)) ?_
      refine at_skip ?_
      refine at_then ?_
      refine at_seq ?_
      refine at_block ?_
      refine at_seq ?_
      refine at_region ?_
      refine at_do (does_move rfl) rfl rfl ?_
      refine at_do (does_assign rfl) rfl rfl ?_
      refine at_nil ?_
      refine at_then ?_
      refine at_seq ?_
      refine at_region ?_
      refine at_do (does_move rfl) rfl rfl ?_
      refine at_do (does_move rfl) rfl rfl ?_
      refine at_do (does_move rfl) rfl rfl ?_
      refine at_do (does_indexAddr1 (by kernel_rfl) rfl rfl (by omega)) rfl rfl ?_
      refine at_do (does_load_mem (by kernel_rfl) rfl (fun w' ho => Below.cellOld ho.plain hcj)) rfl rfl ?_
      refine at_callv (f := 68) (enters_val rfl (by kernel_rfl) rfl) (fun w ho => swap_look h1 h2 gp n c i k zs w (hL.keep ho.plain) hi hk) rfl rfl ?_
      refine at_nil ?_
      refine at_then ?_
      refine at_cond_t rfl (decide_eq_true (by exact hf')) ?_
      refine at_seq ?_
      refine at_region ?_
      refine at_do (does_move rfl) rfl rfl ?_
      refine at_do (does_assign rfl) rfl rfl ?_
      refine at_nil ?_
      refine at_then ?_
      refine at_ret ?_
      refine at_inb_ret ?_
      refine at_then_ret ?_
      refine at_then_ret ?_
      refine at_inb_ret ?_
      refine at_then_ret ?_
      refine at_ret1 rfl rfl rfl (fun w9 ho9 => ?_)
      rotate_left
      exact ⟨_, rfl, ho9.plain, j, rfl⟩
  · obtain rfl : j = ks.length := by omega
    rw [List.take_length] at hI
    exact absurd (hI.symm.trans h) (by simp)
theorem contains_later (h1 h2 gp n c i : Nat) (zs : List Int) (arg : Value) (ks : List Nat) (w : World) (hL : Look w h1 h2 gp n c zs i) (hi : i < n) (hV : ValsAt w arg (ints ks)) (hks : ∀ k ∈ ks, k < n) (hl : ks.length ≤ 100000) :
    Calls Tryd.prog 67 #[arg, lookFn h1 h2] w fun e w' => e = .returned (.bool (ks.any (later zs i))) ∧ Below w.heap.size w w' := by
  refine calls_plain Tryd.func67 rfl Tryd.ntmps67 rfl ?_
  cases h : ks.any (later zs i)
  · refine at_seq ?_
    refine at_region ?_
    refine at_do (does_assign rfl) rfl rfl ?_
    refine at_nil ?_
    refine at_then ?_
    refine at_seq ?_
    refine at_region ?_
    refine at_do (does_move rfl) rfl rfl ?_
    refine at_do (does_move rfl) rfl rfl ?_
    refine at_callv (f := 92) (enters_fn (by kernel_rfl) rfl) (fun w ho => idx_none h1 h2 gp n c i zs arg ks w (hL.keep ho.plain) hi (ho.oldVals hV) hks hl h) rfl rfl ?_
    refine at_do (does_geq rfl rfl) rfl rfl ?_
    refine at_do (does_assign rfl) rfl rfl ?_
    refine at_nil ?_
    refine at_then ?_
    refine at_ret ?_
    refine at_ret1 rfl rfl rfl (fun w9 ho9 => ?_)
    rotate_left
    exact ⟨rfl, ho9.plain⟩
  · refine at_seq ?_
    refine at_region ?_
    refine at_do (does_assign rfl) rfl rfl ?_
    refine at_nil ?_
    refine at_then ?_
    refine at_seq ?_
    refine at_region ?_
    refine at_do (does_move rfl) rfl rfl ?_
    refine at_do (does_move rfl) rfl rfl ?_
    refine at_callk (f := 92) (Φ := fun v _ => ∃ m : Nat, v = .int .i64 (m : Int)) (enters_fn (by kernel_rfl) rfl) (fun w ho => idx_some h1 h2 gp n c i zs arg ks w (hL.keep ho.plain) hi (ho.oldVals hV) hks hl h) rfl rfl (fun v w1 hw1 hv => ?_)
    rotate_left
    obtain ⟨m, rfl⟩ := hv
    refine at_do (does_geq rfl rfl) rfl rfl ?_
    refine at_do (does_assign rfl) rfl rfl ?_
    refine at_nil ?_
    refine at_then ?_
    refine at_ret ?_
    refine at_ret1 rfl rfl rfl (fun w9 ho9 => ?_)
    rotate_left
    exact ⟨ret_bool (decide_eq_true (Int.natCast_nonneg m)), ho9.plain⟩
end Go.Proofs.YtchfecmabhfooaaDoor
set_option linter.unusedSimpArgs false
set_option linter.unusedVariables false
namespace Go.Proofs.YtchfecmabhfooaaDoor
open Go.RowKit

/-- The places of an order's first j. -/
def plc (os : List Nat) (n : Nat) : Nat → List Int
  | 0 => List.replicate n (-1)
  | j + 1 => (plc os n j).set (os.getD j 0) (j : Int)
theorem nodup_inj {os : List Nat} (h : os.Nodup) {i j : Nat} {hi : i < os.length} {hj : j < os.length} (e : os[i] = os[j]) : i = j := by
  rcases Nat.lt_trichotomy i j with h1 | h1 | h1
  · exact absurd e (List.pairwise_iff_getElem.1 h i j hi hj h1)
  · exact h1
  · exact absurd e.symm (List.pairwise_iff_getElem.1 h j i hj hi h1)
theorem plc_len (os : List Nat) (n : Nat) : ∀ j, (plc os n j).length = n
  | 0 => by simp [plc]
  | j + 1 => by unfold plc; rw [List.length_set, plc_len os n j]
theorem plc_free (os : List Nat) (n k : Nat) (hk : k < n) : ∀ j, j ≤ os.length → (∀ q, q < j → os.getD q 0 ≠ k) → (plc os n j).getD k 0 = -1
  | 0, _, _ => by simp [plc, List.getD_eq_getElem?_getD, List.getElem?_replicate, hk]
  | j + 1, hj, h => by
    have ih := plc_free os n k hk j (by omega) fun q hq => h q (by omega)
    unfold plc
    rw [List.getD_eq_getElem?_getD, List.getElem?_set_ne (h j (by omega)), ← List.getD_eq_getElem?_getD]
    exact ih
/-- An order that is whole. -/
def WholeO (os : List Nat) (n : Nat) : Prop := os.length = n ∧ os.Nodup ∧ ∀ k ∈ os, k < n
def keepsO (L : List Want2) (os : List Nat) : Bool := (List.range L.length).all fun i => !(aheadL L i).any (later (plc os L.length L.length) i)
def fillZ (n i : Nat) : List Int := List.replicate i (-1) ++ List.replicate (n - i) 0
theorem fillZ_len (n i : Nat) (h : i ≤ n) : (fillZ n i).length = n := by simp [fillZ]; omega
theorem fillZ_succ (n i : Nat) (h : i < n) : (fillZ n i).set i (-1) = fillZ n (i + 1) := by
  apply List.ext_getElem
  · simp [fillZ]; omega
  · intro j h1 h2
    simp only [fillZ, List.getElem_set, List.getElem_append, List.getElem_replicate, List.length_replicate]
    repeat' split
    all_goals first | rfl | omega
theorem fillZ_all (n : Nat) : fillZ n n = List.replicate n (-1) := by simp [fillZ]
theorem ints_zero (n : Nat) : ints (List.replicate n 0) = intsZ (fillZ n 0) := by simp [ints, intsZ, fillZ]
attribute [local irreducible] cwp lwp Exit.then Exit.inBlock Exit.noGoto wpQuiet Calls fin At AtQ Again endQ RQ
theorem swap_no (arg o : Value) (L : List Want2) (w : World) (hG : Glob w) (hV : WantsAt w arg L) (hS : ShortW L) (h : rightL L = false) :
    Calls Tryd.prog 22 #[arg, o] w fun e w' => e = .returned (.tuple #[.bool false, .int .i64 1]) ∧ Below w.heap.size w w' := by
  refine calls_plain Tryd.func22 rfl Tryd.ntmps22 rfl ?_
  refine at_seq ?_
  refine at_region ?_
  refine at_do (does_assign rfl) rfl rfl ?_
  refine at_do (does_assign rfl) rfl rfl ?_
  refine at_nil ?_
  refine at_then ?_
  refine at_seq ?_
  refine at_region ?_
  refine at_do (does_move rfl) rfl rfl ?_
  refine at_callv (f := 18) (enters_fn (by kernel_rfl) rfl) (fun w ho => ahead_no arg L w (ho.glob hG id) (ho.oldWants hV) hS h) rfl rfl ?_
  refine at_do (does_move rfl) rfl rfl ?_
  refine at_do (does_extract rfl rfl) rfl rfl ?_
  refine at_do (does_extract rfl rfl) rfl rfl ?_
  refine at_do (does_assign rfl) rfl rfl ?_
  refine at_do (does_assign rfl) rfl rfl ?_
  refine at_nil ?_
  refine at_then ?_
  refine at_seq ?_
  refine at_seq ?_
  refine at_region ?_
  refine at_do (does_move rfl) rfl rfl ?_
  refine at_do (does_neq rfl rfl) rfl rfl ?_
  refine at_nil ?_
  refine at_then ?_
  refine at_cond_t rfl (decide_eq_true (by decide)) ?_
  refine at_seq ?_
  refine at_region ?_
  refine at_do (does_move rfl) rfl rfl ?_
  refine at_do (does_assign rfl) rfl rfl ?_
  refine at_do (does_assign rfl) rfl rfl ?_
  refine at_nil ?_
  refine at_then ?_
  refine at_ret ?_
  refine at_then_ret ?_
  refine at_ret2 rfl rfl rfl rfl (fun w9 ho9 => ?_)
  rotate_left
  exact ⟨rfl, ho9.plain⟩
set_option maxHeartbeats 4000000 in
theorem swap_yes (arg o : Value) (L : List Want2) (os : List Nat) (w : World) (hG : Glob w) (hV : WantsAt w arg L) (hS : ShortW L) (h : rightL L = true) (hO : ValsAt w o (ints os)) (hW : WholeO os L.length) :
    Calls Tryd.prog 22 #[arg, o] w fun e w' => e = .returned (.tuple #[.bool (keepsO L os), .int .i64 0]) ∧ Below w.heap.size w w' := by
  have hS1 := hS.1
  have hW1 := hW.1
  have hol : (ints os).length = os.length := by simp [ints]
  have cA : ∀ w1, Below w.heap.size w w1 → Glob w1 → Calls Tryd.prog 18 #[arg] w1 fun e w' => ∃ v, e = .returned v ∧ Below w1.heap.size w1 w' ∧ ∃ u, v = .tuple #[u, .int .i64 0] ∧ RowsAt w' u L.length (aheadL L) := fun w1 hb hg => (ahead_yes arg L w1 hg (hV.keep hb) hS h).mono fun e w' ⟨v, q1, q2, q3, q4⟩ => ⟨_, q1, q2, v, rfl, q3⟩
  obtain ⟨A0, c0, rfl, hc, hcell⟩ := hV
  obtain ⟨AO, cO, rfl⟩ := hO.len
  refine calls_plain Tryd.func22 rfl Tryd.ntmps22 rfl ?_
  refine at_seq ?_
  refine at_region ?_
  refine at_do (does_assign rfl) rfl rfl ?_
  refine at_do (does_assign rfl) rfl rfl ?_
  refine at_nil ?_
  refine at_then ?_
  refine at_seq ?_
  refine at_region ?_
  refine at_do (does_move rfl) rfl rfl ?_
  refine at_callk (f := 18) (Φ := fun v w' => ∃ u, v = .tuple #[u, .int .i64 0] ∧ RowsAt w' u L.length (aheadL L)) (enters_fn (by kernel_rfl) rfl) (fun w ho => cA w ho.plain (ho.glob hG id)) rfl rfl (fun v w1 hw1 hv => ?_)
  refine at_do (does_move rfl) rfl rfl ?_
  rotate_left
  obtain ⟨u, rfl, ga, ca, rfl, hrows⟩ := hv
  have hsince : ∀ {H : List Res} {w' : World}, Own (Ctx.re ⟨w, fun _ => False, fun _ => False, w, fun _ => False, []⟩ w1 []) H w' → Below w1.heap.size w1 w' := fun ho => ho.since (by simp [Ctx.re, bls])
  refine at_do (does_extract rfl rfl) rfl rfl ?_
  refine at_do (does_extract rfl rfl) rfl rfl ?_
  refine at_do (does_assign rfl) rfl rfl ?_
  refine at_do (does_assign rfl) rfl rfl ?_
  refine at_nil ?_
  refine at_then ?_
  refine at_seq ?_
  refine at_seq ?_
  refine at_region ?_
  refine at_do (does_move rfl) rfl rfl ?_
  refine at_do (does_neq rfl rfl) rfl rfl ?_
  refine at_nil ?_
  refine at_then ?_
  refine at_cond_f rfl (decide_eq_false (by omega)) ?_
  refine at_skip ?_
  refine at_then ?_
  refine at_seq ?_
  refine at_seq ?_
  refine at_region ?_
  refine at_do (does_move rfl) rfl rfl ?_
  refine at_do (does_len (by kernel_rfl) rfl) rfl rfl ?_
  refine at_do (does_move rfl) rfl rfl ?_
  refine at_do (does_len (by kernel_rfl) rfl) rfl rfl ?_
  refine at_do (does_neq rfl rfl) rfl rfl ?_
  refine at_nil ?_
  refine at_then ?_
  refine at_cond_f rfl (decide_eq_false (by omega)) ?_
  refine at_skip ?_
  refine at_then ?_
  refine at_seq ?_
  refine at_region ?_
  refine at_do (does_move rfl) rfl rfl ?_
  refine at_do (does_len (by kernel_rfl) rfl) rfl rfl ?_
  refine at_make (e := 3) (sz := 1) (by' := 8) (m := L.length) (ints (List.replicate L.length 0)) (by kernel_rfl) ?_ rfl rfl (by simp only [maxLen]; omega) rfl (fun g28 => ?_)
  rotate_left
  refine at_alloc rfl Tryd.zeroValue34 rfl fun gz0 => ?_
  refine at_store (i := 0) (by kernel_rfl) rfl rfl rfl rfl rfl ?_
  refine at_nil ?_
  refine at_then ?_
  refine at_seq ?_
  refine at_seq ?_
  refine at_region ?_
  refine at_do (does_load (i := 0) (by kernel_rfl) rfl rfl rfl) rfl rfl ?_
  refine at_do (does_len (by kernel_rfl) rfl) rfl rfl ?_
  refine at_do (does_move rfl) rfl rfl ?_
  refine at_nil ?_
  refine at_then ?_
  refine at_block ?_
  rotate_left
  · intro t z q1 q2
    have hz : (Tryd.prog.info? 3).bind (·.zero) = some (.int .i64 0) := by kernel_rfl
    rw [q1] at hz
    simp only [Option.bind_some] at hz
    rw [q2] at hz
    cases hz
    exact made_ints L.length
  rw [ints_zero]
  refine at_loopH (σ := Nat) (fun i => i ≤ L.length) (fun i => [(0, .slice A0 L.length c0), (1, .slice AO (ints os).length cO), (6, .slice (some ⟨ga, 0, none⟩) L.length ca), (8, .pointer (some ⟨gz0, 0, none⟩)), (30, .int .i64 L.length), (31, .int .i64 i)])
    (fun i => [.blk gz0 34 #[.slice (some ⟨g28, 0, none⟩) L.length L.length], .row (.slice (some ⟨g28, 0, none⟩) L.length L.length) 3 1 L.length (intsZ (fillZ L.length i))]) (fun i => L.length - i)
    (fun w ho => ⟨0, Nat.zero_le _, ⟨rfl, rfl, rfl, rfl, rfl, rfl, trivial⟩, ho⟩) ?_
  rintro i hi
  by_cases hil : i < L.length
  · refine at_seq ?_
    refine at_region ?_
    refine at_do (does_lss rfl rfl) rfl rfl ?_
    refine at_nil ?_
    refine at_then ?_
    refine at_seq ?_
    refine at_cond_t rfl (decide_eq_true (by omega)) ?_
    refine at_skip ?_
    refine at_then ?_
    refine at_seq ?_
    refine at_block ?_
    refine at_seq ?_
    refine at_region ?_
    refine at_do (does_move rfl) rfl rfl ?_
    refine at_do (does_assign rfl) rfl rfl ?_
    refine at_nil ?_
    refine at_then ?_
    refine at_region ?_
    refine at_do (does_load (i := 0) (by kernel_rfl) rfl rfl rfl) rfl rfl ?_
    refine at_do (does_move rfl) rfl rfl ?_
    refine at_do (does_indexAddr1 (j := i) (by kernel_rfl) rfl rfl (by omega)) rfl rfl ?_
    refine at_rowstore (i := 1) (j := 0 + i) (by kernel_rfl) rfl rfl rfl rfl (by omega) ?_
    refine at_nil ?_
    refine at_inb ?_
    refine at_then ?_
    refine at_region ?_
    refine at_do (does_addi rfl rfl (by omega)) rfl rfl ?_
    refine at_do (does_move rfl) rfl rfl ?_
    refine at_nil ?_
    refine at_then ?_
    rotate_left
    refine at_againw fun w ho => ⟨i + 1, by omega, by omega, ⟨rfl, rfl, rfl, rfl, rfl, rfl, trivial⟩, rfl, ?_⟩
    rw [← fillZ_succ _ _ hil, ← intsZ_set]
    rw [Nat.zero_add] at ho
    exact ho
  obtain rfl : i = L.length := by omega
  rw [fillZ_all]
  refine at_seq ?_
  refine at_region ?_
  refine at_do (does_lss rfl rfl) rfl rfl ?_
  refine at_nil ?_
  refine at_then ?_
  refine at_seq ?_
  refine at_cond_f rfl (decide_eq_false (by omega)) ?_
  refine at_exit ?_
  refine at_then_exit ?_
  refine at_then_exit ?_
  refine at_inb_here ?_
  refine at_then ?_
  refine at_seq ?_
  refine at_seq ?_
  refine at_region ?_
  refine at_do (does_move rfl) rfl rfl ?_
  refine at_do (does_len (by kernel_rfl) rfl) rfl rfl ?_
  refine at_do (does_move rfl) rfl rfl ?_
  refine at_nil ?_
  refine at_then ?_
  refine at_block ?_
  rotate_left
  refine at_loopH (σ := Nat) (fun j => j ≤ os.length) (fun j => [(0, .slice A0 L.length c0), (6, .slice (some ⟨ga, 0, none⟩) L.length ca), (8, .pointer (some ⟨gz0, 0, none⟩)), (38, .slice AO (ints os).length cO), (39, .int .i64 (ints os).length), (40, .int .i64 j)])
    (fun j => [.blk gz0 34 #[.slice (some ⟨g28, 0, none⟩) L.length L.length], .row (.slice (some ⟨g28, 0, none⟩) L.length L.length) 3 1 L.length (intsZ (plc os L.length j))]) (fun j => os.length - j)
    (fun w ho => ⟨0, Nat.zero_le _, ⟨rfl, rfl, rfl, rfl, rfl, rfl, trivial⟩, ho⟩) ?_
  rintro j hj
  by_cases hjl : j < os.length
  · obtain ⟨gb, o, c1, hv, hc1, hlt1, hcell1⟩ := hO.form (by omega)
    simp only [Value.slice.injEq, true_and] at hv
    obtain ⟨rfl, rfl⟩ := hv
    have hcj : w.cell? ⟨gb, o + j, none⟩ = some (.int .i64 ((os[j] : Nat) : Int)) := hcell1 j _ (by simp [ints, hjl])
    have hk := hW.2.2 os[j] (List.getElem_mem hjl)
    have hfree := plc_free os L.length os[j] hk j (by omega) fun q hq he => by
      have hq2 : q < os.length := by omega
      rw [List.getD_eq_getElem?_getD, List.getElem?_eq_getElem hq2] at he
      have := nodup_inj hW.2.1 he
      omega
    have hstep : plc os L.length (j + 1) = (plc os L.length j).set os[j] (j : Int) := by
      show (plc os L.length j).set (os.getD j 0) (j : Int) = _
      rw [List.getD_eq_getElem?_getD, List.getElem?_eq_getElem hjl]; rfl
    have hpl := plc_len os L.length j
    generalize plc os L.length j = zs at hfree hstep hpl ⊢
    generalize os[j] = k at hcj hk hfree hstep
    have gk : (intsZ zs)[0 + k]? = some (.int .i64 (-1)) := by rw [Nat.zero_add, intsZ_get (by omega), hfree]
    refine at_seq ?_
    refine at_region ?_
    refine at_do (does_lss rfl rfl) rfl rfl ?_
    refine at_nil ?_
    refine at_then ?_
    refine at_seq ?_
    refine at_cond_t rfl (decide_eq_true (by omega)) ?_
    refine at_skip ?_
    refine at_then ?_
    refine at_seq ?_
    refine at_block ?_
    refine at_seq ?_
    refine at_region ?_
    refine at_do (does_move rfl) rfl rfl ?_
    refine at_do (does_indexAddr1 (by kernel_rfl) rfl rfl (by omega)) rfl rfl ?_
    refine at_do (does_load_mem (by kernel_rfl) rfl (fun w' ho => Below.cellOld ho.plain hcj)) rfl rfl ?_
    refine at_do (does_assign rfl) rfl rfl ?_
    refine at_do (does_assign rfl) rfl rfl ?_
    refine at_nil ?_
    refine at_then ?_
    refine at_seq ?_
    refine at_seq ?_
    refine at_region ?_
    refine at_do (does_move rfl) rfl rfl ?_
    refine at_do (does_lss rfl rfl) rfl rfl ?_
    refine at_do (does_move rfl) rfl rfl ?_
    refine at_know (t := 47) (d := false) rfl (decide_eq_false (by omega)) ?_
    refine at_on rfl rfl ?_
    refine at_do (does_move rfl) rfl rfl ?_
    refine at_on rfl rfl ?_
    refine at_do (does_move rfl) rfl rfl ?_
    refine at_on rfl rfl ?_
    refine at_do (does_len (by kernel_rfl) rfl) rfl rfl ?_
    refine at_on rfl rfl ?_
    refine at_do (does_geq rfl rfl) rfl rfl ?_
    refine at_do (does_pick_false rfl rfl) rfl rfl ?_
    refine at_do (does_move rfl) rfl rfl ?_
    refine at_know (t := 53) (d := false) rfl (decide_eq_false (by omega)) ?_
    refine at_on rfl rfl ?_
    refine at_do (does_load (i := 0) (by kernel_rfl) rfl rfl rfl) rfl rfl ?_
    refine at_on rfl rfl ?_
    refine at_do (does_move rfl) rfl rfl ?_
    refine at_on rfl rfl ?_
    refine at_do (does_indexAddr1 (j := k) (by kernel_rfl) rfl rfl (by omega)) rfl rfl ?_
    refine at_on rfl rfl ?_
    refine at_do (does_rowload (i := 1) (j := 0 + k) (by kernel_rfl) rfl rfl (by omega) gk) rfl rfl ?_
    refine at_on rfl rfl ?_
    refine at_do (does_geq rfl rfl) rfl rfl ?_
    refine at_do (does_pick_false rfl rfl) rfl rfl ?_
    refine at_nil ?_
    refine at_then ?_
    refine at_cond_f rfl (decide_eq_false (by omega)) ?_
    refine at_skip ?_
    refine at_then ?_
    refine at_region ?_
    refine at_do (does_load (i := 0) (by kernel_rfl) rfl rfl rfl) rfl rfl ?_
    refine at_do (does_move rfl) rfl rfl ?_
    refine at_do (does_move rfl) rfl rfl ?_
    refine at_do (does_indexAddr1 (j := k) (by kernel_rfl) rfl rfl (by omega)) rfl rfl ?_
    refine at_rowstore (i := 1) (j := 0 + k) (by kernel_rfl) rfl rfl rfl rfl (by omega) ?_
    refine at_nil ?_
    refine at_inb ?_
    refine at_then ?_
    refine at_region ?_
    refine at_do (does_addi rfl rfl (by omega)) rfl rfl ?_
    refine at_do (does_move rfl) rfl rfl ?_
    refine at_nil ?_
    refine at_then ?_
    rotate_left
    refine at_againw fun w ho => ⟨j + 1, by omega, by omega, ⟨rfl, rfl, rfl, rfl, rfl, rfl, trivial⟩, rfl, ?_⟩
    rw [hstep, ← intsZ_set]
    rw [Nat.zero_add] at ho
    exact ho
  obtain rfl : j = os.length := by omega
  refine at_seq ?_
  refine at_region ?_
  refine at_do (does_lss rfl rfl) rfl rfl ?_
  refine at_nil ?_
  refine at_then ?_
  refine at_seq ?_
  refine at_cond_f rfl (decide_eq_false (by omega)) ?_
  refine at_exit ?_
  refine at_then_exit ?_
  refine at_then_exit ?_
  refine at_inb_here ?_
  refine at_then ?_
  refine at_seq ?_
  refine at_seq ?_
  refine at_region ?_
  refine at_do (does_move rfl) rfl rfl ?_
  refine at_do (does_len (by kernel_rfl) rfl) rfl rfl ?_
  refine at_do (does_move rfl) rfl rfl ?_
  refine at_nil ?_
  refine at_then ?_
  refine at_block ?_
  rotate_left
  have hkO : keepsO L os = (List.range L.length).all fun i => !(aheadL L i).any (later (plc os L.length os.length) i) := by unfold keepsO; rw [hW1]
  rw [hkO]
  clear hkO
  have hpl := plc_len os L.length os.length
  generalize plc os L.length os.length = zs at hpl ⊢
  refine at_loopH (σ := Nat) (fun i => i ≤ L.length ∧ (List.range i).all (fun i => !(aheadL L i).any (later zs i)) = true) (fun i => [(0, .slice A0 L.length c0), (6, .slice (some ⟨ga, 0, none⟩) L.length ca), (8, .pointer (some ⟨gz0, 0, none⟩)), (66, .int .i64 L.length), (67, .int .i64 i)])
    (fun i => [.blk gz0 34 #[.slice (some ⟨g28, 0, none⟩) L.length L.length], .row (.slice (some ⟨g28, 0, none⟩) L.length L.length) 3 1 L.length (intsZ zs)]) (fun i => L.length - i)
    (fun w ho => ⟨0, ⟨Nat.zero_le _, rfl⟩, ⟨rfl, rfl, rfl, rfl, rfl, trivial⟩, ho⟩) ?_
  rintro i ⟨hi, hI⟩
  by_cases hil : i < L.length
  · obtain ⟨u, hu, huv⟩ := hrows i hil
    have hks : ∀ k ∈ aheadL L i, k < L.length := fun k hk => by have := flt_mem hk; omega
    have hkl := flt_len L i i
    have hkl2 : (aheadL L i).length ≤ i := hkl
    have hI2 : (List.range (i + 1)).all (fun i => !(aheadL L i).any (later zs i)) = !(aheadL L i).any (later zs i) := by
      rw [List.range_succ, List.all_append, hI]; simp
    have hF : (aheadL L i).any (later zs i) = true → (List.range L.length).all (fun i => !(aheadL L i).any (later zs i)) = false := fun h => List.all_eq_false.2 ⟨i, List.mem_range.2 hil, by simp [h]⟩
    generalize aheadL L i = ks at huv hks hkl2 hI2 hF
    have cL : ∀ {g12 : Nat} {w' : World}, Own (Ctx.re ⟨w, fun _ => False, fun _ => False, w, fun _ => False, []⟩ w1 []) [.blk g12 3 #[.int .i64 (i : Int)], .blk gz0 34 #[.slice (some ⟨g28, 0, none⟩) L.length L.length], .row (.slice (some ⟨g28, 0, none⟩) L.length L.length) 3 1 L.length (intsZ zs)] w' →
        Calls Tryd.prog 67 #[u, lookFn gz0 g12] w' fun e w3 => e = .returned (.bool (ks.any (later zs i))) ∧ Below w'.heap.size w' w3 := fun ho => by
      refine contains_later gz0 _ g28 L.length L.length i zs u ks _ ⟨ho.cell (i := 1) rfl 0, ho.cell (i := 0) rfl 0, fun j hj => ?_⟩ hil (huv.keep (hsince ho)) hks (by omega)
      have := (ho.rowAt (i := 2) rfl).cellAt j (by omega)
      rw [Nat.zero_add]
      exact this.trans (intsZ_get (by omega))
    cases hb : ks.any (later zs i)
    · rw [hb] at cL hI2
      refine at_seq ?_
      refine at_region ?_
      refine at_do (does_lss rfl rfl) rfl rfl ?_
      refine at_nil ?_
      refine at_then ?_
      refine at_seq ?_
      refine at_cond_t rfl (decide_eq_true (by omega)) ?_
      refine at_skip ?_
      refine at_then ?_
      refine at_seq ?_
      refine at_block ?_
      refine at_seq ?_
      refine at_region ?_
      refine at_do (does_move rfl) rfl rfl ?_
      refine at_alloc rfl Tryd.zeroValue3 rfl fun gz0 => ?_
      refine at_store (i := 0) (by kernel_rfl) rfl rfl rfl rfl rfl ?_
      refine at_nil ?_
      refine at_then ?_
      refine at_seq ?_
      refine at_region ?_
      refine at_do (does_move rfl) rfl rfl ?_
      refine at_do (does_load (i := 0) (by kernel_rfl) rfl rfl rfl) rfl rfl ?_
      refine at_do (does_indexAddr1 (j := i) (by kernel_rfl) rfl rfl hil) rfl rfl ?_
      refine at_do (does_load_mem (by kernel_rfl) rfl (fun w' ho => Below.cellOld (hsince ho) hu)) rfl rfl ?_
      refine at_do (does_makeFunc rfl) rfl rfl ?_
      refine at_callv (f := 67) (enters_fn (by kernel_rfl) rfl) (fun w ho => cL ho) rfl rfl ?_
      refine at_nil ?_
      refine at_then ?_
      refine at_cond_false rfl ?_
      refine at_skip ?_
      refine at_inb ?_
      refine at_then ?_
      refine at_region ?_
      refine at_do (does_addi rfl rfl (by omega)) rfl rfl ?_
      refine at_do (does_move rfl) rfl rfl ?_
      refine at_nil ?_
      refine at_then ?_
      rotate_left
      refine at_againw fun w ho => ⟨i + 1, ⟨by omega, hI2⟩, by omega, ⟨rfl, rfl, rfl, rfl, rfl, trivial⟩, rfl, ?_⟩
      exact ho.sublist (List.sublist_cons_self ..)
    · rw [hb] at cL
      rw [hF hb]
      refine at_seq ?_
      refine at_region ?_
      refine at_do (does_lss rfl rfl) rfl rfl ?_
      refine at_nil ?_
      refine at_then ?_
      refine at_seq ?_
      refine at_cond_t rfl (decide_eq_true (by omega)) ?_
      refine at_skip ?_
      refine at_then ?_
      refine at_seq ?_
      refine at_block ?_
      refine at_seq ?_
      refine at_region ?_
      refine at_do (does_move rfl) rfl rfl ?_
      refine at_alloc rfl Tryd.zeroValue3 rfl fun gz0 => ?_
      refine at_store (i := 0) (by kernel_rfl) rfl rfl rfl rfl rfl ?_
      refine at_nil ?_
      refine at_then ?_
      refine at_seq ?_
      refine at_region ?_
      refine at_do (does_move rfl) rfl rfl ?_
      refine at_do (does_load (i := 0) (by kernel_rfl) rfl rfl rfl) rfl rfl ?_
      refine at_do (does_indexAddr1 (j := i) (by kernel_rfl) rfl rfl hil) rfl rfl ?_
      refine at_do (does_load_mem (by kernel_rfl) rfl (fun w' ho => Below.cellOld (hsince ho) hu)) rfl rfl ?_
      refine at_do (does_makeFunc rfl) rfl rfl ?_
      refine at_callv (f := 67) (enters_fn (by kernel_rfl) rfl) (fun w ho => cL ho) rfl rfl ?_
      refine at_nil ?_
      refine at_then ?_
      refine at_cond_true rfl ?_
      refine at_seq ?_
      refine at_region ?_
      refine at_do (does_assign rfl) rfl rfl ?_
      refine at_do (does_assign rfl) rfl rfl ?_
      refine at_nil ?_
      refine at_then ?_
      refine at_ret ?_
      refine at_inb_ret ?_
      refine at_then_ret ?_
      refine at_then_ret ?_
      refine at_inb_ret ?_
      refine at_then_ret ?_
      refine at_ret2 rfl rfl rfl rfl (fun w9 ho9 => ?_)
      rotate_left
      exact ⟨rfl, ho9.plain⟩
  · obtain rfl : i = L.length := by omega
    rw [hI]
    refine at_seq ?_
    refine at_region ?_
    refine at_do (does_lss rfl rfl) rfl rfl ?_
    refine at_nil ?_
    refine at_then ?_
    refine at_seq ?_
    refine at_cond_f rfl (decide_eq_false (by omega)) ?_
    refine at_exit ?_
    refine at_then_exit ?_
    refine at_then_exit ?_
    refine at_inb_here ?_
    refine at_then ?_
    refine at_seq ?_
    refine at_region ?_
    refine at_do (does_assign rfl) rfl rfl ?_
    refine at_do (does_assign rfl) rfl rfl ?_
    refine at_nil ?_
    refine at_then ?_
    refine at_ret ?_
    refine at_ret2 rfl rfl rfl rfl (fun w9 ho9 => ?_)
    rotate_left
    exact ⟨rfl, ho9.plain⟩
end Go.Proofs.YtchfecmabhfooaaDoor
set_option linter.unusedSimpArgs false
set_option linter.unusedVariables false
namespace Go.Proofs.YtchfecmabhfooaaDoor

theorem getD_set (rs : List Nat) (n v j : Nat) : (rs.set n v).getD j 0 = if n = j ∧ j < rs.length then v else rs.getD j 0 := by
  rw [List.getD_eq_getElem?_getD, List.getD_eq_getElem?_getD, List.getElem?_set]
  by_cases h : n = j
  · subst h
    by_cases h2 : n < rs.length
    · simp [h2]
    · simp [h2]
  · simp [h]
theorem kIn_append (n : Nat) (a b rs : List Nat) : kIn n (a ++ b) rs = kIn n b (kIn n a rs) := by simp [kIn, List.foldl_append]
theorem kIn_one (n k : Nat) (rs : List Nat) : kIn n [k] rs = rs.set n (max (rs.getD n 0) (rs.getD k 0 + 1)) := rfl
theorem in_agree (p : Nat → Nat → Bool) (n M : Nat) (rs rs' : List Nat) (hn : n < M) (hM : M ≤ rs.length) (hM' : M ≤ rs'.length) (h : ∀ j, j < M → rs.getD j 0 = rs'.getD j 0) :
    ∀ k, k ≤ n → ∀ j, j < M → (rIn p n k rs).getD j 0 = (kIn n ((List.range k).filter fun j => p j n) rs').getD j 0
  | 0, _, j, hj => h j hj
  | k + 1, hk, j, hj => by
    have ih := in_agree p n M rs rs' hn hM hM' h k (by omega)
    have l1 := rIn_len p n k rs
    have l2 := kIn_len n ((List.range k).filter fun j => p j n) rs'
    rw [List.range_succ, List.filter_append, kIn_append]
    conv => lhs; unfold rIn
    generalize rIn p n k rs = R at ih l1 ⊢
    generalize kIn n ((List.range k).filter fun j => p j n) rs' = K at ih l2 ⊢
    have i1 := ih n hn
    have i2 := ih k (by omega)
    have i3 := ih j hj
    by_cases hp : p k n
    · rw [List.filter_cons, if_pos hp, List.filter_nil, kIn_one]
      by_cases hle : R.getD n 0 ≤ R.getD k 0
      · rw [if_pos (by simp only [hp, Bool.true_and]; exact decide_eq_true hle), getD_set, getD_set]
        by_cases hnj : n = j
        · rw [if_pos ⟨hnj, by omega⟩, if_pos ⟨hnj, by omega⟩]; omega
        · rw [if_neg (fun h => hnj h.1), if_neg (fun h => hnj h.1)]; exact i3
      · rw [if_neg (by simp only [hp, Bool.true_and]; exact fun h => hle (of_decide_eq_true h)), getD_set]
        by_cases hnj : n = j
        · rw [if_pos ⟨hnj, by omega⟩]; subst hnj; omega
        · rw [if_neg (fun h => hnj h.1)]; exact i3
    · rw [List.filter_cons, if_neg hp, List.filter_nil, if_neg (by simp [hp])]
      exact i3
theorem out_agree (L : List Want2) (m m' M : Nat) (hm : M ≤ m) (hm' : M ≤ m') : ∀ n, n ≤ M → ∀ j, j < M → (rOut (pairW L) m n).getD j 0 = (kOut (aheadL L) m' n).getD j 0
  | 0, _, j, hj => by
    have h1 : j < m := by omega
    have h2 : j < m' := by omega
    simp [rOut, kOut, List.getD_eq_getElem?_getD, List.getElem?_replicate, h1, h2]
  | n + 1, hn, j, hj => by
    have ih := out_agree L m m' M hm hm' n (by omega)
    have h1 := rOut_len (pairW L) m n
    have h2 := kOut_len (aheadL L) m' n
    unfold rOut kOut
    exact in_agree (pairW L) n M _ _ (by omega) (by omega) (by omega) ih n (Nat.le_refl _) j hj
theorem kIn_other (i j : Nat) (h : j ≠ i) : ∀ (ks rs : List Nat), (kIn i ks rs).getD j 0 = rs.getD j 0
  | [], rs => rfl
  | k :: ks, rs => by
    have := kIn_other i j h ks (rs.set i (max (rs.getD i 0) (rs.getD k 0 + 1)))
    rw [getD_set, if_neg (fun e => h e.1.symm)] at this
    exact this
theorem kOut_stay (f : Nat → List Nat) (m i : Nat) : ∀ d, (kOut f m (i + 1 + d)).getD i 0 = (kOut f m (i + 1)).getD i 0
  | 0 => rfl
  | d + 1 => by
    have := kOut_stay f m i d
    rw [← this]
    show (kIn (i + 1 + d) _ _).getD i 0 = _
    exact kIn_other _ _ (by omega) _ _
def rkL (L : List Want2) (i : Nat) : Nat := (kOut (aheadL L) L.length L.length).getD i 0
theorem rkL_at (L : List Want2) (i n : Nat) (hi : i < n) (hn : n ≤ L.length) : (kOut (aheadL L) L.length n).getD i 0 = rkL L i := by
  have h1 := kOut_stay (aheadL L) L.length i (n - (i + 1))
  have h2 := kOut_stay (aheadL L) L.length i (L.length - (i + 1))
  rw [show i + 1 + (n - (i + 1)) = n by omega] at h1
  rw [show i + 1 + (L.length - (i + 1)) = L.length by omega] at h2
  exact h1.trans h2.symm
/-- One's rank is the reference's. -/
theorem rk_rank (L : List Want2) (i : Nat) (hi : i < L.length) : rkL L i = rankL L i := by
  rw [← rkL_at L i (i + 1) (by omega) (by omega)]
  exact (out_agree L (i + 1) L.length (i + 1) (Nat.le_refl _) (by omega) (i + 1) (Nat.le_refl _) i (by omega)).symm
theorem kIn_ge (i : Nat) : ∀ (ks rs : List Nat), i < rs.length → rs.getD i 0 ≤ (kIn i ks rs).getD i 0
  | [], rs, _ => Nat.le_refl _
  | k :: ks, rs, hi => by
    have := kIn_ge i ks (rs.set i (max (rs.getD i 0) (rs.getD k 0 + 1))) (by simpa using hi)
    rw [getD_set, if_pos ⟨rfl, hi⟩] at this
    have e : kIn i (k :: ks) rs = kIn i ks (rs.set i (max (rs.getD i 0) (rs.getD k 0 + 1))) := rfl
    rw [e]
    omega
theorem kIn_above (i : Nat) : ∀ (ks rs : List Nat), i < rs.length → ∀ k ∈ ks, k ≠ i → rs.getD k 0 < (kIn i ks rs).getD i 0
  | k0 :: ks, rs, hi, k, hk, hki => by
    have hi' : i < (rs.set i (max (rs.getD i 0) (rs.getD k0 0 + 1))).length := by simpa using hi
    rcases List.mem_cons.1 hk with rfl | hk
    · have := kIn_ge i ks (rs.set i (max (rs.getD i 0) (rs.getD k 0 + 1))) hi'
      rw [getD_set, if_pos ⟨rfl, hi⟩] at this
      have e : kIn i (k :: ks) rs = kIn i ks (rs.set i (max (rs.getD i 0) (rs.getD k 0 + 1))) := rfl
      rw [e]
      omega
    · have := kIn_above i ks (rs.set i (max (rs.getD i 0) (rs.getD k0 0 + 1))) hi' k hk hki
      rw [getD_set, if_neg (fun e => hki e.1.symm)] at this
      exact this
theorem rk_above (L : List Want2) (i k : Nat) (hi : i < L.length) (hk : k ∈ aheadL L i) : rkL L k < rkL L i := by
  have hlt : k < i := flt_mem hk
  rw [← rkL_at L i (i + 1) (by omega) (by omega), ← rkL_at L k i hlt (by omega)]
  exact kIn_above i _ _ (by rw [kOut_len]; exact hi) k hk (by omega)
theorem rk_low (L : List Want2) (i : Nat) : rkL L i ≤ i := kOut_low (aheadL L) L.length (fun i k hk => flt_mem hk) L.length i
theorem mem_ahead {L : List Want2} {k i : Nat} (h : k < i) (hp : pairW L k i = true) : k ∈ aheadL L i := List.mem_filter.2 ⟨List.mem_range.2 h, hp⟩
/-- Those of one rank don't clash. -/
theorem rk_apart (L : List Want2) (i k : Nat) (hi : i < L.length) (hk : k < i) (h : rkL L k = rkL L i) : pairW L k i = false := by
  cases hp : pairW L k i
  · rfl
  · have := rk_above L i k hi (mem_ahead hk hp); omega
/-- Of one list that is whole, where each stands. -/
theorem plc_get (os : List Nat) (n : Nat) (h : WholeO os n) : ∀ j, j ≤ n → ∀ q, q < j → (plc os n j).getD (os.getD q 0) 0 = (q : Int)
  | 0, _, q, hq => absurd hq (by omega)
  | j + 1, hj, q, hq => by
    have hl := h.1
    have hq2 : q < os.length := by omega
    have hj2 : j < os.length := by omega
    have hlen := plc_len os n j
    have hm := h.2.2 os[j] (List.getElem_mem hj2)
    unfold plc
    simp only [List.getD_eq_getElem?_getD (l := os), List.getElem?_eq_getElem hq2, List.getElem?_eq_getElem hj2, Option.getD_some]
    rw [List.getD_eq_getElem?_getD, List.getElem?_set]
    by_cases e : q = j
    · subst e
      rw [if_pos rfl, if_pos (by omega)]; rfl
    · rw [if_neg fun he => e (nodup_inj h.2.1 he).symm]
      have ih := plc_get os n h j (by omega) q (by omega)
      rw [List.getD_eq_getElem?_getD (l := os), List.getElem?_eq_getElem hq2] at ih
      rw [List.getD_eq_getElem?_getD] at ih
      exact ih
/-- Those of a rank, the last one first. -/
def ofRank (L : List Want2) (r : Nat) : List Nat := (List.range L.length).reverse.filter fun i => Nat.beq (rkL L i) r
def byRank (L : List Want2) (n : Nat) : List Nat := (List.range n).flatMap (ofRank L)
theorem mem_ofRank {L : List Want2} {r i : Nat} : i ∈ ofRank L r ↔ i < L.length ∧ rkL L i = r := by
  simp [ofRank, List.mem_filter]
theorem byRank_nodup (L : List Want2) (n : Nat) : (byRank L n).Nodup := by
  unfold byRank List.Nodup
  rw [List.pairwise_flatMap]
  refine ⟨fun r _ => ?_, ?_⟩
  · have : (ofRank L r).Nodup := List.Nodup.sublist List.filter_sublist (List.pairwise_reverse.2 (List.Pairwise.imp (fun h => Ne.symm h) List.nodup_range))
    exact this
  · refine List.Pairwise.imp (R := (· < ·)) (fun {a b} hab x hx y hy => ?_) List.pairwise_lt_range
    have h1 := mem_ofRank.1 hx
    have h2 := mem_ofRank.1 hy
    intro e; subst e; omega
theorem byRank_up (L : List Want2) (n : Nat) : (byRank L n).Pairwise fun a b => rkL L a ≤ rkL L b := by
  unfold byRank
  rw [List.pairwise_flatMap]
  refine ⟨fun r _ => ?_, ?_⟩
  · refine List.pairwise_iff_forall_sublist.2 fun {a b} hs => ?_
    have h1 := mem_ofRank.1 (hs.mem (by simp : a ∈ [a, b]))
    have h2 := mem_ofRank.1 (hs.mem (by simp : b ∈ [a, b]))
    omega
  · refine List.Pairwise.imp (R := (· < ·)) (fun {a b} hab x hx y hy => ?_) List.pairwise_lt_range
    have h1 := mem_ofRank.1 hx
    have h2 := mem_ofRank.1 hy
    omega
theorem mem_byRank (L : List Want2) (i : Nat) : i ∈ byRank L L.length ↔ i < L.length := by
  unfold byRank
  rw [List.mem_flatMap]
  constructor
  · rintro ⟨r, _, h⟩; exact (mem_ofRank.1 h).1
  · intro h
    have := rk_low L i
    exact ⟨rkL L i, List.mem_range.2 (by omega), mem_ofRank.2 ⟨h, rfl⟩⟩
theorem byRank_whole (L : List Want2) : WholeO (byRank L L.length) L.length := by
  refine ⟨?_, byRank_nodup L _, fun k hk => (mem_byRank L k).1 hk⟩
  have hp : (byRank L L.length).Perm (List.range L.length) := (List.perm_ext_iff_of_nodup (byRank_nodup L _) List.nodup_range).2 fun a => by rw [mem_byRank, List.mem_range]
  simpa using hp.length_eq
/-- In the order of ranks nothing that clashes changes places. -/
theorem byRank_keeps (L : List Want2) : keepsO L (byRank L L.length) = true := by
  have hw := byRank_whole L
  unfold keepsO
  rw [List.all_eq_true]
  intro i hi
  have hi := List.mem_range.1 hi
  rw [Bool.not_eq_true', List.any_eq_false]
  intro k hk hlt
  have hki : k < i := flt_mem hk
  have hr := rk_above L i k hi hk
  obtain ⟨qi, hqi, ei⟩ := List.getElem_of_mem ((mem_byRank L i).2 hi)
  obtain ⟨qk, hqk, ek⟩ := List.getElem_of_mem ((mem_byRank L k).2 (by omega))
  have g1 := plc_get _ _ hw L.length (Nat.le_refl _) qi (by rw [← hw.1]; exact hqi)
  have g2 := plc_get _ _ hw L.length (Nat.le_refl _) qk (by rw [← hw.1]; exact hqk)
  rw [List.getD_eq_getElem?_getD (l := byRank L L.length), List.getElem?_eq_getElem hqi, ei] at g1
  rw [List.getD_eq_getElem?_getD (l := byRank L L.length), List.getElem?_eq_getElem hqk, ek] at g2
  simp only [Option.getD_some] at g1 g2
  have hlt' := of_decide_eq_true hlt
  rw [g1, g2] at hlt'
  have := List.pairwise_iff_getElem.1 (byRank_up L L.length) qi qk hqi hqk (by omega)
  rw [ei, ek] at this
  omega
/-- The next one ahead. -/
theorem flt_at (L : List Want2) (i k : Nat) (h : k < i) (hp : pairW L k i = true) : (aheadL L i)[(flt L i k).length]? = some k := by
  have hr : List.range i = List.range (k + 1) ++ (List.range' (k + 1) (i - (k + 1))) := by
    have := @List.range'_append_1 0 (k + 1) (i - (k + 1))
    rw [Nat.zero_add] at this
    rw [List.range_eq_range', List.range_eq_range', this]
    congr 1
    omega
  unfold aheadL
  have e : flt L i i = flt L i (k + 1) ++ (List.range' (k + 1) (i - (k + 1))).filter fun j => pairW L j i := by
    unfold flt
    conv => lhs; rw [hr]
    rw [List.filter_append]
  have e2 := flt_succ L i k
  rw [if_pos hp] at e2
  rw [e, e2, List.append_assoc, List.getElem?_append_right (Nat.le_refl _)]
  simp
theorem flt_le (L : List Want2) (i k : Nat) (h : k ≤ i) : (flt L i k).length ≤ (aheadL L i).length := by
  have hr : List.range i = List.range k ++ (List.range' k (i - k)) := by
    have := @List.range'_append_1 0 k (i - k)
    rw [Nat.zero_add] at this
    rw [List.range_eq_range', List.range_eq_range', this]
    congr 1
    omega
  unfold aheadL flt
  conv => rhs; rw [hr]
  rw [List.filter_append, List.length_append]
  omega
end Go.Proofs.YtchfecmabhfooaaDoor
