/-
  Those ahead of each that it clashes with. No condition of its own.
-/
import Derived.Test.YtchfecmabhfooaaDoorClash11
set_option linter.unusedSimpArgs false
set_option linter.unusedVariables false
namespace Go.Proofs.YtchfecmabhfooaaDoor
open Go.RowKit

def KeptV (w : World) (B : Nat → Prop) (v : Value) (vs : List Value) : Prop := ValsAt w v vs ∧ (0 < vs.length → ∀ g ∈ v.ownBlock, ¬ B g)
theorem KeptV.move {w w' : World} {B B' : Nat → Prop} {v : Value} {vs : List Value} (h : KeptV w B v vs) (hf : Frm w B w') (hB : ∀ k, k < w.heap.size → B' k → B k) : KeptV w' B' v vs := by
  refine ⟨?_, fun hl g hg hb => ?_⟩
  · by_cases hl : 0 < vs.length
    · obtain ⟨gb, o, c, rfl, hc, hlt, hce⟩ := h.1.form hl
      refine .inr ⟨⟨gb, o, none⟩, c, rfl, hc, fun j u hu => ?_⟩
      rw [add_none]
      exact (World.cell?_of_block (hf.old gb hlt (h.2 hl gb (by simp [Value.ownBlock])))).trans (hce j u hu)
    · obtain rfl : vs = [] := List.eq_nil_of_length_eq_zero (by omega)
      rcases h.1 with ⟨rfl, _⟩ | ⟨A, c, rfl, hc, _⟩
      · exact .inl ⟨rfl, rfl⟩
      · exact .inr ⟨A, c, rfl, hc, fun j u hu => by simp at hu⟩
  · obtain ⟨gb, o, c, rfl, hc, hlt, hce⟩ := h.1.form hl
    have hg' : g = gb := by simpa [Value.ownBlock] using hg.symm
    subst hg'
    exact h.2 hl g hg (hB g hlt hb)
/-- Rows of numbers in a row. -/
def RowsAt (w : World) (v : Value) (n : Nat) (f : Nat → List Nat) : Prop := ∃ g c, v = .slice (some ⟨g, 0, none⟩) n c ∧ ∀ i, i < n → ∃ u, w.cell? ⟨g, 0 + i, none⟩ = some u ∧ ValsAt w u (ints (f i))
def flt (L : List Want2) (i k : Nat) : List Nat := (List.range k).filter fun j => pairW L j i
def aheadL (L : List Want2) (i : Nat) : List Nat := flt L i i
theorem flt_succ (L : List Want2) (i k : Nat) : flt L i (k + 1) = if pairW L k i then flt L i k ++ [k] else flt L i k := by
  unfold flt
  rw [List.range_succ, List.filter_append]
  by_cases h : pairW L k i <;> simp [h]
theorem flt_len (L : List Want2) (i k : Nat) : (flt L i k).length ≤ k := by
  have := List.length_filter_le (fun j => pairW L j i) (List.range k)
  simpa [flt] using this
def nils (n : Nat) : List Value := List.replicate n (.slice none 0 0)
theorem made_nils (k : Nat) : (madeCells (Value.slice none 0 0).cells (k * 1)).toList = nils k := by
  apply List.ext_getElem
  · simp [madeCells, nils]
  · intro j h1 h2
    simp [madeCells, nils, Value.cells, Nat.mod_one]
attribute [local irreducible] cwp lwp Exit.then Exit.inBlock Exit.noGoto wpQuiet Calls fin At AtQ Again endQ RQ
theorem ahead_no (arg : Value) (L : List Want2) (w : World) (hG : Glob w) (hV : WantsAt w arg L) (hS : ShortW L) (h : rightL L = false) :
    Calls Tryd.prog 18 #[arg] w fun e w' => e = .returned (.tuple #[.slice none 0 0, .int .i64 1]) ∧ Below w.heap.size w w' := by
  refine calls_plain Tryd.func18 rfl Tryd.ntmps18 rfl ?_
  refine at_seq ?_
  refine at_region ?_
  refine at_do (does_assign rfl) rfl rfl ?_
  refine at_do (does_assign rfl) rfl rfl ?_
  refine at_nil ?_
  refine at_then ?_
  refine at_seq ?_
  refine at_seq ?_
  refine at_region ?_
  refine at_do (does_move rfl) rfl rfl ?_
  refine at_callv (f := 66) (enters_fn (by kernel_rfl) rfl) (fun w ho => clash_right arg L w (ho.glob hG id) (ho.oldWants hV) hS) rfl rfl ?_
  refine at_do (does_not rfl) rfl rfl ?_
  refine at_nil ?_
  refine at_then ?_
  refine at_cond_t rfl (by (rw [h]; rfl)) ?_
  refine at_seq ?_
  refine at_region ?_
  refine at_do (does_assign rfl) rfl rfl ?_
  refine at_do (does_assign rfl) rfl rfl ?_
  refine at_nil ?_
  refine at_then ?_
  refine at_ret ?_
  refine at_then_ret ?_
  refine at_ret2 rfl rfl rfl rfl (fun w9 ho9 => ?_)
  rotate_left
  exact ⟨rfl, ho9.plain⟩
set_option maxHeartbeats 4000000 in
theorem ahead_yes (arg : Value) (L : List Want2) (w : World) (hG : Glob w) (hV : WantsAt w arg L) (hS : ShortW L) (h : rightL L = true) :
    Calls Tryd.prog 18 #[arg] w fun e w' => ∃ v, e = .returned (.tuple #[v, .int .i64 0]) ∧ Below w.heap.size w w' ∧ RowsAt w' v L.length (aheadL L) ∧ (∀ g ∈ v.ownBlock, w.heap.size ≤ g) := by
  have cR : ∀ w1, Below w.heap.size w w1 → Glob w1 → Calls Tryd.prog 66 #[arg] w1 fun e w' => e = .returned (.bool true) ∧ Below w1.heap.size w1 w' := fun w1 hb hg => h ▸ clash_right arg L w1 hg (hV.keep hb) hS
  have hS1 := hS.1
  obtain ⟨A0, c0, rfl, hc, hcell⟩ := hV
  refine calls_plain Tryd.func18 rfl Tryd.ntmps18 rfl ?_
  refine at_seq ?_
  refine at_region ?_
  refine at_do (does_assign rfl) rfl rfl ?_
  refine at_do (does_assign rfl) rfl rfl ?_
  refine at_nil ?_
  refine at_then ?_
  refine at_seq ?_
  refine at_seq ?_
  refine at_region ?_
  refine at_do (does_move rfl) rfl rfl ?_
  refine at_callv (f := 66) (enters_fn (by kernel_rfl) rfl) (fun w ho => cR w ho.plain (ho.glob hG id)) rfl rfl ?_
  refine at_do (does_not rfl) rfl rfl ?_
  refine at_nil ?_
  refine at_then ?_
  refine at_cond_f rfl (by rfl) ?_
  refine at_skip ?_
  refine at_then ?_
  refine at_seq ?_
  refine at_region ?_
  refine at_do (does_move rfl) rfl rfl ?_
  refine at_do (does_len (by kernel_rfl) rfl) rfl rfl ?_
  refine at_make (e := 34) (sz := 1) (by' := 24) (m := L.length) (nils L.length) (by kernel_rfl) ?_ rfl rfl (by simp only [maxLen]; omega) rfl (fun g4 => ?_)
  rotate_left
  refine at_do (does_assign rfl) rfl rfl ?_
  refine at_nil ?_
  refine at_then ?_
  refine at_seq ?_
  refine at_seq ?_
  refine at_region ?_
  refine at_do (does_move rfl) rfl rfl ?_
  refine at_do (does_len (by kernel_rfl) rfl) rfl rfl ?_
  refine at_do (does_move rfl) rfl rfl ?_
  refine at_nil ?_
  refine at_then ?_
  refine at_block ?_
  rotate_left
  · intro t z q1 q2
    have hz : (Tryd.prog.info? 34).bind (·.zero) = some (.slice none 0 0) := by kernel_rfl
    rw [q1] at hz
    simp only [Option.bind_some] at hz
    rw [q2] at hz
    cases hz
    exact made_nils L.length
  refine at_loop (σ := World × List Value × Nat) (fun s => s.2.2 ≤ L.length ∧ s.2.1.length = L.length ∧ (∀ j, j < s.2.2 → ∃ u, s.2.1[j]? = some u ∧ KeptV s.1 (fun k => k ∈ bls [Res.row (.slice (some ⟨g4, 0, none⟩) L.length L.length) 34 1 L.length s.2.1]) u (ints (aheadL L j))) ∧ (∀ j, s.2.2 ≤ j → j < L.length → s.2.1[j]? = some (.slice none 0 0)))
    (fun s => [(0, .slice A0 L.length c0), (4, .slice (some ⟨g4, 0, none⟩) L.length L.length), (14, .slice A0 L.length c0), (15, .int .i64 L.length), (16, .int .i64 s.2.2)])
    (fun s => ⟨w, fun _ => False, fun _ => False, s.1, fun k => k ∈ bls [Res.row (.slice (some ⟨g4, 0, none⟩) L.length L.length) 34 1 L.length s.2.1], []⟩) (fun s => [.row (.slice (some ⟨g4, 0, none⟩) L.length L.length) 34 1 L.length s.2.1]) (fun s => L.length - s.2.2)
    (fun w1 ho => ⟨(w1, nils L.length, 0), ⟨Nat.zero_le _, by simp [nils], fun j hj => absurd hj (by simp), fun j _ hj => by simp [nils, hj]⟩, ⟨rfl, rfl, rfl, rfl, rfl, trivial⟩, rfl, ho.re⟩) ?_
  rintro ⟨W1, us, i⟩ ⟨hi, hul, hK, hN⟩
  simp only at hi hul hK hN
  by_cases hil : i < L.length
  · obtain ⟨gb, o, rfl, hlt, hce⟩ := hcell (by omega)
    obtain ⟨an, bn, n1, n2, n3, n4, n5, n6⟩ := hce i hil
    have hxn := hS.2 L[i] (List.getElem_mem _)
    have hui := hN i (Nat.le_refl _) hil
    refine at_seq ?_
    refine at_region ?_
    refine at_do (does_lss rfl rfl) rfl rfl ?_
    refine at_nil ?_
    refine at_then ?_
    refine at_seq ?_
    refine at_cond_t rfl (decide_eq_true (by (simp only; omega))) ?_
    refine at_skip ?_
    refine at_then ?_
    refine at_seq ?_
    refine at_block ?_
    refine at_seq ?_
    refine at_region ?_
    refine at_do (does_move rfl) rfl rfl ?_
    refine at_do (does_indexAddrk (k := 2) (j := i) (by kernel_rfl) rfl rfl (by omega)) rfl rfl ?_
    refine at_do (does_loadagg_mem (vs := [an, bn]) (by kernel_rfl) rfl (fun w' ho => two_cells (Below.cellOld ho.plain n1) (Below.cellOld ho.plain n2))) rfl rfl ?_
    refine at_allocagg Tryd.zeroValue24 rfl fun gz0 => ?_
    refine at_do (does_assign rfl) rfl rfl ?_
    refine at_storeagg (i := 0) (h := gz0) (tb := 24) (cs := #[.slice none 0 0, .slice none 0 0]) (vs := #[an, bn]) (by kernel_rfl) rfl rfl (by simp [n5, n6]) rfl (by simp) ?_
    refine at_nil ?_
    refine at_then ?_
    refine at_seq ?_
    refine at_region ?_
    refine at_do (does_move rfl) rfl rfl ?_
    refine at_do (does_move rfl) rfl rfl ?_
    refine at_nil ?_
    refine at_then ?_
    refine at_block ?_
    rotate_left
    refine at_nilrow 3 1 ?_
    refine at_loopH (σ := Value × Nat) (fun s => s.2 ≤ i) (fun s => [(0, .slice (some ⟨gb, o, none⟩) L.length c0), (4, .slice (some ⟨g4, 0, none⟩) L.length L.length), (5, .int .i64 i), (6, .pointer (some ⟨gz0, 0, none⟩)), (14, .slice (some ⟨gb, o, none⟩) L.length c0), (15, .int .i64 L.length), (16, .int .i64 i), (21, .int .i64 i), (22, .int .i64 s.2)])
      (fun s => [.row s.1 3 1 (flt L i s.2).length (ints (flt L i s.2)), .blk gz0 24 #[an, bn], .row (.slice (some ⟨g4, 0, none⟩) L.length L.length) 34 1 L.length (us.set i s.1)]) (fun s => i - s.2)
      (fun w ho => ⟨(.slice none 0 0, 0), Nat.zero_le _, ⟨rfl, rfl, rfl, rfl, rfl, rfl, rfl, rfl, rfl, trivial⟩, by
        show Own _ [.row (.slice none 0 0) 3 1 0 [], .blk gz0 24 #[an, bn], .row (.slice (some ⟨g4, 0, none⟩) L.length L.length) 34 1 L.length (us.set i (.slice none 0 0))] w
        rw [List.set_eq_of_getElem? hui]
        exact ho⟩) ?_
    rintro ⟨vi, k⟩ hk
    simp only at hk
    have gi : (us.set i vi)[0 + i]? = some vi := by rw [Nat.zero_add, List.getElem?_set_self (by omega)]
    by_cases hki : k < i
    · obtain ⟨ak, bk, k1, k2, k3, k4, k5, k6⟩ := hce k (by omega)
      have hxk := hS.2 L[k] (List.getElem_mem _)
      have hp : pairW L k i = pairF L[k].1 L[k].2 L[i].1 L[i].2 := oldPair (by omega) (by omega)
      have hfs := flt_succ L i k
      have hfl := flt_len L i k
      have cP : ∀ {w'}, Glob w' → ValsAt w' ak (strs L[k].1) → ValsAt w' bk (strs L[k].2) → ValsAt w' an (strs L[i].1) → ValsAt w' bn (strs L[i].2) → Calls Tryd.prog 14 #[.agg #[ak, bk], .agg #[an, bn]] w' fun e w3 => e = .returned (.bool (pairW L k i)) ∧ Below w'.heap.size w' w3 := fun g x1 x2 x3 x4 => by
        rw [hp]; exact clash_Pair ak bk an bn _ _ _ _ _ g x1 x2 x3 x4 hxk.1 hxk.2 hxn.1 hxn.2 k5 k6 n5 n6
      clear hp
      generalize pairW L k i = pk at hfs cP
      cases pk
      · rw [if_neg (by simp)] at hfs
        refine at_seq ?_
        refine at_region ?_
        refine at_do (does_lss rfl rfl) rfl rfl ?_
        refine at_nil ?_
        refine at_then ?_
        refine at_seq ?_
        refine at_cond_t rfl (decide_eq_true (by omega)) ?_
        refine at_skip ?_
        refine at_then ?_
        refine at_seq ?_
        refine at_block ?_
        refine at_seq ?_
        refine at_region ?_
        refine at_do (does_move rfl) rfl rfl ?_
        refine at_do (does_assign rfl) rfl rfl ?_
        refine at_nil ?_
        refine at_then ?_
        refine at_seq ?_
        refine at_draw (by kernel_rfl) (by kernel_rfl) ?_
        refine atq_do (does_move rfl) rfl rfl ?_
        refine atq_do (does_move rfl) rfl rfl ?_
        refine atq_do (does_indexAddrk (k := 2) (j := k) (by kernel_rfl) rfl rfl (by omega)) rfl rfl ?_
        refine atq_do (does_loadagg_mem (vs := [ak, bk]) (by kernel_rfl) rfl (fun w' ho => two_cells (Below.cellOld ho.plain k1) (Below.cellOld ho.plain k2))) rfl rfl ?_
        refine atq_do (does_loadagg (i := 1) (k := 2) (by kernel_rfl) rfl rfl rfl) rfl rfl ?_
        refine atq_callv (f := 14) (enters_fn (by kernel_rfl) rfl) (fun w ho => cP (ho.glob hG id) (ho.oldVals k3) (ho.oldVals k4) (ho.oldVals n3) (ho.oldVals n4)) rfl rfl ?_
        refine atq_nil ?_
        refine at_then ?_
        refine at_cond_false rfl ?_
        refine at_skip ?_
        refine at_inb ?_
        refine at_then ?_
        refine at_region ?_
        refine at_do (does_addi rfl rfl (by (first | omega | (simp only; omega)))) rfl rfl ?_
        refine at_do (does_move rfl) rfl rfl ?_
        refine at_nil ?_
        refine at_then ?_
        rotate_left
        refine at_againw fun w ho => ⟨(vi, k + 1), by show k + 1 ≤ i; omega, by show i - (k + 1) < i - k; omega, ⟨rfl, rfl, rfl, rfl, rfl, rfl, rfl, rfl, rfl, trivial⟩, rfl, ?_⟩
        show Own _ [.row vi 3 1 (flt L i (k + 1)).length (ints (flt L i (k + 1))), .blk gz0 24 #[an, bn], .row (.slice (some ⟨g4, 0, none⟩) L.length L.length) 34 1 L.length (us.set i vi)] w
        rw [hfs]; exact ho
      · rw [if_pos rfl] at hfs
        refine at_seq ?_
        refine at_region ?_
        refine at_do (does_lss rfl rfl) rfl rfl ?_
        refine at_nil ?_
        refine at_then ?_
        refine at_seq ?_
        refine at_cond_t rfl (decide_eq_true (by omega)) ?_
        refine at_skip ?_
        refine at_then ?_
        refine at_seq ?_
        refine at_block ?_
        refine at_seq ?_
        refine at_region ?_
        refine at_do (does_move rfl) rfl rfl ?_
        refine at_do (does_assign rfl) rfl rfl ?_
        refine at_nil ?_
        refine at_then ?_
        refine at_seq ?_
        refine at_draw (by kernel_rfl) (by kernel_rfl) ?_
        refine atq_do (does_move rfl) rfl rfl ?_
        refine atq_do (does_move rfl) rfl rfl ?_
        refine atq_do (does_indexAddrk (k := 2) (j := k) (by kernel_rfl) rfl rfl (by omega)) rfl rfl ?_
        refine atq_do (does_loadagg_mem (vs := [ak, bk]) (by kernel_rfl) rfl (fun w' ho => two_cells (Below.cellOld ho.plain k1) (Below.cellOld ho.plain k2))) rfl rfl ?_
        refine atq_do (does_loadagg (i := 1) (k := 2) (by kernel_rfl) rfl rfl rfl) rfl rfl ?_
        refine atq_callv (f := 14) (enters_fn (by kernel_rfl) rfl) (fun w ho => cP (ho.glob hG id) (ho.oldVals k3) (ho.oldVals k4) (ho.oldVals n3) (ho.oldVals n4)) rfl rfl ?_
        refine atq_nil ?_
        refine at_then ?_
        refine at_cond_true rfl ?_
        refine at_region ?_
        refine at_do (does_move rfl) rfl rfl ?_
        refine at_do (does_move rfl) rfl rfl ?_
        refine at_do (does_move rfl) rfl rfl ?_
        refine at_do (does_move rfl) rfl rfl ?_
        refine at_do (does_indexAddr1 (j := i) (by kernel_rfl) rfl rfl (by omega)) rfl rfl ?_
        refine at_do (does_rowload (i := 2) (j := 0 + i) (by kernel_rfl) rfl rfl (by omega) gi) rfl rfl ?_
        refine at_do (does_move rfl) rfl rfl ?_
        refine at_buildSlice (e := 3) (sz := 1) (vs := [.int .i64 k]) (cs := [.int .i64 k]) (by kernel_rfl) rfl rfl rfl rfl rfl rfl (fun g3 => ?_)
        refine at_append (i := 1) (sz := 1) (by' := 8) (k := 1) (A := ⟨g3, 0, none⟩) (news := [.int .i64 k]) (by kernel_rfl) rfl rfl rfl rfl (fun w ho => lit_cells ho (i := 0) rfl) (oneCell_of rfl) (by simp only [maxLen]; omega) rfl (fun v' hv' => ?_)
        refine at_do (does_indexAddr1 (j := i) (by kernel_rfl) rfl rfl (by omega)) rfl rfl ?_
        refine at_rowstore (i := 3) (j := 0 + i) (by kernel_rfl) rfl rfl hv' rfl (by omega) ?_
        refine at_nil ?_
        refine at_inb ?_
        refine at_then ?_
        refine at_region ?_
        refine at_do (does_addi rfl rfl (by (first | omega | (simp only; omega)))) rfl rfl ?_
        refine at_do (does_move rfl) rfl rfl ?_
        refine at_nil ?_
        refine at_then ?_
        rotate_left
        refine at_againw fun w ho => ⟨(v', k + 1), by show k + 1 ≤ i; omega, by show i - (k + 1) < i - k; omega, ⟨rfl, rfl, rfl, rfl, rfl, rfl, rfl, rfl, rfl, trivial⟩, rfl, ?_⟩
        show Own _ [.row v' 3 1 (flt L i (k + 1)).length (ints (flt L i (k + 1))), .blk gz0 24 #[an, bn], .row (.slice (some ⟨g4, 0, none⟩) L.length L.length) 34 1 L.length (us.set i v')] w
        have e1 : (flt L i k ++ [k]).length = (flt L i k).length + 1 := by simp
        have e2 : ints (flt L i k ++ [k]) = ints (flt L i k) ++ [.int .i64 k] := by simp [ints]
        have e3 : (us.set i vi).set (0 + i) v' = us.set i v' := by rw [Nat.zero_add, List.set_set]
        rw [hfs, e1, e2, ← e3]
        exact ho.sublist (List.sublist_cons_self ..)
    · obtain rfl : k = i := by omega
      refine at_seq ?_
      refine at_region ?_
      refine at_do (does_lss rfl rfl) rfl rfl ?_
      refine at_nil ?_
      refine at_then ?_
      refine at_seq ?_
      refine at_cond_f rfl (decide_eq_false (by omega)) ?_
      refine at_exit ?_
      refine at_then_exit ?_
      refine at_then_exit ?_
      refine at_inb_here ?_
      refine at_inb ?_
      refine at_then ?_
      refine at_region ?_
      refine at_do (does_addi rfl rfl (by omega)) rfl rfl ?_
      refine at_do (does_move rfl) rfl rfl ?_
      refine at_nil ?_
      refine at_then ?_
      rotate_left
      refine at_againw fun w' ho => ⟨(w', us.set k vi, k + 1), ⟨by show k + 1 ≤ L.length; omega, by show (us.set k vi).length = L.length; simpa using hul, fun j hj => ?_, fun j hj hjl => ?_⟩, by show L.length - (k + 1) < L.length - k; omega, ⟨rfl, rfl, rfl, rfl, rfl, trivial⟩, rfl, (ho.sublist (.cons _ (.cons _ (List.Sublist.refl _)))).re⟩
      · have hj : j < k + 1 := hj
        by_cases hjk : j < k
        · obtain ⟨u, q1, q2⟩ := hK j hjk
          exact ⟨u, by show (us.set k vi)[j]? = some u; rw [List.getElem?_set_ne (by omega)]; exact q1, q2.move ho.base (fun g _ h => h)⟩
        · have hje : j = k := by omega
          rw [hje]
          refine ⟨vi, by show (us.set k vi)[k]? = some vi; rw [List.getElem?_set_self (by omega)], vals_of_row (ho.rowAt (i := 0) rfl), fun _ g hg hb => ?_⟩
          have hsp := Own.split (A := []) ho g (by simpa [Res.blocks] using hg)
          exact hsp.2 (by rw [bls_cons]; exact List.mem_append_right _ hb)
      · show (us.set k vi)[j]? = some (.slice none 0 0)
        have hj : k + 1 ≤ j := hj
        rw [List.getElem?_set_ne (by omega)]
        exact hN j (by omega) hjl
  · obtain rfl : i = L.length := by omega
    refine at_seq ?_
    refine at_region ?_
    refine at_do (does_lss rfl rfl) rfl rfl ?_
    refine at_nil ?_
    refine at_then ?_
    refine at_seq ?_
    refine at_cond_f rfl (decide_eq_false (by (simp only; omega))) ?_
    refine at_exit ?_
    refine at_then_exit ?_
    refine at_then_exit ?_
    refine at_inb_here ?_
    refine at_then ?_
    refine at_seq ?_
    refine at_region ?_
    refine at_do (does_move rfl) rfl rfl ?_
    refine at_do (does_assign rfl) rfl rfl ?_
    refine at_do (does_assign rfl) rfl rfl ?_
    refine at_nil ?_
    refine at_then ?_
    refine at_ret ?_
    refine at_ret2 rfl rfl rfl rfl (fun w9 ho9 => ?_)
    rotate_left
    refine ⟨_, rfl, ho9.plain, ⟨g4, L.length, rfl, fun j hj => ?_⟩, fun g hg => ?_⟩
    · obtain ⟨u, q1, q2⟩ := hK j hj
      have hrow := (ho9.rowAt (i := 0) rfl).cellAt j (by omega)
      refine ⟨u, by rw [Nat.zero_add]; exact hrow.trans q1, (q2.move ho9.base (fun k _ h => h)).1⟩
    · have hg' : g = g4 := by simpa [Value.ownBlock] using hg.symm
      subst hg'
      exact (ho9.mine g (by simp [bls, Res.blocks, Value.ownBlock])).1.resolve_right id
end Go.Proofs.YtchfecmabhfooaaDoor
