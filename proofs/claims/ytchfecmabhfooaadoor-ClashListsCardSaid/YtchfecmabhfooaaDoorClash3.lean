/-
  What a want touches, one behind the other. No condition of its own.
-/
import Derived.Test.YtchfecmabhfooaaDoorClash2
set_option linter.unusedSimpArgs false
set_option linter.unusedVariables false
namespace Go.Proofs.YtchfecmabhfooaaDoor
open Go.RowKit

def arrCell (P : Program) (t : TypeId) : Option Nat := match P.underlying t with
  | some (.array l e) => if sizeT P e == some 1 && plainT P e then some l else none
  | _ => none
theorem does_aidx {P : Program} {n : Nat} {E : List (Nat × Value)} {C : Ctx} {H : List Res} {dst : Option Tmp} {ty : TypeId} {pos : String} {after : Array Edge} {g : Option (Nat × Bool)} {x y : Operand} {xT : TypeId} {cs : Array Value} {l q : Nat} {kk : IntKind} {v : Value}
    (hT : arrCell P xT = some l) (hx : ev E x = some (.agg cs)) (hy : ev E y = some (.int kk (q : Int))) (hq : q < l) (hv : cs[q]? = some v) : Does P n E C H ⟨dst, .index xT x y, ty, pos, after, g⟩ v := by
  intro a w hf ho
  unfold arrCell at hT
  split at hT
  · rename_i l' e he
    split at hT
    · rename_i hh
      cases hT
      simp only [Bool.and_eq_true, beq_iff_eq] at hh
      have hs := run_sizeT hh.1 w
      simp only [execOp, hf.eval hx, hf.eval hy]
      simp [go_sem, Instr.index, asIntOf, run_underlying he, hq, hs, part, run_isAgg_plain hh.2, asAgg, hv]
    · cases hT
  · cases hT
attribute [local irreducible] cwp lwp Exit.then Exit.inBlock Exit.noGoto wpQuiet Calls fin At AtQ Again endQ RQ
theorem clash_all (a b : Value) (w : World) (o1 : a.oneCell' = true) (o2 : b.oneCell' = true) : Calls Tryd.prog 87 #[.agg #[a, b]] w fun e w' => ∃ h, e = .returned (.func (.func 101) #[] #[.pointer (some ⟨h, 0, none⟩)]) ∧ Below w.heap.size w w' ∧ w.heap.size ≤ h ∧ w'.heap[h]? = some (.cells #[a, b] 24) := by
  refine calls_plain Tryd.func87 rfl Tryd.ntmps87 rfl ?_
  refine at_seq ?_
  refine at_region ?_
  refine at_boxagg rfl rfl fun gz0 => ?_
  refine at_do (does_assign rfl) rfl rfl ?_
  refine at_nil ?_
  refine at_then ?_
  refine at_seq ?_
  refine at_region ?_
  refine at_do (does_makeFunc rfl) rfl rfl ?_
  refine at_do (does_assign rfl) rfl rfl ?_
  refine at_nil ?_
  refine at_then ?_
  refine at_ret ?_
  refine at_ret1 rfl rfl rfl (fun w9 ho9 => ?_)
  rotate_left
  exact ⟨_, rfl, ho9.plain, (ho9.blkOut (List.mem_cons_self ..)).1, (ho9.blkOut (List.mem_cons_self ..)).2⟩
def offF (R W : List (List UInt8)) (k : Nat) : Nat := if k = 0 then 0 else if k = 1 then R.length else R.length + W.length
theorem shapeTwo : shapeArr Tryd.prog 111 = some ([.slice none 0 0, .slice none 0 0], 1) := by kernel_rfl
set_option maxHeartbeats 1000000 in
theorem clash_all1 (a b : Value) (R W : List (List UInt8)) {h tb : Nat} (w : World) (G : Nat → Prop) (hc : w.heap[h]? = some (.cells #[a, b] tb)) (h1 : ValsAt w a (strs R)) (h2 : ValsAt w b (strs W)) (hR : R.length ≤ 1000) (hW : W.length ≤ 1000)
    (hG1 : 0 < R.length → ∀ g ∈ a.ownBlock, ¬ G g) (hG2 : 0 < W.length → ∀ g ∈ b.ownBlock, ¬ G g) : SeqC Tryd.prog 101 [.pointer (some ⟨h, 0, none⟩)] (strs (R ++ W)) G w := by
  intro l J Jx hJf hxf hst hxst hY h0
  obtain ⟨A1, c1, rfl⟩ := h1.len
  obtain ⟨A2, c2, rfl⟩ := h2.len
  have hcell : ∀ j u, (#[.slice A1 (strs R).length c1, .slice A2 (strs W).length c2] : Array Value)[j]? = some u → w.cell? ⟨h, j, none⟩ = some u := fun j u hu => (cell_of_row w h j _ tb (0, 0) hc).trans hu
  have lr := strs_len R
  have lw := strs_len W
  refine calls_it G Tryd.func101 rfl Tryd.ntmps101 rfl ?_
  refine at_seq ?_
  refine at_region ?_
  refine at_do (does_fieldAddr (o := 0) (by kernel_rfl) rfl) rfl rfl ?_
  refine at_do (does_load_mem (by kernel_rfl) rfl (fun w' ho => Below.cellOld ho.it (hcell 0 _ rfl))) rfl rfl ?_
  refine at_do (does_fieldAddr (o := 1) (by kernel_rfl) rfl) rfl rfl ?_
  refine at_do (does_load_mem (by kernel_rfl) rfl (fun w' ho => Below.cellOld ho.it (hcell 1 _ rfl))) rfl rfl ?_
  refine at_do (does_buildarr (cs := [.slice A1 (strs R).length c1, .slice A2 (strs W).length c2]) shapeTwo rfl rfl) rfl rfl ?_
  refine at_do (does_move rfl) rfl rfl ?_
  refine at_nil ?_
  refine at_then ?_
  refine at_block ?_
  rotate_left
  refine at_itloop hJf hst (offF R W) (fun k : Nat => k ≤ 2) (fun k => [(0, yv l), (11, .agg #[.slice A1 (strs R).length c1, .slice A2 (strs W).length c2]), (12, .int .i64 k)]) (fun k => 2 - k) 0 (Nat.zero_le _) h0 ⟨rfl, rfl, rfl, trivial⟩ ?_
  rintro k W0 hk hJ
  by_cases hk2 : k < 2
  · obtain ⟨T, AT, cT, hidx, hT, hTl, hGT, hxs, hoff⟩ : ∃ (T : List (List UInt8)) (AT : Option Addr) (cT : Nat), (#[.slice A1 (strs R).length c1, .slice A2 (strs W).length c2] : Array Value)[k]? = some (.slice AT (strs T).length cT) ∧ ValsAt w (.slice AT (strs T).length cT) (strs T) ∧ T.length ≤ 1000 ∧ (0 < T.length → ∀ g ∈ (Value.slice AT (strs T).length cT).ownBlock, ¬ G g) ∧
        (∀ i (hi : i < T.length), (strs (R ++ W))[offF R W k + i]? = some (.string (bs T[i]))) ∧ offF R W (k + 1) = offF R W k + T.length := by
      match k, hk2 with
      | 0, _ => exact ⟨R, A1, c1, rfl, h1, hR, hG1, fun i hi => by
          have : (R ++ W)[i]? = some R[i] := by rw [List.getElem?_append_left hi, List.getElem?_eq_getElem hi]
          rw [show offF R W 0 + i = i by simp [offF]]
          unfold strs
          rw [List.getElem?_map, this]; rfl, by simp [offF]⟩
      | 1, _ => exact ⟨W, A2, c2, rfl, h2, hW, hG2, fun i hi => by
          have : (R ++ W)[R.length + i]? = some W[i] := by rw [List.getElem?_append_right (by omega), show R.length + i - R.length = i by omega, List.getElem?_eq_getElem hi]
          rw [show offF R W 1 + i = R.length + i by simp [offF]]
          unfold strs
          rw [List.getElem?_map, this]; rfl, by simp [offF]⟩
    have lt := strs_len T
    refine at_seq ?_
    refine at_region ?_
    refine at_do (does_lss rfl rfl) rfl rfl ?_
    refine at_nil ?_
    refine at_then ?_
    refine at_seq ?_
    refine at_cond_t rfl (decide_eq_true (by omega)) ?_
    refine at_skip ?_
    refine at_then ?_
    refine at_seq ?_
    refine at_block ?_
    refine at_seq ?_
    refine at_region ?_
    refine at_do (does_aidx (q := k) (by kernel_rfl) rfl rfl (by omega) hidx) rfl rfl ?_
    refine at_do (does_assign rfl) rfl rfl ?_
    refine at_nil ?_
    refine at_then ?_
    refine at_seq ?_
    refine at_region ?_
    refine at_do (does_move rfl) rfl rfl ?_
    refine at_do (does_len (by kernel_rfl) rfl) rfl rfl ?_
    refine at_do (does_move rfl) rfl rfl ?_
    refine at_nil ?_
    refine at_then ?_
    refine at_block ?_
    rotate_left
    refine at_itloop hJf hst (fun i => offF R W k + i) (fun i : Nat => i ≤ T.length) (fun i => [(0, yv l), (11, .agg #[.slice A1 (strs R).length c1, .slice A2 (strs W).length c2]), (12, .int .i64 k), (15, .slice AT (strs T).length cT), (16, .int .i64 (strs T).length), (17, .int .i64 i)]) (fun i => T.length - i) 0 (Nat.zero_le _) hJ ⟨rfl, rfl, rfl, rfl, rfl, rfl, trivial⟩ ?_
    rintro i W1 hi hJ1
    by_cases hil : i < T.length
    · obtain ⟨gb, o, c, hv, hcc, hlt, hce⟩ := hT.form (by omega)
      simp only [Value.slice.injEq, true_and] at hv
      obtain ⟨rfl, rfl⟩ := hv
      have hci := hce i _ (strs_get hil)
      have hci1 : W1.cell? ⟨gb, o + i, none⟩ = some (.string (bs T[i])) := (World.cell?_of_block ((hJf _ _ hJ1).old gb hlt (hGT (by omega) gb (by simp [Value.ownBlock])))).trans hci
      have hxi := hxs i hil
      generalize T[i] = x at hci1 hxi
      refine at_seq ?_
      refine at_region ?_
      refine at_do (does_lss rfl rfl) rfl rfl ?_
      refine at_nil ?_
      refine at_then ?_
      refine at_seq ?_
      refine at_cond_t rfl (decide_eq_true (by omega)) ?_
      refine at_skip ?_
      refine at_then ?_
      refine at_seq ?_
      refine at_block ?_
      refine at_seq ?_
      refine at_region ?_
      refine at_do (does_indexAddr1 (by kernel_rfl) rfl rfl (by omega)) rfl rfl ?_
      refine at_do (does_load_mem (by kernel_rfl) rfl (fun w' ho => Below.cellOld ho.it hci1)) rfl rfl ?_
      refine at_do (does_assign rfl) rfl rfl ?_
      refine at_nil ?_
      refine at_then ?_
      refine at_seq ?_
      refine at_region ?_
      refine at_do (does_move rfl) rfl rfl ?_
      refine at_do (does_move rfl) rfl rfl ?_
      refine at_yield (i := offF R W k + i) (x := .string (bs x)) rfl rfl rfl hJf hxf hst hJ1 (fun W' hj => hY _ _ W' hxi hj) (fun W' hj => ?_) (fun W' hj => ?_)
      refine at_do (does_not rfl) rfl rfl ?_
      refine at_nil ?_
      refine at_then ?_
      refine at_cond_f rfl (by rfl) ?_
      refine at_skip ?_
      refine at_inb ?_
      refine at_then ?_
      refine at_region ?_
      refine at_do (does_addi rfl rfl (by omega)) rfl rfl ?_
      refine at_do (does_move rfl) rfl rfl ?_
      refine at_nil ?_
      refine at_then ?_
      rotate_left
      refine at_do (does_not rfl) rfl rfl ?_
      refine at_nil ?_
      refine at_then ?_
      refine at_cond_t rfl (by rfl) ?_
      refine at_ret ?_
      refine at_inb_ret ?_
      refine at_then_ret ?_
      refine at_then_ret ?_
      refine at_inb_ret ?_
      refine at_inb_ret ?_
      refine at_then_ret ?_
      refine at_then_ret ?_
      refine at_inb_ret ?_
      refine at_ret0 rfl rfl (fun w9 ho9 => ?_)
      rotate_left
      · refine at_againw fun w ho => ⟨(i + 1, w), ⟨by show i + 1 ≤ T.length; omega, hst _ _ _ hj ho.it⟩, by show T.length - (i + 1) < T.length - i; omega, ⟨rfl, rfl, rfl, rfl, rfl, rfl, trivial⟩, rfl, itC_own (hJf _ _ (hst _ _ _ hj ho.it))⟩
      · exact ⟨⟨_, rfl⟩, .inr (hxst _ _ hj ho9.it)⟩
    · obtain rfl : i = T.length := by omega
      refine at_seq ?_
      refine at_region ?_
      refine at_do (does_lss rfl rfl) rfl rfl ?_
      refine at_nil ?_
      refine at_then ?_
      refine at_seq ?_
      refine at_cond_f rfl (decide_eq_false (by omega)) ?_
      refine at_exit ?_
      refine at_then_exit ?_
      refine at_then_exit ?_
      refine at_inb_here ?_
      refine at_inb ?_
      refine at_then ?_
      refine at_region ?_
      refine at_do (does_addi rfl rfl (by omega)) rfl rfl ?_
      refine at_do (does_move rfl) rfl rfl ?_
      refine at_nil ?_
      refine at_then ?_
      rotate_left
      refine at_againw fun w ho => ⟨(k + 1, w), ⟨by show k + 1 ≤ 2; omega, by show J (offF R W (k + 1)) w; rw [hoff]; exact hst _ _ _ hJ1 ho.it⟩, by show 2 - (k + 1) < 2 - k; omega, ⟨rfl, rfl, rfl, trivial⟩, rfl, itC_own (hJf _ _ (hst _ _ _ hJ1 ho.it))⟩
  · obtain rfl : k = 2 := by omega
    refine at_seq ?_
    refine at_region ?_
    refine at_do (does_lss rfl rfl) rfl rfl ?_
    refine at_nil ?_
    refine at_then ?_
    refine at_seq ?_
    refine at_cond_f rfl (decide_eq_false (by omega)) ?_
    refine at_exit ?_
    refine at_then_exit ?_
    refine at_then_exit ?_
    refine at_inb_here ?_
    refine at_end0 rfl rfl (fun w9 ho9 => ?_)
    rotate_left
    refine ⟨⟨_, rfl⟩, .inl ?_⟩
    have e : (strs (R ++ W)).length = offF R W 2 := by simp [strs, offF]
    rw [e]
    exact hst _ _ _ hJ ho9.it
end Go.Proofs.YtchfecmabhfooaaDoor
