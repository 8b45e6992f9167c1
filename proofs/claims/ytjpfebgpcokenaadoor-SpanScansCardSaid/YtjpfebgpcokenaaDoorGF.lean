/-
  The reference's items of a trunk, bucket by bucket. No condition of its own.
  The reference's items of a trunk, in order. No condition of its own.
  The reference's items of a range. No condition of its own.
  Where a key stands in a list, some place; a key's bucket. No condition of its own.
  A key's item of a trunk, some item. No condition of its own.
  An item put into a trunk. No condition of its own.
  The plain law of a span: what the package's functions give at a trunk that may be is what the reference says. No condition of its own.
-/
import Derived.Test.YtjpfebgpcokenaaDoorGE
set_option linter.unusedSimpArgs false
set_option linter.unusedVariables false
namespace Go.Proofs.YtjpfebgpcokenaaDoor
open Go.RowKit
attribute [local irreducible] cwp lwp Exit.then Exit.inBlock Exit.noGoto wpQuiet Calls fin At AtQ Again endQ RQ
theorem itms_app (xs ys : List Itm) : itms (xs ++ ys) = itms xs ++ itms ys := by simp [itms]
theorem flat_take {fs : List (List Itm)} {b : Nat} (h : b < fs.length) : (fs.take (b + 1)).flatten = (fs.take b).flatten ++ fs.getD b [] := by
  rw [List.take_succ_eq_append_getElem h, List.flatten_append]
  simp [List.getD_eq_getElem?_getD, h]
theorem flat_take_len (fs : List (List Itm)) (b : Nat) : (fs.take b).flatten.length ≤ fs.flatten.length := by
  conv => rhs; rw [← List.take_append_drop b fs, List.flatten_append]
  rw [List.length_append]; omega
set_option maxHeartbeats 8000000 in
theorem ref_All10 (ls : List Value) (vs : List Int) (fs : List (List Itm)) (w : World) (hT : TrunkV w Nof ls fs) (hvs : vs.length = 16) (hS : SmallT fs) :
    Calls Tryd.prog 44 #[trunkA ls vs] w fun e w' => ∃ u, e = .returned u ∧ Below w.heap.size w w' ∧ w'.ownsRow w.heap.size IT 5 u fs.flatten.length (itms fs.flatten) := by
  have hl1 := hT.l1
  have hl2 := hT.l2
  have h32 := trunk_size hl1 hvs
  have hfl := hS.flat hl2
  have hNN : fs.flatten.length ≤ 2000 := hfl
  refine calls_plain Tryd.func44 rfl Tryd.ntmps44 rfl ?_
  refine at_seq ?_
  refine at_region ?_
  refine at_boxagg rfl rfl fun gz0 => ?_
  refine at_do (does_assign rfl) rfl rfl ?_
  refine at_nil ?_
  refine at_then ?_
  refine at_seq ?_
  refine at_region ?_
  refine at_do (does_assign rfl) rfl rfl ?_
  refine at_nil ?_
  refine at_then ?_
  refine at_seq ?_
  refine at_seq ?_
  refine at_region ?_
  refine at_do (does_assign rfl) rfl rfl ?_
  refine at_nil ?_
  refine at_then ?_
  refine at_block ?_
  rotate_left
  refine at_loopH (σ := Value × Nat) (fun s => s.2 ≤ 16) (fun s => [(1, .pointer (some ⟨gz0, 0, none⟩)), (3, s.1), (4, .int .i64 s.2)]) (fun s => [.row s.1 IT 5 (fs.take s.2).flatten.length (itms (fs.take s.2).flatten), .blk gz0 26 (trunkC ls vs)]) (fun s => 16 - s.2)
    (fun w ho => ⟨(.slice none 0 0, 0), Nat.zero_le _, ⟨rfl, rfl, rfl, trivial⟩, ho.nilrow IT 5⟩) ?_
  rintro ⟨u, b⟩ hb
  simp only at hb
  by_cases hb16 : b < 16
  · obtain ⟨vb, hvb, hvi⟩ := hT.at' b hb16
    have hleaf := trunk_leaf (vs := vs) hl1 hvb
    have hft := flat_take (fs := fs) (b := b) (by omega)
    have hfl1 := flat_take_len fs (b + 1)
    rw [hft, List.length_append] at hfl1
    generalize fs.getD b [] = xs at hvi hft hfl1
    have K := hvi.1
    rcases hvi.1 with ⟨rfl, rfl⟩ | ⟨A, c, rfl, hc, hcell⟩
    · refine at_seq ?_
      refine at_seq ?_
      refine at_region ?_
      refine at_do (does_move rfl) rfl rfl ?_
      refine at_do (does_lss rfl rfl) rfl rfl ?_
      refine at_nil ?_
      refine at_then ?_
      refine at_cond_t rfl (decide_eq_true (by (simp only; omega))) ?_
      refine at_skip ?_
      refine at_then ?_
      refine at_seq ?_
      refine at_block ?_
      refine at_region ?_
      refine at_do (does_move rfl) rfl rfl ?_
      refine at_do (does_move rfl) rfl rfl ?_
      refine at_do (does_fieldAddr (o := 0) (by kernel_rfl) rfl) rfl rfl ?_
      refine at_do (does_indexArr1 (len := 16) (j := b) (by kernel_rfl) rfl rfl hb16) rfl rfl ?_
      refine at_do (does_load (i := 1) (j := 0 + 0 + b) (by kernel_rfl) rfl rfl (by rw [show 0 + 0 + b = b by omega]; exact hleaf)) rfl rfl ?_
      refine at_do (does_append0 (i := 0) (e := IT) (sz := 5) (by' := 56) (by kernel_rfl) rfl rfl rfl) rfl rfl ?_
      refine at_do (does_assign rfl) rfl rfl ?_
      refine at_nil ?_
      refine at_inb ?_
      refine at_then ?_
      refine at_region ?_
      refine at_do (does_move rfl) rfl rfl ?_
      refine at_do (does_addi rfl rfl (by (first | omega | (simp only; omega)))) rfl rfl ?_
      refine at_do (does_assign rfl) rfl rfl ?_
      refine at_nil ?_
      refine at_then ?_
      rotate_left
      refine at_againw fun w ho => ⟨(u, b + 1), by show b + 1 ≤ 16; omega, by show 16 - (b + 1) < 16 - b; omega, ⟨rfl, rfl, rfl, trivial⟩, rfl, ?_⟩
      show Own _ [.row u IT 5 (fs.take (b + 1)).flatten.length (itms (fs.take (b + 1)).flatten), .blk gz0 26 (trunkC ls vs)] w
      rw [hft, List.append_nil]
      exact ho
    · refine at_seq ?_
      refine at_seq ?_
      refine at_region ?_
      refine at_do (does_move rfl) rfl rfl ?_
      refine at_do (does_lss rfl rfl) rfl rfl ?_
      refine at_nil ?_
      refine at_then ?_
      refine at_cond_t rfl (decide_eq_true (by (simp only; omega))) ?_
      refine at_skip ?_
      refine at_then ?_
      refine at_seq ?_
      refine at_block ?_
      refine at_region ?_
      refine at_do (does_move rfl) rfl rfl ?_
      refine at_do (does_move rfl) rfl rfl ?_
      refine at_do (does_fieldAddr (o := 0) (by kernel_rfl) rfl) rfl rfl ?_
      refine at_do (does_indexArr1 (len := 16) (j := b) (by kernel_rfl) rfl rfl hb16) rfl rfl ?_
      refine at_do (does_load (i := 1) (j := 0 + 0 + b) (by kernel_rfl) rfl rfl (by rw [show 0 + 0 + b = b by omega]; exact hleaf)) rfl rfl ?_
      refine at_append (i := 0) (e := IT) (sz := 5) (by' := 56) (m := (fs.take b).flatten.length) (k := xs.length) (A := A) (news := itms xs) (by kernel_rfl) rfl rfl rfl (itms_len xs) (fun w ho j u hu => Below.cellOld ho.plain (hcell j u hu)) (itms_one xs) (by simp only [maxLen]; omega) rfl (fun v4 hv4 => ?_)
      refine at_do (does_assign rfl) rfl rfl ?_
      refine at_nil ?_
      refine at_inb ?_
      refine at_then ?_
      refine at_region ?_
      refine at_do (does_move rfl) rfl rfl ?_
      refine at_do (does_addi rfl rfl (by (first | omega | (simp only; omega)))) rfl rfl ?_
      refine at_do (does_assign rfl) rfl rfl ?_
      refine at_nil ?_
      refine at_then ?_
      rotate_left
      refine at_againw fun w ho => ⟨(v4, b + 1), by show b + 1 ≤ 16; omega, by show 16 - (b + 1) < 16 - b; omega, ⟨rfl, rfl, rfl, trivial⟩, rfl, ?_⟩
      show Own _ [.row v4 IT 5 (fs.take (b + 1)).flatten.length (itms (fs.take (b + 1)).flatten), .blk gz0 26 (trunkC ls vs)] w
      rw [hft, List.length_append, itms_app]
      exact ho
  · obtain rfl : b = 16 := by omega
    have e0 : fs.take 16 = fs := List.take_of_length_le (by omega)
    simp only [e0]
    refine at_seq ?_
    refine at_seq ?_
    refine at_region ?_
    refine at_do (does_move rfl) rfl rfl ?_
    refine at_do (does_lss rfl rfl) rfl rfl ?_
    refine at_nil ?_
    refine at_then ?_
    refine at_cond_f rfl (decide_eq_false (by omega)) ?_
    refine at_exit ?_
    refine at_then_exit ?_
    refine at_then_exit ?_
    refine at_inb_here ?_
    refine at_then ?_
    refine at_seq ?_
    refine at_region ?_
    refine at_do (does_move rfl) rfl rfl ?_
    refine at_do (does_assign rfl) rfl rfl ?_
    refine at_nil ?_
    refine at_then ?_
    refine at_ret ?_
    refine at_ret1 rfl rfl rfl (fun w9 ho9 => ?_)
    rotate_left
    exact ⟨_, rfl, ho9.plain, ho9.rowOut (List.mem_cons_self ..)⟩
end Go.Proofs.YtjpfebgpcokenaaDoor
set_option linter.unusedSimpArgs false
set_option linter.unusedVariables false
namespace Go.Proofs.YtjpfebgpcokenaaDoor
open Go.RowKit
attribute [local irreducible] cwp lwp Exit.then Exit.inBlock Exit.noGoto wpQuiet Calls fin At AtQ Again endQ RQ
theorem two_filters (x : Itm) : ∀ out : List Itm, (out.filter (fun a => lessI a x)).length + (out.filter (fun a => lessI x a)).length ≤ out.length
  | [] => by simp
  | a :: out => by
    have ih := two_filters x out
    cases h1 : lessI a x
    · cases h2 : lessI x a <;> simp only [List.filter_cons, h1, h2, if_true, Bool.false_eq_true, if_false, List.length_cons] <;> omega
    · have h2 : lessI x a = false := by
        cases hx : lessI x a
        · rfl
        · exact (lessI_asym h1 hx).elim
      simp only [List.filter_cons, h1, h2, if_true, Bool.false_eq_true, if_false, List.length_cons]
      omega
theorem withI_len (out : List Itm) (x : Itm) : (withI out x).length ≤ out.length + 1 := by
  have := two_filters x out
  simp only [withI, List.length_append, List.length_cons, List.length_nil]
  omega
theorem fold_len : ∀ (l out : List Itm), (l.foldl withI out).length ≤ out.length + l.length
  | [], out => by simp
  | x :: l, out => by
    have h1 := fold_len l (withI out x)
    have h2 := withI_len out x
    simp only [List.foldl_cons, List.length_cons]
    omega
theorem withI_mem {out : List Itm} {x a : Itm} (h : a ∈ withI out x) : a = x ∨ a ∈ out := by
  simp only [withI, List.mem_append, List.mem_filter, List.mem_singleton] at h
  rcases h with (h | h) | h
  · exact .inr h.1
  · exact .inl h
  · exact .inr h.1
theorem fold_mem : ∀ (l out : List Itm) (a : Itm), a ∈ l.foldl withI out → a ∈ out ∨ a ∈ l
  | [], out, a, h => .inl h
  | x :: l, out, a, h => by
    rcases fold_mem l (withI out x) a h with h | h
    · rcases withI_mem h with rfl | h
      · exact .inr (List.mem_cons_self ..)
      · exact .inl h
    · exact .inr (List.mem_cons_of_mem _ h)
theorem flat_small {fs : List (List Itm)} (hS : SmallT fs) : ∀ x ∈ fs.flatten, x.key.length ≤ 60 := fun x hx => by
  obtain ⟨f, hf, hxf⟩ := List.mem_flatten.1 hx
  obtain ⟨i, hi, rfl⟩ := List.getElem_of_mem hf
  exact (hS i).2 x (by rw [List.getD_eq_getElem?_getD, List.getElem?_eq_getElem hi]; exact hxf)
set_option maxHeartbeats 8000000 in
theorem ref_All (ls : List Value) (vs : List Int) (fs : List (List Itm)) (w : World) (hT : TrunkV w Nof ls fs) (hvs : vs.length = 16) (hS : SmallT fs) :
    Calls Tryd.prog 18 #[trunkA ls vs] w fun e w' => ∃ u, e = .returned u ∧ Below w.heap.size w w' ∧ w'.ownsRow w.heap.size IT 5 u (allI fs.flatten).length (itms (allI fs.flatten)) := by
  have h32 := trunk_size hT.l1 hvs
  have hNN : fs.flatten.length ≤ 2000 := hS.flat hT.l2
  have hkk := flat_small hS
  have cA : ∀ {w'}, TrunkV w' Nof ls fs → Calls Tryd.prog 44 #[trunkA ls vs] w' fun e w3 => ∃ u, e = .returned u ∧ Below w'.heap.size w' w3 ∧ w3.ownsRow w'.heap.size IT 5 u fs.flatten.length (itms fs.flatten) := fun h => ref_All10 ls vs fs _ h hvs hS
  refine calls_plain Tryd.func18 rfl Tryd.ntmps18 rfl ?_
  generalize fs.flatten = fl at *
  refine at_seq ?_
  refine at_region ?_
  refine at_boxagg rfl rfl fun gz0 => ?_
  refine at_do (does_assign rfl) rfl rfl ?_
  refine at_nil ?_
  refine at_then ?_
  refine at_seq ?_
  refine at_region ?_
  refine at_do (does_assign rfl) rfl rfl ?_
  refine at_nil ?_
  refine at_then ?_
  refine at_seq ?_
  refine at_region ?_
  refine at_do (does_loadagg (i := 0) (k := 32) (by kernel_rfl) rfl rfl h32) rfl rfl ?_
  refine at_callrow (f := 44) (enters_fn (by kernel_rfl) rfl) (fun w ho => cA (ho.oldTrunk hT)) rfl rfl (fun v => ?_)
  refine at_do (does_assign rfl) rfl rfl ?_
  refine at_nil ?_
  refine at_then ?_
  refine at_seq ?_
  refine at_seq ?_
  refine at_region ?_
  refine at_do (does_assign rfl) rfl rfl ?_
  refine at_nil ?_
  refine at_then ?_
  refine at_block ?_
  rotate_left
  refine at_loopH (σ := Value × Nat) (fun s => s.2 ≤ fl.length) (fun s => [(4, v), (3, s.1), (5, .int .i64 s.2)]) (fun s => [.row s.1 IT 5 ((fl.take s.2).foldl withI []).length (itms ((fl.take s.2).foldl withI [])), .row v IT 5 fl.length (itms fl)]) (fun s => fl.length - s.2)
    (fun w ho => ⟨(.slice none 0 0, 0), Nat.zero_le _, ⟨rfl, rfl, rfl, trivial⟩, (ho.sublist (.cons_cons _ (List.nil_sublist _))).nilrow IT 5⟩) ?_
  rintro ⟨u, i⟩ hi
  simp only at hi
  by_cases hil : i < fl.length
  · refine at_openrow (i := 1) rfl ?_
    rintro ⟨_, ⟨rfl, h0⟩ | ⟨gb, c, rfl⟩⟩
    · omega
    · have hft : (fl.take (i + 1)).foldl withI [] = withI ((fl.take i).foldl withI []) fl[i] := by
        rw [List.take_succ_eq_append_getElem hil, List.foldl_append]; rfl
      have hlen := fold_len (fl.take i) []
      have hlen2 : ((fl.take i).foldl withI []).length ≤ 2000 := by
        have : (fl.take i).length ≤ fl.length := by simp; omega
        simp only [List.length_nil] at hlen
        omega
      have hmem : ∀ y ∈ (fl.take i).foldl withI [], y.key.length ≤ 1000 := fun y hy => by
        rcases fold_mem _ _ _ hy with h | h
        · cases h
        · have := hkk y (List.mem_of_mem_take h); omega
      have hkx : fl[i].key.length ≤ 1000 := by have := hkk fl[i] (List.getElem_mem hil); omega
      have cW : ∀ {w'}, ItemsAt w' u ((fl.take i).foldl withI []) → Calls Tryd.prog 45 #[u, .agg (itmV fl[i]).toArray] w' fun e w3 => ∃ u', e = .returned u' ∧ Below w'.heap.size w' w3 ∧ w3.ownsRow w'.heap.size IT 5 u' ((fl.take (i + 1)).foldl withI []).length (itms ((fl.take (i + 1)).foldl withI [])) := fun h => by
        rw [hft]; exact ref_With u _ fl[i] _ h (by omega) hmem hkx
      refine at_seq ?_
      refine at_seq ?_
      refine at_region ?_
      refine at_do (does_move rfl) rfl rfl ?_
      refine at_do (does_move rfl) rfl rfl ?_
      refine at_do (does_rowlen (i := 1) (by kernel_rfl) rfl rfl) rfl rfl ?_
      refine at_do (does_lss rfl rfl) rfl rfl ?_
      refine at_nil ?_
      refine at_then ?_
      refine at_cond_t rfl (decide_eq_true (by omega)) ?_
      refine at_skip ?_
      refine at_then ?_
      refine at_seq ?_
      refine at_block ?_
      refine at_region ?_
      refine at_do (does_move rfl) rfl rfl ?_
      refine at_do (does_move rfl) rfl rfl ?_
      refine at_do (does_move rfl) rfl rfl ?_
      refine at_do (does_indexAddrk (k := 5) (j := i) (by kernel_rfl) rfl rfl hil) rfl rfl ?_
      refine at_do (does_loadagg_mem (vs := itmV fl[i]) (by kernel_rfl) rfl (fun w' ho => (row_itm (ho.rowAt (i := 1) rfl) hil).agg)) rfl rfl ?_
      refine at_callrow (f := 45) (enters_fn (by kernel_rfl) rfl) (fun w ho => cW (items_of_row (ho.rowAt (i := 0) rfl))) rfl rfl (fun v2 => ?_)
      refine at_do (does_assign rfl) rfl rfl ?_
      refine at_nil ?_
      refine at_inb ?_
      refine at_then ?_
      refine at_region ?_
      refine at_do (does_move rfl) rfl rfl ?_
      refine at_do (does_addi rfl rfl (by (first | omega | (simp only; omega)))) rfl rfl ?_
      refine at_do (does_assign rfl) rfl rfl ?_
      refine at_nil ?_
      refine at_then ?_
      rotate_left
      refine at_againw fun w ho => ⟨(v2, i + 1), by show i + 1 ≤ fl.length; omega, by show fl.length - (i + 1) < fl.length - i; omega, ⟨rfl, rfl, rfl, trivial⟩, rfl, ?_⟩
      show Own _ [.row v2 IT 5 ((fl.take (i + 1)).foldl withI []).length (itms ((fl.take (i + 1)).foldl withI [])), .row _ IT 5 fl.length (itms fl)] w
      exact ho.sublist (.cons_cons _ (List.sublist_cons_self ..))
  · obtain rfl : i = fl.length := by omega
    have e0 : fl.take fl.length = fl := List.take_length
    simp only [e0]
    refine at_seq ?_
    refine at_seq ?_
    refine at_region ?_
    refine at_do (does_move rfl) rfl rfl ?_
    refine at_do (does_move rfl) rfl rfl ?_
    refine at_do (does_rowlen (i := 1) (by kernel_rfl) rfl rfl) rfl rfl ?_
    refine at_do (does_lss rfl rfl) rfl rfl ?_
    refine at_nil ?_
    refine at_then ?_
    refine at_cond_f rfl (decide_eq_false (by omega)) ?_
    refine at_exit ?_
    refine at_then_exit ?_
    refine at_then_exit ?_
    refine at_inb_here ?_
    refine at_then ?_
    refine at_seq ?_
    refine at_region ?_
    refine at_do (does_move rfl) rfl rfl ?_
    refine at_do (does_assign rfl) rfl rfl ?_
    refine at_nil ?_
    refine at_then ?_
    refine at_ret ?_
    refine at_ret1 rfl rfl rfl (fun w9 ho9 => ?_)
    rotate_left
    exact ⟨_, rfl, ho9.plain, ho9.rowOut (List.mem_cons_self ..)⟩
end Go.Proofs.YtjpfebgpcokenaaDoor
set_option linter.unusedSimpArgs false
set_option linter.unusedVariables false
namespace Go.Proofs.YtjpfebgpcokenaaDoor
open Go.RowKit
attribute [local irreducible] cwp lwp Exit.then Exit.inBlock Exit.noGoto wpQuiet Calls fin At AtQ Again endQ RQ
def wholeI (fs : List (List Itm)) (f t : List UInt8) : List Itm := (allI fs.flatten).filter fun x => inR x.key f t
set_option maxHeartbeats 8000000 in
theorem ref_Whole (ls : List Value) (vs : List Int) (fs : List (List Itm)) (f t : List UInt8) (w : World) (hT : TrunkV w Nof ls fs) (hvs : vs.length = 16) (hS : SmallT fs) (hf : f.length ≤ 1000) (ht : t.length ≤ 1000) :
    Calls Tryd.prog 13 #[trunkA ls vs, .string (bs f), .string (bs t)] w fun e w' => ∃ u, e = .returned u ∧ Below w.heap.size w w' ∧ w'.ownsRow w.heap.size IT 5 u (wholeI fs f t).length (itms (wholeI fs f t)) := by
  have h32 := trunk_size hT.l1 hvs
  have hNN : fs.flatten.length ≤ 2000 := hS.flat hT.l2
  have hlen := fold_len fs.flatten []
  have hkk := flat_small hS
  have hmem : ∀ y ∈ allI fs.flatten, y.key.length ≤ 60 := fun y hy => by
    rcases fold_mem _ _ _ hy with h | h
    · cases h
    · exact hkk y h
  have cA : ∀ {w'}, TrunkV w' Nof ls fs → Calls Tryd.prog 18 #[trunkA ls vs] w' fun e w3 => ∃ u, e = .returned u ∧ Below w'.heap.size w' w3 ∧ w3.ownsRow w'.heap.size IT 5 u (allI fs.flatten).length (itms (allI fs.flatten)) := fun h => ref_All ls vs fs _ h hvs hS
  have hal : (allI fs.flatten).length ≤ 2000 := by
    simp only [List.length_nil] at hlen
    show (fs.flatten.foldl withI []).length ≤ 2000
    omega
  unfold wholeI
  refine calls_plain Tryd.func13 rfl Tryd.ntmps13 rfl ?_
  generalize allI fs.flatten = fl at *
  refine at_seq ?_
  refine at_region ?_
  refine at_boxagg rfl rfl fun gz0 => ?_
  refine at_do (does_assign rfl) rfl rfl ?_
  refine at_nil ?_
  refine at_then ?_
  refine at_seq ?_
  refine at_region ?_
  refine at_do (does_assign rfl) rfl rfl ?_
  refine at_nil ?_
  refine at_then ?_
  refine at_seq ?_
  refine at_region ?_
  refine at_do (does_loadagg (i := 0) (k := 32) (by kernel_rfl) rfl rfl h32) rfl rfl ?_
  refine at_callrow (f := 18) (enters_fn (by kernel_rfl) rfl) (fun w ho => cA (ho.oldTrunk hT)) rfl rfl (fun v => ?_)
  refine at_do (does_assign rfl) rfl rfl ?_
  refine at_nil ?_
  refine at_then ?_
  refine at_seq ?_
  refine at_seq ?_
  refine at_region ?_
  refine at_do (does_assign rfl) rfl rfl ?_
  refine at_nil ?_
  refine at_then ?_
  refine at_block ?_
  rotate_left
  refine at_loopH (σ := Value × Nat) (fun s => s.2 ≤ fl.length) (fun s => [(1, .string (bs f)), (2, .string (bs t)), (8, v), (7, s.1), (9, .int .i64 s.2)]) (fun s => [.row s.1 IT 5 ((fl.take s.2).filter (fun x => inR x.key f t)).length (itms ((fl.take s.2).filter (fun x => inR x.key f t))), .row v IT 5 fl.length (itms fl)]) (fun s => fl.length - s.2)
    (fun w ho => ⟨(.slice none 0 0, 0), Nat.zero_le _, ⟨rfl, rfl, rfl, rfl, rfl, trivial⟩, (ho.sublist (.cons_cons _ (List.nil_sublist _))).nilrow IT 5⟩) ?_
  rintro ⟨u, i⟩ hi
  simp only at hi
  by_cases hil : i < fl.length
  · refine at_openrow (i := 1) rfl ?_
    rintro ⟨_, ⟨rfl, h0⟩ | ⟨gb, c, rfl⟩⟩
    · omega
    · have hft := filt_take (p := fun x => inR x.key f t) hil
      have hfl := filt_len (p := fun x => inR x.key f t) (xs := fl) i
      have hkl := hmem fl[i] (List.getElem_mem hil)
      cases hb : inR fl[i].key f t
      · have hft : (fl.take (i + 1)).filter (fun x => inR x.key f t) = (fl.take i).filter (fun x => inR x.key f t) := by rw [hft, hb]; simp
        refine at_seq ?_
        refine at_seq ?_
        refine at_region ?_
        refine at_do (does_move rfl) rfl rfl ?_
        refine at_do (does_move rfl) rfl rfl ?_
        refine at_do (does_rowlen (i := 1) (by kernel_rfl) rfl rfl) rfl rfl ?_
        refine at_do (does_lss rfl rfl) rfl rfl ?_
        refine at_nil ?_
        refine at_then ?_
        refine at_cond_t rfl (decide_eq_true (by omega)) ?_
        refine at_skip ?_
        refine at_then ?_
        refine at_seq ?_
        refine at_block ?_
        refine at_seq ?_
        refine at_region ?_
        refine at_do (does_move rfl) rfl rfl ?_
        refine at_do (does_move rfl) rfl rfl ?_
        refine at_do (does_indexAddrk (k := 5) (j := i) (by kernel_rfl) rfl rfl hil) rfl rfl ?_
        refine at_do (does_fieldAddr (o := 0) (by kernel_rfl) rfl) rfl rfl ?_
        refine at_do (does_load_mem (by kernel_rfl) rfl (fun w' ho => (row_itm (ho.rowAt (i := 1) rfl) hil).key)) rfl rfl ?_
        refine at_do (does_move rfl) rfl rfl ?_
        refine at_do (does_move rfl) rfl rfl ?_
        refine at_callv (f := 36) (enters_fn (by kernel_rfl) rfl) (fun w ho => ref_In _ _ _ w (by omega) (by omega) (by omega)) rfl rfl ?_
        refine at_nil ?_
        refine at_then ?_
        refine at_cond_f rfl (by omega) ?_
        refine at_skip ?_
        refine at_inb ?_
        refine at_then ?_
        refine at_region ?_
        refine at_do (does_move rfl) rfl rfl ?_
        refine at_do (does_addi rfl rfl (by (first | omega | (simp only; omega)))) rfl rfl ?_
        refine at_do (does_assign rfl) rfl rfl ?_
        refine at_nil ?_
        refine at_then ?_
        rotate_left
        refine at_againw fun w ho => ⟨(u, i + 1), by show i + 1 ≤ fl.length; omega, by show fl.length - (i + 1) < fl.length - i; omega, ⟨rfl, rfl, rfl, rfl, rfl, trivial⟩, rfl, ?_⟩
        show Own _ [.row u IT 5 ((fl.take (i + 1)).filter (fun x => inR x.key f t)).length (itms ((fl.take (i + 1)).filter (fun x => inR x.key f t))), .row _ IT 5 fl.length (itms fl)] w
        rw [hft]
        exact ho
      · have hft : (fl.take (i + 1)).filter (fun x => inR x.key f t) = (fl.take i).filter (fun x => inR x.key f t) ++ [fl[i]] := by rw [hft, hb]; simp
        refine at_seq ?_
        refine at_seq ?_
        refine at_region ?_
        refine at_do (does_move rfl) rfl rfl ?_
        refine at_do (does_move rfl) rfl rfl ?_
        refine at_do (does_rowlen (i := 1) (by kernel_rfl) rfl rfl) rfl rfl ?_
        refine at_do (does_lss rfl rfl) rfl rfl ?_
        refine at_nil ?_
        refine at_then ?_
        refine at_cond_t rfl (decide_eq_true (by omega)) ?_
        refine at_skip ?_
        refine at_then ?_
        refine at_seq ?_
        refine at_block ?_
        refine at_seq ?_
        refine at_region ?_
        refine at_do (does_move rfl) rfl rfl ?_
        refine at_do (does_move rfl) rfl rfl ?_
        refine at_do (does_indexAddrk (k := 5) (j := i) (by kernel_rfl) rfl rfl hil) rfl rfl ?_
        refine at_do (does_fieldAddr (o := 0) (by kernel_rfl) rfl) rfl rfl ?_
        refine at_do (does_load_mem (by kernel_rfl) rfl (fun w' ho => (row_itm (ho.rowAt (i := 1) rfl) hil).key)) rfl rfl ?_
        refine at_do (does_move rfl) rfl rfl ?_
        refine at_do (does_move rfl) rfl rfl ?_
        refine at_callv (f := 36) (enters_fn (by kernel_rfl) rfl) (fun w ho => ref_In _ _ _ w (by omega) (by omega) (by omega)) rfl rfl ?_
        refine at_nil ?_
        refine at_then ?_
        refine at_cond_t rfl (by omega) ?_
        refine at_region ?_
        refine at_do (does_move rfl) rfl rfl ?_
        refine at_do (does_move rfl) rfl rfl ?_
        refine at_do (does_move rfl) rfl rfl ?_
        refine at_do (does_indexAddrk (k := 5) (j := i) (by kernel_rfl) rfl rfl hil) rfl rfl ?_
        refine at_do (does_loadagg_mem (vs := itmV fl[i]) (by kernel_rfl) rfl (fun w' ho => (row_itm (ho.rowAt (i := 1) rfl) hil).agg)) rfl rfl ?_
        refine at_buildSlice (e := IT) (sz := 5) (vs := [itmA fl[i]]) (cs := itmV fl[i]) (by kernel_rfl) rfl rfl rfl rfl rfl rfl (fun hl => ?_)
        refine at_append (i := 1) (e := IT) (sz := 5) (by' := 56) (m := ((fl.take i).filter (fun x => inR x.key f t)).length) (k := 1) (news := itmV fl[i]) (by kernel_rfl) rfl rfl rfl rfl (fun w ho => lit_cells ho (i := 0) rfl) (itmV_one fl[i]) (by simp only [maxLen]; omega) rfl (fun v4 hv4 => ?_)
        refine at_do (does_assign rfl) rfl rfl ?_
        refine at_nil ?_
        refine at_inb ?_
        refine at_then ?_
        refine at_region ?_
        refine at_do (does_move rfl) rfl rfl ?_
        refine at_do (does_addi rfl rfl (by (first | omega | (simp only; omega)))) rfl rfl ?_
        refine at_do (does_assign rfl) rfl rfl ?_
        refine at_nil ?_
        refine at_then ?_
        rotate_left
        refine at_againw fun w ho => ⟨(v4, i + 1), by show i + 1 ≤ fl.length; omega, by show fl.length - (i + 1) < fl.length - i; omega, ⟨rfl, rfl, rfl, rfl, rfl, trivial⟩, rfl, ?_⟩
        show Own _ [.row v4 IT 5 ((fl.take (i + 1)).filter (fun x => inR x.key f t)).length (itms ((fl.take (i + 1)).filter (fun x => inR x.key f t))), .row _ IT 5 fl.length (itms fl)] w
        rw [hft, itms_snoc, List.length_append]
        exact ho.sublist (List.sublist_cons_self ..)
  · obtain rfl : i = fl.length := by omega
    have e0 : fl.take fl.length = fl := List.take_length
    simp only [e0]
    refine at_seq ?_
    refine at_seq ?_
    refine at_region ?_
    refine at_do (does_move rfl) rfl rfl ?_
    refine at_do (does_move rfl) rfl rfl ?_
    refine at_do (does_rowlen (i := 1) (by kernel_rfl) rfl rfl) rfl rfl ?_
    refine at_do (does_lss rfl rfl) rfl rfl ?_
    refine at_nil ?_
    refine at_then ?_
    refine at_cond_f rfl (decide_eq_false (by omega)) ?_
    refine at_exit ?_
    refine at_then_exit ?_
    refine at_then_exit ?_
    refine at_inb_here ?_
    refine at_then ?_
    refine at_seq ?_
    refine at_region ?_
    refine at_do (does_move rfl) rfl rfl ?_
    refine at_do (does_assign rfl) rfl rfl ?_
    refine at_nil ?_
    refine at_then ?_
    refine at_ret ?_
    refine at_ret1 rfl rfl rfl (fun w9 ho9 => ?_)
    rotate_left
    exact ⟨_, rfl, ho9.plain, ho9.rowOut (List.mem_cons_self ..)⟩
end Go.Proofs.YtjpfebgpcokenaaDoor
set_option linter.unusedSimpArgs false
set_option linter.unusedVariables false
namespace Go.Proofs.YtjpfebgpcokenaaDoor
open Go.RowKit
attribute [local irreducible] cwp lwp Exit.then Exit.inBlock Exit.noGoto wpQuiet Calls fin At AtQ Again endQ RQ
theorem ref_At (v : Value) (xs : List Itm) (k : List UInt8) (w : World) (hV : ItemsAt w v xs) (hlen : xs.length ≤ 100000) :
    Calls Tryd.prog 91 #[v, .string (bs k)] w fun e w' => ∃ i : Int, e = .returned (.int .i64 i) ∧ Below w.heap.size w w' ∧ i < xs.length := by
  obtain ⟨A, c0, hv0⟩ := hV.len
  refine calls_plain Tryd.func91 rfl Tryd.ntmps91 rfl ?_
  refine at_seq ?_
  refine at_region ?_
  refine at_do (does_assign rfl) rfl rfl ?_
  refine at_nil ?_
  refine at_then ?_
  refine at_seq ?_
  refine at_seq ?_
  refine at_region ?_
  refine at_do (does_assign rfl) rfl rfl ?_
  refine at_nil ?_
  refine at_then ?_
  refine at_block ?_
  rotate_left
  refine at_loop0 (fun j : Nat => j ≤ xs.length) (fun j => [(0, v), (1, .string (bs k)), (5, .int .i64 j)]) (fun j => xs.length - j) 0 (Nat.zero_le _) ⟨rfl, rfl, rfl, trivial⟩ ?_
  rintro j hj
  by_cases hjl : j < xs.length
  · obtain ⟨gb, o, c, rfl, hc, hlt, hce⟩ := hV.form (by omega)
    have hx := hce j hjl
    generalize xs[j] = y at hx
    by_cases he : y.key = k
    · refine at_seq ?_
      refine at_seq ?_
      refine at_region ?_
      refine at_do (does_move rfl) rfl rfl ?_
      refine at_do (does_move rfl) rfl rfl ?_
      refine at_do (does_len (by kernel_rfl) rfl) rfl rfl ?_
      refine at_do (does_lss rfl rfl) rfl rfl ?_
      refine at_nil ?_
      refine at_then ?_
      refine at_cond_t rfl (decide_eq_true (by omega)) ?_
      refine at_skip ?_
      refine at_then ?_
      refine at_seq ?_
      refine at_block ?_
      refine at_seq ?_
      refine at_region ?_
      refine at_do (does_move rfl) rfl rfl ?_
      refine at_do (does_move rfl) rfl rfl ?_
      refine at_do (does_indexAddrk (k := 5) (j := j) (by kernel_rfl) rfl rfl hjl) rfl rfl ?_
      refine at_do (does_fieldAddr (o := 0) (by kernel_rfl) rfl) rfl rfl ?_
      refine at_do (does_load_mem (by kernel_rfl) rfl (fun w' ho => (hx.keep ho.plain).key)) rfl rfl ?_
      refine at_do (does_move rfl) rfl rfl ?_
      refine at_do (does_seql rfl rfl) rfl rfl ?_
      refine at_nil ?_
      refine at_then ?_
      refine at_cond_t rfl (decide_eq_true (by omega)) ?_
      refine at_seq ?_
      refine at_region ?_
      refine at_do (does_move rfl) rfl rfl ?_
      refine at_do (does_assign rfl) rfl rfl ?_
      refine at_nil ?_
      refine at_then ?_
      refine at_ret ?_
      refine at_inb_ret ?_
      refine at_then_ret ?_
      refine at_then_ret ?_
      refine at_inb_ret ?_
      refine at_then_ret ?_
      refine at_ret1 rfl rfl rfl (fun w9 ho9 => ?_)
      rotate_left
      exact ⟨j, rfl, ho9.plain, by omega⟩
    · refine at_seq ?_
      refine at_seq ?_
      refine at_region ?_
      refine at_do (does_move rfl) rfl rfl ?_
      refine at_do (does_move rfl) rfl rfl ?_
      refine at_do (does_len (by kernel_rfl) rfl) rfl rfl ?_
      refine at_do (does_lss rfl rfl) rfl rfl ?_
      refine at_nil ?_
      refine at_then ?_
      refine at_cond_t rfl (decide_eq_true (by omega)) ?_
      refine at_skip ?_
      refine at_then ?_
      refine at_seq ?_
      refine at_block ?_
      refine at_seq ?_
      refine at_region ?_
      refine at_do (does_move rfl) rfl rfl ?_
      refine at_do (does_move rfl) rfl rfl ?_
      refine at_do (does_indexAddrk (k := 5) (j := j) (by kernel_rfl) rfl rfl hjl) rfl rfl ?_
      refine at_do (does_fieldAddr (o := 0) (by kernel_rfl) rfl) rfl rfl ?_
      refine at_do (does_load_mem (by kernel_rfl) rfl (fun w' ho => (hx.keep ho.plain).key)) rfl rfl ?_
      refine at_do (does_move rfl) rfl rfl ?_
      refine at_do (does_seql rfl rfl) rfl rfl ?_
      refine at_nil ?_
      refine at_then ?_
      refine at_cond_f rfl (decide_eq_false (by omega)) ?_
      refine at_skip ?_
      refine at_inb ?_
      refine at_then ?_
      refine at_region ?_
      refine at_do (does_move rfl) rfl rfl ?_
      refine at_do (does_addi rfl rfl (by omega)) rfl rfl ?_
      refine at_do (does_assign rfl) rfl rfl ?_
      refine at_nil ?_
      refine at_then ?_
      rotate_left
      refine at_again0 (j + 1) (by omega) (by omega) ⟨rfl, rfl, rfl, trivial⟩
  · obtain rfl : j = xs.length := by omega
    refine at_seq ?_
    refine at_seq ?_
    refine at_region ?_
    refine at_do (does_move rfl) rfl rfl ?_
    refine at_do (does_move rfl) rfl rfl ?_
    refine at_do (does_len (A := A) (q := xs.length) (c := c0) (by kernel_rfl) (by rw [← hv0]; rfl)) rfl rfl ?_
    refine at_do (does_lss rfl rfl) rfl rfl ?_
    refine at_nil ?_
    refine at_then ?_
    refine at_cond_f rfl (decide_eq_false (by omega)) ?_
    refine at_exit ?_
    refine at_then_exit ?_
    refine at_then_exit ?_
    refine at_inb_here ?_
    refine at_then ?_
    refine at_seq ?_
    refine at_region ?_
    refine at_do (does_assign rfl) rfl rfl ?_
    refine at_nil ?_
    refine at_then ?_
    refine at_ret ?_
    refine at_ret1 rfl rfl rfl (fun w9 ho9 => ?_)
    rotate_left
    exact ⟨-1, rfl, ho9.plain, by omega⟩
theorem ref_Bucket (k : List UInt8) (w : World) (hk : 0 < k.length) :
    Calls Tryd.prog 73 #[.string (bs k)] w fun e w' => e = .returned (.int .i64 (byt k 0 % 16)) ∧ Below w.heap.size w w' := by
  refine calls_plain Tryd.func73 rfl Tryd.ntmps73 rfl ?_
  have hb := byt_range k 0
  refine at_seq ?_
  refine at_region ?_
  refine at_do (does_assign rfl) rfl rfl ?_
  refine at_nil ?_
  refine at_then ?_
  refine at_seq ?_
  refine at_region ?_
  refine at_do (does_move rfl) rfl rfl ?_
  refine at_do (does_sidx (by kernel_rfl) rfl rfl (by (first | omega | (simp; omega)))) rfl rfl ?_
  refine at_do (does_conv8 (p := byt k 0) (by kernel_rfl) (by kernel_rfl) rfl (by omega)) rfl rfl ?_
  refine at_do (does_remi rfl rfl (by omega)) rfl rfl ?_
  refine at_do (does_assign rfl) rfl rfl ?_
  refine at_nil ?_
  refine at_then ?_
  refine at_ret ?_
  refine at_ret1 rfl rfl rfl (fun w9 ho9 => ?_)
  rotate_left
  exact ⟨rfl, ho9.plain⟩
end Go.Proofs.YtjpfebgpcokenaaDoor
set_option linter.unusedSimpArgs false
set_option linter.unusedVariables false
namespace Go.Proofs.YtjpfebgpcokenaaDoor
open Go.RowKit
attribute [local irreducible] cwp lwp Exit.then Exit.inBlock Exit.noGoto wpQuiet Calls fin At AtQ Again endQ RQ
set_option maxHeartbeats 4000000 in
theorem ref_Get (ls : List Value) (vs : List Int) (fs : List (List Itm)) (k : List UInt8) (w : World) (hT : TrunkV w Nof ls fs) (hvs : vs.length = 16) (hS : SmallT fs) :
    Calls Tryd.prog 74 #[trunkA ls vs, .string (bs k)] w fun e w' => ∃ x b, e = .returned (.tuple #[itmA x, .bool b]) ∧ Below w.heap.size w w' := by
  have hl1 := hT.l1
  have h32 := trunk_size hl1 hvs
  refine calls_plain Tryd.func74 rfl Tryd.ntmps74 rfl ?_
  refine at_seq ?_
  refine at_region ?_
  refine at_boxagg rfl rfl fun gz0 => ?_
  refine at_allocagg Tryd.zeroValue43 rfl fun gz1 => ?_
  refine at_do (does_assign rfl) rfl rfl ?_
  refine at_nil ?_
  refine at_then ?_
  refine at_seq ?_
  refine at_seq ?_
  refine at_region ?_
  refine at_do (does_assign rfl) rfl rfl ?_
  refine at_nil ?_
  refine at_then ?_
  refine at_block ?_
  rotate_left
  refine at_loop0 (fun b : Nat => b ≤ 16) (fun b => [(1, .string (bs k)), (2, .pointer (some ⟨gz0, 0, none⟩)), (4, .pointer (some ⟨gz1, 0, none⟩)), (6, .int .i64 b)]) (fun b => 16 - b) 0 (Nat.zero_le _) ⟨rfl, rfl, rfl, rfl, trivial⟩ ?_
  rintro b hb
  by_cases hb16 : b < 16
  · obtain ⟨v, hv, hvi⟩ := hT.at' b hb16
    have hsb := hS b
    have hleaf := trunk_leaf (vs := vs) hl1 hv
    refine at_seq ?_
    refine at_seq ?_
    refine at_region ?_
    refine at_do (does_move rfl) rfl rfl ?_
    refine at_do (does_lss rfl rfl) rfl rfl ?_
    refine at_nil ?_
    refine at_then ?_
    refine at_cond_t rfl (decide_eq_true (by omega)) ?_
    refine at_skip ?_
    refine at_then ?_
    refine at_seq ?_
    refine at_block ?_
    refine at_seq ?_
    refine at_region ?_
    refine at_do (does_move rfl) rfl rfl ?_
    refine at_do (does_fieldAddr (o := 0) (by kernel_rfl) rfl) rfl rfl ?_
    refine at_do (does_indexArr1 (len := 16) (j := b) (by kernel_rfl) rfl rfl hb16) rfl rfl ?_
    refine at_do (does_load (i := 1) (j := 0 + 0 + b) (by kernel_rfl) rfl rfl (by rw [show 0 + 0 + b = b by omega]; exact hleaf)) rfl rfl ?_
    refine at_do (does_move rfl) rfl rfl ?_
    refine at_call (ι := {i : Int // i < ((fs.getD b []).length : Int)}) (fun i => .int .i64 i.1) (fun _ => _) (enters_fn (f := 91) (by kernel_rfl) rfl) (fun w ho => (ref_At v (fs.getD b []) k _ (ho.oldItems hvi.1) (by omega)).mono fun e w3 hq => by obtain ⟨i, q1, q2, q3⟩ := hq; exact ⟨⟨i, q3⟩, q1, ho.below q2⟩) rfl rfl rfl (fun i => ?_)
    rotate_left
    obtain ⟨i, hi⟩ := i
    simp only
    by_cases h0 : 0 ≤ i
    · obtain ⟨j, rfl⟩ := Int.eq_ofNat_of_zero_le h0
      have hjl : j < (fs.getD b []).length := by omega
      obtain ⟨gb, o, c, rfl, hc, hlt, hce⟩ := hvi.1.form (by omega)
      have hx := hce j hjl
      refine at_do (does_assign rfl) rfl rfl ?_
      refine at_nil ?_
      refine at_then ?_
      refine at_seq ?_
      refine at_region ?_
      refine at_do (does_move rfl) rfl rfl ?_
      refine at_do (does_geq rfl rfl) rfl rfl ?_
      refine at_nil ?_
      refine at_then ?_
      refine at_cond_t rfl (decide_eq_true (by omega)) ?_
      refine at_seq ?_
      refine at_region ?_
      refine at_do (does_move rfl) rfl rfl ?_
      refine at_do (does_fieldAddr (o := 0) (by kernel_rfl) rfl) rfl rfl ?_
      refine at_do (does_indexArr1 (len := 16) (j := b) (by kernel_rfl) rfl rfl hb16) rfl rfl ?_
      refine at_do (does_load (i := 1) (j := 0 + 0 + b) (by kernel_rfl) rfl rfl (by rw [show 0 + 0 + b = b by omega]; exact hleaf)) rfl rfl ?_
      refine at_do (does_move rfl) rfl rfl ?_
      refine at_do (does_indexAddrk (k := 5) (j := j) (by kernel_rfl) rfl rfl hjl) rfl rfl ?_
      refine at_do (does_loadagg_mem (vs := itmV (fs.getD b [])[j]) (by kernel_rfl) rfl (fun w' ho => (hx.keep ho.plain).agg)) rfl rfl ?_
      refine at_storeagg (i := 0) (by kernel_rfl) rfl rfl rfl rfl rfl ?_
      refine at_do (does_assign rfl) rfl rfl ?_
      refine at_nil ?_
      refine at_then ?_
      refine at_ret ?_
      refine at_inb_ret ?_
      refine at_then_ret ?_
      refine at_then_ret ?_
      refine at_inb_ret ?_
      refine at_then_ret ?_
      refine at_retagg1 (i := 0) (k := 5) rfl rfl rfl rfl rfl (by kernel_rfl) rfl (fun w9 ho9 => ?_)
      rotate_left
      exact ⟨_, _, rfl, ho9.plain⟩
    · refine at_do (does_assign rfl) rfl rfl ?_
      refine at_nil ?_
      refine at_then ?_
      refine at_seq ?_
      refine at_region ?_
      refine at_do (does_move rfl) rfl rfl ?_
      refine at_do (does_geq rfl rfl) rfl rfl ?_
      refine at_nil ?_
      refine at_then ?_
      refine at_cond_f rfl (decide_eq_false (by omega)) ?_
      refine at_skip ?_
      refine at_inb ?_
      refine at_then ?_
      refine at_region ?_
      refine at_do (does_move rfl) rfl rfl ?_
      refine at_do (does_addi rfl rfl (by omega)) rfl rfl ?_
      refine at_do (does_assign rfl) rfl rfl ?_
      refine at_nil ?_
      refine at_then ?_
      rotate_left
      refine at_again0 (b + 1) (by omega) (by omega) ⟨rfl, rfl, rfl, rfl, trivial⟩
  · obtain rfl : b = 16 := by omega
    refine at_seq ?_
    refine at_seq ?_
    refine at_region ?_
    refine at_do (does_move rfl) rfl rfl ?_
    refine at_do (does_lss rfl rfl) rfl rfl ?_
    refine at_nil ?_
    refine at_then ?_
    refine at_cond_f rfl (decide_eq_false (by omega)) ?_
    refine at_exit ?_
    refine at_then_exit ?_
    refine at_then_exit ?_
    refine at_inb_here ?_
    refine at_then ?_
    refine at_seq ?_
    refine at_region ?_
    refine at_do (does_build (ps := []) (vs := []) (cs := itmV default) shapeItem rfl rfl) rfl rfl ?_
    refine at_storeagg (i := 0) (by kernel_rfl) rfl rfl rfl rfl rfl ?_
    refine at_do (does_assign rfl) rfl rfl ?_
    refine at_nil ?_
    refine at_then ?_
    refine at_ret ?_
    refine at_retagg1 (i := 0) (k := 5) rfl rfl rfl rfl rfl (by kernel_rfl) rfl (fun w9 ho9 => ?_)
    rotate_left
    exact ⟨default, _, rfl, ho9.plain⟩
end Go.Proofs.YtjpfebgpcokenaaDoor
set_option linter.unusedSimpArgs false
set_option linter.unusedVariables false
namespace Go.Proofs.YtjpfebgpcokenaaDoor
open Go.RowKit
attribute [local irreducible] cwp lwp Exit.then Exit.inBlock Exit.noGoto wpQuiet Calls fin At AtQ Again endQ RQ
/-- A row that came up behind world b. -/
def RowI (b e sz m : Nat) (xs : List Value) (v : Value) (w : World) : Prop := w.ownsRow b e sz v m xs
theorem rowI_stab (b e sz m : Nat) (xs : List Value) : (Spec.rel (RowI b e sz m xs)).stab := fun v w w' h hb => by
  refine ⟨h.1, h.2.imp id ?_⟩
  rintro ⟨g, cap, cur, h1, h2, hg, h3⟩
  exact ⟨g, cap, cur, h1, h2, (hb.block g (Array.getElem?_eq_some_iff.1 hg).1).trans hg, h3⟩
theorem trunk_setver {ls : List Value} {vs : List Int} {i : Nat} {z : Int} (h1 : ls.length = 16) (hi : i < 16) : (trunkC ls vs).setIfInBounds (16 + i) (.int .i64 z) = trunkC ls (vs.set i z) := by
  apply Array.ext'
  simp only [trunkC, Array.toList_setIfInBounds, List.toList_toArray, versV]
  rw [List.set_append_right _ _ (by omega), h1, show 16 + i - 16 = i by omega, List.map_set]
set_option maxHeartbeats 8000000 in
theorem ref_Put (ls : List Value) (vs : List Int) (fs : List (List Itm)) (x : Itm) (b : Nat) (w : World) (hT : TrunkV w Nof ls fs) (hvs : vs.length = 16) (hS : SmallT fs) (hk : 0 < x.key.length) (hb : byt x.key 0 % 16 = (b : Int)) (hb16 : b < 16) (hv : vs.getD b 0 ≤ x.ver) (h64 : (fs.getD b []).length < 64) (hkx : x.key.length ≤ 60) :
    Calls Tryd.prog 53 #[trunkA ls vs, itmA x] w fun e w' => ∃ ls', e = .returned (.tuple #[trunkA ls' (vs.set b x.ver), .int .i64 0]) ∧ Below w.heap.size w w' ∧ ∀ B : Nat → Prop, (∀ k, B k → k < w.heap.size) → TrunkV w B ls fs → TrunkV w' B ls' (fs.set b (withI (fs.getD b []) x)) := by
  have hl1 := hT.l1
  have h32 := trunk_size hl1 hvs
  obtain ⟨v, hvb, hvi⟩ := hT.at' b hb16
  have hleaf := trunk_leaf (vs := vs) hl1 hvb
  have hver := trunk_ver (vs := vs) hl1 hvs hb16
  refine calls_plain Tryd.func53 rfl Tryd.ntmps53 rfl ?_
  have cB : ∀ {w'}, Calls Tryd.prog 73 #[.string (bs x.key)] w' fun e w3 => e = .returned (.int .i64 (b : Int)) ∧ Below w'.heap.size w' w3 := fun {w'} => by
    have := ref_Bucket x.key w' hk
    rwa [hb] at this
  have cW : ∀ {w' W2 : World}, W2.heap.size ≤ w'.heap.size → ItemsAt w' v (fs.getD b []) → Calls Tryd.prog 45 #[v, itmA x] w' fun e w3 => ∃ u, e = .returned u ∧ Below w'.heap.size w' w3 ∧ RowI W2.heap.size IT 5 (withI (fs.getD b []) x).length (itms (withI (fs.getD b []) x)) u w3 := fun hs h => (ref_With v _ x _ h (by omega) (fun y hy => by have := (hS b).2 y hy; omega) (by omega)).mono fun e w3 hq => by
    obtain ⟨u, q1, q2, q3⟩ := hq
    exact ⟨u, q1, q2, q3.1, q3.2.imp id fun ⟨g, cap, cur, r1, r2, r3⟩ => ⟨g, cap, cur, r1, by omega, r3⟩⟩
  refine at_seq ?_
  refine at_region ?_
  refine at_boxagg rfl rfl fun gz0 => ?_
  refine at_boxagg rfl rfl fun gz1 => ?_
  refine at_allocagg Tryd.zeroValue26 rfl fun gz2 => ?_
  refine at_do (does_assign rfl) rfl rfl ?_
  refine at_nil ?_
  refine at_then ?_
  refine at_seq ?_
  refine at_region ?_
  refine at_do (does_fieldAddr (o := 0) (by kernel_rfl) rfl) rfl rfl ?_
  refine at_do (does_load (i := 1) (by kernel_rfl) rfl rfl rfl) rfl rfl ?_
  refine at_callv (f := 73) (enters_fn (by kernel_rfl) rfl) (fun w ho => cB) rfl rfl ?_
  refine at_do (does_assign rfl) rfl rfl ?_
  refine at_nil ?_
  refine at_then ?_
  refine at_seq ?_
  refine at_seq ?_
  refine at_draw (by kernel_rfl) (by kernel_rfl) ?_
  refine atq_do (does_fieldAddr (o := 4) (by kernel_rfl) rfl) rfl rfl ?_
  refine atq_do (does_load (i := 1) (by kernel_rfl) rfl rfl rfl) rfl rfl ?_
  refine atq_do (does_move rfl) rfl rfl ?_
  refine atq_do (does_fieldAddr (o := 16) (by kernel_rfl) rfl) rfl rfl ?_
  refine atq_do (does_indexArr1 (len := 16) (j := b) (by kernel_rfl) rfl rfl hb16) rfl rfl ?_
  refine atq_do (does_load (i := 2) (j := 0 + 16 + b) (by kernel_rfl) rfl rfl (by rw [Nat.zero_add]; exact hver)) rfl rfl ?_
  refine atq_do (does_lss rfl rfl) rfl rfl ?_
  refine atq_nil ?_
  refine at_then ?_
  refine at_cond_f rfl (decide_eq_false (by omega)) ?_
  refine at_skip ?_
  refine at_then ?_
  refine at_seq ?_
  refine at_seq ?_
  refine at_region ?_
  refine at_do (does_loadagg (i := 2) (k := 32) (by kernel_rfl) rfl rfl h32) rfl rfl ?_
  refine at_do (does_fieldAddr (o := 0) (by kernel_rfl) rfl) rfl rfl ?_
  refine at_do (does_load (i := 1) (by kernel_rfl) rfl rfl rfl) rfl rfl ?_
  refine at_call (ι := Itm × Bool) (fun i => .tuple #[itmA i.1, .bool i.2]) (fun _ => _) (enters_fn (f := 74) (by kernel_rfl) rfl) (fun w ho => (ref_Get ls vs fs x.key _ (ho.oldTrunk hT) hvs hS).mono fun e w3 hq => by obtain ⟨y, q, q1, q2⟩ := hq; exact ⟨(y, q), q1, ho.below q2⟩) rfl rfl rfl (fun i => ?_)
  refine at_do (does_move rfl) rfl rfl ?_
  refine at_do (does_extract rfl rfl) rfl rfl ?_
  refine at_do (does_extract rfl rfl) rfl rfl ?_
  refine at_allocagg Tryd.zeroValue43 rfl fun gz3 => ?_
  refine at_storeagg (i := 0) (by kernel_rfl) rfl rfl rfl rfl rfl ?_
  refine at_do (does_assign rfl) rfl rfl ?_
  refine at_nil ?_
  refine at_then ?_
  refine at_seq ?_
  refine at_region ?_
  rotate_left
  obtain ⟨y, q⟩ := i
  simp only
  obtain ⟨A, c0, hvA⟩ := hvi.1.len
  cases q
  · refine at_do (does_move rfl) rfl rfl ?_
    refine at_do (does_not rfl) rfl rfl ?_
    refine at_do (does_move rfl) rfl rfl ?_
    refine at_know (t := 29) (d := true) rfl (by rfl) ?_
    refine at_on rfl rfl ?_
    refine at_do (does_move rfl) rfl rfl ?_
    refine at_on rfl rfl ?_
    refine at_do (does_fieldAddr (o := 0) (by kernel_rfl) rfl) rfl rfl ?_
    refine at_on rfl rfl ?_
    refine at_do (does_indexArr1 (len := 16) (j := b) (by kernel_rfl) rfl rfl hb16) rfl rfl ?_
    refine at_on rfl rfl ?_
    refine at_do (does_load (i := 3) (j := 0 + 0 + b) (by kernel_rfl) rfl rfl (by rw [show 0 + 0 + b = b by omega]; exact hleaf)) rfl rfl ?_
    refine at_on rfl rfl ?_
    refine at_do (does_len (A := A) (q := (fs.getD b []).length) (c := c0) (by kernel_rfl) (by rw [← hvA]; rfl)) rfl rfl ?_
    refine at_on rfl rfl ?_
    refine at_do (does_eql rfl rfl) rfl rfl ?_
    refine at_do (does_pick_true rfl rfl) rfl rfl ?_
    refine at_nil ?_
    refine at_then ?_
    refine at_cond_f rfl (decide_eq_false (by omega)) ?_
    refine at_skip ?_
    refine at_then ?_
    refine at_seq ?_
    rotate_left
    refine at_drop (H' := [.blk gz2 26 zeroT, .blk gz1 43 (itmV x).toArray, .blk gz0 26 (trunkC ls vs)]) (List.sublist_cons_self ..) ?_
    refine at_reW fun W2 hW2 hold => ?_
    have hW0 : w.heap.size ≤ W2.heap.size := hW2.orig.size
    apply at_drawR 8 [.val (.int .i64 b), .val (.int .i64 b), .val (.pointer (some ⟨gz0, 0 + 0, none⟩)), .val (.pointer (some ⟨gz0, 0 + 0 + b, none⟩)), .val v, .val (itmA x), .rel (RowI W2.heap.size IT 5 (withI (fs.getD b []) x).length (itms (withI (fs.getD b []) x))), .val (.pointer (some ⟨gz0, 0 + 0, none⟩))] (by kernel_rfl) (by kernel_rfl) rfl ⟨trivial, trivial, trivial, trivial, trivial, trivial, rowI_stab _ _ _ _ _, trivial, trivial⟩
    · refine so_cons rfl (fun vs => ?_) ?_
      exact step1_does (does_move rfl)
      refine so_cons rfl (fun vs => ?_) ?_
      exact step1_does (does_move rfl)
      refine so_cons rfl (fun vs => ?_) ?_
      exact step1_does (does_fieldAddr (o := 0) (by kernel_rfl) rfl)
      refine so_cons rfl (fun vs => ?_) ?_
      exact step1_does (does_indexArr1 (len := 16) (j := b) (by kernel_rfl) rfl rfl hb16)
      refine so_cons rfl (fun vs => ?_) ?_
      exact step1_does (does_load (i := 2) (j := 0 + 0 + b) (by kernel_rfl) rfl rfl (by rw [show 0 + 0 + b = b by omega]; exact hleaf))
      refine so_cons rfl (fun vs => ?_) ?_
      exact step1_does (does_loadagg (i := 1) (k := 5) (by kernel_rfl) rfl rfl rfl)
      refine so_cons rfl (fun vs => ?_) ?_
      exact step1_rel (f := 45) (enters_fn (by kernel_rfl) rfl) (fun w ho hx => cW ho.base.size (ho.oldItems hvi.1))
      refine so_cons rfl (fun vs => ?_) ?_
      exact step1_does (does_fieldAddr (o := 0) (by kernel_rfl) rfl)
      exact so_nil
    · intro vs2 w3 hw3 hp
      obtain ⟨hrow, _⟩ := hp
      have hItm := items_of_row hrow
      have hKept : KeptI w3 (fun k => k ∈ bls [.blk gz2 26 zeroT, .blk gz1 43 (itmV x).toArray, .blk gz0 26 (trunkC ls vs)]) (vs2 6) (withI (fs.getD b []) x) := ⟨hItm, fun _ g hg hb => by
        have h1 := hold g hb
        have h2 := (World.ownsRow.lt hrow g hg).1
        omega⟩
      have hone := hItm.one
      refine at_weak (E' := [(2, .pointer (some ⟨gz0, 0, none⟩)), (3, .pointer (some ⟨gz1, 0, none⟩)), (4, .pointer (some ⟨gz2, 0, none⟩)), (5, .int .i64 0), (6, .int .i64 b), (38, .int .i64 b), (44, vs2 6), (45, .pointer (some ⟨gz0, 0 + 0, none⟩))]) ⟨rfl, rfl, rfl, rfl, rfl, rfl, rfl, rfl, trivial⟩ ?_
      have hlt1 : Nat.blt (0 + 0 + b) (trunkC ls vs).size = true := by rw [h32]; simp; omega
      have hlt2 : Nat.blt (0 + 16 + b) ((trunkC ls vs).setIfInBounds (0 + 0 + b) (vs2 6)).size = true := by rw [Array.size_setIfInBounds, h32]; simp; omega
      have hfin : ((trunkC ls vs).setIfInBounds (0 + 0 + b) (vs2 6)).setIfInBounds (0 + 16 + b) (.int .i64 x.ver) = trunkC (ls.set b (vs2 6)) (vs.set b x.ver) := by
        rw [show 0 + 0 + b = b by omega, show 0 + 16 + b = 16 + b by omega, trunk_set hl1 hb16, trunk_setver (by simp [hl1]) hb16]
      have hf32 : (trunkC (ls.set b (vs2 6)) (vs.set b x.ver)).size = 32 := trunk_size (by simp [hl1]) (by simp [hvs])
      have hs32 : (((trunkC ls vs).setIfInBounds (0 + 0 + b) (vs2 6)).setIfInBounds (0 + 16 + b) (.int .i64 x.ver)).size = 32 := by rw [hfin]; exact hf32
      have hall : (((trunkC (ls.set b (vs2 6)) (vs.set b x.ver))).toList.all (·.oneCell')) = true := by
        rw [← hfin, List.all_eq_true]
        intro q hq
        rw [Array.toList_setIfInBounds, Array.toList_setIfInBounds] at hq
        rcases List.mem_or_eq_of_mem_set hq with hq | rfl
        · rcases List.mem_or_eq_of_mem_set hq with hq | rfl
          · exact List.all_eq_true.1 (trunk_one hT) q hq
          · exact hone
        · rfl
      refine at_do (does_indexArr1 (len := 16) (j := b) (by kernel_rfl) rfl rfl hb16) rfl rfl ?_
      refine at_store (i := 2) (by kernel_rfl) rfl rfl hone rfl hlt1 ?_
      refine at_nil ?_
      refine at_then ?_
      refine at_seq ?_
      refine at_region ?_
      refine at_do (does_move rfl) rfl rfl ?_
      refine at_do (does_fieldAddr (o := 4) (by kernel_rfl) rfl) rfl rfl ?_
      refine at_do (does_load (i := 1) (by kernel_rfl) rfl rfl rfl) rfl rfl ?_
      refine at_do (does_fieldAddr (o := 16) (by kernel_rfl) rfl) rfl rfl ?_
      refine at_do (does_indexArr1 (len := 16) (j := b) (by kernel_rfl) rfl rfl hb16) rfl rfl ?_
      refine at_store (i := 2) (by kernel_rfl) rfl rfl rfl rfl hlt2 ?_
      refine at_nil ?_
      refine at_then ?_
      refine at_seq ?_
      refine at_region ?_
      refine at_do (does_loadagg (i := 2) (k := 32) (by kernel_rfl) rfl rfl hs32) rfl rfl ?_
      refine at_storeagg (i := 0) (h := gz2) (cs := zeroT) (vs := (((trunkC ls vs).setIfInBounds (0 + 0 + b) (vs2 6)).setIfInBounds (0 + 16 + b) (.int .i64 x.ver))) (by rw [hs32]; kernel_rfl) rfl rfl (by rw [hfin]; exact hall) rfl (by rw [hs32]; rfl) ?_
      refine at_do (does_assign rfl) rfl rfl ?_
      refine at_nil ?_
      refine at_then ?_
      refine at_ret ?_
      refine at_retagg1 (i := 0) (k := 32) rfl rfl rfl rfl rfl (by kernel_rfl) hs32 (fun w9 ho9 => ?_)
      rotate_left
      refine ⟨ls.set b (vs2 6), by rw [hfin]; rfl, ho9.plain, fun B hB hTB => (hTB.keep ho9.plain).setAt hb16 ⟨(hKept.move (B' := Nof) ho9.base (fun _ _ h => h.elim)).1, fun _ g hg hb' => by
        have h2 := (World.ownsRow.lt hrow g hg).1
        have h3 := hB g hb'
        omega⟩⟩
  · refine at_do (does_move rfl) rfl rfl ?_
    refine at_do (does_not rfl) rfl rfl ?_
    refine at_do (does_move rfl) rfl rfl ?_
    refine at_know (t := 29) (d := false) rfl (by rfl) ?_
    refine at_no rfl rfl rfl rfl ?_
    refine at_no rfl rfl rfl rfl ?_
    refine at_no rfl rfl rfl rfl ?_
    refine at_no rfl rfl rfl rfl ?_
    refine at_no rfl rfl rfl rfl ?_
    refine at_no rfl rfl rfl rfl ?_
    refine at_do (does_pick_false rfl rfl) rfl rfl ?_
    refine at_nil ?_
    refine at_then ?_
    refine at_cond_false rfl ?_
    refine at_skip ?_
    refine at_then ?_
    refine at_seq ?_
    rotate_left
    refine at_drop (H' := [.blk gz2 26 zeroT, .blk gz1 43 (itmV x).toArray, .blk gz0 26 (trunkC ls vs)]) (List.sublist_cons_self ..) ?_
    refine at_reW fun W2 hW2 hold => ?_
    have hW0 : w.heap.size ≤ W2.heap.size := hW2.orig.size
    apply at_drawR 8 [.val (.int .i64 b), .val (.int .i64 b), .val (.pointer (some ⟨gz0, 0 + 0, none⟩)), .val (.pointer (some ⟨gz0, 0 + 0 + b, none⟩)), .val v, .val (itmA x), .rel (RowI W2.heap.size IT 5 (withI (fs.getD b []) x).length (itms (withI (fs.getD b []) x))), .val (.pointer (some ⟨gz0, 0 + 0, none⟩))] (by kernel_rfl) (by kernel_rfl) rfl ⟨trivial, trivial, trivial, trivial, trivial, trivial, rowI_stab _ _ _ _ _, trivial, trivial⟩
    · refine so_cons rfl (fun vs => ?_) ?_
      exact step1_does (does_move rfl)
      refine so_cons rfl (fun vs => ?_) ?_
      exact step1_does (does_move rfl)
      refine so_cons rfl (fun vs => ?_) ?_
      exact step1_does (does_fieldAddr (o := 0) (by kernel_rfl) rfl)
      refine so_cons rfl (fun vs => ?_) ?_
      exact step1_does (does_indexArr1 (len := 16) (j := b) (by kernel_rfl) rfl rfl hb16)
      refine so_cons rfl (fun vs => ?_) ?_
      exact step1_does (does_load (i := 2) (j := 0 + 0 + b) (by kernel_rfl) rfl rfl (by rw [show 0 + 0 + b = b by omega]; exact hleaf))
      refine so_cons rfl (fun vs => ?_) ?_
      exact step1_does (does_loadagg (i := 1) (k := 5) (by kernel_rfl) rfl rfl rfl)
      refine so_cons rfl (fun vs => ?_) ?_
      exact step1_rel (f := 45) (enters_fn (by kernel_rfl) rfl) (fun w ho hx => cW ho.base.size (ho.oldItems hvi.1))
      refine so_cons rfl (fun vs => ?_) ?_
      exact step1_does (does_fieldAddr (o := 0) (by kernel_rfl) rfl)
      exact so_nil
    · intro vs2 w3 hw3 hp
      obtain ⟨hrow, _⟩ := hp
      have hItm := items_of_row hrow
      have hKept : KeptI w3 (fun k => k ∈ bls [.blk gz2 26 zeroT, .blk gz1 43 (itmV x).toArray, .blk gz0 26 (trunkC ls vs)]) (vs2 6) (withI (fs.getD b []) x) := ⟨hItm, fun _ g hg hb => by
        have h1 := hold g hb
        have h2 := (World.ownsRow.lt hrow g hg).1
        omega⟩
      have hone := hItm.one
      refine at_weak (E' := [(2, .pointer (some ⟨gz0, 0, none⟩)), (3, .pointer (some ⟨gz1, 0, none⟩)), (4, .pointer (some ⟨gz2, 0, none⟩)), (5, .int .i64 0), (6, .int .i64 b), (38, .int .i64 b), (44, vs2 6), (45, .pointer (some ⟨gz0, 0 + 0, none⟩))]) ⟨rfl, rfl, rfl, rfl, rfl, rfl, rfl, rfl, trivial⟩ ?_
      have hlt1 : Nat.blt (0 + 0 + b) (trunkC ls vs).size = true := by rw [h32]; simp; omega
      have hlt2 : Nat.blt (0 + 16 + b) ((trunkC ls vs).setIfInBounds (0 + 0 + b) (vs2 6)).size = true := by rw [Array.size_setIfInBounds, h32]; simp; omega
      have hfin : ((trunkC ls vs).setIfInBounds (0 + 0 + b) (vs2 6)).setIfInBounds (0 + 16 + b) (.int .i64 x.ver) = trunkC (ls.set b (vs2 6)) (vs.set b x.ver) := by
        rw [show 0 + 0 + b = b by omega, show 0 + 16 + b = 16 + b by omega, trunk_set hl1 hb16, trunk_setver (by simp [hl1]) hb16]
      have hf32 : (trunkC (ls.set b (vs2 6)) (vs.set b x.ver)).size = 32 := trunk_size (by simp [hl1]) (by simp [hvs])
      have hs32 : (((trunkC ls vs).setIfInBounds (0 + 0 + b) (vs2 6)).setIfInBounds (0 + 16 + b) (.int .i64 x.ver)).size = 32 := by rw [hfin]; exact hf32
      have hall : (((trunkC (ls.set b (vs2 6)) (vs.set b x.ver))).toList.all (·.oneCell')) = true := by
        rw [← hfin, List.all_eq_true]
        intro q hq
        rw [Array.toList_setIfInBounds, Array.toList_setIfInBounds] at hq
        rcases List.mem_or_eq_of_mem_set hq with hq | rfl
        · rcases List.mem_or_eq_of_mem_set hq with hq | rfl
          · exact List.all_eq_true.1 (trunk_one hT) q hq
          · exact hone
        · rfl
      refine at_do (does_indexArr1 (len := 16) (j := b) (by kernel_rfl) rfl rfl hb16) rfl rfl ?_
      refine at_store (i := 2) (by kernel_rfl) rfl rfl hone rfl hlt1 ?_
      refine at_nil ?_
      refine at_then ?_
      refine at_seq ?_
      refine at_region ?_
      refine at_do (does_move rfl) rfl rfl ?_
      refine at_do (does_fieldAddr (o := 4) (by kernel_rfl) rfl) rfl rfl ?_
      refine at_do (does_load (i := 1) (by kernel_rfl) rfl rfl rfl) rfl rfl ?_
      refine at_do (does_fieldAddr (o := 16) (by kernel_rfl) rfl) rfl rfl ?_
      refine at_do (does_indexArr1 (len := 16) (j := b) (by kernel_rfl) rfl rfl hb16) rfl rfl ?_
      refine at_store (i := 2) (by kernel_rfl) rfl rfl rfl rfl hlt2 ?_
      refine at_nil ?_
      refine at_then ?_
      refine at_seq ?_
      refine at_region ?_
      refine at_do (does_loadagg (i := 2) (k := 32) (by kernel_rfl) rfl rfl hs32) rfl rfl ?_
      refine at_storeagg (i := 0) (h := gz2) (cs := zeroT) (vs := (((trunkC ls vs).setIfInBounds (0 + 0 + b) (vs2 6)).setIfInBounds (0 + 16 + b) (.int .i64 x.ver))) (by rw [hs32]; kernel_rfl) rfl rfl (by rw [hfin]; exact hall) rfl (by rw [hs32]; rfl) ?_
      refine at_do (does_assign rfl) rfl rfl ?_
      refine at_nil ?_
      refine at_then ?_
      refine at_ret ?_
      refine at_retagg1 (i := 0) (k := 32) rfl rfl rfl rfl rfl (by kernel_rfl) hs32 (fun w9 ho9 => ?_)
      rotate_left
      refine ⟨ls.set b (vs2 6), by rw [hfin]; rfl, ho9.plain, fun B hB hTB => (hTB.keep ho9.plain).setAt hb16 ⟨(hKept.move (B' := Nof) ho9.base (fun _ _ h => h.elim)).1, fun _ g hg hb' => by
        have h2 := (World.ownsRow.lt hrow g hg).1
        have h3 := hB g hb'
        omega⟩⟩
end Go.Proofs.YtjpfebgpcokenaaDoor
set_option linter.unusedSimpArgs false
set_option linter.unusedVariables false
namespace Go.Proofs.YtjpfebgpcokenaaDoor
open Go.RowKit
theorem may_at {fs : List (List Itm)} {vs : List Int} (h : mayT fs vs = true) {b : Nat} (hb : b < 16) : mayL b (fs.getD b []) (vs.getD b 0) = true := List.all_eq_true.1 h b (List.mem_range.2 hb)
theorem leaf_parts {xs : List Itm} (h : leafOk xs = true) : xs.length ≤ 64 ∧ (∀ x ∈ xs, mayI x = true) ∧ ∀ i, i < xs.length → behind xs i = true := by
  simp only [leafOk, Bool.and_eq_true, decide_eq_true_eq, List.all_eq_true] at h
  exact ⟨h.1.1, h.1.2, fun i hi => h.2 i (List.mem_range.2 hi)⟩
theorem leaf_up {xs : List Itm} (h : leafOk xs = true) : Up xs := by
  have hb := (leaf_parts h).2.2
  have key : ∀ j (hj : j < xs.length) i (hi : i < j), lessI (xs[i]'(by omega)) xs[j] = true := by
    intro j
    induction j with
    | zero => intro hj i hi; omega
    | succ j ih =>
      intro hj i hi
      have h1 := hb (j + 1) hj
      rw [behind, getD_at xs (j + 1) hj, show j + 1 - 1 = j by omega, getD_at xs j (by omega)] at h1
      have h1 : Op.bytesLess (xs[j]'(by omega)).key xs[j + 1].key = true := by simpa using h1
      by_cases e : i = j
      · subst e; exact h1
      · exact lessI_trans (ih (by omega) i (by omega)) h1
  exact List.pairwise_iff_getElem.2 fun i j hi hj hij => key j hj i hij
theorem may_leaf {fs : List (List Itm)} {vs : List Int} (h : mayT fs vs = true) {b : Nat} (hb : b < 16) : leafOk (fs.getD b []) = true ∧ ∀ x ∈ fs.getD b [], bucket x.key = (b : Int) := by
  have := may_at h hb
  simp only [mayL, Bool.and_eq_true, List.all_eq_true] at this
  refine ⟨this.1.1.1, fun x hx => ?_⟩
  have h2 := this.2 x hx
  simp only [inB16, Bool.and_eq_true, decide_eq_true_eq] at h2
  exact h2.1
theorem getD_mem {fs : List (List Itm)} {f : List Itm} (h : f ∈ fs) : ∃ b, b < fs.length ∧ fs.getD b [] = f := by
  obtain ⟨b, hb, rfl⟩ := List.getElem_of_mem h
  exact ⟨b, hb, by rw [List.getD_eq_getElem?_getD, List.getElem?_eq_getElem hb]; rfl⟩
theorem may_up {fs : List (List Itm)} {vs : List Int} (h : mayT fs vs = true) (hl : fs.length = 16) : ∀ f ∈ fs, Up f := fun f hf => by
  obtain ⟨b, hb, rfl⟩ := getD_mem hf
  exact leaf_up (may_leaf h (by omega)).1
theorem may_nodup {fs : List (List Itm)} {vs : List Int} (h : mayT fs vs = true) (hl : fs.length = 16) : (Keys fs.flatten).Nodup := by
  refine flat_keys (fun k => (bucket k).toNat) fs 0 (may_up h hl) fun b x hx => ?_
  by_cases hb : b < 16
  · have := (may_leaf h hb).2 x hx
    simp only [this]; omega
  · rw [List.getD_eq_getElem?_getD, List.getElem?_eq_none (by omega)] at hx
    simp at hx
theorem may_item {fs : List (List Itm)} {vs : List Int} (h : mayT fs vs = true) (hl : fs.length = 16) {x : Itm} (hx : x ∈ fs.flatten) : mayI x = true := by
  obtain ⟨f, hf, hxf⟩ := List.mem_flatten.1 hx
  obtain ⟨b, hb, rfl⟩ := getD_mem hf
  exact (leaf_parts (may_leaf h (show b < 16 by omega)).1).2.1 x hxf
theorem may_flat {fs : List (List Itm)} {vs : List Int} (h : mayT fs vs = true) (hl : fs.length = 16) : fs.flatten.length ≤ 1024 := by
  have := small_flat (fs := fs) 64 fun b => by
    by_cases hb : b < 16
    · exact (leaf_parts (may_leaf h hb).1).1
    · rw [List.getD_eq_getElem?_getD, List.getElem?_eq_none (by omega)]
      simp
  omega
theorem may_merge {fs : List (List Itm)} {vs : List Int} (h : mayT fs vs = true) (hl : fs.length = 16) : mergeI NN fs = allI fs.flatten :=
  merge_all fs NN (by have := may_flat h hl; simp only [NN]; omega) (may_up h hl) (may_nodup h hl)
theorem may_all {fs : List (List Itm)} {vs : List Int} (h : mayT fs vs = true) (hl : fs.length = 16) : Up (allI fs.flatten) ∧ (allI fs.flatten).length ≤ 1024 ∧ ∀ x ∈ allI fs.flatten, mayI x = true := by
  have hp := allI_perm (may_nodup h hl)
  exact ⟨allI_up (may_nodup h hl), by rw [hp.length_eq]; exact may_flat h hl, fun x hx => may_item h hl (hp.mem_iff.1 hx)⟩
theorem mayI_isK {x : Itm} (h : mayI x = true) : isK x.key = true := by
  simp only [mayI, Bool.and_eq_true] at h
  exact h.1.1.1.1
theorem err_zero {fs : List (List Itm)} {vs : List Int} {f t : List UInt8} (h : errW fs vs f t = 0) : mayT fs vs = true ∧ keyOk f = true ∧ keyOk t = true := by
  unfold errW at h
  split at h
  · cases h
  · rename_i h1
    split at h
    · rename_i h2
      exact ⟨by simpa using h1, by simpa using h2⟩
    · cases h
theorem whole_in {fs : List (List Itm)} {vs : List Int} {f t : List UInt8} (h : errW fs vs f t = 0) (hl : fs.length = 16) : wholeI fs f t = (mergeI NN fs).filter (inI f t) := by
  obtain ⟨h1, h2, h3⟩ := err_zero h
  rw [may_merge h1 hl, wholeI]
  refine List.filter_congr fun x hx => ?_
  have hk := mayI_isK ((may_all h1 hl).2.2 x hx)
  simp [inR, inI, hk, h2, h3]
theorem whole_up {fs : List (List Itm)} {vs : List Int} {f t : List UInt8} (h : errW fs vs f t = 0) (hl : fs.length = 16) : Up (wholeI fs f t) :=
  List.Pairwise.sublist List.filter_sublist (may_all (err_zero h).1 hl).1
theorem whole_len {fs : List (List Itm)} {vs : List Int} {f t : List UInt8} (h : errW fs vs f t = 0) (hl : fs.length = 16) : (wholeI fs f t).length ≤ 1024 :=
  Nat.le_trans (List.length_filter_le _ _) (may_all (err_zero h).1 hl).2.1
theorem scan_whole {fs : List (List Itm)} {vs : List Int} {f t : List UInt8} (h : errW fs vs f t = 0) (hl : fs.length = 16) (most : Int) : scanR most fs vs f t = (wholeI fs f t).take most.toNat := by
  have hu : Up (mergeI NN fs) := by rw [may_merge (err_zero h).1 hl]; exact (may_all (err_zero h).1 hl).1
  rw [scanR, errN, if_pos h, scan_law0 most f t _ hu, whole_in h hl]
theorem all_whole {fs : List (List Itm)} {vs : List Int} {f t : List UInt8} (h : errW fs vs f t = 0) (hl : fs.length = 16) : allR fs vs f t = wholeI fs f t := by
  rw [allR, scan_whole h hl, List.take_of_length_le (by have := whole_len h hl; omega)]
theorem scan_none {fs : List (List Itm)} {vs : List Int} {f t : List UInt8} (h : errW fs vs f t ≠ 0) (most : Int) : scanR most fs vs f t = [] := by rw [scanR, errN, if_neg h]
theorem back_whole {fs : List (List Itm)} {vs : List Int} {f t : List UInt8} (h : errW fs vs f t = 0) (hl : fs.length = 16) (most : Int) : backR most fs vs f t = (wholeI fs f t).reverse.take most.toNat := by
  rw [backR, all_whole h hl]
theorem back_none {fs : List (List Itm)} {vs : List Int} {f t : List UInt8} (h : errW fs vs f t ≠ 0) (most : Int) : backR most fs vs f t = [] := by rw [backR, allR, scan_none h]; simp
theorem sum_whole {fs : List (List Itm)} {vs : List Int} {f t : List UInt8} (h : errW fs vs f t = 0) (hl : fs.length = 16) : sumW fs vs f t = sumR (wholeI fs f t) := by
  rw [sumW, if_pos h, all_whole h hl]
theorem under_whole {fs : List (List Itm)} {vs : List Int} {p : List UInt8} (h : errW fs vs p p = 0) (hl : fs.length = 16) : underR fs vs p = (allI fs.flatten).filter fun x => beg x.key p := by
  rw [underR, errN, if_pos h, may_merge (err_zero h).1 hl]
theorem under_none {fs : List (List Itm)} {vs : List Int} {p : List UInt8} (h : errW fs vs p p ≠ 0) : underR fs vs p = [] := by rw [underR, errN, if_neg h]
theorem keyOk_empty {fs : List (List Itm)} {vs : List Int} {k : List UInt8} : errW fs vs k [] = errW fs vs k k ∧ errW fs vs [] k = errW fs vs k k := by
  simp [errW, keyOk_nil]
theorem first_whole {fs : List (List Itm)} {vs : List Int} {k : List UInt8} (h : errW fs vs k k = 0) (hl : fs.length = 16) : scanR 1 fs vs k [] = (wholeI fs k []).take 1 :=
  scan_whole (keyOk_empty.1.trans h) hl 1
theorem last_whole {fs : List (List Itm)} {vs : List Int} {k : List UInt8} (h : errW fs vs k k = 0) (hl : fs.length = 16) : backR 1 fs vs [] k = (wholeI fs [] k).reverse.take 1 :=
  back_whole (keyOk_empty.2.trans h) hl 1
end Go.Proofs.YtjpfebgpcokenaaDoor
