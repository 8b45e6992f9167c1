/-
  What stands behind a pattern, by the reference. No condition of its own.
-/
import Derived.Test.YtjpfebgpcokenaaDoorNames2
set_option linter.unusedSimpArgs false
set_option linter.unusedVariables false
namespace Go.Proofs.YtjpfebgpcokenaaDoor
open Go.RowKit
attribute [local irreducible] cwp lwp Exit.then Exit.inBlock Exit.noGoto wpQuiet Calls fin At AtQ Again endQ RQ
theorem nameB_cons (b : UInt8) (l : List UInt8) : nameB (b :: l) = if b = 47 then [] else b :: nameB l := by
  unfold nameB
  rw [List.takeWhile_cons]
  by_cases h : b = 47 <;> simp [h]
theorem nameB_len : ∀ l : List UInt8, (nameB l).length ≤ l.length
  | [] => by decide
  | b :: l => by
    have := nameB_len l
    rw [nameB_cons]; split <;> simp <;> omega
theorem nameB_take : ∀ l : List UInt8, l.take (nameB l).length = nameB l
  | [] => by decide
  | b :: l => by
    have := nameB_take l
    rw [nameB_cons]; split <;> simp [this]
theorem byt_succ (b : UInt8) (l : List UInt8) (n : Nat) : byt (b :: l) (n + 1) = byt l n := by simp [byt, List.getD]
theorem nameB_lt : ∀ (l : List UInt8) (n : Nat), n < (nameB l).length → byt l n ≠ 47
  | [], n, h => by simp [nameB] at h
  | b :: l, n, h => by
    rw [nameB_cons] at h
    split at h
    · simp at h
    · rename_i hb
      cases n with
      | zero =>
        rw [byt_eq _ _ (by simp)]
        intro e
        apply hb
        apply UInt8.toNat_inj.1
        simp at e ⊢
        omega
      | succ n => rw [byt_succ]; exact nameB_lt l n (by simpa using h)
theorem nameB_at : ∀ l : List UInt8, (nameB l).length < l.length → byt l (nameB l).length = 47
  | [], h => by simp [nameB] at h
  | b :: l, h => by
    rw [nameB_cons] at h ⊢
    split
    · rename_i hb
      subst hb
      rw [byt_eq _ _ (by simp)]; simp
    · rename_i hb
      rw [if_neg hb] at h
      rw [List.length_cons, byt_succ]
      exact nameB_at l (by simpa using h)
theorem layS_len (L : List (List UInt8)) (x : List UInt8) : (layS L x).length ≤ L.length + 1 := by
  have key : ∀ L : List (List UInt8), (L.filter (fun a => Op.bytesLess a x)).length + (L.filter (fun a => Op.bytesLess x a)).length ≤ L.length := by
    intro L
    induction L with
    | nil => simp
    | cons a L ih =>
      simp only [List.filter_cons]
      cases h1 : Op.bytesLess a x <;> cases h2 : Op.bytesLess x a <;> simp <;> (try omega)
      have := less_trans _ _ _ h1 h2
      rw [less_irr] at this; cases this
  have := key L
  unfold layS
  simp; omega
theorem names_len : ∀ (ns L : List (List UInt8)), (ns.foldl layS L).length ≤ L.length + ns.length
  | [], L => by simp
  | n :: ns, L => by
    have h1 := names_len ns (layS L n)
    have h2 := layS_len L n
    simp only [List.foldl_cons, List.length_cons]
    omega
theorem names_short {p : List UInt8} {xs : List Itm} (h : ∀ x ∈ xs, x.key.length ≤ 60) : ∀ y ∈ namesR p xs, y.length ≤ 60 := fun y hy => by
  have := ((lays_law (xs.map (nmI p)) [] List.Pairwise.nil).2 y).1 hy
  rcases this with h1 | h1
  · obtain ⟨x, hx, rfl⟩ := List.mem_map.1 h1
    have := nameB_len (x.key.drop p.length)
    have h2 := h x hx
    simp only [nmI]
    simp at this; omega
  · simp at h1
set_option maxHeartbeats 8000000 in
theorem ref_Names (ls : List Value) (vs : List Int) (fs : List (List Itm)) (p : List UInt8) (w : World) (hT : TrunkV w Nof ls fs) (hvs : vs.length = 16) (hS : SmallT fs) :
    Calls Tryd.prog 20 #[trunkA ls vs, .string (bs p)] w fun e w' => ∃ u, e = .returned u ∧ Below w.heap.size w w' ∧ w'.ownsRow w.heap.size ST 1 u (namesR p ((allI fs.flatten).filter fun x => beg x.key p)).length (strs (namesR p ((allI fs.flatten).filter fun x => beg x.key p))) := by
  have h32 := trunk_size hT.l1 hvs
  have hNN : (allI fs.flatten).length ≤ 2000 := by
    have h1 := fold_len fs.flatten []
    have h2 := hS.flat hT.l2
    simp only [List.length_nil, NN] at h1 h2
    unfold allI; omega
  have hkk : ∀ x ∈ allI fs.flatten, x.key.length ≤ 60 := fun x hx => by
    rcases fold_mem _ _ _ hx with h | h
    · simp at h
    · exact flat_small hS x h
  have cA : ∀ {w'}, TrunkV w' Nof ls fs → Calls Tryd.prog 18 #[trunkA ls vs] w' fun e w3 => ∃ u, e = .returned u ∧ Below w'.heap.size w' w3 ∧ w3.ownsRow w'.heap.size IT 5 u (allI fs.flatten).length (itms (allI fs.flatten)) := fun h => ref_All ls vs fs _ h hvs hS
  refine calls_plain Tryd.func20 rfl Tryd.ntmps20 rfl ?_
  generalize allI fs.flatten = al at *
  refine at_seq ?_
  refine at_region ?_
  refine at_boxagg rfl rfl fun gz0 => ?_
  refine at_do (does_assign rfl) rfl rfl ?_
  refine at_nil ?_
  refine at_then ?_
  refine at_seq ?_
  refine at_region ?_
  refine at_do (does_assign rfl) rfl rfl ?_
  refine at_nil ?_
  refine at_then ?_
  refine at_seq ?_
  refine at_region ?_
  refine at_do (does_loadagg (i := 0) (k := 32) (by kernel_rfl) rfl rfl h32) rfl rfl ?_
  refine at_callrow (f := 18) (enters_fn (by kernel_rfl) rfl) (fun w ho => cA (ho.oldTrunk hT)) rfl rfl (fun v => ?_)
  refine at_do (does_assign rfl) rfl rfl ?_
  refine at_nil ?_
  refine at_then ?_
  refine at_seq ?_
  refine at_seq ?_
  refine at_region ?_
  refine at_do (does_assign rfl) rfl rfl ?_
  refine at_nil ?_
  refine at_then ?_
  refine at_block ?_
  rotate_left
  refine at_loopH (σ := Value × Nat) (fun s => s.2 ≤ al.length) (fun s => [(1, .string (bs p)), (5, s.1), (6, v), (7, .int .i64 s.2)]) (fun s => [.row s.1 ST 1 (namesR p ((al.take s.2).filter fun x => beg x.key p)).length (strs (namesR p ((al.take s.2).filter fun x => beg x.key p))), .row v IT 5 al.length (itms al)]) (fun s => al.length - s.2)
    (fun w ho => ⟨(.slice none 0 0, 0), Nat.zero_le _, ⟨rfl, rfl, rfl, rfl, trivial⟩, (ho.sublist (.cons_cons _ (List.nil_sublist _))).nilrow ST 1⟩) ?_
  rintro ⟨u, i⟩ hi
  simp only at hi
  by_cases hil : i < al.length
  · refine at_openrow (i := 1) rfl ?_
    rintro ⟨_, ⟨rfl, h0⟩ | ⟨gb, c, rfl⟩⟩
    · omega
    · have hft := filt_take (p := fun x => beg x.key p) hil
      have hkx := hkk al[i] (List.getElem_mem hil)
      have hL : (namesR p ((al.take i).filter fun x => beg x.key p)).length ≤ 2000 := by
        have h1 := names_len (((al.take i).filter fun x => beg x.key p).map (nmI p)) []
        have h2 := filt_len (p := fun x => beg x.key p) (xs := al) i
        simp only [List.length_nil, List.length_map] at h1
        unfold namesR; omega
      have hLs : ∀ y ∈ namesR p ((al.take i).filter fun x => beg x.key p), y.length ≤ 1000 := fun y hy => by
        have := names_short (fun x hx => hkk x (List.mem_of_mem_take (List.mem_filter.1 hx).1)) y hy
        omega
      cases hf : beg al[i].key p
      · have hft : (al.take (i + 1)).filter (fun x => beg x.key p) = (al.take i).filter (fun x => beg x.key p) := by rw [hft, hf]; simp
        refine at_seq ?_
        refine at_seq ?_
        refine at_region ?_
        refine at_do (does_move rfl) rfl rfl ?_
        refine at_do (does_move rfl) rfl rfl ?_
        refine at_do (does_rowlen (i := 1) (by kernel_rfl) rfl rfl) rfl rfl ?_
        refine at_do (does_lss rfl rfl) rfl rfl ?_
        refine at_nil ?_
        refine at_then ?_
        refine at_cond_t rfl (decide_eq_true (by omega)) ?_
        refine at_skip ?_
        refine at_then ?_
        refine at_seq ?_
        refine at_block ?_
        refine at_seq ?_
        refine at_seq ?_
        refine at_region ?_
        refine at_do (does_move rfl) rfl rfl ?_
        refine at_do (does_move rfl) rfl rfl ?_
        refine at_do (does_indexAddrk (k := 5) (j := i) (by kernel_rfl) rfl rfl hil) rfl rfl ?_
        refine at_do (does_fieldAddr (o := 0) (by kernel_rfl) rfl) rfl rfl ?_
        refine at_do (does_load_mem (by kernel_rfl) rfl (fun w' ho => (row_itm (ho.rowAt (i := 1) rfl) hil).key)) rfl rfl ?_
        refine at_do (does_move rfl) rfl rfl ?_
        refine at_callv (f := 19) (enters_fn (by kernel_rfl) rfl) (fun w ho => ref_Begins _ _ w) rfl rfl ?_
        refine at_do (does_not rfl) rfl rfl ?_
        refine at_nil ?_
        refine at_then ?_
        refine at_cond_t rfl (by (rw [hf]; rfl)) ?_
        refine at_exit ?_
        refine at_then_exit ?_
        refine at_inb_here ?_
        refine at_then ?_
        refine at_region ?_
        refine at_do (does_move rfl) rfl rfl ?_
        refine at_do (does_addi rfl rfl (by (first | omega | (simp only; omega)))) rfl rfl ?_
        refine at_do (does_assign rfl) rfl rfl ?_
        refine at_nil ?_
        refine at_then ?_
        rotate_left
        refine at_againw fun w ho => ⟨(u, i + 1), by show i + 1 ≤ al.length; omega, by show al.length - (i + 1) < al.length - i; omega, ⟨rfl, rfl, rfl, rfl, trivial⟩, rfl, ?_⟩
        show Own _ [.row u ST 1 (namesR p ((al.take (i + 1)).filter fun x => beg x.key p)).length (strs (namesR p ((al.take (i + 1)).filter fun x => beg x.key p))), .row _ IT 5 al.length (itms al)] w
        rw [hft]
        exact ho
      · have hpx : p.length ≤ al[i].key.length := by
          obtain ⟨r, hr⟩ := beg_iff.1 hf
          rw [hr]; simp
        obtain ⟨rest, hrest⟩ : ∃ r, r = al[i].key.drop p.length := ⟨_, rfl⟩
        have hrl : rest.length ≤ 60 := by rw [hrest, List.length_drop]; omega
        have hnr : namesR p ((al.take (i + 1)).filter fun x => beg x.key p) = layS (namesR p ((al.take i).filter fun x => beg x.key p)) (nameB rest) := by
          rw [hft, hf, hrest]
          simp [namesR, List.foldl_append, nmI]
        generalize namesR p ((al.take i).filter fun x => beg x.key p) = L at *
        refine at_seq ?_
        refine at_seq ?_
        refine at_region ?_
        refine at_do (does_move rfl) rfl rfl ?_
        refine at_do (does_move rfl) rfl rfl ?_
        refine at_do (does_rowlen (i := 1) (by kernel_rfl) rfl rfl) rfl rfl ?_
        refine at_do (does_lss rfl rfl) rfl rfl ?_
        refine at_nil ?_
        refine at_then ?_
        refine at_cond_t rfl (decide_eq_true (by omega)) ?_
        refine at_skip ?_
        refine at_then ?_
        refine at_seq ?_
        refine at_block ?_
        refine at_seq ?_
        refine at_seq ?_
        refine at_region ?_
        refine at_do (does_move rfl) rfl rfl ?_
        refine at_do (does_move rfl) rfl rfl ?_
        refine at_do (does_indexAddrk (k := 5) (j := i) (by kernel_rfl) rfl rfl hil) rfl rfl ?_
        refine at_do (does_fieldAddr (o := 0) (by kernel_rfl) rfl) rfl rfl ?_
        refine at_do (does_load_mem (by kernel_rfl) rfl (fun w' ho => (row_itm (ho.rowAt (i := 1) rfl) hil).key)) rfl rfl ?_
        refine at_do (does_move rfl) rfl rfl ?_
        refine at_callv (f := 19) (enters_fn (by kernel_rfl) rfl) (fun w ho => ref_Begins _ _ w) rfl rfl ?_
        refine at_do (does_not rfl) rfl rfl ?_
        refine at_nil ?_
        refine at_then ?_
        refine at_cond_f rfl (by (rw [hf]; rfl)) ?_
        refine at_skip ?_
        refine at_then ?_
        refine at_seq ?_
        refine at_region ?_
        refine at_do (does_move rfl) rfl rfl ?_
        refine at_do (does_move rfl) rfl rfl ?_
        refine at_do (does_indexAddrk (k := 5) (j := i) (by kernel_rfl) rfl rfl hil) rfl rfl ?_
        refine at_do (does_fieldAddr (o := 0) (by kernel_rfl) rfl) rfl rfl ?_
        refine at_do (does_load_mem (by kernel_rfl) rfl (fun w' ho => (row_itm (ho.rowAt (i := 1) rfl) hil).key)) rfl rfl ?_
        refine at_do (does_move rfl) rfl rfl ?_
        refine at_do (does_slen (by kernel_rfl) rfl) rfl rfl ?_
        refine at_do (does_sslice_lo (l := al[i].key) (p := (p.length : Int)) (k := .i64) (by kernel_rfl) rfl rfl ⟨by omega, by omega⟩) rfl rfl ?_
        refine at_do (does_assign rfl) rfl rfl ?_
        refine at_nil ?_
        refine at_then ?_
        refine at_seq ?_
        refine at_region ?_
        refine at_do (does_assign rfl) rfl rfl ?_
        refine at_nil ?_
        refine at_then ?_
        refine at_seq ?_
        refine at_block ?_
        rotate_left
        have hb := nameB_len rest
        have e8 : al[i].key.drop ((p.length : Int)).toNat = rest := by rw [hrest]; rfl
        refine at_loop0 (fun n : Nat => n ≤ (nameB rest).length) (fun n => [(1, .string (bs p)), (5, u), (6, .slice (some ⟨gb, 0, none⟩) al.length c), (7, .int .i64 i), (8, .string (bs rest)), (9, .int .i64 n)]) (fun n => (nameB rest).length - n) 0 (Nat.zero_le _) ⟨rfl, rfl, rfl, rfl, by rw [← e8]; rfl, rfl, trivial⟩ ?_
        intro n hn
        have cL : ∀ {w'}, ValsAt w' u (strs L) → Calls Tryd.prog 46 #[u, .string (bs (rest.take (((nameB rest).length : Nat) : Int).toNat))] w' fun e w3 => ∃ u', e = .returned u' ∧ Below w'.heap.size w' w3 ∧ w3.ownsRow w'.heap.size ST 1 u' (layS L (nameB rest)).length (strs (layS L (nameB rest))) := fun h => by
          rw [show rest.take (((nameB rest).length : Nat) : Int).toNat = nameB rest from nameB_take rest]
          exact ref_lay u L (nameB rest) _ h (by omega) hLs (by omega)
        by_cases hnl : n < (nameB rest).length
        · have h47 := nameB_lt rest n hnl
          have hnl2 : n < rest.length := by omega
          refine at_seq ?_
          refine at_seq ?_
          refine at_region ?_
          refine at_do (does_move rfl) rfl rfl ?_
          refine at_do (does_move rfl) rfl rfl ?_
          refine at_do (does_slen (by kernel_rfl) rfl) rfl rfl ?_
          refine at_do (does_lss rfl rfl) rfl rfl ?_
          refine at_do (does_move rfl) rfl rfl ?_
          refine at_know (t := 38) (d := true) rfl (decide_eq_true (by omega)) ?_
          refine at_on rfl rfl ?_
          refine at_do (does_move rfl) rfl rfl ?_
          refine at_on rfl rfl ?_
          refine at_do (does_move rfl) rfl rfl ?_
          refine at_on rfl rfl ?_
          refine at_do (does_sidx (by kernel_rfl) rfl rfl (by (first | omega | (simp only; omega)))) rfl rfl ?_
          refine at_on rfl rfl ?_
          refine at_do (does_neq rfl rfl) rfl rfl ?_
          refine at_do (does_pick_true rfl rfl) rfl rfl ?_
          refine at_nil ?_
          refine at_then ?_
          refine at_cond_t rfl (decide_eq_true (by exact h47)) ?_
          refine at_skip ?_
          refine at_then ?_
          refine at_block ?_
          refine at_region ?_
          refine at_do (does_move rfl) rfl rfl ?_
          refine at_do (does_addi rfl rfl (by (first | omega | (simp only; omega)))) rfl rfl ?_
          refine at_do (does_assign rfl) rfl rfl ?_
          refine at_nil ?_
          refine at_inb ?_
          refine at_then ?_
          rotate_left
          refine at_again0 (n + 1) (by omega) (by omega) ⟨rfl, rfl, rfl, rfl, rfl, rfl, trivial⟩
        · obtain rfl : n = (nameB rest).length := by omega
          by_cases hnl2 : (nameB rest).length < rest.length
          · have h47 := nameB_at rest hnl2
            refine at_seq ?_
            refine at_seq ?_
            refine at_region ?_
            refine at_do (does_move rfl) rfl rfl ?_
            refine at_do (does_move rfl) rfl rfl ?_
            refine at_do (does_slen (by kernel_rfl) rfl) rfl rfl ?_
            refine at_do (does_lss rfl rfl) rfl rfl ?_
            refine at_do (does_move rfl) rfl rfl ?_
            refine at_know (t := 38) (d := true) rfl (decide_eq_true (by omega)) ?_
            refine at_on rfl rfl ?_
            refine at_do (does_move rfl) rfl rfl ?_
            refine at_on rfl rfl ?_
            refine at_do (does_move rfl) rfl rfl ?_
            refine at_on rfl rfl ?_
            refine at_do (does_sidx (by kernel_rfl) rfl rfl (by (first | omega | (simp only; omega)))) rfl rfl ?_
            refine at_on rfl rfl ?_
            refine at_do (does_neq rfl rfl) rfl rfl ?_
            refine at_do (does_pick_true rfl rfl) rfl rfl ?_
            refine at_nil ?_
            refine at_then ?_
            refine at_cond_f rfl (decide_eq_false (by (simpa using h47))) ?_
            refine at_exit ?_
            refine at_then_exit ?_
            refine at_then_exit ?_
            refine at_inb_here ?_
            refine at_then ?_
            refine at_region ?_
            refine at_do (does_move rfl) rfl rfl ?_
            refine at_do (does_move rfl) rfl rfl ?_
            refine at_do (does_move rfl) rfl rfl ?_
            refine at_do (does_sslice_hi (by kernel_rfl) rfl rfl (by (first | omega | (simp only; omega)))) rfl rfl ?_
            refine at_callrow (f := 46) (enters_fn (by kernel_rfl) rfl) (fun w ho => cL (vals_of_row (ho.rowAt (i := 0) rfl))) rfl rfl (fun v2 => ?_)
            refine at_do (does_assign rfl) rfl rfl ?_
            refine at_nil ?_
            refine at_inb ?_
            refine at_then ?_
            refine at_region ?_
            refine at_do (does_move rfl) rfl rfl ?_
            refine at_do (does_addi rfl rfl (by (first | omega | (simp only; omega)))) rfl rfl ?_
            refine at_do (does_assign rfl) rfl rfl ?_
            refine at_nil ?_
            refine at_then ?_
            rotate_left
            refine at_againw fun w ho => ⟨(v2, i + 1), by show i + 1 ≤ al.length; omega, by show al.length - (i + 1) < al.length - i; omega, ⟨rfl, rfl, rfl, rfl, trivial⟩, rfl, ?_⟩
            show Own _ [.row v2 ST 1 (namesR p ((al.take (i + 1)).filter fun x => beg x.key p)).length (strs (namesR p ((al.take (i + 1)).filter fun x => beg x.key p))), .row _ IT 5 al.length (itms al)] w
            rw [hnr]
            exact ho.sublist (.cons_cons _ (List.sublist_cons_self ..))
          · refine at_seq ?_
            refine at_seq ?_
            refine at_region ?_
            refine at_do (does_move rfl) rfl rfl ?_
            refine at_do (does_move rfl) rfl rfl ?_
            refine at_do (does_slen (by kernel_rfl) rfl) rfl rfl ?_
            refine at_do (does_lss rfl rfl) rfl rfl ?_
            refine at_do (does_move rfl) rfl rfl ?_
            refine at_know (t := 38) (d := false) rfl (decide_eq_false (by omega)) ?_
            refine at_no rfl rfl rfl rfl ?_
            refine at_no rfl rfl rfl rfl ?_
            refine at_no rfl rfl rfl rfl ?_
            refine at_no rfl rfl rfl rfl ?_
            refine at_do (does_pick_false rfl rfl) rfl rfl ?_
            refine at_nil ?_
            refine at_then ?_
            refine at_cond_false rfl ?_
            refine at_exit ?_
            refine at_then_exit ?_
            refine at_then_exit ?_
            refine at_inb_here ?_
            refine at_then ?_
            refine at_region ?_
            refine at_do (does_move rfl) rfl rfl ?_
            refine at_do (does_move rfl) rfl rfl ?_
            refine at_do (does_move rfl) rfl rfl ?_
            refine at_do (does_sslice_hi (by kernel_rfl) rfl rfl (by (first | omega | (simp only; omega)))) rfl rfl ?_
            refine at_callrow (f := 46) (enters_fn (by kernel_rfl) rfl) (fun w ho => cL (vals_of_row (ho.rowAt (i := 0) rfl))) rfl rfl (fun v2 => ?_)
            refine at_do (does_assign rfl) rfl rfl ?_
            refine at_nil ?_
            refine at_inb ?_
            refine at_then ?_
            refine at_region ?_
            refine at_do (does_move rfl) rfl rfl ?_
            refine at_do (does_addi rfl rfl (by (first | omega | (simp only; omega)))) rfl rfl ?_
            refine at_do (does_assign rfl) rfl rfl ?_
            refine at_nil ?_
            refine at_then ?_
            rotate_left
            refine at_againw fun w ho => ⟨(v2, i + 1), by show i + 1 ≤ al.length; omega, by show al.length - (i + 1) < al.length - i; omega, ⟨rfl, rfl, rfl, rfl, trivial⟩, rfl, ?_⟩
            show Own _ [.row v2 ST 1 (namesR p ((al.take (i + 1)).filter fun x => beg x.key p)).length (strs (namesR p ((al.take (i + 1)).filter fun x => beg x.key p))), .row _ IT 5 al.length (itms al)] w
            rw [hnr]
            exact ho.sublist (.cons_cons _ (List.sublist_cons_self ..))
  · obtain rfl : i = al.length := by omega
    have e0 : al.take al.length = al := List.take_length
    simp only [e0]
    refine at_seq ?_
    refine at_seq ?_
    refine at_region ?_
    refine at_do (does_move rfl) rfl rfl ?_
    refine at_do (does_move rfl) rfl rfl ?_
    refine at_do (does_rowlen (i := 1) (by kernel_rfl) rfl rfl) rfl rfl ?_
    refine at_do (does_lss rfl rfl) rfl rfl ?_
    refine at_nil ?_
    refine at_then ?_
    refine at_cond_f rfl (decide_eq_false (by omega)) ?_
    refine at_exit ?_
    refine at_then_exit ?_
    refine at_then_exit ?_
    refine at_inb_here ?_
    refine at_then ?_
    refine at_seq ?_
    refine at_region ?_
    refine at_do (does_move rfl) rfl rfl ?_
    refine at_do (does_assign rfl) rfl rfl ?_
    refine at_nil ?_
    refine at_then ?_
    refine at_ret ?_
    refine at_ret1 rfl rfl rfl (fun w9 ho9 => ?_)
    rotate_left
    exact ⟨_, rfl, ho9.plain, ho9.rowOut (List.mem_cons_self ..)⟩
end Go.Proofs.YtjpfebgpcokenaaDoor
