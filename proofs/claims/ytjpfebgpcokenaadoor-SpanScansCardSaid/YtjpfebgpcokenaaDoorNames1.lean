/-
  What stands behind a pattern, by the package. No condition of its own.
-/
import Derived.Test.YtjpfebgpcokenaaDoorNShelf
import Derived.Test.YtjpfebgpcokenaaDoorGF
set_option linter.unusedSimpArgs false
set_option linter.unusedVariables false
namespace Go.Proofs.YtjpfebgpcokenaaDoor
open Go.RowKit
attribute [local irreducible] cwp lwp Exit.then Exit.inBlock Exit.noGoto wpQuiet Calls fin At AtQ Again endQ RQ
def nmI (p : List UInt8) (x : Itm) : List UInt8 := nameB (x.key.drop p.length)
def namesR (p : List UInt8) (xs : List Itm) : List (List UInt8) := (xs.map (nmI p)).foldl layS []
theorem strs_snoc (L : List (List UInt8)) (b : List UInt8) : strs (L ++ [b]) = strs L ++ [.string (bs b)] := by simp [strs]
theorem under_all {fs : List (List Itm)} {vs : List Int} {p : List UInt8} (hl : fs.length = 16) (hS : SmallT fs) (he : errW fs vs p p = 0) : ∀ x ∈ underR fs vs p, x.key.length ≤ 60 ∧ p.length ≤ x.key.length := fun x hx => by
  rw [under_whole he hl] at hx
  obtain ⟨h1, h2⟩ := List.mem_filter.1 hx
  refine ⟨?_, ?_⟩
  · rcases fold_mem _ _ _ h1 with h | h
    · simp at h
    · exact flat_small hS x h
  · obtain ⟨r, hr⟩ := beg_iff.1 h2
    rw [hr]; simp
theorem str_one (b : List UInt8) : ∀ u ∈ [Value.string (bs b)], u.oneCell' = true := fun u hu => by
  obtain rfl := List.mem_singleton.1 hu
  rfl
set_option maxHeartbeats 8000000 in
theorem span_Names (ls : List Value) (vs : List Int) (fs : List (List Itm)) (p : List UInt8) (w : World) (hT : Tr w ls vs fs) (hM : Maxl w) :
    Calls Tryd.prog 17 #[trunkA ls vs, .string (bs p)] w fun e w' => ∃ v, e = .returned (.tuple #[v, .int .i64 (errW fs vs p p)]) ∧ Below w.heap.size w w' ∧ w'.ownsRow w.heap.size ST 1 v (namesR p (underR fs vs p)).length (strs (namesR p (underR fs vs p))) := by
  have h32 := hT.size
  have hlen := underR_len fs vs p
  refine calls_plain Tryd.func17 rfl Tryd.ntmps17 rfl ?_
  refine at_seq ?_
  refine at_region ?_
  refine at_boxagg rfl rfl fun gz0 => ?_
  refine at_do (does_assign rfl) rfl rfl ?_
  refine at_do (does_assign rfl) rfl rfl ?_
  refine at_nil ?_
  refine at_then ?_
  refine at_seq ?_
  refine at_region ?_
  refine at_do (does_loadagg (i := 0) (k := 32) (by kernel_rfl) rfl rfl h32) rfl rfl ?_
  refine at_do (does_move rfl) rfl rfl ?_
  refine at_callrow2 (f := 16) (enters_fn (by kernel_rfl) rfl) (fun w ho => span_Under ls vs fs p w (ho.tr hT)) rfl rfl (fun v => ?_)
  refine at_do (does_move rfl) rfl rfl ?_
  refine at_do (does_extract rfl rfl) rfl rfl ?_
  refine at_do (does_extract rfl rfl) rfl rfl ?_
  refine at_do (does_assign rfl) rfl rfl ?_
  refine at_do (does_assign rfl) rfl rfl ?_
  refine at_nil ?_
  refine at_then ?_
  refine at_seq ?_
  refine at_seq ?_
  refine at_region ?_
  rotate_left
  by_cases he : errW fs vs p p = 0
  · have hall := under_all hT.t.l2 hT.s he
    rw [he]
    obtain ⟨xs, hxs⟩ : ∃ xs, xs = underR fs vs p := ⟨_, rfl⟩
    rw [← hxs] at hlen hall ⊢
    refine at_do (does_move rfl) rfl rfl ?_
    refine at_do (does_neq rfl rfl) rfl rfl ?_
    refine at_nil ?_
    refine at_then ?_
    refine at_cond_f rfl (decide_eq_false (by decide)) ?_
    refine at_skip ?_
    refine at_then ?_
    refine at_seq ?_
    refine at_region ?_
    refine at_do (does_assign rfl) rfl rfl ?_
    refine at_nil ?_
    refine at_then ?_
    refine at_seq ?_
    refine at_seq ?_
    refine at_region ?_
    refine at_do (does_move rfl) rfl rfl ?_
    refine at_do (does_rowlen (i := 0) (by kernel_rfl) rfl rfl) rfl rfl ?_
    refine at_do (does_move rfl) rfl rfl ?_
    refine at_nil ?_
    refine at_then ?_
    refine at_block ?_
    rotate_left
    refine at_loopH (σ := Value × Nat) (fun s => s.2 ≤ xs.length) (fun s => [(1, .string (bs p)), (8, s.1), (23, v), (24, .int .i64 xs.length), (25, .int .i64 s.2)]) (fun s => [.row s.1 ST 1 ((xs.take s.2).map (nmI p)).length (strs ((xs.take s.2).map (nmI p))), .row v IT 5 xs.length (itms xs)]) (fun s => xs.length - s.2)
      (fun w ho => ⟨(.slice none 0 0, 0), Nat.zero_le _, ⟨rfl, rfl, rfl, rfl, rfl, trivial⟩, by
        have h1 : Own _ [.row v IT 5 xs.length (itms xs)] w := ho.sublist (.cons_cons _ (List.nil_sublist _))
        exact h1.nilrow ST 1⟩) ?_
    rintro ⟨u, j⟩ hj
    simp only at hj
    have hml : ((xs.take j).map (nmI p)).length = j := by simp; omega
    by_cases hjl : j < xs.length
    · refine at_openrow (i := 1) rfl ?_
      rintro ⟨_, ⟨rfl, h0⟩ | ⟨gb, c, rfl⟩⟩
      · omega
      · obtain ⟨hx, hpx⟩ := hall xs[j] (List.getElem_mem hjl)
        have htk : (xs.take (j + 1)).map (nmI p) = (xs.take j).map (nmI p) ++ [nmI p xs[j]] := by
          rw [List.take_succ_eq_append_getElem hjl, List.map_append]; rfl
        have hd : (xs[j].key.drop p.length).length ≤ 1000000 := by rw [List.length_drop]; omega
        refine at_seq ?_
        refine at_region ?_
        refine at_do (does_lss rfl rfl) rfl rfl ?_
        refine at_nil ?_
        refine at_then ?_
        refine at_seq ?_
        refine at_cond_t rfl (decide_eq_true (by omega)) ?_
        refine at_skip ?_
        refine at_then ?_
        refine at_seq ?_
        refine at_block ?_
        refine at_seq ?_
        refine at_region ?_
        refine at_do (does_indexAddrk (k := 5) (j := j) (by kernel_rfl) rfl rfl hjl) rfl rfl ?_
        refine at_do (does_loadagg_mem (vs := itmV xs[j]) (by kernel_rfl) rfl (fun w' ho => (row_itm (ho.rowAt (i := 1) rfl) hjl).agg)) rfl rfl ?_
        refine at_allocagg Tryd.zeroValue43 rfl fun gz0 => ?_
        refine at_storeagg (i := 0) (by kernel_rfl) rfl rfl rfl rfl rfl ?_
        refine at_nil ?_
        refine at_then ?_
        refine at_seq ?_
        refine at_region ?_
        refine at_do (does_fieldAddr (o := 0) (by kernel_rfl) rfl) rfl rfl ?_
        refine at_do (does_load (i := 0) (by kernel_rfl) rfl rfl rfl) rfl rfl ?_
        refine at_do (does_move rfl) rfl rfl ?_
        refine at_do (does_slen (by kernel_rfl) rfl) rfl rfl ?_
        refine at_do (does_sslice_lo (l := xs[j].key) (p := (p.length : Int)) (k := .i64) (by kernel_rfl) rfl rfl ⟨by omega, by omega⟩) rfl rfl ?_
        refine at_call (ι := List UInt8 × Bool) (fun i => .tuple #[.string (bs (nmI p xs[j])), .string (bs i.1), .bool i.2]) (fun _ => _) (enters_fn (f := 41) (by kernel_rfl) rfl) (fun w ho => (cut_call (xs[j].key.drop p.length) _ hd (ho.maxl hM id)).mono fun e w3 hq => by obtain ⟨r, m, q1, q2⟩ := hq; exact ⟨(r, m), q1, ho.below q2⟩) rfl rfl rfl (fun i => ?_)
        refine at_do (does_move rfl) rfl rfl ?_
        refine at_do (does_extract rfl rfl) rfl rfl ?_
        refine at_do (does_extract rfl rfl) rfl rfl ?_
        refine at_do (does_extract rfl rfl) rfl rfl ?_
        refine at_do (does_assign rfl) rfl rfl ?_
        refine at_do (does_assign rfl) rfl rfl ?_
        refine at_do (does_assign rfl) rfl rfl ?_
        refine at_nil ?_
        refine at_then ?_
        refine at_region ?_
        refine at_do (does_move rfl) rfl rfl ?_
        refine at_do (does_move rfl) rfl rfl ?_
        refine at_buildSlice (e := ST) (sz := 1) (vs := [.string (bs (nmI p xs[j]))]) (cs := [.string (bs (nmI p xs[j]))]) (by kernel_rfl) rfl rfl rfl rfl rfl rfl (fun hl => ?_)
        refine at_append (i := 2) (e := ST) (sz := 1) (by' := 16) (m := ((xs.take j).map (nmI p)).length) (k := 1) (news := [.string (bs (nmI p xs[j]))]) (by kernel_rfl) rfl rfl rfl rfl (fun w ho => lit_cells ho (i := 0) rfl) (str_one _) (by simp only [maxLen]; omega) rfl (fun v4 hv4 => ?_)
        refine at_do (does_assign rfl) rfl rfl ?_
        refine at_nil ?_
        refine at_inb ?_
        refine at_then ?_
        refine at_region ?_
        refine at_do (does_addi rfl rfl (by omega)) rfl rfl ?_
        refine at_do (does_move rfl) rfl rfl ?_
        refine at_nil ?_
        refine at_then ?_
        rotate_left
        refine at_againw fun w ho => ⟨(v4, j + 1), by show j + 1 ≤ xs.length; omega, by show xs.length - (j + 1) < xs.length - j; omega, ⟨rfl, rfl, rfl, rfl, rfl, trivial⟩, rfl, ?_⟩
        show Own _ [.row v4 ST 1 ((xs.take (j + 1)).map (nmI p)).length (strs ((xs.take (j + 1)).map (nmI p))), .row _ IT 5 xs.length (itms xs)] w
        rw [htk, strs_snoc, List.length_append]
        exact ho.sublist (.cons _ (.cons _ (List.Sublist.refl _)))
    · obtain rfl : j = xs.length := by omega
      obtain ⟨L, hL⟩ : ∃ L, L = xs.map (nmI p) := ⟨_, rfl⟩
      have e0 : (xs.take xs.length).map (nmI p) = L := by rw [List.take_length, hL]
      have hLl : L.length ≤ 100000 := by rw [hL, List.length_map]; omega
      have hR : Lib.compact (L.mergeSort leB) = namesR p xs := by rw [compact_law, hL, namesR]
      have hsl : (L.mergeSort leB).length = L.length := List.length_mergeSort _
      simp only [e0]
      refine at_seq ?_
      refine at_region ?_
      refine at_do (does_lss rfl rfl) rfl rfl ?_
      refine at_nil ?_
      refine at_then ?_
      refine at_seq ?_
      refine at_cond_f rfl (decide_eq_false (by omega)) ?_
      refine at_exit ?_
      refine at_then_exit ?_
      refine at_then_exit ?_
      refine at_inb_here ?_
      refine at_then ?_
      refine at_seq ?_
      refine at_region ?_
      refine at_do (does_move rfl) rfl rfl ?_
      refine at_callin (ι := Unit) (f := 42) (H0 := [.row u ST 1 L.length (strs L)]) (R := [.row v IT 5 xs.length (itms xs)]) (fun _ => .tuple #[]) (fun _ => [.row u ST 1 L.length (strs (L.mergeSort leB))]) rfl (enters_fn (by kernel_rfl) rfl) (fun w _ ho => (sort_call _ L w hLl ho).mono fun e w' h => ⟨(), h⟩) rfl rfl (fun _ => ?_)
      refine at_nil ?_
      refine at_then ?_
      refine at_seq ?_
      refine at_region ?_
      refine at_do (does_move rfl) rfl rfl ?_
      refine at_callin (ι := Value) (f := 43) (H0 := [.row u ST 1 (L.mergeSort leB).length (strs (L.mergeSort leB))]) (R := [.row v IT 5 xs.length (itms xs)]) (fun z => z) (fun z => [.row z ST 1 (Lib.compact (L.mergeSort leB)).length (strs (Lib.compact (L.mergeSort leB)))]) (by rw [hsl]) (enters_fn (by kernel_rfl) rfl) (fun w _ ho => compact_call _ (L.mergeSort leB) w (by omega) ho) rfl rfl (fun z => ?_)
      refine at_do (does_assign rfl) rfl rfl ?_
      refine at_do (does_assign rfl) rfl rfl ?_
      refine at_nil ?_
      refine at_then ?_
      refine at_ret ?_
      refine at_ret2 rfl rfl rfl rfl (fun w9 ho9 => ?_)
      rotate_left
      rw [← hR]
      exact ⟨_, rfl, ho9.plain, ho9.rowOut (List.mem_cons_self ..)⟩
  · have hN : underR fs vs p = [] := under_none he
    rw [hN]
    refine at_do (does_move rfl) rfl rfl ?_
    refine at_do (does_neq rfl rfl) rfl rfl ?_
    refine at_nil ?_
    refine at_then ?_
    refine at_cond_t rfl (decide_eq_true (by simpa using he)) ?_
    refine at_seq ?_
    refine at_region ?_
    refine at_do (does_move rfl) rfl rfl ?_
    refine at_do (does_assign rfl) rfl rfl ?_
    refine at_do (does_assign rfl) rfl rfl ?_
    refine at_nil ?_
    refine at_then ?_
    refine at_ret ?_
    refine at_then_ret ?_
    refine at_ret2 rfl rfl rfl rfl (fun w9 ho9 => ?_)
    rotate_left
    exact ⟨_, rfl, ho9.plain, World.ownsRow_nil _ _ _ _⟩
end Go.Proofs.YtjpfebgpcokenaaDoor
