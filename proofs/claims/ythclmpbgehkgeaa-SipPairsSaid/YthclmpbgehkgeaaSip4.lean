/-
  A word taken in, the beginning, a hasher of no bytes. No condition of its own.
-/
import Derived.Test.YthclmpbgehkgeaaSip3
import Derived.Test.YthclmpbgehkgeaaSeg
set_option linter.unusedSimpArgs false
set_option linter.unusedVariables false
namespace Go.Proofs.Ythclmpbgehkgeaa.K
open Go.RowKit
attribute [local irreducible] cwp lwp Exit.then Exit.inBlock Exit.noGoto wpQuiet Calls fin At AtQ Again endQ RQ rnds rnd rotl

def wordF (v : W4) (m : Int) : W4 :=
  let u := rnds 2 ⟨v.a, v.b, v.c, xr v.d m⟩
  ⟨xr u.a m, u.b, u.c, u.d⟩
theorem word_good {v : W4} {m : Int} (h : v.good) (hm : Wd m) : (wordF v m).good := by
  have h1 : (rnds 2 ⟨v.a, v.b, v.c, xr v.d m⟩).good := rnds_good 2 _ ⟨h.1, h.2.1, h.2.2.1, wd_xr _ _ h.2.2.2 hm⟩
  exact ⟨wd_xr _ _ h1.1 hm, h1.2.1, h1.2.2.1, h1.2.2.2⟩
theorem shape46 : shapeOf Try.prog 49 = some ([.int .u64 0, .int .u64 0, .int .u64 0, .int .u64 0, .slice none 0 0, .int .i64 0], [(0, 4), (4, 1), (5, 1)]) := by kernel_rfl
theorem shapeSt : shapeArr Try.prog 46 = some ([.int .u64 0, .int .u64 0, .int .u64 0, .int .u64 0], 1) := by kernel_rfl
theorem shapeSec : shapeOf Try.prog 24 = some ([.int .u64 0, .int .u64 0], [(0, 1), (1, 1)]) := by kernel_rfl
theorem sip_word (v : W4) (m : Int) (w : World) (hv : v.good) (hm : Wd m) : Calls Try.prog 22 #[.agg v.cells, .int .u64 m] w fun e w' => e = .returned (.agg (wordF v m).cells) ∧ Below w.heap.size w w' := by
  obtain ⟨a, b, c, d⟩ := v
  have hg : W4.good ⟨a, b, c, xr d m⟩ := ⟨hv.1, hv.2.1, hv.2.2.1, wd_xr _ _ hv.2.2.2 hm⟩
  refine calls_plain (args := [.agg #[.int .u64 a, .int .u64 b, .int .u64 c, .int .u64 d], .int .u64 m]) Try.func22 rfl Try.ntmps22 rfl ?_
  refine at_seq ?_
  refine at_region ?_
  refine at_boxagg rfl rfl fun gz0 => ?_
  refine at_allocagg Try.zeroValue46 rfl fun gz1 => ?_
  refine at_nil ?_
  refine at_then ?_
  refine at_seq ?_
  refine at_region ?_
  refine at_do (does_indexArr (len := 4) (k := 1) (by kernel_rfl) rfl rfl (by first | decide | (omega))) rfl rfl ?_
  refine at_do (does_load (i := 1) (by kernel_rfl) rfl rfl rfl) rfl rfl ?_
  refine at_do (does_move rfl) rfl rfl ?_
  refine at_do (does_bits (by simp) rfl rfl) rfl rfl ?_
  refine at_do (does_indexArr (len := 4) (k := 1) (by kernel_rfl) rfl rfl (by first | decide | (omega))) rfl rfl ?_
  refine at_store (i := 1) (by kernel_rfl) rfl rfl rfl rfl rfl ?_
  refine at_nil ?_
  refine at_then ?_
  refine at_seq ?_
  refine at_region ?_
  refine at_do (does_loadagg (i := 1) (k := 4) (by kernel_rfl) rfl rfl rfl) rfl rfl ?_
  refine at_callv (f := 23) (enters_fn (by kernel_rfl) rfl) (fun w ho => rounds_any ⟨a, b, c, xr d m⟩ 2 (by decide) w hg) rfl rfl ?_
  refine at_storeagg (i := 1) (by kernel_rfl) rfl rfl rfl rfl rfl ?_
  refine at_nil ?_
  refine at_then ?_
  refine at_seq ?_
  refine at_region ?_
  refine at_do (does_indexArr (len := 4) (k := 1) (by kernel_rfl) rfl rfl (by first | decide | (omega))) rfl rfl ?_
  refine at_do (does_load (i := 1) (by kernel_rfl) rfl rfl rfl) rfl rfl ?_
  refine at_do (does_move rfl) rfl rfl ?_
  refine at_do (does_bits (by simp) rfl rfl) rfl rfl ?_
  refine at_do (does_indexArr (len := 4) (k := 1) (by kernel_rfl) rfl rfl (by first | decide | (omega))) rfl rfl ?_
  refine at_store (i := 1) (by kernel_rfl) rfl rfl rfl rfl rfl ?_
  refine at_nil ?_
  refine at_then ?_
  refine at_seq ?_
  refine at_region ?_
  refine at_do (does_loadagg (i := 1) (k := 4) (by kernel_rfl) rfl rfl rfl) rfl rfl ?_
  refine at_storeagg (i := 0) (by kernel_rfl) rfl rfl rfl rfl rfl ?_
  refine at_nil ?_
  refine at_then ?_
  refine at_ret ?_
  refine at_retagg (i := 0) rfl rfl rfl (by kernel_rfl) rfl (fun w9 ho9 => ?_)
  rotate_left
  exact ⟨rfl, (Own.orig ho9).toBelow⟩
def beginF (p q : Int) : W4 := ⟨xr 8317987319222330741 p, xr 7237128888997146477 q, xr 7816392313619706465 p, xr 8387220255154660723 q⟩
theorem begin_good {p q : Int} (hp : Wd p) (hq : Wd q) : (beginF p q).good :=
  ⟨wd_xr _ _ (by unfold Wd; omega) hp, wd_xr _ _ (by unfold Wd; omega) hq, wd_xr _ _ (by unfold Wd; omega) hp, wd_xr _ _ (by unfold Wd; omega) hq⟩
abbrev sec (p q : Int) : Value := .agg #[.int .u64 p, .int .u64 q]
theorem sip_begin (p q : Int) (w : World) : Calls Try.prog 21 #[sec p q] w fun e w' => e = .returned (.agg (beginF p q).cells) ∧ Below w.heap.size w w' := by
  refine calls_plain Try.func21 rfl Try.ntmps21 rfl ?_
  refine at_seq ?_
  refine at_region ?_
  refine at_boxagg rfl rfl fun gz0 => ?_
  refine at_allocagg Try.zeroValue46 rfl fun gz1 => ?_
  refine at_nil ?_
  refine at_then ?_
  refine at_seq ?_
  refine at_region ?_
  refine at_do (does_fieldAddr (o := 0) (by kernel_rfl) rfl) rfl rfl ?_
  refine at_do (does_load (i := 1) (by kernel_rfl) rfl rfl rfl) rfl rfl ?_
  refine at_do (does_bits (by simp) rfl rfl) rfl rfl ?_
  refine at_do (does_fieldAddr (o := 1) (by kernel_rfl) rfl) rfl rfl ?_
  refine at_do (does_load (i := 1) (by kernel_rfl) rfl rfl rfl) rfl rfl ?_
  refine at_do (does_bits (by simp) rfl rfl) rfl rfl ?_
  refine at_do (does_fieldAddr (o := 0) (by kernel_rfl) rfl) rfl rfl ?_
  refine at_do (does_load (i := 1) (by kernel_rfl) rfl rfl rfl) rfl rfl ?_
  refine at_do (does_bits (by simp) rfl rfl) rfl rfl ?_
  refine at_do (does_fieldAddr (o := 1) (by kernel_rfl) rfl) rfl rfl ?_
  refine at_do (does_load (i := 1) (by kernel_rfl) rfl rfl rfl) rfl rfl ?_
  refine at_do (does_bits (by simp) rfl rfl) rfl rfl ?_
  refine at_do (does_buildarr (cs := (beginF p q).cells.toList) shapeSt rfl rfl) rfl rfl ?_
  refine at_storeagg (i := 0) (by kernel_rfl) rfl rfl rfl rfl rfl ?_
  refine at_nil ?_
  refine at_then ?_
  refine at_ret ?_
  refine at_retagg (i := 0) rfl rfl rfl (by kernel_rfl) rfl (fun w9 ho9 => ?_)
  rotate_left
  exact ⟨rfl, (Own.orig ho9).toBelow⟩
theorem law_known (w : World) : Calls Try.prog 20 #[] w fun e w' => e = .returned (sec 506097522914230528 1084818905618843912) ∧ Below w.heap.size w w' := by
  refine calls_plain Try.func20 rfl Try.ntmps20 rfl ?_
  refine at_seq ?_
  refine at_region ?_
  refine at_allocagg Try.zeroValue24 rfl fun gz0 => ?_
  refine at_nil ?_
  refine at_then ?_
  refine at_seq ?_
  refine at_region ?_
  refine at_do (does_build (cs := [.int .u64 506097522914230528, .int .u64 1084818905618843912]) shapeSec rfl rfl) rfl rfl ?_
  refine at_storeagg (i := 0) (by kernel_rfl) rfl rfl rfl rfl rfl ?_
  refine at_nil ?_
  refine at_then ?_
  refine at_ret ?_
  refine at_retagg (i := 0) rfl rfl rfl (by kernel_rfl) rfl (fun w9 ho9 => ?_)
  rotate_left
  exact ⟨rfl, (Own.orig ho9).toBelow⟩
/-- The cells of a hasher. -/
abbrev hcells (v : W4) (rv : Value) (cnt : Int) : Array Value := #[.int .u64 v.a, .int .u64 v.b, .int .u64 v.c, .int .u64 v.d, rv, .int .i64 cnt]
theorem sip_New (p q : Int) (w : World) : Calls Try.prog 12 #[sec p q] w fun e w' => ∃ h, e = .returned (.pointer (some ⟨h, 0, none⟩)) ∧ Below w.heap.size w w' ∧ w.heap.size ≤ h ∧ w'.heap[h]? = some (.cells (hcells (beginF p q) (.slice none 0 0) 0) 49) := by
  refine calls_plain Try.func12 rfl Try.ntmps12 rfl ?_
  refine at_seq ?_
  refine at_region ?_
  refine at_boxagg rfl rfl fun gz0 => ?_
  refine at_do (does_assign rfl) rfl rfl ?_
  refine at_nil ?_
  refine at_then ?_
  refine at_seq ?_
  refine at_region ?_
  refine at_do (does_loadagg (i := 0) (k := 2) (by kernel_rfl) rfl rfl rfl) rfl rfl ?_
  refine at_callv (f := 21) (enters_fn (by kernel_rfl) rfl) (fun w ho => sip_begin _ _ w) rfl rfl ?_
  refine at_do (does_build (cs := (hcells (beginF p q) (.slice none 0 0) 0).toList) shape46 rfl rfl) rfl rfl ?_
  refine at_boxagg rfl rfl fun gz1 => ?_
  refine at_do (does_assign rfl) rfl rfl ?_
  refine at_nil ?_
  refine at_then ?_
  refine at_ret ?_
  refine at_ret1 rfl rfl rfl (fun w9 ho9 => ?_)
  rotate_left
  exact ⟨_, rfl, ho9.plain, (ho9.blkOut (List.mem_cons_self ..)).1, (ho9.blkOut (List.mem_cons_self ..)).2⟩
end Go.Proofs.Ythclmpbgehkgeaa.K
