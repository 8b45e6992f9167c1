/-
  Whether what one want writes meets what the other touches. No condition of its own.
-/
import Derived.Test.YtchfecmabhfooaaDoorClash3
set_option linter.unusedSimpArgs false
set_option linter.unusedVariables false
namespace Go.Proofs.YtchfecmabhfooaaDoor
open Go.RowKit
attribute [local irreducible] cwp lwp Exit.then Exit.inBlock Exit.noGoto wpQuiet Calls fin At AtQ Again endQ RQ

def meetK (s p : List UInt8) : Bool := keyOk s && keyOk p && (beg s p || beg p s)
def hitF (W1 T2 : List (List UInt8)) : Bool := W1.any fun s => T2.any fun p => meetK s p
theorem Own.young {w0 w b : World} {L F : Nat → Prop} {D : List Nat} {H : List Res} (h : Own ⟨w0, L, fun _ => False, b, F, D⟩ H w) : ∀ k ∈ bls H, w0.heap.size ≤ k := fun k hk => (h.mine k hk).1.resolve_right id
theorem vals_notG {C : Ctx} {H : List Res} {W1 w : World} {G : Nat → Prop} {v : Value} {L : List (List UInt8)} (ho : Own C H W1) (hG : ∀ k, G k → k ∈ bls H ∨ ∃ q, W1.heap[k]? = some (.loop q)) (hw : C.W = w) (hM : ∀ k, ¬ C.M k) (hV : ValsAt w v (strs L)) (hV1 : ValsAt W1 v (strs L)) : 0 < L.length → ∀ g ∈ v.ownBlock, ¬ G g := by
  intro hl g hg
  obtain ⟨gb, o, c, rfl, _, hlt, hcell⟩ := hV.form (by rw [strs_len]; exact hl)
  obtain ⟨gb', o', c', he, _, _, hcell'⟩ := hV1.form (by rw [strs_len]; exact hl)
  simp only [Value.slice.injEq, Option.some.injEq, Addr.mk.injEq, and_true, true_and] at he
  obtain ⟨⟨rfl, rfl⟩, rfl⟩ := he
  simp [Value.ownBlock] at hg
  subst hg
  obtain ⟨ob, hob, hne⟩ := obj_of_cell (hcell' 0 _ (strs_get hl))
  exact ho.notG hG (hw ▸ hlt) (hM _) hob hne
set_option maxHeartbeats 4000000 in
theorem clash_hits (a1 b1 a2 b2 : Value) (W1 R2 W2 : List (List UInt8)) (w : World) (hG : Glob w) (h2 : ValsAt w b1 (strs W1)) (h3 : ValsAt w a2 (strs R2)) (h4 : ValsAt w b2 (strs W2))
    (s2 : Short W1) (s3 : Short R2) (s4 : Short W2) (o1 : a1.oneCell' = true) (o2 : b1.oneCell' = true) (o3 : a2.oneCell' = true) (o4 : b2.oneCell' = true) :
    Calls Tryd.prog 62 #[.agg #[a1, b1], .agg #[a2, b2]] w fun e w' => e = .returned (.bool (hitF W1 (R2 ++ W2))) ∧ Below w.heap.size w w' := by
  have l1 := strs_len W1
  have s21 := s2.1
  have hw0 : 0 < w.heap.size := World.block_lt_of_cell? _ _ hG.1
  obtain ⟨A1, c1, hb1⟩ := h2.len
  refine calls_plain Tryd.func62 rfl Tryd.ntmps62 rfl ?_
  refine at_seq ?_
  refine at_region ?_
  refine at_boxagg rfl rfl fun gz0 => ?_
  refine at_boxagg rfl rfl fun gz1 => ?_
  refine at_alloc rfl Tryd.zeroValue4 rfl fun gz2 => ?_
  refine at_nil ?_
  refine at_then ?_
  refine at_seq ?_
  refine at_seq ?_
  refine at_region ?_
  refine at_do (does_fieldAddr (o := 1) (by kernel_rfl) rfl) rfl rfl ?_
  refine at_do (does_load (i := 2) (by kernel_rfl) rfl rfl rfl) rfl rfl ?_
  refine at_do (does_vlen (vs := strs W1) (by kernel_rfl) rfl (fun w ho => ho.oldVals h2)) rfl rfl ?_
  refine at_do (does_move rfl) rfl rfl ?_
  refine at_nil ?_
  refine at_then ?_
  refine at_block ?_
  rotate_left
  refine at_loop (σ := Nat × List Nat) (fun s => s.1 ≤ W1.length ∧ (W1.take s.1).any (fun x => (R2 ++ W2).any fun p => meetK x p) = false) (fun s => [(3, .pointer (some ⟨gz1, 0, none⟩)), (4, .pointer (some ⟨gz2, 0, none⟩)), (9, b1), (10, .int .i64 (strs W1).length), (11, .int .i64 s.1)])
    (fun s => ⟨w, fun _ => False, fun _ => False, w, fun _ => False, s.2⟩) (fun s => [.blk gz2 4 #[.bool false], .blk gz1 24 #[a2, b2]]) (fun s => W1.length - s.1)
    (fun w1 ho => ⟨(0, []), ⟨Nat.zero_le _, rfl⟩, ⟨rfl, rfl, rfl, rfl, rfl, trivial⟩, rfl, ho.sublist (.cons_cons _ (.cons_cons _ (List.nil_sublist _)))⟩) ?_
  rintro ⟨i, D⟩ ⟨hi, hI⟩
  simp only at hi hI
  by_cases hil : i < W1.length
  · obtain ⟨gb, o, c, rfl, hc, hlt, hcell⟩ := h2.form (by omega)
    have hci := hcell i _ (strs_get hil)
    have hI2 := any_take (p := fun x => (R2 ++ W2).any fun p => meetK x p) hil
    have hT := any_true (p := fun x => (R2 ++ W2).any fun p => meetK x p) hil
    generalize W1[i] = x at hci hI2 hT
    refine at_seq ?_
    refine at_region ?_
    refine at_do (does_lss rfl rfl) rfl rfl ?_
    refine at_nil ?_
    refine at_then ?_
    refine at_seq ?_
    refine at_cond_t rfl (decide_eq_true (by omega)) ?_
    refine at_skip ?_
    refine at_then ?_
    refine at_seq ?_
    refine at_block ?_
    refine at_seq ?_
    refine at_region ?_
    refine at_do (does_indexAddr1 (by kernel_rfl) rfl rfl (by (first | omega | (simp only; omega)))) rfl rfl ?_
    refine at_do (does_load_mem (by kernel_rfl) rfl (fun w' ho => Below.cellOld ho.plain hci)) rfl rfl ?_
    refine at_alloc rfl Tryd.zeroValue9 rfl fun gz0 => ?_
    refine at_store (i := 0) (by kernel_rfl) rfl rfl rfl rfl rfl ?_
    refine at_nil ?_
    refine at_then ?_
    refine at_seq ?_
    refine at_region ?_
    refine at_do (does_loadagg (i := 2) (k := 2) (by kernel_rfl) rfl rfl rfl) rfl rfl ?_
    refine at_callblk (f := 87) (enters_fn (by kernel_rfl) rfl) (fun w ho => clash_all a2 b2 w o3 o4) rfl rfl (fun hb => ?_)
    refine at_nil ?_
    refine at_then ?_
    refine at_block ?_
    rotate_left
    refine at_range (σ := Unit) (xs := strs (R2 ++ W2)) (fun j _ => ((R2 ++ W2).take j).any (fun p => meetK x p) = false) (fun _ _ => [.blk hb 24 #[a2, b2], .blk gz0 9 #[.string (bs x)], .blk gz2 4 #[.bool false], .blk gz1 24 #[a2, b2]])
      (fun c _ => c = .ret ∧ (R2 ++ W2).any (fun p => meetK x p) = true) (fun _ _ => [.blk hb 24 #[a2, b2], .blk gz0 9 #[.string (bs x)], .blk gz2 4 #[.bool true], .blk gz1 24 #[a2, b2]]) () rfl rfl rfl (by kernel_rfl) rfl rfl ?_ ?_ ?_ ?_
    · intro X1 G hGG hX1
      have v3 := hX1.oldVals h3
      have v4 := hX1.oldVals h4
      exact clash_all1 a2 b2 R2 W2 X1 G (hX1.get (i := 0) rfl) v3 v4 s3.1 s4.1 (vals_notG hX1 hGG rfl (fun _ h => h) h3 v3) (vals_notG hX1 hGG rfl (fun _ h => h) h4 v4)
    · intro l j y u X hy hIj hX
      obtain ⟨p, hp, rfl⟩ : ∃ p, (R2 ++ W2)[j]? = some p ∧ y = .string (bs p) := by
        simp only [strs, List.getElem?_map, Option.map_eq_some_iff] at hy
        obtain ⟨p, q1, q2⟩ := hy
        exact ⟨p, q1, q2.symm⟩
      have hj : j < (R2 ++ W2).length := (List.getElem?_eq_some_iff.1 hp).1
      have hpe : (R2 ++ W2)[j] = p := by
        have := List.getElem?_eq_getElem hj
        rw [hp] at this; exact (Option.some.inj this).symm
      have hJ2 := any_take (p := fun p => meetK x p) hj
      have hT2 := any_true (p := fun p => meetK x p) hj
      rw [hpe] at hJ2 hT2
      have hGX : Glob X := hX.glob hG id
      have hyo := hX.young
      have h0 : 0 ∉ bls [Res.blk hb 24 #[a2, b2], .blk gz0 9 #[.string (bs x)], .blk gz2 4 #[.bool false], .blk gz1 24 #[a2, b2]] := fun hm => by have := hyo 0 hm; omega
      have cM : ∀ w1, Glob w1 → Calls Tryd.prog 54 #[.string (bs x), .string (bs p)] w1 fun e w' => e = .returned (.bool (meetK x p)) ∧ Below w1.heap.size w1 w' := fun w1 hg => key_Meet x p w1 hg
      cases hk : meetK x p
      · refine at_block ?_
        refine at_seq ?_
        refine at_region ?_
        refine at_do (does_load (i := 1) (by kernel_rfl) rfl rfl rfl) rfl rfl ?_
        refine at_do (does_move rfl) rfl rfl ?_
        refine at_callv (f := 54) (enters_fn (by kernel_rfl) rfl) (fun w ho => cM w (ho.glob hGX h0)) rfl rfl ?_
        refine at_nil ?_
        refine at_then ?_
        refine at_cond_f rfl (by exact hk) ?_
        refine at_skip ?_
        refine at_inb ?_
        rotate_left
        exact at_next () (by rw [hJ2, hIj, hk]; rfl) rfl
      · refine at_block ?_
        refine at_seq ?_
        refine at_region ?_
        refine at_do (does_load (i := 1) (by kernel_rfl) rfl rfl rfl) rfl rfl ?_
        refine at_do (does_move rfl) rfl rfl ?_
        refine at_callv (f := 54) (enters_fn (by kernel_rfl) rfl) (fun w ho => cM w (ho.glob hGX h0)) rfl rfl ?_
        refine at_nil ?_
        refine at_then ?_
        refine at_cond_t rfl (by exact hk) ?_
        refine at_seq ?_
        refine at_region ?_
        refine at_store (i := 2) (by kernel_rfl) rfl rfl rfl rfl rfl ?_
        refine at_nil ?_
        refine at_then ?_
        refine at_ret ?_
        refine at_inb_ret ?_
        rotate_left
        exact at_nextret () ⟨rfl, hT2 hk⟩ rfl
    · intro D1 u hI1
      rw [strs_len, List.take_length] at hI1
      refine at_inb ?_
      refine at_inb ?_
      refine at_then ?_
      refine at_region ?_
      refine at_do (does_addi rfl rfl (by (first | omega | (simp only; omega)))) rfl rfl ?_
      refine at_do (does_move rfl) rfl rfl ?_
      refine at_nil ?_
      refine at_then ?_
      rotate_left
      refine at_againw fun w' ho => ⟨(i + 1, D1 :: D), ⟨by show i + 1 ≤ W1.length; omega, by show (W1.take (i + 1)).any _ = false; rw [hI2, hI, hI1]; rfl⟩, by show W1.length - (i + 1) < W1.length - i; omega, ⟨rfl, rfl, rfl, rfl, rfl, trivial⟩, rfl, ho.sublist (.cons _ (.cons _ (List.Sublist.refl _)))⟩
    · rintro D1 cc u ⟨rfl, hTT⟩
      refine at_ret ?_
      refine at_inb_ret ?_
      refine at_inb_ret ?_
      refine at_then_ret ?_
      refine at_then_ret ?_
      refine at_inb_ret ?_
      refine at_then_ret ?_
      refine at_retcell (i := 2) rfl rfl rfl (by kernel_rfl) rfl (fun w9 ho9 => ?_)
      rotate_left
      exact ⟨ret_bool (hT hTT).symm, Own.orig ho9 |>.toBelow⟩
  · obtain rfl : i = W1.length := by omega
    rw [List.take_length] at hI
    refine at_seq ?_
    refine at_region ?_
    refine at_do (does_lss rfl rfl) rfl rfl ?_
    refine at_nil ?_
    refine at_then ?_
    refine at_seq ?_
    refine at_cond_f rfl (decide_eq_false (by omega)) ?_
    refine at_exit ?_
    refine at_then_exit ?_
    refine at_then_exit ?_
    refine at_inb_here ?_
    refine at_then ?_
    refine at_seq ?_
    refine at_region ?_
    refine at_store (i := 0) (by kernel_rfl) rfl rfl rfl rfl rfl ?_
    refine at_nil ?_
    refine at_then ?_
    refine at_ret ?_
    refine at_retcell (i := 0) rfl rfl rfl (by kernel_rfl) rfl (fun w9 ho9 => ?_)
    rotate_left
    exact ⟨ret_bool hI.symm, Own.orig ho9 |>.toBelow⟩
end Go.Proofs.YtchfecmabhfooaaDoor
