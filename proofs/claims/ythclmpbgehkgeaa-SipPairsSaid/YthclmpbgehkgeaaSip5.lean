/-
  Bytes taken in by a hasher. No condition of its own.
-/
import Derived.Test.YthclmpbgehkgeaaSipLaw
set_option linter.unusedSimpArgs false
set_option linter.unusedVariables false
namespace Go.Proofs.Ythclmpbgehkgeaa.K
open Go.RowKit
attribute [local irreducible] cwp lwp Exit.then Exit.inBlock Exit.noGoto wpQuiet Calls fin At AtQ Again endQ RQ rnds rnd rotl chewA wordF

theorem byV_get {l : List UInt8} {j : Nat} (h : j < l.length) : (byV l)[j]? = some (.int .u8 ((l[j].toNat : Nat) : Int)) := by simp [byV, h]
theorem byV_one (l : List UInt8) : ∀ u ∈ byV l, u.oneCell' = true := by
  intro u hu
  obtain ⟨b, _, rfl⟩ := List.mem_map.1 hu
  rfl
theorem or_byte' (l : List UInt8) (i : Nat) (hi : i < 8) (hl : i < l.length) :
    bits .or .u64 (wsum (l.take i) : Int) (IntKind.u64.wrap (IntKind.u64.wrap ((l[i].toNat : Nat) : Int) * 2 ^ (min (8 * (i : Int)).toNat IntKind.u64.bits))) = (wsum (l.take (i + 1)) : Int) := by
  have hb := l[i].toNat_lt
  have e : IntKind.u64.wrap ((l[i].toNat : Nat) : Int) = ((l[i].toNat : Nat) : Int) := by
    rw [IntKind.wrap_u64, Int.emod_eq_of_lt (by omega) (by omega)]
  rw [e]
  exact or_byte l i hi hl
abbrev hR (h : Nat) (v : W4) (rv : Value) (l : List UInt8) (cnt : Int) : List Res := [.blk h 49 (hcells v rv cnt), .seg rv 5 l.length (byV l)]
set_option maxHeartbeats 4000000 in
set_option maxRecDepth 100000 in
theorem sip_Add (h : Nat) (v : W4) (rv : Value) (l ys : List UInt8) (cnt : Int) (B : Addr) (c : Nat) (w : World) (ho : Own (inC w (hR h v rv l cnt)) (hR h v rv l cnt) w) (hv : v.good) (hl : l.length < 8) (hy : ys.length ≤ 100000) (hc : 0 ≤ cnt ∧ cnt ≤ 1099511627776)
    (hb : ys ≠ [] → B.block ∉ bls (hR h v rv l cnt)) (hB : ∀ j u, (byV ys)[j]? = some u → w.cell? (B.add j) = some u) :
    Calls Try.prog 13 #[.pointer (some ⟨h, 0, none⟩), .slice (some B) ys.length c] w fun e w' => e = .returned (.tuple #[]) ∧ ∃ rv', InR w (fun k => k ∈ bls (hR h v rv l cnt)) (hR h (chewA v (l ++ ys)).1 rv' (chewA v (l ++ ys)).2 (cnt + ys.length)) w' := by
  refine calls_in ho Try.func13 rfl Try.ntmps13 rfl ?_
  refine at_seq ?_
  refine at_region ?_
  refine at_do (does_move rfl) rfl rfl ?_
  refine at_do (does_nilCheck rfl) rfl rfl ?_
  refine at_do (does_fieldAddr (o := 5) (by kernel_rfl) rfl) rfl rfl ?_
  refine at_do (does_load (i := 0) (by kernel_rfl) rfl rfl rfl) rfl rfl ?_
  refine at_do (does_move rfl) rfl rfl ?_
  refine at_do (does_len (by kernel_rfl) rfl) rfl rfl ?_
  refine at_do (does_addi rfl rfl (by omega)) rfl rfl ?_
  refine at_do (does_nilCheck rfl) rfl rfl ?_
  refine at_do (does_fieldAddr (o := 5) (by kernel_rfl) rfl) rfl rfl ?_
  refine at_store (i := 0) (by kernel_rfl) rfl rfl rfl rfl rfl ?_
  refine at_nil ?_
  refine at_then ?_
  refine at_seq ?_
  refine at_region ?_
  refine at_do (does_move rfl) rfl rfl ?_
  refine at_do (does_move rfl) rfl rfl ?_
  refine at_do (does_nilCheck rfl) rfl rfl ?_
  refine at_do (does_fieldAddr (o := 4) (by kernel_rfl) rfl) rfl rfl ?_
  refine at_do (does_load (i := 0) (by kernel_rfl) rfl rfl rfl) rfl rfl ?_
  refine at_do (does_move rfl) rfl rfl ?_
  refine at_segappend (i := 1) (by' := 1) (e := 5) (m := l.length) (k := ys.length) (news := byV ys) (by kernel_rfl) rfl rfl rfl (by simp [byV]) ?_ (byV_one _) (by simp only [maxLen]; omega) rfl (fun v1 hv1 => ?_)
  rotate_left
  refine at_do (does_nilCheck rfl) rfl rfl ?_
  refine at_do (does_fieldAddr (o := 4) (by kernel_rfl) rfl) rfl rfl ?_
  refine at_store (i := 0) (by kernel_rfl) rfl rfl (by assumption) rfl rfl ?_
  refine at_nil ?_
  refine at_then ?_
  refine at_block ?_
  rotate_left
  · intro w' ho' j u hu
    have hne : ys ≠ [] := by rintro rfl; simp [byV] at hu
    have hblk : (B.add j).block = B.block := by unfold Addr.add; split <;> rfl
    have hlt := World.block_lt_of_cell? _ _ (hB j u hu)
    exact (World.cell?_of_block (ho'.orig.old _ hlt (by rw [hblk]; exact hb hne))).trans (hB j u hu)
  · refine at_loopH (σ := W4 × Value × List UInt8) (fun s => chewA s.1 s.2.2 = chewA v (l ++ ys) ∧ s.1.good ∧ s.2.2.length ≤ 100008) (fun s => [(0, .pointer (some ⟨h, 0, none⟩))]) (fun s => hR h s.1 s.2.1 s.2.2 (cnt + ys.length)) (fun s => s.2.2.length)
      (fun w ho => ⟨(v, v1, l ++ ys), ⟨rfl, hv, by simp; omega⟩, ⟨rfl, trivial⟩, by
        have e1 : (l ++ ys).length = l.length + ys.length := List.length_append
        have e2 : byV (l ++ ys) = byV l ++ byV ys := by simp [byV]
        show Own _ [.blk h 49 (hcells v v1 (cnt + ys.length)), .seg v1 5 (l ++ ys).length (byV (l ++ ys))] _
        rw [e1, e2]
        exact ho⟩) ?_
    rintro ⟨u, rv, k⟩ ⟨hk1, hk2, hk3⟩
    simp only at hk1 hk2 hk3
    refine at_seq ?_
    refine at_seq ?_
    refine at_region ?_
    refine at_do (does_move rfl) rfl rfl ?_
    refine at_do (does_nilCheck rfl) rfl rfl ?_
    refine at_do (does_fieldAddr (o := 4) (by kernel_rfl) rfl) rfl rfl ?_
    refine at_do (does_load (i := 0) (by kernel_rfl) rfl rfl rfl) rfl rfl ?_
    refine at_do (does_seglen (i := 1) (by kernel_rfl) rfl rfl) rfl rfl ?_
    refine at_do (does_geq rfl rfl) rfl rfl ?_
    refine at_nil ?_
    refine at_then ?_
    refine at_condD rfl (fun z0 => ?_) (fun z0 => ?_)
    refine at_skip ?_
    refine at_then ?_
    refine at_block ?_
    refine at_seq ?_
    refine at_region ?_
    refine at_do (does_assign rfl) rfl rfl ?_
    refine at_nil ?_
    refine at_then ?_
    refine at_seq ?_
    refine at_seq ?_
    refine at_region ?_
    refine at_do (does_move rfl) rfl rfl ?_
    refine at_nil ?_
    refine at_then ?_
    refine at_block ?_
    rotate_left
    refine at_exit ?_
    refine at_then_exit ?_
    refine at_then_exit ?_
    refine at_inb_here ?_
    refine at_end0 rfl rfl (fun w9 ho9 => ?_)
    rotate_left
    · have h8 : 8 ≤ k.length := by have := z0; simp only at this; omega
      refine at_openseg (i := 1) rfl ?_
      rintro ⟨_, ⟨_, h0⟩ | ⟨gb, o, cc, hrv⟩⟩
      · simp only at h0; omega
      simp only at hrv
      subst hrv
      refine at_loop0 (fun i : Nat => i ≤ 8) (fun i => [(0, .pointer (some ⟨h, 0, none⟩)), (4, .int .u64 (wsum (k.take i) : Int)), (30, .int .i64 i)]) (fun i => 8 - i) 0 (by omega) ⟨rfl, rfl, rfl, trivial⟩ ?_
      rintro i hi
      by_cases hi8 : i < 8
      · have hb1 := (k[i]'(by omega)).toNat_lt
        refine at_seq ?_
        refine at_region ?_
        refine at_do (does_lss rfl rfl) rfl rfl ?_
        refine at_nil ?_
        refine at_then ?_
        refine at_seq ?_
        refine at_cond_t rfl (decide_eq_true (by (first | omega | exact ⟨Int.natCast_nonneg _, by omega⟩))) ?_
        refine at_skip ?_
        refine at_then ?_
        refine at_seq ?_
        refine at_block ?_
        refine at_seq ?_
        refine at_region ?_
        refine at_do (does_move rfl) rfl rfl ?_
        refine at_do (does_assign rfl) rfl rfl ?_
        refine at_nil ?_
        refine at_then ?_
        refine at_region ?_
        refine at_do (does_move rfl) rfl rfl ?_
        refine at_do (does_move rfl) rfl rfl ?_
        refine at_do (does_nilCheck rfl) rfl rfl ?_
        refine at_do (does_fieldAddr (o := 4) (by kernel_rfl) rfl) rfl rfl ?_
        refine at_do (does_load (i := 0) (by kernel_rfl) rfl rfl rfl) rfl rfl ?_
        refine at_do (does_move rfl) rfl rfl ?_
        refine at_do (does_indexAddr1 (by kernel_rfl) rfl rfl (by (first | omega | exact ⟨Int.natCast_nonneg _, by omega⟩))) rfl rfl ?_
        refine at_do (does_segload (i := 1) (j := i) (by kernel_rfl) rfl rfl (byV_get (by omega))) rfl rfl ?_
        refine at_do (does_convw (k := .u64) (by kernel_rfl) (by kernel_rfl) rfl) rfl rfl ?_
        refine at_do (does_move rfl) rfl rfl ?_
        refine at_do (does_muli rfl rfl (by (first | omega | exact ⟨Int.natCast_nonneg _, by omega⟩))) rfl rfl ?_
        refine at_do (does_shl rfl rfl (by (first | omega | exact ⟨Int.natCast_nonneg _, by omega⟩))) rfl rfl ?_
        refine at_do (does_bits (by simp) rfl rfl) rfl rfl ?_
        refine at_do (does_assign rfl) rfl rfl ?_
        refine at_nil ?_
        refine at_inb ?_
        refine at_then ?_
        refine at_region ?_
        refine at_do (does_addi rfl rfl (by (first | omega | exact ⟨Int.natCast_nonneg _, by omega⟩))) rfl rfl ?_
        refine at_do (does_move rfl) rfl rfl ?_
        refine at_nil ?_
        refine at_then ?_
        rotate_left
        refine at_again0 (i + 1) (by omega) (by omega) ⟨rfl, ?_, rfl, trivial⟩
        rw [← or_byte' k i hi8 (by omega)]
        rfl
      · obtain rfl : i = 8 := by omega
        refine at_seq ?_
        refine at_region ?_
        refine at_do (does_lss rfl rfl) rfl rfl ?_
        refine at_nil ?_
        refine at_then ?_
        refine at_seq ?_
        refine at_cond_f rfl (decide_eq_false (by omega)) ?_
        refine at_exit ?_
        refine at_then_exit ?_
        refine at_then_exit ?_
        refine at_inb_here ?_
        refine at_then ?_
        refine at_seq ?_
        refine at_region ?_
        refine at_do (does_move rfl) rfl rfl ?_
        refine at_do (does_move rfl) rfl rfl ?_
        refine at_do (does_nilCheck rfl) rfl rfl ?_
        refine at_do (does_fieldAddr (o := 0) (by kernel_rfl) rfl) rfl rfl ?_
        refine at_do (does_loadpart (i := 0) (vs := u.cells.toList) (by kernel_rfl) rfl rfl rfl) rfl rfl ?_
        refine at_do (does_move rfl) rfl rfl ?_
        refine at_callv (f := 22) (enters_fn (by kernel_rfl) rfl) (fun w ho => sip_word _ _ w hk2 (wsum_wd (k.take 8) (by simp; omega))) rfl rfl ?_
        refine at_do (does_nilCheck rfl) rfl rfl ?_
        refine at_do (does_fieldAddr (o := 0) (by kernel_rfl) rfl) rfl rfl ?_
        refine at_storepart (i := 0) (vs := (wordF u (wsum (k.take 8))).cells) (by kernel_rfl) rfl rfl rfl rfl rfl ?_
        refine at_nil ?_
        refine at_then ?_
        refine at_region ?_
        refine at_do (does_move rfl) rfl rfl ?_
        refine at_do (does_move rfl) rfl rfl ?_
        refine at_do (does_nilCheck rfl) rfl rfl ?_
        refine at_do (does_fieldAddr (o := 4) (by kernel_rfl) rfl) rfl rfl ?_
        refine at_do (does_load (i := 0) (by kernel_rfl) rfl rfl rfl) rfl rfl ?_
        refine at_segcut (i := 1) (q := 8) (by kernel_rfl) rfl rfl rfl (by omega) rfl (fun v2 hv2 => ?_)
        refine at_do (does_nilCheck rfl) rfl rfl ?_
        refine at_do (does_fieldAddr (o := 4) (by kernel_rfl) rfl) rfl rfl ?_
        refine at_store (i := 0) (by kernel_rfl) rfl rfl (by assumption) rfl rfl ?_
        refine at_nil ?_
        refine at_inb ?_
        refine at_then ?_
        rotate_left
        refine at_againw fun w ho => ⟨(wordF u (wsum (k.take 8)), v2, k.drop 8), ⟨?_, word_good hk2 (wsum_wd _ (by simp; omega)), by simp; omega⟩, by show (k.drop 8).length < k.length; simp; omega, ⟨rfl, trivial⟩, rfl, ?_⟩
        · rw [← hk1]; exact (chewA_step u k h8).symm
        · have e1 : (k.drop 8).length = k.length - 8 := by simp
          have e2 : byV (k.drop 8) = (byV k).drop 8 := by simp [byV, List.map_drop]
          show Own _ [.blk h 49 (hcells (wordF u (wsum (k.take 8))) v2 (cnt + ys.length)), .seg v2 5 (k.drop 8).length (byV (k.drop 8))] _
          rw [e1, e2]
          exact ho
    · rw [← hk1, chewA_end u k (by have := z0; simp only at this; omega)]
      exact ⟨rfl, rv, _, _, ho9⟩
end Go.Proofs.Ythclmpbgehkgeaa.K
