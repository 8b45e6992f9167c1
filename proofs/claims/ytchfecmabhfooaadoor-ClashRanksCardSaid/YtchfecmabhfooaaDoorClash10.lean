/-
  The list of wants that is looked at. No condition of its own.
-/
import Derived.Test.YtchfecmabhfooaaDoorClash9
set_option linter.unusedSimpArgs false
set_option linter.unusedVariables false
namespace Go.Proofs.YtchfecmabhfooaaDoor
open Go.RowKit

def cutW (x : Want2) : Want2 := (cutL x.1, cutL x.2)
/-- One of a want's lists, kept out of these blocks. -/
def Kept (w : World) (B : Nat → Prop) (v : Value) (L : List (List UInt8)) : Prop := v.oneCell' = true ∧ ValsAt w v (strs L) ∧ (0 < L.length → ∀ g ∈ v.ownBlock, ¬ B g)
def WantV (w : World) (B : Nat → Prop) (a b : Value) (x : Want2) : Prop := Kept w B a x.1 ∧ Kept w B b x.2
def WantB (w : World) (B : Nat → Prop) (cs : List Value) (j : Nat) (x : Want2) : Prop := ∃ a b, cs[j * 2]? = some a ∧ cs[j * 2 + 1]? = some b ∧ WantV w B a b x
theorem Kept.move {w w' : World} {B B' : Nat → Prop} {v : Value} {L : List (List UInt8)} (h : Kept w B v L) (hf : Frm w B w') (hB : ∀ k, k < w.heap.size → B' k → B k) : Kept w' B' v L := by
  refine ⟨h.1, ?_, fun hl g hg hb => ?_⟩
  · by_cases hl : 0 < L.length
    · obtain ⟨gb, o, c, rfl, hc, hlt, hce⟩ := h.2.1.form (by rw [strs_len]; exact hl)
      refine .inr ⟨⟨gb, o, none⟩, c, rfl, hc, fun j u hu => ?_⟩
      rw [add_none]
      exact (World.cell?_of_block (hf.old gb hlt (h.2.2 hl gb (by simp [Value.ownBlock])))).trans (hce j u hu)
    · obtain rfl : L = [] := List.eq_nil_of_length_eq_zero (by omega)
      rcases h.2.1 with ⟨rfl, _⟩ | ⟨A, c, rfl, hc, _⟩
      · exact .inl ⟨rfl, rfl⟩
      · exact .inr ⟨A, c, rfl, hc, fun j u hu => by simp [strs] at hu⟩
  · obtain ⟨gb, o, c, rfl, hc, hlt, hce⟩ := h.2.1.form (by rw [strs_len]; exact hl)
    have hg' : g = gb := by simpa [Value.ownBlock] using hg.symm
    subst hg'
    exact h.2.2 hl g hg (hB g hlt hb)
theorem WantV.move {w w' : World} {B B' : Nat → Prop} {a b : Value} {x : Want2} (h : WantV w B a b x) (hf : Frm w B w') (hB : ∀ k, k < w.heap.size → B' k → B k) : WantV w' B' a b x := ⟨h.1.move hf hB, h.2.move hf hB⟩
theorem two_one {a b : Value} (h1 : a.oneCell' = true) (h2 : b.oneCell' = true) : ∀ u ∈ [a, b], u.oneCell' = true := by
  intro u hu
  simp only [List.mem_cons, List.not_mem_nil, or_false] at hu
  rcases hu with rfl | rfl
  · exact h1
  · exact h2
theorem want_call {C : Ctx} {H : List Res} {w : World} {a b : Value} {x : Want2} (ho : Own C H w) (h1 : ValsAt w a (strs x.1)) (h2 : ValsAt w b (strs x.2)) (o1 : a.oneCell' = true) (o2 : b.oneCell' = true) :
    Calls Tryd.prog 13 #[.agg #[a, b]] w fun e w' => ∃ v, e = .returned v ∧ Below w.heap.size w w' ∧ ∃ u1 u2, v = .agg #[u1, u2] ∧ WantV w' (fun k => k ∈ bls H) u1 u2 (cutW x) :=
  (law_Wants a b x.1 x.2 w h1 h2 o1 o2).mono fun e w' ⟨v, q1, q2, u1, u2, q3, q4, q5, q6, q7, q8, q9⟩ => ⟨v, q1, q2, u1, u2, q3, ⟨q8, q4, fun _ g hg hb => by have := q6 g hg; have := ho.lt g hb; omega⟩, ⟨q9, q5, fun _ g hg hb => by have := q7 g hg; have := ho.lt g hb; omega⟩⟩
theorem wants_of_row {w : World} {B : Nat → Prop} {e n : Nat} {v : Value} {cs : List Value} {L : List Want2} (h : w.ownsRow 0 e 2 v n cs) (hl : L.length = n) (hk : ∀ j x, j < n → L[j]? = some x → WantB w B cs j x) : WantsAt w v L := by
  rcases h.2 with ⟨rfl, h0⟩ | ⟨g, cap, cur, rfl, h1, hg, h2, h3, h4, h5⟩
  · exact ⟨none, 0, by rw [hl, h0], by omega, fun hp => by omega⟩
  · refine ⟨some ⟨g, 0, none⟩, cap, by rw [hl], by omega, fun hp => ⟨g, 0, rfl, (Array.getElem?_eq_some_iff.1 hg).1, fun i hi => ?_⟩⟩
    obtain ⟨a, b, e1, e2, k1, k2⟩ := hk i L[i] (by omega) (List.getElem?_eq_getElem hi)
    have hcell : ∀ j u, cs[j]? = some u → w.cell? ⟨g, 0 + j, none⟩ = some u := fun j u hu => by
      rw [Nat.zero_add, cell_of_row w g j cur e (0, 0) hg]
      rw [← h5, List.getElem?_take] at hu
      split at hu
      · simpa using hu
      · cases hu
    exact ⟨a, b, hcell _ _ e1, by have := hcell _ _ e2; rwa [← Nat.add_assoc] at this, k1.2.1, k2.2.1, k1.1, k2.1⟩
attribute [local irreducible] cwp lwp Exit.then Exit.inBlock Exit.noGoto wpQuiet Calls fin At AtQ Again endQ RQ
set_option maxHeartbeats 4000000 in
theorem law_Few (arg : Value) (L0 : List Want2) (w : World) (hV : WantsAt w arg L0) (hn9 : L0.length ≤ 9223372036854775807) :
    Calls Tryd.prog 17 #[arg] w fun e w' => ∃ v, e = .returned v ∧ Below w.heap.size w w' ∧ WantsAt w' v ((L0.take 66).map cutW) := by
  obtain ⟨A0, c0, rfl, hc, hcell⟩ := hV
  by_cases hs : 66 < L0.length
  · refine calls_plain Tryd.func17 rfl Tryd.ntmps17 rfl ?_
    obtain ⟨gb0, o0, rfl, _, _⟩ := hcell (by omega)
    obtain ⟨n, hn⟩ : ∃ n, n = 66 := ⟨_, rfl⟩
    have hnl : n ≤ L0.length := by omega
    refine at_seq ?_
    refine at_region ?_
    refine at_do (does_assign rfl) rfl rfl ?_
    refine at_nil ?_
    refine at_then ?_
    refine at_seq ?_
    refine at_seq ?_
    refine at_region ?_
    refine at_do (does_move rfl) rfl rfl ?_
    refine at_do (does_len (by kernel_rfl) rfl) rfl rfl ?_
    refine at_do (does_gtr rfl rfl) rfl rfl ?_
    refine at_nil ?_
    refine at_then ?_
    refine at_cond_t rfl (decide_eq_true (by omega)) ?_
    refine at_region ?_
    refine at_do (does_move rfl) rfl rfl ?_
    refine at_do (does_slice_hi (sz := 2) (by kernel_rfl) rfl rfl (by omega)) rfl rfl ?_
    refine at_do (does_assign rfl) rfl rfl ?_
    refine at_nil ?_
    refine at_then ?_
    refine at_seq ?_
    refine at_region ?_
    refine at_do (does_assign rfl) rfl rfl ?_
    refine at_nil ?_
    refine at_then ?_
    refine at_seq ?_
    refine at_seq ?_
    refine at_region ?_
    refine at_do (does_assign rfl) rfl rfl ?_
    refine at_nil ?_
    refine at_then ?_
    refine at_block ?_
    rotate_left
    refine at_weak (E' := [(0, .slice (some ⟨gb0, o0, none⟩) n c0), (3, .slice none 0 0), (4, .int .i64 0)]) ⟨by rw [hn]; rfl, rfl, rfl, trivial⟩ ?_
    refine at_loop (σ := World × Value × List Value × Nat) (fun s => s.2.2.2 ≤ n ∧ s.2.2.1.length = s.2.2.2 * 2 ∧ ∀ j x, j < s.2.2.2 → L0[j]? = some x → WantB s.1 (fun k => k ∈ bls [Res.row s.2.1 24 2 s.2.2.2 s.2.2.1]) s.2.2.1 j (cutW x)) (fun s => [(0, .slice (some ⟨gb0, o0, none⟩) n c0), (3, s.2.1), (4, .int .i64 s.2.2.2)])
      (fun s => ⟨w, fun _ => False, fun _ => False, s.1, fun k => k ∈ bls [Res.row s.2.1 24 2 s.2.2.2 s.2.2.1], []⟩) (fun s => [.row s.2.1 24 2 s.2.2.2 s.2.2.1]) (fun s => n - s.2.2.2)
      (fun w1 ho => ⟨(w1, .slice none 0 0, [], 0), ⟨Nat.zero_le _, rfl, fun j x hj => absurd hj (by simp)⟩, ⟨rfl, rfl, rfl, trivial⟩, rfl, (ho.nilrow 24 2).re⟩) ?_
    rintro ⟨W1, v3, cs, i⟩ ⟨hi, hcl, hI⟩
    simp only at hi hcl hI
    by_cases hil : i < n
    · obtain ⟨gb, o, hA, hlt, hce⟩ := hcell (by omega)
      obtain ⟨a, b, p1, p2, p3, p4, p5, p6⟩ := hce i (by omega)
      have hgen : cutW L0[i] = (cutL L0[i].1, cutL L0[i].2) := rfl
      refine at_seq ?_
      refine at_seq ?_
      refine at_region ?_
      refine at_do (does_move rfl) rfl rfl ?_
      refine at_do (does_move rfl) rfl rfl ?_
      refine at_do (does_len (by kernel_rfl) rfl) rfl rfl ?_
      refine at_do (does_lss rfl rfl) rfl rfl ?_
      refine at_nil ?_
      refine at_then ?_
      refine at_cond_t rfl (decide_eq_true (by (simp only; omega))) ?_
      refine at_skip ?_
      refine at_then ?_
      refine at_seq ?_
      refine at_block ?_
      refine at_region ?_
      refine at_do (does_move rfl) rfl rfl ?_
      refine at_do (does_move rfl) rfl rfl ?_
      refine at_do (does_move rfl) rfl rfl ?_
      refine at_do (does_indexAddrk (k := 2) (j := i) (h := gb) (o := o) (q := n) (c := c0) (by kernel_rfl) (by rw [hA]; rfl) rfl (by omega)) rfl rfl ?_
      refine at_do (does_loadagg_mem (vs := [a, b]) (by kernel_rfl) rfl (fun w' ho => two_cells (Below.cellOld ho.plain p1) (Below.cellOld ho.plain p2))) rfl rfl ?_
      refine at_callk (f := 13) (Φ := fun v w' => ∃ u1 u2, v = .agg #[u1, u2] ∧ WantV w' (fun k => k ∈ bls [Res.row v3 24 2 i cs]) u1 u2 (cutW L0[i])) (enters_fn (by kernel_rfl) rfl) (fun w ho => want_call ho (ho.oldVals p3) (ho.oldVals p4) p5 p6) rfl rfl (fun v w1 hw1 hv => ?_)
      rotate_left
      obtain ⟨u1, u2, rfl, hu⟩ := hv
      have q1 := hu.1.1
      have q2 := hu.2.1
      refine at_buildSlice (e := 24) (sz := 2) (vs := [.agg #[u1, u2]]) (cs := [u1, u2]) (by kernel_rfl) rfl rfl rfl rfl rfl rfl (fun g => ?_)
      refine at_append (i := 1) (sz := 2) (by' := 48) (k := 1) (A := ⟨g, 0, none⟩) (news := [u1, u2]) (by kernel_rfl) rfl rfl rfl rfl (fun w ho => lit_cells ho (i := 0) rfl) (two_one q1 q2) (by simp only [maxLen]; omega) rfl (fun v4 hv4 => ?_)
      refine at_do (does_assign rfl) rfl rfl ?_
      refine at_nil ?_
      refine at_inb ?_
      refine at_then ?_
      refine at_region ?_
      refine at_do (does_move rfl) rfl rfl ?_
      refine at_do (does_addi rfl rfl (by (first | omega | (simp only; omega)))) rfl rfl ?_
      refine at_do (does_assign rfl) rfl rfl ?_
      refine at_nil ?_
      refine at_then ?_
      rotate_left
      refine at_againw fun w' ho => ⟨(w', v4, cs ++ [u1, u2], i + 1), ⟨by show i + 1 ≤ n; omega, by show (cs ++ [u1, u2]).length = (i + 1) * 2; simp; omega, ?_⟩, by show n - (i + 1) < n - i; omega, ⟨rfl, rfl, rfl, trivial⟩, rfl, ?_⟩
      · have hfrm : Frm W1 (fun k => k ∈ bls [Res.row v3 24 2 i cs]) w' := hw1.base.trans ho.base (fun k _ h => h)
        have hsz : W1.heap.size ≤ w1.heap.size := hw1.base.size
        have hsub : ∀ k, k < w1.heap.size → k ∈ bls [Res.row v4 24 2 (i + 1) (cs ++ [u1, u2])] → k ∈ bls [Res.row v3 24 2 i cs] := fun k hk hm => by
          have h9 := (ho.sublist (List.sublist_cons_self ..)).mine k hm
          exact h9.2.resolve_left (fun h8 => by have h8 : w1.heap.size ≤ k := h8; omega)
        intro j x hj hx
        have hj : j < i + 1 := hj
        by_cases hji : j < i
        · obtain ⟨a', b', e1, e2, hv⟩ := hI j x hji hx
          exact ⟨a', b', by rw [List.getElem?_append_left (by omega)]; exact e1, by rw [List.getElem?_append_left (by omega)]; exact e2, hv.move hfrm (fun k hk => hsub k (by omega))⟩
        · have hje : j = i := by omega
          have hxe : x = L0[i]'(by omega) := by
            rw [hje, List.getElem?_eq_getElem (by omega)] at hx
            exact (Option.some.inj hx).symm
          rw [hje, hxe]
          exact ⟨u1, u2, by rw [List.getElem?_append_right (by omega), show i * 2 - cs.length = 0 by omega]; rfl, by rw [List.getElem?_append_right (by omega), show i * 2 + 1 - cs.length = 1 by omega]; rfl, hu.move ho.base hsub⟩
      · exact (ho.sublist (List.sublist_cons_self ..)).re
    · obtain rfl : i = n := by omega
      refine at_seq ?_
      refine at_seq ?_
      refine at_region ?_
      refine at_do (does_move rfl) rfl rfl ?_
      refine at_do (does_move rfl) rfl rfl ?_
      refine at_do (does_len (by kernel_rfl) rfl) rfl rfl ?_
      refine at_do (does_lss rfl rfl) rfl rfl ?_
      refine at_nil ?_
      refine at_then ?_
      refine at_cond_f rfl (decide_eq_false (by (simp only; omega))) ?_
      refine at_exit ?_
      refine at_then_exit ?_
      refine at_then_exit ?_
      refine at_inb_here ?_
      refine at_then ?_
      refine at_seq ?_
      refine at_region ?_
      refine at_do (does_move rfl) rfl rfl ?_
      refine at_do (does_assign rfl) rfl rfl ?_
      refine at_nil ?_
      refine at_then ?_
      refine at_ret ?_
      refine at_ret1 rfl rfl rfl (fun w9 ho9 => ?_)
      rotate_left
      refine ⟨v3, rfl, ho9.plain, wants_of_row (ho9.rowAt (i := 0) rfl) (B := fun k => k ∈ bls [Res.row v3 24 2 i cs]) (by simp; omega) (fun j x hj hx => ?_)⟩
      simp only [List.getElem?_map, Option.map_eq_some_iff] at hx
      obtain ⟨y, hy, rfl⟩ := hx
      rw [List.getElem?_take] at hy
      split at hy
      · obtain ⟨a', b', e1, e2, hv⟩ := hI j y hj hy
        exact ⟨a', b', e1, e2, hv.move ho9.base (fun k _ h => h)⟩
      · cases hy
  · refine calls_plain Tryd.func17 rfl Tryd.ntmps17 rfl ?_
    obtain ⟨n, hn⟩ : ∃ n, n = L0.length := ⟨_, rfl⟩
    have hnl : n ≤ L0.length := by omega
    rw [← hn]
    refine at_seq ?_
    refine at_region ?_
    refine at_do (does_assign rfl) rfl rfl ?_
    refine at_nil ?_
    refine at_then ?_
    refine at_seq ?_
    refine at_seq ?_
    refine at_region ?_
    refine at_do (does_move rfl) rfl rfl ?_
    refine at_do (does_len (by kernel_rfl) rfl) rfl rfl ?_
    refine at_do (does_gtr rfl rfl) rfl rfl ?_
    refine at_nil ?_
    refine at_then ?_
    refine at_cond_f rfl (decide_eq_false (by omega)) ?_
    refine at_skip ?_
    refine at_then ?_
    refine at_seq ?_
    refine at_region ?_
    refine at_do (does_assign rfl) rfl rfl ?_
    refine at_nil ?_
    refine at_then ?_
    refine at_seq ?_
    refine at_seq ?_
    refine at_region ?_
    refine at_do (does_assign rfl) rfl rfl ?_
    refine at_nil ?_
    refine at_then ?_
    refine at_block ?_
    rotate_left
    refine at_loop (σ := World × Value × List Value × Nat) (fun s => s.2.2.2 ≤ n ∧ s.2.2.1.length = s.2.2.2 * 2 ∧ ∀ j x, j < s.2.2.2 → L0[j]? = some x → WantB s.1 (fun k => k ∈ bls [Res.row s.2.1 24 2 s.2.2.2 s.2.2.1]) s.2.2.1 j (cutW x)) (fun s => [(0, .slice A0 n c0), (3, s.2.1), (4, .int .i64 s.2.2.2)])
      (fun s => ⟨w, fun _ => False, fun _ => False, s.1, fun k => k ∈ bls [Res.row s.2.1 24 2 s.2.2.2 s.2.2.1], []⟩) (fun s => [.row s.2.1 24 2 s.2.2.2 s.2.2.1]) (fun s => n - s.2.2.2)
      (fun w1 ho => ⟨(w1, .slice none 0 0, [], 0), ⟨Nat.zero_le _, rfl, fun j x hj => absurd hj (by simp)⟩, ⟨rfl, rfl, rfl, trivial⟩, rfl, (ho.nilrow 24 2).re⟩) ?_
    rintro ⟨W1, v3, cs, i⟩ ⟨hi, hcl, hI⟩
    simp only at hi hcl hI
    by_cases hil : i < n
    · obtain ⟨gb, o, hA, hlt, hce⟩ := hcell (by omega)
      obtain ⟨a, b, p1, p2, p3, p4, p5, p6⟩ := hce i (by omega)
      have hgen : cutW L0[i] = (cutL L0[i].1, cutL L0[i].2) := rfl
      refine at_seq ?_
      refine at_seq ?_
      refine at_region ?_
      refine at_do (does_move rfl) rfl rfl ?_
      refine at_do (does_move rfl) rfl rfl ?_
      refine at_do (does_len (by kernel_rfl) rfl) rfl rfl ?_
      refine at_do (does_lss rfl rfl) rfl rfl ?_
      refine at_nil ?_
      refine at_then ?_
      refine at_cond_t rfl (decide_eq_true (by (simp only; omega))) ?_
      refine at_skip ?_
      refine at_then ?_
      refine at_seq ?_
      refine at_block ?_
      refine at_region ?_
      refine at_do (does_move rfl) rfl rfl ?_
      refine at_do (does_move rfl) rfl rfl ?_
      refine at_do (does_move rfl) rfl rfl ?_
      refine at_do (does_indexAddrk (k := 2) (j := i) (h := gb) (o := o) (q := n) (c := c0) (by kernel_rfl) (by rw [hA]; rfl) rfl (by omega)) rfl rfl ?_
      refine at_do (does_loadagg_mem (vs := [a, b]) (by kernel_rfl) rfl (fun w' ho => two_cells (Below.cellOld ho.plain p1) (Below.cellOld ho.plain p2))) rfl rfl ?_
      refine at_callk (f := 13) (Φ := fun v w' => ∃ u1 u2, v = .agg #[u1, u2] ∧ WantV w' (fun k => k ∈ bls [Res.row v3 24 2 i cs]) u1 u2 (cutW L0[i])) (enters_fn (by kernel_rfl) rfl) (fun w ho => want_call ho (ho.oldVals p3) (ho.oldVals p4) p5 p6) rfl rfl (fun v w1 hw1 hv => ?_)
      rotate_left
      obtain ⟨u1, u2, rfl, hu⟩ := hv
      have q1 := hu.1.1
      have q2 := hu.2.1
      refine at_buildSlice (e := 24) (sz := 2) (vs := [.agg #[u1, u2]]) (cs := [u1, u2]) (by kernel_rfl) rfl rfl rfl rfl rfl rfl (fun g => ?_)
      refine at_append (i := 1) (sz := 2) (by' := 48) (k := 1) (A := ⟨g, 0, none⟩) (news := [u1, u2]) (by kernel_rfl) rfl rfl rfl rfl (fun w ho => lit_cells ho (i := 0) rfl) (two_one q1 q2) (by simp only [maxLen]; omega) rfl (fun v4 hv4 => ?_)
      refine at_do (does_assign rfl) rfl rfl ?_
      refine at_nil ?_
      refine at_inb ?_
      refine at_then ?_
      refine at_region ?_
      refine at_do (does_move rfl) rfl rfl ?_
      refine at_do (does_addi rfl rfl (by (first | omega | (simp only; omega)))) rfl rfl ?_
      refine at_do (does_assign rfl) rfl rfl ?_
      refine at_nil ?_
      refine at_then ?_
      rotate_left
      refine at_againw fun w' ho => ⟨(w', v4, cs ++ [u1, u2], i + 1), ⟨by show i + 1 ≤ n; omega, by show (cs ++ [u1, u2]).length = (i + 1) * 2; simp; omega, ?_⟩, by show n - (i + 1) < n - i; omega, ⟨rfl, rfl, rfl, trivial⟩, rfl, ?_⟩
      · have hfrm : Frm W1 (fun k => k ∈ bls [Res.row v3 24 2 i cs]) w' := hw1.base.trans ho.base (fun k _ h => h)
        have hsz : W1.heap.size ≤ w1.heap.size := hw1.base.size
        have hsub : ∀ k, k < w1.heap.size → k ∈ bls [Res.row v4 24 2 (i + 1) (cs ++ [u1, u2])] → k ∈ bls [Res.row v3 24 2 i cs] := fun k hk hm => by
          have h9 := (ho.sublist (List.sublist_cons_self ..)).mine k hm
          exact h9.2.resolve_left (fun h8 => by have h8 : w1.heap.size ≤ k := h8; omega)
        intro j x hj hx
        have hj : j < i + 1 := hj
        by_cases hji : j < i
        · obtain ⟨a', b', e1, e2, hv⟩ := hI j x hji hx
          exact ⟨a', b', by rw [List.getElem?_append_left (by omega)]; exact e1, by rw [List.getElem?_append_left (by omega)]; exact e2, hv.move hfrm (fun k hk => hsub k (by omega))⟩
        · have hje : j = i := by omega
          have hxe : x = L0[i]'(by omega) := by
            rw [hje, List.getElem?_eq_getElem (by omega)] at hx
            exact (Option.some.inj hx).symm
          rw [hje, hxe]
          exact ⟨u1, u2, by rw [List.getElem?_append_right (by omega), show i * 2 - cs.length = 0 by omega]; rfl, by rw [List.getElem?_append_right (by omega), show i * 2 + 1 - cs.length = 1 by omega]; rfl, hu.move ho.base hsub⟩
      · exact (ho.sublist (List.sublist_cons_self ..)).re
    · obtain rfl : i = n := by omega
      refine at_seq ?_
      refine at_seq ?_
      refine at_region ?_
      refine at_do (does_move rfl) rfl rfl ?_
      refine at_do (does_move rfl) rfl rfl ?_
      refine at_do (does_len (by kernel_rfl) rfl) rfl rfl ?_
      refine at_do (does_lss rfl rfl) rfl rfl ?_
      refine at_nil ?_
      refine at_then ?_
      refine at_cond_f rfl (decide_eq_false (by (simp only; omega))) ?_
      refine at_exit ?_
      refine at_then_exit ?_
      refine at_then_exit ?_
      refine at_inb_here ?_
      refine at_then ?_
      refine at_seq ?_
      refine at_region ?_
      refine at_do (does_move rfl) rfl rfl ?_
      refine at_do (does_assign rfl) rfl rfl ?_
      refine at_nil ?_
      refine at_then ?_
      refine at_ret ?_
      refine at_ret1 rfl rfl rfl (fun w9 ho9 => ?_)
      rotate_left
      refine ⟨v3, rfl, ho9.plain, wants_of_row (ho9.rowAt (i := 0) rfl) (B := fun k => k ∈ bls [Res.row v3 24 2 i cs]) (by simp; omega) (fun j x hj hx => ?_)⟩
      simp only [List.getElem?_map, Option.map_eq_some_iff] at hx
      obtain ⟨y, hy, rfl⟩ := hx
      rw [List.getElem?_take] at hy
      split at hy
      · obtain ⟨a', b', e1, e2, hv⟩ := hI j y hj hy
        exact ⟨a', b', e1, e2, hv.move ho9.base (fun k _ h => h)⟩
      · cases hy
end Go.Proofs.YtchfecmabhfooaaDoor
