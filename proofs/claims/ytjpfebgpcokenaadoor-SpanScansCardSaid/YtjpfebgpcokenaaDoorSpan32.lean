/-
  Items laid in a trunk, one behind the other. No condition of its own.
-/
import Derived.Test.YtjpfebgpcokenaaDoorGF
import Derived.Test.YtjpfebgpcokenaaDoorNames3
set_option linter.unusedSimpArgs false
set_option linter.unusedVariables false
namespace Go.Proofs.YtjpfebgpcokenaaDoor
open Go.RowKit
attribute [local irreducible] cwp lwp Exit.then Exit.inBlock Exit.noGoto wpQuiet Calls fin At AtQ Again endQ RQ
def bk (x : Itm) : Nat := (byt x.key 0 % 16).toNat
def stepF (fs : List (List Itm)) (x : Itm) : List (List Itm) := fs.set (bk x) (withI (fs.getD (bk x) []) x)
def stepV (vs : List Int) (x : Itm) : List Int := vs.set (bk x) x.ver
def smallB (fs : List (List Itm)) : Bool := fs.all fun f => decide (f.length ≤ 66) && f.all fun x => decide (x.key.length ≤ 60)
def okI (fs : List (List Itm)) (vs : List Int) (x : Itm) : Bool := smallB fs && decide (0 < x.key.length) && decide (byt x.key 0 % 16 = ((bk x : Nat) : Int)) && decide (bk x < 16) && decide (vs.getD (bk x) 0 ≤ x.ver) && decide ((fs.getD (bk x) []).length < 64) && decide (x.key.length ≤ 60)
def okL : List (List Itm) → List Int → List Itm → Bool
  | _, _, [] => true
  | fs, vs, x :: xs => okI fs vs x && okL (stepF fs x) (stepV vs x) xs
theorem small_of {fs : List (List Itm)} (h : smallB fs = true) : SmallT fs := fun b => by
  simp only [smallB, List.all_eq_true, Bool.and_eq_true, decide_eq_true_eq] at h
  by_cases hb : b < fs.length
  · have e : fs.getD b [] = fs[b] := by rw [List.getD_eq_getElem?_getD, List.getElem?_eq_getElem hb]; rfl
    rw [e]
    exact h fs[b] (List.getElem_mem hb)
  · rw [List.getD_eq_getElem?_getD, List.getElem?_eq_none (by omega)]
    exact ⟨Nat.zero_le _, fun x hx => absurd hx (by simp)⟩
theorem okI_of {fs : List (List Itm)} {vs : List Int} {x : Itm} (h : okI fs vs x = true) : SmallT fs ∧ 0 < x.key.length ∧ byt x.key 0 % 16 = ((bk x : Nat) : Int) ∧ bk x < 16 ∧ vs.getD (bk x) 0 ≤ x.ver ∧ (fs.getD (bk x) []).length < 64 ∧ x.key.length ≤ 60 := by
  simp only [okI, Bool.and_eq_true, decide_eq_true_eq] at h
  obtain ⟨⟨⟨⟨⟨⟨h1, h2⟩, h3⟩, h4⟩, h5⟩, h6⟩, h7⟩ := h
  exact ⟨small_of h1, h2, h3, h4, h5, h6, h7⟩
def nilLs : List Value := List.replicate 16 (Value.slice none 0 0)
def nilFs : List (List Itm) := List.replicate 16 []
def nilVs : List Int := List.replicate 16 0
theorem zeroT_eq : zeroT = trunkC nilLs nilVs := by simp [zeroT, trunkC, nilLs, nilVs, versV]
theorem trunk_nil (w : World) (B : Nat → Prop) : TrunkV w B nilLs nilFs := ⟨by simp [nilLs], by simp [nilFs], fun i hi => ⟨.slice none 0 0, by rw [nilLs, List.getElem?_replicate, if_pos hi], by
  have e : nilFs.getD i [] = [] := by rw [nilFs, List.getD_eq_getElem?_getD, List.getElem?_replicate, if_pos hi]; rfl
  rw [e]
  exact ⟨.inl ⟨rfl, rfl⟩, fun h => absurd h (by simp)⟩⟩⟩
section
variable {P : Program} {n : Nat} {E : List (Nat × Value)} {C : Ctx} {H : List Res}
theorem step1_dep {X : World → Prop} {o : Oper} {s : Spec} (h : ∀ w, Own C H w → X w → ∃ u, Does P n E C H o u ∧ s.ok u w) : Step1 P n E C H X o s := step1_run fun a w hf ho hx => by
  obtain ⟨u, hd, hs⟩ := h w ho hx
  exact ⟨u, w, hd a w hf ho, Below.refl _ _, hs⟩
theorem at_adopt2 {K : Act → World → Prop} {w3 : World} {h e : Nat} {cs : Array Value} (hw : Own C H w3) (hy : ∀ k ∈ bls H, k < C.w.heap.size) (hW : C.W.heap.size ≤ C.w.heap.size) (hh : C.w.heap.size ≤ h) (hc : w3.heap[h]? = some (.cells cs e)) (k : At n E (C.re w3 (.blk h e cs :: H)) (.blk h e cs :: H) K) : At n E (C.re w3 H) H K :=
  at_own (C' := C.re w3 (.blk h e cs :: H)) (H' := .blk h e cs :: H) rfl (fun w ho => by
    have hn : h ∉ bls H := fun hm => by have := hy h hm; omega
    refine ⟨ho.orig, ho.base.mono fun k _ hk => ?_, fun q hq => ?_, ?_, fun k hk => ?_, ho.sub, ho.mark⟩
    · simp only [Ctx.re, bls, List.flatMap_cons, Res.blocks, List.cons_append, List.nil_append, List.mem_cons]
      exact .inr hk
    · rcases List.mem_cons.1 hq with rfl | hq
      · exact (ho.base.old h (Array.getElem?_eq_some_iff.1 hc).1 hn).trans hc
      · exact ho.ok q hq
    · simp only [bls, List.flatMap_cons, Res.blocks, List.cons_append, List.nil_append, List.nodup_cons]
      exact ⟨hn, ho.nodup⟩
    · refine ⟨?_, .inr hk⟩
      simp only [bls, List.flatMap_cons, Res.blocks, List.cons_append, List.nil_append, List.mem_cons] at hk
      rcases hk with rfl | hk
      · exact .inl (by simp only [Ctx.re]; omega)
      · exact (ho.mine k hk).1) k
end
/-- A trunk that was put together behind a world. -/
def PutV (B : Nat → Prop) (vs : List Int) (fs : List (List Itm)) (v : Value) (w : World) : Prop := ∃ ls, v = trunkA ls vs ∧ TrunkV w B ls fs
def PutP (B : Nat → Prop) (vs : List Int) (fs : List (List Itm)) (v : Value) (w : World) : Prop := ∃ u, v = .tuple #[u, .int .i64 0] ∧ PutV B vs fs u w
theorem putV_stab (B : Nat → Prop) (vs : List Int) (fs : List (List Itm)) : (Spec.rel (PutV B vs fs)).stab := fun v w w' ⟨ls, h1, h2⟩ hb => ⟨ls, h1, h2.keep hb⟩
theorem putP_stab (B : Nat → Prop) (vs : List Int) (fs : List (List Itm)) : (Spec.rel (PutP B vs fs)).stab := fun v w w' ⟨u, h1, h2⟩ hb => ⟨u, h1, putV_stab B vs fs u w w' h2 hb⟩
def zeroL : List Value := List.replicate 16 (Value.slice none 0 0) ++ List.replicate 16 (Value.int .i64 0)
theorem shapeTrunk : shapeOf Tryd.prog 26 = some (zeroL, [(0, 16), (16, 16)]) := by kernel_rfl
theorem zeroT_all : (zeroL.toArray.toList.all (·.oneCell')) = true := by decide
abbrev TT : Nat := 26
theorem zeroT_noStr {j : Nat} {b : ByteArray} : zeroT[j]? ≠ some (.string b) := fun h => by
  have hm : Value.string b ∈ zeroT := Array.mem_of_getElem? h
  have : (zeroT.toList.all fun u => match u with
    | .string _ => false
    | _ => true) = true := by decide
  have := List.all_eq_true.1 this (.string b) (by simpa using hm)
  cases this
theorem TrunkV.apart {w : World} {B : Nat → Prop} {ls : List Value} {fs : List (List Itm)} {h e : Nat} (hT : TrunkV w B ls fs) (hc : w.heap[h]? = some (.cells zeroT e)) : TrunkV w (fun k => B k ∨ k = h) ls fs :=
  ⟨hT.l1, hT.l2, fun i hi => by
    obtain ⟨v, h1, h2⟩ := hT.at' i hi
    refine ⟨v, h1, h2.1, fun hl g hg hb => ?_⟩
    rcases hb with hb | rfl
    · exact h2.2 hl g hg hb
    · obtain ⟨gb, o, c, rfl, _, _, hce⟩ := h2.1.form hl
      have hgb : g = gb := by simpa [Value.ownBlock] using hg.symm
      subst hgb
      have hk := (hce 0 hl).key
      rw [cell_of_row w g _ zeroT e (0, 0) hc] at hk
      exact zeroT_noStr hk⟩
set_option maxHeartbeats 8000000 in
theorem law_laid (v : Value) (xs : List Itm) (w : World) (hV : ItemsAt w v xs) (hlen : xs.length ≤ 1000) (hok : okL nilFs nilVs xs = true) (B0 : Nat → Prop) (hB0 : ∀ k, B0 k → k < w.heap.size) :
    Calls Tryd.prog 33 #[v] w fun e w' => ∃ ls, e = .returned (trunkA ls (xs.foldl stepV nilVs)) ∧ Below w.heap.size w w' ∧ TrunkV w' B0 ls (xs.foldl stepF nilFs) := by
  obtain ⟨A, c0, hv0⟩ := hV.len
  refine calls_plain Tryd.func33 rfl Tryd.ntmps33 rfl ?_
  refine at_seq ?_
  refine at_region ?_
  refine at_allocagg Tryd.zeroValue26 rfl fun gz0 => ?_
  refine at_nil ?_
  refine at_then ?_
  refine at_seq ?_
  refine at_region ?_
  refine at_do (does_build (ps := []) (vs := []) (cs := zeroL) shapeTrunk rfl rfl) rfl rfl ?_
  refine at_allocagg Tryd.zeroValue26 rfl fun gz1 => ?_
  refine at_storeagg (i := 0) (by kernel_rfl) rfl rfl rfl rfl rfl ?_
  refine at_nil ?_
  refine at_then ?_
  refine at_seq ?_
  refine at_seq ?_
  refine at_region ?_
  refine at_do (does_assign rfl) rfl rfl ?_
  refine at_nil ?_
  refine at_then ?_
  refine at_block ?_
  rotate_left
  refine at_loop (σ := World × List Value × List Int × List (List Itm) × Nat) (fun s => s.2.2.2.2 ≤ xs.length ∧ okL s.2.2.2.1 s.2.2.1 (xs.drop s.2.2.2.2) = true ∧ s.2.2.1.length = 16 ∧ (xs.drop s.2.2.2.2).foldl stepV s.2.2.1 = xs.foldl stepV nilVs ∧ (xs.drop s.2.2.2.2).foldl stepF s.2.2.2.1 = xs.foldl stepF nilFs ∧ TrunkV s.1 (fun k => B0 k ∨ k = gz1 ∨ k = gz0) s.2.1 s.2.2.2.1 ∧ w.heap.size ≤ s.1.heap.size ∧ gz1 < s.1.heap.size ∧ gz0 < s.1.heap.size)
    (fun s => [(0, v), (2, .pointer (some ⟨gz0, 0, none⟩)), (3, .pointer (some ⟨gz1, 0, none⟩)), (4, .int .i64 s.2.2.2.2)])
    (fun s => ⟨w, fun _ => False, fun _ => False, s.1, fun k => k ∈ bls [Res.blk gz1 TT (trunkC s.2.1 s.2.2.1), Res.blk gz0 TT zeroT], []⟩) (fun s => [.blk gz1 TT (trunkC s.2.1 s.2.2.1), .blk gz0 TT zeroT]) (fun s => xs.length - s.2.2.2.2)
    (fun w1 ho => ⟨(w1, nilLs, nilVs, nilFs, 0), ⟨Nat.zero_le _, hok, rfl, rfl, rfl, trunk_nil _ _, ho.orig.size, ho.lt gz1 (by simp [bls, Res.blocks]), ho.lt gz0 (by simp [bls, Res.blocks])⟩, ⟨rfl, rfl, rfl, rfl, trivial⟩, rfl, by
      show Own _ [.blk gz1 TT (trunkC nilLs nilVs), .blk gz0 TT zeroT] w1
      rw [← zeroT_eq]
      exact ho.re⟩) ?_
  rintro ⟨W1, ls, vs, fs, i⟩ ⟨hi, hokI, hvs, hfV, hfF, hT, hW1, hg1, hg0⟩
  simp only at hi hokI hvs hfV hfF hT hW1 hg1 hg0
  by_cases hil : i < xs.length
  · obtain ⟨gb, o, c, rfl, hc, hlt, hce⟩ := hV.form (by omega)
    have hx := hce i hil
    rw [List.drop_eq_getElem_cons hil] at hokI hfV hfF
    simp only [List.foldl_cons] at hfV hfF
    rw [okL, Bool.and_eq_true] at hokI
    obtain ⟨hok1, hok2⟩ := hokI
    generalize xs[i] = x at hx hok1 hok2 hfV hfF
    obtain ⟨k1, k2, k3, k4, k5, k6, k7⟩ := okI_of hok1
    have h32 := trunk_size hT.l1 hvs
    have hTN : TrunkV W1 Nof ls fs := hT.move (Frm.refl _ _) (fun _ _ h => h.elim)
    have cP : ∀ {w'}, Frm W1 (fun k => B0 k ∨ k = gz1 ∨ k = gz0) w' → Calls Tryd.prog 53 #[trunkA ls vs, itmA x] w' fun e w3 => ∃ u, e = .returned u ∧ Below w'.heap.size w' w3 ∧ PutP (fun k => B0 k ∨ k = gz1 ∨ k = gz0) (stepV vs x) (stepF fs x) u w3 := fun {w'} hf => by
      have hT' : TrunkV w' (fun k => B0 k ∨ k = gz1 ∨ k = gz0) ls fs := hT.move hf (fun _ _ h => h)
      have hsz := hf.size
      exact (ref_Put ls vs fs x (bk x) w' (hT'.move (Frm.refl _ _) (fun _ _ h => h.elim)) hvs k1 k2 k3 k4 k5 k6 k7).mono fun e w3 ⟨ls', q1, q2, q3⟩ => ⟨_, q1, q2, _, rfl, ls', rfl, q3 _ (fun k hk => by
        rcases hk with hk | rfl | rfl
        · have := hB0 k hk; omega
        · omega
        · omega) hT'⟩
    refine at_seq ?_
    refine at_seq ?_
    refine at_region ?_
    refine at_do (does_move rfl) rfl rfl ?_
    refine at_do (does_move rfl) rfl rfl ?_
    refine at_do (does_len (by kernel_rfl) rfl) rfl rfl ?_
    refine at_do (does_lss rfl rfl) rfl rfl ?_
    refine at_nil ?_
    refine at_then ?_
    refine at_cond_t rfl (decide_eq_true (by (simp only; omega))) ?_
    refine at_skip ?_
    refine at_then ?_
    refine at_seq ?_
    refine at_block ?_
    refine at_seq ?_
    rotate_left
    apply at_drawF 10 8 [.val (trunkA ls vs), .val (.slice (some ⟨gb, o, none⟩) xs.length c), .val (.int .i64 i), .val (.pointer (some ⟨gb, o + i * 5, none⟩)), .val (itmA x), .rel (PutP (fun k => B0 k ∨ k = gz1 ∨ k = gz0) (stepV vs x) (stepF fs x)), .rel (PutP (fun k => B0 k ∨ k = gz1 ∨ k = gz0) (stepV vs x) (stepF fs x)), .rel (PutV (fun k => B0 k ∨ k = gz1 ∨ k = gz0) (stepV vs x) (stepF fs x)), .val (.int .i64 0), .rel (PtrN W1.heap.size TT zeroT)] (by kernel_rfl) (by kernel_rfl) rfl rfl rfl rfl rfl ⟨trivial, trivial, trivial, trivial, trivial, putP_stab _ _ _, putP_stab _ _ _, putV_stab _ _ _, trivial, ptrN_stab _ _ _, trivial⟩
    · refine so_cons rfl (fun vs => ?_) ?_
      exact step1_does (does_loadagg (i := 0) (k := 32) (by kernel_rfl) rfl rfl h32)
      refine so_cons rfl (fun vs => ?_) ?_
      exact step1_does (does_move rfl)
      refine so_cons rfl (fun vs => ?_) ?_
      exact step1_does (does_move rfl)
      refine so_cons rfl (fun vs => ?_) ?_
      exact step1_does (does_indexAddrk (k := 5) (j := i) (by kernel_rfl) rfl rfl hil)
      refine so_cons rfl (fun vs => ?_) ?_
      exact step1_does (does_loadagg_mem (vs := itmV x) (by kernel_rfl) rfl (fun w' ho => (hx.keep ho.plain).agg))
      refine so_cons rfl (fun vs => ?_) ?_
      exact step1_rel (f := 53) (enters_fn (by kernel_rfl) rfl) (fun w ho hx => cP (ho.base.mono fun k _ hk => .inr (by simpa [bls, Res.blocks] using hk)))
      refine so_cons rfl (fun vs => ?_) ?_
      exact step1_dep (fun w ho hx => ⟨_, does_move rfl, hx.1⟩)
      refine so_cons rfl (fun vs => ?_) ?_
      exact step1_dep (fun w ho hx => by obtain ⟨u, q1, q2⟩ := hx.1; exact ⟨u, does_extract (vs := [u, .int .i64 0]) (by rw [← q1]; rfl) rfl, q2⟩)
      refine so_cons rfl (fun vs => ?_) ?_
      exact step1_dep (fun w ho hx => by obtain ⟨u, q1, q2⟩ := hx.1; exact ⟨.int .i64 0, does_extract (vs := [u, .int .i64 0]) (by rw [← q1]; rfl) rfl, rfl⟩)
      refine so_cons rfl (fun vs => ?_) ?_
      exact step1_allocN Tryd.zeroValue26 rfl
      exact so_nil
    · intro vs2 w3 hw3 hp
      obtain ⟨_, _, ⟨ls', e7, hT'⟩, ⟨hb, hb0, hb1, hb2⟩, _⟩ := hp
      refine at_weak (E' := [(0, .slice (some ⟨gb, o, none⟩) xs.length c), (2, .pointer (some ⟨gz0, 0, none⟩)), (3, .pointer (some ⟨gz1, 0, none⟩)), (4, .int .i64 i), (21, trunkA ls' (stepV vs x)), (22, .int .i64 0), (5, .pointer (some ⟨hb, 0, none⟩))]) ⟨rfl, rfl, rfl, rfl, by rw [← e7]; rfl, rfl, by rw [← hb1]; rfl, trivial⟩ ?_
      refine at_adopt2 hw3 (fun k hk => by
        have : k = gz1 ∨ k = gz0 := by simpa [bls, Res.blocks] using hk
        rcases this with rfl | rfl
        · exact hg1
        · exact hg0) hW1 hb0 hb2 ?_
      have hvs' : (stepV vs x).length = 16 := by simp [stepV, hvs]
      have hls : (trunkC ls' (stepV vs x)).size = 32 := trunk_size hT'.l1 hvs'
      refine at_storeagg (i := 0) (h := hb) (cs := zeroT) (vs := trunkC ls' (stepV vs x)) (by rw [hls]; kernel_rfl) rfl rfl (trunk_one hT') rfl (by rw [hls]; rfl) ?_
      refine at_do (does_assign rfl) rfl rfl ?_
      refine at_nil ?_
      refine at_then ?_
      refine at_seq ?_
      refine at_region ?_
      refine at_do (does_move rfl) rfl rfl ?_
      refine at_do (does_eql rfl rfl) rfl rfl ?_
      refine at_nil ?_
      refine at_then ?_
      refine at_cond_t rfl (decide_eq_true (by omega)) ?_
      refine at_region ?_
      refine at_do (does_loadagg (i := 0) (k := 32) (by kernel_rfl) rfl rfl hls) rfl rfl ?_
      refine at_storeagg (i := 1) (h := gz1) (cs := trunkC ls vs) (vs := trunkC ls' (stepV vs x)) (by rw [hls]; kernel_rfl) rfl rfl (trunk_one hT') rfl (by rw [h32, hls]) ?_
      refine at_nil ?_
      refine at_inb ?_
      refine at_then ?_
      refine at_region ?_
      refine at_do (does_move rfl) rfl rfl ?_
      refine at_do (does_addi rfl rfl (by (first | omega | (simp only; omega)))) rfl rfl ?_
      refine at_do (does_assign rfl) rfl rfl ?_
      refine at_nil ?_
      refine at_then ?_
      rotate_left
      have hgb : gz1 < w3.heap.size ∧ gz0 < w3.heap.size := by
        have : W1.heap.size ≤ w3.heap.size := hw3.base.size
        omega
      refine at_againw fun w9 ho9 => ⟨(w9, ls', stepV vs x, stepF fs x, i + 1), ⟨by show i + 1 ≤ xs.length; omega, hok2, hvs', hfV, hfF, ?_, ho9.orig.size, ?_, ?_⟩, by show xs.length - (i + 1) < xs.length - i; omega, ⟨rfl, rfl, rfl, rfl, trivial⟩, rfl, (ho9.sublist (List.sublist_cons_self ..)).re⟩
      · exact (hT'.apart hb2).move (ho9.base.mono fun k _ hk => by
          have : k = hb ∨ k = gz1 ∨ k = gz0 := by simpa [bls, Res.blocks, Ctx.re] using hk
          rcases this with h | h
          · exact .inr h
          · exact .inl (.inr h)) (fun _ _ h => .inl h)
      · have : w3.heap.size ≤ w9.heap.size := ho9.base.size
        show gz1 < w9.heap.size
        omega
      · have : w3.heap.size ≤ w9.heap.size := ho9.base.size
        show gz0 < w9.heap.size
        omega
    · intro vs2 w3 hw3 hp
      obtain ⟨_, ⟨u, e6, _⟩, ⟨ls', e7, hT'⟩, ⟨hb, hb0, hb1, hb2⟩, _⟩ := hp
      refine at_weak (E' := [(0, .slice (some ⟨gb, o, none⟩) xs.length c), (2, .pointer (some ⟨gz0, 0, none⟩)), (3, .pointer (some ⟨gz1, 0, none⟩)), (4, .int .i64 i), (21, trunkA ls' (stepV vs x)), (14, .tuple #[u, .int .i64 0]), (5, .pointer (some ⟨hb, 0, none⟩))]) ⟨rfl, rfl, rfl, rfl, by rw [← e7]; rfl, by rw [← e6]; rfl, by rw [← hb1]; rfl, trivial⟩ ?_
      refine at_adopt2 hw3 (fun k hk => by
        have : k = gz1 ∨ k = gz0 := by simpa [bls, Res.blocks] using hk
        rcases this with rfl | rfl
        · exact hg1
        · exact hg0) hW1 hb0 hb2 ?_
      have hvs' : (stepV vs x).length = 16 := by simp [stepV, hvs]
      have hls : (trunkC ls' (stepV vs x)).size = 32 := trunk_size hT'.l1 hvs'
      refine at_storeagg (i := 0) (h := hb) (cs := zeroT) (vs := trunkC ls' (stepV vs x)) (by rw [hls]; kernel_rfl) rfl rfl (trunk_one hT') rfl (by rw [hls]; rfl) ?_
      refine at_do (does_extract rfl rfl) rfl rfl ?_
      refine at_do (does_assign rfl) rfl rfl ?_
      refine at_nil ?_
      refine at_then ?_
      refine at_seq ?_
      refine at_region ?_
      refine at_do (does_move rfl) rfl rfl ?_
      refine at_do (does_eql rfl rfl) rfl rfl ?_
      refine at_nil ?_
      refine at_then ?_
      refine at_cond_t rfl (decide_eq_true (by omega)) ?_
      refine at_region ?_
      refine at_do (does_loadagg (i := 0) (k := 32) (by kernel_rfl) rfl rfl hls) rfl rfl ?_
      refine at_storeagg (i := 1) (h := gz1) (cs := trunkC ls vs) (vs := trunkC ls' (stepV vs x)) (by rw [hls]; kernel_rfl) rfl rfl (trunk_one hT') rfl (by rw [h32, hls]) ?_
      refine at_nil ?_
      refine at_inb ?_
      refine at_then ?_
      refine at_region ?_
      refine at_do (does_move rfl) rfl rfl ?_
      refine at_do (does_addi rfl rfl (by (first | omega | (simp only; omega)))) rfl rfl ?_
      refine at_do (does_assign rfl) rfl rfl ?_
      refine at_nil ?_
      refine at_then ?_
      rotate_left
      have hgb : gz1 < w3.heap.size ∧ gz0 < w3.heap.size := by
        have : W1.heap.size ≤ w3.heap.size := hw3.base.size
        omega
      refine at_againw fun w9 ho9 => ⟨(w9, ls', stepV vs x, stepF fs x, i + 1), ⟨by show i + 1 ≤ xs.length; omega, hok2, hvs', hfV, hfF, ?_, ho9.orig.size, ?_, ?_⟩, by show xs.length - (i + 1) < xs.length - i; omega, ⟨rfl, rfl, rfl, rfl, trivial⟩, rfl, (ho9.sublist (List.sublist_cons_self ..)).re⟩
      · exact (hT'.apart hb2).move (ho9.base.mono fun k _ hk => by
          have : k = hb ∨ k = gz1 ∨ k = gz0 := by simpa [bls, Res.blocks, Ctx.re] using hk
          rcases this with h | h
          · exact .inr h
          · exact .inl (.inr h)) (fun _ _ h => .inl h)
      · have : w3.heap.size ≤ w9.heap.size := ho9.base.size
        show gz1 < w9.heap.size
        omega
      · have : w3.heap.size ≤ w9.heap.size := ho9.base.size
        show gz0 < w9.heap.size
        omega
  · obtain rfl : i = xs.length := by omega
    rw [List.drop_length] at hfV hfF
    simp only [List.foldl_nil] at hfV hfF
    have h32 := trunk_size hT.l1 hvs
    refine at_seq ?_
    refine at_seq ?_
    refine at_region ?_
    refine at_do (does_move rfl) rfl rfl ?_
    refine at_do (does_move rfl) rfl rfl ?_
    refine at_do (does_len (A := A) (q := xs.length) (c := c0) (by kernel_rfl) (by rw [← hv0]; rfl)) rfl rfl ?_
    refine at_do (does_lss rfl rfl) rfl rfl ?_
    refine at_nil ?_
    refine at_then ?_
    refine at_cond_f rfl (decide_eq_false (by (simp only; omega))) ?_
    refine at_exit ?_
    refine at_then_exit ?_
    refine at_then_exit ?_
    refine at_inb_here ?_
    refine at_then ?_
    refine at_seq ?_
    refine at_region ?_
    refine at_do (does_loadagg (i := 0) (k := 32) (by kernel_rfl) rfl rfl h32) rfl rfl ?_
    refine at_storeagg (i := 1) (h := gz0) (cs := zeroT) (vs := trunkC ls vs) (by rw [h32]; kernel_rfl) rfl rfl (trunk_one hT) rfl (by rw [h32]; rfl) ?_
    refine at_nil ?_
    refine at_then ?_
    refine at_ret ?_
    refine at_retagg0 (i := 1) (k := 32) rfl rfl rfl rfl (by kernel_rfl) h32 (fun w9 ho9 => ?_)
    rotate_left
    subst hfV hfF
    exact ⟨ls, rfl, ho9.plain, hT.move (ho9.base.mono fun k _ hk => .inr (by simpa [bls, Res.blocks] using hk)) (fun _ _ h => .inl h)⟩
end Go.Proofs.YtjpfebgpcokenaaDoor
