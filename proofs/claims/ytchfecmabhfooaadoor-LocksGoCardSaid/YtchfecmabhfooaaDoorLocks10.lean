/-
  LocksGo, walked. No condition of its own.
-/
import Derived.Test.YtchfecmabhfooaaDoorLocks9
import Derived.Test.YtchfecmabhfooaaDoorLocksOpen
set_option linter.unusedSimpArgs false
set_option linter.unusedVariables false
namespace Go.Proofs.YtchfecmabhfooaaDoor
open Go.RowKit

/-- Where an element of a row lies. -/
def rowPtr (v : Value) (j : Nat) : Value := match v with
  | .slice (some A) _ _ => .pointer (some ⟨A.block, 0 + j, none⟩)
  | _ => undef
section
variable {P : Program} {n : Nat} {E : List (Nat × Value)} {C : Ctx} {H : List Res} {dst : Option Tmp} {ty : TypeId} {pos : String} {after : Array Edge} {g : Option (Nat × Bool)} {x y : Operand} {xT t : TypeId}
theorem does_rowidx {v : Value} {i e m j : Nat} {kk : IntKind} {xs : List Value} (hT : sliceSize P xT = some 1) (hx : ev E x = some v) (hy : ev E y = some (.int kk (j : Int))) (hi : H[i]? = some (.row v e 1 m xs)) (hj : j < m) :
    Does P n E C H ⟨dst, .indexAddr xT x y, ty, pos, after, g⟩ (rowPtr v j) := by
  intro a w hf ho
  rcases (row_cases (ho.rowAt hi)).2 with ⟨rfl, h0⟩ | ⟨gb, c, rfl⟩
  · omega
  · exact does_indexAddr1 hT hx hy hj a w hf ho
theorem does_rowget {v u : Value} {i e m j : Nat} {xs : List Value} (hT : plainT P t = true) (hx : ev E x = some (rowPtr v j)) (hi : H[i]? = some (.row v e 1 m xs)) (hj : j < m) (hu : xs[j]? = some u) :
    Does P n E C H ⟨dst, .load t x, ty, pos, after, g⟩ u := by
  intro a w hf ho
  rcases (row_cases (ho.rowAt hi)).2 with ⟨rfl, h0⟩ | ⟨gb, c, rfl⟩
  · omega
  · exact does_rowload (i := i) (j := 0 + j) hT hx hi (by omega) (by rw [Nat.zero_add]; exact hu) a w hf ho
end
theorem ints_at {xs : List Nat} {j : Nat} (h : j < xs.length) : (ints xs)[j]? = some (.int .i64 ((xs[j] : Nat) : Int)) := by simp [ints, h]
attribute [local irreducible] cwp lwp Exit.then Exit.inBlock Exit.noGoto wpQuiet Calls fin At AtQ Again endQ RQ leftN allOf mayL beginC beginP endC endP rowPtr runB
set_option maxHeartbeats 16000000 in
theorem law_LocksGo (arg : Value) (L0 : List Want2) (arg2 : Value) (picks : List Nat) (w : World) (hG : Glob w) (hV : WantsAt w arg L0) (hn9 : L0.length ≤ 9223372036854775807) (hP : PicksAt w arg2 picks) (hPn : picks.length ≤ 9223372036854775807) :
    Calls Tryd.prog 7 #[arg, arg2] w fun e w' => e = .returned (.bool true) ∧ Below w.heap.size w w' := by
  have hS := few_short L0
  have hF : ∀ w1, Below w.heap.size w w1 → Calls Tryd.prog 17 #[arg] w1 fun e w' => ∃ v, e = .returned v ∧ Below w1.heap.size w1 w' ∧ WantsAt w' v ((L0.take 66).map cutW) := fun w1 hb => law_Few arg L0 w1 (hV.keep hb) hn9
  generalize (L0.take 66).map cutW = L at hS hF
  have hS1 := hS.1
  obtain ⟨hPv, hP255⟩ := hP
  have hpl : (picksV picks).length = picks.length := by simp [picksV]
  obtain ⟨A2, c2, rfl⟩ := hPv.len
  refine calls_plain Tryd.func7 rfl Tryd.ntmps7 rfl ?_
  refine at_seq ?_
  refine at_region ?_
  refine at_do (does_assign rfl) rfl rfl ?_
  refine at_nil ?_
  refine at_then ?_
  refine at_seq ?_
  refine at_region ?_
  refine at_do (does_move rfl) rfl rfl ?_
  refine at_callk (f := 17) (Φ := fun v w' => WantsAt w' v L) (enters_fn (by kernel_rfl) rfl) (fun w ho => hF w ho.plain) rfl rfl (fun v1 w1 hw1 hv1 => ?_)
  refine at_do (does_assign rfl) rfl rfl ?_
  refine at_nil ?_
  refine at_then ?_
  refine at_seq ?_
  refine at_region ?_
  refine at_do (does_move rfl) rfl rfl ?_
  rotate_left
  have s1 : ∀ {C : Ctx} {H : List Res} {w' : World}, Own (Ctx.re C w1 []) H w' → Below w1.heap.size w1 w' := fun ho => ho.since (by simp [Ctx.re, bls])
  cases h : rightL L
  · refine at_callv (f := 23) (enters_fn (by kernel_rfl) rfl) (fun w ho => new_no v1 L w (ho.glob hG id) (hv1.keep (s1 ho)) hS h) rfl rfl ?_
    refine at_do (does_move rfl) rfl rfl ?_
    refine at_do (does_extract rfl rfl) rfl rfl ?_
    refine at_do (does_extract rfl rfl) rfl rfl ?_
    refine at_do (does_assign rfl) rfl rfl ?_
    refine at_do (does_assign rfl) rfl rfl ?_
    refine at_nil ?_
    refine at_then ?_
    refine at_seq ?_
    refine at_seq ?_
    refine at_region ?_
    refine at_do (does_move rfl) rfl rfl ?_
    refine at_do (does_neq rfl rfl) rfl rfl ?_
    refine at_do (does_move rfl) rfl rfl ?_
    refine at_know (t := 24) (d := true) rfl (decide_eq_true (by decide)) ?_
    refine at_no rfl rfl rfl rfl ?_
    refine at_no rfl rfl rfl rfl ?_
    refine at_do (does_pick_true rfl rfl) rfl rfl ?_
    refine at_nil ?_
    refine at_then ?_
    refine at_cond_true rfl ?_
    refine at_seq ?_
    refine at_region ?_
    refine at_do (does_move rfl) rfl rfl ?_
    refine at_do (does_nileql (by kernel_rfl) rfl rfl) rfl rfl ?_
    refine at_do (does_move rfl) rfl rfl ?_
    refine at_know (t := 30) (d := true) rfl (by decide) ?_
    refine at_on rfl rfl ?_
    refine at_do (does_move rfl) rfl rfl ?_
    refine at_on rfl rfl ?_
    refine at_do (does_eql rfl rfl) rfl rfl ?_
    refine at_do (does_pick_true rfl rfl) rfl rfl ?_
    refine at_do (does_move rfl) rfl rfl ?_
    refine at_know (t := 34) (d := true) rfl (decide_eq_true (by decide)) ?_
    refine at_on rfl rfl ?_
    refine at_callv (f := 24) (enters_fn (by kernel_rfl) rfl) (fun w ho => locks_awake w (ho.glob hG id)) rfl rfl ?_
    refine at_do (does_pick_true rfl rfl) rfl rfl ?_
    refine at_do (does_assign rfl) rfl rfl ?_
    refine at_nil ?_
    refine at_then ?_
    refine at_ret ?_
    refine at_then_ret ?_
    refine at_ret1 rfl rfl rfl (fun w9 ho9 => ?_)
    rotate_left
    exact ⟨rfl, ho9.plain⟩
  refine at_callr (f := 23) (ι := Nat × Nat × Nat × Nat) (fun i => .tuple #[.pointer (some ⟨i.1, 0, none⟩), .int .i64 0]) (fun i => [phR i.2.2.2 L.length (List.replicate L.length 0)]) (fun i w' => TabF w' (fun k => k = i.2.2.2) i.1 i.2.1 i.2.2.1 i.2.2.2 L) (enters_fn (by kernel_rfl) rfl) (fun w ho => new_own ho (ho.glob hG id) (hv1.keep (s1 ho)) hS h) rfl rfl rfl (fun i w2 hw2 hT => ?_)
  refine at_do (does_move rfl) rfl rfl ?_
  refine at_do (does_extract rfl rfl) rfl rfl ?_
  refine at_do (does_extract rfl rfl) rfl rfl ?_
  refine at_do (does_assign rfl) rfl rfl ?_
  refine at_do (does_assign rfl) rfl rfl ?_
  refine at_nil ?_
  refine at_then ?_
  refine at_seq ?_
  refine at_seq ?_
  refine at_region ?_
  refine at_do (does_move rfl) rfl rfl ?_
  refine at_do (does_neq rfl rfl) rfl rfl ?_
  refine at_do (does_move rfl) rfl rfl ?_
  refine at_know (t := 24) (d := false) rfl (decide_eq_false (by omega)) ?_
  refine at_on rfl rfl ?_
  refine at_do (does_move rfl) rfl rfl ?_
  refine at_on rfl rfl ?_
  refine at_do (does_nileql (by kernel_rfl) rfl rfl) rfl rfl ?_
  refine at_do (does_pick_false rfl rfl) rfl rfl ?_
  refine at_nil ?_
  refine at_then ?_
  refine at_cond_f rfl (by rfl) ?_
  refine at_skip ?_
  refine at_then ?_
  refine at_seq ?_
  refine at_region ?_
  refine at_do (does_assign rfl) rfl rfl ?_
  refine at_nil ?_
  refine at_then ?_
  refine at_seq ?_
  refine at_seq ?_
  refine at_region ?_
  refine at_do (does_assign rfl) rfl rfl ?_
  refine at_nil ?_
  refine at_then ?_
  refine at_block ?_
  rotate_left
  obtain ⟨gt, gh, ca, gp⟩ := i
  simp only at hT hw2 ⊢
  have hN : ∀ {C : Ctx} {H : List Res} {w' : World}, Own (Ctx.re C w2 [phR gp L.length (List.replicate L.length 0)]) H w' → TabF w' (fun k => k = gp) gt gh ca gp L := fun ho => tabF_at hT ho
  have t2 : Below w1.heap.size w1 w2 := s1 hw2
  have hgp : w1.heap.size ≤ gp := ((hw2.mine gp (mem_ph.2 rfl)).2).resolve_right (by simp [Ctx.re, bls])
  have s2 : ∀ {C : Ctx} {H : List Res} {w' : World}, Own (Ctx.re C w2 [phR gp L.length (List.replicate L.length 0)]) H w' → Below w1.heap.size w1 w' := fun ho => frm_thru t2 ho.base fun k hk => by
    have := mem_ph.1 hk; omega
  have tabA : ∀ {C : Ctx} {H : List Res} {w' : World} {ps : List Nat} {q : Nat}, Own (Ctx.re C w2 [phR gp L.length (List.replicate L.length 0)]) H w' → H[q]? = some (phR gp L.length ps) → Sound ps L.length → Tab w' gt gh ca gp L.length L ps := fun ho hq hs => (hN ho).tab (ho.rowAt hq) hs
  have hv1' := hv1
  obtain ⟨A0, c0, rfl, hc, hcell⟩ := hv1
  rotate_left
  refine at_nilrow 3 1 ?_
  refine at_loopH (σ := List Nat × List Nat × Value × Nat) (fun s => Going L s.1 s.2.1 s.2.2.2) (fun s => [(0, .slice A0 L.length c0), (1, .slice A2 (picksV picks).length c2), (5, .pointer (some ⟨gt, 0, none⟩)), (7, s.2.2.1), (8, .int .i64 s.2.2.2)])
    (fun s => [.row s.2.2.1 3 1 s.2.1.length (ints s.2.1), phR gp L.length s.1]) (fun s => 2 * L.length + 1 - s.2.2.2)
    (fun w ho => ⟨(List.replicate L.length 0, [], .slice none 0 0, 0), going0 L hS1, ⟨rfl, rfl, rfl, rfl, rfl, trivial⟩, ho⟩) ?_
  rintro ⟨ps, ended, v7, k⟩ hg
  simp only at hg
  have hs := hg.sound
  have hk2 := hg.le
  have hew := hg.few
  by_cases hleft : leftN L.length ps = 0
  · have hW := hg.whole hleft
    have hdone : decide (((leftN L.length ps : Nat) : Int) = 0) = true := decide_eq_true (by rw [hleft]; rfl)
    refine at_seq ?_
    refine at_seq ?_
    refine at_region ?_
    refine at_do (does_move rfl) rfl rfl ?_
    refine at_callv (f := 37) (enters_fn (by kernel_rfl) rfl) (fun w ho => hdone ▸ tab_Done (tabA (q := 1) ho rfl hs)) rfl rfl ?_
    refine at_do (does_not rfl) rfl rfl ?_
    refine at_nil ?_
    refine at_then ?_
    refine at_cond_f rfl (by rfl) ?_
    refine at_exit ?_
    refine at_then_exit ?_
    refine at_then_exit ?_
    refine at_inb_here ?_
    refine at_then ?_
    refine at_seq ?_
    refine at_region ?_
    refine at_do (does_move rfl) rfl rfl ?_
    refine at_do (does_move rfl) rfl rfl ?_
    refine at_do (does_len (by kernel_rfl) rfl) rfl rfl ?_
    refine at_callv (f := 38) (enters_fn (by kernel_rfl) rfl) (fun w ho => whole_yes _ ended L.length w (vals_of_row (ho.rowAt (i := 0) rfl)) hW hS1) rfl rfl ?_
    refine at_do (does_move rfl) rfl rfl ?_
    refine at_on rfl rfl ?_
    refine at_do (does_move rfl) rfl rfl ?_
    refine at_on rfl rfl ?_
    refine at_do (does_move rfl) rfl rfl ?_
    refine at_on rfl rfl ?_
    refine at_callv (f := 39) (enters_fn (by kernel_rfl) rfl) (fun w ho => keeps_yes _ _ L ended w (hv1'.keep (s2 ho)) hS (vals_of_row (ho.rowAt (i := 0) rfl)) hW hg.keeps) rfl rfl ?_
    refine at_do (does_pick_true rfl rfl) rfl rfl ?_
    refine at_do (does_move rfl) rfl rfl ?_
    refine at_on rfl rfl ?_
    refine at_callv (f := 24) (enters_fn (by kernel_rfl) rfl) (fun w ho => locks_awake w (ho.glob hG id)) rfl rfl ?_
    refine at_do (does_pick_true rfl rfl) rfl rfl ?_
    refine at_do (does_assign rfl) rfl rfl ?_
    refine at_nil ?_
    refine at_then ?_
    refine at_ret ?_
    refine at_ret1 rfl rfl rfl (fun w9 ho9 => ?_)
    rotate_left
    exact ⟨rfl, ho9.plain⟩
  have hdone : decide (((leftN L.length ps : Nat) : Int) = 0) = false := decide_eq_false (by omega)
  have hsome := hg.some hleft
  have hrl := allOf_len L.length (mayL L ps)
  have hul := allOf_len L.length (runB ps)
  have hup : ∀ a b x y, a < b → (allOf L.length (runB ps))[a]? = some x → (allOf L.length (runB ps))[b]? = some y → x < y := fun a b x y hab hx hy => by
    obtain ⟨h1, rfl⟩ := List.getElem?_eq_some_iff.1 hx
    obtain ⟨h2, rfl⟩ := List.getElem?_eq_some_iff.1 hy
    exact allOf_up L.length (runB ps) hab h2
  have happ := fun {x y : Nat} => hg.apart (x := x) (y := y)
  have hbeg := fun {x : Nat} => hg.begins (x := x)
  have hend := fun {x : Nat} => hg.ends (x := x)
  have hlow : ∀ x ∈ allOf L.length (runB ps), x < L.length := fun x hx => (mem_run.1 hx).1
  have cY : ∀ {C : Ctx} {w' : World}, Own (Ctx.re C w2 [phR gp L.length (List.replicate L.length 0)]) [.row v7 3 1 ended.length (ints ended), phR gp L.length ps] w' → Calls Tryd.prog 33 #[.pointer (some ⟨gt, 0, none⟩)] w' fun e w'' => ∃ v, e = .returned v ∧ Below w'.heap.size w' w'' ∧ w''.ownsRow w'.heap.size 3 1 v (allOf L.length (mayL L ps)).length (ints (allOf L.length (mayL L ps))) := fun ho => tab_Ready (tabA (q := 1) ho rfl hs)
  have cU : ∀ {C : Ctx} {w' : World} {r : Res}, Own (Ctx.re C w2 [phR gp L.length (List.replicate L.length 0)]) [r, .row v7 3 1 ended.length (ints ended), phR gp L.length ps] w' → Calls Tryd.prog 35 #[.pointer (some ⟨gt, 0, none⟩)] w' fun e w'' => ∃ v, e = .returned v ∧ Below w'.heap.size w' w'' ∧ w''.ownsRow w'.heap.size 3 1 v (allOf L.length (runB ps)).length (ints (allOf L.length (runB ps))) := fun ho => tab_Running (tabA (q := 2) ho rfl hs)
  generalize allOf L.length (mayL L ps) = rs at hsome hrl hbeg cY
  generalize allOf L.length (runB ps) = us at hsome hul hup happ hend hlow cU
  refine at_seq ?_
  refine at_seq ?_
  refine at_region ?_
  refine at_do (does_move rfl) rfl rfl ?_
  refine at_callv (f := 37) (enters_fn (by kernel_rfl) rfl) (fun w ho => hdone ▸ tab_Done (tabA (q := 1) ho rfl hs)) rfl rfl ?_
  refine at_do (does_not rfl) rfl rfl ?_
  refine at_nil ?_
  refine at_then ?_
  refine at_cond_t rfl (by rfl) ?_
  refine at_skip ?_
  refine at_then ?_
  refine at_seq ?_
  refine at_block ?_
  refine at_seq ?_
  refine at_seq ?_
  refine at_region ?_
  refine at_do (does_move rfl) rfl rfl ?_
  refine at_do (does_move rfl) rfl rfl ?_
  refine at_do (does_len (by kernel_rfl) rfl) rfl rfl ?_
  refine at_do (does_muli rfl rfl (by (first | omega | (simp only; omega)))) rfl rfl ?_
  refine at_do (does_gtr rfl rfl) rfl rfl ?_
  refine at_nil ?_
  refine at_then ?_
  refine at_cond_f rfl (decide_eq_false (by (simp only; omega))) ?_
  refine at_skip ?_
  refine at_then ?_
  refine at_seq ?_
  refine at_region ?_
  refine at_do (does_move rfl) rfl rfl ?_
  refine at_callrow (f := 33) (enters_fn (by kernel_rfl) rfl) (fun w ho => cY ho) rfl rfl (fun vy => ?_)
  refine at_do (does_move rfl) rfl rfl ?_
  refine at_callrow (f := 35) (enters_fn (by kernel_rfl) rfl) (fun w ho => cU ho) rfl rfl (fun vu => ?_)
  refine at_do (does_assign rfl) rfl rfl ?_
  refine at_do (does_assign rfl) rfl rfl ?_
  refine at_nil ?_
  refine at_then ?_
  refine at_seq ?_
  refine at_seq ?_
  refine at_region ?_
  refine at_do (does_assign rfl) rfl rfl ?_
  refine at_nil ?_
  refine at_then ?_
  refine at_block ?_
  rotate_left
  refine at_loop0 (fun a : Nat => a ≤ us.length) (fun a => [(0, .slice A0 L.length c0), (1, .slice A2 (picksV picks).length c2), (5, .pointer (some ⟨gt, 0, none⟩)), (7, v7), (8, .int .i64 k), (9, vy), (10, vu), (11, .int .i64 a)]) (fun a => us.length - a) 0 (Nat.zero_le _) ⟨rfl, rfl, rfl, rfl, rfl, rfl, rfl, rfl, trivial⟩ ?_
  rintro a ha
  by_cases hau : a < us.length
  · refine at_seq ?_
    refine at_seq ?_
    refine at_region ?_
    refine at_do (does_move rfl) rfl rfl ?_
    refine at_do (does_move rfl) rfl rfl ?_
    refine at_do (does_rowlen (i := 0) (by kernel_rfl) rfl rfl) rfl rfl ?_
    refine at_do (does_lss rfl rfl) rfl rfl ?_
    refine at_nil ?_
    refine at_then ?_
    refine at_cond_t rfl (decide_eq_true (by omega)) ?_
    refine at_skip ?_
    refine at_then ?_
    refine at_seq ?_
    refine at_block ?_
    refine at_seq ?_
    refine at_region ?_
    refine at_do (does_move rfl) rfl rfl ?_
    refine at_do (does_addi rfl rfl (by omega)) rfl rfl ?_
    refine at_do (does_assign rfl) rfl rfl ?_
    refine at_nil ?_
    refine at_then ?_
    refine at_block ?_
    rotate_left
    refine at_loop0 (fun b : Nat => a < b ∧ b ≤ us.length) (fun b => [(0, .slice A0 L.length c0), (1, .slice A2 (picksV picks).length c2), (5, .pointer (some ⟨gt, 0, none⟩)), (7, v7), (8, .int .i64 k), (9, vy), (10, vu), (11, .int .i64 a), (12, .int .i64 b)]) (fun b => us.length - b) (a + 1) (by omega) ⟨rfl, rfl, rfl, rfl, rfl, rfl, rfl, rfl, rfl, trivial⟩ ?_
    rintro b ⟨hab, hb⟩
    by_cases hbu : b < us.length
    · have hlt := hup a b us[a] us[b] hab (List.getElem?_eq_getElem hau) (List.getElem?_eq_getElem hbu)
      have ga := ints_at hau
      have gb := ints_at hbu
      have hp := happ (List.getElem_mem hau) (List.getElem_mem hbu) hlt
      have hxl := hlow _ (List.getElem_mem hau)
      have hyl := hlow _ (List.getElem_mem hbu)
      generalize us[a] = x at ga hp hxl hlt
      generalize us[b] = y at gb hp hyl hlt
      obtain ⟨gw, ow, rfl, hwlt, hce⟩ := hcell (by omega)
      obtain ⟨ax, bx, n1, n2, n3, n4, n5, n6⟩ := hce x hxl
      have hsx := hS.2 L[x] (List.getElem_mem _)
      obtain ⟨ay, bY, k1, k2, k3, k4, k5, k6⟩ := hce y hyl
      have hsy := hS.2 L[y] (List.getElem_mem _)
      have hpf : pairF L[x].1 L[x].2 L[y].1 L[y].2 = false := (oldPair (by omega) (by omega)).symm.trans hp
      have cP : ∀ {w'}, ValsAt w' ax (strs L[x].1) → ValsAt w' bx (strs L[x].2) → ValsAt w' ay (strs L[y].1) → ValsAt w' bY (strs L[y].2) → Calls Tryd.prog 15 #[.agg #[ax, bx], .agg #[ay, bY]] w' fun e w3 => e = .returned (.bool false) ∧ Below w'.heap.size w' w3 := fun x1 x2 x3 x4 => by
        rw [← hpf]; exact ref_Pair ax bx ay bY _ _ _ _ _ x1 x2 x3 x4 hsx.1 hsx.2 hsy.1 hsy.2 n5 n6 k5 k6
      refine at_seq ?_
      refine at_seq ?_
      refine at_region ?_
      refine at_do (does_move rfl) rfl rfl ?_
      refine at_do (does_move rfl) rfl rfl ?_
      refine at_do (does_rowlen (i := 0) (by kernel_rfl) rfl rfl) rfl rfl ?_
      refine at_do (does_lss rfl rfl) rfl rfl ?_
      refine at_nil ?_
      refine at_then ?_
      refine at_cond_t rfl (decide_eq_true (by omega)) ?_
      refine at_skip ?_
      refine at_then ?_
      refine at_seq ?_
      refine at_block ?_
      refine at_seq ?_
      refine at_draw (by kernel_rfl) (by kernel_rfl) ?_
      refine atq_do (does_move rfl) rfl rfl ?_
      refine atq_do (does_move rfl) rfl rfl ?_
      refine atq_do (does_rowidx (i := 0) (j := a) (by kernel_rfl) rfl rfl rfl hau) rfl rfl ?_
      refine atq_do (does_rowget (i := 0) (j := a) (by kernel_rfl) rfl rfl hau ga) rfl rfl ?_
      refine atq_do (does_lss rfl rfl) rfl rfl ?_
      refine atq_do (does_move rfl) rfl rfl ?_
      refine atq_know (t := 70) (d := false) rfl (decide_eq_false (by omega)) ?_
      refine atq_on rfl rfl ?_
      refine atq_do (does_move rfl) rfl rfl ?_
      refine atq_on rfl rfl ?_
      refine atq_do (does_move rfl) rfl rfl ?_
      refine atq_on rfl rfl ?_
      refine atq_do (does_rowidx (i := 0) (j := b) (by kernel_rfl) rfl rfl rfl hbu) rfl rfl ?_
      refine atq_on rfl rfl ?_
      refine atq_do (does_rowget (i := 0) (j := b) (by kernel_rfl) rfl rfl hbu gb) rfl rfl ?_
      refine atq_on rfl rfl ?_
      refine atq_do (does_move rfl) rfl rfl ?_
      refine atq_on rfl rfl ?_
      refine atq_do (does_len (by kernel_rfl) rfl) rfl rfl ?_
      refine atq_on rfl rfl ?_
      refine atq_do (does_geq rfl rfl) rfl rfl ?_
      refine atq_do (does_pick_false rfl rfl) rfl rfl ?_
      refine atq_do (does_move rfl) rfl rfl ?_
      refine atq_know (t := 79) (d := false) rfl (decide_eq_false (by omega)) ?_
      refine atq_on rfl rfl ?_
      refine atq_do (does_move rfl) rfl rfl ?_
      refine atq_on rfl rfl ?_
      refine atq_do (does_move rfl) rfl rfl ?_
      refine atq_on rfl rfl ?_
      refine atq_do (does_move rfl) rfl rfl ?_
      refine atq_on rfl rfl ?_
      refine atq_do (does_rowidx (i := 0) (j := a) (by kernel_rfl) rfl rfl rfl hau) rfl rfl ?_
      refine atq_on rfl rfl ?_
      refine atq_do (does_rowget (i := 0) (j := a) (by kernel_rfl) rfl rfl hau ga) rfl rfl ?_
      refine atq_on rfl rfl ?_
      refine atq_do (does_indexAddrk (k := 2) (j := x) (by kernel_rfl) rfl rfl hxl) rfl rfl ?_
      refine atq_on rfl rfl ?_
      refine atq_do (does_loadagg_mem (vs := [ax, bx]) (by kernel_rfl) rfl (fun w' ho => two_cells (Below.cellOld (s2 ho) n1) (Below.cellOld (s2 ho) n2))) rfl rfl ?_
      refine atq_on rfl rfl ?_
      refine atq_do (does_move rfl) rfl rfl ?_
      refine atq_on rfl rfl ?_
      refine atq_do (does_move rfl) rfl rfl ?_
      refine atq_on rfl rfl ?_
      refine atq_do (does_move rfl) rfl rfl ?_
      refine atq_on rfl rfl ?_
      refine atq_do (does_rowidx (i := 0) (j := b) (by kernel_rfl) rfl rfl rfl hbu) rfl rfl ?_
      refine atq_on rfl rfl ?_
      refine atq_do (does_rowget (i := 0) (j := b) (by kernel_rfl) rfl rfl hbu gb) rfl rfl ?_
      refine atq_on rfl rfl ?_
      refine atq_do (does_indexAddrk (k := 2) (j := y) (by kernel_rfl) rfl rfl hyl) rfl rfl ?_
      refine atq_on rfl rfl ?_
      refine atq_do (does_loadagg_mem (vs := [ay, bY]) (by kernel_rfl) rfl (fun w' ho => two_cells (Below.cellOld (s2 ho) k1) (Below.cellOld (s2 ho) k2))) rfl rfl ?_
      refine atq_on rfl rfl ?_
      refine atq_callv (f := 15) (enters_fn (by kernel_rfl) rfl) (fun w ho => cP (n3.keep (s2 ho)) (n4.keep (s2 ho)) (k3.keep (s2 ho)) (k4.keep (s2 ho))) rfl rfl ?_
      refine atq_do (does_pick_false rfl rfl) rfl rfl ?_
      refine atq_nil ?_
      refine at_then ?_
      refine at_cond_false rfl ?_
      refine at_skip ?_
      refine at_inb ?_
      refine at_then ?_
      refine at_region ?_
      refine at_do (does_move rfl) rfl rfl ?_
      refine at_do (does_addi rfl rfl (by omega)) rfl rfl ?_
      refine at_do (does_assign rfl) rfl rfl ?_
      refine at_nil ?_
      refine at_then ?_
      rotate_left
      refine at_again0 (b + 1) (by omega) (by omega) ⟨rfl, rfl, rfl, rfl, rfl, rfl, rfl, rfl, rfl, trivial⟩
    · obtain rfl : b = us.length := by omega
      refine at_seq ?_
      refine at_seq ?_
      refine at_region ?_
      refine at_do (does_move rfl) rfl rfl ?_
      refine at_do (does_move rfl) rfl rfl ?_
      refine at_do (does_rowlen (i := 0) (by kernel_rfl) rfl rfl) rfl rfl ?_
      refine at_do (does_lss rfl rfl) rfl rfl ?_
      refine at_nil ?_
      refine at_then ?_
      refine at_cond_f rfl (decide_eq_false (by omega)) ?_
      refine at_exit ?_
      refine at_then_exit ?_
      refine at_then_exit ?_
      refine at_inb_here ?_
      refine at_inb ?_
      refine at_then ?_
      refine at_region ?_
      refine at_do (does_move rfl) rfl rfl ?_
      refine at_do (does_addi rfl rfl (by omega)) rfl rfl ?_
      refine at_do (does_assign rfl) rfl rfl ?_
      refine at_nil ?_
      refine at_then ?_
      rotate_left
      refine at_again0 (a + 1) (by omega) (by omega) ⟨rfl, rfl, rfl, rfl, rfl, rfl, rfl, rfl, trivial⟩
  obtain rfl : a = us.length := by omega
  by_cases hpk : 0 < picks.length
  · obtain ⟨gk, ok, ck, hkv, _, _, hkc⟩ := hPv.form (by omega)
    simp only [Value.slice.injEq, true_and] at hkv
    obtain ⟨rfl, rfl⟩ := hkv
    have hkm : k % picks.length < picks.length := Nat.mod_lt _ hpk
    have hq255 := hP255 picks[k % picks.length] (List.getElem_mem hkm)
    have hcq : w.cell? ⟨gk, ok + k % picks.length, none⟩ = some (.int .u8 ((picks[k % picks.length] : Nat) : Int)) := hkc (k % picks.length) _ (by simp [picksV, hkm])
    generalize picks[k % picks.length] = q at hq255 hcq
    have hrem : (k : Int) % ((picksV picks).length : Int) = ((k % picks.length : Nat) : Int) := by rw [hpl]; exact (Int.natCast_emod k picks.length).symm
    have hrem2 : (q : Int) % ((rs.length : Int) + (us.length : Int)) = ((q % (rs.length + us.length) : Nat) : Int) := by
      rw [show ((rs.length : Int) + (us.length : Int)) = ((rs.length + us.length : Nat) : Int) by omega]; exact (Int.natCast_emod q _).symm
    refine at_seq ?_
    refine at_seq ?_
    refine at_region ?_
    refine at_do (does_move rfl) rfl rfl ?_
    refine at_do (does_move rfl) rfl rfl ?_
    refine at_do (does_rowlen (i := 0) (by kernel_rfl) rfl rfl) rfl rfl ?_
    refine at_do (does_lss rfl rfl) rfl rfl ?_
    refine at_nil ?_
    refine at_then ?_
    refine at_cond_f rfl (decide_eq_false (by omega)) ?_
    refine at_exit ?_
    refine at_then_exit ?_
    refine at_then_exit ?_
    refine at_inb_here ?_
    refine at_then ?_
    refine at_seq ?_
    refine at_region ?_
    refine at_do (does_move rfl) rfl rfl ?_
    refine at_do (does_rowlen (i := 1) (by kernel_rfl) rfl rfl) rfl rfl ?_
    refine at_do (does_move rfl) rfl rfl ?_
    refine at_do (does_rowlen (i := 0) (by kernel_rfl) rfl rfl) rfl rfl ?_
    refine at_do (does_addi rfl rfl (by (first | omega | (simp only; omega)))) rfl rfl ?_
    refine at_do (does_assign rfl) rfl rfl ?_
    refine at_nil ?_
    refine at_then ?_
    refine at_seq ?_
    refine at_seq ?_
    refine at_region ?_
    refine at_do (does_move rfl) rfl rfl ?_
    refine at_do (does_eql rfl rfl) rfl rfl ?_
    refine at_nil ?_
    refine at_then ?_
    refine at_cond_f rfl (decide_eq_false (by omega)) ?_
    refine at_skip ?_
    refine at_then ?_
    refine at_seq ?_
    refine at_region ?_
    refine at_do (does_assign rfl) rfl rfl ?_
    refine at_nil ?_
    refine at_then ?_
    refine at_seq ?_
    refine at_seq ?_
    refine at_region ?_
    refine at_do (does_move rfl) rfl rfl ?_
    refine at_do (does_vlen (vs := picksV picks) (by kernel_rfl) rfl (fun w ho => ho.oldVals hPv)) rfl rfl ?_
    refine at_do (does_gtr rfl rfl) rfl rfl ?_
    refine at_nil ?_
    refine at_then ?_
    refine at_cond_t rfl (decide_eq_true (by omega)) ?_
    refine at_region ?_
    refine at_do (does_move rfl) rfl rfl ?_
    refine at_do (does_move rfl) rfl rfl ?_
    refine at_do (does_move rfl) rfl rfl ?_
    refine at_do (does_vlen (vs := picksV picks) (by kernel_rfl) rfl (fun w ho => ho.oldVals hPv)) rfl rfl ?_
    refine at_do (hrem ▸ does_remi rfl rfl (by omega)) rfl rfl ?_
    refine at_do (does_indexAddr1 (j := k % picks.length) (by kernel_rfl) rfl rfl (by omega)) rfl rfl ?_
    refine at_do (does_load_mem (by kernel_rfl) rfl (fun w' ho => Below.cellOld ho.plain hcq)) rfl rfl ?_
    refine at_do (does_conv8 (by kernel_rfl) (by kernel_rfl) rfl (by (first | omega | (simp only; omega)))) rfl rfl ?_
    refine at_do (does_move rfl) rfl rfl ?_
    refine at_do (hrem2 ▸ does_remi rfl rfl (by omega)) rfl rfl ?_
    refine at_do (does_assign rfl) rfl rfl ?_
    refine at_nil ?_
    refine at_then ?_
    refine at_seq ?_
    refine at_seq ?_
    refine at_region ?_
    rotate_left
    have hp : q % (rs.length + us.length) < rs.length + us.length := Nat.mod_lt _ hsome
    generalize q % (rs.length + us.length) = p at hp
    by_cases hpr : p < rs.length
    · obtain ⟨hxl, e1, e2, hg'⟩ := hbeg (List.getElem_mem hpr)
      have gx := ints_at hpr
      generalize rs[p] = x at hxl e1 e2 hg' gx
      refine at_do (does_move rfl) rfl rfl ?_
      refine at_do (does_move rfl) rfl rfl ?_
      refine at_do (does_rowlen (i := 1) (by kernel_rfl) rfl rfl) rfl rfl ?_
      refine at_do (does_lss rfl rfl) rfl rfl ?_
      refine at_nil ?_
      refine at_then ?_
      refine at_cond_t rfl (decide_eq_true (by omega)) ?_
      refine at_seq ?_
      refine at_seq ?_
      refine at_region ?_
      refine at_do (does_move rfl) rfl rfl ?_
      refine at_do (does_move rfl) rfl rfl ?_
      refine at_do (does_move rfl) rfl rfl ?_
      refine at_do (does_rowidx (i := 1) (j := p) (by kernel_rfl) rfl rfl rfl hpr) rfl rfl ?_
      refine at_do (does_rowget (i := 1) (j := p) (by kernel_rfl) rfl rfl hpr gx) rfl rfl ?_
      refine at_perm (H' := [phR gp L.length ps] ++ [.row vu 3 1 us.length (ints us), .row vy 3 1 rs.length (ints rs), .row v7 3 1 ended.length (ints ended)]) (List.perm_append_comm (l₁ := [phR gp L.length ps])) (at_callin (f := 27) (ι := Unit) (H0 := [phR gp L.length ps]) (R := [.row vu 3 1 us.length (ints us), .row vy 3 1 rs.length (ints rs), .row v7 3 1 ended.length (ints ended)]) (fun _ => .int .i64 ((0 : Nat) : Int)) (fun _ => [phR gp L.length (ps.set x 1)]) rfl (enters_fn (by kernel_rfl) rfl) (fun w ho hi => begin_is (hN ho) hs hi hxl e1 e2) rfl rfl (fun _ => ?_))
      refine at_do (does_neq rfl rfl) rfl rfl ?_
      refine at_nil ?_
      refine at_then ?_
      refine at_cond_f rfl (decide_eq_false (by decide)) ?_
      refine at_skip ?_
      refine at_then ?_
      refine at_exit ?_
      refine at_then_exit ?_
      refine at_inb_here ?_
      refine at_then ?_
      refine at_region ?_
      refine at_do (does_move rfl) rfl rfl ?_
      refine at_do (does_addi rfl rfl (by (first | omega | (simp only; omega)))) rfl rfl ?_
      refine at_do (does_assign rfl) rfl rfl ?_
      refine at_nil ?_
      refine at_then ?_
      rotate_left
      refine at_againw fun w ho => ⟨(ps.set x 1, ended, v7, k + 1), hg', by show 2 * L.length + 1 - (k + 1) < 2 * L.length + 1 - k; omega, ⟨rfl, rfl, rfl, rfl, rfl, trivial⟩, rfl, ?_⟩
      exact (ho.sublist (H' := [phR gp L.length (ps.set x 1), .row v7 3 1 ended.length (ints ended)]) (.cons_cons _ (.cons _ (.cons _ (List.Sublist.refl _))))).perm (List.Perm.swap ..)
    · have hpu : p - rs.length < us.length := by omega
      obtain ⟨hxl, e1, e2, hg'⟩ := hend (List.getElem_mem hpu)
      have gx := ints_at hpu
      generalize us[p - rs.length] = x at hxl e1 e2 hg' gx
      have hsub : (((p : Nat) : Int) - ((rs.length : Nat) : Int)) = ((p - rs.length : Nat) : Int) := by omega
      generalize p - rs.length = d at hpu gx hsub
      refine at_do (does_move rfl) rfl rfl ?_
      refine at_do (does_move rfl) rfl rfl ?_
      refine at_do (does_rowlen (i := 1) (by kernel_rfl) rfl rfl) rfl rfl ?_
      refine at_do (does_lss rfl rfl) rfl rfl ?_
      refine at_nil ?_
      refine at_then ?_
      refine at_cond_f rfl (decide_eq_false (by omega)) ?_
      refine at_skip ?_
      refine at_then ?_
      refine at_seq ?_
      refine at_seq ?_
      refine at_region ?_
      refine at_do (does_move rfl) rfl rfl ?_
      refine at_do (does_move rfl) rfl rfl ?_
      refine at_do (does_move rfl) rfl rfl ?_
      refine at_do (does_move rfl) rfl rfl ?_
      refine at_do (does_rowlen (i := 1) (by kernel_rfl) rfl rfl) rfl rfl ?_
      refine at_do (hsub ▸ does_subi rfl rfl (by omega)) rfl rfl ?_
      refine at_do (does_rowidx (i := 0) (j := d) (by kernel_rfl) rfl rfl rfl hpu) rfl rfl ?_
      refine at_do (does_rowget (i := 0) (j := d) (by kernel_rfl) rfl rfl hpu gx) rfl rfl ?_
      refine at_perm (H' := [phR gp L.length ps] ++ [.row vu 3 1 us.length (ints us), .row vy 3 1 rs.length (ints rs), .row v7 3 1 ended.length (ints ended)]) (List.perm_append_comm (l₁ := [phR gp L.length ps])) (at_callin (f := 25) (ι := Unit) (H0 := [phR gp L.length ps]) (R := [.row vu 3 1 us.length (ints us), .row vy 3 1 rs.length (ints rs), .row v7 3 1 ended.length (ints ended)]) (fun _ => .int .i64 ((0 : Nat) : Int)) (fun _ => [phR gp L.length (ps.set x 2)]) rfl (enters_fn (by kernel_rfl) rfl) (fun w ho hi => end_is (hN ho) hs hi hxl e1 e2) rfl rfl (fun _ => ?_))
      refine at_do (does_neq rfl rfl) rfl rfl ?_
      refine at_nil ?_
      refine at_then ?_
      refine at_cond_f rfl (decide_eq_false (by decide)) ?_
      refine at_skip ?_
      refine at_then ?_
      refine at_region ?_
      refine at_do (does_move rfl) rfl rfl ?_
      refine at_do (does_move rfl) rfl rfl ?_
      refine at_do (does_move rfl) rfl rfl ?_
      refine at_do (does_move rfl) rfl rfl ?_
      refine at_do (does_rowlen (i := 2) (by kernel_rfl) rfl rfl) rfl rfl ?_
      refine at_do (hsub ▸ does_subi rfl rfl (by omega)) rfl rfl ?_
      refine at_do (does_rowidx (i := 1) (j := d) (by kernel_rfl) rfl rfl rfl hpu) rfl rfl ?_
      refine at_do (does_rowget (i := 1) (j := d) (by kernel_rfl) rfl rfl hpu gx) rfl rfl ?_
      refine at_buildSlice (e := 3) (sz := 1) (vs := [.int .i64 x]) (cs := [.int .i64 x]) (by kernel_rfl) rfl rfl rfl rfl rfl rfl (fun g3 => ?_)
      refine at_append (i := 4) (sz := 1) (by' := 8) (k := 1) (A := ⟨g3, 0, none⟩) (news := [.int .i64 x]) (by kernel_rfl) rfl rfl rfl rfl (fun w ho => lit_cells ho (i := 0) rfl) (oneCell_of rfl) (by simp only [maxLen]; omega) rfl (fun v' hv' => ?_)
      refine at_do (does_assign rfl) rfl rfl ?_
      refine at_nil ?_
      refine at_inb ?_
      refine at_then ?_
      refine at_region ?_
      refine at_do (does_move rfl) rfl rfl ?_
      refine at_do (does_addi rfl rfl (by (first | omega | (simp only; omega)))) rfl rfl ?_
      refine at_do (does_assign rfl) rfl rfl ?_
      refine at_nil ?_
      refine at_then ?_
      rotate_left
      refine at_againw fun w ho => ⟨(ps.set x 2, ended ++ [x], v', k + 1), hg', by show 2 * L.length + 1 - (k + 1) < 2 * L.length + 1 - k; omega, ⟨rfl, rfl, rfl, rfl, rfl, trivial⟩, rfl, ?_⟩
      have e1 : (ended ++ [x]).length = ended.length + 1 := by simp
      have e2 : ints (ended ++ [x]) = ints ended ++ [.int .i64 x] := by simp [ints]
      simp only
      rw [e1, e2]
      exact (ho.sublist (H' := [phR gp L.length (ps.set x 2), .row v' 3 1 (ended.length + 1) (ints ended ++ [.int .i64 x])]) (.cons _ (.cons_cons _ (.cons _ (.cons _ (List.Sublist.refl _)))))).perm (List.Perm.swap ..)
  · have hp : 0 < rs.length + us.length := hsome
    refine at_seq ?_
    refine at_seq ?_
    refine at_region ?_
    refine at_do (does_move rfl) rfl rfl ?_
    refine at_do (does_move rfl) rfl rfl ?_
    refine at_do (does_rowlen (i := 0) (by kernel_rfl) rfl rfl) rfl rfl ?_
    refine at_do (does_lss rfl rfl) rfl rfl ?_
    refine at_nil ?_
    refine at_then ?_
    refine at_cond_f rfl (decide_eq_false (by omega)) ?_
    refine at_exit ?_
    refine at_then_exit ?_
    refine at_then_exit ?_
    refine at_inb_here ?_
    refine at_then ?_
    refine at_seq ?_
    refine at_region ?_
    refine at_do (does_move rfl) rfl rfl ?_
    refine at_do (does_rowlen (i := 1) (by kernel_rfl) rfl rfl) rfl rfl ?_
    refine at_do (does_move rfl) rfl rfl ?_
    refine at_do (does_rowlen (i := 0) (by kernel_rfl) rfl rfl) rfl rfl ?_
    refine at_do (does_addi rfl rfl (by (first | omega | (simp only; omega)))) rfl rfl ?_
    refine at_do (does_assign rfl) rfl rfl ?_
    refine at_nil ?_
    refine at_then ?_
    refine at_seq ?_
    refine at_seq ?_
    refine at_region ?_
    refine at_do (does_move rfl) rfl rfl ?_
    refine at_do (does_eql rfl rfl) rfl rfl ?_
    refine at_nil ?_
    refine at_then ?_
    refine at_cond_f rfl (decide_eq_false (by omega)) ?_
    refine at_skip ?_
    refine at_then ?_
    refine at_seq ?_
    refine at_region ?_
    refine at_do (does_assign rfl) rfl rfl ?_
    refine at_nil ?_
    refine at_then ?_
    refine at_seq ?_
    refine at_seq ?_
    refine at_region ?_
    refine at_do (does_move rfl) rfl rfl ?_
    refine at_do (does_vlen (vs := picksV picks) (by kernel_rfl) rfl (fun w ho => ho.oldVals hPv)) rfl rfl ?_
    refine at_do (does_gtr rfl rfl) rfl rfl ?_
    refine at_nil ?_
    refine at_then ?_
    refine at_cond_f rfl (decide_eq_false (by omega)) ?_
    refine at_skip ?_
    refine at_then ?_
    refine at_seq ?_
    refine at_seq ?_
    refine at_region ?_
    rotate_left
    obtain ⟨p, hp0⟩ : ∃ p : Nat, p = 0 := ⟨0, rfl⟩
    refine at_weak (E' := [(0, .slice A0 L.length c0), (1, .slice A2 (picksV picks).length c2), (5, .pointer (some ⟨gt, 0, none⟩)), (7, v7), (8, .int .i64 k), (9, vy), (10, vu), (14, .int .i64 (p : Nat))]) ⟨rfl, rfl, rfl, rfl, rfl, rfl, rfl, by rw [hp0]; rfl, trivial⟩ ?_
    rw [← hp0] at hp
    by_cases hpr : p < rs.length
    · obtain ⟨hxl, e1, e2, hg'⟩ := hbeg (List.getElem_mem hpr)
      have gx := ints_at hpr
      generalize rs[p] = x at hxl e1 e2 hg' gx
      refine at_do (does_move rfl) rfl rfl ?_
      refine at_do (does_move rfl) rfl rfl ?_
      refine at_do (does_rowlen (i := 1) (by kernel_rfl) rfl rfl) rfl rfl ?_
      refine at_do (does_lss rfl rfl) rfl rfl ?_
      refine at_nil ?_
      refine at_then ?_
      refine at_cond_t rfl (decide_eq_true (by omega)) ?_
      refine at_seq ?_
      refine at_seq ?_
      refine at_region ?_
      refine at_do (does_move rfl) rfl rfl ?_
      refine at_do (does_move rfl) rfl rfl ?_
      refine at_do (does_move rfl) rfl rfl ?_
      refine at_do (does_rowidx (i := 1) (j := p) (by kernel_rfl) rfl rfl rfl hpr) rfl rfl ?_
      refine at_do (does_rowget (i := 1) (j := p) (by kernel_rfl) rfl rfl hpr gx) rfl rfl ?_
      refine at_perm (H' := [phR gp L.length ps] ++ [.row vu 3 1 us.length (ints us), .row vy 3 1 rs.length (ints rs), .row v7 3 1 ended.length (ints ended)]) (List.perm_append_comm (l₁ := [phR gp L.length ps])) (at_callin (f := 27) (ι := Unit) (H0 := [phR gp L.length ps]) (R := [.row vu 3 1 us.length (ints us), .row vy 3 1 rs.length (ints rs), .row v7 3 1 ended.length (ints ended)]) (fun _ => .int .i64 ((0 : Nat) : Int)) (fun _ => [phR gp L.length (ps.set x 1)]) rfl (enters_fn (by kernel_rfl) rfl) (fun w ho hi => begin_is (hN ho) hs hi hxl e1 e2) rfl rfl (fun _ => ?_))
      refine at_do (does_neq rfl rfl) rfl rfl ?_
      refine at_nil ?_
      refine at_then ?_
      refine at_cond_f rfl (decide_eq_false (by decide)) ?_
      refine at_skip ?_
      refine at_then ?_
      refine at_exit ?_
      refine at_then_exit ?_
      refine at_inb_here ?_
      refine at_then ?_
      refine at_region ?_
      refine at_do (does_move rfl) rfl rfl ?_
      refine at_do (does_addi rfl rfl (by (first | omega | (simp only; omega)))) rfl rfl ?_
      refine at_do (does_assign rfl) rfl rfl ?_
      refine at_nil ?_
      refine at_then ?_
      rotate_left
      refine at_againw fun w ho => ⟨(ps.set x 1, ended, v7, k + 1), hg', by show 2 * L.length + 1 - (k + 1) < 2 * L.length + 1 - k; omega, ⟨rfl, rfl, rfl, rfl, rfl, trivial⟩, rfl, ?_⟩
      exact (ho.sublist (H' := [phR gp L.length (ps.set x 1), .row v7 3 1 ended.length (ints ended)]) (.cons_cons _ (.cons _ (.cons _ (List.Sublist.refl _))))).perm (List.Perm.swap ..)
    · have hpu : p - rs.length < us.length := by omega
      obtain ⟨hxl, e1, e2, hg'⟩ := hend (List.getElem_mem hpu)
      have gx := ints_at hpu
      generalize us[p - rs.length] = x at hxl e1 e2 hg' gx
      have hsub : (((p : Nat) : Int) - ((rs.length : Nat) : Int)) = ((p - rs.length : Nat) : Int) := by omega
      generalize p - rs.length = d at hpu gx hsub
      refine at_do (does_move rfl) rfl rfl ?_
      refine at_do (does_move rfl) rfl rfl ?_
      refine at_do (does_rowlen (i := 1) (by kernel_rfl) rfl rfl) rfl rfl ?_
      refine at_do (does_lss rfl rfl) rfl rfl ?_
      refine at_nil ?_
      refine at_then ?_
      refine at_cond_f rfl (decide_eq_false (by omega)) ?_
      refine at_skip ?_
      refine at_then ?_
      refine at_seq ?_
      refine at_seq ?_
      refine at_region ?_
      refine at_do (does_move rfl) rfl rfl ?_
      refine at_do (does_move rfl) rfl rfl ?_
      refine at_do (does_move rfl) rfl rfl ?_
      refine at_do (does_move rfl) rfl rfl ?_
      refine at_do (does_rowlen (i := 1) (by kernel_rfl) rfl rfl) rfl rfl ?_
      refine at_do (hsub ▸ does_subi rfl rfl (by omega)) rfl rfl ?_
      refine at_do (does_rowidx (i := 0) (j := d) (by kernel_rfl) rfl rfl rfl hpu) rfl rfl ?_
      refine at_do (does_rowget (i := 0) (j := d) (by kernel_rfl) rfl rfl hpu gx) rfl rfl ?_
      refine at_perm (H' := [phR gp L.length ps] ++ [.row vu 3 1 us.length (ints us), .row vy 3 1 rs.length (ints rs), .row v7 3 1 ended.length (ints ended)]) (List.perm_append_comm (l₁ := [phR gp L.length ps])) (at_callin (f := 25) (ι := Unit) (H0 := [phR gp L.length ps]) (R := [.row vu 3 1 us.length (ints us), .row vy 3 1 rs.length (ints rs), .row v7 3 1 ended.length (ints ended)]) (fun _ => .int .i64 ((0 : Nat) : Int)) (fun _ => [phR gp L.length (ps.set x 2)]) rfl (enters_fn (by kernel_rfl) rfl) (fun w ho hi => end_is (hN ho) hs hi hxl e1 e2) rfl rfl (fun _ => ?_))
      refine at_do (does_neq rfl rfl) rfl rfl ?_
      refine at_nil ?_
      refine at_then ?_
      refine at_cond_f rfl (decide_eq_false (by decide)) ?_
      refine at_skip ?_
      refine at_then ?_
      refine at_region ?_
      refine at_do (does_move rfl) rfl rfl ?_
      refine at_do (does_move rfl) rfl rfl ?_
      refine at_do (does_move rfl) rfl rfl ?_
      refine at_do (does_move rfl) rfl rfl ?_
      refine at_do (does_rowlen (i := 2) (by kernel_rfl) rfl rfl) rfl rfl ?_
      refine at_do (hsub ▸ does_subi rfl rfl (by omega)) rfl rfl ?_
      refine at_do (does_rowidx (i := 1) (j := d) (by kernel_rfl) rfl rfl rfl hpu) rfl rfl ?_
      refine at_do (does_rowget (i := 1) (j := d) (by kernel_rfl) rfl rfl hpu gx) rfl rfl ?_
      refine at_buildSlice (e := 3) (sz := 1) (vs := [.int .i64 x]) (cs := [.int .i64 x]) (by kernel_rfl) rfl rfl rfl rfl rfl rfl (fun g3 => ?_)
      refine at_append (i := 4) (sz := 1) (by' := 8) (k := 1) (A := ⟨g3, 0, none⟩) (news := [.int .i64 x]) (by kernel_rfl) rfl rfl rfl rfl (fun w ho => lit_cells ho (i := 0) rfl) (oneCell_of rfl) (by simp only [maxLen]; omega) rfl (fun v' hv' => ?_)
      refine at_do (does_assign rfl) rfl rfl ?_
      refine at_nil ?_
      refine at_inb ?_
      refine at_then ?_
      refine at_region ?_
      refine at_do (does_move rfl) rfl rfl ?_
      refine at_do (does_addi rfl rfl (by (first | omega | (simp only; omega)))) rfl rfl ?_
      refine at_do (does_assign rfl) rfl rfl ?_
      refine at_nil ?_
      refine at_then ?_
      rotate_left
      refine at_againw fun w ho => ⟨(ps.set x 2, ended ++ [x], v', k + 1), hg', by show 2 * L.length + 1 - (k + 1) < 2 * L.length + 1 - k; omega, ⟨rfl, rfl, rfl, rfl, rfl, trivial⟩, rfl, ?_⟩
      have e1 : (ended ++ [x]).length = ended.length + 1 := by simp
      have e2 : ints (ended ++ [x]) = ints ended ++ [.int .i64 x] := by simp [ints]
      simp only
      rw [e1, e2]
      exact (ho.sublist (H' := [phR gp L.length (ps.set x 2), .row v' 3 1 (ended.length + 1) (ints ended ++ [.int .i64 x])]) (.cons _ (.cons_cons _ (.cons _ (.cons _ (List.Sublist.refl _)))))).perm (List.Perm.swap ..)
end Go.Proofs.YtchfecmabhfooaaDoor
