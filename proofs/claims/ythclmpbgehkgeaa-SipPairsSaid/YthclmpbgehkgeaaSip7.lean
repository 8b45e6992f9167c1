/-
  Tags of bytes by the hasher: Tag, Check; the bytes that are looked at. No condition of its own.
-/
import Derived.Test.YthclmpbgehkgeaaSipWords
import Derived.Test.YthclmpbgehkgeaaTurn
set_option linter.unusedSimpArgs false
set_option linter.unusedVariables false
namespace Go.Proofs.Ythclmpbgehkgeaa.K
open Go.RowKit
attribute [local irreducible] cwp lwp Exit.then Exit.inBlock Exit.noGoto wpQuiet Calls fin At AtQ Again endQ RQ rnds rnd rotl chewA wordF

theorem sip_Add0 (h : Nat) (v : W4) (rv : Value) (l : List UInt8) (cnt : Int) (w : World) (ho : Own (inC w (hR h v rv l cnt)) (hR h v rv l cnt) w) (hl : l.length < 8) (hc : 0 ≤ cnt ∧ cnt ≤ 1099511627776) :
    Calls Try.prog 13 #[.pointer (some ⟨h, 0, none⟩), .slice none 0 0] w fun e w' => e = .returned (.tuple #[]) ∧ InR w (fun k => k ∈ bls (hR h v rv l cnt)) (hR h v rv l cnt) w' := by
  have h1 : rv.oneCell' = true := seg_one (ho.segAt (i := 1) rfl)
  refine calls_in ho Try.func13 rfl Try.ntmps13 rfl ?_
  refine at_seq ?_
  refine at_region ?_
  refine at_do (does_move rfl) rfl rfl ?_
  refine at_do (does_nilCheck rfl) rfl rfl ?_
  refine at_do (does_fieldAddr (o := 5) (by kernel_rfl) rfl) rfl rfl ?_
  refine at_do (does_load (i := 0) (by kernel_rfl) rfl rfl rfl) rfl rfl ?_
  refine at_do (does_move rfl) rfl rfl ?_
  refine at_do (does_len (by kernel_rfl) rfl) rfl rfl ?_
  refine at_do (does_addi rfl rfl (by omega)) rfl rfl ?_
  refine at_do (does_nilCheck rfl) rfl rfl ?_
  refine at_do (does_fieldAddr (o := 5) (by kernel_rfl) rfl) rfl rfl ?_
  refine at_store (i := 0) (by kernel_rfl) rfl rfl rfl rfl rfl ?_
  refine at_nil ?_
  refine at_then ?_
  refine at_seq ?_
  refine at_region ?_
  refine at_do (does_move rfl) rfl rfl ?_
  refine at_do (does_move rfl) rfl rfl ?_
  refine at_do (does_nilCheck rfl) rfl rfl ?_
  refine at_do (does_fieldAddr (o := 4) (by kernel_rfl) rfl) rfl rfl ?_
  refine at_do (does_load (i := 0) (by kernel_rfl) rfl rfl rfl) rfl rfl ?_
  refine at_do (does_move rfl) rfl rfl ?_
  refine at_do (does_segappend0 (i := 1) (by' := 1) (e := 5) (by kernel_rfl) rfl rfl rfl) rfl rfl ?_
  refine at_do (does_nilCheck rfl) rfl rfl ?_
  refine at_do (does_fieldAddr (o := 4) (by kernel_rfl) rfl) rfl rfl ?_
  refine at_store (i := 0) (by kernel_rfl) rfl rfl (by assumption) rfl rfl ?_
  refine at_nil ?_
  refine at_then ?_
  refine at_block ?_
  rotate_left
  refine at_loop0 (σ := Unit) (fun _ => True) (fun _ => [(0, .pointer (some ⟨h, 0, none⟩))]) (fun _ => 0) () trivial ⟨rfl, trivial⟩ ?_
  rintro _ -
  refine at_seq ?_
  refine at_seq ?_
  refine at_region ?_
  refine at_do (does_move rfl) rfl rfl ?_
  refine at_do (does_nilCheck rfl) rfl rfl ?_
  refine at_do (does_fieldAddr (o := 4) (by kernel_rfl) rfl) rfl rfl ?_
  refine at_do (does_load (i := 0) (by kernel_rfl) rfl rfl rfl) rfl rfl ?_
  refine at_do (does_seglen (i := 1) (by kernel_rfl) rfl rfl) rfl rfl ?_
  refine at_do (does_geq rfl rfl) rfl rfl ?_
  refine at_nil ?_
  refine at_then ?_
  refine at_cond_f rfl (decide_eq_false (by omega)) ?_
  refine at_exit ?_
  refine at_then_exit ?_
  refine at_then_exit ?_
  refine at_inb_here ?_
  refine at_end0 rfl rfl (fun w9 ho9 => ?_)
  rotate_left
  exact ⟨rfl, _, _, by simpa using ho9⟩
theorem add_any (h : Nat) (v : W4) (rv arg : Value) (l ys : List UInt8) (cnt : Int) (w : World) (ho : Own (inC w (hR h v rv l cnt)) (hR h v rv l cnt) w) (hv : v.good) (hl : l.length < 8) (hy : ys.length ≤ 100000) (hc : 0 ≤ cnt ∧ cnt ≤ 1099511627776)
    (hB : BytesAt w arg ys) (hb : ys ≠ [] → ∀ b ∈ arg.ownBlock, b ∉ bls (hR h v rv l cnt)) :
    Calls Try.prog 13 #[.pointer (some ⟨h, 0, none⟩), arg] w fun e w' => ∃ rv', e = .returned (.tuple #[]) ∧ InR w (fun k => k ∈ bls (hR h v rv l cnt)) (hR h (chewA v (l ++ ys)).1 rv' (chewA v (l ++ ys)).2 (cnt + ys.length)) w' := by
  rcases hB with ⟨rfl, rfl⟩ | ⟨A, c, rfl, _, hcell⟩
  · refine (sip_Add0 h v rv l cnt w ho hl hc).mono fun e w' ⟨h1, h2⟩ => ⟨rv, h1, ?_⟩
    rw [List.append_nil, chewA_end v l hl]
    simpa using h2
  · refine (sip_Add h v rv l ys cnt A c w ho hv hl hy hc (fun hne => hb hne A.block (by simp [Value.ownBlock])) hcell).mono fun e w' ⟨h1, rv', h2⟩ => ⟨rv', h1, h2⟩
theorem BytesAt.block {w : World} {arg : Value} {ys : List UInt8} (h : BytesAt w arg ys) (hne : ys ≠ []) : ∀ b ∈ arg.ownBlock, b < w.heap.size := by
  obtain ⟨gb, o, c, rfl, _, hc⟩ := h.form (List.length_pos_iff.2 hne)
  intro b hb
  simp [Value.ownBlock] at hb
  subst hb
  exact World.block_lt_of_cell? _ _ (hc 0 _ (byV_get (List.length_pos_iff.2 hne)))
theorem Own.oldBytes {w0 w b : World} {M F : Nat → Prop} {D : List Nat} {H : List Res} {arg : Value} {ys : List UInt8} (h : Own ⟨w0, fun _ => False, M, b, F, D⟩ H w) (hB : BytesAt w0 arg ys) : BytesAt w arg ys := hB.keep h.plain
theorem sip_Tag (p q : Int) (arg : Value) (ys : List UInt8) (w : World) (hp : Wd p) (hq : Wd q) (hB : BytesAt w arg ys) (hy : ys.length ≤ 100000) :
    Calls Try.prog 9 #[sec p q, arg] w fun e w' => e = .returned (.int .u64 (tagF p q ys)) ∧ Below w.heap.size w w' := by
  refine calls_plain Try.func9 rfl Try.ntmps9 rfl ?_
  refine at_seq ?_
  refine at_region ?_
  refine at_boxagg rfl rfl fun gz0 => ?_
  refine at_do (does_assign rfl) rfl rfl ?_
  refine at_nil ?_
  refine at_then ?_
  refine at_seq ?_
  refine at_region ?_
  refine at_do (does_loadagg (i := 0) (k := 2) (by kernel_rfl) rfl rfl rfl) rfl rfl ?_
  refine at_callblk (f := 12) (enters_fn (by kernel_rfl) rfl) (fun w ho => sip_New p q w) rfl rfl (fun hb => at_nilseg 5 (at_swap01 ?_))
  refine at_do (does_assign rfl) rfl rfl ?_
  refine at_nil ?_
  refine at_then ?_
  refine at_seq ?_
  refine at_region ?_
  refine at_do (does_move rfl) rfl rfl ?_
  refine at_do (does_move rfl) rfl rfl ?_
  refine at_callin (f := 13) (ι := Value) (H0 := hR hb (beginF p q) (.slice none 0 0) [] 0) (R := _) (fun _ => .tuple #[]) (fun rv => hR hb (chewA (beginF p q) ys).1 rv (chewA (beginF p q) ys).2 (0 + ys.length)) rfl (enters_fn (by kernel_rfl) rfl) (fun w1 ho ho1 => ?_) rfl rfl (fun rv => ?_)
  rotate_left
  refine at_nil ?_
  refine at_then ?_
  refine at_seq ?_
  refine at_region ?_
  refine at_do (does_move rfl) rfl rfl ?_
  refine at_callv (f := 14) (enters_fn (by kernel_rfl) rfl) (fun w1 ho => hash_Tag hb (chewA (beginF p q) ys).1 rv (chewA (beginF p q) ys).2 (0 + ys.length) w1 (ho.get (i := 0) rfl) (bytes_of_seg (ho.segAt (i := 1) rfl)) (chewA_rest _ _) (chewA_good _ _ (begin_good hp hq)) (by omega)) rfl rfl ?_
  refine at_do (does_assign rfl) rfl rfl ?_
  refine at_nil ?_
  refine at_then ?_
  refine at_ret ?_
  refine at_ret1 rfl rfl rfl (fun w9 ho9 => ?_)
  rotate_left
  · refine add_any hb (beginF p q) (.slice none 0 0) arg [] ys 0 w1 ho1 (begin_good hp hq) (by decide) hy (by decide) (ho.oldBytes hB) (fun hne b hbb hm => ?_)
    have h1 := hB.block hne b hbb
    have h2 := (ho.mine b (by rw [bls_cons, List.mem_append] ; simp [bls, Res.blocks, Value.ownBlock] at hm ⊢; exact .inl hm)).1
    rcases h2 with h2 | h2
    · have : w.heap.size ≤ b := h2
      omega
    · exact h2
  · rw [Int.zero_add]; exact ⟨rfl, ho9.plain⟩
theorem sip_Check (p q tag : Int) (arg : Value) (ys : List UInt8) (w : World) (hp : Wd p) (hq : Wd q) (hB : BytesAt w arg ys) (hy : ys.length ≤ 100000) :
    Calls Try.prog 10 #[sec p q, arg, .int .u64 tag] w fun e w' => e = .returned (.bool (decide (tagF p q ys = tag))) ∧ Below w.heap.size w w' := by
  refine calls_plain Try.func10 rfl Try.ntmps10 rfl ?_
  refine at_seq ?_
  refine at_region ?_
  refine at_boxagg rfl rfl fun gz0 => ?_
  refine at_do (does_assign rfl) rfl rfl ?_
  refine at_nil ?_
  refine at_then ?_
  refine at_seq ?_
  refine at_region ?_
  refine at_do (does_loadagg (i := 0) (k := 2) (by kernel_rfl) rfl rfl rfl) rfl rfl ?_
  refine at_do (does_move rfl) rfl rfl ?_
  refine at_callv (f := 9) (enters_fn (by kernel_rfl) rfl) (fun w ho => sip_Tag p q arg ys w hp hq (ho.oldBytes hB) hy) rfl rfl ?_
  refine at_do (does_move rfl) rfl rfl ?_
  refine at_do (does_eql rfl rfl) rfl rfl ?_
  refine at_do (does_assign rfl) rfl rfl ?_
  refine at_nil ?_
  refine at_then ?_
  refine at_ret ?_
  refine at_ret1 rfl rfl rfl (fun w9 ho9 => ?_)
  rotate_left
  exact ⟨rfl, ho9.plain⟩
/-- The bytes that are looked at. -/
def fewV : Value → Value
  | .slice A m c => .slice A (min m 600) c
  | v => v
theorem few_bytes {w : World} {arg : Value} {ys : List UInt8} (hB : BytesAt w arg ys) : BytesAt w (fewV arg) (ys.take 600) := by
  rcases hB with ⟨rfl, rfl⟩ | ⟨A, c, rfl, hc, hcell⟩
  · exact .inl ⟨rfl, rfl⟩
  · refine .inr ⟨A, c, ?_, ?_, fun j u hu => hcell j u ?_⟩
    · rw [List.length_take, Nat.min_comm]; rfl
    · rw [List.length_take]; omega
    · have e : byV (ys.take 600) = (byV ys).take 600 := by simp [byV]
      rw [e, List.getElem?_take] at hu
      split at hu
      · exact hu
      · cases hu
theorem few_block (arg : Value) : (fewV arg).ownBlock = arg.ownBlock := by
  cases arg <;> first | rfl | (rename_i A m c; cases A <;> rfl)
theorem law_few (arg : Value) (ys : List UInt8) (w0 w : World) (hB : BytesAt w0 arg ys) (hy : ys.length ≤ 9223372036854775807) :
    Calls Try.prog 7 #[arg] w fun e w' => e = .returned (fewV arg) ∧ Below w.heap.size w w' := by
  rcases hB with ⟨rfl, rfl⟩ | ⟨A, c, rfl, hc, hcell⟩
  · refine calls_plain Try.func7 rfl Try.ntmps7 rfl ?_
    refine at_seq ?_
    refine at_region ?_
    refine at_do (does_assign rfl) rfl rfl ?_
    refine at_nil ?_
    refine at_then ?_
    refine at_seq ?_
    refine at_seq ?_
    refine at_region ?_
    refine at_do (does_move rfl) rfl rfl ?_
    refine at_do (does_len (by kernel_rfl) rfl) rfl rfl ?_
    refine at_do (does_gtr rfl rfl) rfl rfl ?_
    refine at_nil ?_
    refine at_then ?_
    refine at_cond_f rfl (decide_eq_false (by omega)) ?_
    refine at_skip ?_
    refine at_then ?_
    refine at_seq ?_
    refine at_region ?_
    refine at_do (does_move rfl) rfl rfl ?_
    refine at_do (does_assign rfl) rfl rfl ?_
    refine at_nil ?_
    refine at_then ?_
    refine at_ret ?_
    refine at_ret1 rfl rfl rfl (fun w9 ho9 => ?_)
    rotate_left
    exact ⟨rfl, ho9.plain⟩
  · refine calls_plain Try.func7 rfl Try.ntmps7 rfl ?_
    refine at_seq ?_
    refine at_region ?_
    refine at_do (does_assign rfl) rfl rfl ?_
    refine at_nil ?_
    refine at_then ?_
    refine at_seq ?_
    refine at_seq ?_
    refine at_region ?_
    refine at_do (does_move rfl) rfl rfl ?_
    refine at_do (does_len (by kernel_rfl) rfl) rfl rfl ?_
    refine at_do (does_gtr rfl rfl) rfl rfl ?_
    refine at_nil ?_
    refine at_then ?_
    refine at_condD rfl (fun z0 => ?_) (fun z0 => ?_)
    refine at_seq ?_
    refine at_region ?_
    refine at_do (does_move rfl) rfl rfl ?_
    refine at_do (does_slice_hi (sz := 1) (by kernel_rfl) rfl rfl (by omega)) rfl rfl ?_
    refine at_do (does_assign rfl) rfl rfl ?_
    refine at_nil ?_
    refine at_then ?_
    refine at_ret ?_
    refine at_then_ret ?_
    refine at_ret1 rfl rfl rfl (fun w9 ho9 => ?_)
    rotate_left
    refine at_skip ?_
    refine at_then ?_
    refine at_seq ?_
    refine at_region ?_
    refine at_do (does_move rfl) rfl rfl ?_
    refine at_do (does_assign rfl) rfl rfl ?_
    refine at_nil ?_
    refine at_then ?_
    refine at_ret ?_
    refine at_ret1 rfl rfl rfl (fun w9 ho9 => ?_)
    rotate_left
    · refine ⟨?_, ho9.plain⟩
      show _ = Ending.returned (.slice (some A) (min ys.length 600) c)
      rw [Nat.min_eq_right (by omega)]; rfl
    · refine ⟨?_, ho9.plain⟩
      show _ = Ending.returned (.slice (some A) (min ys.length 600) c)
      rw [Nat.min_eq_left (by omega)]
/-- Bytes made a string. -/
theorem does_bytesStr {P : Program} {n : Nat} {E : List (Nat × Value)} {C : Ctx} {H : List Res} {dst : Option Tmp} {ty : TypeId} {pos : String} {after : Array Edge} {g : Option (Nat × Bool)} {x : Operand} {xT yT : TypeId} {v : Value} {l : List UInt8}
    (hT : bytesT P xT yT = true) (hx : ev E x = some v) (hB : ∀ w, Own C H w → BytesAt w v l) : Does P n E C H ⟨dst, .convert xT yT x, ty, pos, after, g⟩ (.string (bs l)) := by
  intro a w hf ho
  have key : (convert xT yT v).run P w = .ok (.string (bs l)) w := by
    rcases hB w ho with ⟨rfl, rfl⟩ | ⟨A, c, rfl, _, hcell⟩
    · unfold bytesT at hT
      split at hT
      · rename_i e h1 h2
        split at hT
        · rename_i h3
          rw [run_convert_bytes_string w xT yT e none 0 0 h1 h3 h2]
          simp [Conv.bytesToString, go_sem]
          rfl
        · cases hT
      · cases hT
    · exact run_bytesStrA hT fun j b hj => hcell j _ (by simp [byV, hj])
  simp only [execOp, hf.eval hx, Sem.run_bind, key, Result.andThen]
  rfl
end Go.Proofs.Ythclmpbgehkgeaa.K
