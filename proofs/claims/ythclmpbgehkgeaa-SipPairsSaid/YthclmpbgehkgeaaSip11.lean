/-
  The laws of SipParts and SipPieces. No condition of its own.
-/
import Derived.Test.YthclmpbgehkgeaaSip10
set_option linter.unusedSimpArgs false
set_option linter.unusedVariables false
namespace Go.Proofs.Ythclmpbgehkgeaa.K
open Go.RowKit
attribute [local irreducible] cwp lwp Exit.then Exit.inBlock Exit.noGoto wpQuiet Calls fin At AtQ Again endQ RQ rnds rnd rotl chewA wordF

theorem hash_tagF (h : Nat) (p q : Int) (rv : Value) (l : List UInt8) (w : World) (hb : w.heap[h]? = some (.cells (hcells (chewA (beginF p q) l).1 rv (l.length : Int)) 49)) (hs : BytesAt w rv (chewA (beginF p q) l).2) (hp : Wd p) (hq : Wd q) (hl : l.length ≤ 1000000) :
    Calls Try.prog 14 #[.pointer (some ⟨h, 0, none⟩)] w fun e w' => e = .returned (.int .u64 (tagF p q l)) ∧ Below w.heap.size w w' :=
  hash_Tag h _ rv _ _ w hb hs (chewA_rest _ _) (chewA_good _ _ (begin_good hp hq)) (by omega)
theorem Own.young {w0 w b : World} {L F : Nat → Prop} {D : List Nat} {H : List Res} (h : Own ⟨w0, L, fun _ => False, b, F, D⟩ H w) : ∀ k ∈ bls H, w0.heap.size ≤ k := fun k hk => (h.mine k hk).1.resolve_right id
theorem Own.notOld {w0 w b : World} {L F : Nat → Prop} {D : List Nat} {H0 R : List Res} (h : Own ⟨w0, L, fun _ => False, b, F, D⟩ (H0 ++ R) w) {arg : Value} {ys : List UInt8} (hB : BytesAt w0 arg ys) : ys ≠ [] → ∀ b ∈ arg.ownBlock, b ∉ bls H0 := fun hne b hb hm => by
  have h1 := hB.block hne b hb
  have h2 := h.young b (by rw [bls_append]; exact List.mem_append_left _ hm)
  omega
/-- What a hasher of these bytes is. -/
abbrev hQ (h : Nat) (p q : Int) (rv : Value) (l : List UInt8) : List Res := hR h (chewA (beginF p q) l).1 rv (chewA (beginF p q) l).2 (l.length : Int)
theorem hq_Tag {C : Ctx} {R : List Res} {h : Nat} {p q : Int} {rv : Value} {l : List UInt8} {w : World} (ho : Own C (hQ h p q rv l ++ R) w) (hp : Wd p) (hq : Wd q) (hl : l.length ≤ 1000000) :
    Calls Try.prog 14 #[.pointer (some ⟨h, 0, none⟩)] w fun e w' => e = .returned (.int .u64 (tagF p q l)) ∧ Below w.heap.size w w' := by
  have h1 := ho.get (i := 0) rfl
  have h2 := bytes_of_seg (ho.segAt (i := 1) rfl)
  exact hash_tagF h p q rv l w h1 h2 hp hq hl
theorem hq_Count {C : Ctx} {R : List Res} {h : Nat} {p q : Int} {rv : Value} {l : List UInt8} {w : World} (ho : Own C (hQ h p q rv l ++ R) w) :
    Calls Try.prog 15 #[.pointer (some ⟨h, 0, none⟩)] w fun e w' => e = .returned (.int .i64 (l.length : Int)) ∧ Below w.heap.size w w' := by
  have h1 := ho.get (i := 0) rfl
  exact hash_Count h _ rv _ w h1
theorem add_bytes (h : Nat) (p q : Int) (rv arg : Value) (l ys : List UInt8) (w : World) (ho : Own (inC w (hQ h p q rv l)) (hQ h p q rv l) w) (hp : Wd p) (hq : Wd q) (hl : l.length ≤ 1000000) (hy : ys.length ≤ 100000)
    (hB : BytesAt w arg ys) (hb : ys ≠ [] → ∀ b ∈ arg.ownBlock, b ∉ bls (hQ h p q rv l)) :
    Calls Try.prog 13 #[.pointer (some ⟨h, 0, none⟩), arg] w fun e w' => ∃ rv', e = .returned (.tuple #[]) ∧ InR w (fun k => k ∈ bls (hQ h p q rv l)) (hQ h p q rv' (l ++ ys)) w' := by
  have := add_any h (chewA (beginF p q) l).1 rv arg (chewA (beginF p q) l).2 ys l.length w ho (chewA_good _ _ (begin_good hp hq)) (chewA_rest _ _) hy (by omega) hB hb
  rw [chewA_pieces] at this
  have e : ((l ++ ys).length : Int) = (l.length : Int) + ys.length := by simp
  unfold hQ
  rw [e]
  exact this
theorem add_bytes2 (h : Nat) (p q : Int) (rv arg : Value) (l ys l2 : List UInt8) (w : World) (ho : Own (inC w (hQ h p q rv l)) (hQ h p q rv l) w) (hp : Wd p) (hq : Wd q) (hl : l.length ≤ 1000000) (hy : ys.length ≤ 100000)
    (hB : BytesAt w arg ys) (hb : ys ≠ [] → ∀ b ∈ arg.ownBlock, b ∉ bls (hQ h p q rv l)) (h2 : l2 = l ++ ys) :
    Calls Try.prog 13 #[.pointer (some ⟨h, 0, none⟩), arg] w fun e w' => ∃ rv', e = .returned (.tuple #[]) ∧ InR w (fun k => k ∈ bls (hQ h p q rv l)) (hQ h p q rv' l2) w' := by
  subst h2; exact add_bytes h p q rv arg l ys w ho hp hq hl hy hB hb
theorem at_hq {n : Nat} {E : List (Nat × Value)} {C : Ctx} {R : List Res} {K : Act → World → Prop} {h : Nat} {p q : Int} {l0 : List UInt8} (h0 : l0 = []) (k : At n E C (hQ h p q (.slice none 0 0) l0 ++ R) K) :
    At n E C (.blk h 49 (hcells (beginF p q) (.slice none 0 0) 0) :: .seg (.slice none 0 0) 5 0 [] :: R) K := by
  subst h0
  unfold hQ hR at k
  rw [chewA_end _ [] (by decide)] at k
  exact k
/-- Bytes cut. -/
def hiV (q : Nat) : Value → Value
  | .slice A m c => .slice A q c
  | v => v
def loV (q : Nat) : Value → Value
  | .slice A m c => .slice (A.map fun a => if c = q then a else a.add q) (m - q) (c - q)
  | v => v
theorem hi_bytes {w : World} {v : Value} {zs : List UInt8} {q : Nat} (h : BytesAt w v zs) (hq : q ≤ zs.length) : BytesAt w (hiV q v) (zs.take q) := by
  rcases h with ⟨rfl, rfl⟩ | ⟨A, c, rfl, hc, hcell⟩
  · obtain rfl : q = 0 := by simpa using hq
    exact .inl ⟨rfl, rfl⟩
  · refine .inr ⟨A, c, ?_, ?_, fun j u hu => hcell j u ?_⟩
    · rw [List.length_take, Nat.min_eq_left hq]; rfl
    · rw [List.length_take]; omega
    · have e : byV (zs.take q) = (byV zs).take q := by simp [byV]
      rw [e, List.getElem?_take] at hu
      split at hu
      · exact hu
      · cases hu
theorem lo_bytes {w : World} {v : Value} {zs : List UInt8} {q : Nat} (h : BytesAt w v zs) (hq : q ≤ zs.length) : BytesAt w (loV q v) (zs.drop q) := by
  rcases h with ⟨rfl, rfl⟩ | ⟨A, c, rfl, hc, hcell⟩
  · obtain rfl : q = 0 := by simpa using hq
    exact .inl ⟨rfl, rfl⟩
  · refine .inr ⟨if c = q then A else A.add q, c - q, by rw [List.length_drop]; rfl, by rw [List.length_drop]; omega, fun j u hu => ?_⟩
    have e : byV (zs.drop q) = (byV zs).drop q := by simp [byV]
    rw [e, List.getElem?_drop] at hu
    split
    · have := (List.getElem?_eq_some_iff.1 hu).1
      simp [byV] at this
      omega
    · rw [add_add']
      exact hcell _ u hu
section
variable {P : Program} {n : Nat} {E : List (Nat × Value)} {C : Ctx} {H : List Res} {dst : Option Tmp} {ty : TypeId} {pos : String} {after : Array Edge} {g : Option (Nat × Bool)} {x y : Operand} {xT : TypeId}
theorem does_bhi {v : Value} {zs : List UInt8} {q : Nat} (hT : sliceSize P xT = some 1) (hx : ev E x = some v) (hy : ev E y = some (.int .i64 (q : Int))) (hB : ∀ w, Own C H w → BytesAt w v zs) (hq : q ≤ zs.length) :
    Does P n E C H ⟨dst, .slice xT x none (some y) none, ty, pos, after, g⟩ (hiV q v) := fun a w hf ho => by
  rcases hB w ho with ⟨rfl, rfl⟩ | ⟨A, c, rfl, hc, _⟩
  · obtain rfl : q = 0 := by simpa using hq
    exact does_slice_hi0 hT hx hy a w hf ho
  · exact does_slice_hi hT hx hy ⟨Int.natCast_nonneg _, by omega⟩ a w hf ho
theorem does_blo {v : Value} {zs : List UInt8} {q : Nat} (hT : sliceSize P xT = some 1) (hx : ev E x = some v) (hy : ev E y = some (.int .i64 (q : Int))) (hB : ∀ w, Own C H w → BytesAt w v zs) (hq : q ≤ zs.length) :
    Does P n E C H ⟨dst, .slice xT x (some y) none none, ty, pos, after, g⟩ (loV q v) := fun a w hf ho => by
  rcases hB w ho with ⟨rfl, rfl⟩ | ⟨A, c, rfl, hc, _⟩
  · obtain rfl : q = 0 := by simpa using hq
    exact does_slice_lo0 hT hx hy a w hf ho
  · have := does_slice_lo (q := q) (dst := dst) (ty := ty) (pos := pos) (after := after) (g := g) hT hx hy ⟨hq, hc⟩ a w hf ho
    rwa [Nat.mul_one] at this
theorem does_blen {v : Value} {zs : List UInt8} {t : TypeId} (hT : sliceElem P t = true) (hx : ev E x = some v) (hB : ∀ w, Own C H w → BytesAt w v zs) : Does P n E C H ⟨dst, .call ⟨.builtin .len, #[x], #[t]⟩, ty, pos, after, g⟩ (.int .i64 (zs.length : Int)) := fun a w hf ho => by
  obtain ⟨A, c, rfl⟩ := (hB w ho).len
  exact does_len hT hx a w hf ho
end
set_option maxHeartbeats 4000000 in
theorem parts_aux (p q : Int) (arg : Value) (ys zs : List UInt8) (v : Value) (cut : Int) (k : Nat) (w : World) (hp : Wd p) (hq : Wd q) (hF : BytesAt w v zs) (hL : zs.length ≤ 100000)
    (cfew : ∀ w1, Calls Try.prog 7 #[arg] w1 fun e w' => e = .returned v ∧ Below w1.heap.size w1 w') (hk : k ≤ zs.length) (hcut : ((cut < 0 ∨ (zs.length : Int) < cut) ∧ (k : Int) = (zs.length : Int) / 2) ∨ ((0 ≤ cut ∧ cut ≤ zs.length) ∧ cut = (k : Int))) :
    Calls Try.prog 5 #[sec p q, arg, .int .i64 cut] w fun e w' => e = .returned (.bool true) ∧ Below w.heap.size w w' := by
  obtain ⟨l0, h0⟩ : ∃ l0 : List UInt8, l0 = [] := ⟨_, rfl⟩
  obtain ⟨l1, h1⟩ : ∃ l1 : List UInt8, l1 = l0 ++ zs.take k := ⟨_, rfl⟩
  have h2 : zs = l1 ++ zs.drop k := by rw [h1, h0]; simp
  have hl1 : l1.length ≤ 1000000 := by rw [h1, h0]; simp; omega
  have hl0 : l0.length ≤ 1000000 := by rw [h0]; decide
  have hlz : zs.length ≤ 1000000 := by omega
  have hlt : (zs.take k).length ≤ 100000 := by simp; omega
  have hld : (zs.drop k).length ≤ 100000 := by simp; omega
  rcases hcut with ⟨hc, hk2⟩ | ⟨hc, rfl⟩
  · rcases hc with hc | hc
    · refine calls_plain Try.func5 rfl Try.ntmps5 rfl ?_
      refine at_seq ?_
      refine at_region ?_
      refine at_boxagg rfl rfl fun gz0 => ?_
      refine at_do (does_assign rfl) rfl rfl ?_
      refine at_nil ?_
      refine at_then ?_
      refine at_seq ?_
      refine at_region ?_
      refine at_do (does_move rfl) rfl rfl ?_
      refine at_callv (f := 7) (enters_fn (by kernel_rfl) rfl) (fun w ho => cfew w) rfl rfl ?_
      refine at_do (does_assign rfl) rfl rfl ?_
      refine at_nil ?_
      refine at_then ?_
      refine at_seq ?_
      refine at_seq ?_
      refine at_region ?_
      refine at_do (does_move rfl) rfl rfl ?_
      refine at_do (does_lss rfl rfl) rfl rfl ?_
      refine at_do (does_move rfl) rfl rfl ?_
      refine at_know (t := 12) (d := true) rfl (decide_eq_true (by omega)) ?_
      refine at_no rfl rfl rfl rfl ?_
      refine at_no rfl rfl rfl rfl ?_
      refine at_no rfl rfl rfl rfl ?_
      refine at_no rfl rfl rfl rfl ?_
      refine at_do (does_pick_true rfl rfl) rfl rfl ?_
      refine at_nil ?_
      refine at_then ?_
      refine at_cond_true rfl ?_
      refine at_region ?_
      refine at_do (does_move rfl) rfl rfl ?_
      refine at_do (does_blen (zs := zs) (by kernel_rfl) rfl (fun w ho => ho.oldBytes hF)) rfl rfl ?_
      refine at_do (does_quoi rfl rfl (by omega)) rfl rfl ?_
      refine at_do (does_assign rfl) rfl rfl ?_
      refine at_nil ?_
      refine at_then ?_
      refine at_seq ?_
      refine at_region ?_
      refine at_do (does_loadagg (i := 0) (k := 2) (by kernel_rfl) rfl rfl rfl) rfl rfl ?_
      refine at_callblk (f := 12) (enters_fn (by kernel_rfl) rfl) (fun w ho => sip_New p q w) rfl rfl (fun hb => at_nilseg 5 (at_swap01 (at_hq h0 ?_)))
      refine at_do (does_assign rfl) rfl rfl ?_
      refine at_nil ?_
      refine at_then ?_
      refine at_seq ?_
      refine at_seq ?_
      refine at_region ?_
      refine at_do (does_move rfl) rfl rfl ?_
      refine at_do (does_nileql (by kernel_rfl) rfl rfl) rfl rfl ?_
      refine at_nil ?_
      refine at_then ?_
      refine at_cond_f rfl (by rfl) ?_
      refine at_skip ?_
      refine at_then ?_
      refine at_seq ?_
      refine at_region ?_
      refine at_do (does_move rfl) rfl rfl ?_
      refine at_do (does_move rfl) rfl rfl ?_
      refine at_do (does_move rfl) rfl rfl ?_
      refine at_do (does_bhi (q := k) (by kernel_rfl) rfl (by rw [hk2]; rfl) (fun w ho => ho.oldBytes hF) hk) rfl rfl ?_
      refine at_callin (f := 13) (ι := Value) (H0 := hQ hb p q (.slice none 0 0) l0) (R := [.blk gz0 24 #[.int .u64 p, .int .u64 q]]) (fun _ => .tuple #[]) (fun rv => hQ hb p q rv l1) rfl (enters_fn (by kernel_rfl) rfl) (fun w1 ho ho1 => by (have a1 := ho.oldBytes (hi_bytes hF hk)); (have a2 := ho.notOld (hi_bytes hF hk)); exact add_bytes2 hb p q _ _ l0 (zs.take k) l1 w1 ho1 hp hq hl0 hlt a1 a2 h1) rfl rfl (fun rv => ?_)
      refine at_nil ?_
      refine at_then ?_
      refine at_seq ?_
      refine at_region ?_
      refine at_do (does_move rfl) rfl rfl ?_
      refine at_callv (f := 14) (enters_fn (by kernel_rfl) rfl) (fun w ho => hq_Tag (rv := rv) (l := l1) (R := [.blk gz0 24 #[.int .u64 p, .int .u64 q]]) ho hp hq hl1) rfl rfl ?_
      refine at_nil ?_
      refine at_then ?_
      refine at_seq ?_
      refine at_region ?_
      refine at_do (does_move rfl) rfl rfl ?_
      refine at_do (does_move rfl) rfl rfl ?_
      refine at_do (does_move rfl) rfl rfl ?_
      refine at_do (does_blo (q := k) (by kernel_rfl) rfl (by rw [hk2]; rfl) (fun w ho => ho.oldBytes hF) hk) rfl rfl ?_
      refine at_callin (f := 13) (ι := Value) (H0 := hQ hb p q rv l1) (R := [.blk gz0 24 #[.int .u64 p, .int .u64 q]]) (fun _ => .tuple #[]) (fun rv2 => hQ hb p q rv2 zs) rfl (enters_fn (by kernel_rfl) rfl) (fun w1 ho ho1 => by (have a1 := ho.oldBytes (lo_bytes hF hk)); (have a2 := ho.notOld (lo_bytes hF hk)); exact add_bytes2 hb p q rv _ l1 (zs.drop k) zs w1 ho1 hp hq hl1 hld a1 a2 h2) rfl rfl (fun rv2 => ?_)
      refine at_nil ?_
      refine at_then ?_
      refine at_seq ?_
      refine at_draw (by kernel_rfl) (by kernel_rfl) ?_
      refine atq_do (does_move rfl) rfl rfl ?_
      refine atq_callv (f := 14) (enters_fn (by kernel_rfl) rfl) (fun w ho => hq_Tag (rv := rv2) (l := zs) (R := [.blk gz0 24 #[.int .u64 p, .int .u64 q]]) ho hp hq hlz) rfl rfl ?_
      refine atq_do (does_loadagg (i := 2) (k := 2) (by kernel_rfl) rfl rfl rfl) rfl rfl ?_
      refine atq_do (does_move rfl) rfl rfl ?_
      refine atq_callv (f := 9) (enters_fn (by kernel_rfl) rfl) (fun w ho => sip_Tag p q v zs w hp hq (ho.oldBytes hF) hL) rfl rfl ?_
      refine atq_do (does_eql rfl rfl) rfl rfl ?_
      refine atq_do (does_move rfl) rfl rfl ?_
      refine atq_know (t := 43) (d := true) rfl (decide_eq_true (by omega)) ?_
      refine atq_on rfl rfl ?_
      refine atq_do (does_move rfl) rfl rfl ?_
      refine atq_on rfl rfl ?_
      refine atq_callv (f := 15) (enters_fn (by kernel_rfl) rfl) (fun w ho => hq_Count (rv := rv2) (l := zs) (R := [.blk gz0 24 #[.int .u64 p, .int .u64 q]]) ho) rfl rfl ?_
      refine atq_on rfl rfl ?_
      refine atq_do (does_move rfl) rfl rfl ?_
      refine atq_on rfl rfl ?_
      refine atq_do (does_blen (zs := zs) (by kernel_rfl) rfl (fun w ho => ho.oldBytes hF)) rfl rfl ?_
      refine atq_on rfl rfl ?_
      refine atq_do (does_eql rfl rfl) rfl rfl ?_
      refine atq_do (does_pick_true rfl rfl) rfl rfl ?_
      refine atq_do (does_move rfl) rfl rfl ?_
      refine atq_know (t := 50) (d := true) rfl (decide_eq_true (by omega)) ?_
      refine atq_on rfl rfl ?_
      refine atq_callv (f := 11) (enters_fn (by kernel_rfl) rfl) (fun w ho => law_awake w) rfl rfl ?_
      refine atq_do (does_pick_true rfl rfl) rfl rfl ?_
      refine atq_do (does_assign rfl) rfl rfl ?_
      refine atq_nil ?_
      refine at_then ?_
      refine at_ret ?_
      refine at_ret1 rfl rfl rfl (fun w9 ho9 => ?_)
      rotate_left
      exact ⟨rfl, ho9.plain⟩
    · refine calls_plain Try.func5 rfl Try.ntmps5 rfl ?_
      refine at_seq ?_
      refine at_region ?_
      refine at_boxagg rfl rfl fun gz0 => ?_
      refine at_do (does_assign rfl) rfl rfl ?_
      refine at_nil ?_
      refine at_then ?_
      refine at_seq ?_
      refine at_region ?_
      refine at_do (does_move rfl) rfl rfl ?_
      refine at_callv (f := 7) (enters_fn (by kernel_rfl) rfl) (fun w ho => cfew w) rfl rfl ?_
      refine at_do (does_assign rfl) rfl rfl ?_
      refine at_nil ?_
      refine at_then ?_
      refine at_seq ?_
      refine at_seq ?_
      refine at_region ?_
      refine at_do (does_move rfl) rfl rfl ?_
      refine at_do (does_lss rfl rfl) rfl rfl ?_
      refine at_do (does_move rfl) rfl rfl ?_
      refine at_know (t := 12) (d := false) rfl (decide_eq_false (by omega)) ?_
      refine at_on rfl rfl ?_
      refine at_do (does_move rfl) rfl rfl ?_
      refine at_on rfl rfl ?_
      refine at_do (does_move rfl) rfl rfl ?_
      refine at_on rfl rfl ?_
      refine at_do (does_blen (zs := zs) (by kernel_rfl) rfl (fun w ho => ho.oldBytes hF)) rfl rfl ?_
      refine at_on rfl rfl ?_
      refine at_do (does_gtr rfl rfl) rfl rfl ?_
      refine at_do (does_pick_false rfl rfl) rfl rfl ?_
      refine at_nil ?_
      refine at_then ?_
      refine at_cond_t rfl (decide_eq_true (by omega)) ?_
      refine at_region ?_
      refine at_do (does_move rfl) rfl rfl ?_
      refine at_do (does_blen (zs := zs) (by kernel_rfl) rfl (fun w ho => ho.oldBytes hF)) rfl rfl ?_
      refine at_do (does_quoi rfl rfl (by omega)) rfl rfl ?_
      refine at_do (does_assign rfl) rfl rfl ?_
      refine at_nil ?_
      refine at_then ?_
      refine at_seq ?_
      refine at_region ?_
      refine at_do (does_loadagg (i := 0) (k := 2) (by kernel_rfl) rfl rfl rfl) rfl rfl ?_
      refine at_callblk (f := 12) (enters_fn (by kernel_rfl) rfl) (fun w ho => sip_New p q w) rfl rfl (fun hb => at_nilseg 5 (at_swap01 (at_hq h0 ?_)))
      refine at_do (does_assign rfl) rfl rfl ?_
      refine at_nil ?_
      refine at_then ?_
      refine at_seq ?_
      refine at_seq ?_
      refine at_region ?_
      refine at_do (does_move rfl) rfl rfl ?_
      refine at_do (does_nileql (by kernel_rfl) rfl rfl) rfl rfl ?_
      refine at_nil ?_
      refine at_then ?_
      refine at_cond_f rfl (by rfl) ?_
      refine at_skip ?_
      refine at_then ?_
      refine at_seq ?_
      refine at_region ?_
      refine at_do (does_move rfl) rfl rfl ?_
      refine at_do (does_move rfl) rfl rfl ?_
      refine at_do (does_move rfl) rfl rfl ?_
      refine at_do (does_bhi (q := k) (by kernel_rfl) rfl (by rw [hk2]; rfl) (fun w ho => ho.oldBytes hF) hk) rfl rfl ?_
      refine at_callin (f := 13) (ι := Value) (H0 := hQ hb p q (.slice none 0 0) l0) (R := [.blk gz0 24 #[.int .u64 p, .int .u64 q]]) (fun _ => .tuple #[]) (fun rv => hQ hb p q rv l1) rfl (enters_fn (by kernel_rfl) rfl) (fun w1 ho ho1 => by (have a1 := ho.oldBytes (hi_bytes hF hk)); (have a2 := ho.notOld (hi_bytes hF hk)); exact add_bytes2 hb p q _ _ l0 (zs.take k) l1 w1 ho1 hp hq hl0 hlt a1 a2 h1) rfl rfl (fun rv => ?_)
      refine at_nil ?_
      refine at_then ?_
      refine at_seq ?_
      refine at_region ?_
      refine at_do (does_move rfl) rfl rfl ?_
      refine at_callv (f := 14) (enters_fn (by kernel_rfl) rfl) (fun w ho => hq_Tag (rv := rv) (l := l1) (R := [.blk gz0 24 #[.int .u64 p, .int .u64 q]]) ho hp hq hl1) rfl rfl ?_
      refine at_nil ?_
      refine at_then ?_
      refine at_seq ?_
      refine at_region ?_
      refine at_do (does_move rfl) rfl rfl ?_
      refine at_do (does_move rfl) rfl rfl ?_
      refine at_do (does_move rfl) rfl rfl ?_
      refine at_do (does_blo (q := k) (by kernel_rfl) rfl (by rw [hk2]; rfl) (fun w ho => ho.oldBytes hF) hk) rfl rfl ?_
      refine at_callin (f := 13) (ι := Value) (H0 := hQ hb p q rv l1) (R := [.blk gz0 24 #[.int .u64 p, .int .u64 q]]) (fun _ => .tuple #[]) (fun rv2 => hQ hb p q rv2 zs) rfl (enters_fn (by kernel_rfl) rfl) (fun w1 ho ho1 => by (have a1 := ho.oldBytes (lo_bytes hF hk)); (have a2 := ho.notOld (lo_bytes hF hk)); exact add_bytes2 hb p q rv _ l1 (zs.drop k) zs w1 ho1 hp hq hl1 hld a1 a2 h2) rfl rfl (fun rv2 => ?_)
      refine at_nil ?_
      refine at_then ?_
      refine at_seq ?_
      refine at_draw (by kernel_rfl) (by kernel_rfl) ?_
      refine atq_do (does_move rfl) rfl rfl ?_
      refine atq_callv (f := 14) (enters_fn (by kernel_rfl) rfl) (fun w ho => hq_Tag (rv := rv2) (l := zs) (R := [.blk gz0 24 #[.int .u64 p, .int .u64 q]]) ho hp hq hlz) rfl rfl ?_
      refine atq_do (does_loadagg (i := 2) (k := 2) (by kernel_rfl) rfl rfl rfl) rfl rfl ?_
      refine atq_do (does_move rfl) rfl rfl ?_
      refine atq_callv (f := 9) (enters_fn (by kernel_rfl) rfl) (fun w ho => sip_Tag p q v zs w hp hq (ho.oldBytes hF) hL) rfl rfl ?_
      refine atq_do (does_eql rfl rfl) rfl rfl ?_
      refine atq_do (does_move rfl) rfl rfl ?_
      refine atq_know (t := 43) (d := true) rfl (decide_eq_true (by omega)) ?_
      refine atq_on rfl rfl ?_
      refine atq_do (does_move rfl) rfl rfl ?_
      refine atq_on rfl rfl ?_
      refine atq_callv (f := 15) (enters_fn (by kernel_rfl) rfl) (fun w ho => hq_Count (rv := rv2) (l := zs) (R := [.blk gz0 24 #[.int .u64 p, .int .u64 q]]) ho) rfl rfl ?_
      refine atq_on rfl rfl ?_
      refine atq_do (does_move rfl) rfl rfl ?_
      refine atq_on rfl rfl ?_
      refine atq_do (does_blen (zs := zs) (by kernel_rfl) rfl (fun w ho => ho.oldBytes hF)) rfl rfl ?_
      refine atq_on rfl rfl ?_
      refine atq_do (does_eql rfl rfl) rfl rfl ?_
      refine atq_do (does_pick_true rfl rfl) rfl rfl ?_
      refine atq_do (does_move rfl) rfl rfl ?_
      refine atq_know (t := 50) (d := true) rfl (decide_eq_true (by omega)) ?_
      refine atq_on rfl rfl ?_
      refine atq_callv (f := 11) (enters_fn (by kernel_rfl) rfl) (fun w ho => law_awake w) rfl rfl ?_
      refine atq_do (does_pick_true rfl rfl) rfl rfl ?_
      refine atq_do (does_assign rfl) rfl rfl ?_
      refine atq_nil ?_
      refine at_then ?_
      refine at_ret ?_
      refine at_ret1 rfl rfl rfl (fun w9 ho9 => ?_)
      rotate_left
      exact ⟨rfl, ho9.plain⟩
  · refine calls_plain Try.func5 rfl Try.ntmps5 rfl ?_
    refine at_seq ?_
    refine at_region ?_
    refine at_boxagg rfl rfl fun gz0 => ?_
    refine at_do (does_assign rfl) rfl rfl ?_
    refine at_nil ?_
    refine at_then ?_
    refine at_seq ?_
    refine at_region ?_
    refine at_do (does_move rfl) rfl rfl ?_
    refine at_callv (f := 7) (enters_fn (by kernel_rfl) rfl) (fun w ho => cfew w) rfl rfl ?_
    refine at_do (does_assign rfl) rfl rfl ?_
    refine at_nil ?_
    refine at_then ?_
    refine at_seq ?_
    refine at_seq ?_
    refine at_region ?_
    refine at_do (does_move rfl) rfl rfl ?_
    refine at_do (does_lss rfl rfl) rfl rfl ?_
    refine at_do (does_move rfl) rfl rfl ?_
    refine at_know (t := 12) (d := false) rfl (decide_eq_false (by omega)) ?_
    refine at_on rfl rfl ?_
    refine at_do (does_move rfl) rfl rfl ?_
    refine at_on rfl rfl ?_
    refine at_do (does_move rfl) rfl rfl ?_
    refine at_on rfl rfl ?_
    refine at_do (does_blen (zs := zs) (by kernel_rfl) rfl (fun w ho => ho.oldBytes hF)) rfl rfl ?_
    refine at_on rfl rfl ?_
    refine at_do (does_gtr rfl rfl) rfl rfl ?_
    refine at_do (does_pick_false rfl rfl) rfl rfl ?_
    refine at_nil ?_
    refine at_then ?_
    refine at_cond_f rfl (decide_eq_false (by omega)) ?_
    refine at_skip ?_
    refine at_then ?_
    refine at_seq ?_
    refine at_region ?_
    refine at_do (does_loadagg (i := 0) (k := 2) (by kernel_rfl) rfl rfl rfl) rfl rfl ?_
    refine at_callblk (f := 12) (enters_fn (by kernel_rfl) rfl) (fun w ho => sip_New p q w) rfl rfl (fun hb => at_nilseg 5 (at_swap01 (at_hq h0 ?_)))
    refine at_do (does_assign rfl) rfl rfl ?_
    refine at_nil ?_
    refine at_then ?_
    refine at_seq ?_
    refine at_seq ?_
    refine at_region ?_
    refine at_do (does_move rfl) rfl rfl ?_
    refine at_do (does_nileql (by kernel_rfl) rfl rfl) rfl rfl ?_
    refine at_nil ?_
    refine at_then ?_
    refine at_cond_f rfl (by rfl) ?_
    refine at_skip ?_
    refine at_then ?_
    refine at_seq ?_
    refine at_region ?_
    refine at_do (does_move rfl) rfl rfl ?_
    refine at_do (does_move rfl) rfl rfl ?_
    refine at_do (does_move rfl) rfl rfl ?_
    refine at_do (does_bhi (q := k) (by kernel_rfl) rfl (rfl) (fun w ho => ho.oldBytes hF) hk) rfl rfl ?_
    refine at_callin (f := 13) (ι := Value) (H0 := hQ hb p q (.slice none 0 0) l0) (R := [.blk gz0 24 #[.int .u64 p, .int .u64 q]]) (fun _ => .tuple #[]) (fun rv => hQ hb p q rv l1) rfl (enters_fn (by kernel_rfl) rfl) (fun w1 ho ho1 => by (have a1 := ho.oldBytes (hi_bytes hF hk)); (have a2 := ho.notOld (hi_bytes hF hk)); exact add_bytes2 hb p q _ _ l0 (zs.take k) l1 w1 ho1 hp hq hl0 hlt a1 a2 h1) rfl rfl (fun rv => ?_)
    refine at_nil ?_
    refine at_then ?_
    refine at_seq ?_
    refine at_region ?_
    refine at_do (does_move rfl) rfl rfl ?_
    refine at_callv (f := 14) (enters_fn (by kernel_rfl) rfl) (fun w ho => hq_Tag (rv := rv) (l := l1) (R := [.blk gz0 24 #[.int .u64 p, .int .u64 q]]) ho hp hq hl1) rfl rfl ?_
    refine at_nil ?_
    refine at_then ?_
    refine at_seq ?_
    refine at_region ?_
    refine at_do (does_move rfl) rfl rfl ?_
    refine at_do (does_move rfl) rfl rfl ?_
    refine at_do (does_move rfl) rfl rfl ?_
    refine at_do (does_blo (q := k) (by kernel_rfl) rfl (rfl) (fun w ho => ho.oldBytes hF) hk) rfl rfl ?_
    refine at_callin (f := 13) (ι := Value) (H0 := hQ hb p q rv l1) (R := [.blk gz0 24 #[.int .u64 p, .int .u64 q]]) (fun _ => .tuple #[]) (fun rv2 => hQ hb p q rv2 zs) rfl (enters_fn (by kernel_rfl) rfl) (fun w1 ho ho1 => by (have a1 := ho.oldBytes (lo_bytes hF hk)); (have a2 := ho.notOld (lo_bytes hF hk)); exact add_bytes2 hb p q rv _ l1 (zs.drop k) zs w1 ho1 hp hq hl1 hld a1 a2 h2) rfl rfl (fun rv2 => ?_)
    refine at_nil ?_
    refine at_then ?_
    refine at_seq ?_
    refine at_draw (by kernel_rfl) (by kernel_rfl) ?_
    refine atq_do (does_move rfl) rfl rfl ?_
    refine atq_callv (f := 14) (enters_fn (by kernel_rfl) rfl) (fun w ho => hq_Tag (rv := rv2) (l := zs) (R := [.blk gz0 24 #[.int .u64 p, .int .u64 q]]) ho hp hq hlz) rfl rfl ?_
    refine atq_do (does_loadagg (i := 2) (k := 2) (by kernel_rfl) rfl rfl rfl) rfl rfl ?_
    refine atq_do (does_move rfl) rfl rfl ?_
    refine atq_callv (f := 9) (enters_fn (by kernel_rfl) rfl) (fun w ho => sip_Tag p q v zs w hp hq (ho.oldBytes hF) hL) rfl rfl ?_
    refine atq_do (does_eql rfl rfl) rfl rfl ?_
    refine atq_do (does_move rfl) rfl rfl ?_
    refine atq_know (t := 43) (d := true) rfl (decide_eq_true (by omega)) ?_
    refine atq_on rfl rfl ?_
    refine atq_do (does_move rfl) rfl rfl ?_
    refine atq_on rfl rfl ?_
    refine atq_callv (f := 15) (enters_fn (by kernel_rfl) rfl) (fun w ho => hq_Count (rv := rv2) (l := zs) (R := [.blk gz0 24 #[.int .u64 p, .int .u64 q]]) ho) rfl rfl ?_
    refine atq_on rfl rfl ?_
    refine atq_do (does_move rfl) rfl rfl ?_
    refine atq_on rfl rfl ?_
    refine atq_do (does_blen (zs := zs) (by kernel_rfl) rfl (fun w ho => ho.oldBytes hF)) rfl rfl ?_
    refine atq_on rfl rfl ?_
    refine atq_do (does_eql rfl rfl) rfl rfl ?_
    refine atq_do (does_pick_true rfl rfl) rfl rfl ?_
    refine atq_do (does_move rfl) rfl rfl ?_
    refine atq_know (t := 50) (d := true) rfl (decide_eq_true (by omega)) ?_
    refine atq_on rfl rfl ?_
    refine atq_callv (f := 11) (enters_fn (by kernel_rfl) rfl) (fun w ho => law_awake w) rfl rfl ?_
    refine atq_do (does_pick_true rfl rfl) rfl rfl ?_
    refine atq_do (does_assign rfl) rfl rfl ?_
    refine atq_nil ?_
    refine at_then ?_
    refine at_ret ?_
    refine at_ret1 rfl rfl rfl (fun w9 ho9 => ?_)
    rotate_left
    exact ⟨rfl, ho9.plain⟩
theorem law_SipParts (p q : Int) (arg : Value) (ys : List UInt8) (cut : Int) (w : World) (hp : Wd p) (hq : Wd q) (hB : BytesAt w arg ys) (hy : ys.length ≤ 9223372036854775807) :
    Calls Try.prog 5 #[sec p q, arg, .int .i64 cut] w fun e w' => e = .returned (.bool true) ∧ Below w.heap.size w w' := by
  by_cases hc : cut < 0 ∨ ((ys.take 600).length : Int) < cut
  · exact parts_aux p q arg ys (ys.take 600) (fewV arg) cut ((ys.take 600).length / 2) w hp hq (few_bytes hB) (by simp; omega) (fun w1 => law_few arg ys w w1 hB hy) (by omega) (.inl ⟨hc, by omega⟩)
  · exact parts_aux p q arg ys (ys.take 600) (fewV arg) cut cut.toNat w hp hq (few_bytes hB) (by simp; omega) (fun w1 => law_few arg ys w w1 hB hy) (by omega) (.inr ⟨by omega, by omega⟩)
end Go.Proofs.Ythclmpbgehkgeaa.K
