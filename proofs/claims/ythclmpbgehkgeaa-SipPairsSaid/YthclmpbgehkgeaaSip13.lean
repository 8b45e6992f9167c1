/-
  A number's eight bytes, and the secret of two numbers. No condition of its own.
-/
import Derived.Test.YthclmpbgehkgeaaSip12
set_option linter.unusedSimpArgs false
set_option linter.unusedVariables false
namespace Go.Proofs.Ythclmpbgehkgeaa.K
open Go.RowKit
def arrCell (P : Program) (t : TypeId) : Option Nat := match P.underlying t with
  | some (.array l e) => if sizeT P e == some 1 && plainT P e then some l else none
  | _ => none
theorem does_aidx {P : Program} {n : Nat} {E : List (Nat × Value)} {C : Ctx} {H : List Res} {dst : Option Tmp} {ty : TypeId} {pos : String} {after : Array Edge} {g : Option (Nat × Bool)} {x y : Operand} {xT : TypeId} {cs : Array Value} {l q : Nat} {kk : IntKind} {v : Value}
    (hT : arrCell P xT = some l) (hx : ev E x = some (.agg cs)) (hy : ev E y = some (.int kk (q : Int))) (hq : q < l) (hv : cs[q]? = some v) : Does P n E C H ⟨dst, .index xT x y, ty, pos, after, g⟩ v := by
  intro a w hf ho
  unfold arrCell at hT
  split at hT
  · rename_i l' e he
    split at hT
    · rename_i hh
      cases hT
      simp only [Bool.and_eq_true, beq_iff_eq] at hh
      have hs := run_sizeT hh.1 w
      simp only [execOp, hf.eval hx, hf.eval hy]
      simp [go_sem, Instr.index, asIntOf, run_underlying he, hq, hs, part, run_isAgg_plain hh.2, asAgg, hv]
    · cases hT
  · cases hT
def le (u k : Nat) : List UInt8 := (List.range k).map fun i => UInt8.ofNat (u / 256 ^ i % 256)
theorem le_len (u k : Nat) : (le u k).length = k := by simp [le]
theorem le_succ (u k : Nat) : byV (le u (k + 1)) = byV (le u k) ++ [.int .u8 ((u / 256 ^ k % 256 : Nat) : Int)] := by
  simp [le, byV, List.range_succ]
def u64n (n : Int) : Nat := (n % 18446744073709551616).toNat
attribute [local irreducible] cwp lwp Exit.then Exit.inBlock Exit.noGoto wpQuiet Calls fin At AtQ Again endQ RQ rnds rnd rotl chewA wordF tagF
theorem ref_Eight (n : Int) (w : World) : Calls Try.prog 16 #[.int .i64 n] w fun e w' => ∃ v, e = .returned v ∧ Below w.heap.size w w' ∧ w'.ownsRow w.heap.size 5 1 v 8 (byV (le (u64n n) 8)) := by
  have hu : IntKind.u64.wrap n = (u64n n : Int) := by rw [IntKind.wrap_u64]; unfold u64n; omega
  refine calls_plain Try.func16 rfl Try.ntmps16 rfl ?_
  refine at_seq ?_
  refine at_region ?_
  refine at_do (does_assign rfl) rfl rfl ?_
  refine at_nil ?_
  refine at_then ?_
  refine at_seq ?_
  refine at_region ?_
  refine at_do (does_move rfl) rfl rfl ?_
  refine at_do (does_convw (k := .u64) (by kernel_rfl) (by kernel_rfl) rfl) rfl rfl ?_
  refine at_do (does_assign rfl) rfl rfl ?_
  refine at_nil ?_
  refine at_then ?_
  refine at_seq ?_
  refine at_region ?_
  refine at_do (does_assign rfl) rfl rfl ?_
  refine at_nil ?_
  refine at_then ?_
  refine at_seq ?_
  refine at_seq ?_
  refine at_region ?_
  refine at_do (does_assign rfl) rfl rfl ?_
  refine at_nil ?_
  refine at_then ?_
  refine at_block ?_
  rotate_left
  refine at_loopH (σ := Value × Nat) (fun s => s.2 ≤ 8) (fun s => [(3, .int .u64 ((u64n n / 256 ^ s.2 : Nat) : Int)), (4, s.1), (5, .int .i64 s.2)]) (fun s => [.row s.1 5 1 s.2 (byV (le (u64n n) s.2))]) (fun s => 8 - s.2)
    (fun w ho => ⟨(.slice none 0 0, 0), Nat.zero_le _, ⟨by rw [hu]; simp [eget_cons], rfl, rfl, trivial⟩, ho.nilrow 5 1⟩) ?_
  rintro ⟨v4, i⟩ hi
  simp only at hi
  by_cases hi8 : i < 8
  · obtain ⟨b, hb⟩ : ∃ b : Int, b = ((u64n n / 256 ^ i % 256 : Nat) : Int) := ⟨_, rfl⟩
    obtain ⟨q, hq⟩ : ∃ q : Nat, q = u64n n / 256 ^ i := ⟨_, rfl⟩
    rw [← hq] at hb
    refine at_weak (E' := [(3, .int .u64 (q : Int)), (4, v4), (5, .int .i64 i)]) ⟨by rw [hq]; rfl, rfl, rfl, trivial⟩ ?_
    have hqb : q < 18446744073709551616 := by
      have h1 : u64n n < 18446744073709551616 := by unfold u64n; omega
      have h2 : u64n n / 256 ^ i ≤ u64n n := Nat.div_le_self _ _
      omega
    refine at_seq ?_
    refine at_seq ?_
    refine at_region ?_
    refine at_do (does_move rfl) rfl rfl ?_
    refine at_do (does_lss rfl rfl) rfl rfl ?_
    refine at_nil ?_
    refine at_then ?_
    refine at_cond_t rfl (decide_eq_true (by omega)) ?_
    refine at_skip ?_
    refine at_then ?_
    refine at_seq ?_
    refine at_block ?_
    refine at_seq ?_
    refine at_region ?_
    refine at_do (does_move rfl) rfl rfl ?_
    refine at_do (does_move rfl) rfl rfl ?_
    refine at_do (does_remi rfl rfl (by (first | omega | (simp only; omega)))) rfl rfl ?_
    refine at_do (does_convw (k := .u8) (by kernel_rfl) (by kernel_rfl) rfl) rfl rfl ?_
    refine at_buildSlice (e := 5) (sz := 1) (vs := [.int .u8 (IntKind.u8.wrap ((q : Int) % 256))]) (cs := [.int .u8 (IntKind.u8.wrap ((q : Int) % 256))]) (by kernel_rfl) rfl rfl rfl rfl rfl rfl (fun g3 => ?_)
    refine at_append (i := 1) (sz := 1) (by' := 1) (k := 1) (A := ⟨g3, 0, none⟩) (news := [.int .u8 (IntKind.u8.wrap ((q : Int) % 256))]) (by kernel_rfl) rfl rfl rfl rfl (fun w ho => lit_cells ho (i := 0) rfl) (one_of rfl) (by simp only [maxLen]; omega) rfl (fun v6 hv6 => ?_)
    refine at_do (does_assign rfl) rfl rfl ?_
    refine at_nil ?_
    refine at_then ?_
    refine at_region ?_
    refine at_do (does_move rfl) rfl rfl ?_
    refine at_do (does_quo rfl rfl (by (first | omega | (simp only; omega)))) rfl rfl ?_
    refine at_do (does_assign rfl) rfl rfl ?_
    refine at_nil ?_
    refine at_inb ?_
    refine at_then ?_
    refine at_region ?_
    refine at_do (does_move rfl) rfl rfl ?_
    refine at_do (does_addi rfl rfl (by (first | omega | (simp only; omega)))) rfl rfl ?_
    refine at_do (does_assign rfl) rfl rfl ?_
    refine at_nil ?_
    refine at_then ?_
    rotate_left
    refine at_againw fun w ho => ⟨(v6, i + 1), by show i + 1 ≤ 8; omega, by show 8 - (i + 1) < 8 - i; omega, ⟨?_, rfl, rfl, trivial⟩, rfl, ?_⟩
    · show some (Value.int .u64 _) = some (Value.int .u64 _)
      have e1 : u64n n / 256 ^ (i + 1) = q / 256 := by rw [Nat.pow_succ, ← Nat.div_div_eq_div_mul, ← hq]
      simp only
      rw [e1, IntKind.wrap_u64, Int.tdiv_eq_ediv_of_nonneg (Int.natCast_nonneg _)]
      exact congrArg _ (congrArg _ (by omega))
    · show Own _ [.row v6 5 1 (i + 1) (byV (le (u64n n) (i + 1)))] w
      have e : byV (le (u64n n) (i + 1)) = byV (le (u64n n) i) ++ [.int .u8 (IntKind.u8.wrap ((q : Int) % 256))] := by
        rw [le_succ, IntKind.wrap_u8, ← hq]
        exact congrArg _ (congrArg (fun x => [Value.int .u8 x]) (by omega))
      rw [e]
      exact ho.sublist (List.sublist_cons_self ..)
  · obtain rfl : i = 8 := by omega
    refine at_seq ?_
    refine at_seq ?_
    refine at_region ?_
    refine at_do (does_move rfl) rfl rfl ?_
    refine at_do (does_lss rfl rfl) rfl rfl ?_
    refine at_nil ?_
    refine at_then ?_
    refine at_cond_f rfl (decide_eq_false (by omega)) ?_
    refine at_exit ?_
    refine at_then_exit ?_
    refine at_then_exit ?_
    refine at_inb_here ?_
    refine at_then ?_
    refine at_seq ?_
    refine at_region ?_
    refine at_do (does_move rfl) rfl rfl ?_
    refine at_do (does_assign rfl) rfl rfl ?_
    refine at_nil ?_
    refine at_then ?_
    refine at_ret ?_
    refine at_ret1 rfl rfl rfl (fun w9 ho9 => ?_)
    rotate_left
    exact ⟨_, rfl, ho9.plain, ho9.rowOut (List.mem_cons_self ..)⟩
theorem shapePair : shapeArr Try.prog 53 = some ([.int .i64 0, .int .i64 0], 1) := by kernel_rfl
theorem fdiv_nat (a b : Nat) : ((a : Int)).fdiv (b : Int) = ((a / b : Nat) : Int) := by
  rw [Int.fdiv_eq_ediv_of_nonneg _ (Int.natCast_nonneg _)]; rfl
def two (from_ to_ : Int) (k : Nat) : Int := if k = 0 then from_ else to_
def pairB (from_ to_ : Int) (k : Nat) : List UInt8 := if k = 0 then [] else if k = 1 then le (u64n from_) 8 else le (u64n from_) 8 ++ le (u64n to_) 8
theorem pairB_len (a b : Int) (k : Nat) : (pairB a b k).length ≤ 16 ∧ (pairB a b k).length = (if k = 0 then 0 else if k = 1 then 8 else 16) := by
  unfold pairB; split
  · simp
  · split <;> simp [le_len]
theorem pairB_succ (a b : Int) (k : Nat) (hk : k < 2) : pairB a b (k + 1) = pairB a b k ++ le (u64n (two a b k)) 8 := by
  match k, hk with
  | 0, _ => rfl
  | 1, _ => rfl
def shB (T : Int) (i : Nat) : Int := IntKind.u8.wrap ((IntKind.u64.wrap T).fdiv (2 ^ (min (8 * (i : Int)).toNat IntKind.u64.bits)))
theorem shB_eq (T : Int) (i : Nat) (hi : i < 8) : shB T i = ((u64n T / 256 ^ i % 256 : Nat) : Int) := by
  have hu : IntKind.u64.wrap T = (u64n T : Int) := by rw [IntKind.wrap_u64]; unfold u64n; omega
  have e0 : (8 * (i : Int)).toNat = 8 * i := by omega
  have e1 : min (8 * i) IntKind.u64.bits = 8 * i := by simp [IntKind.bits]; omega
  have e2 : (2 : Int) ^ (8 * i) = ((256 ^ i : Nat) : Int) := by
    have : (2 : Nat) ^ (8 * i) = 256 ^ i := by rw [Nat.pow_mul]
    rw [← this]; simp
  unfold shB
  rw [hu, e0, e1, e2, fdiv_nat, IntKind.wrap_u8]
  omega
theorem bytes_of_row0 {w : World} {v : Value} {l : List UInt8} (h : RowV 5 1 (l.length + 1) (byV l ++ [.int .u8 0]) v w) : BytesAt w v (l ++ [0]) := by
  have e1 : (l ++ [0]).length = l.length + 1 := by simp
  have e2 : byV (l ++ [0]) = byV l ++ [.int .u8 0] := by simp [byV]
  have h : w.ownsRow 0 5 1 v (l.length + 1) (byV l ++ [.int .u8 0]) := h
  rw [← e1, ← e2] at h
  exact bytes_of_row h
theorem litsN_cells {w : World} {b e k : Nat} {cs : List Value} {v : Value} (h : LitsN b e k cs v w) : ∃ A c, some v = some (.slice (some A) k c) ∧ ∀ j u, cs[j]? = some u → w.cell? (A.add j) = some u := by
  obtain ⟨g, _, rfl, h2⟩ := h
  exact ⟨⟨g, 0, none⟩, k, rfl, fun j u hu => by rw [add_none, Nat.zero_add, cell_of_row w g j _ e (0, 0) h2]; simpa using hu⟩
set_option maxHeartbeats 2000000 in
theorem sip_Pair (p q fr tt : Int) (w : World) (hp : Wd p) (hq : Wd q) : Calls Try.prog 17 #[sec p q, .int .i64 fr, .int .i64 tt] w fun e w' => e = .returned (sec (tagF p q (pairB fr tt 2)) (tagF p q (pairB fr tt 2 ++ [0]))) ∧ Below w.heap.size w w' := by
  refine calls_plain Try.func17 rfl Try.ntmps17 rfl ?_
  refine at_seq ?_
  refine at_region ?_
  refine at_boxagg rfl rfl fun gz0 => ?_
  refine at_allocagg Try.zeroValue24 rfl fun gz1 => ?_
  refine at_nil ?_
  refine at_then ?_
  refine at_seq ?_
  refine at_region ?_
  refine at_do (does_assign rfl) rfl rfl ?_
  refine at_nil ?_
  refine at_then ?_
  refine at_seq ?_
  refine at_seq ?_
  refine at_region ?_
  refine at_do (does_move rfl) rfl rfl ?_
  refine at_do (does_move rfl) rfl rfl ?_
  refine at_do (does_buildarr (cs := [.int .i64 fr, .int .i64 tt]) shapePair rfl rfl) rfl rfl ?_
  refine at_do (does_move rfl) rfl rfl ?_
  refine at_nil ?_
  refine at_then ?_
  refine at_block ?_
  rotate_left
  refine at_loopH (σ := Value × Nat) (fun s => s.2 ≤ 2) (fun s => [(3, .pointer (some ⟨gz0, 0, none⟩)), (6, .pointer (some ⟨gz1, 0, none⟩)), (7, s.1), (13, .agg #[.int .i64 fr, .int .i64 tt]), (14, .int .i64 s.2)])
    (fun s => [.row s.1 5 1 (pairB fr tt s.2).length (byV (pairB fr tt s.2)), .blk gz1 24 #[.int .u64 0, .int .u64 0], .blk gz0 24 #[.int .u64 p, .int .u64 q]]) (fun s => 2 - s.2)
    (fun w ho => ⟨(.slice none 0 0, 0), Nat.zero_le _, ⟨rfl, rfl, rfl, rfl, rfl, trivial⟩, ho.nilrow 5 1⟩) ?_
  rintro ⟨v7, k⟩ hk
  simp only at hk
  have hPL := pairB_len fr tt k
  by_cases hk2 : k < 2
  · obtain ⟨T, hT⟩ : ∃ T, T = two fr tt k := ⟨_, rfl⟩
    have hidx : (#[.int .i64 fr, .int .i64 tt] : Array Value)[k]? = some (.int .i64 T) := by
      rw [hT]
      match k, hk2 with
      | 0, _ => rfl
      | 1, _ => rfl
    have hsucc := pairB_succ fr tt k hk2
    rw [← hT] at hsucc
    generalize pairB fr tt k = l at hPL hsucc
    refine at_seq ?_
    refine at_region ?_
    refine at_do (does_lss rfl rfl) rfl rfl ?_
    refine at_nil ?_
    refine at_then ?_
    refine at_seq ?_
    refine at_cond_t rfl (decide_eq_true (by omega)) ?_
    refine at_skip ?_
    refine at_then ?_
    refine at_seq ?_
    refine at_block ?_
    refine at_seq ?_
    refine at_region ?_
    refine at_do (does_aidx (q := k) (by kernel_rfl) rfl rfl (by omega) hidx) rfl rfl ?_
    refine at_do (does_assign rfl) rfl rfl ?_
    refine at_nil ?_
    refine at_then ?_
    refine at_seq ?_
    refine at_region ?_
    refine at_do (does_move rfl) rfl rfl ?_
    refine at_nil ?_
    refine at_then ?_
    refine at_block ?_
    rotate_left
    refine at_loopH (σ := Value × Nat) (fun s => s.2 ≤ 8) (fun s => [(3, .pointer (some ⟨gz0, 0, none⟩)), (6, .pointer (some ⟨gz1, 0, none⟩)), (7, s.1), (9, .int .i64 T), (13, .agg #[.int .i64 fr, .int .i64 tt]), (14, .int .i64 k), (17, .int .i64 s.2)])
      (fun s => [.row s.1 5 1 (l.length + s.2) (byV l ++ byV (le (u64n T) s.2)), .blk gz1 24 #[.int .u64 0, .int .u64 0], .blk gz0 24 #[.int .u64 p, .int .u64 q]]) (fun s => 8 - s.2)
      (fun w ho => ⟨(v7, 0), Nat.zero_le _, ⟨rfl, rfl, rfl, rfl, rfl, rfl, rfl, trivial⟩, by
        show Own _ [.row v7 5 1 (l.length + 0) (byV l ++ []), .blk gz1 24 #[.int .u64 0, .int .u64 0], .blk gz0 24 #[.int .u64 p, .int .u64 q]] w
        rw [List.append_nil]
        exact ho⟩) ?_
    rintro ⟨v, i⟩ hi
    simp only at hi
    by_cases hi8 : i < 8
    · have hb := shB_eq T i hi8
      refine at_seq ?_
      refine at_region ?_
      refine at_do (does_lss rfl rfl) rfl rfl ?_
      refine at_nil ?_
      refine at_then ?_
      refine at_seq ?_
      refine at_cond_t rfl (decide_eq_true (by omega)) ?_
      refine at_skip ?_
      refine at_then ?_
      refine at_seq ?_
      refine at_block ?_
      refine at_seq ?_
      refine at_region ?_
      refine at_do (does_move rfl) rfl rfl ?_
      refine at_do (does_assign rfl) rfl rfl ?_
      refine at_nil ?_
      refine at_then ?_
      refine at_region ?_
      refine at_do (does_move rfl) rfl rfl ?_
      refine at_do (does_move rfl) rfl rfl ?_
      refine at_do (does_convw (k := .u64) (by kernel_rfl) (by kernel_rfl) rfl) rfl rfl ?_
      refine at_do (does_move rfl) rfl rfl ?_
      refine at_do (does_muli rfl rfl (by (first | omega | (simp only; omega)))) rfl rfl ?_
      refine at_do (does_shr rfl rfl (by (first | omega | (simp only; omega)))) rfl rfl ?_
      refine at_do (does_convw (k := .u8) (by kernel_rfl) (by kernel_rfl) rfl) rfl rfl ?_
      refine at_buildSlice (e := 5) (sz := 1) (vs := [.int .u8 (shB T i)]) (cs := [.int .u8 (shB T i)]) (by kernel_rfl) rfl rfl rfl rfl rfl rfl (fun g3 => ?_)
      refine at_append (i := 1) (sz := 1) (by' := 1) (k := 1) (A := ⟨g3, 0, none⟩) (news := [.int .u8 (shB T i)]) (by kernel_rfl) rfl rfl rfl rfl (fun w ho => lit_cells ho (i := 0) rfl) (one_of rfl) (by simp only [maxLen]; omega) rfl (fun v6 hv6 => ?_)
      refine at_do (does_assign rfl) rfl rfl ?_
      refine at_nil ?_
      refine at_inb ?_
      refine at_then ?_
      refine at_region ?_
      refine at_do (does_addi rfl rfl (by (first | omega | (simp only; omega)))) rfl rfl ?_
      refine at_do (does_move rfl) rfl rfl ?_
      refine at_nil ?_
      refine at_then ?_
      rotate_left
      refine at_againw fun w ho => ⟨(v6, i + 1), by show i + 1 ≤ 8; omega, by show 8 - (i + 1) < 8 - i; omega, ⟨rfl, rfl, rfl, rfl, rfl, rfl, rfl, trivial⟩, rfl, ?_⟩
      show Own _ [.row v6 5 1 (l.length + (i + 1)) (byV l ++ byV (le (u64n T) (i + 1))), .blk gz1 24 #[.int .u64 0, .int .u64 0], .blk gz0 24 #[.int .u64 p, .int .u64 q]] w
      rw [le_succ, ← hb, ← List.append_assoc]
      exact ho.sublist (List.sublist_cons_self ..)
    · obtain rfl : i = 8 := by omega
      refine at_seq ?_
      refine at_region ?_
      refine at_do (does_lss rfl rfl) rfl rfl ?_
      refine at_nil ?_
      refine at_then ?_
      refine at_seq ?_
      refine at_cond_f rfl (decide_eq_false (by omega)) ?_
      refine at_exit ?_
      refine at_then_exit ?_
      refine at_then_exit ?_
      refine at_inb_here ?_
      refine at_inb ?_
      refine at_then ?_
      refine at_region ?_
      refine at_do (does_addi rfl rfl (by (first | omega | (simp only; omega)))) rfl rfl ?_
      refine at_do (does_move rfl) rfl rfl ?_
      refine at_nil ?_
      refine at_then ?_
      rotate_left
      refine at_againw fun w ho => ⟨(v, k + 1), by show k + 1 ≤ 2; omega, by show 2 - (k + 1) < 2 - k; omega, ⟨rfl, rfl, rfl, rfl, rfl, trivial⟩, rfl, ?_⟩
      show Own _ [.row v 5 1 (pairB fr tt (k + 1)).length (byV (pairB fr tt (k + 1))), .blk gz1 24 #[.int .u64 0, .int .u64 0], .blk gz0 24 #[.int .u64 p, .int .u64 q]] w
      have e1 : (l ++ le (u64n T) 8).length = l.length + 8 := by simp [le_len]
      have e2 : byV (l ++ le (u64n T) 8) = byV l ++ byV (le (u64n T) 8) := by simp [byV]
      rw [hsucc, e1, e2]
      exact ho
  · obtain rfl : k = 2 := by omega
    obtain ⟨l, hl⟩ : ∃ l, l = pairB fr tt 2 := ⟨_, rfl⟩
    simp only [← hl] at hPL ⊢
    clear hl
    have hl3 : l.length ≤ 100000 := by omega
    have hl4 : (l ++ [0]).length ≤ 100000 := by simp; omega
    have cT1 : ∀ w v, BytesAt w v l → Calls Try.prog 9 #[sec p q, v] w fun e w' => e = .returned (.int .u64 (tagF p q l)) ∧ Below w.heap.size w w' := fun w v hB => sip_Tag p q v l w hp hq hB hl3
    have cT2 : ∀ w v, BytesAt w v (l ++ [0]) → Calls Try.prog 9 #[sec p q, v] w fun e w' => e = .returned (.int .u64 (tagF p q (l ++ [0]))) ∧ Below w.heap.size w w' := fun w v hB => sip_Tag p q v (l ++ [0]) w hp hq hB hl4
    generalize tagF p q l = ta at cT1 ⊢
    generalize tagF p q (l ++ [0]) = tb at cT2 ⊢
    refine at_seq ?_
    refine at_region ?_
    refine at_do (does_lss rfl rfl) rfl rfl ?_
    refine at_nil ?_
    refine at_then ?_
    refine at_seq ?_
    refine at_cond_f rfl (decide_eq_false (by omega)) ?_
    refine at_exit ?_
    refine at_then_exit ?_
    refine at_then_exit ?_
    refine at_inb_here ?_
    refine at_then ?_
    refine at_seq ?_
    rotate_left
    refine at_reW fun W1 hW1 hold => ?_
    apply at_drawR0 9 [.val _, .val _, .val _, .val _, .val _, .rel (LitsN W1.heap.size 5 1 [.int .u8 0]), .rel (RowV 5 1 (l.length + 1) (byV l ++ [.int .u8 0])), .val _, .val _] (by kernel_rfl) (by kernel_rfl) rfl ⟨trivial, trivial, trivial, trivial, trivial, litsN_stab _ _ _ _, rowV_stab _ _ _ _, trivial, trivial, trivial⟩
    · refine so_cons rfl (fun vs => ?_) ?_
      exact step1_does (does_loadagg (i := 2) (k := 2) (by kernel_rfl) rfl rfl rfl)
      refine so_cons rfl (fun vs => ?_) ?_
      exact step1_does (does_move rfl)
      refine so_cons rfl (fun vs => ?_) ?_
      exact step1_call (f := 9) (enters_fn (by kernel_rfl) rfl) (fun w ho hx => cT1 w v7 (bytes_of_row (ho.rowAt (i := 0) rfl)))
      refine so_cons rfl (fun vs => ?_) ?_
      exact step1_does (does_loadagg (i := 2) (k := 2) (by kernel_rfl) rfl rfl rfl)
      refine so_cons rfl (fun vs => ?_) ?_
      exact step1_does (does_move rfl)
      refine so_cons rfl (fun vs => ?_) ?_
      exact step1_buildSliceN (e := 5) (sz := 1) (vs := [.int .u8 0]) (cs := [.int .u8 0]) (by kernel_rfl) rfl rfl rfl rfl rfl
      refine so_turn rfl (fun vs => ?_) ?_
      rotate_left
      refine so_cons rfl (fun vs => ?_) ?_
      rotate_left
      refine so_cons rfl (fun vs => ?_) ?_
      rotate_left
      exact so_nil
      · refine stepT_append (i := 0) (e := 5) (sz := 1) (by' := 1) (k := 1) (m := l.length) (v := v7) (xs := byV l) (news := [.int .u8 0]) rfl (by kernel_rfl) rfl rfl (fun w ho hx => ?_) rfl (one_of rfl) (by simp only [maxLen]; omega) hold ⟨.inr trivial, .inr trivial, .inr trivial, .inr trivial, .inr trivial, .inr (litsN_old _ _ _ _), .inl rfl, .inr trivial, .inr trivial, trivial⟩
        exact litsN_cells (v := vs 5) hx.1
      · refine step1_call (f := 9) (args := #[sec p q, vs 6]) (v := .int .u64 (tb)) (enters_fn (vs := [sec p q, vs 6]) (by kernel_rfl) rfl) (fun w ho hx => ?_)
        have h6 : RowV 5 1 (l.length + 1) (byV l ++ [.int .u8 0]) (vs 6) w := hx.1
        exact cT2 w (vs 6) (bytes_of_row0 h6)
      · exact step1_does (does_build (cs := [.int .u64 (ta), .int .u64 (tb)]) shapeSec rfl rfl)
    · intro vs
      refine at_weak (E' := [(6, .pointer (some ⟨gz1, 0, none⟩)), (39, .agg #[.int .u64 (ta), .int .u64 (tb)])]) ⟨rfl, rfl, trivial⟩ ?_
      show At _ _ _ _ (lwp _ _ _ _ (_ :: _))
      apply at_storeagg (i := 1) (h := gz1) (tb := 24) (cs := #[.int .u64 0, .int .u64 0]) (vs := #[.int .u64 ta, .int .u64 tb])
      · kernel_rfl
      · rfl
      · rfl
      · rfl
      · rfl
      · simp
      refine at_nil ?_
      refine at_then ?_
      refine at_ret ?_
      refine at_retagg (i := 1) rfl rfl rfl (by kernel_rfl) rfl (fun w9 ho9 => ?_)
      rotate_left
      exact ⟨rfl, ho9.plain⟩
end Go.Proofs.Ythclmpbgehkgeaa.K
