/-
  The reference's parts of a key; parts joined. No condition of its own.
-/
import Derived.Test.YtchfecmabhfooaaDoorKey5
import Derived.Test.YtchfecmabhfooaaDoorVals
import Derived.Test.YtchfecmabhfooaaDoorShelfJ
set_option linter.unusedSimpArgs false
set_option linter.unusedVariables false
namespace Go.Proofs.YtchfecmabhfooaaDoor
open Go.RowKit
attribute [local irreducible] cwp lwp Exit.then Exit.inBlock Exit.noGoto wpQuiet Calls fin At AtQ Again endQ RQ

theorem strs_one (l : List (List UInt8)) : ∀ u ∈ strs l, u.oneCell' = true := by
  intro u hu
  obtain ⟨b, _, rfl⟩ := List.mem_map.1 hu
  rfl
def app (p : List UInt8) : List (List UInt8) → List (List UInt8)
  | q :: qs => (p ++ q) :: qs
  | [] => [p]
theorem app_slash (p l : List UInt8) : app p (splitB (47 :: l)) = p :: splitB l := by
  rw [splitB_cons, if_pos rfl]; simp [app]
theorem app_nil (l : List UInt8) : app [] (splitB l) = splitB l := by
  cases h : splitB l with
  | nil => exact absurd h (splitB_ne l)
  | cons q qs => rfl
theorem app_byte (p l : List UInt8) (b : UInt8) (h : b ≠ 47) : app p (splitB (b :: l)) = app (p ++ [b]) (splitB l) := by
  rw [splitB_cons, if_neg h]
  cases hs : splitB l with
  | nil => exact absurd hs (splitB_ne l)
  | cons q qs => simp [app]
theorem byt_drop {k : List UInt8} {i : Nat} (h : i < k.length) : byt k i = 47 ↔ k[i] = 47 := by
  unfold byt
  rw [List.getD_eq_getElem?_getD, List.getElem?_eq_getElem h, Option.getD_some]
  constructor
  · intro hh
    apply UInt8.toNat_inj.1
    have : (47 : UInt8).toNat = 47 := rfl
    omega
  · intro hh
    rw [hh]; rfl
theorem one_byte {k : List UInt8} {i : Nat} (h : i < k.length) : (k.take (i + 1)).drop i = [k[i]] := by
  rw [List.take_succ_eq_append_getElem h, List.drop_left' (by simp; omega)]
set_option maxRecDepth 100000 in
set_option maxHeartbeats 4000000 in
theorem ref_Parts (k : List UInt8) (hk : k.length ≤ 1000) (w : World) : Calls Tryd.prog 59 #[.string (bs k)] w fun e w' => ∃ v, e = .returned v ∧ Below w.heap.size w w' ∧ w'.ownsRow w.heap.size 9 1 v (splitB k).length (strs (splitB k)) := by
  refine calls_plain Tryd.func59 rfl Tryd.ntmps59 rfl ?_
  refine at_seq ?_
  refine at_region ?_
  refine at_do (does_assign rfl) rfl rfl ?_
  refine at_nil ?_
  refine at_then ?_
  refine at_seq ?_
  refine at_region ?_
  refine at_do (does_assign rfl) rfl rfl ?_
  refine at_nil ?_
  refine at_then ?_
  refine at_seq ?_
  refine at_region ?_
  refine at_do (does_assign rfl) rfl rfl ?_
  refine at_nil ?_
  refine at_then ?_
  refine at_seq ?_
  refine at_seq ?_
  refine at_region ?_
  refine at_do (does_assign rfl) rfl rfl ?_
  refine at_nil ?_
  refine at_then ?_
  refine at_block ?_
  rotate_left
  refine at_loopH (σ := Value × List (List UInt8) × List UInt8 × Nat) (fun s => s.2.1 ++ app s.2.2.1 (splitB (k.drop s.2.2.2)) = splitB k ∧ s.2.1.length ≤ s.2.2.2 ∧ s.2.2.1.length ≤ s.2.2.2 ∧ s.2.2.2 ≤ k.length)
    (fun s => [(0, .string (bs k)), (3, s.1), (4, .string (bs s.2.2.1)), (5, .int .i64 s.2.2.2)]) (fun s => [.row s.1 9 1 s.2.1.length (strs s.2.1)]) (fun s => k.length - s.2.2.2)
    (fun w ho => ⟨(.slice none 0 0, [], [], 0), ⟨by simp [app_nil], by simp, by simp, by simp⟩, ⟨rfl, rfl, rfl, rfl, trivial⟩, ho.nilrow 9 1⟩) ?_
  rintro ⟨v3, L, p, i⟩ ⟨hI, hL, hp, hi⟩
  simp only at hI hL hp hi
  by_cases hik : i < k.length
  · have hd : k.drop i = k[i] :: k.drop (i + 1) := List.drop_eq_getElem_cons hik
    have hone := one_byte hik
    by_cases hb : k[i] = 47
    · have hb' : byt k (i : Int).toNat = 47 := (byt_drop hik).2 hb
      rw [hd, hb, app_slash] at hI
      refine at_seq ?_
      refine at_seq ?_
      refine at_region ?_
      refine at_do (does_move rfl) rfl rfl ?_
      refine at_do (does_move rfl) rfl rfl ?_
      refine at_do (does_slen (by kernel_rfl) rfl) rfl rfl ?_
      refine at_do (does_lss rfl rfl) rfl rfl ?_
      refine at_nil ?_
      refine at_then ?_
      refine at_cond_t rfl (decide_eq_true (by (simp only; omega))) ?_
      refine at_skip ?_
      refine at_then ?_
      refine at_seq ?_
      refine at_block ?_
      refine at_seq ?_
      refine at_region ?_
      refine at_do (does_move rfl) rfl rfl ?_
      refine at_do (does_move rfl) rfl rfl ?_
      refine at_do (does_sidx (by kernel_rfl) rfl rfl (by (first | omega | (simp only; omega)))) rfl rfl ?_
      refine at_do (does_eql rfl rfl) rfl rfl ?_
      refine at_nil ?_
      refine at_then ?_
      refine at_cond_t rfl (decide_eq_true (by omega)) ?_
      refine at_seq ?_
      refine at_region ?_
      refine at_do (does_move rfl) rfl rfl ?_
      refine at_do (does_move rfl) rfl rfl ?_
      refine at_buildSlice (e := 9) (sz := 1) (vs := [.string (bs p)]) (cs := [.string (bs p)]) (by kernel_rfl) rfl rfl rfl rfl rfl rfl (fun g => ?_)
      refine at_append (i := 1) (sz := 1) (by' := 16) (k := 1) (A := ⟨g, 0, none⟩) (news := [.string (bs p)]) (by kernel_rfl) rfl rfl rfl rfl (fun w ho => lit_cells ho (i := 0) rfl) (oneCell_of rfl) (by simp only [maxLen]; omega) rfl (fun v4 hv4 => ?_)
      refine at_do (does_assign rfl) rfl rfl ?_
      refine at_nil ?_
      refine at_then ?_
      refine at_region ?_
      refine at_do (does_assign rfl) rfl rfl ?_
      refine at_nil ?_
      refine at_inb ?_
      refine at_then ?_
      refine at_region ?_
      refine at_do (does_move rfl) rfl rfl ?_
      refine at_do (does_addi rfl rfl (by (first | omega | (simp only; omega)))) rfl rfl ?_
      refine at_do (does_assign rfl) rfl rfl ?_
      refine at_nil ?_
      refine at_then ?_
      rotate_left
      refine at_againw fun w ho => ⟨(v4, L ++ [p], [], i + 1), ⟨by show (L ++ [p]) ++ app [] (splitB (k.drop (i + 1))) = splitB k; rw [app_nil, ← hI]; simp, by show (L ++ [p]).length ≤ i + 1; simp; omega, by simp, by show i + 1 ≤ k.length; omega⟩, by show k.length - (i + 1) < k.length - i; omega, ⟨rfl, rfl, rfl, rfl, trivial⟩, rfl, ?_⟩
      show Own _ [.row v4 9 1 (L ++ [p]).length (strs (L ++ [p]))] w
      have e1 : (L ++ [p]).length = L.length + 1 := by simp
      have e2 : strs (L ++ [p]) = strs L ++ [.string (bs p)] := by simp [strs]
      rw [e1, e2]
      exact ho.sublist (List.sublist_cons_self ..)
    · have hb' : ¬ byt k (i : Int).toNat = 47 := fun h => hb ((byt_drop hik).1 h)
      rw [hd, app_byte _ _ _ hb] at hI
      have hsl : 0 ≤ (i : Int) ∧ (i : Int) ≤ (i : Int) + 1 ∧ (i : Int) + 1 ≤ k.length := by omega
      have hlen : p.length + ((k.take ((i : Int) + 1).toNat).drop (i : Int).toNat).length ≤ 9223372036854775807 := by simp only [List.length_drop, List.length_take]; omega
      refine at_seq ?_
      refine at_seq ?_
      refine at_region ?_
      refine at_do (does_move rfl) rfl rfl ?_
      refine at_do (does_move rfl) rfl rfl ?_
      refine at_do (does_slen (by kernel_rfl) rfl) rfl rfl ?_
      refine at_do (does_lss rfl rfl) rfl rfl ?_
      refine at_nil ?_
      refine at_then ?_
      refine at_cond_t rfl (decide_eq_true (by (simp only; omega))) ?_
      refine at_skip ?_
      refine at_then ?_
      refine at_seq ?_
      refine at_block ?_
      refine at_seq ?_
      refine at_region ?_
      refine at_do (does_move rfl) rfl rfl ?_
      refine at_do (does_move rfl) rfl rfl ?_
      refine at_do (does_sidx (by kernel_rfl) rfl rfl (by (first | omega | (simp only; omega)))) rfl rfl ?_
      refine at_do (does_eql rfl rfl) rfl rfl ?_
      refine at_nil ?_
      refine at_then ?_
      refine at_cond_f rfl (decide_eq_false (by omega)) ?_
      refine at_region ?_
      refine at_do (does_move rfl) rfl rfl ?_
      refine at_do (does_move rfl) rfl rfl ?_
      refine at_do (does_move rfl) rfl rfl ?_
      refine at_do (does_move rfl) rfl rfl ?_
      refine at_do (does_addi rfl rfl (by (first | omega | (simp only; omega)))) rfl rfl ?_
      refine at_do (does_sslice (by kernel_rfl) rfl rfl rfl hsl) rfl rfl ?_
      refine at_do (does_sadd rfl rfl hlen) rfl rfl ?_
      refine at_do (does_assign rfl) rfl rfl ?_
      refine at_nil ?_
      refine at_inb ?_
      refine at_then ?_
      refine at_region ?_
      refine at_do (does_move rfl) rfl rfl ?_
      refine at_do (does_addi rfl rfl (by (first | omega | (simp only; omega)))) rfl rfl ?_
      refine at_do (does_assign rfl) rfl rfl ?_
      refine at_nil ?_
      refine at_then ?_
      rotate_left
      refine at_againw fun w ho => ⟨(v3, L, p ++ [k[i]], i + 1), ⟨hI, by show L.length ≤ i + 1; omega, by show (p ++ [k[i]]).length ≤ i + 1; simp; omega, by show i + 1 ≤ k.length; omega⟩, by show k.length - (i + 1) < k.length - i; omega, ⟨rfl, rfl, ?_, rfl, trivial⟩, rfl, ho⟩
      show some (Value.string (bs (p ++ (k.take ((i : Int) + 1).toNat).drop (i : Int).toNat))) = some (Value.string (bs (p ++ [k[i]])))
      rw [show ((i : Int) + 1).toNat = i + 1 by omega, show (i : Int).toNat = i by omega, hone]
  · obtain rfl : i = k.length := by omega
    rw [List.drop_length] at hI
    have hend : L ++ [p] = splitB k := by rw [← hI]; simp [app, splitB]
    refine at_seq ?_
    refine at_seq ?_
    refine at_region ?_
    refine at_do (does_move rfl) rfl rfl ?_
    refine at_do (does_move rfl) rfl rfl ?_
    refine at_do (does_slen (by kernel_rfl) rfl) rfl rfl ?_
    refine at_do (does_lss rfl rfl) rfl rfl ?_
    refine at_nil ?_
    refine at_then ?_
    refine at_cond_f rfl (decide_eq_false (by (simp only; omega))) ?_
    refine at_exit ?_
    refine at_then_exit ?_
    refine at_then_exit ?_
    refine at_inb_here ?_
    refine at_then ?_
    refine at_seq ?_
    refine at_region ?_
    refine at_do (does_move rfl) rfl rfl ?_
    refine at_do (does_move rfl) rfl rfl ?_
    refine at_buildSlice (e := 9) (sz := 1) (vs := [.string (bs p)]) (cs := [.string (bs p)]) (by kernel_rfl) rfl rfl rfl rfl rfl rfl (fun g => ?_)
    refine at_append (i := 1) (sz := 1) (by' := 16) (k := 1) (A := ⟨g, 0, none⟩) (news := [.string (bs p)]) (by kernel_rfl) rfl rfl rfl rfl (fun w ho => lit_cells ho (i := 0) rfl) (oneCell_of rfl) (by simp only [maxLen]; omega) rfl (fun v4 hv4 => ?_)
    refine at_do (does_assign rfl) rfl rfl ?_
    refine at_nil ?_
    refine at_then ?_
    refine at_ret ?_
    refine at_ret1 rfl rfl rfl (fun w9 ho9 => ?_)
    rotate_left
    refine ⟨v4, rfl, ho9.plain, ?_⟩
    have e1 : (splitB k).length = L.length + 1 := by rw [← hend]; simp
    have e2 : strs (splitB k) = strs L ++ [.string (bs p)] := by rw [← hend]; simp [strs]
    rw [e1, e2]
    exact ho9.rowOut (List.mem_cons_of_mem _ (List.mem_cons_self ..))
def joinB (L : List (List UInt8)) : List UInt8 := Lib.join L [47]
theorem str_Join (arg : Value) (L : List (List UInt8)) (w : World) (hB : ValsAt w arg (strs L)) (hn : L.length ≤ 100000) (hl : (joinB L).length ≤ 10000000) :
    Calls Tryd.prog 83 #[arg, .string (bs [47])] w fun e w' => e = .returned (.string (bs (joinB L))) ∧ Below w.heap.size w w' := by
  by_cases h0 : L = []
  · subst h0
    obtain ⟨A, c, rfl⟩ := hB.len
    exact (Tryd.join0 A c (bs [47]) w).mono fun e w' ⟨h1, h2⟩ => ⟨h1, h2 ▸ Below.refl _ _⟩
  · have hpos : 0 < (strs L).length := by simp [strs]; exact List.length_pos_iff.2 h0
    obtain ⟨gb, o, c, rfl, hc, hlt, hcell⟩ := hB.form hpos
    have e1 : (strs L).length = (L.map bs).length := by simp [strs]
    have e2 : (L.map bs).map (·.data.toList) = L := by
      rw [List.map_map]
      exact List.map_id'' (fun x => bs_data x) L
    rw [e1] at hc ⊢
    have := Tryd.join gb o c (L.map bs) (bs [47]) w (fun j x hx => hcell j _ (by
      simp only [List.getElem?_map, Option.map_eq_some_iff] at hx
      obtain ⟨y, hy, rfl⟩ := hx
      simp [strs, hy])) hlt (by simp; omega) hc (by rw [e2]; show (joinB L).length ≤ _; omega)
    rw [e2] at this
    exact this
theorem key_Join_t (arg : Value) (L : List (List UInt8)) (w : World) (hG : Glob w) (hB : ValsAt w arg (strs L)) (hn : L.length ≤ 100000) (hl : (joinB L).length ≤ 10000000) (h : isK (joinB L) = true) :
    Calls Tryd.prog 57 #[arg] w fun e w' => e = .returned (.tuple #[.string (bs (joinB L)), .int .i64 0]) ∧ Below w.heap.size w w' := by
  have cJ : ∀ w1, Below w.heap.size w w1 → Calls Tryd.prog 83 #[arg, .string (bs [47])] w1 fun e w' => e = .returned (.string (bs (joinB L))) ∧ Below w1.heap.size w1 w' := fun w1 hb => str_Join arg L w1 (hB.keep hb) hn hl
  generalize joinB L = s at cJ h
  refine calls_plain Tryd.func57 rfl Tryd.ntmps57 rfl ?_
  refine at_seq ?_
  refine at_region ?_
  refine at_do (does_assign rfl) rfl rfl ?_
  refine at_do (does_assign rfl) rfl rfl ?_
  refine at_nil ?_
  refine at_then ?_
  refine at_seq ?_
  refine at_region ?_
  refine at_do (does_move rfl) rfl rfl ?_
  refine at_callv (f := 83) (enters_fn (by kernel_rfl) rfl) (fun w ho => cJ w ho.plain) rfl rfl ?_
  refine at_do (does_assign rfl) rfl rfl ?_
  refine at_nil ?_
  refine at_then ?_
  refine at_seq ?_
  refine at_seq ?_
  refine at_region ?_
  refine at_do (does_move rfl) rfl rfl ?_
  refine at_callv (f := 44) (enters_fn (by kernel_rfl) rfl) (fun w ho => key_Is s w (ho.glob hG id)) rfl rfl ?_
  refine at_do (does_not rfl) rfl rfl ?_
  refine at_nil ?_
  refine at_then ?_
  refine at_cond_f rfl (by (rw [h]; rfl)) ?_
  refine at_skip ?_
  refine at_then ?_
  refine at_seq ?_
  refine at_region ?_
  refine at_do (does_move rfl) rfl rfl ?_
  refine at_do (does_assign rfl) rfl rfl ?_
  refine at_do (does_assign rfl) rfl rfl ?_
  refine at_nil ?_
  refine at_then ?_
  refine at_ret ?_
  refine at_ret2 rfl rfl rfl rfl (fun w9 ho9 => ?_)
  rotate_left
  exact ⟨rfl, ho9.plain⟩
theorem key_Join_f (arg : Value) (L : List (List UInt8)) (w : World) (hG : Glob w) (hB : ValsAt w arg (strs L)) (hn : L.length ≤ 100000) (hl : (joinB L).length ≤ 10000000) (h : isK (joinB L) = false) :
    Calls Tryd.prog 57 #[arg] w fun e w' => e = .returned (.tuple #[.string (bs []), .int .i64 3]) ∧ Below w.heap.size w w' := by
  have cJ : ∀ w1, Below w.heap.size w w1 → Calls Tryd.prog 83 #[arg, .string (bs [47])] w1 fun e w' => e = .returned (.string (bs (joinB L))) ∧ Below w1.heap.size w1 w' := fun w1 hb => str_Join arg L w1 (hB.keep hb) hn hl
  generalize joinB L = s at cJ h
  refine calls_plain Tryd.func57 rfl Tryd.ntmps57 rfl ?_
  refine at_seq ?_
  refine at_region ?_
  refine at_do (does_assign rfl) rfl rfl ?_
  refine at_do (does_assign rfl) rfl rfl ?_
  refine at_nil ?_
  refine at_then ?_
  refine at_seq ?_
  refine at_region ?_
  refine at_do (does_move rfl) rfl rfl ?_
  refine at_callv (f := 83) (enters_fn (by kernel_rfl) rfl) (fun w ho => cJ w ho.plain) rfl rfl ?_
  refine at_do (does_assign rfl) rfl rfl ?_
  refine at_nil ?_
  refine at_then ?_
  refine at_seq ?_
  refine at_seq ?_
  refine at_region ?_
  refine at_do (does_move rfl) rfl rfl ?_
  refine at_callv (f := 44) (enters_fn (by kernel_rfl) rfl) (fun w ho => key_Is s w (ho.glob hG id)) rfl rfl ?_
  refine at_do (does_not rfl) rfl rfl ?_
  refine at_nil ?_
  refine at_then ?_
  refine at_cond_t rfl (by (rw [h]; rfl)) ?_
  refine at_seq ?_
  refine at_region ?_
  refine at_do (does_assign rfl) rfl rfl ?_
  refine at_do (does_assign rfl) rfl rfl ?_
  refine at_nil ?_
  refine at_then ?_
  refine at_ret ?_
  refine at_then_ret ?_
  refine at_ret2 rfl rfl rfl rfl (fun w9 ho9 => ?_)
  rotate_left
  exact ⟨rfl, ho9.plain⟩
end Go.Proofs.YtchfecmabhfooaaDoor
