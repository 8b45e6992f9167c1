/-
  What stands between strokes: key.parts, which is ranged over, and key.Parts. No condition of its own.
-/
import Derived.Test.YtchfecmabhfooaaDoorShelf
import Derived.Test.YtchfecmabhfooaaDoorKey2
import Derived.Test.YtchfecmabhfooaaDoorRange
set_option linter.unusedSimpArgs false
set_option linter.unusedVariables false
namespace Go.Proofs.YtchfecmabhfooaaDoor
open Go.RowKit
attribute [local irreducible] cwp lwp Exit.then Exit.inBlock Exit.noGoto wpQuiet Calls fin At AtQ Again endQ RQ

/-! ### The plain part -/
/-- The pieces between strokes. -/
def splitB : List UInt8 → List (List UInt8)
  | [] => [[]]
  | b :: l => if b = 47 then [] :: splitB l else match splitB l with
    | [] => [[b]]
    | p :: ps => (b :: p) :: ps
theorem splitB_cons (b : UInt8) (l : List UInt8) : splitB (b :: l) = if b = 47 then [] :: splitB l else match splitB l with
    | [] => [[b]]
    | p :: ps => (b :: p) :: ps := by rw [splitB]
theorem splitB_ne : ∀ l : List UInt8, splitB l ≠ []
  | [] => by simp [splitB]
  | b :: l => by
    unfold splitB
    split
    · simp
    · split <;> simp
theorem cut_nil : Lib.cut [] [47] = ([], [], false) := by decide
theorem index_cons (b : UInt8) (l : List UInt8) : Lib.index (b :: l) [47] = if b = 47 then 0 else if Lib.index l [47] = -1 then -1 else Lib.index l [47] + 1 := by
  rw [Lib.index]
  by_cases h : b = 47
  · subst h; simp [List.isPrefixOf]
  · have h' : ([47] : List UInt8).isPrefixOf (b :: l) = false := by
      simp [List.isPrefixOf]; exact fun e => h e.symm
    rw [h']
    simp [h]
theorem cut_split (l : List UInt8) : splitB l = (Lib.cut l [47]).1 :: (if (Lib.cut l [47]).2.2 then splitB (Lib.cut l [47]).2.1 else []) ∧ (Lib.cut l [47]).1.length ≤ l.length ∧ (Lib.cut l [47]).2.1.length ≤ l.length := by
  induction l with
  | nil => rw [cut_nil]; simp [splitB]
  | cons b l ih =>
    have hge := Lib.index_ge l [47]
    unfold Lib.cut at ih ⊢
    rw [index_cons, splitB_cons]
    by_cases hb : b = 47
    · subst hb; simp
    · rw [if_neg hb, if_neg hb]
      by_cases h1 : Lib.index l [47] = -1
      · rw [h1] at ih ⊢
        simp at ih ⊢
        rw [ih]
      · have h2 : 0 ≤ Lib.index l [47] := by omega
        have h3 : (Lib.index l [47] + 1).toNat = (Lib.index l [47]).toNat + 1 := by omega
        rw [if_pos h2] at ih
        rw [if_neg h1, if_pos (by omega), h3]
        simp only [if_true] at ih ⊢
        rw [ih.1]
        have e : (Lib.index l [47]).toNat + 1 + ([47] : List UInt8).length = (Lib.index l [47]).toNat + ([47] : List UInt8).length + 1 := by omega
        rw [e]
        have h4 := ih.2
        refine ⟨by simp, ?_, ?_⟩
        · simp; omega
        · simp; omega

def Maxl (w : World) : Prop := ∃ m : Int, w.cell? ⟨1, 0, none⟩ = some (.int .i64 m)
theorem Own.maxl {C : Ctx} {H : List Res} {w : World} (ho : Own C H w) (h : Maxl C.W) (hL : ¬ C.L 1) : Maxl w := by
  obtain ⟨m, hm⟩ := h
  have hlt := World.block_lt_of_cell? _ _ hm
  exact ⟨m, (World.cell?_of_block (ho.orig.old 1 hlt hL)).trans hm⟩
theorem cut_c {l p r : List UInt8} {m : Bool} (w : World) (hl : l.length ≤ 1000000) (hM : Maxl w) (h : Lib.cut l [47] = (p, r, m)) : Calls Tryd.prog 99 #[.string (bs l), .string (bs [47])] w fun e w' => e = .returned (.tuple #[.string (bs p), .string (bs r), .bool m]) ∧ Below w.heap.size w w' := by
  obtain ⟨k, hk⟩ := hM
  refine (Tryd.cut (bs l) (bs [47]) k w (by rw [bs_size]; omega) hk).mono fun e w' ⟨he, n, hw⟩ => ⟨?_, hw ▸ ⟨rfl, rfl, rfl, Nat.le_refl _, fun _ _ => rfl⟩⟩
  have h' : Lib.cut (bs l).data.toList (bs [47]).data.toList = (p, r, m) := h
  rw [he, h']
  rfl

/-! ### The walks -/
def strs (l : List (List UInt8)) : List Value := l.map fun s => .string (bs s)
theorem key_parts (k : List UInt8) (w : World) : Calls Tryd.prog 84 #[.string (bs k)] w fun e w' => ∃ h, e = .returned (.func (.func 98) #[] #[.pointer (some ⟨h, 0, none⟩)]) ∧ Below w.heap.size w w' ∧ w.heap.size ≤ h ∧ w'.heap[h]? = some (.cells #[.string (bs k)] 9) := by
  refine calls_plain Tryd.func84 rfl Tryd.ntmps84 rfl ?_
  refine at_seq ?_
  refine at_region ?_
  refine at_box rfl rfl rfl fun gz0 => ?_
  refine at_do (does_assign rfl) rfl rfl ?_
  refine at_nil ?_
  refine at_then ?_
  refine at_seq ?_
  refine at_region ?_
  refine at_do (does_makeFunc rfl) rfl rfl ?_
  refine at_do (does_assign rfl) rfl rfl ?_
  refine at_nil ?_
  refine at_then ?_
  refine at_ret ?_
  refine at_ret1 rfl rfl rfl (fun w9 ho9 => ?_)
  rotate_left
  exact ⟨_, rfl, ho9.plain, (ho9.blkOut (List.mem_cons_self ..)).1, (ho9.blkOut (List.mem_cons_self ..)).2⟩
theorem key_parts1 (k : List UInt8) (hk : k.length ≤ 1000000) {h tb : Nat} (w : World) (G : Nat → Prop) (hM : Maxl w) (hG : ¬ G 1) (hc : w.heap[h]? = some (.cells #[.string (bs k)] tb)) : SeqC Tryd.prog 98 [.pointer (some ⟨h, 0, none⟩)] (strs (splitB k)) G w := by
  intro l J Jx hJf hxf hst hxst hY h0
  refine calls_it G Tryd.func98 rfl Tryd.ntmps98 rfl ?_
  refine at_seq ?_
  refine at_region ?_
  refine at_do (does_load_mem (by kernel_rfl) rfl (fun w' ho => (cell_of_row w' h 0 _ tb (0, 0) ((ho.it.block h (Array.getElem?_eq_some_iff.1 hc).1).trans hc)))) rfl rfl ?_
  refine at_do (does_assign rfl) rfl rfl ?_
  refine at_do (does_assign rfl) rfl rfl ?_
  refine at_nil ?_
  refine at_then ?_
  refine at_block ?_
  rotate_left
  refine at_itloop hJf hst (fun s : Nat × Bool × List UInt8 => s.1) (fun s => (splitB k).drop s.1 = (if s.2.1 then splitB s.2.2 else []) ∧ s.1 ≤ (splitB k).length ∧ s.2.2.length ≤ k.length) (fun s => [(0, yv l), (3, .string (bs s.2.2)), (4, .bool s.2.1)]) (fun s => (splitB k).length - s.1) (0, true, k) ⟨by simp, by simp, by simp⟩ h0 ⟨rfl, rfl, rfl, trivial⟩ ?_
  rintro ⟨i, more, rest⟩ W ⟨h1, h2, h3⟩ hJ
  rcases hcut : Lib.cut rest [47] with ⟨p, r', m'⟩
  have hsp := cut_split rest
  rw [hcut] at hsp
  simp only at h1 h2 h3 hJ hsp
  refine at_seq ?_
  refine at_seq ?_
  refine at_region ?_
  refine at_do (does_move rfl) rfl rfl ?_
  refine at_nil ?_
  refine at_then ?_
  refine at_cond rfl (fun z0 => ?_) (fun z0 => ?_)
  refine at_skip ?_
  refine at_then ?_
  refine at_block ?_
  refine at_seq ?_
  refine at_region ?_
  refine at_do (does_assign rfl) rfl rfl ?_
  refine at_nil ?_
  refine at_then ?_
  refine at_seq ?_
  refine at_region ?_
  refine at_do (does_move rfl) rfl rfl ?_
  refine at_callv (f := 99) (enters_fn (by kernel_rfl) rfl) (fun w ho => cut_c (l := rest) w (by omega) (ho.maxl hM hG) hcut) rfl rfl ?_
  refine at_do (does_move rfl) rfl rfl ?_
  refine at_do (does_extract rfl rfl) rfl rfl ?_
  refine at_do (does_extract rfl rfl) rfl rfl ?_
  refine at_do (does_extract rfl rfl) rfl rfl ?_
  refine at_do (does_assign rfl) rfl rfl ?_
  refine at_do (does_assign rfl) rfl rfl ?_
  refine at_do (does_assign rfl) rfl rfl ?_
  refine at_nil ?_
  refine at_then ?_
  refine at_seq ?_
  refine at_region ?_
  refine at_do (does_move rfl) rfl rfl ?_
  refine at_do (does_move rfl) rfl rfl ?_
  rotate_left
  refine at_exit ?_
  refine at_then_exit ?_
  refine at_then_exit ?_
  refine at_inb_here ?_
  refine at_end0 rfl rfl (fun w9 ho9 => ?_)
  rotate_left
  · have hmore : more = true := z0
    rw [if_pos hmore, hsp.1] at h1
    have hlt : i < (splitB k).length := by
      rcases Nat.lt_or_ge i (splitB k).length with h | h
      · exact h
      · rw [List.drop_of_length_le h] at h1; cases h1
    have hx : (strs (splitB k))[i]? = some (.string (bs p)) := by
      have h4 : (splitB k)[i]? = some p := by
        have := congrArg (fun l => l[0]?) h1
        simpa using this
      simp [strs, h4]
    refine at_yield (i := i) (x := .string (bs p)) rfl rfl rfl hJf hxf hst hJ (fun W' hj => hY i _ W' hx hj) (fun W' hj => ?_) (fun W' hj => ?_)
    · refine at_do (does_not rfl) rfl rfl ?_
      refine at_nil ?_
      refine at_then ?_
      refine at_cond_f rfl (by rfl) ?_
      refine at_skip ?_
      refine at_inb ?_
      refine at_then ?_
      rotate_left
      refine at_againw fun w ho => ⟨((i + 1, m', r'), w), ⟨⟨?_, hlt, by show r'.length ≤ k.length; omega⟩, hst _ _ _ hj ho.it⟩, ?_, ⟨rfl, rfl, rfl, trivial⟩, rfl, itC_own (hJf _ _ (hst _ _ _ hj ho.it))⟩
      · have := congrArg (List.drop 1) h1
        simpa [List.drop_drop] using this
      · show (splitB k).length - (i + 1) < (splitB k).length - i
        omega
    · refine at_do (does_not rfl) rfl rfl ?_
      refine at_nil ?_
      refine at_then ?_
      refine at_cond_t rfl (by rfl) ?_
      refine at_ret ?_
      refine at_inb_ret ?_
      refine at_then_ret ?_
      refine at_inb_ret ?_
      refine at_ret0 rfl rfl (fun w9 ho9 => ?_)
      rotate_left
      exact ⟨⟨_, rfl⟩, .inr (hxst _ _ hj ho9.it)⟩
  · have hmore : more = false := z0
    rw [if_neg (by simp [hmore])] at h1
    have : i = (splitB k).length := by have := List.drop_eq_nil_iff.1 h1; omega
    refine ⟨⟨_, rfl⟩, .inl ?_⟩
    rw [show (strs (splitB k)).length = i by simp [strs, this]]
    exact hst _ _ _ hJ ho9.it
def partsK (k : List UInt8) : List (List UInt8) := if isK k then splitB k else []
theorem splitB_len : ∀ l : List UInt8, (splitB l).length ≤ l.length + 1
  | [] => by simp [splitB]
  | b :: l => by
    have := splitB_len l
    rw [splitB_cons]
    split
    · simp; omega
    · split
      · simp
      · rename_i h; rw [h] at this; simp at this ⊢; omega
theorem key_Parts (k : List UInt8) (hk : k.length ≤ 100000) (w : World) (hG : Glob w) (hM : Maxl w) : Calls Tryd.prog 58 #[.string (bs k)] w fun e w' => ∃ v, e = .returned v ∧ Below w.heap.size w w' ∧ w'.ownsRow w.heap.size 9 1 v (partsK k).length (strs (partsK k)) := by
  refine calls_plain Tryd.func58 rfl Tryd.ntmps58 rfl ?_
  refine at_seq ?_
  refine at_region ?_
  refine at_do (does_assign rfl) rfl rfl ?_
  refine at_nil ?_
  refine at_then ?_
  refine at_seq ?_
  refine at_seq ?_
  refine at_region ?_
  refine at_do (does_move rfl) rfl rfl ?_
  refine at_callv (f := 44) (enters_fn (by kernel_rfl) rfl) (fun w ho => key_Is _ w (ho.glob hG id)) rfl rfl ?_
  refine at_do (does_not rfl) rfl rfl ?_
  refine at_nil ?_
  refine at_then ?_
  refine at_condN rfl (fun z0 => ?_) (fun z0 => ?_)
  refine at_seq ?_
  refine at_region ?_
  refine at_do (does_assign rfl) rfl rfl ?_
  refine at_nil ?_
  refine at_then ?_
  refine at_ret ?_
  refine at_then_ret ?_
  refine at_ret1 rfl rfl rfl (fun w9 ho9 => ?_)
  rotate_left
  refine at_skip ?_
  refine at_then ?_
  refine at_seq ?_
  refine at_region ?_
  refine at_alloc rfl Tryd.zeroValue22 rfl fun gz1 => ?_
  refine at_nil ?_
  refine at_then ?_
  refine at_seq ?_
  refine at_seq ?_
  refine at_region ?_
  refine at_do (does_move rfl) rfl rfl ?_
  refine at_callblk (enters_fn (by kernel_rfl) rfl) (fun w ho => key_parts _ w) rfl rfl (fun hb => ?_)
  refine at_nil ?_
  refine at_then ?_
  refine at_block ?_
  rotate_left
  · have hp : partsK k = [] := by simp [partsK, z0]
    rw [hp]
    exact ⟨_, rfl, ho9.plain, World.ownsRow_nil _ _ _ _⟩
  · have hp : partsK k = splitB k := by simp [partsK, z0]
    have hlen := splitB_len k
    refine at_nilrow 9 1 ?_
    refine at_range (σ := Value) (xs := strs (splitB k)) (fun i v => True) (fun i v => [.row v 9 1 i ((strs (splitB k)).take i), .blk hb 9 #[.string (bs k)], .blk gz1 22 #[v]]) (fun _ _ => False) (fun _ _ => []) (.slice none 0 0) trivial rfl rfl (by kernel_rfl) rfl rfl ?_ ?_ ?_ ?_
    · intro W1 G hGG hW1
      obtain ⟨m, hm⟩ := hW1.maxl hM id
      obtain ⟨o, ho, hl⟩ := obj_of_cell hm
      obtain ⟨m', hm'⟩ := hM
      exact key_parts1 k (by omega) W1 G ⟨m, hm⟩ (hW1.notG hGG (World.block_lt_of_cell? _ _ hm') id ho hl) (hW1.get (i := 1) rfl)
    · intro l i x v W hx _ hW
      obtain ⟨p, hpi, rfl⟩ : ∃ p, (splitB k)[i]? = some p ∧ x = .string (bs p) := by
        simp only [strs, List.getElem?_map, Option.map_eq_some_iff] at hx
        obtain ⟨p, h1, h2⟩ := hx
        exact ⟨p, h1, h2.symm⟩
      have hi : i < (splitB k).length := (List.getElem?_eq_some_iff.1 hpi).1
      have htk : (strs (splitB k)).take (i + 1) = (strs (splitB k)).take i ++ [.string (bs p)] := by
        rw [List.take_add_one, hx]; rfl
      refine at_block ?_
      refine at_region ?_
      refine at_do (does_load (i := 2) (by kernel_rfl) rfl rfl rfl) rfl rfl ?_
      refine at_do (does_move rfl) rfl rfl ?_
      refine at_buildSlice (e := 9) (sz := 1) (cs := [.string (bs p)]) (by kernel_rfl) rfl (by kernel_rfl) rfl (by kernel_rfl) rfl rfl (fun hl => ?_)
      refine at_append (i := 1) (e := 9) (sz := 1) (by' := 16) (m := i) (news := [.string (bs p)]) (by kernel_rfl) rfl rfl rfl rfl (fun w ho => lit_cells ho (i := 0) rfl) (by intro u hu; simp at hu; subst hu; rfl) (by simp only [maxLen]; omega) rfl (fun v' hv' => ?_)
      refine at_store (i := 3) (by kernel_rfl) rfl rfl (by assumption) rfl rfl ?_
      refine at_nil ?_
      refine at_inb ?_
      rotate_left
      refine at_drop (H' := [.row v' 9 1 (i + 1) ((strs (splitB k)).take i ++ [.string (bs p)]), .blk hb 9 #[.string (bs k)], .blk gz1 22 #[v']]) (List.sublist_cons_self _ _) ?_
      exact at_next v' trivial (by rw [htk])
    · intro D v _
      refine at_inb ?_
      refine at_then ?_
      refine at_seq ?_
      refine at_region ?_
      refine at_do (does_load (i := 2) (by kernel_rfl) rfl rfl rfl) rfl rfl ?_
      refine at_do (does_assign rfl) rfl rfl ?_
      refine at_nil ?_
      refine at_then ?_
      refine at_ret ?_
      refine at_retm1 rfl rfl (fun w9 ho9 => ?_)
      rotate_left
      refine ⟨_, rfl, ho9.plain, ?_⟩
      have h := ho9.rowOut (List.mem_cons_self ..)
      have e : (strs (splitB k)).length = (splitB k).length := by simp [strs]
      rw [List.take_of_length_le (Nat.le_refl _), e] at h
      rw [hp]
      exact h
    · intro D c s h
      exact h.elim
end Go.Proofs.YtchfecmabhfooaaDoor
