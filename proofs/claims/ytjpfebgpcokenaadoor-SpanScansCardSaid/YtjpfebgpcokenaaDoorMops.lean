/-
  What the operations on memory do: loads, stores, new blocks, addresses. No condition of its own.
-/
import Derived.Test.YtjpfebgpcokenaaDoorOps
set_option linter.unusedSimpArgs false
set_option linter.unusedVariables false
namespace Go.Proofs.YtjpfebgpcokenaaDoor
open Go.RowKit

section
variable {P : Program} {r : Option Nat} {n : Nat} {E E' : List (Nat × Value)} {C : Ctx} {H : List Res} {Q : Exit → Act → World → Prop} {K : Act → World → Prop} {ops : Array Oper} {rest : List Oper}
variable {dst : Option Tmp} {ty : TypeId} {pos : String} {after : Array Edge} {g : Option (Nat × Bool)} {x y z : Operand} {t xT yT : TypeId}

def plainT (P : Program) (t : TypeId) : Bool := match P.underlying t with
  | some (.struct _) | some (.array _ _) | none => false
  | _ => true
def aggT (P : Program) (t : TypeId) : Option Nat := match P.underlying t with
  | some (.struct _) | some (.array _ _) => (P.info? t).map (·.size)
  | _ => none
theorem run_isAgg_plain (h : plainT P t = true) (w : World) : (isAgg t).run P w = .ok false w := by
  unfold plainT at h
  unfold isAgg
  split at h
  all_goals first | (cases h; done) | skip
  cases hu : P.underlying t with
  | none => simp_all
  | some d =>
    cases d <;> simp_all [go_sem, run_underlying hu]
theorem run_isAgg_agg {k : Nat} (h : aggT P t = some k) (w : World) : (isAgg t).run P w = .ok true w := by
  unfold aggT at h
  unfold isAgg
  split at h
  · rename_i hu; simp [go_sem, run_underlying hu]
  · rename_i hu; simp [go_sem, run_underlying hu]
  · cases h
theorem run_sizeOf_agg {k : Nat} (h : aggT P t = some k) (w : World) : (sizeOf t).run P w = .ok k w := by
  unfold aggT at h
  split at h
  all_goals first | (cases h; done) | skip
  all_goals
    obtain ⟨i, hi, rfl⟩ := Option.map_eq_some_iff.1 h
    simp [sizeOf, typeInfo, go_sem, hi]
theorem does_load_mem {p : Addr} {v : Value} (hT : plainT P t = true) (hx : ev E x = some (.pointer (some p))) (hc : ∀ w, Own C H w → w.cell? p = some v) : Does P n E C H ⟨dst, .load t x, ty, pos, after, g⟩ v := by
  intro a w hf ho
  simp only [execOp, hf.eval hx]
  simp [go_sem, Instr.loadAt, Instr.sureAddr, loadVar, run_isAgg_plain hT, hc w ho]
theorem does_load {h j i : Nat} {tb : TypeId} {cs : Array Value} {v : Value} (hT : plainT P t = true) (hx : ev E x = some (.pointer (some ⟨h, j, none⟩))) (hi : H[i]? = some (.blk h tb cs)) (hv : cs[j]? = some v) : Does P n E C H ⟨dst, .load t x, ty, pos, after, g⟩ v :=
  does_load_mem hT hx fun w ho => (ho.cell hi j).trans hv
theorem does_loadagg {h i k : Nat} {tb : TypeId} {cs : Array Value} (hT : aggT P t = some k) (hx : ev E x = some (.pointer (some ⟨h, 0, none⟩))) (hi : H[i]? = some (.blk h tb cs)) (hk : cs.size = k) : Does P n E C H ⟨dst, .load t x, ty, pos, after, g⟩ (.agg cs) := by
  intro a w hf ho
  simp only [execOp, hf.eval hx]
  have h1 : (loadCells ⟨h, 0, none⟩ cs.toList.length).run P w = .ok cs.toList.toArray w := run_loadCells_list w _ cs.toList fun j v hv => by
    have := ho.cell hi j
    have hadd : (⟨h, 0, none⟩ : Addr).add j = ⟨h, j, none⟩ := by unfold Addr.add; split <;> simp_all
    rw [hadd, this]; simpa using hv
  simp at h1
  rw [hk] at h1
  simp only [loadCells] at h1
  simp [go_sem, Instr.loadAt, Instr.sureAddr, loadVar, run_isAgg_agg hT, run_sizeOf_agg hT, h1]
/-- A struct or an array out of memory that is known cell by cell. -/
theorem does_loadagg_mem {p : Addr} {vs : List Value} (hT : aggT P t = some vs.length) (hx : ev E x = some (.pointer (some p))) (hc : ∀ w, Own C H w → ∀ j v, vs[j]? = some v → w.cell? (p.add j) = some v) : Does P n E C H ⟨dst, .load t x, ty, pos, after, g⟩ (.agg vs.toArray) := by
  intro a w hf ho
  simp only [execOp, hf.eval hx]
  have h1 : (loadCells p vs.length).run P w = .ok vs.toArray w := run_loadCells_list w _ vs (hc w ho)
  simp only [loadCells] at h1
  simp [go_sem, Instr.loadAt, Instr.sureAddr, loadVar, run_isAgg_agg hT, run_sizeOf_agg hT, h1]

def sizeT (P : Program) (t : TypeId) : Option Nat := (P.info? t).map (·.size)
theorem run_sizeT {k : Nat} (h : sizeT P t = some k) (w : World) : (sizeOf t).run P w = .ok k w := by
  unfold sizeT at h
  obtain ⟨i, hi, rfl⟩ := Option.map_eq_some_iff.1 h
  simp [sizeOf, typeInfo, go_sem, hi]
theorem cells_one {v : Value} (h : v.oneCell' = true) : v.cells = #[v] := by cases v <;> first | rfl | cases h
theorem at_store {h j i : Nat} {tb : TypeId} {cs : Array Value} {v : Value} (hT : sizeT P t = some 1) (hx : ev E x = some (.pointer (some ⟨h, j, none⟩))) (hy : ev E y = some v) (h1 : v.oneCell' = true) (hi : H[i]? = some (.blk h tb cs)) (hj : Nat.blt j cs.size = true)
    (k : At n E C (H.set i (.blk h tb (cs.setIfInBounds j v))) (lwp r P ops Q rest)) : At n E C H (lwp r P ops Q (⟨none, .store t x y, ty, pos, after, none⟩ :: rest)) := by
  refine at_skipop (H' := H.set i (.blk h tb (cs.setIfInBounds j v))) ?_ rfl rfl rfl k
  intro a w hf ho
  refine ⟨w.setCell ⟨h, j, none⟩ v, ?_, ho.put hi j v⟩
  have hlt : j < cs.size := by simpa [Nat.blt_eq] using hj
  have hc := ho.cell hi j
  rw [Array.getElem?_eq_getElem hlt] at hc
  have hfr := ho.free hi j
  simp only [execOp, hf.eval hx, hf.eval hy]
  have hst : (storeCells ⟨h, j, none⟩ [v]).run P w = .ok () (w.setCell ⟨h, j, none⟩ v) := by
    cases v <;> first | (cases h1; done) | simp [storeCells, store, go_sem, hc, hfr, Addr.add, Sem.run]
  have hc1 := cells_one h1
  have hsv : (storeVar t ⟨h, j, none⟩ v).run P w = .ok () (w.setCell ⟨h, j, none⟩ v) := by
    simp only [storeVar, hc1]
    simp [Sem.run_bind, run_sizeT hT]
    exact hst
  have hsa : (Instr.storeAt t (.pointer (some ⟨h, j, none⟩)) v).run P w = .ok () (w.setCell ⟨h, j, none⟩ v) := hsv
  simp only [Sem.run_bind, hsa, Result.andThen]
  rfl
/-- A whole block stored anew: a struct. -/
theorem Own.whole {w : World} (h : Own C H w) {i : Nat} {gg : Nat} {tt : TypeId} {cs vs : Array Value} (hi : H[i]? = some (.blk gg tt cs)) (hs : cs.size = vs.size) :
    Own C (H.set i (.blk gg tt vs)) (w.setRow gg vs) := by
  have hlt : i < H.length := (List.getElem?_eq_some_iff.1 hi).1
  have hsp : H = H.take i ++ .blk gg tt cs :: H.drop (i + 1) := by
    rw [← (List.getElem?_eq_some_iff.1 hi).2, List.getElem_cons_drop, List.take_append_drop]
  have hset : H.set i (.blk gg tt vs) = H.take i ++ .blk gg tt vs :: H.drop (i + 1) := List.set_eq_take_append_cons_drop.trans (by simp [hlt])
  have hb : bls (H.set i (.blk gg tt vs)) = bls H := by
    rw [hset]
    conv => rhs; rw [hsp]
    simp [bls_append, bls_cons, Res.blocks]
  have hne := Own.split (hsp ▸ h) gg (by simp [Res.blocks])
  have hg : gg ∈ bls H := mem_bls.2 ⟨_, List.mem_of_getElem? hi, by simp [Res.blocks]⟩
  have hrow := h.get hi
  have hfar : ∀ k, k ≠ gg → (w.setRow gg vs).heap[k]? = w.heap[k]? := fun k hk => by
    simp only [World.setRow, Array.getElem?_modify]
    rw [if_neg (fun e => hk e.symm)]
  refine h.turn ⟨rfl, rfl, rfl, by simp [World.setRow], fun k hk hn => hfar k (fun e => hn (e ▸ hg))⟩ ?_ (hb ▸ h.nodup) (fun k hk => .inl (hb ▸ hk))
  intro r hr
  rw [hset] at hr
  rcases List.mem_append.1 hr with hr | hr
  · exact ok_same (h.ok r (by rw [hsp]; exact List.mem_append_left _ hr)) (by simp [World.setRow]) fun k hk => hfar k fun e => hne.1 (mem_bls.2 ⟨r, hr, e ▸ hk⟩)
  · rcases List.mem_cons.1 hr with rfl | hr
    · show (w.setRow gg vs).heap[gg]? = _
      simp [World.setRow, Array.getElem?_modify, hrow]
    · exact ok_same (h.ok r (by rw [hsp]; exact List.mem_append_right _ (List.mem_cons_of_mem _ hr))) (by simp [World.setRow]) fun k hk => hfar k fun e => hne.2 (mem_bls.2 ⟨r, hr, e ▸ hk⟩)
theorem at_storeagg {h i : Nat} {tb : TypeId} {cs vs : Array Value} (hT : sizeT P t = some vs.size) (hx : ev E x = some (.pointer (some ⟨h, 0, none⟩))) (hy : ev E y = some (.agg vs)) (h1 : (vs.toList.all (·.oneCell')) = true) (hi : H[i]? = some (.blk h tb cs)) (hj : cs.size = vs.size)
    (k : At n E C (H.set i (.blk h tb vs)) (lwp r P ops Q rest)) : At n E C H (lwp r P ops Q (⟨none, .store t x y, ty, pos, after, none⟩ :: rest)) := by
  refine at_skipop (H' := H.set i (.blk h tb vs)) ?_ rfl rfl rfl k
  intro a w hf ho
  have hrow := ho.get hi
  have hst := run_storeCells_at P h 0 tb vs.toList 0 cs w hrow (by simp [hj]) (fun v hv => List.all_eq_true.1 h1 v hv)
  have hdrop : cs.toList.drop vs.size = [] := List.drop_eq_nil_iff.2 (by simp [hj])
  refine ⟨w.setRow h vs, ?_, ho.whole hi hj⟩
  simp only [execOp, hf.eval hx, hf.eval hy]
  simp only [Instr.storeAt, Instr.sureAddr, storeVar, Value.cells]
  simp [hdrop] at hst
  simp [go_sem, run_sizeT hT, hst]

theorem at_box {d : Nat} {v : Value} (h1 : v.oneCell' = true) (hx : ev E x = some v) (hd : Nat.blt d n = true) (k : ∀ h, At n ((d, .pointer (some ⟨h, 0, none⟩)) :: E) C (.blk h t #[v] :: H) (lwp r P ops Q rest)) :
    At n E C H (lwp r P ops Q (⟨some d, .box t x, ty, pos, after, none⟩ :: rest)) := by
  refine at_op (ι := Nat) (fun h => .pointer (some ⟨h, 0, none⟩)) (fun h => .blk h t #[v] :: H) ?_ rfl rfl hd k
  intro a w hf ho
  refine ⟨w.heap.size, w.alloc (.cells #[v] t), ?_, ho.new #[v] t⟩
  simp only [execOp, hf.eval hx]
  rw [← cells_one h1]
  rfl
theorem at_boxagg {d : Nat} {cs : Array Value} (hx : ev E x = some (.agg cs)) (hd : Nat.blt d n = true) (k : ∀ h, At n ((d, .pointer (some ⟨h, 0, none⟩)) :: E) C (.blk h t cs :: H) (lwp r P ops Q rest)) :
    At n E C H (lwp r P ops Q (⟨some d, .box t x, ty, pos, after, none⟩ :: rest)) := by
  refine at_op (ι := Nat) (fun h => .pointer (some ⟨h, 0, none⟩)) (fun h => .blk h t cs :: H) ?_ rfl rfl hd k
  intro a w hf ho
  refine ⟨w.heap.size, w.alloc (.cells cs t), ?_, ho.new cs t⟩
  simp only [execOp, hf.eval hx]
  rfl
theorem at_alloc {d : Nat} {v : Value} (h1 : v.oneCell' = true) (hz : ∀ w, (zeroValue t).run P w = .ok v w) (hd : Nat.blt d n = true) (k : ∀ h, At n ((d, .pointer (some ⟨h, 0, none⟩)) :: E) C (.blk h t #[v] :: H) (lwp r P ops Q rest)) :
    At n E C H (lwp r P ops Q (⟨some d, .alloc t, ty, pos, after, none⟩ :: rest)) := by
  refine at_op (ι := Nat) (fun h => .pointer (some ⟨h, 0, none⟩)) (fun h => .blk h t #[v] :: H) ?_ rfl rfl hd k
  intro a w hf ho
  refine ⟨w.heap.size, w.alloc (.cells #[v] t), ?_, ho.new #[v] t⟩
  have e : (Instr.alloc t true (.tuple #[])).run P w = .ok (.pointer (some ⟨w.heap.size, 0, none⟩)) (w.alloc (.cells #[v] t)) := by
    rw [← cells_one h1]
    simp only [Instr.alloc, Sem.run_bind, hz, Result.andThen]
    rfl
  simp only [execOp, Sem.run_bind, e, Result.andThen]
  rfl
theorem at_allocagg {d : Nat} {cs : Array Value} (hz : ∀ w, (zeroValue t).run P w = .ok (.agg cs) w) (hd : Nat.blt d n = true) (k : ∀ h, At n ((d, .pointer (some ⟨h, 0, none⟩)) :: E) C (.blk h t cs :: H) (lwp r P ops Q rest)) :
    At n E C H (lwp r P ops Q (⟨some d, .alloc t, ty, pos, after, none⟩ :: rest)) := by
  refine at_op (ι := Nat) (fun h => .pointer (some ⟨h, 0, none⟩)) (fun h => .blk h t cs :: H) ?_ rfl rfl hd k
  intro a w hf ho
  refine ⟨w.heap.size, w.alloc (.cells cs t), ?_, ho.new cs t⟩
  have e : (Instr.alloc t true (.tuple #[])).run P w = .ok (.pointer (some ⟨w.heap.size, 0, none⟩)) (w.alloc (.cells cs t)) := by
    simp only [Instr.alloc, Sem.run_bind, hz, Result.andThen]
    rfl
  simp only [execOp, Sem.run_bind, e, Result.andThen]
  rfl

def fieldOff (P : Program) (s : TypeId) (f : Nat) : Option Nat := match P.underlying s with
  | some (.struct fs) => match fs[f]? with
    | some fd => if (sizeT P fd.type).getD 0 = 0 then none else some fd.offset
    | none => none
  | _ => none
theorem does_fieldAddr {h j o f : Nat} (hF : fieldOff P xT f = some o) (hx : ev E x = some (.pointer (some ⟨h, j, none⟩))) : Does P n E C H ⟨dst, .fieldAddr xT x f, ty, pos, after, g⟩ (.pointer (some ⟨h, j + o, none⟩)) := by
  intro a w hf ho
  unfold fieldOff at hF
  split at hF
  · rename_i fs hu
    split at hF
    · rename_i fd hfd
      split at hF
      · cases hF
      · rename_i hs
        cases hF
        obtain ⟨s, hs'⟩ : ∃ s, sizeT P fd.type = some s := by
          cases hh : sizeT P fd.type with
          | none => simp [hh] at hs
          | some s => exact ⟨s, rfl⟩
        have hs0 : ¬ s = 0 := by simpa [hs'] using hs
        have hadd : (⟨h, j, none⟩ : Addr).add fd.offset = ⟨h, j + fd.offset, none⟩ := by unfold Addr.add; split <;> simp_all
        simp only [execOp, hf.eval hx]
        simp [go_sem, Instr.fieldAt, run_underlying hu, hfd, Instr.sureAddr, fieldPlace, run_sizeT hs', hs0, hadd]
    · cases hF
  · cases hF
def fieldCell (P : Program) (s : TypeId) (f : Nat) : Option Nat := match P.underlying s with
  | some (.struct fs) => match fs[f]? with
    | some fd => if plainT P fd.type then some fd.offset else none
    | none => none
  | _ => none
theorem does_field {cs : Array Value} {o f : Nat} {v : Value} (hF : fieldCell P xT f = some o) (hx : ev E x = some (.agg cs)) (hv : cs[o]? = some v) : Does P n E C H ⟨dst, .field xT x f, ty, pos, after, g⟩ v := by
  intro a w hf ho
  unfold fieldCell at hF
  split at hF
  · rename_i fs hu
    split at hF
    · rename_i fd hfd
      split at hF
      · rename_i hp
        cases hF
        simp only [execOp, hf.eval hx]
        simp [go_sem, Instr.field, run_underlying hu, hfd, part, run_isAgg_plain hp, asAgg, hv]
      · cases hF
    · cases hF
  · cases hF
def sliceSize (P : Program) (t : TypeId) : Option Nat := match P.underlying t with
  | some (.slice e) => sizeT P e
  | _ => none
theorem does_indexAddr {h o q c k : Nat} {kk : IntKind} {p : Int} (hT : sliceSize P xT = some k) (hx : ev E x = some (.slice (some ⟨h, o, none⟩) q c)) (hy : ev E y = some (.int kk p)) (hp : 0 ≤ p ∧ p < q) : Does P n E C H ⟨dst, .indexAddr xT x y, ty, pos, after, g⟩ (.pointer (some ⟨h, o + p.toNat * k, none⟩)) := by
  intro a w hf ho
  unfold sliceSize at hT
  split at hT
  · rename_i e hu
    have hadd : (⟨h, o, none⟩ : Addr).add (p.toNat * k) = ⟨h, o + p.toNat * k, none⟩ := by unfold Addr.add; split <;> simp_all
    simp only [execOp, hf.eval hx, hf.eval hy]
    simp [go_sem, Instr.indexAt, asIntOf, run_underlying hu, hp.1, hp.2, run_sizeT hT, hadd]
  · cases hT
/-- The same at a natural number and elements of one cell. -/
theorem does_indexAddr1 {h o q c j : Nat} {kk : IntKind} (hT : sliceSize P xT = some 1) (hx : ev E x = some (.slice (some ⟨h, o, none⟩) q c)) (hy : ev E y = some (.int kk (j : Int))) (hp : j < q) : Does P n E C H ⟨dst, .indexAddr xT x y, ty, pos, after, g⟩ (.pointer (some ⟨h, o + j, none⟩)) := by
  have := does_indexAddr (P := P) (n := n) (C := C) (H := H) (dst := dst) (ty := ty) (pos := pos) (after := after) (g := g) hT hx hy (by omega)
  simpa using this
theorem does_indexAddrk {h o q c j k : Nat} {kk : IntKind} (hT : sliceSize P xT = some k) (hx : ev E x = some (.slice (some ⟨h, o, none⟩) q c)) (hy : ev E y = some (.int kk (j : Int))) (hp : j < q) : Does P n E C H ⟨dst, .indexAddr xT x y, ty, pos, after, g⟩ (.pointer (some ⟨h, o + j * k, none⟩)) := by
  have := does_indexAddr (P := P) (n := n) (C := C) (H := H) (dst := dst) (ty := ty) (pos := pos) (after := after) (g := g) hT hx hy (by omega)
  simpa using this
def arrSize (P : Program) (t : TypeId) (len : Nat) : Option Nat := match P.underlying t with
  | some (.array l e) => if decide (l = len) && decide (1 < l) then sizeT P e else none
  | _ => none
theorem does_indexArr {h o len k : Nat} {kk : IntKind} {p : Int} (hT : arrSize P xT len = some k) (hx : ev E x = some (.pointer (some ⟨h, o, none⟩))) (hy : ev E y = some (.int kk p)) (hp : 0 ≤ p ∧ p < len) : Does P n E C H ⟨dst, .indexAddr xT x y, ty, pos, after, g⟩ (.pointer (some ⟨h, o + p.toNat * k, none⟩)) := by
  intro a w hf ho
  unfold arrSize at hT
  split at hT
  · rename_i l e hu
    split at hT
    · rename_i hl
      simp at hl
      obtain ⟨rfl, hl⟩ := hl
      have hadd : (⟨h, o, none⟩ : Addr).add (p.toNat * k) = ⟨h, o + p.toNat * k, none⟩ := by unfold Addr.add; split <;> simp_all
      have hl' : ¬ l ≤ 1 := by omega
      simp only [execOp, hf.eval hx, hf.eval hy]
      simp [go_sem, Instr.indexAt, asIntOf, run_underlying hu, hp.1, hp.2, run_sizeT hT, hadd, Instr.sureAddr, hl']
    · cases hT
  · cases hT
theorem does_nilCheck {p : Addr} (hx : ev E x = some (.pointer (some p))) : Does P n E C H ⟨dst, .nilCheck x, ty, pos, after, g⟩ (.pointer (some p)) := by
  intro a w hf ho; simp only [execOp, hf.eval hx]; simp [go_sem]
end
end Go.Proofs.YtjpfebgpcokenaaDoor
