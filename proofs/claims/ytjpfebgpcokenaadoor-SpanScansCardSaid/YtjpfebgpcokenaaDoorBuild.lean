/-
  Structs and arrays built of parts; structs held one against the other; whole arrays in memory that is not the call's. No condition of its own.
-/
import Derived.Test.YtjpfebgpcokenaaDoorRange
import Derived.Laws.StructEq
set_option linter.unusedSimpArgs false
set_option linter.unusedVariables false
namespace Go.Proofs.YtjpfebgpcokenaaDoor
open Go.RowKit

section
variable {P : Program} {r : Option Nat} {n : Nat} {E E' : List (Nat × Value)} {C : Ctx} {H : List Res} {Q : Exit → Act → World → Prop} {K : Act → World → Prop} {ops : Array Oper} {rest : List Oper}
variable {dst : Option Tmp} {ty : TypeId} {pos : String} {after : Array Edge} {g : Option (Nat × Bool)} {x y z : Operand} {t xT yT : TypeId}

def fieldPl (P : Program) : List Field → Option (List (Nat × Nat))
  | [] => some []
  | f :: fs => match sizeT P f.type with
    | some k => (match fieldPl P fs with
      | some l => some ((f.offset, k) :: l)
      | none => none)
    | none => none
/-- The cells of a zero value of a struct, and where each part lies. -/
def shapeOf (P : Program) (t : TypeId) : Option (List Value × List (Nat × Nat)) := match P.info? t with
  | some i => (match i.zero with
    | some v => (match P.underlying t with
      | some (.struct fs) => (match fieldPl P fs.toList with
        | some l => some (v.cells.toList, l)
        | none => none)
      | _ => none)
    | none => none)
  | none => none
/-- Likewise of an array. -/
def shapeArr (P : Program) (t : TypeId) : Option (List Value × Nat) := match P.info? t with
  | some i => (match i.zero with
    | some v => (match P.underlying t with
      | some (.array _ e) => (match sizeT P e with
        | some k => some (v.cells.toList, k)
        | none => none)
      | _ => none)
    | none => none)
  | none => none
def evp (E : List (Nat × Value)) : List (Nat × Operand) → Option (List (Nat × Value))
  | [] => some []
  | (i, x) :: ps => match ev E x with
    | some v => (match evp E ps with
      | some vs => some ((i, v) :: vs)
      | none => none)
    | none => none
theorem evp_map {a : Act} (hf : Fits n E a) : ∀ {ps : List (Nat × Operand)} {vs : List (Nat × Value)}, evp E ps = some vs → ps.map (fun p => (p.1, a.eval p.2)) = vs
  | [], vs, h => by simp [evp] at h; subst h; rfl
  | (i, x) :: ps, vs, h => by
    unfold evp at h
    split at h
    · rename_i v hv
      split at h
      · rename_i us hu
        cases h
        simp [hf.eval hv, evp_map hf hu]
      · cases h
    · cases h
theorem run_places {w : World} : ∀ {fs : List Field} {l : List (Nat × Nat)}, fieldPl P fs = some l → (fs.mapM (fun f : Field => do pure (f.offset, ← Go.sizeOf f.type) : Field → Sem (Nat × Nat))).run P w = .ok l w
  | [], l, h => by simp [fieldPl] at h; subst h; rfl
  | f :: fs, l, h => by
    unfold fieldPl at h
    split at h
    · rename_i k hk
      split at h
      · rename_i l' hl
        cases h
        simp only [List.mapM_cons, Sem.run_bind, run_sizeT hk, Result.andThen, Sem.run_pure, run_places hl]
      · cases h
    · cases h
theorem does_build {zs cs : List Value} {pl : List (Nat × Nat)} {ps : List (Nat × Operand)} {vs : List (Nat × Value)} (hs : shapeOf P t = some (zs, pl)) (hp : evp E ps = some vs) (hf : Instr.fill (fun i => pl[i]?) zs.toArray vs = some cs.toArray) :
    Does P n E C H ⟨dst, .build t ps.toArray, ty, pos, after, g⟩ (.agg cs.toArray) := by
  intro a w hfi ho
  unfold shapeOf at hs
  split at hs
  · rename_i i hi
    split at hs
    · rename_i v hv
      split at hs
      · rename_i fs hu
        split at hs
        · rename_i l hl
          simp only [Option.some.injEq, Prod.mk.injEq] at hs
          obtain ⟨rfl, rfl⟩ := hs
          have hm : (ps.toArray.map fun (i, x) => (i, a.eval x)) = vs.toArray := by
            rw [List.map_toArray]; exact congrArg _ (evp_map hfi hp)
          have hz : (zeroValue t).run P w = .ok v w := by simp [zeroValue, typeInfo, go_sem, hi, hv]
          have hpl := run_places (w := w) hl
          have hpa : (fs.mapM fun f => (do pure (f.offset, ← Go.sizeOf f.type) : Sem (Nat × Nat))).run P w = .ok l.toArray w := by
            rw [← Array.toArray_toList (xs := fs), List.mapM_toArray]
            simp only [map_eq_pure_bind, Sem.run_bind, hpl, Result.andThen, Sem.run_pure]
          simp only [execOp, hm]
          have key : (Instr.build t vs.toArray).run P w = .ok (.agg cs.toArray) w := by
            unfold Instr.build
            simp only [Sem.run_bind, hz, Result.andThen, run_underlying hu, hpa]
            have : Instr.fill (fun x => l.toArray[x]?) v.cells vs = some cs.toArray := by
              have e : (fun x : Nat => l.toArray[x]?) = fun i : Nat => l[i]? := by funext i; simp
              rw [e]; simpa using hf
            simp only [List.toList_toArray, this, Sem.run_pure]
          simp only [Sem.run_bind, key, Result.andThen]
          rfl
        · cases hs
      · cases hs
    · cases hs
  · cases hs
theorem does_buildarr {zs cs : List Value} {k : Nat} {ps : List (Nat × Operand)} {vs : List (Nat × Value)} (hs : shapeArr P t = some (zs, k)) (hp : evp E ps = some vs) (hf : Instr.fill (fun i => some (i * k, k)) zs.toArray vs = some cs.toArray) :
    Does P n E C H ⟨dst, .build t ps.toArray, ty, pos, after, g⟩ (.agg cs.toArray) := by
  intro a w hfi ho
  unfold shapeArr at hs
  split at hs
  · rename_i i hi
    split at hs
    · rename_i v hv
      split at hs
      · rename_i len e hu
        split at hs
        · rename_i k' hk
          simp only [Option.some.injEq, Prod.mk.injEq] at hs
          obtain ⟨rfl, rfl⟩ := hs
          have hm : (ps.toArray.map fun (i, x) => (i, a.eval x)) = vs.toArray := by
            rw [List.map_toArray]; exact congrArg _ (evp_map hfi hp)
          have hz : (zeroValue t).run P w = .ok v w := by simp [zeroValue, typeInfo, go_sem, hi, hv]
          simp only [execOp, hm]
          have key : (Instr.build t vs.toArray).run P w = .ok (.agg cs.toArray) w := by
            unfold Instr.build
            simp only [Sem.run_bind, hz, Result.andThen, run_underlying hu, run_sizeT hk]
            have : Instr.fill (fun i => some (i * k', k')) v.cells vs = some cs.toArray := by simpa using hf
            simp only [List.toList_toArray, this, Sem.run_pure]
          simp only [Sem.run_bind, key, Result.andThen]
          rfl
        · cases hs
      · cases hs
    · cases hs
  · cases hs
def noGuardT (P : Program) (t : TypeId) : Bool := !P.eqGuardType P.depth t
theorem does_seqlagg {xs ys : Array Value} {b : Bool} (hg : noGuardT P xT = true) (hx : ev E x = some (.agg xs)) (hy : ev E y = some (.agg ys)) (h : ∀ w, (Op.equalIn 10000 xT (.agg xs) (.agg ys)).run P w = .ok b w) : Does P n E C H ⟨dst, .binOp .eql xT x y yT, ty, pos, after, g⟩ (.bool b) := by
  intro a w hf ho
  have hg' : P.eqGuardType P.depth xT = false := by simpa [noGuardT] using hg
  simp only [execOp, hf.eval hx, hf.eval hy]
  have e1 := run_eqGuard_agg (P := P) (w := w) .eql xT x y xs ys hg'
  simp [go_sem, e1, run_eql_struct, h w]
theorem does_sneqagg {xs ys : Array Value} {b : Bool} (hg : noGuardT P xT = true) (hx : ev E x = some (.agg xs)) (hy : ev E y = some (.agg ys)) (h : ∀ w, (Op.equalIn 10000 xT (.agg xs) (.agg ys)).run P w = .ok b w) : Does P n E C H ⟨dst, .binOp .neq xT x y yT, ty, pos, after, g⟩ (.bool (!b)) := by
  intro a w hf ho
  have hg' : P.eqGuardType P.depth xT = false := by simpa [noGuardT] using hg
  simp only [execOp, hf.eval hx, hf.eval hy]
  have e1 := run_eqGuard_agg (P := P) (w := w) .neq xT x y xs ys hg'
  simp [go_sem, e1, run_neq_struct, h w]
/-- The kinds of a flat struct's fields: where each lies; 0 an integer, 1 a bool, 2 a string. -/
def kindsOf (P : Program) : List Field → Option (List (Nat × Nat))
  | [] => some []
  | f :: fs => if f.name ≠ "_" then (match kindsOf P fs with
    | some l => (match P.underlying f.type with
      | some (.int _) => some ((f.offset, 0) :: l)
      | some .bool => some ((f.offset, 1) :: l)
      | some .string => some ((f.offset, 2) :: l)
      | _ => none)
    | none => none) else none
def flatT (P : Program) (t : TypeId) : Option (List (Nat × Nat)) := match P.underlying t with
  | some (.struct fs) => if P.stoodInHeld t || P.eqGuardType P.depth t then none else kindsOf P fs.toList
  | _ => none
def eqVal : Nat → Option Value → Option Value → Option Bool
  | 0, some (.int k a), some (.int k' b) => if k = k' then some (decide (a = b)) else none
  | 1, some (.bool a), some (.bool b) => some (a == b)
  | 2, some (.string a), some (.string b) => some (decide (a = b))
  | _, _, _ => none
def eqFl (xs ys : List Value) : List (Nat × Nat) → Option Bool
  | [] => some true
  | (o, k) :: l => match eqVal k xs[o]? ys[o]? with
    | some b => (match eqFl xs ys l with
      | some c => some (b && c)
      | none => none)
    | none => none
theorem run_part {xs : Array Value} {o : Nat} {v : Value} {w : World} (hT : plainT P t = true) (hv : xs[o]? = some v) : (part t xs o).run P w = .ok v w := by
  simp [part, Sem.run_bind, run_isAgg_plain hT, hv, Result.andThen]
theorem run_eqVal {k d : Nat} {u v : Value} {b : Bool} {w : World} (hk : (k = 0 ∧ ∃ q, P.underlying t = some (.int q)) ∨ (k = 1 ∧ P.underlying t = some .bool) ∨ (k = 2 ∧ P.underlying t = some .string)) (h : eqVal k (some u) (some v) = some b) : (Op.equalIn (d + 1) t u v).run P w = .ok b w := by
  rcases hk with ⟨rfl, q, hu⟩ | ⟨rfl, hu⟩ | ⟨rfl, hu⟩
  · unfold eqVal at h
    split at h <;> simp_all
    obtain ⟨rfl, rfl⟩ := h
    rw [run_equalIn_int w d t _ q _ _ hu]
    congr 1
  · unfold eqVal at h
    split at h <;> simp_all
    subst h
    rw [run_equalIn_bool' w d t _ _ hu]
  · unfold eqVal at h
    split at h <;> simp_all
    subst h
    rename_i a b' _ _
    rw [run_equalIn_string w d t _ _ hu]
    congr 1
    rw [ByteArray.toList_eq, ByteArray.toList_eq, Bool.eq_iff_iff]
    obtain ⟨⟨x⟩⟩ := a
    obtain ⟨⟨y⟩⟩ := b'
    simp
theorem run_eqFl {d : Nat} {xs ys : List Value} : ∀ {fs : List Field} {l : List (Nat × Nat)} {b : Bool} {w : World}, kindsOf P fs = some l → eqFl xs ys l = some b → (Op.eqFields (d + 1) xs.toArray ys.toArray fs).run P w = .ok b w
  | [], l, b, w, hk, h => by
    simp [kindsOf] at hk; subst hk
    simp [eqFl] at h; subst h
    simp [Op.eqFields, Sem.run_pure]
  | f :: fs, l, b, w, hk, h => by
    unfold kindsOf at hk
    split at hk
    · rename_i hn
      split at hk
      · rename_i l' hl'
        have key : ∀ k, ((k = 0 ∧ ∃ q, P.underlying f.type = some (.int q)) ∨ (k = 1 ∧ P.underlying f.type = some .bool) ∨ (k = 2 ∧ P.underlying f.type = some .string)) → plainT P f.type = true → l = (f.offset, k) :: l' → (Op.eqFields (d + 1) xs.toArray ys.toArray (f :: fs)).run P w = .ok b w := by
          intro k hkk hpl hle
          subst hle
          unfold eqFl at h
          split at h
          · rename_i b1 hb1
            split at h
            · rename_i c hc
              cases h
              obtain ⟨u, hu⟩ : ∃ u, xs[f.offset]? = some u := by
                cases hx : xs[f.offset]? with
                | none => rw [hx] at hb1; unfold eqVal at hb1; split at hb1 <;> simp_all
                | some u => exact ⟨u, rfl⟩
              obtain ⟨v, hv⟩ : ∃ v, ys[f.offset]? = some v := by
                cases hy : ys[f.offset]? with
                | none => rw [hy] at hb1; unfold eqVal at hb1; split at hb1 <;> simp_all
                | some v => exact ⟨v, rfl⟩
              rw [hu, hv] at hb1
              unfold Op.eqFields
              rw [if_pos hn]
              have h1 := run_part (w := w) hpl (xs := xs.toArray) (o := f.offset) (v := u) (by simpa using hu)
              have h2 := run_part (w := w) hpl (xs := ys.toArray) (o := f.offset) (v := v) (by simpa using hv)
              have h3 := run_eqVal (d := d) (w := w) hkk hb1
              have h4 := run_eqFl (d := d) (xs := xs) (ys := ys) (w := w) hl' hc
              simp only [Sem.run_bind, h1, h2, h3, Result.andThen]
              cases b1
              · simp [Sem.run_pure]
              · simp only [Bool.not_true, Bool.false_eq_true, if_false, h4, Bool.true_and]
            · cases h
          · cases h
        split at hk
        · rename_i q hu
          cases hk
          exact key 0 (.inl ⟨rfl, q, hu⟩) (by simp [plainT, hu]) rfl
        · rename_i hu
          cases hk
          exact key 1 (.inr (.inl ⟨rfl, hu⟩)) (by simp [plainT, hu]) rfl
        · rename_i hu
          cases hk
          exact key 2 (.inr (.inr ⟨rfl, hu⟩)) (by simp [plainT, hu]) rfl
        · cases hk
      · cases hk
    · cases hk
theorem run_flat {xs ys : List Value} {l : List (Nat × Nat)} {b : Bool} {w : World} (hT : flatT P t = some l) (h : eqFl xs ys l = some b) : (Op.equalIn 10000 t (.agg xs.toArray) (.agg ys.toArray)).run P w = .ok b w ∧ P.eqGuardType P.depth t = false := by
  unfold flatT at hT
  split at hT
  · rename_i fs hu
    split at hT
    · cases hT
    · rename_i hs
      simp only [Bool.or_eq_true, not_or, Bool.not_eq_true] at hs
      have hfo : P.fieldsOf t = fs := by simp [Program.fieldsOf, hu]
      refine ⟨?_, hs.2⟩
      rw [run_equalIn_agg w 9999 t _ _ (by rw [hfo]; exact hu) hs.1, hfo]
      exact run_eqFl hT h
  · cases hT
theorem does_flateql {xs ys : List Value} {l : List (Nat × Nat)} {b : Bool} (hT : flatT P xT = some l) (hx : ev E x = some (.agg xs.toArray)) (hy : ev E y = some (.agg ys.toArray)) (h : eqFl xs ys l = some b) : Does P n E C H ⟨dst, .binOp .eql xT x y yT, ty, pos, after, g⟩ (.bool b) :=
  does_seqlagg (by simp [noGuardT, (run_flat (w := default) hT h).2]) hx hy fun w => (run_flat hT h).1
theorem does_flatneq {xs ys : List Value} {l : List (Nat × Nat)} {b : Bool} (hT : flatT P xT = some l) (hx : ev E x = some (.agg xs.toArray)) (hy : ev E y = some (.agg ys.toArray)) (h : eqFl xs ys l = some b) : Does P n E C H ⟨dst, .binOp .neq xT x y yT, ty, pos, after, g⟩ (.bool (!b)) :=
  does_sneqagg (by simp [noGuardT, (run_flat (w := default) hT h).2]) hx hy fun w => (run_flat hT h).1
/-- A struct or an array that is a part of a block. -/
theorem does_loadpart {h i j : Nat} {tb : TypeId} {cs : Array Value} {vs : List Value} (hT : aggT P t = some vs.length) (hx : ev E x = some (.pointer (some ⟨h, j, none⟩))) (hi : H[i]? = some (.blk h tb cs)) (hv : (cs.toList.drop j).take vs.length = vs) : Does P n E C H ⟨dst, .load t x, ty, pos, after, g⟩ (.agg vs.toArray) :=
  does_loadagg_mem hT hx fun w ho q u hu => by
    have hadd : (⟨h, j, none⟩ : Addr).add q = ⟨h, j + q, none⟩ := by unfold Addr.add; split <;> simp_all
    rw [hadd, ho.cell hi]
    rw [← hv, List.getElem?_take] at hu
    split at hu
    · rw [List.getElem?_drop] at hu; simpa using hu
    · cases hu
theorem at_storepart {h i j : Nat} {tb : TypeId} {cs vs : Array Value} (hT : sizeT P t = some vs.size) (hx : ev E x = some (.pointer (some ⟨h, j, none⟩))) (hy : ev E y = some (.agg vs)) (h1 : (vs.toList.all (·.oneCell')) = true) (hi : H[i]? = some (.blk h tb cs)) (hj : Nat.ble (j + vs.size) cs.size = true)
    (k : At n E C (H.set i (.blk h tb (cs.toList.take j ++ vs.toList ++ cs.toList.drop (j + vs.size)).toArray)) (lwp r P ops Q rest)) : At n E C H (lwp r P ops Q (⟨none, .store t x y, ty, pos, after, none⟩ :: rest)) := by
  have hj' : j + vs.size ≤ cs.size := by simpa using hj
  refine at_skipop (H' := H.set i (.blk h tb (cs.toList.take j ++ vs.toList ++ cs.toList.drop (j + vs.size)).toArray)) ?_ rfl rfl rfl k
  intro a w hf ho
  have hrow := ho.get hi
  have hst := run_storeCells_at P h j tb vs.toList 0 cs w hrow (by simpa using hj') (fun v hv => List.all_eq_true.1 h1 v hv)
  refine ⟨w.setRow h (cs.toList.take j ++ vs.toList ++ cs.toList.drop (j + vs.size)).toArray, ?_, ho.whole hi (by simp; omega)⟩
  simp only [execOp, hf.eval hx, hf.eval hy]
  simp only [Instr.storeAt, Instr.sureAddr, storeVar, Value.cells]
  simp at hst
  simp [go_sem, run_sizeT hT, hst]

/-! ### Results that lie in a block -/
theorem run_loadCell {h : Nat} {tb : TypeId} {cs : Array Value} {w : World} {v : Value} (hT : plainT P t = true) (hb : w.heap[h]? = some (.cells cs tb)) (hv : cs[0]? = some v) : (loadVar t ⟨h, 0, none⟩).run P w = .ok v w := by
  have hc : w.cell? ⟨h, 0, none⟩ = some v := (cell_of_row w h 0 cs tb (0, 0) hb).trans hv
  simp [loadVar, Sem.run_bind, run_isAgg_plain hT, Result.andThen, go_sem, hc]
theorem run_loadAgg {h k : Nat} {tb : TypeId} {cs : Array Value} {w : World} (hT : aggT P t = some k) (hb : w.heap[h]? = some (.cells cs tb)) (hk : cs.size = k) : (loadVar t ⟨h, 0, none⟩).run P w = .ok (.agg cs) w := by
  have h1 : (loadCells ⟨h, 0, none⟩ cs.toList.length).run P w = .ok cs.toList.toArray w := run_loadCells_list w _ cs.toList fun j v hv => by
    have hadd : (⟨h, 0, none⟩ : Addr).add j = ⟨h, j, none⟩ := by unfold Addr.add; split <;> simp_all
    rw [hadd, cell_of_row w h j cs tb (0, 0) hb]; simpa using hv
  simp at h1
  rw [hk] at h1
  simp only [loadCells] at h1
  simp [go_sem, loadVar, run_isAgg_agg hT, run_sizeOf_agg hT, h1]
theorem at_retcell {fn : Func} {R : Ending → World → Prop} {s i h : Nat} {tb : TypeId} {cs : Array Value} {v : Value} (hr : fn.results = #[.cell s t]) (ht : eget E s = some (.pointer (some ⟨h, 0, none⟩))) (hi : H[i]? = some (.blk h tb cs)) (hT : plainT P t = true) (hv : cs[0]? = some v)
    (hk : ∀ w, Own (C.clear w H) H w → R (.returned v) w) : At n E C H (fin P fn R .ret) := by
  refine fin_marks fun a w hf ho => ⟨v, ?_, hk w ho⟩
  have h1 := hf.get s _ ht
  have h2 := run_loadCell (P := P) (t := t) hT (ho.get hi) hv
  have h3 : a.tmps.getD s undef = .pointer (some ⟨h, 0, none⟩) := by rw [Array.getD_eq_getD_getElem?, h1]; rfl
  unfold results
  rw [hr]
  simp only [List.mapM_toArray, List.mapM_cons, List.mapM_nil, h3, asAddr, Sem.run_bind, Sem.run_pure, Result.andThen, map_eq_pure_bind, h2]
  rfl
theorem at_retagg {fn : Func} {R : Ending → World → Prop} {s i h k : Nat} {tb : TypeId} {cs : Array Value} (hr : fn.results = #[.cell s t]) (ht : eget E s = some (.pointer (some ⟨h, 0, none⟩))) (hi : H[i]? = some (.blk h tb cs)) (hT : aggT P t = some k) (hv : cs.size = k)
    (hk : ∀ w, Own (C.clear w H) H w → R (.returned (.agg cs)) w) : At n E C H (fin P fn R .ret) := by
  refine fin_marks fun a w hf ho => ⟨.agg cs, ?_, hk w ho⟩
  have h1 := hf.get s _ ht
  have h2 := run_loadAgg (P := P) (t := t) hT (ho.get hi) hv
  have h3 : a.tmps.getD s undef = .pointer (some ⟨h, 0, none⟩) := by rw [Array.getD_eq_getD_getElem?, h1]; rfl
  unfold results
  rw [hr]
  simp only [List.mapM_toArray, List.mapM_cons, List.mapM_nil, h3, asAddr, Sem.run_bind, Sem.run_pure, Result.andThen, map_eq_pure_bind, h2]
  rfl
def arrLen (P : Program) (t : TypeId) : Option Nat := match P.underlying t with
  | some (.array l _) => some l
  | _ => none
end
end Go.Proofs.YtjpfebgpcokenaaDoor
