/-
  What the operations do that make slices: literals, make, append; and what reads a slice that the call owns. No condition of its own.
-/
import Derived.Test.YtjpfebgpcokenaaDoorRel
import Derived.Laws.BytesString
import Derived.Laws.MakeOwn
set_option linter.unusedSimpArgs false
set_option linter.unusedVariables false
namespace Go.Proofs.YtjpfebgpcokenaaDoor
open Go.RowKit

theorem fold_splice : ∀ (vs : List Value) (cs : Array Value) (off k : Nat), off + k + vs.length ≤ cs.size →
    (vs.zipIdx k).foldl (fun (cs : Array Value) p => cs.setIfInBounds (off + p.2) p.1) cs = (cs.toList.take (off + k) ++ vs ++ cs.toList.drop (off + k + vs.length)).toArray
  | [], cs, off, k, h => by simp
  | v :: vs, cs, off, k, h => by
    simp only [List.zipIdx_cons, List.foldl_cons]
    simp only [List.length_cons] at h
    rw [fold_splice vs _ off (k + 1) (by simp; omega)]
    have hlt : off + k < cs.toList.length := by simp; omega
    congr 1
    rw [Array.toList_setIfInBounds, List.set_eq_take_append_cons_drop, if_pos hlt]
    have h1 : (cs.toList.take (off + k)).length = off + k := by simp; omega
    have e1 : off + (k + 1) = (off + k) + 1 := by omega
    rw [e1, List.take_append, h1, List.drop_append, h1]
    have e2 : off + k + 1 - (off + k) = 1 := by omega
    have e3 : off + k + 1 + vs.length - (off + k) = vs.length + 1 := by omega
    rw [e2, e3]
    simp
    rw [List.take_of_length_le (by simp; omega)]
    have e4 : off + k + 1 + vs.length - (off + k) = vs.length + 1 := by omega
    rw [List.drop_take]
    have e5 : off + k - (off + k + 1 + vs.length) = 0 := by omega
    simp [e5, Nat.add_assoc]
    congr 1
    omega
theorem fill_seq (sz : Nat) : ∀ (vs : List Value) (k : Nat) (cs : Array Value), (∀ v ∈ vs, v.cells.size = sz) → (k + vs.length) * sz ≤ cs.size →
    Instr.fill (fun i => some (i * sz, sz)) cs ((List.range' k vs.length).zip vs) = some (cs.toList.take (k * sz) ++ vs.flatMap (·.cells.toList) ++ cs.toList.drop ((k + vs.length) * sz)).toArray
  | [], k, cs, _, _ => by simp [Instr.fill]
  | v :: vs, k, cs, hv, h => by
    have hv0 := hv v (List.mem_cons_self ..)
    simp only [List.length_cons] at h ⊢
    have hm : (k + (vs.length + 1)) * sz = k * sz + sz + vs.length * sz := by rw [Nat.add_mul, Nat.add_mul, Nat.one_mul]; omega
    rw [List.range'_succ]
    simp only [List.zip_cons_cons, Instr.fill]
    have hcond : ¬ (v.cells.size ≠ sz || decide (k * sz + v.cells.size > cs.size)) = true := by
      simp [hv0]; omega
    rw [if_neg hcond]
    have hfold : v.cells.zipIdx.foldl (fun (cs : Array Value) x => match x with | (c, j) => cs.setIfInBounds (k * sz + j) c) cs = (cs.toList.take (k * sz) ++ v.cells.toList ++ cs.toList.drop (k * sz + sz)).toArray := by
      rw [← Array.foldl_toList, Array.toList_zipIdx]
      have := fold_splice v.cells.toList cs (k * sz) 0 (by simp [hv0]; omega)
      simp only [Nat.add_zero, Array.length_toList, hv0] at this
      exact this
    rw [hfold]
    have hlen : (cs.toList.take (k * sz) ++ v.cells.toList ++ cs.toList.drop (k * sz + sz)).toArray.size = cs.size := by
      simp [hv0]; omega
    have ih := fill_seq sz vs (k + 1) (cs.toList.take (k * sz) ++ v.cells.toList ++ cs.toList.drop (k * sz + sz)).toArray (fun u hu => hv u (List.mem_cons_of_mem _ hu)) (by rw [hlen, Nat.add_mul, Nat.add_mul, Nat.one_mul]; omega)
    rw [ih]
    congr 1
    have ht : (cs.toList.take (k * sz)).length = k * sz := by simp; omega
    have hkz : (k + 1) * sz = k * sz + sz := by rw [Nat.add_mul, Nat.one_mul]
    have hkz2 : (k + 1 + vs.length) * sz = k * sz + sz + vs.length * sz := by rw [Nat.add_mul, Nat.add_mul, Nat.one_mul]
    simp only [hkz, hkz2, hm, List.flatMap_cons]
    have hlv : v.cells.toList.length = sz := by simpa using hv0
    congr 1
    have a1 : (cs.toList.take (k * sz) ++ v.cells.toList).length = k * sz + sz := by rw [List.length_append, ht, hlv]
    rw [List.take_append_of_le_length (by rw [a1]; omega), List.take_of_length_le (by rw [a1]; omega)]
    rw [List.drop_append, a1, List.drop_of_length_le (l := cs.toList.take (k * sz) ++ v.cells.toList) (by rw [a1]; omega)]
    rw [List.drop_drop]
    simp

section
variable {P : Program} {r : Option Nat} {n : Nat} {E E' : List (Nat × Value)} {C : Ctx} {H : List Res} {Q : Exit → Act → World → Prop} {K : Act → World → Prop} {ops : Array Oper} {rest : List Oper}
variable {dst : Option Tmp} {ty : TypeId} {pos : String} {after : Array Edge} {g : Option (Nat × Bool)} {x y z : Operand} {t xT yT : TypeId}

/-- The closed facts of a slice type: its element's type, the size of one, the cells of a zero value. -/
def sliceOf (P : Program) (t e sz : Nat) : Bool := match P.underlying t with
  | some (.slice e') => decide (e' = e) && (match P.info? e with
    | some i => decide (i.size = sz) && (match i.zero with
      | some v => decide (v.cells.size = sz)
      | none => false)
    | none => false)
  | _ => false
theorem sliceOf_spec {e sz : Nat} (h : sliceOf P t e sz = true) : P.underlying t = some (.slice e) ∧ ∃ i z, P.info? e = some i ∧ i.size = sz ∧ i.zero = some z ∧ z.cells.size = sz := by
  unfold sliceOf at h
  split at h
  · rename_i e' hu
    simp only [Bool.and_eq_true, decide_eq_true_eq] at h
    obtain ⟨rfl, h⟩ := h
    refine ⟨hu, ?_⟩
    split at h
    · rename_i i hi
      simp only [Bool.and_eq_true, decide_eq_true_eq] at h
      obtain ⟨h1, h⟩ := h
      split at h
      · rename_i v hv
        exact ⟨i, v, hi, h1, hv, by simpa using h⟩
      · cases h
    · cases h
  · cases h
def pairsOf (E : List (Nat × Value)) : Nat → List (Nat × Operand) → Option (List Value)
  | _, [] => some []
  | k, (i, x) :: ps => match Nat.beq i k with
    | true => (match ev E x with
      | some v => (match pairsOf E (k + 1) ps with
        | some vs => some (v :: vs)
        | none => none)
      | none => none)
    | false => none
theorem pairsOf_map {a : Act} (hf : Fits n E a) : ∀ {ps : List (Nat × Operand)} {k : Nat} {vs : List Value}, pairsOf E k ps = some vs → ps.map (fun p => (p.1, a.eval p.2)) = (List.range' k vs.length).zip vs
  | [], k, vs, h => by simp [pairsOf] at h; subst h; rfl
  | (i, x) :: ps, k, vs, h => by
    unfold pairsOf at h
    split at h
    · rename_i hb
      have hik : i = k := Nat.eq_of_beq_eq_true hb
      split at h
      · rename_i v hv
        split at h
        · rename_i us hu
          cases h
          simp [List.range'_succ, hf.eval hv, pairsOf_map hf hu, hik]
        · cases h
      · cases h
    · cases h
theorem run_buildSlice {e sz : Nat} {vs : List Value} (hT : sliceOf P t e sz = true) (hv : (vs.all fun v => Nat.beq v.cells.size sz) = true) (hb : vs.length * sz ≤ 16777216) (w : World) :
    (Instr.buildSlice t vs.length ((List.range' 0 vs.length).zip vs).toArray).run P w = .ok (.slice (some ⟨w.heap.size, 0, none⟩) vs.length vs.length) (w.alloc (.cells (vs.flatMap (·.cells.toList)).toArray e)) := by
  obtain ⟨hu, i, zv, hi, hsz, hz, hzs⟩ := sliceOf_spec hT
  have hv' : ∀ v ∈ vs, v.cells.size = sz := fun v hm => Nat.eq_of_beq_eq_true (List.all_eq_true.1 hv v hm)
  have h24 : ¬ vs.length * sz > 2 ^ 24 := by omega
  have hsum : (sizeOf e).run P w = .ok sz w := by simp [sizeOf, typeInfo, go_sem, hi, hsz]
  have hzero : (zeroValue e).run P w = .ok zv w := by simp [zeroValue, typeInfo, go_sem, hi, hz]
  have key : ∀ cs : Array Value, cs.size = vs.length * sz → Instr.fill (fun i => some (i * sz, sz)) cs ((List.range' 0 vs.length).zip vs) = some (vs.flatMap (·.cells.toList)).toArray := fun cs hcs => by
    rw [fill_seq sz vs 0 cs hv' (by rw [hcs]; simp)]
    have : cs.toList.drop ((0 + vs.length) * sz) = [] := List.drop_eq_nil_iff.2 (by simp [hcs])
    rw [this]
    simp
  unfold Instr.buildSlice
  simp only [Sem.run_bind, run_underlying hu, Result.andThen, hsum, if_neg h24]
  by_cases h0 : vs.length * sz = 0
  · rw [if_pos h0]
    simp only [Sem.run_bind, Result.andThen]
    have hr := key ((Array.range (vs.length * sz)).map fun i => (#[] : Array Value)[i % (#[] : Array Value).size]!) (by simp)
    show (match Instr.fill (fun i => some (i * sz, sz)) ((Array.range (vs.length * sz)).map fun i => (#[] : Array Value)[i % (#[] : Array Value).size]!) ((List.range' 0 vs.length).zip vs).toArray.toList with
      | some cells => (do pure (Value.slice (some (← newRow e cells)) vs.length vs.length) : Sem Value)
      | _ => _).run P w = _
    rw [List.toList_toArray, hr]
    rfl
  · rw [if_neg h0]
    simp only [Sem.run_bind, hzero, Result.andThen]
    have hr := key ((Array.range (vs.length * sz)).map fun i => zv.cells[i % zv.cells.size]!) (by simp)
    show (match Instr.fill (fun i => some (i * sz, sz)) ((Array.range (vs.length * sz)).map fun i => zv.cells[i % zv.cells.size]!) ((List.range' 0 vs.length).zip vs).toArray.toList with
      | some cells => (do pure (Value.slice (some (← newRow e cells)) vs.length vs.length) : Sem Value)
      | _ => _).run P w = _
    rw [List.toList_toArray, hr]
    rfl
theorem exec_buildSlice {a : Act} {w : World} (hf : Fits n E a) {e sz : Nat} {ps : List (Nat × Operand)} {vs : List Value} {len : Nat} (hT : sliceOf P t e sz = true) (hp : pairsOf E 0 ps = some vs) (hl : Nat.beq vs.length len = true) (hv : (vs.all fun v => Nat.beq v.cells.size sz) = true) (hb : Nat.ble (len * sz) 16777216 = true) :
    (execOp a.eval ⟨dst, .buildSlice t len ps.toArray, ty, pos, after, g⟩).run P w = .ok (.value (.slice (some ⟨w.heap.size, 0, none⟩) len len)) (w.alloc (.cells (vs.flatMap (·.cells.toList)).toArray e)) := by
  have hl' : vs.length = len := Nat.eq_of_beq_eq_true hl
  subst hl'
  have h1 := run_buildSlice (P := P) hT hv (by simpa using hb) w
  have hm : (ps.toArray.map fun (i, x) => (i, a.eval x)) = ((List.range' 0 vs.length).zip vs).toArray := by
    rw [List.map_toArray]
    exact congrArg _ (pairsOf_map hf hp)
  simp only [execOp, hm]
  simp only [Sem.run_bind, h1, Result.andThen]
  rfl
theorem at_buildSlice {d e sz : Nat} {ps : List (Nat × Operand)} {vs cs : List Value} {len : Nat} (hT : sliceOf P t e sz = true) (hp : pairsOf E 0 ps = some vs) (hl : Nat.beq vs.length len = true) (hv : (vs.all fun v => Nat.beq v.cells.size sz) = true) (hb : Nat.ble (len * sz) 16777216 = true) (hcs : vs.flatMap (fun v : Value => v.cells.toList) = cs) (hd : Nat.blt d n = true)
    (k : ∀ h, At n ((d, .slice (some ⟨h, 0, none⟩) len len) :: E) C (.blk h e cs.toArray :: H) (lwp r P ops Q rest)) :
    At n E C H (lwp r P ops Q (⟨some d, .buildSlice t len ps.toArray, ty, pos, after, none⟩ :: rest)) := by
  subst hcs
  exact at_op (ι := Nat) (fun h => .slice (some ⟨h, 0, none⟩) len len) (fun h => .blk h e (vs.flatMap (fun v : Value => v.cells.toList)).toArray :: H)
    (fun a w hf ho => ⟨w.heap.size, _, exec_buildSlice hf hT hp hl hv hb, ho.new _ e⟩) rfl rfl hd k
/-- A slice over a block that holds just these cells. -/
def Lits (e : TypeId) (len : Nat) (cs : List Value) (v : Value) (w : World) : Prop := ∃ h, v = .slice (some ⟨h, 0, none⟩) len len ∧ w.heap[h]? = some (.cells cs.toArray e)
theorem lits_stab (e : TypeId) (len : Nat) (cs : List Value) : (Spec.rel (Lits e len cs)).stab := fun v w w' ⟨h, h1, h2⟩ hb =>
  ⟨h, h1, (hb.block h (Array.getElem?_eq_some_iff.1 h2).1).trans h2⟩
theorem step1_buildSlice {X : World → Prop} {d : Option Tmp} {e sz : Nat} {ps : List (Nat × Operand)} {vs cs : List Value} {len : Nat} (hT : sliceOf P t e sz = true) (hp : pairsOf E 0 ps = some vs) (hl : Nat.beq vs.length len = true) (hv : (vs.all fun v => Nat.beq v.cells.size sz) = true) (hb : Nat.ble (len * sz) 16777216 = true) (hcs : vs.flatMap (fun v : Value => v.cells.toList) = cs) :
    Step1 P n E C H X ⟨d, .buildSlice t len ps.toArray, ty, pos, after, g⟩ (.rel (Lits e len cs)) :=
  step1_run fun a w hf ho _ => ⟨_, _, exec_buildSlice hf hT hp hl hv hb, (Below.refl _ _).alloc (Nat.le_refl _) _, ⟨w.heap.size, rfl, by rw [← hcs]; exact heap_alloc_new w _⟩⟩
/-- Bytes that a slice over a literal holds, made a string. -/
def bytesT (P : Program) (src dst : TypeId) : Bool := match P.underlying src, P.underlying dst with
  | some (.slice e), some .string => (match P.underlying e with
    | some (.int .u8) => true
    | _ => false)
  | _, _ => false
theorem run_bytesStrA {l : List UInt8} {A : Addr} {c : Nat} {w : World} (hT : bytesT P xT yT = true) (hc : ∀ j b, l[j]? = some b → w.cell? (A.add j) = some (.int .u8 (b.toNat : Int))) :
    (convert xT yT (.slice (some A) l.length c)).run P w = .ok (.string (bs l)) w := by
  unfold bytesT at hT
  split at hT
  · rename_i e h1 h2
    split at hT
    · rename_i h3
      rw [run_convert_bytes_string w xT yT e (some A) l.length c h1 h3 h2]
      have h5 := run_loadCells_list (P := P) w A (l.map fun b => Value.int .u8 (b.toNat : Int)) (fun j v hj => by
        simp only [List.getElem?_map, Option.map_eq_some_iff] at hj
        obtain ⟨b, hb, rfl⟩ := hj
        exact hc j b hb)
      rw [List.length_map] at h5
      have h4 := run_bytesToString (P := P) w A l.length c (l.map fun b => (b.toNat : Int)) (by rw [h5, List.map_map]; rfl)
      rw [h4]
      have e : ∀ (l : List UInt8) (s : ByteArray), (l.map fun b => (b.toNat : Int)).foldl (fun r n => r.push (UInt8.ofNat n.toNat)) s = ⟨s.data ++ l.toArray⟩ := by
        intro l
        induction l with
        | nil => intro s; simp
        | cons b l ih =>
          intro s
          simp only [List.map_cons, List.foldl_cons]
          rw [ih]
          congr 1
          simp [ByteArray.push]
      rw [e]
      have e0 : ByteArray.empty.data = #[] := rfl
      rw [e0, Array.empty_append]
      rfl
    · cases hT
  · cases hT
theorem run_bytesStr {l : List UInt8} {h o c : Nat} {w : World} (hT : bytesT P xT yT = true) (hc : ∀ j b, l[j]? = some b → w.cell? ⟨h, o + j, none⟩ = some (.int .u8 (b.toNat : Int))) :
    (convert xT yT (.slice (some ⟨h, o, none⟩) l.length c)).run P w = .ok (.string (bs l)) w := run_bytesStrA hT fun j b hj => by
  have hadd : (⟨h, o, none⟩ : Addr).add j = ⟨h, o + j, none⟩ := by unfold Addr.add; split <;> simp_all
  rw [hadd]; exact hc j b hj
theorem step1_bytesStr {X : World → Prop} {d : Option Tmp} {e : TypeId} {l : List UInt8} {v : Value} (hT : bytesT P xT yT = true) (hx : ev E x = some v) (hX : ∀ w, X w → Lits e l.length (l.map fun b => .int .u8 (b.toNat : Int)) v w) :
    Step1 P n E C H X ⟨d, .convert xT yT x, ty, pos, after, g⟩ (.val (.string (bs l))) :=
  step1_run fun a w hf ho hx' => by
    obtain ⟨h, rfl, hb⟩ := hX w hx'
    refine ⟨.string (bs l), w, ?_, Below.refl _ _, rfl⟩
    simp only [execOp, hf.eval hx]
    have := run_bytesStr (P := P) (xT := xT) (yT := yT) (l := l) (h := h) (o := 0) (c := l.length) (w := w) hT fun j b hj => by
      rw [Nat.zero_add, cell_of_row w h j _ e (0, 0) hb]
      simp [hj]
    simp only [Sem.run_bind, this, Result.andThen]
    rfl
end
end Go.Proofs.YtjpfebgpcokenaaDoor
