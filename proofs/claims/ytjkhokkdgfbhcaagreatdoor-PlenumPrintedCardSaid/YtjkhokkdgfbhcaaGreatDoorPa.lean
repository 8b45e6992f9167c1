/-
  Part 1 of what the proof of PlenumPrinted stands on: laws of walks, contracts of functions, plain laws. No condition of its own.
-/
import Derived.WalkKit
import Derived.RegionTactic
import Derived.WalkLawsBesides
import Derived.Deep.Quiet
import Derived.Laws.AppendOwn
import Derived.Laws.OwnMore
import Derived.Below
import Derived.RangeFuncRecord
import Derived.OrdersIn
import Derived.LoopIn
import Derived.Deep.LoopGhost
import Derived.Scope
import Derived.IntWalk
import Derived.TacticsIn
import Derived.Laws.BytesString
import Derived.Laws.MakeOwn
import Derived.RangeFuncIn
import Derived.RangeFuncSeq
import Derived.Laws.StructEq
import Derived.ArgAppend
import Derived.Deep.Upon
import Derived.MapKept
import Derived.Laws.IdiomRangeMap
import Derived.Lib.AppendStr
import Derived.Lib.UnsafeStr
import Derived.Lib.Builder
import Derived.Laws.Externs
import Derived.Test.YtjkhokkdgfbhcaaGreatDoorProg
set_option linter.defProp false
set_option linter.unusedSectionVars false
set_option linter.unusedSimpArgs false
set_option linter.unusedVariables false
set_option linter.deprecated false
set_option maxHeartbeats 16000000
namespace Go.Proofs.YtjkhokkdgfbhcaaGreatDoor
open Go.RowKit
abbrev X0:=List (Nat×Value)
abbrev C9:=List UInt8
abbrev H2:=List Value
abbrev J2:=Array Value
abbrev B6:=World
def C1:=@Prod.mk.inj
def J8:=@List.length_append
def L6:=@Nat.le_refl
def L9:=@List.sublist_cons_self
def N5:=@List.getElem?_eq_some_iff
def Q2:=@List.append_assoc
def Q5:=@List.Sublist.refl
def R5:=@Nat.zero_le
def T1:=@Array.getElem?_eq_some_iff
def T3:=@List.length_cons
def T8:=@List.getElem?_eq_getElem
def W6:=@List.getD_eq_getElem?_getD
def Y3:=@Nat.zero_add
def Y4:=@List.length_nil
def f5:=@List.all_eq_true
def j1:=@Bool.and_eq_true
def j4:=@List.getElem?_append_right
def j7:=@Nat.le_trans
def j8:=@List.mem_cons_self
def j9:=@List.mem_range
def k5:=@List.append_nil
def m6:=@Array.getD_eq_getD_getElem?
def q0:=@List.mem_append
def s4:=@Array.getElem?_eq_getElem
def w7:=@Nat.lt_or_ge
def BD:=@List.mem_cons
def Br:=@Array.getElem?_setIfInBounds_ne
def Bs:=@Nat.add_zero
def Bt:=@List.mem_singleton
def Bu:=@List.map_append
def CP:=@List.mem_of_getElem?
def CQ:=@List.take_of_length_le
def CR:=@List.toList_toArray
def Cj:=@List.mem_cons_of_mem
def Ck:=@Option.some.injEq
def Cl:=@Prod.mk.injEq
def Cm:=@Int.toNat_natCast
def DK:=@Nat.eq_of_beq_eq_true
def DL:=@List.flatMap_cons
def DM:=@List.nil_append
def EB:=@List.length_drop
def EC:=@List.perm_append_comm
def ED:=@List.length_take
def EZ:=@Nat.add_assoc
def Ea:=@List.nil_sublist
def FB:=@List.nodup_append
def FC:=@List.mem_map
def FZ:=@List.take_append_drop
def Fa:=@List.getElem?_eq_none
def Fb:=@Bool.false_eq_true
def Fc:=@Option.some.inj
def Fd:=@List.getElem_mem
def Fe:=@List.getElem?_append_left
def GO:=@Array.getElem?_replicate
def GP:=@List.cons_append
def GQ:=@List.take_length
def HA:=@Array.getElem?_eq_none_iff
def HB:=@List.sublist_append_left
def HE:=@List.perm_append_singleton
def ID:=@Nat.lt_of_lt_of_le
def IF:=@List.drop_zero
def Iz:=@List.mem_append_right
def JA:=@Option.isSome_iff_exists
def JB:=@List.drop_drop
def JC:=@List.getElem?_cons_succ
def JD:=@List.takeWhile_cons
def JE:=@List.drop_eq_nil_of_le
def JG:=@List.take_add_one
def JH:=@Nat.sub_self
def Ke:=@Array.getElem?_modify
def Kf:=@Bool.or_eq_true
def Kg:=@List.length_set
def Kh:=@List.eq_nil_of_length_eq_zero
def Ki:=@List.cons.injEq
def Kj:=@List.getElem?_map
def Ly:=@Array.getElem?_setIfInBounds
def Lz:=@List.mem_append_left
def MA:=@Bool.eq_iff_iff
def MB:=@List.mem_filterMap
def MC:=@List.getElem?_take
def MD:=@Nat.add_mul
def ME:=@UInt8.lt_iff_toNat_lt
def MF:=@List.drop_succ_cons
def MG:=@List.drop_eq_getElem_cons
def ML:=@List.getElem_of_mem
def Ng:=@List.range'_succ
def Nh:=@Option.getD_some
def Ni:=@List.all_eq_false
def Nj:=@List.contains_iff_mem
def Nk:=@List.ext_getElem?
def No:=@List.nodup_nil
def Np:=@Nat.succ_mul
def Nq:=@List.length_map
def Nr:=@List.perm_middle
def Pb:=@List.nodup_cons
def Pd:=@List.sublist_append_right
def Pe:=@List.all_cons
def Pf:=@List.getElem?_set_self
def Pg:=@List.mapM_cons
def Ph:=@List.mapM_toArray
def Pi:=@List.mem_filter
def Pj:=@Nat.min_eq_left
def Pk:=@List.drop_left
def Pm:=@Nat.mul_one
def Pn:=@List.pairwise_cons
def Po:=@List.take_left
def RZ:=@Option.bind_some
def Ra:=@List.set_cons_succ
def Rb:=@List.count_cons
def Rc:=@List.take_append_of_le_length
def Rd:=@List.map_cons
def Re:=@List.mapM_nil
def Rf:=@List.getElem?_toArray
def Rg:=@Nat.mod_lt
def Rh:=@Option.map_some
def Ri:=@Int.eq_ofNat_of_zero_le
def Rj:=@List.take_succ_eq_append_getElem
def Rk:=@UInt8.toNat_inj
def Rl:=@List.drop_length
def Rm:=@List.take_take
def Rn:=@List.set_append_right
def Rp:=@Nat.mul_comm
def Rq:=@List.mergeSort_perm
def Rr:=@List.take_zero
def Uj:=@List.drop_take
def Uk:=@List.any_eq_true
def Ul:=@List.size_toArray
def Um:=@Array.toArray_toList
def Un:=@Nat.le_add_right
def Uo:=@List.singleton_append
def Uq:=@Array.getElem?_append_left
def Ur:=@Array.getElem?_toList
def Us:=@Nat.mul_le_mul_right
def Ut:=@List.flatMap_append
def Uu:=@List.count_append
def Uv:=@List.idxOf?_eq_none_iff
def Uw:=@Nat.beq_refl
def Ux:=@List.getElem?_set_ne
def Uy:=@Nat.lt_succ_self
def Uz:=@List.take_succ_cons
def YA:=@List.getElem_cons_drop
def YB:=@Option.map_eq_some_iff
def YC:=@Array.toList_setIfInBounds
def YD:=@Array.length_toList
def YE:=@List.all_append
def YF:=@List.mem_of_mem_take
def YH:=@Nat.mod_eq_of_lt
def YI:=@List.not_mem_nil
def YJ:=@Nat.add_le_add_left
def YM:=@List.length_mergeSort
def YN:=@List.pairwise_mergeSort
def YO:=@List.getElem?_replicate
def YP:=@List.flatten_cons
def YQ:=@List.mem_take_iff_getElem
def YR:=@Int.natCast_nonneg
def YS:=@List.getElem?_cons_zero
def YT:=@List.perm_iff_count
def YU:=@List.filter_cons
def YV:=@List.mem_flatten
def YW:=@List.findIdx?_eq_some_iff_getElem
def mI:=@Array.getElem?_append
def mJ:=@Option.isSome_iff_ne_none
def mK:=@Array.getElem?_eq_none
def mL:=@List.eq_nil_iff_forall_not_mem
def mM:=@List.idxOf?_eq_some_iff
def mN:=@List.mem_or_eq_of_mem_set
def mO:=@List.findIdx?_eq_none_iff
def mP:=@List.dropLast_concat_getLast
def R6:List (Nat×Value)->Nat->Option Value
 |[],_=>none
 |(s,v)::E,t=>match Nat.beq s t with
  |true=>some v
  |false=>R6 E t
def ev(E:List (Nat×Value)):Operand->Option Value
 |.tmp t=>R6 E t
 |.const v=>some v
 |.global g=>some (.pointer (some ⟨g,0,none⟩))
 |.func f=>some (.func (.func f) #[] #[])
def Gb(E:List (Nat×Value))(d:Option Tmp)(v:Value):List (Nat×Value):=match d with
 |some t=>(t,v)::E
 |none=>E
def FQ(n:Nat):Option Tmp->Bool
 |some t=>Nat.blt t n
 |none=>true
structure U2(n:Nat)(E:List (Nat×Value))(a:Act):Prop where
 size:a.tmps.size=n
 get:∀t v,R6 E t=some v->a.tmps[t]?=some v
section
variable{n:Nat}{E E':List (Nat×Value)}{a:Act}
theorem U2.eval(h:U2 n E a){x:Operand}{v:Value}(hx:ev E x=some v):a.eval x=v:=by
 cases x with
 |tmp t=>simp[ev] at hx;simp[Act.eval,h.get t v hx]
 |const u=>simpa[ev,Act.eval] using hx
 |global g=>simpa[ev,Act.eval] using hx
 |func f=>simpa[ev,Act.eval] using hx
theorem KF(t s:Nat)(v:Value)(E:X0):R6 ((s,v)::E) t=if s=t then some v else R6 E t:=by
 show(match Nat.beq s t with|true=>some v|false=>R6 E t)=_;by_cases h:s=t
 ·subst h;simp
 ·have:Nat.beq s t=false:=by
   cases hb:Nat.beq s t
   ·rfl
   ·exact absurd (DK hb) h
  simp[this,h]
theorem U2.put(h:U2 n E a){d:Option Tmp}{v:Value}(hd:FQ n d=true):U2 n (Gb E d v) (a.put d v):=by
 cases d with
 |none=>exact h
 |some d=>
  have hlt:d<n:=by simpa[FQ,Nat.blt_eq] using hd
  refine⟨by simp[Act.put,h.size],λt u hu=>?_⟩;simp only[Gb,KF] at hu;simp only[Act.put,Ly,h.size];split at hu
  ·rename_i e;subst e;simp[hlt];simpa using hu
  ·rename_i e;simp[e,h.get t u hu]
def Eu:List (Nat×Value)->List (Nat×Value)->Prop
 |[],_=>True
 |p::E',E=>R6 E p.1=some p.2/\Eu E' E
theorem Zy:∀{E' E:X0},Eu E' E->∀t v,R6 E' t=some v->R6 E t=some v
 |[],_,_,t,v,h=>by simp[R6] at h
 |(s,u)::E',E,h,t,v,hv=>by
  rw[KF] at hv;split at hv
  ·rename_i e;subst e;cases hv;exact h.1
  ·exact Zy h.2 t v hv
theorem U2.Jv(h:U2 n E a)(he:Eu E' E):U2 n E' a:=⟨h.size,λt v hv=>h.get t v (Zy he t v hv)⟩
end
inductive C2 where
 |B1 (g:Nat) (t:TypeId) (cs:Array Value)
 |row (v:Value) (e:TypeId) (size n:Nat) (xs:List Value)
 |OJ (v:Value) (e:TypeId) (n:Nat) (xs:List Value)
 |obj (g:Nat) (o:Obj)
def RW:Obj->Bool
 |.loop _|.deferred _=>false
 |_=>true
def C2.blocks:C2->List Nat
 |.B1 g _ _=>[g]
 |.row v _ _ _ _=>v.ownBlock.toList
 |.OJ v _ _ _=>v.ownBlock.toList
 |.obj g _=>[g]
def World.ad1(w:World)(base:Nat)(e:TypeId)(v:Value)(n:Nat)(xs:List Value):Prop:=
 xs.length=n/\((v=.slice none 0 0/\n=0)\/
  ∃g o cap cur,v=.slice (some ⟨g,o,none⟩) n cap/\base<=g/\w.heap[g]?=some (.cells cur e (0,0))/\n<=cap/\cap<=maxLen/\o+cap<=cur.size/\(cur.toList.drop o).take n=xs)
def C2.ok(w:World):C2->Prop
 |.B1 g t cs=>w.heap[g]?=some (.cells cs t)
 |.row v e size n xs=>w.ownsRow 0 e size v n xs
 |.OJ v e n xs=>World.ad1 w 0 e v n xs
 |.obj g o=>w.heap[g]?=some o/\RW o=true
def F1(H:List C2):List Nat:=H.flatMap C2.blocks
inductive Mk where
 |lp (D:Nat)
 |fn (d:Deferred)
def Mk.isAt:Mk->Bool
 |.lp _=>true
 |.fn _=>false
abbrev Iy(l:List Mk):List Nat:=l.filterMap λ|.lp D=>some D|.fn _=>none
structure I3 where
 W:World
 L:Nat->Prop
 M:Nat->Prop
 w:World
 F:Nat->Prop
 marks:List Mk
structure M0(w:World)(F:Nat->Prop)(w':World):Prop where
 os:w'.os=w.os
 tape:w'.tape=w.tape
 output:w'.output=w.output
 size:w.heap.size<=w'.heap.size
 old:∀k,k<w.heap.size->¬F k->w'.heap[k]?=w.heap[k]?
structure B7(C:I3)(H:List C2)(w:World):Prop where
 X4:M0 C.W C.L w
 base:M0 C.w C.F w
 ok:∀r∈H,r.ok w
 nodup:(F1 H).Nodup
 X8:∀k∈F1 H,(C.W.heap.size<=k\/C.M k)/\(C.w.heap.size<=k\/C.F k)
 sub:∀k,C.M k->C.L k
 mark:(Iy C.marks).Nodup/\∀D∈Iy C.marks,C.W.heap.size<=D/\w.heap[D]?=some (.deferred (some []))
def OD:Mk->Deferred
 |.lp D=>{target:=.collected D,args:= #[]}
 |.fn d=>d
def DF(C:I3)(a:Act):Prop:=a.defers=C.marks.map OD
def At(n:Nat)(E:List (Nat×Value))(C:I3)(H:List C2)(K:Act->World->Prop):Prop:=∀a w,U2 n E a->DF C a->B7 C H w->K a w
class WZ (P:Program) where
 ok:P.follows .mixedOrders=true
theorem DF.put{C:I3}{a:Act}(h:DF C a)(d:Option Tmp)(v:Value):DF C (a.put d v):=by
 cases d<;>exact h
section
variable{w w':World}{F:Nat->Prop}
theorem M0.refl(w:B6)(F:Nat->Prop):M0 w F w:=⟨rfl,rfl,rfl,L6 _,λ_ _ _=>rfl⟩
theorem M0.trans{w'':B6}{G:Nat->Prop}(h:M0 w F w')(h':M0 w' G w'')(hg:∀k,k<w.heap.size->G k->F k):M0 w F w'':=
 ⟨h'.os.trans h.os,h'.tape.trans h.tape,h'.output.trans h.output,j7 h.size h'.size,λk hk hF=>
  (h'.old k (ID hk h.size) (λhG=>hF (hg k hk hG))).trans (h.old k hk hF)⟩
theorem M0.VW{B:Nat}(h:Below B w w')(hB:∀k,k<w.heap.size->B<=k->F k):M0 w F w':=
 ⟨h.os,h.tape,h.output,h.size,λk hk hF=>h.block k (by
  rcases w7 k B with h1|h1
  ·exact h1
  ·exact absurd (hB k hk h1) hF)⟩
theorem M0.toBelow(h:M0 w (λ_=>False) w'):Below w.heap.size w w':=⟨h.os,h.tape,h.output,h.size,λk hk=>h.old k hk (λh=>h)⟩
theorem M0.mono{G:Nat->Prop}(h:M0 w F w')(hg:∀k,k<w.heap.size->F k->G k):M0 w G w':=
 ⟨h.os,h.tape,h.output,h.size,λk hk hG=>h.old k hk (λhF=>hG (hg k hk hF))⟩
end
theorem OO{w:B6}{r:C2}(h:r.ok w):∀k∈r.blocks,k<w.heap.size:=by
 intro k hk;cases r with
 |B1 g t cs=>
  simp[C2.blocks] at hk;subst hk;exact(T1.1 h).1
 |row v e size n xs=>
  simp[C2.blocks] at hk;exact(World.ownsRow.lt h k hk).2
 |OJ v e n xs=>
  simp[C2.blocks] at hk;rcases h.2 with⟨rfl,_⟩|⟨g,o,cap,cur,rfl,_,hg,_⟩
  ·simp[Value.ownBlock] at hk
  ·simp[Value.ownBlock] at hk;subst hk;exact(T1.1 hg).1
 |obj g o=>
  simp[C2.blocks] at hk;subst hk;exact(T1.1 h.1).1
theorem Ge{w w':B6}{r:C2}(h:r.ok w)(hs:w.heap.size<=w'.heap.size)(hb:∀k∈r.blocks,w'.heap[k]?=w.heap[k]?):r.ok w':=by
 cases r with
 |B1 g t cs=>exact(hb g (by simp[C2.blocks])).trans h
 |row v e size n xs=>
  refine⟨h.1,?_⟩;rcases h.2 with hn|⟨g,cap,cur,rfl,hb',hgg,rest⟩
  ·exact .inl hn
  ·exact .inr ⟨g,cap,cur,rfl,hb',(hb g (by simp[C2.blocks,Value.ownBlock])).trans hgg,rest⟩
 |OJ v e n xs=>
  refine⟨h.1,?_⟩;rcases h.2 with hn|⟨g,o,cap,cur,rfl,hb',hgg,rest⟩
  ·exact .inl hn
  ·exact .inr ⟨g,o,cap,cur,rfl,hb',(hb g (by simp[C2.blocks,Value.ownBlock])).trans hgg,rest⟩
 |obj g o=>exact⟨(hb g (by simp[C2.blocks])).trans h.1,h.2⟩
theorem Bm{H:List C2}{k:Nat}:k∈F1 H↔∃r∈H,k∈r.blocks:=by simp[F1,List.mem_flatMap]
section
variable{C:I3}{H:List C2}{w w':World}
theorem B7.lt(h:B7 C H w):∀k∈F1 H,k<w.heap.size:=by
 intro k hk;obtain⟨r,hr,hk⟩:=Bm.1 hk;exact OO (h.ok r hr) k hk
theorem B7.below(h:B7 C H w)(hb:Below w.heap.size w w'):B7 C H w':=
 ⟨h.X4.trans (G:=λ_=>False) (M0.VW hb (λk hk hB=>by omega)) (λ_ _ h=>h.elim),
  h.base.trans (G:=λ_=>False) (M0.VW hb (λk hk hB=>by omega)) (λ_ _ h=>h.elim),
  λr hr=>Ge (h.ok r hr) hb.size (λk hk=>hb.block k (OO (h.ok r hr) k hk)),h.nodup,h.X8,h.sub,
  h.mark.1,λD hD=>⟨(h.mark.2 D hD).1,(hb.block D (T1.1 (h.mark.2 D hD).2).1).trans (h.mark.2 D hD).2⟩⟩
theorem Zg{r:C2}(h:r.ok w):∀k∈r.blocks,∃o,w.heap[k]?=some o/\RW o=true:=by
 intro k hk;cases r with
 |B1 g t cs=>simp[C2.blocks] at hk;subst hk;exact⟨_,h,rfl⟩
 |row v e size n xs=>
  simp[C2.blocks] at hk;rcases h.2 with⟨rfl,_⟩|⟨g,cap,cur,rfl,_,hg,_⟩
  ·simp[Value.ownBlock] at hk
  ·simp[Value.ownBlock] at hk;subst hk;exact⟨_,hg,rfl⟩
 |OJ v e n xs=>
  simp[C2.blocks] at hk;rcases h.2 with⟨rfl,_⟩|⟨g,o,cap,cur,rfl,_,hg,_⟩
  ·simp[Value.ownBlock] at hk
  ·simp[Value.ownBlock] at hk;subst hk;exact⟨_,hg,rfl⟩
 |obj g o=>simp[C2.blocks] at hk;subst hk;exact⟨o,h.1,h.2⟩
theorem B7.Tt(h:B7 C H w){D:Nat}(hD:D∈Iy C.marks):D∉F1 H:=λhb=>by
 obtain⟨r,hr,hk⟩:=Bm.1 hb;obtain⟨o,hc,ht⟩:=Zg (h.ok r hr) D hk;rw[(h.mark.2 D hD).2] at hc;cases hc;cases ht
theorem B7.drew(h:B7 C H w):B7 C H w.drew:=h.below (Below.drew (Below.refl _ _))
theorem B7.alloc(h:B7 C H w)(o:Obj):B7 C H (w.alloc o):=h.below (Below.alloc (Below.refl _ _) (L6 _) o)
theorem B7.VO{H':List C2}(h:B7 C H w)(hf:M0 w (λk=>k∈F1 H) w')(ok:∀r∈H',r.ok w')(nd:(F1 H').Nodup)(hs:∀k∈F1 H',k∈F1 H\/w.heap.size<=k):B7 C H' w':=
 ⟨h.X4.trans hf (λk hk hk'=>(h.X8 k hk').1.elim (λh1=>absurd h1 (by omega)) (h.sub k)),
  h.base.trans hf (λk hk hk'=>(h.X8 k hk').2.elim (λh1=>absurd h1 (by omega)) id),ok,nd,λk hk=>by
  rcases hs k hk with h1|h1
  ·exact h.X8 k h1
  ·exact⟨.inl (j7 h.X4.size h1),.inl (j7 h.base.size h1)⟩,h.sub,
  h.mark.1,λD hD=>⟨(h.mark.2 D hD).1,(hf.old D (T1.1 (h.mark.2 D hD).2).1 (h.Tt hD)).trans (h.mark.2 D hD).2⟩⟩
theorem B7.new(h:B7 C H w)(cs:J2)(t:TypeId):B7 C (.B1 w.heap.size t cs::H) (w.alloc (.cells cs t)):=by
 have h1:=h.alloc (.cells cs t);have hn:w.heap.size∉F1 H:=λhm=>by have:=h.lt _ hm;omega
 refine⟨h1.X4,h1.base,?_,?_,?_,h1.sub,h1.mark⟩
 ·intro r hr;rcases BD.1 hr with rfl|hr
  ·exact heap_alloc_new w _
  ·exact h1.ok r hr
 ·show(w.heap.size::F1 H).Nodup;exact Pb.2 ⟨hn,h.nodup⟩
 ·intro k hk;rcases BD.1 (show k∈w.heap.size::F1 H from hk) with rfl|hk
  ·exact⟨.inl h.X4.size,.inl h.base.size⟩
  ·exact h.X8 k hk
theorem B7.B1(h:B7 C H w){g:Nat}{t:TypeId}{cs:J2}(hm:C2.B1 g t cs∈H):w.heap[g]?=some (.cells cs t):=h.ok _ hm
theorem B7.get(h:B7 C H w){i:Nat}{g:Nat}{t:TypeId}{cs:J2}(hi:H[i]?=some (.B1 g t cs)):w.heap[g]?=some (.cells cs t):=h.ok _ (CP hi)
theorem B7.cell(h:B7 C H w){i:Nat}{g:Nat}{t:TypeId}{cs:J2}(hi:H[i]?=some (.B1 g t cs))(j:Nat):w.cell? ⟨g,j,none⟩=cs[j]?:=cell_of_row w g j cs t (0,0) (h.get hi)
theorem B7.free(h:B7 C H w){i:Nat}{g:Nat}{t:TypeId}{cs:J2}(hi:H[i]?=some (.B1 g t cs))(j:Nat):w.frozen? ⟨g,j,none⟩=false:=by
 have:=h.get hi;simp[World.frozen?,this]
theorem DY(A B:List C2):F1 (A++B)=F1 A++F1 B:=by simp[F1]
theorem Kc(r:C2)(B:List C2):F1 (r::B)=r.blocks++F1 B:=by simp[F1]
theorem B7.split{A B:List C2}{r:C2}(h:B7 C (A++r::B) w):(∀k∈r.blocks,k∉F1 A/\k∉F1 B):=by
 have:=h.nodup;rw[DY,Kc] at this;intro k hk;constructor
 ·intro hA;exact(FB.1 this).2.2 _ hA _ (Lz _ hk) rfl
 ·intro hB;exact(FB.1 (FB.1 this).2.1).2.2 _ hk _ hB rfl
theorem B7.put(h:B7 C H w){i:Nat}{g:Nat}{t:TypeId}{cs:J2}(hi:H[i]?=some (.B1 g t cs))(j:Nat)(u:Value):
  B7 C (H.set i (.B1 g t (cs.setIfInBounds j u))) (w.setCell ⟨g,j,none⟩ u):=by
 have hlt:i<H.length:=(N5.1 hi).1;have hsp:H=H.take i++.B1 g t cs::H.drop (i+1):=by
  rw[<-(N5.1 hi).2,YA,FZ]
 have hset:H.set i (.B1 g t (cs.setIfInBounds j u))=H.take i++.B1 g t (cs.setIfInBounds j u)::H.drop (i+1):=List.set_eq_take_append_cons_drop.trans (by simp[hlt]);have hb:F1 (H.set i (.B1 g t (cs.setIfInBounds j u)))=F1 H:=by
  rw[hset]
  conv=>rhs;rw[hsp]
  simp[DY,Kc,C2.blocks]
 have hne:=B7.split (hsp▸h) g (by simp[C2.blocks]);have hg:g∈F1 H:=Bm.2 ⟨_,CP hi,by simp[C2.blocks]⟩;have hfar:∀k,k≠g->(w.setCell ⟨g,j,none⟩ u).heap[k]?=w.heap[k]?:=λk hk=>Below.heap_setCell w _ u k hk;refine h.VO ⟨rfl,rfl,rfl,by simp[World.setCell],λk hk hn=>hfar k (λe=>hn (e▸hg))⟩ ?_ (hb▸h.nodup) (λk hk=>.inl (hb▸hk));intro r hr;rw[hset] at hr;rcases q0.1 hr with hr|hr
 ·exact Ge (h.ok r (by rw[hsp];exact Lz _ hr)) (by simp[World.setCell]) λk hk=>hfar k λe=>hne.1 (Bm.2 ⟨r,hr,e▸hk⟩)
 ·rcases BD.1 hr with rfl|hr
  ·have:=h.get hi;show(w.setCell ⟨g,j,none⟩ u).heap[g]?=_;simp[World.setCell,Ke,this]
  ·exact Ge (h.ok r (by rw[hsp];exact Iz _ (Cj _ hr))) (by simp[World.setCell]) λk hk=>hfar k λe=>hne.2 (Bm.2 ⟨r,hr,e▸hk⟩)
end
def fe(r:Option Nat):Fence:={Fence.wide with round:=r}
theorem QE{r:Option Nat}{n:Nat}{P:Program}{f:FuncId}{args:J2}{w:B6}{R:Ending->B6->Prop}:CallsIn (fe r) n P f args w R↔Calls P f args w R:=
 (callsIn_wide (n:=n) (P:=P) (f:=f) (args:=args) (w:=w) (R:=R))
def F8(r:Option Nat)(P:Program)(c:Code)(Q:Exit->Act->World->Prop):Act->World->Prop:=c.wpIn (fe r) 0 P Q
def D3(r:Option Nat)(P:Program)(ops:Array Oper)(Q:Exit->Act->World->Prop):List Oper->Act->World->Prop:=wpListIn (fe r) 0 P ops Q
theorem Vp{P:Program}{c:Code}{Q:Exit->Act->B6->Prop}{a:Act}{w:B6}:F8 none P c Q a w↔c.wp P Q a w:=wpIn_wide
def Op.X9:Op->Bool
 |.defer _=>true
 |_=>false
theorem Oj{r:Option Nat}{ρ:Operand->Value}{o:Oper}(h:Op.X9 o.op=false):o.semAt r ρ=execOp ρ o:=by
 cases r with
 |none=>rfl
 |some l=>exact Oper.semAt_some l ρ o λc hc=>by rw[hc] at h;cases h
theorem KN{r:Option Nat}{P:Program}{ops:Array Oper}{Q:Exit->Act->B6->Prop}{a:Act}{w:B6}{rest:List Oper}{o:Oper}(hg:o.guard=none)(hd:Op.X9 o.op=false)
  (h:o.uponIn (fe r) 0 P a (D3 r P ops Q rest) Q ((execOp a.eval o).run P w)):D3 r P ops Q (o::rest) a w:=
 wpListIn_plain hg λK hK=>⟨λ_ _=>trivial,by
  rw[Oj hd];generalize (execOp a.eval o).run P w=res at h;have hm:=Oper.wpIn_mono (F:=fe r) (n:=0) (P:=P) (Q:=Q) (o:=o) (a:=a) (w:=w) (K:=D3 r P ops Q rest) (K':=K) hK;cases res with
  |ok x w'=>
   cases x<;>simp only[Oper.uponIn] at h⊢<;>
    first
     |exact hK _ _ h
     |exact⟨h.1,CallsIn.mono h.2 (λe w'' he=>by cases e<;>first|exact hK _ _ he|exact he)⟩
     |exact⟨h.1,RowsIn.mono h.2 (λ_ _ he=>hK _ _ he)⟩
     |exact⟨h.1,RoundIn.mono h.2 (λe w'' he=>by cases e<;>first|exact hK _ _ he|exact he)⟩
  |halt x w'=>cases x<;>simp only[Oper.uponIn] at h⊢<;>exact h⟩
theorem VC{r:Option Nat}{P:Program}{ops:Array Oper}{Q:Exit->Act->B6->Prop}{a:Act}{w:B6}{rest:List Oper}{o:Oper}:D3 r P ops Q (o::rest) a w↔
  if Region.wanted o (yielded ops a.tmps) then o.wpIn (fe r) 0 P a w (D3 r P ops Q rest) Q else D3 r P ops Q rest (a.put o.dst undef) w:=by
 unfold D3;rw[wpListIn];split
 ·exact Iff.rfl
 ·exact⟨λh=>h.2,λh=>⟨λ_ _=>trivial,h⟩⟩
theorem Lr{r:Option Nat}{P:Program}{o:Oper}{a:Act}{w:B6}{next:Act->B6->Prop}{Q:Exit->Act->B6->Prop}{f:FuncId}{args:J2}{R:Ending->B6->Prop}
  (h:Calls P f args w R)(hR:∀e w',R e w'->∃v,e=.returned v/\next (a.put o.dst v) w'):o.uponIn (fe r) 0 P a next Q (.ok (.enter f args) w):=by
 rw[Oper.uponIn_enter];refine⟨λhd=>by simp[fe,Fence.wide] at hd,QE.2 (h.mono λe w' he=>?_)⟩;obtain⟨v,rfl,hv⟩:=hR e w' he;exact hv
section
variable{P:Program}{r:Option Nat}{n:Nat}{E E':List (Nat×Value)}{C:I3}{H:List C2}{Q:Exit->Act->World->Prop}{K:Act->World->Prop}{ops:Array Oper}{rest:List Oper}
theorem Ai(he:Eu E' E)(h:At n E' C H K):At n E C H K:=λa w hf hd ho=>h a w (hf.Jv he) hd ho
theorem x4{C':I3}{H':List C2}(hm:C'.marks=C.marks)(ho:∀w,B7 C H w->B7 C' H' w)(h:At n E C' H' K):At n E C H K:=λa w hf hd hw=>h a w hf (by unfold DF at*;rw[hm];exact hd) (ho w hw)
def I3.re(C:I3)(w:World)(H:List C2):I3:={C with w:=w,F:=λk=>k∈F1 H}
theorem B7.re{w:B6}(h:B7 C H w):B7 (C.re w H) H w:=
 ⟨h.X4,M0.refl _ _,h.ok,h.nodup,λk hk=>⟨(h.X8 k hk).1,.inr hk⟩,h.sub,h.mark⟩
theorem aZ(h:∀w,B7 C H w->At n E (C.re w H) H K):At n E C H K:=λa w hf hd hw=>h w hw a w hf hd hw.re
theorem mE{H':List C2}(hs:H'.Sublist H):(F1 H').Sublist (F1 H):=by
 unfold F1
 induction hs with
 |slnil=>exact Q5 _
 |cons a _ ih=>rw[DL];exact ih.trans (Pd _ _)
 |cons_cons a _ ih=>rw[DL,DL];exact(Q5 _).append ih
theorem B7.sublist{w:B6}{H':List C2}(hs:H'.Sublist H)(h:B7 C H w):B7 C H' w:=
 ⟨h.X4,h.base,λr hr=>h.ok r (hs.mem hr),(mE hs).nodup h.nodup,λk hk=>h.X8 k ((mE hs).mem hk),h.sub,h.mark⟩
theorem C8{x y:Code}(h:At n E C H (F8 r P x (Exit.then (F8 r P y Q) Q))):At n E C H (F8 r P (Code.seq x y) Q):=λa w hf hd ho=>wpIn_seq (h a w hf hd ho)
theorem C7{id:Nat}{c:Code}(h:At n E C H (F8 r P c (Exit.inBlock id Q))):At n E C H (F8 r P (Code.block id c) Q):=λa w hf hd ho=>wpIn_block (h a w hf hd ho)
theorem P5(h:At n E C H (Q .normal)):At n E C H (F8 r P Code.skip Q):=λa w hf hd ho=>wpIn_skip (h a w hf hd ho)
theorem S4{id:Nat}(h:At n E C H (Q (.exit id))):At n E C H (F8 r P (Code.exit id) Q):=λa w hf hd ho=>wpIn_exit (h a w hf hd ho)
theorem D4(h:At n E C H (Q .ret)):At n E C H (F8 r P Code.ret Q):=λa w hf hd ho=>wpIn_ret (h a w hf hd ho)
theorem PW{c:Operand}{x y:Code}{t:Bool}(hc:ev E c=some (.bool t))(ht:t=true->At n E C H (F8 r P x Q))(hf:t=false->At n E C H (F8 r P y Q)):At n E C H (F8 r P (Code.cond c x y) Q):=
 λa w hfi hd ho=>wpIn_cond_split (hfi.eval hc) (λh=>ht h a w hfi hd ho) (λh=>hf h a w hfi hd ho)
theorem C4{c:Operand}{x y:Code}{p:Prop}[Decidable p](hc:ev E c=some (.bool (decide p)))(ht:p->At n E C H (F8 r P x Q))(hf:¬p->At n E C H (F8 r P y Q)):At n E C H (F8 r P (Code.cond c x y) Q):=
 PW hc (λh=>ht (of_decide_eq_true h)) (λh=>hf (of_decide_eq_false h))
theorem fO{c:Operand}{x y:Code}{b:Bool}(hc:ev E c=some (.bool (!b)))(ht:b=false->At n E C H (F8 r P x Q))(hf:b=true->At n E C H (F8 r P y Q)):At n E C H (F8 r P (Code.cond c x y) Q):=
 PW hc (λh=>ht (by simpa using h)) (λh=>hf (by simpa using h))
theorem R1{c:Operand}{x y:Code}(hc:ev E c=some (.bool true))(ht:At n E C H (F8 r P x Q)):At n E C H (F8 r P (Code.cond c x y) Q):=
 PW hc (λ_=>ht) (λh=>by cases h)
theorem M8{c:Operand}{x y:Code}(hc:ev E c=some (.bool false))(ht:At n E C H (F8 r P y Q)):At n E C H (F8 r P (Code.cond c x y) Q):=
 PW hc (λh=>by cases h) (λ_=>ht)
theorem k8{c:Operand}{x y:Code}{t:Bool}(hc:ev E c=some (.bool t))(ht:t=true)(k:At n E C H (F8 r P x Q)):At n E C H (F8 r P (Code.cond c x y) Q):=
 PW hc (λ_=>k) (λh=>by rw[ht] at h;cases h)
theorem Y7{c:Operand}{x y:Code}{t:Bool}(hc:ev E c=some (.bool t))(ht:t=false)(k:At n E C H (F8 r P y Q)):At n E C H (F8 r P (Code.cond c x y) Q):=
 PW hc (λh=>by rw[ht] at h;cases h) (λ_=>k)
theorem C5{id:Nat}{l:List Oper}(h:At n E C H (D3 r P l.toArray Q l)):At n E C H (F8 r P (Code.region id l.toArray false) Q):=
 λa w hf hd ho=>wpIn_region_lit (h a w hf hd ho)
theorem H6(h:At n E C H (Q .normal)):At n E C H (D3 r P ops Q []):=λa w hf hd ho=>wpListIn_nil (h a w hf hd ho)
theorem E2(h:At n E C H K):At n E C H (Exit.then K Q .normal):=h
theorem J0{id:Nat}(h:At n E C H (Q (.exit id))):At n E C H (Exit.then K Q (.exit id)):=h
theorem K0(h:At n E C H (Q .ret)):At n E C H (Exit.then K Q .ret):=h
theorem F4{id:Nat}(h:At n E C H (Q .normal)):At n E C H (Exit.inBlock id Q .normal):=h
theorem DO{id:Nat}(h:At n E C H (Q .ret)):At n E C H (Exit.inBlock id Q .ret):=h
theorem S5{id:Nat}(h:At n E C H (Q .normal)):At n E C H (Exit.inBlock id Q (.exit id)):=λa w hf hd ho=>by
 have:=h a w hf hd ho;simpa[Exit.inBlock] using this
theorem GI{id id':Nat}(hne:Nat.beq id' id=false)(h:At n E C H (Q (.exit id'))):At n E C H (Exit.inBlock id Q (.exit id')):=λa w hf hd ho=>by
 have:=h a w hf hd ho;have hne':¬id'=id:=λe=>by subst e;simp at hne
 simpa[Exit.inBlock,hne'] using this
theorem OC{c:Code}(h:At n E C H (F8 none P c (Exit.noGoto Q))):At n E C H (F8 none P (Code.scope c) Q):=λa w hf hd ho=>Vp.2 (wp_scope_straight (Vp.1 (h a w hf hd ho)))
theorem NK(h:At n E C H (Q .ret)):At n E C H (Exit.noGoto Q .ret):=h
theorem al9{a:Act}{w:B6}{c:Code}(I:Nat->Act->B6->Prop)(n₀:Nat)(h₀:I n₀ a w)
  (round:∀n a w,I n a w->F8 r P c (Exit.then (λa' w'=>∃n',n'<n/\I n' a' w') Q) a w):F8 r P (Code.loop c) Q a w:=by
 refine wpIn_loop (λa w=>∃n,I n a w) (λa w=>leastOf (λn=>I n a w)) ⟨n₀,h₀⟩ ?_;intro a w hI;refine wpIn_mono (round _ a w (leastOf_spec hI).1) ?_;intro e a' w' hq;cases e with
 |normal=>
  obtain⟨n',hlt,hI'⟩:=hq;exact show(∃n,I n a' w')/\leastOf (λn=>I n a' w')<leastOf (λn=>I n a w) from⟨⟨n',hI'⟩,Nat.lt_of_le_of_lt ((leastOf_spec ⟨n',hI'⟩).2 n' hI') hlt⟩
 |exit id=>exact hq
 |goto l=>exact hq
 |ret=>exact hq
 |panic ch=>exact hq
 |outgrown=>exact hq
def L3{σ:Type}(n:Nat)(I:σ->Prop)(E':σ->List (Nat×Value))(C':σ->I3)(H':σ->List C2)(μ:σ->Nat)(m:Nat)(a:Act)(w:World):Prop:=∃s',I s'/\μ s'<m/\U2 n (E' s') a/\DF (C' s') a/\B7 (C' s') (H' s') w
theorem UV{σ:Type}{c:Code}(I:σ->Prop)(E':σ->List (Nat×Value))(C':σ->I3)(H':σ->List C2)(μ:σ->Nat)
  (init:∀w,B7 C H w->∃s0,I s0/\Eu (E' s0) E/\(C' s0).marks=C.marks/\B7 (C' s0) (H' s0) w)
  (round:∀s,I s->At n (E' s) (C' s) (H' s) (F8 r P c (Exit.then (L3 n I E' C' H' μ (μ s)) Q))):At n E C H (F8 r P (Code.loop c) Q):=by
 intro a w hf hd ho;obtain⟨s0,hi,he,hm,ho'⟩:=init w ho;refine al9 (λm a w=>∃s,I s/\μ s=m/\U2 n (E' s) a/\DF (C' s) a/\B7 (C' s) (H' s) w) (μ s0) ⟨s0,hi,rfl,hf.Jv he,by unfold DF at*;rw[hm];exact hd,ho'⟩ ?_;rintro m a w ⟨s,hi,rfl,hf,hd,ho⟩;refine wpIn_mono (round s hi a w hf hd ho) ?_;intro e a' w' hq;cases e with
 |normal=>
  obtain⟨s',hi',hlt,hf',hd',ho'⟩:=hq;exact⟨μ s',hlt,s',hi',rfl,hf',hd',ho'⟩
 |exit id=>exact hq
 |goto l=>exact hq
 |ret=>exact hq
 |panic ch=>exact hq
 |outgrown=>exact hq
theorem DG{σ:Type}{c:Code}(I:σ->Prop)(E':σ->List (Nat×Value))(μ:σ->Nat)(s0:σ)(hi:I s0)(he:Eu (E' s0) E)
  (round:∀s,I s->At n (E' s) C H (F8 r P c (Exit.then (L3 n I E' (λ_=>C) (λ_=>H) μ (μ s)) Q))):At n E C H (F8 r P (Code.loop c) Q):=
 UV I E' (λ_=>C) (λ_=>H) μ (λw ho=>⟨s0,hi,he,rfl,ho⟩) round
theorem l9{σ:Type}{c:Code}(I:σ->Prop)(E':σ->List (Nat×Value))(H':σ->List C2)(μ:σ->Nat)(init:∀w,B7 C H w->∃s0,I s0/\Eu (E' s0) E/\B7 C (H' s0) w)
  (round:∀s,I s->At n (E' s) C (H' s) (F8 r P c (Exit.then (L3 n I E' (λ_=>C) H' μ (μ s)) Q))):At n E C H (F8 r P (Code.loop c) Q):=
 UV I E' (λ_=>C) H' μ (λw ho=>by obtain⟨s0,h1,h2,h3⟩:=init w ho;exact⟨s0,h1,h2,rfl,h3⟩) round
theorem RR{σ:Type}{I:σ->Prop}{E':σ->List (Nat×Value)}{C':σ->I3}{H':σ->List C2}{μ:σ->Nat}{m:Nat}(s':σ)(hi:I s')(hm:μ s'<m)(he:Eu (E' s') E)(hk:(C' s').marks=C.marks)(ho:∀w,B7 C H w->B7 (C' s') (H' s') w):
  At n E C H (L3 n I E' C' H' μ m):=λa w hf hd hw=>⟨s',hi,hm,hf.Jv he,by unfold DF at*;rw[hk];exact hd,ho w hw⟩
theorem DB{σ:Type}{I:σ->Prop}{E':σ->List (Nat×Value)}{μ:σ->Nat}{m:Nat}(s':σ)(hi:I s')(hm:μ s'<m)(he:Eu (E' s') E):
  At n E C H (L3 n I E' (λ_=>C) (λ_=>H) μ m):=λa w hf hd hw=>⟨s',hi,hm,hf.Jv he,hd,hw⟩
theorem W5{σ:Type}{I:σ->Prop}{E':σ->List (Nat×Value)}{C':σ->I3}{H':σ->List C2}{μ:σ->Nat}{m:Nat}(h:∀w,B7 C H w->∃s',I s'/\μ s'<m/\Eu (E' s') E/\(C' s').marks=C.marks/\B7 (C' s') (H' s') w):
  At n E C H (L3 n I E' C' H' μ m):=λa w hf hd hw=>by
 obtain⟨s',h0,h1,h2,h4,h3⟩:=h w hw;exact⟨s',h0,h1,hf.Jv h2,by unfold DF at*;rw[h4];exact hd,h3⟩
def L1(P:Program)(n:Nat)(E:List (Nat×Value))(C:I3)(H:List C2)(o:Oper)(v:Value):Prop:=∀a w,U2 n E a->B7 C H w->(execOp a.eval o).run P w=.ok (.value v) w
theorem rS{o:Oper}{v:Value}(h:L1 P n E C H o v)(hg:o.guard=none)(hn:Op.X9 o.op=false)(hd:FQ n o.dst=true)(k:At n (Gb E o.dst v) C H (D3 r P ops Q rest)):At n E C H (D3 r P ops Q (o::rest)):=by
 intro a w hf hm ho;refine KN hg hn ?_;rw[h a w hf ho];exact k _ _ (hf.put hd) (hm.put _ _) ho
theorem o0{d:Nat}{op:Op}{ty:TypeId}{pos:String}{after:Array Edge}{v:Value}(h:L1 P n E C H ⟨some d,op,ty,pos,after,none⟩ v)(hn:Op.X9 op=false)(hd:Nat.blt d n=true)(k:At n ((d,v)::E) C H (D3 r P ops Q rest)):At n E C H (D3 r P ops Q (⟨some d,op,ty,pos,after,none⟩::rest)):=
 rS h rfl hn hd k
theorem Ie{ι:Type}{o:Oper}(v:ι->Value)(H':ι->List C2)
  (h:∀a w,U2 n E a->B7 C H w->∃i w',(execOp a.eval o).run P w=.ok (.value (v i)) w'/\B7 C (H' i) w')(hg:o.guard=none)(hn:Op.X9 o.op=false)(hd:FQ n o.dst=true)
  (k:∀i,At n (Gb E o.dst (v i)) C (H' i) (D3 r P ops Q rest)):At n E C H (D3 r P ops Q (o::rest)):=by
 intro a w hf hm ho;refine KN hg hn ?_;obtain⟨i,w',h1,h2⟩:=h a w hf ho;rw[h1];exact k i _ _ (hf.put hd) (hm.put _ _) h2
def Ic(P:Program)(n:Nat)(E:List (Nat×Value))(C:I3)(H:List C2)(o:Oper)(H':List C2):Prop:=∀a w,U2 n E a->B7 C H w->∃w',(execOp a.eval o).run P w=.ok .skip w'/\B7 C H' w'
def QP(P:Program)(n:Nat)(E:List (Nat×Value))(C:I3)(H:List C2)(o:Oper)(t:TypeId)(cs:Array Value):Prop:=∀a w,U2 n E a->B7 C H w->∃h w',(execOp a.eval o).run P w=.ok (.value (.pointer (some ⟨h,0,none⟩))) w'/\B7 C (.B1 h t cs::H) w'
theorem OW{o:Oper}{H':List C2}(h:∀a w,U2 n E a->B7 C H w->∃w',(execOp a.eval o).run P w=.ok .skip w'/\B7 C H' w')(hg:o.guard=none)(hn:Op.X9 o.op=false)(hd:FQ n o.dst=true)
  (k:At n (Gb E o.dst undef) C H' (D3 r P ops Q rest)):At n E C H (D3 r P ops Q (o::rest)):=by
 intro a w hf hm ho;refine KN hg hn ?_;obtain⟨w',h1,h2⟩:=h a w hf ho;rw[h1];exact k _ _ (hf.put hd) (hm.put _ _) h2
def f0(P:Program)(n:Nat)(E:List (Nat×Value))(C:I3)(H:List C2)(o:Oper)(f:FuncId)(args:Array Value):Prop:=
 ∀a w,U2 n E a->B7 C H w->(execOp a.eval o).run P w=.ok (.enter f args) w
theorem Ov{ι:Type}{o:Oper}{f:FuncId}{args:J2}(v:ι->Value)(H':ι->List C2)(he:f0 P n E C H o f args)
  (hc:∀w,B7 C H w->Calls P f args w λe w'=>∃i,e=.returned (v i)/\B7 C (H' i) w')(hg:o.guard=none)(hn:Op.X9 o.op=false)(hd:FQ n o.dst=true)
  (k:∀i,At n (Gb E o.dst (v i)) C (H' i) (D3 r P ops Q rest)):At n E C H (D3 r P ops Q (o::rest)):=by
 intro a w hf hm ho;refine KN hg hn ?_;rw[he a w hf ho];refine Lr (hc w ho) ?_;rintro e w' ⟨i,rfl,h2⟩;exact⟨_,rfl,k i _ _ (hf.put hd) (hm.put _ _) h2⟩
theorem av5{ι:Type}{o:Oper}{f:FuncId}{args:J2}(v:ι->Value)(H':ι->List C2)(Φ:ι->B6->Prop)(he:f0 P n E C H o f args)
  (hc:∀w,B7 C H w->Calls P f args w λe w'=>∃i,e=.returned (v i)/\B7 C (H' i) w'/\Φ i w')(hg:o.guard=none)(hn:Op.X9 o.op=false)(hd:FQ n o.dst=true)
  (k:∀i w1,B7 C (H' i) w1->Φ i w1->At n (Gb E o.dst (v i)) (C.re w1 (H' i)) (H' i) (D3 r P ops Q rest)):At n E C H (D3 r P ops Q (o::rest)):=by
 intro a w hf hm ho;refine KN hg hn ?_;rw[he a w hf ho];refine Lr (hc w ho) ?_;rintro e w' ⟨i,rfl,h2,h3⟩;exact⟨_,rfl,k i _ h2 h3 _ _ (hf.put hd) (hm.put _ _) h2.re⟩
theorem JP{d:Nat}{op:Op}{ty:TypeId}{pos:String}{after:Array Edge}{f:FuncId}{args:J2}{Φ:Value->B6->Prop}(he:f0 P n E C H ⟨some d,op,ty,pos,after,none⟩ f args)
  (hc:∀w,B7 C H w->Calls P f args w λe w'=>∃v,e=.returned v/\Below w.heap.size w w'/\Φ v w')(hn:Op.X9 op=false)(hd:Nat.blt d n=true)
  (k:∀v w1,B7 C H w1->Φ v w1->At n ((d,v)::E) (C.re w1 H) H (D3 r P ops Q rest)):At n E C H (D3 r P ops Q (⟨some d,op,ty,pos,after,none⟩::rest)):=
 av5 (ι:=Value) (λv=>v) (λ_=>H) Φ he (λw ho=>(hc w ho).mono λe w' ⟨v,h1,h2,h3⟩=>⟨v,h1,ho.below h2,h3⟩) rfl hn hd k
theorem o7{o:Oper}{f:FuncId}{args:J2}{v:Value}(he:f0 P n E C H o f args)
  (hc:∀w,B7 C H w->Calls P f args w λe w'=>e=.returned v/\Below w.heap.size w w')(hg:o.guard=none)(hn:Op.X9 o.op=false)(hd:FQ n o.dst=true)
  (k:At n (Gb E o.dst v) C H (D3 r P ops Q rest)):At n E C H (D3 r P ops Q (o::rest)):=
 Ov (ι:=Unit) (λ_=>v) (λ_=>H) he (λw ho=>(hc w ho).mono λe w' ⟨h1,h2⟩=>⟨(),h1,ho.below h2⟩) hg hn hd (λ_=>k)
theorem mX{d:Nat}{op:Op}{ty:TypeId}{pos:String}{after:Array Edge}{f:FuncId}{args:J2}{v:Value}(he:f0 P n E C H ⟨some d,op,ty,pos,after,none⟩ f args)
  (hc:∀w,B7 C H w->Calls P f args w λe w'=>e=.returned v/\Below w.heap.size w w')(hn:Op.X9 op=false)(hd:Nat.blt d n=true)
  (k:At n ((d,v)::E) C H (D3 r P ops Q rest)):At n E C H (D3 r P ops Q (⟨some d,op,ty,pos,after,none⟩::rest)):=o7 he hc rfl hn hd k
theorem F3{d:Nat}{op:Op}{ty:TypeId}{pos:String}{after:Array Edge}{args:J2}{v:Value}(f:FuncId)(he:f0 P n E C H ⟨some d,op,ty,pos,after,none⟩ f args)(hc:∀w,B7 C H w->Calls P f args w λe w'=>e=.returned v/\Below w.heap.size w w')(hh2:(Op.X9 op,Nat.blt d n)=(false,true))(k:At n ((d,v)::E) C H (D3 r P ops Q rest)):At n E C H (D3 r P ops Q (⟨some d,op,ty,pos,after,none⟩::rest)):=mX he hc (C1 hh2).1 (C1 hh2).2 k
def Ci(ops:Array Oper)(j:Nat):Option Nat:=(ops[j]?).bind (·.dst)
def BN:Value->Bool->Bool
 |.bool c,b=>c==b
 |_,_=>false
theorem Nx{a:Act}{o:Oper}(hf:U2 n E a){j t:Nat}{b:Bool}{v:Value}(hg:o.guard=some (j,b))(hj:Ci ops j=some t)(ht:R6 E t=some v):Region.wanted o (yielded ops a.tmps)=BN v b:=by
 unfold Ci at hj;have h1:=hf.get t _ ht;have h2:yielded ops a.tmps j=match v with|.bool b=>some b|_=>none:=by
  unfold yielded;rw[hj];simp only[RZ,h1];cases v<;>rfl
 simp only[Region.wanted,hg,h2];cases v<;>simp[BN]
theorem oW{dst:Option Tmp}{op:Op}{ty:TypeId}{pos:String}{after:Array Edge}{j t:Nat}{b:Bool}(hj:Ci ops j=some t)(ht:R6 E t=some (.bool b))
  (k:At n E C H (D3 r P ops Q (⟨dst,op,ty,pos,after,none⟩::rest))):At n E C H (D3 r P ops Q (⟨dst,op,ty,pos,after,some (j,b)⟩::rest)):=by
 intro a w hf hd ho;have h:=VC.1 (k a w hf hd ho);refine VC.2 ?_;have h1:Region.wanted ⟨dst,op,ty,pos,after,some (j,b)⟩ (yielded ops a.tmps)=true:=by rw[Nx hf rfl hj ht];simp[BN]
 have h2:Region.wanted ⟨dst,op,ty,pos,after,none⟩ (yielded ops a.tmps)=true:=rfl;rw[if_pos h1];rw[if_pos h2] at h;exact h
theorem av6{dst:Option Tmp}{op:Op}{ty:TypeId}{pos:String}{after:Array Edge}{j t:Nat}{b:Bool}{v:Value}(hj:Ci ops j=some t)(ht:R6 E t=some v)(hc:BN v b=false)(hd:FQ n dst=true)
  (k:At n (Gb E dst undef) C H (D3 r P ops Q rest)):At n E C H (D3 r P ops Q (⟨dst,op,ty,pos,after,some (j,b)⟩::rest)):=by
 intro a w hf hm ho;have h:=k _ w (hf.put hd) (hm.put _ _) ho;refine VC.2 ?_;rw[Nx hf rfl hj ht,hc];exact h
theorem oP{d:Nat}{op:Op}{ty:TypeId}{pos:String}{after:Array Edge}{j t:Nat}{b:Bool}{v:Value}(hj:Ci ops j=some t)(ht:R6 E t=some v)(hc:BN v b=false)(hd:Nat.blt d n=true)
  (k:At n ((d,undef)::E) C H (D3 r P ops Q rest)):At n E C H (D3 r P ops Q (⟨some d,op,ty,pos,after,some (j,b)⟩::rest)):=av6 hj ht hc hd k
theorem UJ{a:Act}(hf:U2 n E a){t:Nat}{v u:Value}(ht:R6 E t=some v)(h:v=u):U2 n ((t,u)::E) a:=
 ⟨hf.size,λs x hx=>by
  rw[KF] at hx;split at hx
  ·rename_i e;subst e;cases hx;exact hf.get _ _ (h▸ht)
  ·exact hf.get s x hx⟩
theorem Tw{dst:Option Tmp}{op:Op}{ty:TypeId}{pos:String}{after:Array Edge}{j t:Nat}{b c:Bool}(hj:Ci ops j=some t)(ht:R6 E t=some (.bool c))
  (on:c=true->At n ((t,.bool true)::E) C H (D3 r P ops Q (⟨dst,op,ty,pos,after,some (j,b)⟩::rest)))
  (off:c=false->At n ((t,.bool false)::E) C H (D3 r P ops Q (⟨dst,op,ty,pos,after,some (j,b)⟩::rest))):At n E C H (D3 r P ops Q (⟨dst,op,ty,pos,after,some (j,b)⟩::rest)):=by
 intro a w hf hd ho;cases c
 ·exact off rfl a w (UJ hf ht rfl) hd ho
 ·exact on rfl a w (UJ hf ht rfl) hd ho
theorem Mx{dst:Option Tmp}{op:Op}{ty:TypeId}{pos:String}{after:Array Edge}{j t:Nat}{b:Bool}{p:Prop}[Decidable p](hj:Ci ops j=some t)(ht:R6 E t=some (.bool (decide p)))
  (on:p->At n ((t,.bool true)::E) C H (D3 r P ops Q (⟨dst,op,ty,pos,after,some (j,b)⟩::rest)))(off:¬p->At n ((t,.bool false)::E) C H (D3 r P ops Q (⟨dst,op,ty,pos,after,some (j,b)⟩::rest))):At n E C H (D3 r P ops Q (⟨dst,op,ty,pos,after,some (j,b)⟩::rest)):=
 Tw hj ht (λh=>on (of_decide_eq_true h)) (λh=>off (of_decide_eq_false h))
theorem ag5{ops:Array Oper}{t:Nat}{c d:Bool}{l:List Oper}(ht:R6 E t=some (.bool c))(hc:c=d)(k:At n ((t,.bool d)::E) C H (D3 r P ops Q l)):At n E C H (D3 r P ops Q l):=
 λa w hf hd ho=>k a w (UJ hf ht (by rw[hc])) hd ho
theorem F9{ops:Array Oper}{c:Bool}{l:List Oper}(t:Nat)(d:Bool)(hh0:R6 E t=some (.bool c))(hc:c=d)(k:At n ((t,.bool d)::E) C H (D3 r P ops Q l)):At n E C H (D3 r P ops Q l):=ag5 hh0 hc k
def G9(n:Nat)(E:List (Nat×Value))(C:I3)(K:Act->Prop):Prop:=∀a,U2 n E a->DF C a->K a
def L7(C:I3)(H:List C2)(Q:Exit->Act->World->Prop):Act->Prop:=λa'=>∀w',B7 C H w'->Q .normal a' w'
theorem nR{id:Nat}{l:List Oper}(hm:P.follows .mixedOrders=true)(hB:Region.lexB .any l.toArray=true)(h:G9 n E C (wpQuiet P l.toArray (B7 C H) (L7 C H Q) l)):
  At n E C H (F8 none P (Code.region id l.toArray true) Q):=λa w hf hd ho=>
 Vp.2 (wp_region_quiet (C:=B7 C H) hm hB (show B7 C H w.drew from ho.drew) (h a hf hd))
theorem R2{id:Nat}{l:List Oper}[WZ P](hB:Region.lexB .any l.toArray=true)(h:G9 n E C (wpQuiet P l.toArray (B7 C H) (L7 C H Q) l)):At n E C H (F8 none P (Code.region id l.toArray true) Q):=nR WZ.ok hB h
theorem R4(h:At n E C H (Q .normal)):G9 n E C (wpQuiet P ops (B7 C H) (L7 C H Q) []):=λa hf hd w ho=>h a w hf hd ho
theorem uN{o:Oper}{v:Value}{R:Act->Prop}(h:L1 P n E C H o v)(hg:o.guard=none)(hd:FQ n o.dst=true)(k:G9 n (Gb E o.dst v) C (wpQuiet P ops (B7 C H) R rest)):G9 n E C (wpQuiet P ops (B7 C H) R (o::rest)):=by
 intro a hf hdf;unfold wpQuiet;rw[if_pos (by simp[Region.wanted,hg])];exact⟨v,λw hw=>by unfold Oper.quietAt;rw[h a w hf hw];exact⟨rfl,rfl⟩,k _ (hf.put hd) (hdf.put _ _)⟩
theorem xR{o:Oper}{f:FuncId}{args:J2}{v:Value}{R:Act->Prop}(he:f0 P n E C H o f args)
  (hc:∀w,B7 C H w->Calls P f args w λe w'=>e=.returned v/\Below w.heap.size w w')(hg:o.guard=none)(hd:FQ n o.dst=true)
  (k:G9 n (Gb E o.dst v) C (wpQuiet P ops (B7 C H) R rest)):G9 n E C (wpQuiet P ops (B7 C H) R (o::rest)):=by
 intro a hf hdf;unfold wpQuiet;rw[if_pos (by simp[Region.wanted,hg])];exact⟨v,λw hw=>by
  unfold Oper.quietAt;rw[he a w hf hw];exact⟨rfl,(hc w hw).mono λe w' ⟨h1,h2⟩=>⟨h1,hw.below h2⟩⟩,k _ (hf.put hd) (hdf.put _ _)⟩
theorem DP{d:Nat}{op:Op}{ty:TypeId}{pos:String}{after:Array Edge}{v:Value}{R:Act->Prop}(h:L1 P n E C H ⟨some d,op,ty,pos,after,none⟩ v)(hn:Op.X9 op=false)(hd:Nat.blt d n=true)(k:G9 n ((d,v)::E) C (wpQuiet P ops (B7 C H) R rest)):G9 n E C (wpQuiet P ops (B7 C H) R (⟨some d,op,ty,pos,after,none⟩::rest)):=
 uN h rfl hd k
theorem EE{d:Nat}{op:Op}{ty:TypeId}{pos:String}{after:Array Edge}{f:FuncId}{args:J2}{v:Value}{R:Act->Prop}(he:f0 P n E C H ⟨some d,op,ty,pos,after,none⟩ f args)
  (hc:∀w,B7 C H w->Calls P f args w λe w'=>e=.returned v/\Below w.heap.size w w')(hn:Op.X9 op=false)(hd:Nat.blt d n=true)
  (k:G9 n ((d,v)::E) C (wpQuiet P ops (B7 C H) R rest)):G9 n E C (wpQuiet P ops (B7 C H) R (⟨some d,op,ty,pos,after,none⟩::rest)):=xR he hc rfl hd k
theorem nC{dst:Option Tmp}{op:Op}{ty:TypeId}{pos:String}{after:Array Edge}{j t:Nat}{b:Bool}{R:Act->Prop}{D:B6->Prop}(hj:Ci ops j=some t)(ht:R6 E t=some (.bool b))
  (k:G9 n E C (wpQuiet P ops D R (⟨dst,op,ty,pos,after,none⟩::rest))):G9 n E C (wpQuiet P ops D R (⟨dst,op,ty,pos,after,some (j,b)⟩::rest)):=by
 intro a hf hdf;have h:=k a hf hdf;unfold wpQuiet at h⊢;have h1:Region.wanted ⟨dst,op,ty,pos,after,some (j,b)⟩ (yielded ops a.tmps)=true:=by rw[Nx hf rfl hj ht];simp[BN]
 have h2:Region.wanted ⟨dst,op,ty,pos,after,none⟩ (yielded ops a.tmps)=true:=rfl;rw[if_pos h1];rw[if_pos h2] at h;exact h
theorem an9{dst:Option Tmp}{op:Op}{ty:TypeId}{pos:String}{after:Array Edge}{j t:Nat}{b:Bool}{v:Value}{R:Act->Prop}{D:B6->Prop}(hj:Ci ops j=some t)(ht:R6 E t=some v)(hc:BN v b=false)(hd:FQ n dst=true)
  (k:G9 n (Gb E dst undef) C (wpQuiet P ops D R rest)):G9 n E C (wpQuiet P ops D R (⟨dst,op,ty,pos,after,some (j,b)⟩::rest)):=by
 intro a hf hdf;have h:=k _ (hf.put hd) (hdf.put _ _);unfold wpQuiet;rw[Nx hf rfl hj ht,hc];exact h
theorem nM{d:Nat}{op:Op}{ty:TypeId}{pos:String}{after:Array Edge}{j t:Nat}{b:Bool}{v:Value}{R:Act->Prop}{D:B6->Prop}(hj:Ci ops j=some t)(ht:R6 E t=some v)(hc:BN v b=false)(hd:Nat.blt d n=true)
  (k:G9 n ((d,undef)::E) C (wpQuiet P ops D R rest)):G9 n E C (wpQuiet P ops D R (⟨some d,op,ty,pos,after,some (j,b)⟩::rest)):=an9 hj ht hc hd k
theorem Aw{ops:Array Oper}{t:Nat}{c d:Bool}{l:List Oper}{R:Act->Prop}{D:B6->Prop}(ht:R6 E t=some (.bool c))(hc:c=d)(k:G9 n ((t,.bool d)::E) C (wpQuiet P ops D R l)):G9 n E C (wpQuiet P ops D R l):=
 λa hf hdf=>k a (UJ hf ht (by rw[hc])) hdf
theorem B7.plain{w0 w:B6}{H:List C2}{b:B6}{F M:Nat->Prop}{D:List Mk}(h:B7 ⟨w0,λ_=>False,M,b,F,D⟩ H w):Below w0.heap.size w0 w:=h.X4.toBelow
theorem d8{a b:Bool}(h:a=b):Ending.returned (.bool a)=Ending.returned (.bool b):=by rw[h]
def KH:List Value->Nat->List (Nat×Value)
 |[],_=>[]
 |v::vs,i=>(i,v)::KH vs (i+1)
theorem TA:∀(vs:H2) (i t:Nat) (v:Value),R6 (KH vs i) t=some v->i<=t/\vs[t-i]?=some v
 |[],_,_,_,h=>by simp[KH,R6] at h
 |u::vs,i,t,v,h=>by
  rw[KH,KF] at h;split at h
  ·rename_i e;subst e;simpa using h
  ·obtain⟨h1,h2⟩:=TA vs (i+1) t v h;refine⟨by omega,?_⟩;rw[show t-i=(t-(i+1))+1 by omega];simpa using h2
def fin(P:Program)(fn:Func)(R:Ending->World->Prop):Exit->Act->World->Prop:=bodyPostM (fe none) 0 P fn R
theorem Yz{f:FuncId}{fn:Func}{c:Code}{args:H2}{w:B6}{R:Ending->B6->Prop}(L M:Nat->Prop)(hf:P.funcs[f]?=some fn)(hb:fn.body=some c)(hn:fn.ntmps=n)
  (hl:Nat.ble args.length n=true)(H:List C2)(hH:B7 ⟨w,L,M,w,L,[]⟩ H w)
  (h:At n (KH args 0) ⟨w,L,M,w,L,[]⟩ H (F8 none P c (fin P fn R))):Calls P f args.toArray w R:=by
 have hl':args.length<=n:=by simpa using hl
 refine QE.1 (callsIn_of_wp_marks (F:=fe none) (n:=0) hf hb trivial (h _ _ ⟨by simp[hn];omega,λt v hv=>?_⟩ rfl hH));obtain⟨_,h2⟩:=TA args 0 t v hv;have hlt:t<args.length:=by simpa using(N5.1 h2).1
 simp[mI,hlt];simpa[T8 hlt] using h2
theorem J5{f:FuncId}{fn:Func}{c:Code}{args:H2}{w:B6}{R:Ending->B6->Prop}(hf:P.funcs[f]?=some fn)(hb:fn.body=some c)(hn:fn.ntmps=n)
  (hl:Nat.ble args.length n=true)(h:At n (KH args 0) ⟨w,λ_=>False,λ_=>False,w,λ_=>False,[]⟩ [] (F8 none P c (fin P fn R))):Calls P f args.toArray w R:=
 Yz (λ_=>False) (λ_=>False) hf hb hn hl [] ⟨M0.refl _ _,M0.refl _ _,by simp,by simp[F1],by simp[F1],λ_ h=>h,by simp⟩ h
theorem fW{fn:Func}{R:Ending->B6->Prop}{tmps:J2}:∀(D:List Nat) (w:B6),(∀d∈D,w.heap[d]?=some (.deferred (some [])))->D.Nodup->
  (∀w',w'.heap.size=w.heap.size->(∀k,k∉D->w'.heap[k]?=w.heap[k]?)->w'.os=w.os->w'.tape=w.tape->w'.output=w.output->∃v,(results fn tmps).run P w'=.ok v w'/\R (.returned v) w')->LeavesInM (fe none) 0 P fn tmps R (D.map λd=>OD (.lp d)) .returning w
 |[],w,_,_,h=>by
  obtain⟨v,h1,h2⟩:=h w rfl (λ_ _=>rfl) rfl rfl rfl;exact⟨v,h1,h2⟩
 |d::D,w,hw,hn,h=>by
  have hd:=hw d (j8 ..);have hn':=Pb.1 hn;refine⟨by simp,.inl ⟨d,w.putObj d (.deferred none),rfl,run_takeDeferred hd,?_⟩⟩;refine fW D _ (λx hx=>?_) hn'.2 (λw' h1 h2 h3 h4 h5=>h w' (by rw[h1];simp) (λk hk=>?_) h3 h4 h5)
  ·have hne:x≠d:=λe=>hn'.1 (e▸hx);rw[World.putObj_heap_other hne];exact hw x (Cj _ hx)
  ·have hne:k≠d:=λe=>hk (e▸j8 ..);rw[h2 k (λhh=>hk (Cj _ hh)),World.putObj_heap_other hne]
theorem Il{fn:Func}{R:Ending->B6->Prop}{a:Act}{w:B6}{v:Value}(hm:C.marks=[])(hd:DF C a)(hr:(results fn a.tmps).run P w=.ok v w)(hR:R (.returned v) w):fin P fn R .ret a w:=by
 have hd':a.defers=[]:=by unfold DF at hd;rw[hd,hm];rfl
 show LeavesInM _ _ _ _ _ _ a.defers _ _;rw[hd'];exact⟨v,hr,hR⟩
theorem yY{fn:Func}{R:Ending->B6->Prop}{t:Nat}{v:Value}(hr:fn.results= #[.tmp t])(hm:C.marks=[])(ht:R6 E t=some v)(h:∀w,B7 C H w->R (.returned v) w):At n E C H (fin P fn R .ret):=by
 intro a w hf hd ho;have:=hf.get t v ht;refine Il hm hd (v:=v) ?_ (h w ho);rw[results_tmp hr];simp[this]
theorem E4{fn:Func}{R:Ending->B6->Prop}{t:Nat}{v:Value}(hh0:(fn.results,C.marks,R6 E t)=(#[.tmp t],[],some v))(h:∀w,B7 C H w->R (.returned v) w):At n E C H (fin P fn R .ret):=yY (C1 hh0).1 (C1 (C1 hh0).2).1 (C1 (C1 hh0).2).2 h
theorem V6{fn:Func}{R:Ending->B6->Prop}{t u:Nat}{v x:Value}(hr:fn.results= #[.tmp t,.tmp u])(hm:C.marks=[])(ht:R6 E t=some v)(hu:R6 E u=some x)(h:∀w,B7 C H w->R (.returned (.tuple #[v,x])) w):At n E C H (fin P fn R .ret):=by
 intro a w hf hd ho;have h1:=hf.get t v ht;have h2:=hf.get u x hu;refine Il hm hd (v:=.tuple #[v,x]) ?_ (h w ho);rw[results_tmp2 hr];simp[h1,h2]
theorem JN{fn:Func}{R:Ending->B6->Prop}{t u s:Nat}{v x y:Value}(hr:fn.results= #[.tmp t,.tmp u,.tmp s])(hm:C.marks=[])(ht:R6 E t=some v)(hu:R6 E u=some x)(hs:R6 E s=some y)(h:∀w,B7 C H w->R (.returned (.tuple #[v,x,y])) w):At n E C H (fin P fn R .ret):=by
 intro a w hf hd ho;have h1:=hf.get t v ht;have h2:=hf.get u x hu;have h3:=hf.get s y hs;refine Il hm hd (v:=.tuple #[v,x,y]) ?_ (h w ho);simp[results,hr,h1,h2,h3,go_sem]
theorem Ct{fn:Func}{R:Ending->B6->Prop}(hr:fn.results= #[])(hm:C.marks=[])(h:∀w,B7 C H w->R (.returned (.tuple #[])) w):At n E C H (fin P fn R .ret):=by
 intro a w hf hd ho;exact Il hm hd (results_none hr _ _ _) (h w ho)
theorem av0{fn:Func}{R:Ending->B6->Prop}(hr:fn.results= #[])(hm:C.marks=[])(h:∀w,B7 C H w->R (.returned (.tuple #[])) w):At n E C H (fin P fn R .normal):=by
 intro a w hf hd ho;exact Il (R:=R) hm hd (results_none hr _ _ _) (h w ho)
theorem K7{fn:Func}{R:Ending->B6->Prop}(hh0:(fn.results,C.marks)=(#[],[]))(h:∀w,B7 C H w->R (.returned (.tuple #[])) w):At n E C H (fin P fn R .normal):=av0 (C1 hh0).1 (C1 hh0).2 h
end
section
variable{P:Program}{n:Nat}{E E':List (Nat×Value)}{C:I3}{H:List C2}{Q:Exit->Act->World->Prop}{K:Act->World->Prop}{ops:Array Oper}{rest:List Oper}
variable{dst:Option Tmp}{ty:TypeId}{pos:String}{after:Array Edge}{g:Option (Nat×Bool)}{x y z:Operand}{xT yT:TypeId}
theorem H8{v:Value}(hx:ev E x=some v):L1 P n E C H ⟨dst,.move x,ty,pos,after,g⟩ v:=by
 intro a w hf ho;simp only[execOp,hf.eval hx];simp[Sem.run,pure]
theorem FH{v:Value}(hx:ev E x=some v):L1 P n E C H ⟨dst,.assign x,ty,pos,after,g⟩ v:=by
 intro a w hf ho;simp only[execOp,hf.eval hx];simp[Sem.run,pure]
theorem zZ{t:Bool}{u v:Value}(hc:ev E x=some (.bool t))(hu:ev E y=some u)(hv:ev E z=some v):L1 P n E C H ⟨dst,.pick x y z,ty,pos,after,g⟩ (if t then u else v):=by
 intro a w hf ho;cases t<;>(simp only[execOp,hf.eval hc,hf.eval hu,hf.eval hv];simp[go_sem])
theorem He{u:Value}(hc:ev E x=some (.bool true))(hu:ev E y=some u):L1 P n E C H ⟨dst,.pick x y z,ty,pos,after,g⟩ u:=by
 intro a w hf ho;simp only[execOp,hf.eval hc,hf.eval hu];simp[go_sem]
theorem GH{v:Value}(hc:ev E x=some (.bool false))(hv:ev E z=some v):L1 P n E C H ⟨dst,.pick x y z,ty,pos,after,g⟩ v:=by
 intro a w hf ho;simp only[execOp,hf.eval hc,hf.eval hv];simp[go_sem]
theorem cY(p q:Int):(p==q)=decide (p=q):=by rw[MA];simp
section ints
variable{k:IntKind}{p q:Int}
theorem Hz(hx:ev E x=some (.int k p))(hy:ev E y=some (.int k q)):L1 P n E C H ⟨dst,.binOp .add xT x y yT,ty,pos,after,g⟩ (.int k (k.wrap (p+q))):=by
 intro a w hf ho;simp only[execOp,hf.eval hx,hf.eval hy];simp[go_sem,eqGuard,binOp,Op.intArith]
theorem Xc(hx:ev E x=some (.int k p))(hy:ev E y=some (.int k q)):L1 P n E C H ⟨dst,.binOp .sub xT x y yT,ty,pos,after,g⟩ (.int k (k.wrap (p-q))):=by
 intro a w hf ho;simp only[execOp,hf.eval hx,hf.eval hy];simp[go_sem,eqGuard,binOp,Op.intArith]
theorem Hm(hx:ev E x=some (.int k p))(hy:ev E y=some (.int k q)):L1 P n E C H ⟨dst,.binOp .mul xT x y yT,ty,pos,after,g⟩ (.int k (k.wrap (p*q))):=by
 intro a w hf ho;simp only[execOp,hf.eval hx,hf.eval hy];simp[go_sem,eqGuard,binOp,Op.intArith]
theorem IQ(hx:ev E x=some (.int k p))(hy:ev E y=some (.int k q))(hq:q≠0):L1 P n E C H ⟨dst,.binOp .quo xT x y yT,ty,pos,after,g⟩ (.int k (k.wrap (p.tdiv q))):=by
 intro a w hf ho;simp only[execOp,hf.eval hx,hf.eval hy];simp[go_sem,eqGuard,binOp,Op.intDiv,hq]
theorem Yc(hx:ev E x=some (.int k p))(hy:ev E y=some (.int k q))(hq:q≠0):L1 P n E C H ⟨dst,.binOp .rem xT x y yT,ty,pos,after,g⟩ (.int k (p.tmod q)):=by
 intro a w hf ho;simp only[execOp,hf.eval hx,hf.eval hy];simp[go_sem,eqGuard,binOp,Op.intDiv,hq]
theorem JU(hx:ev E x=some (.int k p))(hy:ev E y=some (.int k q)):L1 P n E C H ⟨dst,.binOp .eql xT x y yT,ty,pos,after,g⟩ (.bool (decide (p=q))):=by
 intro a w hf ho;simp only[execOp,hf.eval hx,hf.eval hy];simp[go_sem,eqGuard,binOp,Op.intCmp];exact cY p q
theorem Yk(hx:ev E x=some (.int k p))(hy:ev E y=some (.int k q)):L1 P n E C H ⟨dst,.binOp .neq xT x y yT,ty,pos,after,g⟩ (.bool (decide (p≠q))):=by
 intro a w hf ho;simp only[execOp,hf.eval hx,hf.eval hy];simp[go_sem,eqGuard,binOp,Op.intCmp,bne];exact cY p q
theorem Kx(hx:ev E x=some (.int k p))(hy:ev E y=some (.int k q)):L1 P n E C H ⟨dst,.binOp .lss xT x y yT,ty,pos,after,g⟩ (.bool (decide (p<q))):=by
 intro a w hf ho;simp only[execOp,hf.eval hx,hf.eval hy];simp[go_sem,eqGuard,binOp,Op.intCmp]
theorem eL(hx:ev E x=some (.int k p))(hy:ev E y=some (.int k q)):L1 P n E C H ⟨dst,.binOp .leq xT x y yT,ty,pos,after,g⟩ (.bool (decide (p<=q))):=by
 intro a w hf ho;simp only[execOp,hf.eval hx,hf.eval hy];simp[go_sem,eqGuard,binOp,Op.intCmp]
theorem KY(hx:ev E x=some (.int k p))(hy:ev E y=some (.int k q)):L1 P n E C H ⟨dst,.binOp .gtr xT x y yT,ty,pos,after,g⟩ (.bool (decide (q<p))):=by
 intro a w hf ho;simp only[execOp,hf.eval hx,hf.eval hy];simp[go_sem,eqGuard,binOp,Op.intCmp]
theorem dX(hx:ev E x=some (.int k p))(hy:ev E y=some (.int k q)):L1 P n E C H ⟨dst,.binOp .geq xT x y yT,ty,pos,after,g⟩ (.bool (decide (q<=p))):=by
 intro a w hf ho;simp only[execOp,hf.eval hx,hf.eval hy];simp[go_sem,eqGuard,binOp,Op.intCmp]
theorem Si{op:BinOp}(hop:op=.and\/op=.or\/op=.xor\/op=.andNot)(hx:ev E x=some (.int k p))(hy:ev E y=some (.int k q)):L1 P n E C H ⟨dst,.binOp op xT x y yT,ty,pos,after,g⟩ (.int k (bits op k p q)):=by
 intro a w hf ho;rcases hop with rfl|rfl|rfl|rfl<;>(simp only[execOp,hf.eval hx,hf.eval hy];simp[go_sem,eqGuard,binOp,Op.intBits,bits])
theorem ay2{k':IntKind}(hx:ev E x=some (.int k p))(hy:ev E y=some (.int k' q))(hq:0<=q):L1 P n E C H ⟨dst,.binOp .shl xT x y yT,ty,pos,after,g⟩ (.int k (k.wrap (p*2^(min q.toNat k.bits)))):=by
 intro a w hf ho;have:¬q<0:=by omega
 simp only[execOp,hf.eval hx,hf.eval hy];simp[go_sem,eqGuard,binOp,Op.shift,this]
theorem TX{k':IntKind}(hx:ev E x=some (.int k p))(hy:ev E y=some (.int k' q))(hq:0<=q):L1 P n E C H ⟨dst,.binOp .shr xT x y yT,ty,pos,after,g⟩ (.int k (p.fdiv (2^(min q.toNat k.bits)))):=by
 intro a w hf ho;have:¬q<0:=by omega
 simp only[execOp,hf.eval hx,hf.eval hy];simp[go_sem,eqGuard,binOp,Op.shift,this]
theorem Nc(hx:ev E x=some (.int .i64 p))(hy:ev E y=some (.int .i64 q))(h: -9223372036854775808<=p+q/\p+q<=9223372036854775807):L1 P n E C H ⟨dst,.binOp .add xT x y yT,ty,pos,after,g⟩ (.int .i64 (p+q)):=by
 have:=Hz (P:=P) (n:=n) (C:=C) (H:=H) (dst:=dst) (ty:=ty) (pos:=pos) (after:=after) (g:=g) (xT:=xT) (yT:=yT) hx hy;rwa[IntWalk.i64_in _ h] at this
theorem DA(hx:ev E x=some (.int .i64 p))(hy:ev E y=some (.int .i64 q))(h: -9223372036854775808<=p-q/\p-q<=9223372036854775807):L1 P n E C H ⟨dst,.binOp .sub xT x y yT,ty,pos,after,g⟩ (.int .i64 (p-q)):=by
 have:=Xc (P:=P) (n:=n) (C:=C) (H:=H) (dst:=dst) (ty:=ty) (pos:=pos) (after:=after) (g:=g) (xT:=xT) (yT:=yT) hx hy;rwa[IntWalk.i64_in _ h] at this
theorem qE(hx:ev E x=some (.int k p))(hy:ev E y=some (.int k q))(h:0<=p/\1<=q):L1 P n E C H ⟨dst,.binOp .rem xT x y yT,ty,pos,after,g⟩ (.int k (p%q)):=by
 have:=Yc (P:=P) (n:=n) (C:=C) (H:=H) (dst:=dst) (ty:=ty) (pos:=pos) (after:=after) (g:=g) (xT:=xT) (yT:=yT) hx hy (by omega);rwa[IntWalk.rem_in _ _ h.1] at this
theorem lD(hT:P.underlying xT≠none)(hu:P.underlying yT=some (.int k)){k':IntKind}(hx:ev E x=some (.int k' p)):L1 P n E C H ⟨dst,.convert xT yT x,ty,pos,after,g⟩ (.int k (k.wrap p)):=by
 intro a w hf ho;obtain⟨d,hd⟩:=Option.ne_none_iff_exists'.1 hT;simp only[execOp,hf.eval hx];simp[go_sem,convert,run_underlying hd,run_underlying hu,Conv.intToInt]
end ints
end
def bs(l:List UInt8):ByteArray:=⟨l.toArray⟩
theorem SI(l:C9):(bs l).toList=l:=ByteArray.toList_mk l
theorem Hn(l:C9):(bs l).size=l.length:=by simp[bs,ByteArray.size]
theorem Zp{l m:C9}(h:bs l=bs m):l=m:=by
 have:=congrArg (λs:ByteArray=>s.data.toList) h;simpa[bs] using this
theorem xV(l m:C9):bs l++bs m=bs (l++m):=by
 apply ByteArray.ext;simp[bs,ByteArray.data_append]
theorem Xk(l:C9)(i j:Nat):(bs l).extract i j=bs ((l.take j).drop i):=by
 apply ByteArray.ext;rw[ByteArray.data_extract];simp[bs,Uj]
theorem aB0(l:C9)(i:Nat):(bs l)[i]?=l[i]?:=by
 by_cases h:i<l.length
 ·have h':i<(bs l).size:=by rw[Hn];exact h
  rw[getElem?_pos (bs l) i h',T8 h];rfl
 ·have h':¬i<(bs l).size:=by rw[Hn];exact h
  rw[getElem?_neg (bs l) i h',Fa (by omega)]
def J6(l:List UInt8)(i:Nat):Int:=((l.getD i 0).toNat:Int)
theorem WQ(l:C9)(i:Nat):0<=J6 l i/\J6 l i<=255:=by
 unfold J6;have:=(l.getD i 0).toNat_lt;omega
section
variable{P:Program}{n:Nat}{E E':List (Nat×Value)}{C:I3}{H:List C2}{Q:Exit->Act->World->Prop}{K:Act->World->Prop}{ops:Array Oper}{rest:List Oper}
variable{dst:Option Tmp}{ty:TypeId}{pos:String}{after:Array Edge}{g:Option (Nat×Bool)}{x y z:Operand}{xT yT:TypeId}{l m:List UInt8}
theorem an5(hx:ev E x=some (.string (bs l)))(hy:ev E y=some (.string (bs m))):L1 P n E C H ⟨dst,.binOp .eql xT x y yT,ty,pos,after,g⟩ (.bool (decide (l=m))):=by
 intro a w hf ho;simp only[execOp,hf.eval hx,hf.eval hy];simp[go_sem,eqGuard,binOp,Op.stringOp,SI];rw[MA];simp
theorem pK(hx:ev E x=some (.string (bs l)))(hy:ev E y=some (.string (bs m))):L1 P n E C H ⟨dst,.binOp .neq xT x y yT,ty,pos,after,g⟩ (.bool (decide (l≠m))):=by
 intro a w hf ho;simp only[execOp,hf.eval hx,hf.eval hy];simp[go_sem,eqGuard,binOp,Op.stringOp,SI];rw[MA];simp
theorem dT(hx:ev E x=some (.string (bs l)))(hy:ev E y=some (.string (bs m))):L1 P n E C H ⟨dst,.binOp .lss xT x y yT,ty,pos,after,g⟩ (.bool (Op.bytesLess l m)):=by
 intro a w hf ho;simp only[execOp,hf.eval hx,hf.eval hy];simp[go_sem,eqGuard,binOp,Op.stringOp,SI]
theorem jF(hx:ev E x=some (.string (bs l)))(hy:ev E y=some (.string (bs m))):L1 P n E C H ⟨dst,.binOp .leq xT x y yT,ty,pos,after,g⟩ (.bool (Op.bytesLess l m||decide (l=m))):=by
 intro a w hf ho;simp only[execOp,hf.eval hx,hf.eval hy];simp[go_sem,eqGuard,binOp,Op.stringOp,SI];rw[MA];simp
theorem wE(hx:ev E x=some (.string (bs l)))(hy:ev E y=some (.string (bs m)))(h:l.length+m.length<=9223372036854775807):L1 P n E C H ⟨dst,.binOp .add xT x y yT,ty,pos,after,g⟩ (.string (bs (l++m))):=by
 intro a w hf ho;simp only[execOp,hf.eval hx,hf.eval hy];have h1:¬(((bs l).size+(bs m).size:Nat):Int)>IntKind.i64.max:=by
  rw[Hn,Hn];simp[IntKind.max,IntKind.signed,IntKind.bits];omega
 have h2:((bs l).size:Int)+((bs m).size:Int)<=9223372036854775807:=by rw[Hn,Hn];omega
 simp[go_sem,eqGuard,binOp,Op.stringOp,h2,xV]
def Kb(P:Program)(t:TypeId):Bool:=match P.underlying t with
 |some .string=>true
 |_=>false
class EH (P:Program) where
 f:Nat->Bool
 ok:∀t,f t=true->Kb P t=true
theorem OY{t:TypeId}(h:Kb P t=true):P.underlying t=some .string:=by
 unfold Kb at h;split at h
 ·assumption
 ·cases h
theorem Wx{t:TypeId}(hT:Kb P t=true)(hx:ev E x=some (.string (bs l))):L1 P n E C H ⟨dst,.call ⟨.builtin .len,#[x],#[t]⟩,ty,pos,after,g⟩ (.int .i64 (l.length:Int)):=by
 intro a w hf ho;have hm:(#[x]:Array Operand).map a.eval= #[.string (bs l)]:=by simp[hf.eval hx]
 simp only[execOp,resolve,hm];simp[invoke,builtin,Builtin.len_,go_sem,run_underlying (OY hT),Hn,goInt]
theorem FM{t:TypeId}[EH P](hh0:(ev E x,EH.f P t)=(some (.string (bs l)),true)):L1 P n E C H ⟨dst,.call ⟨.builtin .len,#[x],#[t]⟩,ty,pos,after,g⟩ (.int .i64 (l.length:Int)):=Wx (EH.ok _ (C1 hh0).2) (C1 hh0).1
theorem HN{k:IntKind}{q:Int}(hT:Kb P xT=true)(hx:ev E x=some (.string (bs l)))(hy:ev E y=some (.int k q))(h:0<=q/\q<l.length):L1 P n E C H ⟨dst,.index xT x y,ty,pos,after,g⟩ (.int .u8 (J6 l q.toNat)):=by
 intro a w hf ho;have h0:=h.1;have h1:q.toNat<l.length:=by omega
 simp only[execOp,hf.eval hx,hf.eval hy];simp[go_sem,Instr.index,asIntOf,run_underlying (OY hT),h0,aB0,T8 h1,J6]
theorem PZ{k k':IntKind}{p q:Int}(hT:Kb P xT=true)(hx:ev E x=some (.string (bs l)))(hy:ev E y=some (.int k p))(hz:ev E z=some (.int k' q))(h:0<=p/\p<=q/\q<=l.length):
  L1 P n E C H ⟨dst,.slice xT x (some y) (some z) none,ty,pos,after,g⟩ (.string (bs ((l.take q.toNat).drop p.toNat))):=by
 intro a w hf ho;have h0:=h.1;have h1:0<=q/\q<=l.length:=by omega
 have h2:¬max q 0<p:=by omega
 have h3:p<=max q 0:=by omega
 simp only[execOp,Option.map,hf.eval hx,hf.eval hy,hf.eval hz];simp[go_sem,Instr.sliceAt,Instr.slice,Instr.sliceBounds,Instr.sliceBound,asIntOf,run_underlying (OY hT),Hn,h0,h1.1,h1.2,h2,h3,Xk]
theorem NW{k':IntKind}{q:Int}(hT:Kb P xT=true)(hx:ev E x=some (.string (bs l)))(hz:ev E z=some (.int k' q))(h:0<=q/\q<=l.length):
  L1 P n E C H ⟨dst,.slice xT x none (some z) none,ty,pos,after,g⟩ (.string (bs (l.take q.toNat))):=by
 intro a w hf ho;simp only[execOp,Option.map,hf.eval hx,hf.eval hz];simp[go_sem,Instr.sliceAt,Instr.slice,Instr.sliceBounds,Instr.sliceBound,asIntOf,run_underlying (OY hT),Hn,h.1,h.2,Xk]
theorem aA6{k:IntKind}{p:Int}(hT:Kb P xT=true)(hx:ev E x=some (.string (bs l)))(hy:ev E y=some (.int k p))(h:0<=p/\p<=l.length):
  L1 P n E C H ⟨dst,.slice xT x (some y) none none,ty,pos,after,g⟩ (.string (bs (l.drop p.toNat))):=by
 intro a w hf ho;simp only[execOp,Option.map,hf.eval hx,hf.eval hy];simp[go_sem,Instr.sliceAt,Instr.slice,Instr.sliceBounds,Instr.sliceBound,asIntOf,run_underlying (OY hT),Hn,h.1,h.2,Xk]
def HW(E:List (Nat×Value)):List Operand->Option (List Value)
 |[]=>some []
 |x::xs=>match ev E x with
  |some v=>(match HW E xs with
   |some vs=>some (v::vs)
   |none=>none)
  |none=>none
theorem PL{E:X0}{a:Act}(hf:U2 n E a):∀{xs:List Operand} {vs:H2},HW E xs=some vs->xs.map a.eval=vs
 |[],vs,h=>by simpa[HW] using h
 |x::xs,vs,h=>by
  unfold HW at h;split at h
  ·rename_i v hv;split at h
   ·rename_i us hu;cases h;simp[hf.eval hv,PL hf hu]
   ·cases h
  ·cases h
def GB(P:Program)(f:FuncId):Bool:=match P.funcs[f]? with
 |some fn=>fn.name != "runtime.NumGoroutine" &&fn.body.isSome
 |none=>false
class Mw (P:Program) where
 f:Nat->Bool
 ok:∀t,f t=true->GB P t=true
theorem Ud{f:FuncId}(h:GB P f=true)(args:J2)(w:B6):(callFunc f args).run P w=.ok (.enter f args) w:=by
 unfold GB at h;split at h
 ·rename_i fn hfn;simp only[j1,bne_iff_ne,ne_eq] at h;unfold callFunc;simp[go_sem,hfn,h.1,h.2];simp[Option.isNone_iff_eq_none,mJ.1 h.2]
 ·cases h
theorem MM{f:FuncId}{args:List Operand}{vs:H2}{aT:Array TypeId}(hf:GB P f=true)(ha:HW E args=some vs):f0 P n E C H ⟨dst,.call ⟨.value (.func f),args.toArray,aT⟩,ty,pos,after,g⟩ f vs.toArray:=by
 intro a w hfi ho;have hm:args.toArray.map a.eval=vs.toArray:=by simp[PL hfi ha]
 simp only[execOp,resolve,hm];simp[Act.eval,Deferred.ofValue,invoke,go_sem,Ud hf]
theorem A7{f:FuncId}{args:List Operand}{vs:H2}{aT:Array TypeId}[Mw P](hh0:(HW E args,Mw.f P f)=(some vs,true)):f0 P n E C H ⟨dst,.call ⟨.value (.func f),args.toArray,aT⟩,ty,pos,after,g⟩ f vs.toArray:=MM (Mw.ok _ (C1 hh0).2) (C1 hh0).1
theorem IN{f:FuncId}{first cap:H2}{args:List Operand}{vs:H2}{aT:Array TypeId}(hx:ev E x=some (.func (.func f) first.toArray cap.toArray))(hf:GB P f=true)(ha:HW E args=some vs):f0 P n E C H ⟨dst,.call ⟨.value x,args.toArray,aT⟩,ty,pos,after,g⟩ f (first++vs++cap).toArray:=by
 intro a w hfi ho;have hm:args.toArray.map a.eval=vs.toArray:=by simp[PL hfi ha]
 simp only[execOp,resolve,hm,hfi.eval hx];simp[Deferred.ofValue,invoke,go_sem,Ud hf]
theorem CB{f:FuncId}{first cap:H2}{args:List Operand}{vs:H2}{aT:Array TypeId}[Mw P](hh0:(ev E x,HW E args,Mw.f P f)=(some (.func (.func f) first.toArray cap.toArray),some vs,true)):f0 P n E C H ⟨dst,.call ⟨.value x,args.toArray,aT⟩,ty,pos,after,g⟩ f (first++vs++cap).toArray:=IN (C1 hh0).1 (Mw.ok _ (C1 (C1 hh0).2).2) (C1 (C1 hh0).2).1
def UN(P:Program)(t:TypeId):Bool:=match P.underlying t with
 |some .bool=>true
 |_=>false
theorem iJ{t:TypeId}(h:UN P t=true):P.underlying t=some .bool:=by
 unfold UN at h;split at h
 ·assumption
 ·cases h
theorem Lk{b c:Bool}(hT:UN P xT=true)(hx:ev E x=some (.bool b))(hy:ev E y=some (.bool c)):L1 P n E C H ⟨dst,.binOp .eql xT x y yT,ty,pos,after,g⟩ (.bool (b==c)):=by
 intro a w hf ho;simp only[execOp,hf.eval hx,hf.eval hy];simp[go_sem,eqGuard,run_eql_bool w xT b c (iJ hT)]
theorem AS{b c:Bool}(hT:UN P xT=true)(hx:ev E x=some (.bool b))(hy:ev E y=some (.bool c)):L1 P n E C H ⟨dst,.binOp .neq xT x y yT,ty,pos,after,g⟩ (.bool (!(b==c))):=by
 intro a w hf ho;simp only[execOp,hf.eval hx,hf.eval hy];simp[go_sem,eqGuard,run_neq_bool w xT b c (iJ hT)]
def PS(P:Program)(t:TypeId):Bool:=match P.underlying t with
 |some (.slice _)=>true
 |_=>false
class It (P:Program) where
 f:Nat->Bool
 ok:∀t,f t=true->PS P t=true
theorem KG{t:TypeId}{A:Option Addr}{q c:Nat}(hT:PS P t=true)(hx:ev E x=some (.slice A q c)):L1 P n E C H ⟨dst,.call ⟨.builtin .len,#[x],#[t]⟩,ty,pos,after,g⟩ (.int .i64 (q:Int)):=by
 intro a w hf ho;have hm:(#[x]:Array Operand).map a.eval= #[.slice A q c]:=by simp[hf.eval hx]
 unfold PS at hT;split at hT
 ·rename_i e he;simp only[execOp,resolve,hm];simp[invoke,builtin,Builtin.len_,go_sem,run_underlying he,goInt]
 ·cases hT
def Qx(P:Program)(t:TypeId)(k:IntKind):Bool:=match P.underlying t with
 |some (.int k')=>decide (k'=k)
 |_=>false
theorem jT{t:TypeId}{k:IntKind}(h:Qx P t k=true):P.underlying t=some (.int k):=by
 unfold Qx at h;split at h
 ·rename_i k' hk;simp at h;rw[hk,h]
 ·cases h
theorem dR{p:Int}{k':IntKind}(hT:(P.underlying xT).isSome=true)(hu:Qx P yT .i64=true)(hx:ev E x=some (.int k' p))(h: -9223372036854775808<=p/\p<=9223372036854775807):L1 P n E C H ⟨dst,.convert xT yT x,ty,pos,after,g⟩ (.int .i64 p):=by
 have:=lD (P:=P) (n:=n) (C:=C) (H:=H) (dst:=dst) (ty:=ty) (pos:=pos) (after:=after) (g:=g) (xT:=xT) (yT:=yT) (by simpa[mJ] using hT) (jT hu) hx;rwa[IntWalk.i64_in _ h] at this
theorem MX{p:Int}{k k':IntKind}(hT:(P.underlying xT).isSome=true)(hu:Qx P yT k=true)(hx:ev E x=some (.int k' p)):L1 P n E C H ⟨dst,.convert xT yT x,ty,pos,after,g⟩ (.int k (k.wrap p)):=
 lD (by simpa[mJ] using hT) (jT hu) hx
theorem Yn{p:Int}{k':IntKind}(hT:(P.underlying xT).isSome=true)(hu:Qx P yT .u64=true)(hx:ev E x=some (.int k' p))(h:0<=p/\p<18446744073709551616):L1 P n E C H ⟨dst,.convert xT yT x,ty,pos,after,g⟩ (.int .u64 p):=by
 have:=MX (P:=P) (n:=n) (C:=C) (H:=H) (dst:=dst) (ty:=ty) (pos:=pos) (after:=after) (g:=g) hT hu hx;rwa[IntKind.wrap_u64,Int.emod_eq_of_lt h.1 h.2] at this
theorem HO{i:Nat}{vs:H2}{v:Value}(hx:ev E x=some (.tuple vs.toArray))(hv:vs[i]?=some v):L1 P n E C H ⟨dst,.extract x i,ty,pos,after,g⟩ v:=by
 intro a w hf ho;simp only[execOp,hf.eval hx];simp[go_sem,Instr.extract,hv]
theorem Gx{fn:Fn}{cap:List Operand}{vs:H2}(hc:HW E cap=some vs):L1 P n E C H ⟨dst,.makeFunc fn #[] cap.toArray,ty,pos,after,g⟩ (.func fn #[] vs.toArray):=by
 intro a w hf ho;have hm:cap.toArray.map a.eval=vs.toArray:=by simp[PL hf hc]
 simp only[execOp,hm];simp[go_sem,Instr.makeFunc]
theorem iY{t b c:Bool}(hc:ev E x=some (.bool t))(hu:ev E y=some (.bool b))(hv:ev E z=some (.bool c)):L1 P n E C H ⟨dst,.pick x y z,ty,pos,after,g⟩ (.bool (if t then b else c)):=by
 intro a w hf ho;cases t<;>(simp only[execOp,hf.eval hc,hf.eval hu,hf.eval hv];simp[go_sem])
theorem lU{b:Bool}(hx:ev E x=some (.bool b)):L1 P n E C H ⟨dst,.unOp .not xT x,ty,pos,after,g⟩ (.bool (!b)):=by
 intro a w hf ho;simp only[execOp,hf.eval hx];simp[go_sem,Op.unary]
end
section
variable{P:Program}{r:Option Nat}{n:Nat}{E E':List (Nat×Value)}{C:I3}{H:List C2}{Q:Exit->Act->World->Prop}{K:Act->World->Prop}{ops:Array Oper}{rest:List Oper}
variable{dst:Option Tmp}{ty:TypeId}{pos:String}{after:Array Edge}{g:Option (Nat×Bool)}{x y z:Operand}{t xT yT:TypeId}
def Db(P:Program)(t:TypeId):Bool:=match P.underlying t with
 |some (.struct _)|some (.array _ _)|none=>false
 |_=>true
class BW (P:Program) where
 f:Nat->Bool
 ok:∀t,f t=true->Db P t=true
def CU(P:Program)(t:TypeId):Option Nat:=match P.underlying t with
 |some (.struct _)|some (.array _ _)=>(P.info? t).map (·.size)
 |_=>none
class EX (P:Program) where
 f:Nat->Option Nat
 ok:∀t k,f t=some k->CU P t=some k
theorem Qg(h:Db P t=true)(w:B6):(isAgg t).run P w=.ok false w:=by
 unfold Db at h;unfold isAgg;split at h
 all_goals first|(cases h;done)|skip
 cases hu:P.underlying t with
 |none=>simp_all
 |some d=>
  cases d<;>simp_all[go_sem,run_underlying hu]
theorem Tp{k:Nat}(h:CU P t=some k)(w:B6):(isAgg t).run P w=.ok true w:=by
 unfold CU at h;unfold isAgg;split at h
 ·rename_i hu;simp[go_sem,run_underlying hu]
 ·rename_i hu;simp[go_sem,run_underlying hu]
 ·cases h
theorem TT{k:Nat}(h:CU P t=some k)(w:B6):(sizeOf t).run P w=.ok k w:=by
 unfold CU at h;split at h
 all_goals first|(cases h;done)|skip
 all_goals
  obtain⟨i,hi,rfl⟩:=YB.1 h;simp[sizeOf,typeInfo,go_sem,hi]
theorem Wc{p:Addr}{v:Value}(hT:Db P t=true)(hx:ev E x=some (.pointer (some p)))(hc:∀w,B7 C H w->w.cell? p=some v):L1 P n E C H ⟨dst,.load t x,ty,pos,after,g⟩ v:=by
 intro a w hf ho;simp only[execOp,hf.eval hx];simp[go_sem,Instr.loadAt,Instr.sureAddr,loadVar,Qg hT,hc w ho]
theorem AI{p:Addr}{v:Value}[BW P](hh0:(ev E x,BW.f P t)=(some (.pointer (some p)),true))(hc:∀w,B7 C H w->w.cell? p=some v):L1 P n E C H ⟨dst,.load t x,ty,pos,after,g⟩ v:=Wc (BW.ok _ (C1 hh0).2) (C1 hh0).1 hc
theorem gW{h j i:Nat}{tb:TypeId}{cs:J2}{v:Value}(hT:Db P t=true)(hx:ev E x=some (.pointer (some ⟨h,j,none⟩)))(hi:H[i]?=some (.B1 h tb cs))(hv:cs[j]?=some v):L1 P n E C H ⟨dst,.load t x,ty,pos,after,g⟩ v:=
 Wc hT hx λw ho=>(ho.cell hi j).trans hv
theorem c7{h j:Nat}{tb:TypeId}{cs:J2}{v:Value}(i:Nat)[BW P](hh0:(ev E x,H[i]?,BW.f P t)=(some (.pointer (some ⟨h,j,none⟩)),some (.B1 h tb cs),true))(hv:cs[j]?=some v):L1 P n E C H ⟨dst,.load t x,ty,pos,after,g⟩ v:=gW (BW.ok _ (C1 (C1 hh0).2).2) (C1 hh0).1 (C1 (C1 hh0).2).1 hv
def Lb{α:Type}:List α->Nat->Option α
 |[],_=>none
 |a::_,0=>some a
 |_::l,n+1=>Lb l n
theorem iL{α:Type}:∀(l:List α) (j:Nat),Lb l j=l[j]?
 |[],j=>rfl
 |a::l,0=>rfl
 |a::l,n+1=>by rw[Lb,iL l n];rfl
theorem TP{h j i:Nat}{tb:TypeId}{cs:J2}{v:Value}(hT:Db P t=true)(hx:ev E x=some (.pointer (some ⟨h,j,none⟩)))(hi:H[i]?=some (.B1 h tb cs))(hv:Lb cs.toList j=some v):L1 P n E C H ⟨dst,.load t x,ty,pos,after,g⟩ v:=
 gW hT hx hi (by rw[iL] at hv;simpa using hv)
theorem K1{h j:Nat}{tb:TypeId}{cs:J2}{v:Value}(i:Nat)[BW P](hh0:(ev E x,H[i]?,Lb cs.toList j,BW.f P t)=(some (.pointer (some ⟨h,j,none⟩)),some (.B1 h tb cs),some v,true)):L1 P n E C H ⟨dst,.load t x,ty,pos,after,g⟩ v:=TP (BW.ok _ (C1 (C1 (C1 hh0).2).2).2) (C1 hh0).1 (C1 (C1 hh0).2).1 (C1 (C1 (C1 hh0).2).2).1
theorem eV{h i k:Nat}{tb:TypeId}{cs:J2}(hT:CU P t=some k)(hx:ev E x=some (.pointer (some ⟨h,0,none⟩)))(hi:H[i]?=some (.B1 h tb cs))(hk:cs.size=k):L1 P n E C H ⟨dst,.load t x,ty,pos,after,g⟩ (.agg cs):=by
 intro a w hf ho;simp only[execOp,hf.eval hx];have h1:(loadCells ⟨h,0,none⟩ cs.toList.length).run P w=.ok cs.toList.toArray w:=run_loadCells_list w _ cs.toList λj v hv=>by
  have:=ho.cell hi j;have hadd:(⟨h,0,none⟩:Addr).add j=⟨h,j,none⟩:=by unfold Addr.add;split<;>simp_all
  rw[hadd,this];simpa using hv
 simp at h1;rw[hk] at h1;simp only[loadCells] at h1;simp[go_sem,Instr.loadAt,Instr.sureAddr,loadVar,Tp hT,TT hT,h1]
theorem FY{h k:Nat}{tb:TypeId}{cs:J2}(i:Nat)[EX P](hh0:(EX.f P t,ev E x,H[i]?,cs.size)=(some k,some (.pointer (some ⟨h,0,none⟩)),some (.B1 h tb cs),k)):L1 P n E C H ⟨dst,.load t x,ty,pos,after,g⟩ (.agg cs):=eV (EX.ok _ _ (C1 hh0).1) (C1 (C1 hh0).2).1 (C1 (C1 (C1 hh0).2).2).1 (C1 (C1 (C1 hh0).2).2).2
theorem Ip{p:Addr}{vs:H2}(hT:CU P t=some vs.length)(hx:ev E x=some (.pointer (some p)))(hc:∀w,B7 C H w->∀j v,vs[j]?=some v->w.cell? (p.add j)=some v):L1 P n E C H ⟨dst,.load t x,ty,pos,after,g⟩ (.agg vs.toArray):=by
 intro a w hf ho;simp only[execOp,hf.eval hx];have h1:(loadCells p vs.length).run P w=.ok vs.toArray w:=run_loadCells_list w _ vs (hc w ho);simp only[loadCells] at h1;simp[go_sem,Instr.loadAt,Instr.sureAddr,loadVar,Tp hT,TT hT,h1]
def CF(P:Program)(t:TypeId):Option Nat:=(P.info? t).map (·.size)
class MT (P:Program) where
 f:Nat->Option Nat
 ok:∀t k,f t=some k->CF P t=some k
theorem Gd{k:Nat}(h:CF P t=some k)(w:B6):(sizeOf t).run P w=.ok k w:=by
 unfold CF at h;obtain⟨i,hi,rfl⟩:=YB.1 h;simp[sizeOf,typeInfo,go_sem,hi]
theorem QH{v:Value}(h:v.oneCell'=true):v.cells= #[v]:=by cases v<;>first|rfl|cases h
theorem NT{h j i:Nat}{tb:TypeId}{cs:J2}{v:Value}(hT:CF P t=some 1)(hx:ev E x=some (.pointer (some ⟨h,j,none⟩)))(hy:ev E y=some v)(h1:v.oneCell'=true)(hi:H[i]?=some (.B1 h tb cs))(hj:Nat.blt j cs.size=true)
  :Ic P n E C H ⟨none,.store t x y,ty,pos,after,none⟩ (H.set i (.B1 h tb (cs.setIfInBounds j v))):=by
 intro a w hf ho;refine⟨w.setCell ⟨h,j,none⟩ v,?_,ho.put hi j v⟩;have hlt:j<cs.size:=by simpa[Nat.blt_eq] using hj
 have hc:=ho.cell hi j;rw[s4 hlt] at hc;have hfr:=ho.free hi j;simp only[execOp,hf.eval hx,hf.eval hy];have hst:(storeCells ⟨h,j,none⟩ [v]).run P w=.ok () (w.setCell ⟨h,j,none⟩ v):=by
  cases v<;>first|(cases h1;done)|simp[storeCells,store,go_sem,hc,hfr,Addr.add,Sem.run]
 have hc1:=QH h1;have hsv:(storeVar t ⟨h,j,none⟩ v).run P w=.ok () (w.setCell ⟨h,j,none⟩ v):=by
  simp only[storeVar,hc1];simp[Sem.run_bind,Gd hT];exact hst
 have hsa:(Instr.storeAt t (.pointer (some ⟨h,j,none⟩)) v).run P w=.ok () (w.setCell ⟨h,j,none⟩ v):=hsv;simp only[Sem.run_bind,hsa,Result.andThen];rfl
theorem Ce{h j i:Nat}{tb:TypeId}{cs:J2}{v:Value}(hT:CF P t=some 1)(hx:ev E x=some (.pointer (some ⟨h,j,none⟩)))(hy:ev E y=some v)(h1:v.oneCell'=true)(hi:H[i]?=some (.B1 h tb cs))(hj:Nat.blt j cs.size=true)
  (k:At n E C (H.set i (.B1 h tb (cs.setIfInBounds j v))) (D3 r P ops Q rest)):At n E C H (D3 r P ops Q (⟨none,.store t x y,ty,pos,after,none⟩::rest)):=
 OW (NT hT hx hy h1 hi hj) rfl rfl rfl k
theorem N4{h j:Nat}{tb:TypeId}{cs:J2}{v:Value}(i:Nat)[MT P](hh0:(MT.f P t,ev E x,ev E y,v.oneCell',H[i]?,Nat.blt j cs.size)=(some 1,some (.pointer (some ⟨h,j,none⟩)),some v,true,some (.B1 h tb cs),true))(k:At n E C (H.set i (.B1 h tb (cs.setIfInBounds j v))) (D3 r P ops Q rest)):At n E C H (D3 r P ops Q (⟨none,.store t x y,ty,pos,after,none⟩::rest)):=Ce (MT.ok _ _ (C1 hh0).1) (C1 (C1 hh0).2).1 (C1 (C1 (C1 hh0).2).2).1 (C1 (C1 (C1 (C1 hh0).2).2).2).1 (C1 (C1 (C1 (C1 (C1 hh0).2).2).2).2).1 (C1 (C1 (C1 (C1 (C1 hh0).2).2).2).2).2 k
theorem B7.whole{w:B6}(h:B7 C H w){i:Nat}{gg:Nat}{tt:TypeId}{cs vs:J2}(hi:H[i]?=some (.B1 gg tt cs))(hs:cs.size=vs.size):
  B7 C (H.set i (.B1 gg tt vs)) (w.setRow gg vs):=by
 have hlt:i<H.length:=(N5.1 hi).1;have hsp:H=H.take i++.B1 gg tt cs::H.drop (i+1):=by
  rw[<-(N5.1 hi).2,YA,FZ]
 have hset:H.set i (.B1 gg tt vs)=H.take i++.B1 gg tt vs::H.drop (i+1):=List.set_eq_take_append_cons_drop.trans (by simp[hlt]);have hb:F1 (H.set i (.B1 gg tt vs))=F1 H:=by
  rw[hset]
  conv=>rhs;rw[hsp]
  simp[DY,Kc,C2.blocks]
 have hne:=B7.split (hsp▸h) gg (by simp[C2.blocks]);have hg:gg∈F1 H:=Bm.2 ⟨_,CP hi,by simp[C2.blocks]⟩;have hrow:=h.get hi;have hfar:∀k,k≠gg->(w.setRow gg vs).heap[k]?=w.heap[k]?:=λk hk=>by
  simp only[World.setRow,Ke];rw[if_neg (λe=>hk e.symm)]
 refine h.VO ⟨rfl,rfl,rfl,by simp[World.setRow],λk hk hn=>hfar k (λe=>hn (e▸hg))⟩ ?_ (hb▸h.nodup) (λk hk=>.inl (hb▸hk));intro r hr;rw[hset] at hr;rcases q0.1 hr with hr|hr
 ·exact Ge (h.ok r (by rw[hsp];exact Lz _ hr)) (by simp[World.setRow]) λk hk=>hfar k λe=>hne.1 (Bm.2 ⟨r,hr,e▸hk⟩)
 ·rcases BD.1 hr with rfl|hr
  ·show(w.setRow gg vs).heap[gg]?=_;simp[World.setRow,Ke,hrow]
  ·exact Ge (h.ok r (by rw[hsp];exact Iz _ (Cj _ hr))) (by simp[World.setRow]) λk hk=>hfar k λe=>hne.2 (Bm.2 ⟨r,hr,e▸hk⟩)
theorem Sz{h i:Nat}{tb:TypeId}{cs vs:J2}(hT:CF P t=some vs.size)(hx:ev E x=some (.pointer (some ⟨h,0,none⟩)))(hy:ev E y=some (.agg vs))(h1:(vs.toList.all (·.oneCell'))=true)(hi:H[i]?=some (.B1 h tb cs))(hj:cs.size=vs.size)
  :Ic P n E C H ⟨none,.store t x y,ty,pos,after,none⟩ (H.set i (.B1 h tb vs)):=by
 intro a w hf ho;have hrow:=ho.get hi;have hst:=run_storeCells_at P h 0 tb vs.toList 0 cs w hrow (by simp[hj]) (λv hv=>f5.1 h1 v hv);have hdrop:cs.toList.drop vs.size=[]:=List.drop_eq_nil_iff.2 (by simp[hj]);refine⟨w.setRow h vs,?_,ho.whole hi hj⟩;simp only[execOp,hf.eval hx,hf.eval hy];simp only[Instr.storeAt,Instr.sureAddr,storeVar,Value.cells];simp[hdrop] at hst;simp[go_sem,Gd hT,hst]
theorem q8{h i:Nat}{tb:TypeId}{cs vs:J2}(hT:CF P t=some vs.size)(hx:ev E x=some (.pointer (some ⟨h,0,none⟩)))(hy:ev E y=some (.agg vs))(h1:(vs.toList.all (·.oneCell'))=true)(hi:H[i]?=some (.B1 h tb cs))(hj:cs.size=vs.size)
  (k:At n E C (H.set i (.B1 h tb vs)) (D3 r P ops Q rest)):At n E C H (D3 r P ops Q (⟨none,.store t x y,ty,pos,after,none⟩::rest)):=
 OW (Sz hT hx hy h1 hi hj) rfl rfl rfl k
theorem E8{h:Nat}{tb:TypeId}{cs:J2}(i:Nat)(vs:J2)[MT P](hh0:(ev E x,ev E y,(vs.toList.all (·.oneCell')),H[i]?,cs.size,MT.f P t)=(some (.pointer (some ⟨h,0,none⟩)),some (.agg vs),true,some (.B1 h tb cs),vs.size,some vs.size))(k:At n E C (H.set i (.B1 h tb vs)) (D3 r P ops Q rest)):At n E C H (D3 r P ops Q (⟨none,.store t x y,ty,pos,after,none⟩::rest)):=q8 (MT.ok _ _ (C1 (C1 (C1 (C1 (C1 hh0).2).2).2).2).2) (C1 hh0).1 (C1 (C1 hh0).2).1 (C1 (C1 (C1 hh0).2).2).1 (C1 (C1 (C1 (C1 hh0).2).2).2).1 (C1 (C1 (C1 (C1 (C1 hh0).2).2).2).2).1 k
theorem rZ{d:Nat}{v:Value}(h1:v.oneCell'=true)(hx:ev E x=some v):QP P n E C H ⟨some d,.box t x,ty,pos,after,none⟩ t #[v]:=by
 intro a w hf ho;refine⟨w.heap.size,w.alloc (.cells #[v] t),?_,ho.new #[v] t⟩;simp only[execOp,hf.eval hx];rw[<-QH h1];rfl
theorem KP{d:Nat}{v:Value}(h1:v.oneCell'=true)(hx:ev E x=some v)(hd:Nat.blt d n=true)(k:∀h,At n ((d,.pointer (some ⟨h,0,none⟩))::E) C (.B1 h t #[v]::H) (D3 r P ops Q rest)):
  At n E C H (D3 r P ops Q (⟨some d,.box t x,ty,pos,after,none⟩::rest)):=
 Ie (ι:=Nat) (λh=>.pointer (some ⟨h,0,none⟩)) (λh=>.B1 h t #[v]::H) (rZ h1 hx) rfl rfl hd k
theorem XT{d:Nat}{cs:J2}(hx:ev E x=some (.agg cs)):QP P n E C H ⟨some d,.box t x,ty,pos,after,none⟩ t cs:=by
 intro a w hf ho;refine⟨w.heap.size,w.alloc (.cells cs t),?_,ho.new cs t⟩;simp only[execOp,hf.eval hx];rfl
theorem zQ{d:Nat}{cs:J2}(hx:ev E x=some (.agg cs))(hd:Nat.blt d n=true)(k:∀h,At n ((d,.pointer (some ⟨h,0,none⟩))::E) C (.B1 h t cs::H) (D3 r P ops Q rest)):
  At n E C H (D3 r P ops Q (⟨some d,.box t x,ty,pos,after,none⟩::rest)):=
 Ie (ι:=Nat) (λh=>.pointer (some ⟨h,0,none⟩)) (λh=>.B1 h t cs::H) (XT hx) rfl rfl hd k
theorem F0{d:Nat}{cs:J2}(hh0:(ev E x,Nat.blt d n)=(some (.agg cs),true))(k:∀h,At n ((d,.pointer (some ⟨h,0,none⟩))::E) C (.B1 h t cs::H) (D3 r P ops Q rest)):At n E C H (D3 r P ops Q (⟨some d,.box t x,ty,pos,after,none⟩::rest)):=zQ (C1 hh0).1 (C1 hh0).2 k
theorem av2{d:Nat}{v:Value}(h1:v.oneCell'=true)(hz:∀w,(zeroValue t).run P w=.ok v w):QP P n E C H ⟨some d,.alloc t,ty,pos,after,none⟩ t #[v]:=by
 intro a w hf ho;refine⟨w.heap.size,w.alloc (.cells #[v] t),?_,ho.new #[v] t⟩;have e:(Instr.alloc t true (.tuple #[])).run P w=.ok (.pointer (some ⟨w.heap.size,0,none⟩)) (w.alloc (.cells #[v] t)):=by
  rw[<-QH h1];simp only[Instr.alloc,Sem.run_bind,hz,Result.andThen];rfl
 simp only[execOp,Sem.run_bind,e,Result.andThen];rfl
theorem Jl{d:Nat}{v:Value}(h1:v.oneCell'=true)(hz:∀w,(zeroValue t).run P w=.ok v w)(hd:Nat.blt d n=true)(k:∀h,At n ((d,.pointer (some ⟨h,0,none⟩))::E) C (.B1 h t #[v]::H) (D3 r P ops Q rest)):
  At n E C H (D3 r P ops Q (⟨some d,.alloc t,ty,pos,after,none⟩::rest)):=
 Ie (ι:=Nat) (λh=>.pointer (some ⟨h,0,none⟩)) (λh=>.B1 h t #[v]::H) (av2 h1 hz) rfl rfl hd k
theorem kZ{d:Nat}{cs:J2}(hz:∀w,(zeroValue t).run P w=.ok (.agg cs) w):QP P n E C H ⟨some d,.alloc t,ty,pos,after,none⟩ t cs:=by
 intro a w hf ho;refine⟨w.heap.size,w.alloc (.cells cs t),?_,ho.new cs t⟩;have e:(Instr.alloc t true (.tuple #[])).run P w=.ok (.pointer (some ⟨w.heap.size,0,none⟩)) (w.alloc (.cells cs t)):=by
  simp only[Instr.alloc,Sem.run_bind,hz,Result.andThen];rfl
 simp only[execOp,Sem.run_bind,e,Result.andThen];rfl
theorem E3{d:Nat}{cs:J2}(hz:∀w,(zeroValue t).run P w=.ok (.agg cs) w)(hd:Nat.blt d n=true)(k:∀h,At n ((d,.pointer (some ⟨h,0,none⟩))::E) C (.B1 h t cs::H) (D3 r P ops Q rest)):
  At n E C H (D3 r P ops Q (⟨some d,.alloc t,ty,pos,after,none⟩::rest)):=
 Ie (ι:=Nat) (λh=>.pointer (some ⟨h,0,none⟩)) (λh=>.B1 h t cs::H) (kZ hz) rfl rfl hd k
def Oh(P:Program)(s:TypeId)(f:Nat):Option Nat:=match P.underlying s with
 |some (.struct fs)=>match fs[f]? with
  |some fd=>if(CF P fd.type).getD 0=0 then none else some fd.offset
  |none=>none
 |_=>none
class Fg (P:Program) where
 f:Nat->Nat->Option Nat
 ok:∀t g k,f t g=some k->Oh P t g=some k
theorem Ru{h j o f:Nat}(hF:Oh P xT f=some o)(hx:ev E x=some (.pointer (some ⟨h,j,none⟩))):L1 P n E C H ⟨dst,.fieldAddr xT x f,ty,pos,after,g⟩ (.pointer (some ⟨h,j+o,none⟩)):=by
 intro a w hf ho;unfold Oh at hF;split at hF
 ·rename_i fs hu;split at hF
  ·rename_i fd hfd;split at hF
   ·cases hF
   ·rename_i hs;cases hF;obtain⟨s,hs'⟩:∃s,CF P fd.type=some s:=by
     cases hh:CF P fd.type with
     |none=>simp[hh] at hs
     |some s=>exact⟨s,rfl⟩
    have hs0:¬s=0:=by simpa[hs'] using hs
    have hadd:(⟨h,j,none⟩:Addr).add fd.offset=⟨h,j+fd.offset,none⟩:=by unfold Addr.add;split<;>simp_all
    simp only[execOp,hf.eval hx];simp[go_sem,Instr.fieldAt,run_underlying hu,hfd,Instr.sureAddr,fieldPlace,Gd hs',hs0,hadd]
  ·cases hF
 ·cases hF
theorem I8{h j f:Nat}(o:Nat)[Fg P](hh0:(Fg.f P xT f,ev E x)=(some o,some (.pointer (some ⟨h,j,none⟩)))):L1 P n E C H ⟨dst,.fieldAddr xT x f,ty,pos,after,g⟩ (.pointer (some ⟨h,j+o,none⟩)):=Ru (Fg.ok _ _ _ (C1 hh0).1) (C1 hh0).2
def Wo(P:Program)(s:TypeId)(f:Nat):Option Nat:=match P.underlying s with
 |some (.struct fs)=>match fs[f]? with
  |some fd=>if Db P fd.type then some fd.offset else none
  |none=>none
 |_=>none
theorem xU{cs:J2}{o f:Nat}{v:Value}(hF:Wo P xT f=some o)(hx:ev E x=some (.agg cs))(hv:cs[o]?=some v):L1 P n E C H ⟨dst,.field xT x f,ty,pos,after,g⟩ v:=by
 intro a w hf ho;unfold Wo at hF;split at hF
 ·rename_i fs hu;split at hF
  ·rename_i fd hfd;split at hF
   ·rename_i hp;cases hF;simp only[execOp,hf.eval hx];simp[go_sem,Instr.field,run_underlying hu,hfd,part,Qg hp,asAgg,hv]
   ·cases hF
  ·cases hF
 ·cases hF
def Gh(P:Program)(t:TypeId):Option Nat:=match P.underlying t with
 |some (.slice e)=>CF P e
 |_=>none
class GA (P:Program) where
 f:Nat->Option Nat
 ok:∀t k,f t=some k->Gh P t=some k
theorem iN{h o q c k:Nat}{kk:IntKind}{p:Int}(hT:Gh P xT=some k)(hx:ev E x=some (.slice (some ⟨h,o,none⟩) q c))(hy:ev E y=some (.int kk p))(hp:0<=p/\p<q):L1 P n E C H ⟨dst,.indexAddr xT x y,ty,pos,after,g⟩ (.pointer (some ⟨h,o+p.toNat*k,none⟩)):=by
 intro a w hf ho;unfold Gh at hT;split at hT
 ·rename_i e hu;have hadd:(⟨h,o,none⟩:Addr).add (p.toNat*k)=⟨h,o+p.toNat*k,none⟩:=by unfold Addr.add;split<;>simp_all
  simp only[execOp,hf.eval hx,hf.eval hy];simp[go_sem,Instr.indexAt,asIntOf,run_underlying hu,hp.1,hp.2,Gd hT,hadd]
 ·cases hT
theorem pU{h o q c j:Nat}{kk:IntKind}(hT:Gh P xT=some 1)(hx:ev E x=some (.slice (some ⟨h,o,none⟩) q c))(hy:ev E y=some (.int kk (j:Int)))(hp:j<q):L1 P n E C H ⟨dst,.indexAddr xT x y,ty,pos,after,g⟩ (.pointer (some ⟨h,o+j,none⟩)):=by
 have:=iN (P:=P) (n:=n) (C:=C) (H:=H) (dst:=dst) (ty:=ty) (pos:=pos) (after:=after) (g:=g) hT hx hy (by omega);simpa using this
theorem AW{h o q c:Nat}{kk:IntKind}(j:Nat)[GA P](hh0:(GA.f P xT,ev E x,ev E y)=(some 1,some (.slice (some ⟨h,o,none⟩) q c),some (.int kk (j:Int))))(hp:j<q):L1 P n E C H ⟨dst,.indexAddr xT x y,ty,pos,after,g⟩ (.pointer (some ⟨h,o+j,none⟩)):=pU (GA.ok _ _ (C1 hh0).1) (C1 (C1 hh0).2).1 (C1 (C1 hh0).2).2 hp
theorem XG{h o q c j k:Nat}{kk:IntKind}(hT:Gh P xT=some k)(hx:ev E x=some (.slice (some ⟨h,o,none⟩) q c))(hy:ev E y=some (.int kk (j:Int)))(hp:j<q):L1 P n E C H ⟨dst,.indexAddr xT x y,ty,pos,after,g⟩ (.pointer (some ⟨h,o+j*k,none⟩)):=by
 have:=iN (P:=P) (n:=n) (C:=C) (H:=H) (dst:=dst) (ty:=ty) (pos:=pos) (after:=after) (g:=g) hT hx hy (by omega);simpa using this
theorem En{h o q c:Nat}{kk:IntKind}(k:Nat)(j:Nat)[GA P](hh0:(GA.f P xT,ev E x,ev E y)=(some k,some (.slice (some ⟨h,o,none⟩) q c),some (.int kk (j:Int))))(hp:j<q):L1 P n E C H ⟨dst,.indexAddr xT x y,ty,pos,after,g⟩ (.pointer (some ⟨h,o+j*k,none⟩)):=XG (GA.ok _ _ (C1 hh0).1) (C1 (C1 hh0).2).1 (C1 (C1 hh0).2).2 hp
def WR(P:Program)(t:TypeId)(len:Nat):Option Nat:=match P.underlying t with
 |some (.array l e)=>if decide (l=len)&&decide (1<l) then CF P e else none
 |_=>none
theorem eN{h o len k:Nat}{kk:IntKind}{p:Int}(hT:WR P xT len=some k)(hx:ev E x=some (.pointer (some ⟨h,o,none⟩)))(hy:ev E y=some (.int kk p))(hp:0<=p/\p<len):L1 P n E C H ⟨dst,.indexAddr xT x y,ty,pos,after,g⟩ (.pointer (some ⟨h,o+p.toNat*k,none⟩)):=by
 intro a w hf ho;unfold WR at hT;split at hT
 ·rename_i l e hu;split at hT
  ·rename_i hl;simp at hl;obtain⟨rfl,hl⟩:=hl;have hadd:(⟨h,o,none⟩:Addr).add (p.toNat*k)=⟨h,o+p.toNat*k,none⟩:=by unfold Addr.add;split<;>simp_all
   have hl':¬l<=1:=by omega
   simp only[execOp,hf.eval hx,hf.eval hy];simp[go_sem,Instr.indexAt,asIntOf,run_underlying hu,hp.1,hp.2,Gd hT,hadd,Instr.sureAddr,hl']
  ·cases hT
 ·cases hT
theorem N1{p:Addr}(hx:ev E x=some (.pointer (some p))):L1 P n E C H ⟨dst,.nilCheck x,ty,pos,after,g⟩ (.pointer (some p)):=by
 intro a w hf ho;simp only[execOp,hf.eval hx];simp[go_sem]
end
inductive L0 where
 |val (v:Value)
 |rel (Φ:Value->World->Prop)
def L0.ok:L0->Value->World->Prop
 |.val v,u,_=>u=v
 |.rel Φ,u,w=>Φ u w
def L0.stab:L0->Prop
 |.val _=>True
 |.rel Φ=>∀v w w',Φ v w->Below w.heap.size w w'->Φ v w'
theorem L0.K6{s:L0}(h:s.stab){v:Value}{w w':B6}(hb:Below w.heap.size w w')(hv:s.ok v w):s.ok v w':=by
 cases s with
 |val u=>exact hv
 |rel Φ=>exact h v w w' hv hb
def M9(S:List L0)(i:Nat):L0:=S.getD i (.val undef)
def M4(o:Oper):List Nat:=o.after.toList.filterMap λe=>if Region.binds .any e then some e.on else none
def Eb(ops:Array Oper):Nat->Nat->Nat->Bool
 |0,_,_=>false
 |f+1,k,i=>Nat.beq k i||(match ops[k]? with
  |some o=>(M4 o).any λe=>Eb ops f e i
  |none=>false)
def Zw(ops:Array Oper):List Nat:=ops.toList.filterMap (·.dst)
def Jk(ops:Array Oper)(N:Nat):Bool:=
 Region.noSelect ops&&Nat.ble N ops.size&&
 (List.range ops.size).all (λi=>match ops[i]? with
  |some o=>(M4 o).all (λe=>Nat.blt e i)&&(if Nat.blt i N then(o.dst.isSome&& !Op.X9 o.op) else true)&&
   (if Nat.blt i N then true else(List.range i).all λk=>(M4 o).any λe=>Eb ops ops.size e k)
  |none=>false)&&
 (List.range N).all (λi=>(List.range N).all λj=>Nat.beq i j|| !(((ops[i]?).bind (·.dst))==((ops[j]?).bind (·.dst))))
def BX(ops:Array Oper)(N:Nat):List Nat:=(ops.toList.take N).filterMap (·.dst)
def HT(ops:Array Oper)(N:Nat)(E:List (Nat×Value)):Bool:=E.all λp=> !(BX ops N).contains p.1
section
variable{P:Program}{r:Option Nat}{n:Nat}{E:List (Nat×Value)}{C:I3}{H:List C2}{Q:Exit->Act->World->Prop}{ops:Array Oper}
def Bk(P:Program)(n:Nat)(E:List (Nat×Value))(C:I3)(H:List C2)(X:World->Prop)(o:Oper)(s:L0):Prop:=∀a w,U2 n E a->B7 C H w->X w->
 (∃u w',(execOp a.eval o).run P w=.ok (.value u) w'/\B7 C H w'/\Below w.heap.size w w'/\s.ok u w')\/
 (∃f args,(execOp a.eval o).run P w=.ok (.enter f args) w/\Calls P f args w λe w'=>∃u,e=.returned u/\B7 C H w'/\Below w.heap.size w w'/\s.ok u w')
theorem D0{X:B6->Prop}{o:Oper}{v:Value}(h:L1 P n E C H o v):Bk P n E C H X o (.val v):=λa w hf ho _=>
 .inl ⟨v,w,h a w hf ho,ho,Below.refl _ _,rfl⟩
theorem IZ{X:B6->Prop}{o:Oper}{f:FuncId}{args:J2}{v:Value}(he:f0 P n E C H o f args)(hc:∀w,B7 C H w->X w->Calls P f args w λe w'=>e=.returned v/\Below w.heap.size w w'):Bk P n E C H X o (.val v):=λa w hf ho hx=>
 .inr ⟨f,args,he a w hf ho,(hc w ho hx).mono λe w' ⟨h1,h2⟩=>⟨v,h1,ho.below h2,h2,rfl⟩⟩
theorem gA{X:B6->Prop}{o:Oper}{f:FuncId}{args:J2}{Φ:Value->B6->Prop}(he:f0 P n E C H o f args)(hc:∀w,B7 C H w->X w->Calls P f args w λe w'=>∃u,e=.returned u/\Below w.heap.size w w'/\Φ u w'):Bk P n E C H X o (.rel Φ):=λa w hf ho hx=>
 .inr ⟨f,args,he a w hf ho,(hc w ho hx).mono λe w' ⟨u,h1,h2,h3⟩=>⟨u,h1,ho.below h2,h2,h3⟩⟩
theorem Yd{X:B6->Prop}{o:Oper}{s:L0}(h:∀a w,U2 n E a->B7 C H w->X w->∃u w',(execOp a.eval o).run P w=.ok (.value u) w'/\Below w.heap.size w w'/\s.ok u w'):Bk P n E C H X o s:=λa w hf ho hx=>by
 obtain⟨u,w',h1,h2,h3⟩:=h a w hf ho hx;exact .inl ⟨u,w',h1,ho.below h2,h2,h3⟩
def U1(ops:Array Oper)(S:List L0)(vs:Nat->Value):List Nat->List (Nat×Value)->List (Nat×Value)
 |[],E=>E
 |i::is,E=>match(ops[i]?).bind (·.dst) with
  |some d=>(d,match M9 S i with|.val v=>v|.rel _=>vs i)::U1 ops S vs is E
  |none=>U1 ops S vs is E
def X5(S:List L0)(vs:Nat->Value):List Nat->World->Prop
 |[],_=>True
 |i::is,w=>match M9 S i with
  |.val _=>X5 S vs is w
  |.rel Φ=>Φ (vs i) w/\X5 S vs is w
theorem Js{S:List L0}{vs:Nat->Value}{w:B6}:∀{is:List Nat},(∀i∈is,(M9 S i).ok (vs i) w)->X5 S vs is w
 |[],_=>trivial
 |i::is,h=>by
  have h1:=h i (j8 ..);have h2:=Js (is:=is) λj hj=>h j (Cj _ hj);unfold X5;cases hs:M9 S i with
  |val v=>exact h2
  |rel Φ=>rw[hs] at h1;exact⟨h1,h2⟩
theorem KR{S:List L0}{vs:Nat->Value}{w:B6}{a:Act}(hf:U2 n E a):∀{is:List Nat},(∀i∈is,∀d,(ops[i]?).bind (·.dst)=some d->a.tmps[d]?=some (vs i)/\(M9 S i).ok (vs i) w)->U2 n (U1 ops S vs is E) a
 |[],_=>hf
 |i::is,h=>by
  have h2:=KR hf (is:=is) λj hj=>h j (Cj _ hj);unfold U1;cases hd:(ops[i]?).bind (·.dst) with
  |none=>exact h2
  |some d=>
   obtain⟨h3,h4⟩:=h i (j8 ..) d hd;refine⟨h2.size,λt u hu=>?_⟩;simp only[KF] at hu;split at hu
   ·rename_i e;subst e;cases hu;rw[h3];cases hs:M9 S i with
    |val v=>rw[hs] at h4;exact congrArg some h4
    |rel Φ=>rfl
   ·exact h2.get t u hu
def Lh(ops:Array Oper)(S:List L0)(i:Nat)(w w':World):Prop:=∀j,j≠i->Eb ops ops.size j i=false->∀u,(M9 S j).ok u w->(M9 S j).ok u w'
def am2(P:Program)(n:Nat)(E:List (Nat×Value))(C:I3)(H:List C2)(X:World->Prop)(ops:Array Oper)(S:List L0)(i:Nat)(o:Oper):Prop:=∀a w,U2 n E a->B7 C H w->X w->
 (∃u w',(execOp a.eval o).run P w=.ok (.value u) w'/\B7 C H w'/\Lh ops S i w w'/\(M9 S i).ok u w')\/
 (∃f args,(execOp a.eval o).run P w=.ok (.enter f args) w/\Calls P f args w λe w'=>∃u,e=.returned u/\B7 C H w'/\Lh ops S i w w'/\(M9 S i).ok u w')
def VT(P:Program)(n:Nat)(E:List (Nat×Value))(C:I3)(H:List C2)(X:World->Prop)(ops:Array Oper)(S:List L0)(i:Nat)(o:Oper):Prop:=Bk P n E C H X o (M9 S i)\/am2 P n E C H X ops S i o
theorem SM{S:List L0}(hst:∀i,(M9 S i).stab){i:Nat}{w w':B6}(hb:Below w.heap.size w w'):Lh ops S i w w':=λj _ _ u hu=>L0.K6 (hst j) hb hu
def MS(P:Program)(n:Nat)(E:List (Nat×Value))(C:I3)(H:List C2)(X:World->Prop)(ops:Array Oper)(S:List L0)(i:Nat)(o:Oper):Prop:=match o.guard with
 |none=>VT P n E C H X ops S i o
 |some (g,b)=>∃t c,Ci ops g=some t/\R6 E t=some c/\(if BN c b then VT P n E C H X ops S i o else∀w,(M9 S i).ok undef w)
def Em(P:Program)(n:Nat)(E:List (Nat×Value))(C:I3)(H:List C2)(ops:Array Oper)(S:List L0):Nat->Nat->List Oper->Prop
 |0,_,_=>True
 |_+1,_,[]=>True
 |m+1,j,o::rest=>(∀vs:Nat->Value,MS P n (U1 ops S vs (M4 o) E) C H (X5 S vs (M4 o)) ops S j o)/\Em P n E C H ops S m (j+1) rest
theorem bE{S:List L0}:∀{m j:Nat} {l:List Oper},Em P n E C H ops S m j l->∀i o,i<m->l[i]?=some o->∀vs:Nat->Value,MS P n (U1 ops S vs (M4 o) E) C H (X5 S vs (M4 o)) ops S (j+i) o
 |0,_,_,_,i,_,hi,_,_=>absurd hi (by omega)
 |m+1,j,[],_,i,o,_,ho,_=>by simp at ho
 |m+1,j,o::rest,h,i,o',hi,ho,vs=>by
  cases i with
  |zero=>simp at ho;subst ho;exact h.1 vs
  |succ i=>
   have:=bE h.2 i o' (by omega) (by simpa using ho) vs;rwa[show j+1+i=j+(i+1) by omega] at this
def Dp(listed:Array Bool):Nat:=listed.toList.count false
theorem mF:∀(l:List Bool) (i:Nat),l[i]?=some false->(l.set i true).count false+1=l.count false
 |[],i,h=>by simp at h
 |b::l,0,h=>by simp at h;subst h;simp
 |b::l,i+1,h=>by
  have:=mF l i (by simpa using h);simp only[Ra,Rb];omega
theorem IS{listed:Array Bool}{i:Nat}(h:listed[i]?=some false):Dp (listed.setIfInBounds i true)+1=Dp listed:=by
 unfold Dp;rw[YC];exact mF _ _ (by simpa using h)
theorem OT{listed:Array Bool}{i:Nat}(h:listed[i]?=some false):0<Dp listed:=by have:=IS h;omega
def Jp(ops:Array Oper)(listed:Array Bool):Prop:=∀(j:Nat) (o:Oper),ops[j]?=some o->listed[j]?=some true->∀e∈M4 o,listed[e]?=some true
theorem FP{listed:Array Bool}{i:Nat}(h:i∈Region.ready .any ops listed)(hsz:listed.size=ops.size):listed[i]?=some false/\∃o,ops[i]?=some o/\∀e∈M4 o,listed[e]?=some true\/ops.size<=e:=by
 obtain⟨h1,o,ho,hall⟩:=mem_ready.1 h;have hi:i<listed.size:=by rw[hsz];exact(T1.1 ho).1
 refine⟨by simpa[s4 hi] using h1,o,ho,λe he=>?_⟩;unfold M4 at he;obtain⟨x,hx,hx'⟩:=MB.1 he;split at hx'
 ·rename_i hb;cases hx';have:=hall x (by simpa using hx) hb;rcases w7 x.on ops.size with hl|hl
  ·have hl':x.on<listed.size:=by omega
   left;simpa[s4 hl'] using this
  ·exact .inr hl
 ·cases hx'
theorem IW{listed:Array Bool}(hc:Jp ops listed):∀f k i,Eb ops f k i=true->listed[k]?=some true->listed[i]?=some true
 |0,_,_,h,_=>by simp[Eb] at h
 |f+1,k,i,h,hk=>by
  unfold Eb at h;simp only[Kf] at h;rcases h with h|h
  ·have:k=i:=by simpa using h
   exact this▸hk
  ·split at h
   ·rename_i o ho;obtain⟨e,he,hr⟩:=Uk.1 h;exact IW hc f e i hr (hc k o ho hk e he)
   ·cases h
structure SH(ops:Array Oper)(N:Nat):Prop where
 eW:Region.noSelect ops=true
 le:N<=ops.size
 low:∀(i:Nat) (o:Oper),ops[i]?=some o->∀e∈M4 o,e<i
 dst:∀(i:Nat) (o:Oper),ops[i]?=some o->i<N->o.dst.isSome=true
 nd:∀(i:Nat) (o:Oper),ops[i]?=some o->i<N->Op.X9 o.op=false
 tail:∀(i:Nat) (o:Oper),ops[i]?=some o->N<=i->∀k,k<i->∃e∈M4 o,Eb ops ops.size e k=true
 apart:∀i j,i<N->j<N->i≠j->∀d,(ops[i]?).bind (·.dst)=some d->(ops[j]?).bind (·.dst)≠some d
theorem dC{N:Nat}(h:Jk ops N=true):SH ops N:=by
 unfold Jk at h;simp only[j1] at h;obtain⟨⟨⟨h1,h2⟩,h3⟩,h4⟩:=h;have h2':N<=ops.size:=by simpa using h2
 have g3:∀(i:Nat) (o:Oper),ops[i]?=some o->_:=λi o ho=>by
  have:=f5.1 h3 i (j9.2 (T1.1 ho).1);rw[ho] at this;simp only[j1] at this;exact this
 refine⟨h1,h2',λi o ho e he=>?_,λi o ho hi=>?_,λi o ho hi=>?_,λi o ho hi k hk=>?_,λi j hi hj hne d hd hd'=>?_⟩
 ·have:=f5.1 (g3 i o ho).1.1 e he;simpa using this
 ·have:=(g3 i o ho).1.2;have hlt:Nat.blt i N=true:=by simpa using hi
  rw[hlt] at this;simp only[if_true,j1] at this;exact this.1
 ·have:=(g3 i o ho).1.2;have hlt:Nat.blt i N=true:=by simpa using hi
  rw[hlt] at this;simp only[if_true,j1] at this;simpa using this.2
 ·have:=(g3 i o ho).2;have hlt:Nat.blt i N=false:=by
   cases hb:Nat.blt i N
   ·rfl
   ·exact absurd (by simpa using hb) (Nat.not_lt.2 hi)
  rw[hlt] at this;simp only[Fb,if_false] at this;have:=f5.1 this k (j9.2 hk);exact Uk.1 this
 ·have:=f5.1 (f5.1 h4 i (j9.2 hi)) j (j9.2 hj);rw[hd,hd'] at this;simp[hne] at this
theorem LD{listed:Array Bool}{i:Nat}(hc:Jp ops listed){o:Oper}(ho:ops[i]?=some o)(he:∀e∈M4 o,listed[e]?=some true):Jp ops (listed.setIfInBounds i true):=by
 intro j o' ho' hj e hee;have mono:∀k,listed[k]?=some true->(listed.setIfInBounds i true)[k]?=some true:=λk hk=>by
  rw[Ly];split
  ·rename_i h;subst h;split
   ·rfl
   ·rename_i h';rw[mK (by omega)] at hk;cases hk
  ·exact hk
 by_cases hij:i=j
 ·subst hij;rw[ho] at ho';cases ho';exact mono e (he e hee)
 ·rw[Br hij] at hj;exact mono e (hc j o' ho' hj e hee)
theorem gR{N:Nat}(hr:SH ops N):∀(fuel k:Nat) (listed:Array Bool) (a:Act) (w:B6),N<=k->listed.size=ops.size->Dp listed<=fuel->(∀i,i<k->listed[i]?=some true)->(∀i,k<=i->i<ops.size->listed[i]?=some false)->
  k<=ops.size->wpOpsIn (fe r) 0 P ops Q (List.range' k (ops.size-k)) a w->wpAnyIn (fe r) 0 P .any ops Q fuel listed a w:=by
 intro fuel
 induction fuel with
 |zero=>
  intro k listed a w hN hsz hcn hlo hhi hks h;have hk:k=ops.size:=by
   rcases w7 k ops.size with hl|hl
   ·have:=OT (hhi k (L6 _) hl);omega
   ·omega
  subst hk;refine⟨?_,by simpa[wpOpsIn] using h⟩;apply mL.2;intro i hi;obtain⟨h1,o,ho,_⟩:=FP hi hsz;rw[hlo i (T1.1 ho).1] at h1;cases h1
 |succ fuel ih=>
  intro k listed a w hN hsz hcn hlo hhi hks h;have only:∀i∈Region.ready .any ops listed,i=k:=λi hi=>by
   obtain⟨h1,o,ho,he⟩:=FP hi hsz;have hik:k<=i:=by
    rcases w7 i k with hl|hl
    ·rw[hlo i hl] at h1;cases h1
    ·exact hl
   rcases w7 k i with hl|hl
   ·obtain⟨e,hee,hre⟩:=hr.tail i o ho (by omega) k hl;have hlow:=hr.low i o ho e hee;have hi':=(T1.1 ho).1;have hel:listed[e]?=some true:=by
     rcases he e hee with h|h
     ·exact h
     ·omega
    have hcl:Jp ops listed:=λj o' ho' hj e' he'=>by
     have hjk:j<k:=by
      rcases w7 j k with hl'|hl'
      ·exact hl'
      ·rw[hhi j hl' (T1.1 ho').1] at hj;cases hj
     exact hlo e' (Nat.lt_trans (hr.low j o' ho' e' he') hjk)
    have:=IW hcl _ e k hre hel;rw[hhi k (L6 _) (by omega)] at this;cases this
   ·omega
  rcases w7 k ops.size with hl|hl
  ·have hcons:List.range' k (ops.size-k)=k::List.range' (k+1) (ops.size-(k+1)):=by
    rw[show ops.size-k=(ops.size-(k+1))+1 by omega,Ng]
   rw[hcons,wpOpsIn_cons] at h;refine⟨λh0=>?_,λi hi=>?_⟩
   ·exfalso;have:k∈Region.ready .any ops listed:=mem_ready.2 ⟨by rw[m6,hhi k (L6 _) hl];rfl,ops[k],s4 hl,λe hee hb=>by
     have hlow:=hr.low k _ (s4 hl) e.on (MB.2 ⟨e,by simpa using hee,by simp[hb]⟩);rw[m6,hlo e.on hlow];rfl⟩
    rw[h0] at this;cases this
   ·have hk:=only i hi;subst hk;refine wpOpIn_mono (λa' w' h'=>ih (i+1) _ a' w' (by omega) (by simpa using hsz) ?_ ?_ ?_ (by omega) h') h
    ·have:=IS (hhi i (L6 _) hl);omega
    ·intro j hj;by_cases hji:i=j
     ·subst hji;rw[Array.getElem?_setIfInBounds_self];simp[hsz,hl]
     ·rw[Br hji];exact hlo j (by omega)
    ·intro j hj hjs;rw[Br (by omega)];exact hhi j (by omega) hjs
  ·have hk:k=ops.size:=by omega
   subst hk;refine⟨λ_=>by simpa[wpOpsIn] using h,λi hi=>?_⟩;have:=only i hi;subst this;obtain⟨_,o,ho,_⟩:=FP hi hsz;have:=(T1.1 ho).1;omega
def VU(n:Nat)(E:List (Nat×Value))(C:I3)(H:List C2)(ops:Array Oper)(S:List L0)(N:Nat)(listed:Array Bool)(a:Act)(w:World):Prop:=
 U2 n E a/\DF C a/\B7 C H w/\∀i,i<N->listed[i]?=some true->∀d,(ops[i]?).bind (·.dst)=some d->∃u,a.tmps[d]?=some u/\(M9 S i).ok u w
theorem St{a:Act}{d:Nat}{u:Value}(hf:U2 n E a)(hd:E.all (λp=> !Nat.beq p.1 d)=true):U2 n E (a.put (some d) u):=
 ⟨by simp[Act.put,hf.size],λt v hv=>by
  have hne:d≠t:=λe=>by
   subst e;have:∀{E:X0} {v:Value},E.all (λp=> !Nat.beq p.1 d)=true->R6 E d=some v->False:=by
    intro E
    induction E with
    |nil=>intro v _ h;simp[R6] at h
    |cons p E ih=>
     obtain⟨s,x⟩:=p;intro v ha h;rw[KF] at h;simp only[Pe,j1] at ha;split at h
     ·rename_i e;subst e;simp at ha
     ·exact ih ha.2 h
   exact this hd hv
  simp only[Act.put];rw[Br hne];exact hf.get t v hv⟩
theorem Tl{d i N:Nat}(h:HT ops N E=true)(hi:i<N)(hd:(ops[i]?).bind (·.dst)=some d):E.all (λp=> !Nat.beq p.1 d)=true:=by
 have hmem:d∈BX ops N:=by
  cases ho:ops[i]? with
  |none=>rw[ho] at hd;cases hd
  |some o=>
   rw[ho] at hd;exact MB.2 ⟨o,CP (i:=i) (by rw[MC,if_pos hi];simpa using ho),hd⟩
 refine f5.2 λp hp=>?_;have:=f5.1 h p hp;cases hb:Nat.beq p.1 d
 ·rfl
 ·have e:=DK hb;rw[e] at this;simp[hmem] at this
theorem au0{S:List L0}{N:Nat}(hr:SH ops N)(hst:∀i,(M9 S i).stab)(hfr:HT ops N E=true)(hin:∀(i d:Nat),(ops[i]?).bind (·.dst)=some d->d<n)
  (steps:∀(i:Nat) (o:Oper),i<N->ops[i]?=some o->∀vs:Nat->Value,MS P n (U1 ops S vs (M4 o) E) C H (X5 S vs (M4 o)) ops S i o)
  (fin:∀(listed:Array Bool) (a:Act) (w:B6),(∀i,i<N->listed[i]?=some true)->VU n E C H ops S N listed a w->wpOpsIn (fe r) 0 P ops Q (List.range' N (ops.size-N)) a w):
  ∀(fuel:Nat) (listed:Array Bool) (a:Act) (w:B6),listed.size=ops.size->Dp listed<=fuel->Jp ops listed->(∀i,N<=i->i<ops.size->listed[i]?=some false)->VU n E C H ops S N listed a w->wpAnyIn (fe r) 0 P .any ops Q fuel listed a w:=by
 intro fuel;have full:∀(fuel:Nat) (listed:Array Bool) (a:Act) (w:B6),listed.size=ops.size->Dp listed<=fuel->(∀i,N<=i->i<ops.size->listed[i]?=some false)->VU n E C H ops S N listed a w->(∀i,i<N->listed[i]?=some true)->wpAnyIn (fe r) 0 P .any ops Q fuel listed a w:=
  λfuel listed a w hsz hcn hhi hg hlo=>gR hr fuel N listed a w (L6 _) hsz hcn hlo hhi hr.le (fin listed a w hlo hg)
 induction fuel with
 |zero=>
  intro listed a w hsz hcn hcl hhi hg;refine full 0 listed a w hsz hcn hhi hg λi hi=>?_;have hlt:i<listed.size:=by have:=hr.le;omega
  cases hb:listed[i]? with
  |none=>rw[HA] at hb;omega
  |some b=>
   cases b
   ·have:=OT hb;omega
   ·rfl
 |succ fuel ih=>
  intro listed a w hsz hcn hcl hhi hg;by_cases hall:∀i,i<N->listed[i]?=some true
  ·exact full (fuel+1) listed a w hsz hcn hhi hg hall
  ·have hex:∃i,i<N/\listed[i]?=some false:=by
    refine Classical.byContradiction λhno=>hall λi hi=>?_;have hlt:i<listed.size:=by have:=hr.le;omega
    cases hb:listed[i]? with
    |none=>rw[HA] at hb;omega
    |some b=>
     cases b
     ·exact absurd ⟨i,hi,hb⟩ hno
     ·rfl
   have small:∀i∈Region.ready .any ops listed,i<N:=λi hi=>by
    obtain⟨h1,o,ho,he⟩:=FP hi hsz;rcases w7 i N with hl|hl
    ·exact hl
    ·obtain⟨k,hk,hkf⟩:=hex;obtain⟨e,hee,hre⟩:=hr.tail i o ho hl k (by omega);have hlow:=hr.low i o ho e hee;have hi':=(T1.1 ho).1;have hel:listed[e]?=some true:=by
      rcases he e hee with h|h
      ·exact h
      ·omega
     have:=IW hcl _ e k hre hel;rw[hkf] at this;cases this
   refine⟨λh0=>?_,λi hi=>?_⟩
   ·exfalso;obtain⟨k,hk,hmin⟩:=exists_least hex;have hko:k<ops.size:=by have:=hr.le;omega
    have:k∈Region.ready .any ops listed:=mem_ready.2 ⟨by rw[m6,hk.2];rfl,ops[k],s4 hko,λe hee hb=>by
     have hlow:=hr.low k _ (s4 hko) e.on (MB.2 ⟨e,by simpa using hee,by simp[hb]⟩);have hlt:e.on<listed.size:=by omega
     cases hbb:listed[e.on]? with
     |none=>rw[HA] at hbb;omega
     |some b=>
      cases b
      ·have:=hmin e.on ⟨by omega,hbb⟩;omega
      ·rw[m6,hbb];rfl⟩
    rw[h0] at this;cases this
   ·have hiN:=small i hi;obtain⟨h1,o,ho,he⟩:=FP hi hsz;have he':∀e∈M4 o,listed[e]?=some true:=λe hee=>by
     rcases he e hee with h|h
     ·exact h
     ·have:=hr.low i o ho e hee;have:=(T1.1 ho).1;omega
    obtain⟨hf,hdf,ho',hgv⟩:=hg
    let vs:Nat->Value:=λk=>match(ops[k]?).bind (·.dst) with
     |some d=>(a.tmps[d]?).getD undef
     |none=>undef
    have hpred:∀e∈M4 o,∀d,(ops[e]?).bind (·.dst)=some d->a.tmps[d]?=some (vs e)/\(M9 S e).ok (vs e) w:=λe hee d hd=>by
     have hlow:=hr.low i o ho e hee;obtain⟨u,hu,hok⟩:=hgv e (by omega) (he' e hee) d hd;have:vs e=u:=by simp only[vs,hd,hu,Nh]
     rw[this];exact⟨hu,hok⟩
    have hfE:=KR (ops:=ops) (S:=S) (vs:=vs) (w:=w) hf hpred;have hfact:X5 S vs (M4 o) w:=Js λe hee=>by
     have hlow:=hr.low i o ho e hee;have heo:e<ops.size:=by have:=(T1.1 ho).1;omega
     have hds:=hr.dst e ops[e] (s4 heo) (by omega);obtain⟨d,hd⟩:=JA.1 hds;exact(hpred e hee d (by rw[s4 heo];exact hd)).2
    have hstep:=steps i o hiN ho vs;obtain⟨d,hd⟩:=JA.1 (hr.dst i o ho hiN);have hdi:(ops[i]?).bind (·.dst)=some d:=by rw[ho];exact hd
    have next:∀(u:Value) (w':B6),B7 C H w'->Lh ops S i w w'->(M9 S i).ok u w'->wpAnyIn (fe r) 0 P .any ops Q fuel (listed.setIfInBounds i true) (a.put o.dst u) w':=λu w' hw' hb hok=>by
     refine ih _ _ _ (by simpa using hsz) (by have:=IS h1;omega) (LD hcl ho he') (λj hj hjs=>by rw[Br (by omega)];exact hhi j hj hjs) ⟨?_,hdf.put _ _,hw',?_⟩
     ·rw[hd];exact St hf (Tl hfr hiN hdi)
     ·intro j hj hjl d' hd';by_cases hij:i=j
      ·subst hij;rw[hdi] at hd';cases hd';refine⟨u,?_,hok⟩;rw[hd];have:d<a.tmps.size:=by rw[hf.size];exact hin i d hdi
       simp[Act.put,this]
      ·rw[Br hij] at hjl;obtain⟨x,hx,hxok⟩:=hgv j hj hjl d' hd';refine⟨x,?_,hb j (Ne.symm hij) (by
        cases hrr:Eb ops ops.size j i with
        |false=>rfl
        |true=>have:=IW hcl _ j i hrr hjl;rw[h1] at this;cases this) x hxok⟩
       rw[hd];have hne:d≠d':=λe=>hr.apart i j hiN hj hij d hdi (e▸hd');simp only[Act.put];rw[Br hne];exact hx
    have one:VT P n (U1 ops S vs (M4 o) E) C H (X5 S vs (M4 o)) ops S i o->o.wpIn (fe r) 0 P a w (wpAnyIn (fe r) 0 P .any ops Q fuel (listed.setIfInBounds i true)) Q:=λh=>by
     refine⟨λ_ _=>trivial,?_⟩;rw[show(fe r).round=r from rfl,Oj (hr.nd i o ho hiN)];rcases h with h|h
     ·rcases h a w hfE ho' hfact with⟨u,w',hrun,hw',hb,hok⟩|⟨f,args,hrun,hcall⟩
      ·rw[hrun];exact next u w' hw' (SM hst hb) hok
      ·rw[hrun];refine Lr hcall ?_;rintro e w' ⟨u,rfl,hw',hb,hok⟩;exact⟨u,rfl,next u w' hw' (SM hst hb) hok⟩
     ·rcases h a w hfE ho' hfact with⟨u,w',hrun,hw',hb,hok⟩|⟨f,args,hrun,hcall⟩
      ·rw[hrun];exact next u w' hw' hb hok
      ·rw[hrun];refine Lr hcall ?_;rintro e w' ⟨u,rfl,hw',hb,hok⟩;exact⟨u,rfl,next u w' hw' hb hok⟩
    unfold wpOpIn;simp only[ho];unfold MS at hstep;cases hg:o.guard with
    |none=>
     rw[hg] at hstep;rw[if_pos (by simp[Region.wanted,hg])];exact one hstep
    |some gb=>
     obtain⟨g,b⟩:=gb;rw[hg] at hstep;obtain⟨t,c,hy,hge,hcase⟩:=hstep;rw[Nx hfE hg hy hge];split
     ·rename_i hwb;rw[hwb,if_pos rfl] at hcase;exact one hcase
     ·rename_i hwb;rw[if_neg hwb] at hcase;exact⟨λ_ _=>trivial,next undef w ho' (λ_ _ _ _ h=>h) (hcase w)⟩
def Jd:List L0->Prop
 |[]=>True
 |s::S=>s.stab/\Jd S
theorem Vs:∀{S:List L0},Jd S->∀i,(M9 S i).stab
 |[],_,i=>by simp[M9,L0.stab]
 |s::S,h,0=>h.1
 |s::S,h,i+1=>by
  have:=Vs h.2 i;simpa[M9] using this
def Gz(ops:Array Oper)(n:Nat):Bool:=(Zw ops).all λd=>Nat.blt d n
theorem PM(h:Gz ops n=true)(i d:Nat)(hd:(ops[i]?).bind (·.dst)=some d):d<n:=by
 have hmem:d∈Zw ops:=by
  cases ho:ops[i]? with
  |none=>rw[ho] at hd;cases hd
  |some o=>
   rw[ho] at hd;exact MB.2 ⟨o,by simpa using Array.mem_of_getElem? ho,hd⟩
 have:=f5.1 h d hmem;simpa using this
theorem qV{id:Nat}{l:List Oper}(N:Nat)(S:List L0)(hm:P.follows .mixedOrders=true)(hB:Jk l.toArray N=true)(hfr:HT l.toArray N E=true)(hin:Gz l.toArray n=true)(hst:Jd S)
  (steps:Em P n E C H l.toArray S N 0 l)
  (fin:∀(vs:Nat->Value) (w1:B6),B7 C H w1->X5 S vs (List.range N) w1->At n (U1 l.toArray S vs (List.range N) E) (C.re w1 H) H (D3 r P l.toArray Q (l.drop N))):
  At n E C H (F8 r P (Code.region id l.toArray true) Q):=by
 intro a w hf hdf ho;have hr:=dC hB;refine wpIn_region_any hm (au0 hr (Vs hst) hfr (PM hin) (λi o hi hoo vs=>?_) ?_ _ _ _ _ (by simp) ?_ ?_ ?_ ⟨hf,hdf,(show B7 C H w.drew from ho.drew),?_⟩)
 ·have:=bE steps i o hi (by simpa using hoo) vs;rwa[Y3] at this
 ·intro listed a' w' hlo ⟨hf',hdf',ho',hg⟩
  let vs:Nat->Value:=λk=>match(l.toArray[k]?).bind (·.dst) with
   |some d=>(a'.tmps[d]?).getD undef
   |none=>undef
  have hall:∀i∈List.range N,∀d,(l.toArray[i]?).bind (·.dst)=some d->a'.tmps[d]?=some (vs i)/\(M9 S i).ok (vs i) w':=λi hi d hd=>by
   have hiN:=j9.1 hi;obtain⟨u,hu,hok⟩:=hg i hiN (hlo i hiN) d hd;have:vs i=u:=by simp only[vs,hd,hu,Nh]
   rw[this];exact⟨hu,hok⟩
  have hfE:=KR (ops:=l.toArray) (S:=S) (vs:=vs) (w:=w') hf' hall;have hfact:X5 S vs (List.range N) w':=Js λi hi=>by
   have hiN:=j9.1 hi;have hio:i<l.toArray.size:=ID hiN hr.le;obtain⟨d,hd⟩:=JA.1 (hr.dst i _ (s4 hio) hiN);exact(hall i hi d (by rw[s4 hio];exact hd)).2
  have hfin:=fin vs w' ho' hfact a' w' hfE hdf' ho'.re;have hle:N<=l.length:=by simpa using hr.le
  have e:=wpOpsIn_eq_wpListIn (F:=fe r) (n:=0) (P:=P) (Q:=Q) (ops:=l.toArray) (l.drop N) N (λj=>by simp);rw[EB] at e;rw[Ul,e];exact hfin
 ·unfold Dp;simp
 ·intro j o hj hjl;exfalso;rw[GO] at hjl;split at hjl<;>simp at hjl
 ·intro i hi his;rw[GO,if_pos his]
 ·intro i hi hil;exfalso;rw[GO] at hil;split at hil<;>simp at hil
def Qy:List Nat->Nat->Bool
 |[],_=>false
 |d::ds,s=>match Nat.beq d s with
  |true=>true
  |false=>Qy ds s
def x3(ds:List Nat):List (Nat×Value)->List (Nat×Value)
 |[]=>[]
 |(s,v)::E=>match Qy ds s with
  |true=>x3 ds E
  |false=>(s,v)::x3 ds E
theorem gB{s:Nat}:∀{ds:List Nat},Qy ds s=true↔s∈ds
 |[]=>by simp[Qy]
 |d::ds=>by
  unfold Qy;cases hb:Nat.beq d s
  ·have:d≠s:=λe=>by subst e;simp at hb
   simp[gB,Ne.symm this]
  ·have:=DK hb;simp[this]
theorem PP{ds:List Nat}{t:Nat}{v:Value}:∀{E:X0},R6 (x3 ds E) t=some v->R6 E t=some v
 |[],h=>by simp[x3,R6] at h
 |(s,u)::E,h=>by
  unfold x3 at h;rw[KF];split at h
  ·rename_i hm;have h1:=PP h;have hst:s≠t:=λe=>by
    subst e;have:∀{E:X0} {v:Value},R6 (x3 ds E) s=some v->False:=by
     intro E
     induction E with
     |nil=>intro v h;simp[x3,R6] at h
     |cons p E ih=>
      obtain⟨r,x⟩:=p;intro v h;unfold x3 at h;split at h
      ·exact ih h
      ·rename_i hr;rw[KF] at h;split at h
       ·rename_i e;subst e;rw[hm] at hr;cases hr
       ·exact ih h
    exact this h
   rw[if_neg hst];exact h1
  ·rw[KF] at h;split at h
   ·rename_i e;rw[if_pos e];exact h
   ·rename_i e;rw[if_neg e];exact PP h
theorem OP{ops:Array Oper}{N:Nat}:∀{E:X0},HT ops N (x3 (BX ops N) E)=true
 |[]=>rfl
 |(s,u)::E=>by
  unfold x3;split
  ·exact OP
  ·rename_i hm;have h1:HT ops N (x3 (BX ops N) E)=true:=OP;unfold HT at h1⊢;rw[Pe,h1,Bool.and_true];have:s∉BX ops N:=λh=>by rw[gB.2 h] at hm;cases hm
   simp[this]
theorem an8{id:Nat}{l:List Oper}(N:Nat)(S:List L0)(hm:P.follows .mixedOrders=true)(hB:Jk l.toArray N=true)(hin:Gz l.toArray n=true)(hst:Jd S)
  (steps:Em P n (x3 (BX l.toArray N) E) C H l.toArray S N 0 l)
  (fin:∀(vs:Nat->Value) (w1:B6),B7 C H w1->X5 S vs (List.range N) w1->At n (U1 l.toArray S vs (List.range N) (x3 (BX l.toArray N) E)) (C.re w1 H) H (D3 r P l.toArray Q (l.drop N))):
  At n E C H (F8 r P (Code.region id l.toArray true) Q):=λa w hf hdf ho=>
 qV N S hm hB OP hin hst steps fin a w ⟨hf.size,λt v h=>hf.get t v (PP h)⟩ hdf ho
theorem HX{id:Nat}{l:List Oper}(N:Nat)(S:List L0)(hm:P.follows .mixedOrders=true)(hB:Jk l.toArray N=true)(hin:Gz l.toArray n=true)(hst:Jd S)
  (steps:Em P n (x3 (BX l.toArray N) E) C H l.toArray S N 0 l)
  (fin:∀(vs:Nat->Value),At n (U1 l.toArray S vs (List.range N) (x3 (BX l.toArray N) E)) C H (D3 r P l.toArray Q (l.drop N))):
  At n E C H (F8 r P (Code.region id l.toArray true) Q):=
 an8 N S hm hB hin hst steps λvs w1 hw1 _ a w hf hdf ho=>fin vs a w hf hdf
  ⟨ho.X4,hw1.base.trans ho.base λk hk hF=>((hw1.X8 k hF).2).elim (λh=>absurd h (by omega)) (λh=>h),ho.ok,ho.nodup,hw1.X8,hw1.sub,ho.mark⟩
theorem l6{ops:Array Oper}{S:List L0}{j:Nat}{l:List Oper}:Em P n E C H ops S 0 j l:=trivial
theorem Ld{ops:Array Oper}{S:List L0}{m j:Nat}{o:Oper}{rest:List Oper}(hg:o.guard=none)(h1:∀vs:Nat->Value,Bk P n (U1 ops S vs (M4 o) E) C H (X5 S vs (M4 o)) o (M9 S j))(h2:Em P n E C H ops S m (j+1) rest):
  Em P n E C H ops S (m+1) j (o::rest):=⟨λvs=>by unfold MS;rw[hg];exact .inl (h1 vs),h2⟩
theorem J9{ops:Array Oper}{S:List L0}{m j g t:Nat}{b:Bool}{c:Value}{o:Oper}{rest:List Oper}(hg:o.guard=some (g,b))(hy:Ci ops g=some t)(ht:∀vs:Nat->Value,R6 (U1 ops S vs (M4 o) E) t=some c)(hw:BN c b=true)
  (h1:∀vs:Nat->Value,Bk P n (U1 ops S vs (M4 o) E) C H (X5 S vs (M4 o)) o (M9 S j))(h2:Em P n E C H ops S m (j+1) rest):
  Em P n E C H ops S (m+1) j (o::rest):=⟨λvs=>by unfold MS;rw[hg];exact⟨t,c,hy,ht vs,by rw[hw];exact .inl (h1 vs)⟩,h2⟩
theorem V3{ops:Array Oper}{S:List L0}{m j g t:Nat}{b:Bool}{c:Value}{o:Oper}{rest:List Oper}(hg:o.guard=some (g,b))(hy:Ci ops g=some t)(ht:∀vs:Nat->Value,R6 (U1 ops S vs (M4 o) E) t=some c)(hw:BN c b=false)
  (hs:M9 S j=.val undef)(h2:Em P n E C H ops S m (j+1) rest):
  Em P n E C H ops S (m+1) j (o::rest):=⟨λvs=>by unfold MS;rw[hg];exact⟨t,c,hy,ht vs,by rw[hw,hs];exact λ_=>rfl⟩,h2⟩
end
theorem dS:∀(vs:H2) (cs:J2) (off k:Nat),off+k+vs.length<=cs.size->
  (vs.zipIdx k).foldl (λ(cs:J2) p=>cs.setIfInBounds (off+p.2) p.1) cs=(cs.toList.take (off+k)++vs++cs.toList.drop (off+k+vs.length)).toArray
 |[],cs,off,k,h=>by simp
 |v::vs,cs,off,k,h=>by
  simp only[List.zipIdx_cons,List.foldl_cons];simp only[T3] at h;rw[dS vs _ off (k+1) (by simp;omega)];have hlt:off+k<cs.toList.length:=by simp;omega
  congr 1;rw[YC,List.set_eq_take_append_cons_drop,if_pos hlt];have h1:(cs.toList.take (off+k)).length=off+k:=by simp;omega
  have e1:off+(k+1)=(off+k)+1:=by omega
  rw[e1,List.take_append,h1,List.drop_append,h1];have e2:off+k+1-(off+k)=1:=by omega
  have e3:off+k+1+vs.length-(off+k)=vs.length+1:=by omega
  rw[e2,e3];simp;rw[CQ (by simp;omega)];have e4:off+k+1+vs.length-(off+k)=vs.length+1:=by omega
  rw[Uj];have e5:off+k-(off+k+1+vs.length)=0:=by omega
  simp[e5,EZ];congr 1;omega
theorem eT(sz:Nat):∀(vs:H2) (k:Nat) (cs:J2),(∀v∈vs,v.cells.size=sz)->(k+vs.length)*sz<=cs.size->
  Instr.fill (λi=>some (i*sz,sz)) cs ((List.range' k vs.length).zip vs)=some (cs.toList.take (k*sz)++vs.flatMap (·.cells.toList)++cs.toList.drop ((k+vs.length)*sz)).toArray
 |[],k,cs,_,_=>by simp[Instr.fill]
 |v::vs,k,cs,hv,h=>by
  have hv0:=hv v (j8 ..);simp only[T3] at h⊢;have hm:(k+(vs.length+1))*sz=k*sz+sz+vs.length*sz:=by rw[MD,MD,Nat.one_mul];omega
  rw[Ng];simp only[List.zip_cons_cons,Instr.fill];have hcond:¬(v.cells.size≠sz||decide (k*sz+v.cells.size>cs.size))=true:=by
   simp[hv0];omega
  rw[if_neg hcond];have hfold:v.cells.zipIdx.foldl (λ(cs:J2) x=>match x with|(c,j)=>cs.setIfInBounds (k*sz+j) c) cs=(cs.toList.take (k*sz)++v.cells.toList++cs.toList.drop (k*sz+sz)).toArray:=by
   rw[<-Array.foldl_toList,Array.toList_zipIdx];have:=dS v.cells.toList cs (k*sz) 0 (by simp[hv0];omega);simp only[Bs,YD,hv0] at this;exact this
  rw[hfold];have hlen:(cs.toList.take (k*sz)++v.cells.toList++cs.toList.drop (k*sz+sz)).toArray.size=cs.size:=by
   simp[hv0];omega
  have ih:=eT sz vs (k+1) (cs.toList.take (k*sz)++v.cells.toList++cs.toList.drop (k*sz+sz)).toArray (λu hu=>hv u (Cj _ hu)) (by rw[hlen,MD,MD,Nat.one_mul];omega);rw[ih];congr 1;have ht:(cs.toList.take (k*sz)).length=k*sz:=by simp;omega
  have hkz:(k+1)*sz=k*sz+sz:=by rw[MD,Nat.one_mul]
  have hkz2:(k+1+vs.length)*sz=k*sz+sz+vs.length*sz:=by rw[MD,MD,Nat.one_mul]
  simp only[hkz,hkz2,hm,DL];have hlv:v.cells.toList.length=sz:=by simpa using hv0
  congr 1;have a1:(cs.toList.take (k*sz)++v.cells.toList).length=k*sz+sz:=by rw[J8,ht,hlv]
  rw[Rc (by rw[a1];omega),CQ (by rw[a1];omega)];rw[List.drop_append,a1,List.drop_of_length_le (l:=cs.toList.take (k*sz)++v.cells.toList) (by rw[a1];omega)];rw[JB];simp
section
variable{P:Program}{r:Option Nat}{n:Nat}{E E':List (Nat×Value)}{C:I3}{H:List C2}{Q:Exit->Act->World->Prop}{K:Act->World->Prop}{ops:Array Oper}{rest:List Oper}
variable{dst:Option Tmp}{ty:TypeId}{pos:String}{after:Array Edge}{g:Option (Nat×Bool)}{x y z:Operand}{t xT yT:TypeId}
def KE(P:Program)(t e sz:Nat):Bool:=match P.underlying t with
 |some (.slice e')=>decide (e'=e)&&(match P.info? e with
  |some i=>decide (i.size=sz)&&(match i.zero with
   |some v=>decide (v.cells.size=sz)
   |none=>false)
  |none=>false)
 |_=>false
class TG (P:Program) where
 f:Nat->Option (Nat×Nat)
 ok:∀t e z,f t=some (e,z)->KE P t e z=true
theorem uR{e sz:Nat}(h:KE P t e sz=true):P.underlying t=some (.slice e)/\∃i z,P.info? e=some i/\i.size=sz/\i.zero=some z/\z.cells.size=sz:=by
 unfold KE at h;split at h
 ·rename_i e' hu;simp only[j1,decide_eq_true_eq] at h;obtain⟨rfl,h⟩:=h;refine⟨hu,?_⟩;split at h
  ·rename_i i hi;simp only[j1,decide_eq_true_eq] at h;obtain⟨h1,h⟩:=h;split at h
   ·rename_i v hv;exact⟨i,v,hi,h1,hv,by simpa using h⟩
   ·cases h
  ·cases h
 ·cases h
def JJ(E:List (Nat×Value)):Nat->List (Nat×Operand)->Option (List Value)
 |_,[]=>some []
 |k,(i,x)::ps=>match Nat.beq i k with
  |true=>(match ev E x with
   |some v=>(match JJ E (k+1) ps with
    |some vs=>some (v::vs)
    |none=>none)
   |none=>none)
  |false=>none
theorem Yo{a:Act}(hf:U2 n E a):∀{ps:List (Nat×Operand)} {k:Nat} {vs:H2},JJ E k ps=some vs->ps.map (λp=>(p.1,a.eval p.2))=(List.range' k vs.length).zip vs
 |[],k,vs,h=>by simp[JJ] at h;subst h;rfl
 |(i,x)::ps,k,vs,h=>by
  unfold JJ at h;split at h
  ·rename_i hb;have hik:i=k:=DK hb;split at h
   ·rename_i v hv;split at h
    ·rename_i us hu;cases h;simp[Ng,hf.eval hv,Yo hf hu,hik]
    ·cases h
   ·cases h
  ·cases h
theorem az3{e sz:Nat}{vs:H2}(hT:KE P t e sz=true)(hv:(vs.all λv=>Nat.beq v.cells.size sz)=true)(hb:vs.length*sz<=16777216)(w:B6):
  (Instr.buildSlice t vs.length ((List.range' 0 vs.length).zip vs).toArray).run P w=.ok (.slice (some ⟨w.heap.size,0,none⟩) vs.length vs.length) (w.alloc (.cells (vs.flatMap (·.cells.toList)).toArray e)):=by
 obtain⟨hu,i,zv,hi,hsz,hz,hzs⟩:=uR hT;have hv':∀v∈vs,v.cells.size=sz:=λv hm=>DK (f5.1 hv v hm);have h24:¬vs.length*sz>2^24:=by omega
 have hsum:(sizeOf e).run P w=.ok sz w:=by simp[sizeOf,typeInfo,go_sem,hi,hsz]
 have hzero:(zeroValue e).run P w=.ok zv w:=by simp[zeroValue,typeInfo,go_sem,hi,hz]
 have key:∀cs:Array Value,cs.size=vs.length*sz->Instr.fill (λi=>some (i*sz,sz)) cs ((List.range' 0 vs.length).zip vs)=some (vs.flatMap (·.cells.toList)).toArray:=λcs hcs=>by
  rw[eT sz vs 0 cs hv' (by rw[hcs];simp)];have:cs.toList.drop ((0+vs.length)*sz)=[]:=List.drop_eq_nil_iff.2 (by simp[hcs]);rw[this];simp
 unfold Instr.buildSlice;simp only[Sem.run_bind,run_underlying hu,Result.andThen,hsum,if_neg h24];by_cases h0:vs.length*sz=0
 ·rw[if_pos h0];simp only[Sem.run_bind,Result.andThen];have hr:=key ((Array.range (vs.length*sz)).map λi=>(#[]:J2)[i%(#[]:J2).size]!) (by simp);show(match Instr.fill (λi=>some (i*sz,sz)) ((Array.range (vs.length*sz)).map λi=>(#[]:J2)[i%(#[]:J2).size]!) ((List.range' 0 vs.length).zip vs).toArray.toList with
   |some cells=>(do pure (Value.slice (some (<-newRow e cells)) vs.length vs.length):Sem Value)
   |_=>_).run P w=_
  rw[CR,hr];rfl
 ·rw[if_neg h0];simp only[Sem.run_bind,hzero,Result.andThen];have hr:=key ((Array.range (vs.length*sz)).map λi=>zv.cells[i%zv.cells.size]!) (by simp);show(match Instr.fill (λi=>some (i*sz,sz)) ((Array.range (vs.length*sz)).map λi=>zv.cells[i%zv.cells.size]!) ((List.range' 0 vs.length).zip vs).toArray.toList with
   |some cells=>(do pure (Value.slice (some (<-newRow e cells)) vs.length vs.length):Sem Value)
   |_=>_).run P w=_
  rw[CR,hr];rfl
theorem SR{a:Act}{w:B6}(hf:U2 n E a){e sz:Nat}{ps:List (Nat×Operand)}{vs:H2}{len:Nat}(hT:KE P t e sz=true)(hp:JJ E 0 ps=some vs)(hl:Nat.beq vs.length len=true)(hv:(vs.all λv=>Nat.beq v.cells.size sz)=true)(hb:Nat.ble (len*sz) 16777216=true):
  (execOp a.eval ⟨dst,.buildSlice t len ps.toArray,ty,pos,after,g⟩).run P w=.ok (.value (.slice (some ⟨w.heap.size,0,none⟩) len len)) (w.alloc (.cells (vs.flatMap (·.cells.toList)).toArray e)):=by
 have hl':vs.length=len:=DK hl;subst hl';have h1:=az3 (P:=P) hT hv (by simpa using hb) w;have hm:(ps.toArray.map λ(i,x)=>(i,a.eval x))=((List.range' 0 vs.length).zip vs).toArray:=by
  rw[List.map_toArray];exact congrArg _ (Yo hf hp)
 simp only[execOp,hm];simp only[Sem.run_bind,h1,Result.andThen];rfl
theorem ak7{d e sz:Nat}{ps:List (Nat×Operand)}{vs cs:H2}{len:Nat}(hT:KE P t e sz=true)(hp:JJ E 0 ps=some vs)(hl:Nat.beq vs.length len=true)(hv:(vs.all λv=>Nat.beq v.cells.size sz)=true)(hb:Nat.ble (len*sz) 16777216=true)(hcs:vs.flatMap (λv:Value=>v.cells.toList)=cs)(hd:Nat.blt d n=true)
  (k:∀h,At n ((d,.slice (some ⟨h,0,none⟩) len len)::E) C (.B1 h e cs.toArray::H) (D3 r P ops Q rest)):
  At n E C H (D3 r P ops Q (⟨some d,.buildSlice t len ps.toArray,ty,pos,after,none⟩::rest)):=by
 subst hcs;exact Ie (ι:=Nat) (λh=>.slice (some ⟨h,0,none⟩) len len) (λh=>.B1 h e (vs.flatMap (λv:Value=>v.cells.toList)).toArray::H)
  (λa w hf ho=>⟨w.heap.size,_,SR hf hT hp hl hv hb,ho.new _ e⟩) rfl rfl hd k
theorem N7{d e sz:Nat}{ps:List (Nat×Operand)}{len:Nat}(vs:H2)(cs:H2)[TG P](hh0:(TG.f P t,JJ E 0 ps,Nat.beq vs.length len,(vs.all λv=>Nat.beq v.cells.size sz),Nat.ble (len*sz) 16777216,vs.flatMap (λv:Value=>v.cells.toList),Nat.blt d n)=(some (e,sz),some vs,true,true,true,cs,true))(k:∀h,At n ((d,.slice (some ⟨h,0,none⟩) len len)::E) C (.B1 h e cs.toArray::H) (D3 r P ops Q rest)):At n E C H (D3 r P ops Q (⟨some d,.buildSlice t len ps.toArray,ty,pos,after,none⟩::rest)):=ak7 (TG.ok _ _ _ (C1 hh0).1) (C1 (C1 hh0).2).1 (C1 (C1 (C1 hh0).2).2).1 (C1 (C1 (C1 (C1 hh0).2).2).2).1 (C1 (C1 (C1 (C1 (C1 hh0).2).2).2).2).1 (C1 (C1 (C1 (C1 (C1 (C1 hh0).2).2).2).2).2).1 (C1 (C1 (C1 (C1 (C1 (C1 hh0).2).2).2).2).2).2 k
end
section
variable{P:Program}{r:Option Nat}{n:Nat}{E E':List (Nat×Value)}{C:I3}{H:List C2}{Q:Exit->Act->World->Prop}{K:Act->World->Prop}{ops:Array Oper}{rest:List Oper}
variable{dst:Option Tmp}{ty:TypeId}{pos:String}{after:Array Edge}{g:Option (Nat×Bool)}{x y z:Operand}{t xT yT:TypeId}
theorem ZT(q:C2):q.blocks.Nodup:=by
 cases q with
 |B1=>simp[C2.blocks]
 |row v=>simp only[C2.blocks];cases v.ownBlock<;>simp
 |OJ v=>simp only[C2.blocks];cases v.ownBlock<;>simp
 |obj=>simp[C2.blocks]
theorem B7.swap{w w':B6}{i:Nat}{q q':C2}(h:B7 C H w)(hi:H[i]?=some q)(hf:M0 w (λk=>k∈q.blocks) w')(ok:q'.ok w')(hs:∀k∈q'.blocks,k∈q.blocks\/w.heap.size<=k):B7 C (H.set i q') w':=by
 have hlt:i<H.length:=(N5.1 hi).1;have hsp:H=H.take i++q::H.drop (i+1):=by
  rw[<-(N5.1 hi).2,YA,FZ]
 have hset:H.set i q'=H.take i++q'::H.drop (i+1):=List.set_eq_take_append_cons_drop.trans (by simp[hlt]);have hne:=B7.split (hsp▸h);have hmem:∀k∈q.blocks,k∈F1 H:=λk hk=>Bm.2 ⟨q,CP hi,hk⟩;have hlta:∀k∈F1 H,k<w.heap.size:=h.lt;have hA:∀k∈F1 (H.take i),k∈F1 H:=λk hk=>by rw[hsp,DY];exact Lz _ hk
 have hB:∀k∈F1 (H.drop (i+1)),k∈F1 H:=λk hk=>by rw[hsp,DY,Kc];exact Iz _ (Iz _ hk)
 have hne':∀k∈q'.blocks,k∉F1 (H.take i)/\k∉F1 (H.drop (i+1)):=λk hk=>by
  rcases hs k hk with h1|h1
  ·exact hne k h1
  ·exact⟨λh2=>by have:=hlta k (hA k h2);omega,λh2=>by have:=hlta k (hB k h2);omega⟩
 have hnd:(F1 (H.take i)++(q.blocks++F1 (H.drop (i+1)))).Nodup:=by
  have:=h.nodup;rwa[hsp,DY,Kc] at this
 refine h.VO (hf.mono (λk _ hk=>hmem k hk)) (λs hs'=>?_) ?_ (λk hk=>?_)
 ·rw[hset] at hs';rcases q0.1 hs' with hr|hr
  ·have hr':s∈H:=by rw[hsp];exact Lz _ hr
   exact Ge (h.ok s hr') hf.size λk hk=>hf.old k (OO (h.ok s hr') k hk) λe=>(hne k e).1 (Bm.2 ⟨s,hr,hk⟩)
  ·rcases BD.1 hr with rfl|hr
   ·exact ok
   ·have hr':s∈H:=by rw[hsp];exact Iz _ (Cj _ hr)
    exact Ge (h.ok s hr') hf.size λk hk=>hf.old k (OO (h.ok s hr') k hk) λe=>(hne k e).2 (Bm.2 ⟨s,hr,hk⟩)
 ·rw[hset,DY,Kc];have h1:=FB.1 hnd;have h2:=FB.1 h1.2.1;refine FB.2 ⟨h1.1,FB.2 ⟨ZT q',h2.2.1,λa ha b hb e=>(hne' a ha).2 (e▸hb)⟩,λa ha b hb e=>?_⟩;rcases q0.1 hb with hb|hb
  ·exact(hne' b hb).1 (e▸ha)
  ·exact h1.2.2 a ha b (Iz _ hb) e
 ·rw[hset,DY,Kc] at hk;rcases q0.1 hk with hk|hk
  ·exact .inl (hA k hk)
  ·rcases q0.1 hk with hk|hk
   ·exact(hs k hk).imp (hmem k) id
   ·exact .inl (hB k hk)
theorem B7.Ml{w w':B6}{q:C2}(h:B7 C H w)(hb:Below w.heap.size w w')(ok:q.ok w')(hs:∀k∈q.blocks,w.heap.size<=k):B7 C (q::H) w':=by
 have h':=h.below hb;have hn:∀k∈q.blocks,k∉F1 H:=λk hk hm=>by have:=h.lt k hm;have:=hs k hk;omega
 refine⟨h'.X4,h'.base,λs hs'=>?_,?_,λk hk=>?_,h'.sub,h'.mark⟩
 ·rcases BD.1 hs' with rfl|hs'
  ·exact ok
  ·exact h'.ok s hs'
 ·rw[Kc];exact FB.2 ⟨ZT q,h.nodup,λa ha b hb e=>hn a ha (e▸hb)⟩
 ·rw[Kc] at hk;rcases q0.1 hk with hk|hk
  ·exact⟨.inl (j7 h.X4.size (hs k hk)),.inl (j7 h.base.size (hs k hk))⟩
  ·exact h'.X8 k hk
theorem B7.Vv{w:B6}(e sz:Nat)(h:B7 C H w):B7 C (.row (.slice none 0 0) e sz 0 []::H) w:=
 h.Ml (Below.refl _ _) (World.ownsRow_nil w 0 e sz) (by simp[C2.blocks,Value.ownBlock])
theorem BY(e sz:Nat)(k:At n E C (.row (.slice none 0 0) e sz 0 []::H) K):At n E C H K:=x4 rfl (λw ho=>ho.Vv e sz) k
theorem aA1{i h e k:Nat}(sz:Nat){cs:J2}(hi:H[i]?=some (.B1 h e cs))(hs:cs.size=k*sz)(hk:k<=maxLen)(kk:At n E C (H.set i (.row (.slice (some ⟨h,0,none⟩) k k) e sz k cs.toList)) K):At n E C H K:=
 x4 rfl (λw ho=>ho.swap (q':=.row (.slice (some ⟨h,0,none⟩) k k) e sz k cs.toList) hi (M0.refl _ _) (show w.ownsRow 0 e sz _ k _ from⟨by simpa using hs,.inr ⟨h,k,cs,rfl,R5 _,ho.get hi,L6 _,hk,hs,CQ (by simp[hs])⟩⟩) (by simp[C2.blocks,Value.ownBlock])) kk
theorem B7.rowAt{w:B6}{i e sz m:Nat}{v:Value}{xs:H2}(h:B7 C H w)(hi:H[i]?=some (.row v e sz m xs)):w.ownsRow 0 e sz v m xs:=h.ok _ (CP hi)
theorem UO{w:B6}{e sz m:Nat}{v:Value}{xs:H2}{b:Nat}(h:w.ownsRow b e sz v m xs):xs.length=m*sz/\((v=.slice none 0 0/\m=0)\/∃g c,v=.slice (some ⟨g,0,none⟩) m c):=by
 refine⟨h.1,h.2.imp id ?_⟩;rintro⟨g,cap,cur,h1,_⟩;exact⟨g,cap,h1⟩
theorem Kp{w:B6}{e sz m:Nat}{v:Value}{xs:H2}{b:Nat}(h:w.ownsRow b e sz v m xs):v.oneCell'=true:=by
 rcases(UO h).2 with⟨rfl,_⟩|⟨g,c,rfl⟩<;>rfl
theorem WP{i e sz m:Nat}{v:Value}{xs:H2}(hi:H[i]?=some (.row v e sz m xs))(k:(xs.length=m*sz/\((v=.slice none 0 0/\m=0)\/∃g c,v=.slice (some ⟨g,0,none⟩) m c))->At n E C H K):At n E C H K:=
 λa w hf hd ho=>k (UO (ho.rowAt hi)) a w hf hd ho
theorem R7{e sz m:Nat}{v:Value}{xs:H2}(i:Nat)(hh0:H[i]?=some (.row v e sz m xs))(k:(xs.length=m*sz/\((v=.slice none 0 0/\m=0)\/∃g c,v=.slice (some ⟨g,0,none⟩) m c))->At n E C H K):At n E C H K:=WP hh0 k
def HG(P:Program)(t e sz by':Nat):Bool:=match P.underlying t with
 |some (.slice e')=>Nat.beq e' e&&(match P.info? e with
  |some i=>Nat.beq i.size sz&&Nat.beq i.bytes by'&&Nat.blt 0 sz&&(match i.zero with
   |some v=>Nat.beq v.cells.size sz
   |none=>false)
  |none=>false)
 |_=>false
theorem QI{e sz by':Nat}(h:HG P t e sz by'=true):P.underlying t=some (.slice e)/\∃i z,P.info? e=some i/\i.size=sz/\i.bytes=by'/\0<sz/\i.zero=some z/\z.cells.size=sz:=by
 unfold HG at h;split at h
 ·rename_i e' hu;simp only[j1] at h;obtain⟨h1,h⟩:=h;have h1:=DK h1;subst h1;refine⟨hu,?_⟩;split at h
  ·rename_i i hi;simp only[j1] at h;obtain⟨⟨⟨h1,h2⟩,h3⟩,h⟩:=h;split at h
   ·rename_i v hv;exact⟨i,v,hi,DK h1,DK h2,by simpa using h3,hv,DK h⟩
   ·cases h
  ·cases h
 ·cases h
theorem Ns{w w':B6}{v:Value}{e sz m:Nat}{xs:H2}(h:w.grownBy w' v.ownBlock):M0 w (λk=>k∈(C2.row v e sz m xs).blocks) w':=
 ⟨h.os,h.tape,h.output,h.size,λk hk hn=>h.block k hk (λe=>hn (by simp[C2.blocks,<-e]))⟩
theorem Sr{d i e sz by' m k c:Nat}{v:Value}{A:Addr}{xs news:H2}(hT:HG P t e sz by'=true)(hx:ev E x=some v)(hi:H[i]?=some (.row v e sz m xs))(hy:ev E y=some (.slice (some A) k c))
  (hl:news.length=k*sz)(hn:∀w,B7 C H w->∀j u,news[j]?=some u->w.cell? (A.add j)=some u)(h1:∀u∈news,u.oneCell'=true)(hb:m+k<=maxLen/\(m+k)*by'<=140737488355328)(hd:Nat.blt d n=true)
  (kk:∀v':Value,v'.oneCell'=true->At n ((d,v')::E) C (H.set i (.row v' e sz (m+k) (xs++news))) (D3 r P ops Q rest)):
  At n E C H (D3 r P ops Q (⟨some d,.call ⟨.builtin .append,#[x,y],#[t,t]⟩,ty,pos,after,none⟩::rest)):=by
 refine Ie (ι:=Value) (λv'=>v') (λv'=>H.set i (.row v' e sz (m+k) (xs++news))) ?_ rfl rfl hd (λv' a w hf hdf ho=>kk v' (Kp (ho.rowAt (Pf (N5.1 hi).1))) a w hf hdf ho);intro a w hf ho;obtain⟨hu,i',z,q1,q2,q3,q4,q5,q6⟩:=QI hT;obtain⟨v',w',hr,h2,h3,h4⟩:=run_append_own (P:=P) w 0 t ty e i' z sz by' hu q1 q5 q2 q3 q6 q4 v m xs (ho.rowAt hi) A k c news hl (hn w ho) h1 hb.1 hb.2 (R5 _);have hown:∀b∈(C2.row v' e sz (m+k) (xs++news)).blocks,b∈(C2.row v e sz m xs).blocks\/w.heap.size<=b:=by
  intro b hbb;rcases w7 b w.heap.size with hlt|hge
  ·left;rcases(ho.rowAt hi).2 with⟨rfl,rfl⟩|⟨g0,cap,cur,rfl,hbg,hg,rest0⟩
   ·obtain⟨v2,w2,hr2,h22,_,_⟩:=run_append_own (P:=P) w w.heap.size t ty e i' z sz by' hu q1 q5 q2 q3 q6 q4 (.slice none 0 0) 0 xs ⟨(ho.rowAt hi).1,.inl ⟨rfl,rfl⟩⟩ A k c news hl (hn w ho) h1 hb.1 hb.2 (L6 _);rw[hr] at hr2;cases hr2;have:=h22.lt b (by simpa[C2.blocks] using hbb);omega
   ·by_cases hroom:m+k<=cap
    ·obtain⟨w3,hr3,_⟩:=run_append_fits (P:=P) w 0 t ty e i' sz hu q1 q2 g0 m cap xs (ho.rowAt hi) A k c news hl (hn w ho) h1 hroom;rw[hr] at hr3;cases hr3;simpa[C2.blocks,Value.ownBlock] using hbb
    ·have hr3:=run_append_grow (P:=P) w t ty e i' z hu q1 q5 ⟨g0,0,none⟩ m cap xs (by rw[q2];exact(ho.rowAt hi).1) ((ho.rowAt hi).cells (g:=g0) rfl) A k c news (by rw[q2];exact hl) (hn w ho) (by omega) (by have:=hb.1;simp only[maxLen] at this;omega) (growslice_fits (by omega) (by rw[q3];exact hb.2));rw[hr] at hr3;cases hr3;simp[C2.blocks,Value.ownBlock] at hbb;omega
  ·exact .inr hge
 refine⟨v',w',?_,ho.swap hi (Ns h3) h2 hown⟩;have hm:(#[x,y]:Array Operand).map a.eval= #[v,.slice (some A) k c]:=by simp[hf.eval hx,hf.eval hy]
 simp only[execOp,resolve,hm];simp only[invoke,builtin,Sem.run_bind,Sem.run_pure,Result.andThen_ok,hr]
theorem CT{d c:Nat}{v:Value}{A:Addr}{xs:H2}(i:Nat)(e:Nat)(sz:Nat)(by':Nat)(m:Nat)(k:Nat)(news:H2)(hT:HG P t e sz by'=true)(hh1:(ev E x,H[i]?,ev E y,news.length)=(some v,some (.row v e sz m xs),some (.slice (some A) k c),k*sz))(hn:∀w,B7 C H w->∀j u,news[j]?=some u->w.cell? (A.add j)=some u)(h1:∀u∈news,u.oneCell'=true)(hb:m+k<=maxLen/\(m+k)*by'<=140737488355328)(hh8:Nat.blt d n=true)(kk:∀v':Value,v'.oneCell'=true->At n ((d,v')::E) C (H.set i (.row v' e sz (m+k) (xs++news))) (D3 r P ops Q rest)):At n E C H (D3 r P ops Q (⟨some d,.call ⟨.builtin .append,#[x,y],#[t,t]⟩,ty,pos,after,none⟩::rest)):=Sr hT (C1 hh1).1 (C1 (C1 hh1).2).1 (C1 (C1 (C1 hh1).2).2).1 (C1 (C1 (C1 hh1).2).2).2 hn h1 hb hh8 kk
theorem BI{w:B6}{i h e:Nat}{cs:J2}(ho:B7 C H w)(hi:H[i]?=some (.B1 h e cs)):∀j u,cs.toList[j]?=some u->w.cell? ((⟨h,0,none⟩:Addr).add j)=some u:=λj u hu=>by
 have hadd:(⟨h,0,none⟩:Addr).add j=⟨h,j,none⟩:=by unfold Addr.add;split<;>simp_all
 rw[hadd,ho.cell hi];simpa using hu
theorem Im{i e sz m:Nat}{v:Value}{xs:H2}(hT:PS P t=true)(hx:ev E x=some v)(hi:H[i]?=some (.row v e sz m xs)):L1 P n E C H ⟨dst,.call ⟨.builtin .len,#[x],#[t]⟩,ty,pos,after,g⟩ (.int .i64 (m:Int)):=by
 intro a w hf ho;rcases(UO (ho.rowAt hi)).2 with⟨rfl,rfl⟩|⟨g,c,rfl⟩
 ·exact KG (A:=none) (q:=0) (c:=0) hT hx a w hf ho
 ·exact KG (A:=some ⟨g,0,none⟩) (q:=m) (c:=c) hT hx a w hf ho
theorem al4{i e sz m gb c j:Nat}{u:Value}{xs:H2}(hT:Db P t=true)(hx:ev E x=some (.pointer (some ⟨gb,j,none⟩)))(hi:H[i]?=some (.row (.slice (some ⟨gb,0,none⟩) m c) e sz m xs))(hj:j<m*sz)(hu:xs[j]?=some u):L1 P n E C H ⟨dst,.load t x,ty,pos,after,g⟩ u:=
 Wc hT hx λw ho=>((ho.rowAt hi).cellAt j hj).trans hu
theorem Av{e sz m gb c j:Nat}{u:Value}{xs:H2}(i:Nat)[BW P](hh0:(ev E x,H[i]?,BW.f P t)=(some (.pointer (some ⟨gb,j,none⟩)),some (.row (.slice (some ⟨gb,0,none⟩) m c) e sz m xs),true))(hj:j<m*sz)(hu:xs[j]?=some u):L1 P n E C H ⟨dst,.load t x,ty,pos,after,g⟩ u:=al4 (BW.ok _ (C1 (C1 hh0).2).2) (C1 hh0).1 (C1 (C1 hh0).2).1 hj hu
theorem GR{i e sz m gb c j:Nat}{u:Value}{xs:H2}(hT:CF P t=some 1)(hx:ev E x=some (.pointer (some ⟨gb,j,none⟩)))(hy:ev E y=some u)(h1:u.oneCell'=true)(hi:H[i]?=some (.row (.slice (some ⟨gb,0,none⟩) m c) e sz m xs))(hj:j<m*sz)
  (k:At n E C (H.set i (.row (.slice (some ⟨gb,0,none⟩) m c) e sz m (xs.set j u))) (D3 r P ops Q rest)):At n E C H (D3 r P ops Q (⟨none,.store t x y,ty,pos,after,none⟩::rest)):=by
 refine OW (H':=H.set i (.row (.slice (some ⟨gb,0,none⟩) m c) e sz m (xs.set j u))) ?_ rfl rfl rfl k;intro a w hf ho;have hrow:=ho.rowAt hi;have hstored:=hrow.stored j u;refine⟨w.setCell ⟨gb,j,none⟩ u,?_,ho.swap hi (Ns (v:=.slice (some ⟨gb,0,none⟩) m c) hstored.2) hstored.1 (by simp[C2.blocks,Value.ownBlock])⟩;have hlen:j<xs.length:=by rw[hrow.1];exact hj
 have hc:=hrow.cellAt j hj;rw[T8 hlen] at hc;have hfr:=hrow.frozenAt j;simp only[execOp,hf.eval hx,hf.eval hy];have hst:(storeCells ⟨gb,j,none⟩ [u]).run P w=.ok () (w.setCell ⟨gb,j,none⟩ u):=by
  cases u<;>first|(cases h1;done)|simp[storeCells,store,go_sem,hc,hfr,Addr.add,Sem.run]
 have hc1:=QH h1;have hsv:(storeVar t ⟨gb,j,none⟩ u).run P w=.ok () (w.setCell ⟨gb,j,none⟩ u):=by
  simp only[storeVar,hc1];simp[Sem.run_bind,Gd hT];exact hst
 have hsa:(Instr.storeAt t (.pointer (some ⟨gb,j,none⟩)) u).run P w=.ok () (w.setCell ⟨gb,j,none⟩ u):=hsv;simp only[Sem.run_bind,hsa,Result.andThen];rfl
theorem ar6{d:Nat}{op:Op}{tb:TypeId}{cs:J2}{v:Nat->Value}{f:FuncId}{args:J2}(he:f0 P n E C H ⟨some d,op,ty,pos,after,none⟩ f args)
  (hc:∀w,B7 C H w->Calls P f args w λe' w'=>∃h,e'=.returned (v h)/\Below w.heap.size w w'/\w.heap.size<=h/\w'.heap[h]?=some (.cells cs tb))(hn:Op.X9 op=false)(hd:Nat.blt d n=true)
  (k:∀h,At n ((d,v h)::E) C (.B1 h tb cs::H) (D3 r P ops Q rest)):At n E C H (D3 r P ops Q (⟨some d,op,ty,pos,after,none⟩::rest)):=
 Ov (ι:=Nat) v (λh=>.B1 h tb cs::H) he (λw ho=>(hc w ho).mono λe' w' ⟨h,h1,h2,h3,h4⟩=>⟨h,h1,ho.Ml h2 h4 (by simpa[C2.blocks] using h3)⟩) rfl hn hd k
theorem B7.GY{w0 w b:B6}{L F:Nat->Prop}{D:List Mk}{e sz m:Nat}{v:Value}{xs:H2}(h:B7 ⟨w0,L,λ_=>False,b,F,D⟩ H w)(hm:C2.row v e sz m xs∈H):w.ownsRow w0.heap.size e sz v m xs:=by
 have h1:=h.ok _ hm;refine⟨h1.1,h1.2.imp id ?_⟩;rintro⟨g,cap,cur,rfl,_,q⟩;exact⟨g,cap,cur,rfl,(h.X8 g (Bm.2 ⟨_,hm,by simp[C2.blocks,Value.ownBlock]⟩)).1.resolve_right id,q⟩
theorem B7.Yr{w0 w b:B6}{L F:Nat->Prop}{D:List Mk}{h0:Nat}{tb:TypeId}{cs:J2}(h:B7 ⟨w0,L,λ_=>False,b,F,D⟩ H w)(hm:C2.B1 h0 tb cs∈H):w0.heap.size<=h0/\w.heap[h0]?=some (.cells cs tb):=
 ⟨(h.X8 h0 (Bm.2 ⟨_,hm,by simp[C2.blocks]⟩)).1.resolve_right id,h.ok _ hm⟩
theorem Ol{H':List C2}(hs:H'.Sublist H)(k:At n E C H' K):At n E C H K:=x4 rfl (λw ho=>ho.sublist hs) k
end
abbrev yv(l:Nat):Value:=.func (.yield l) #[] #[]
def OI(w0:World)(G:Nat->Prop)(W:World):I3:=⟨w0,G,λ_=>False,W,λk=>k∈F1 [],[]⟩
theorem aB1{w0 W:B6}{G:Nat->Prop}(h:M0 w0 G W):B7 (OI w0 G W) [] W:=
 ⟨h,M0.refl _ _,by simp,by simp[F1],by simp[F1],λ_ h=>h.elim,by simp[OI]⟩
theorem B7.it{w0 W w:B6}{G:Nat->Prop}(h:B7 (OI w0 G W) [] w):Below W.heap.size W w:=
 ⟨h.base.os,h.base.tape,h.base.output,h.base.size,λk hk=>h.base.old k hk (by simp[OI,F1])⟩
section
variable{P:Program}{r:Option Nat}{n:Nat}{E E':List (Nat×Value)}{C:I3}{H:List C2}{Q:Exit->Act->World->Prop}{K:Act->World->Prop}{ops:Array Oper}{rest:List Oper}
theorem tT{f:FuncId}{fn:Func}{c:Code}{args:H2}{w:B6}{R:Ending->B6->Prop}(G:Nat->Prop)(hf:P.funcs[f]?=some fn)(hb:fn.body=some c)(hn:fn.ntmps=n)
  (hl:Nat.ble args.length n=true)(h:At n (KH args 0) (OI w G w) [] (F8 none P c (fin P fn R))):Calls P f args.toArray w R:=by
 have hl':args.length<=n:=by simpa using hl
 refine QE.1 (callsIn_of_wp_marks (F:=fe none) (n:=0) hf hb trivial (h _ _ ⟨by simp[hn];omega,λt v hv=>?_⟩ rfl (aB1 (M0.refl _ _))));obtain⟨_,h2⟩:=TA args 0 t v hv;have hlt:t<args.length:=by simpa using(N5.1 h2).1
 simp[mI,hlt];simpa[T8 hlt] using h2
def O0(W:World)(B:Nat->Prop)(H:List C2)(w:World):Prop:=∃b F,B7 ⟨W,B,B,b,F,[]⟩ H w
def RQ{σ:Type}(W:World)(B:Nat->Prop)(I:σ->Prop)(H':σ->List C2)(Ix:Code->σ->Prop)(Hx:Code->σ->List C2):Exit->Act->World->Prop
 |.normal,_,w=>∃s,I s/\O0 W B (H' s) w
 |.ret,_,w=>∃s,Ix .ret s/\O0 W B (Hx .ret s) w
 |.exit id,_,w=>∃s,Ix (.exit id) s/\O0 W B (Hx (.exit id) s) w
 |.goto t,_,w=>∃s,Ix (.goto t) s/\O0 W B (Hx (.goto t) s) w
 |.panic _,_,_=>False
 |.outgrown,_,_=>False
theorem fJ{σ:Type}{W b:B6}{B F:Nat->Prop}{I:σ->Prop}{H':σ->List C2}{Ix:Code->σ->Prop}{Hx:Code->σ->List C2}(s:σ)(hi:I s)(hH:H' s=H):
  At n E ⟨W,B,B,b,F,[]⟩ H (RQ W B I H' Ix Hx .normal):=λa w hf hd ho=>⟨s,hi,b,F,hH▸ho⟩
theorem B7.Ql{w:B6}(h:B7 C H w){k:Nat}{o:Obj}(hk:w.heap[k]?=some o)(hc:RW o=false):k∉F1 H:=λhb=>by
 obtain⟨r,hr,hkr⟩:=Bm.1 hb;obtain⟨o',hc',ht⟩:=Zg (h.ok r hr) k hkr;rw[hk] at hc';cases hc';rw[hc] at ht;cases ht
theorem Sq(W:B6)(l:Nat)(o:Obj):M0 W (λk=>k=l) (W.putObj l o):=⟨rfl,rfl,rfl,by simp,λk _ hk=>World.putObj_heap_other hk⟩
theorem B7.UU{w:B6}(h:B7 C H w){l:Nat}{q:Loop}(hl:w.heap[l]?=some (.loop q))(h1:C.W.heap.size<=l)(h2:C.w.heap.size<=l)(o:Obj):B7 C H (w.putObj l o):=by
 have hn:l∉F1 H:=h.Ql hl rfl;have hf:=Sq w l o;refine⟨h.X4.trans hf (λk hk e=>absurd h1 (by omega)),h.base.trans hf (λk hk e=>absurd h2 (by omega)),λr hr=>Ge (h.ok r hr) hf.size (λk hk=>?_),h.nodup,h.X8,h.sub,h.mark.1,λD hD=>⟨(h.mark.2 D hD).1,?_⟩⟩
 ·exact World.putObj_heap_other (λe=>hn (e▸Bm.2 ⟨r,hr,hk⟩))
 ·have:=(h.mark.2 D hD).2;rw[World.putObj_heap_other (λe=>by subst e;rw[hl] at this;cases this)];exact this
theorem B7.Gl{w:B6}(h:B7 C H w):B7 ⟨w,λk=>k∈F1 H,λk=>k∈F1 H,w,λk=>k∈F1 H,[]⟩ H w:=
 ⟨M0.refl _ _,M0.refl _ _,h.ok,h.nodup,λk hk=>⟨.inr hk,.inr hk⟩,λ_ h=>h,by simp⟩
theorem B7.Qc{w w':B6}{H':List C2}(h:B7 C H w)(h':O0 w (λk=>k∈F1 H) H' w'):B7 C H' w':=by
 obtain⟨b,F,h'⟩:=h';have hf:=h'.X4;refine⟨h.X4.trans hf (λk hk hB=>(h.X8 k hB).1.elim (λh1=>absurd h1 (by omega)) (h.sub k)),h.base.trans hf (λk hk hB=>(h.X8 k hB).2.elim (λh1=>absurd h1 (by omega)) id),h'.ok,h'.nodup,λk hk=>?_,h.sub,h.mark.1,λD hD=>⟨(h.mark.2 D hD).1,?_⟩⟩
 ·rcases(h'.X8 k hk).1 with h1|h1
  ·have h1:w.heap.size<=k:=h1;exact⟨.inl (j7 h.X4.size h1),.inl (j7 h.base.size h1)⟩
  ·exact h.X8 k h1
 ·exact(hf.old D (T1.1 (h.mark.2 D hD).2).1 (h.Tt hD)).trans (h.mark.2 D hD).2
theorem B7.Lc{w w':B6}{H0 R H0':List C2}(h:B7 C (H0++R) w)(h':O0 w (λk=>k∈F1 H0) H0' w'):B7 C (H0'++R) w':=by
 obtain⟨b,F,h'⟩:=h';have hf:=h'.X4;have hnd:=h.nodup;rw[DY] at hnd;have hd:=(FB.1 hnd).2.2;have hl:∀k∈F1 R,k<w.heap.size:=λk hk=>h.lt k (by rw[DY];exact Iz _ hk);have hin:∀k∈F1 H0,k∈F1 (H0++R):=λk hk=>by rw[DY];exact Lz _ hk
 have hR:∀k∈F1 R,k∉F1 H0:=λk hk h0=>hd k h0 k hk rfl;have hm:∀k∈F1 H0',w.heap.size<=k\/k∈F1 H0:=λk hk=>(h'.X8 k hk).1;refine⟨h.X4.trans hf (λk hk hB=>(h.X8 k (hin k hB)).1.elim (λh1=>absurd h1 (by omega)) (h.sub k)),h.base.trans hf (λk hk hB=>(h.X8 k (hin k hB)).2.elim (λh1=>absurd h1 (by omega)) id),λr hr=>?_,?_,λk hk=>?_,h.sub,h.mark.1,λD hD=>⟨(h.mark.2 D hD).1,?_⟩⟩
 ·rcases q0.1 hr with hr|hr
  ·exact h'.ok r hr
  ·exact Ge (h.ok r (Iz _ hr)) hf.size λk hk=>hf.old k (hl k (Bm.2 ⟨r,hr,hk⟩)) (hR k (Bm.2 ⟨r,hr,hk⟩))
 ·rw[DY];refine FB.2 ⟨h'.nodup,(FB.1 hnd).2.1,λa ha b hb e=>?_⟩;subst e;rcases hm a ha with h1|h1
  ·have:=hl a hb;omega
  ·exact hR a hb h1
 ·rw[DY] at hk;rcases q0.1 hk with hk|hk
  ·rcases hm k hk with h1|h1
   ·exact⟨.inl (j7 h.X4.size h1),.inl (j7 h.base.size h1)⟩
   ·exact h.X8 k (hin k h1)
  ·exact h.X8 k (by rw[DY];exact Iz _ hk)
 ·exact(hf.old D (T1.1 (h.mark.2 D hD).2).1 (λh0=>h.Tt hD (hin D h0))).trans (h.mark.2 D hD).2
abbrev J1(w:World)(H0:List C2):I3:=⟨w,λk=>k∈F1 H0,λk=>k∈F1 H0,w,λk=>k∈F1 H0,[]⟩
theorem Dg{ι:Type}{d:Nat}{op:Op}{ty:TypeId}{pos:String}{after:Array Edge}{f:FuncId}{args:J2}{H0 R:List C2}(v:ι->Value)(H0':ι->List C2)(hH:H=H0++R)(he:f0 P n E C H ⟨some d,op,ty,pos,after,none⟩ f args)
  (hc:∀w,B7 C H w->B7 (J1 w H0) H0 w->Calls P f args w λe w'=>∃i,e=.returned (v i)/\O0 w (λk=>k∈F1 H0) (H0' i) w')(hn:Op.X9 op=false)(hd:Nat.blt d n=true)
  (k:∀i,At n ((d,v i)::E) C (H0' i++R) (D3 r P ops Q rest)):At n E C H (D3 r P ops Q (⟨some d,op,ty,pos,after,none⟩::rest)):=by
 subst hH;refine Ov v (λi=>H0' i++R) he (λw ho=>(hc w ho (B7.Gl (ho.sublist (HB _ _)))).mono λe w' ⟨i,h1,h2⟩=>⟨i,h1,ho.Lc h2⟩) rfl hn hd k
theorem G7{f:FuncId}{fn:Func}{c:Code}{args:H2}{w:B6}{H0:List C2}{R:Ending->B6->Prop}(ho:B7 (J1 w H0) H0 w)(hf:P.funcs[f]?=some fn)(hb:fn.body=some c)(hn:fn.ntmps=n)
  (hl:Nat.ble args.length n=true)(h:At n (KH args 0) (J1 w H0) H0 (F8 none P c (fin P fn R))):Calls P f args.toArray w R:=
 Yz _ _ hf hb hn hl H0 ho h
def I3.mk'(C:I3)(D:Nat):I3:=⟨C.W,C.L,C.M,C.w,C.F,.lp D::C.marks⟩
theorem B7.mk'{w:B6}(h:B7 C H w){D:Nat}(hD:w.heap[D]?=some (.deferred (some [])))(h1:C.W.heap.size<=D)(h2:D∉Iy C.marks):B7 (C.mk' D) H w:=
 ⟨h.X4,h.base,h.ok,h.nodup,h.X8,h.sub,Pb.2 ⟨h2,h.mark.1⟩,λk hk=>by
  rcases BD.1 (show k∈D::Iy C.marks from hk) with rfl|hk
  ·exact⟨h1,hD⟩
  ·exact h.mark.2 k hk⟩
theorem B7.XV{W1:B6}{G:Nat->Prop}{b:Nat}{o:Obj}(h:B7 C H W1)(hG:∀k,G k->k∈F1 H\/∃q,W1.heap[k]?=some (.loop q))(hb:b<C.W.heap.size)(hM:¬C.M b)(ho:W1.heap[b]?=some o)(hl:∀q,o≠.loop q):¬G b:=λhg=>by
 rcases hG b hg with h1|⟨q,h1⟩
 ·rcases(h.X8 b h1).1 with h2|h2
  ·omega
  ·exact hM h2
 ·rw[ho] at h1;exact hl q (Fc h1)
theorem zH{W:B6}{b j:Nat}{v:Value}(h:W.cell? ⟨b,j,none⟩=some v):∃o,W.heap[b]?=some o/\∀q,o≠.loop q:=by
 unfold World.cell? at h;cases ho:W.heap[b]? with
 |none=>simp[ho] at h
 |some o=>exact⟨o,rfl,λq e=>by subst e;simp[ho] at h⟩
def I3.clear(C:I3)(w:World)(H:List C2):I3:=⟨C.W,C.L,C.M,w,λk=>k∈F1 H,[]⟩
theorem jX:∀{l:List Mk},l.all Mk.isAt=true->l.map OD=(Iy l).map λd=>OD (.lp d)
 |[],_=>rfl
 |.lp D::l,h=>by
  have:=jX (l:=l) (by simpa[Mk.isAt] using h);rw[Rd,this];rfl
 |.fn d::l,h=>by simp[Mk.isAt] at h
theorem aC{fn:Func}{R:Ending->B6->Prop}(h:∀(a:Act) (w:B6),U2 n E a->B7 (C.clear w H) H w->∃v,(results fn a.tmps).run P w=.ok v w/\R (.returned v) w)(hall:C.marks.all Mk.isAt=true):At n E C H (fin P fn R .ret):=by
 intro a w hf hd ho;show LeavesInM _ _ _ _ _ _ a.defers _ _;rw[show a.defers=C.marks.map OD from hd,jX hall];refine fW (Iy C.marks) w (λD hD=>(ho.mark.2 D hD).2) ho.mark.1 (λw' h1 h2 h3 h4 h5=>h a w' hf ?_);have hne:∀k∈F1 H,k∉Iy C.marks:=λk hk hm=>ho.Tt hm hk;refine⟨ho.X4.trans (G:=λk=>k∈Iy C.marks) ⟨h3,h4,h5,by omega,λk _ hk=>h2 k hk⟩ (λk hk hm=>absurd hk (Nat.not_lt.2 (ho.mark.2 k hm).1)),M0.refl _ _,λr hr=>Ge (ho.ok r hr) (by omega) (λk hk=>h2 k (hne k (Bm.2 ⟨r,hr,hk⟩))),ho.nodup,λk hk=>⟨(ho.X8 k hk).1,.inr hk⟩,ho.sub,by simp[I3.clear]⟩
theorem pA{fn:Func}{R:Ending->B6->Prop}{t u:Nat}{v x:Value}(hr:fn.results= #[.tmp t,.tmp u])(ht:R6 E t=some v)(hu:R6 E u=some x)(h:∀w,B7 (C.clear w H) H w->R (.returned (.tuple #[v,x])) w)(hall:C.marks.all Mk.isAt=true:=by rfl):At n E C H (fin P fn R .ret):=by
 refine aC (λa w hf ho=>⟨.tuple #[v,x],?_,h w ho⟩) hall;rw[results_tmp2 hr];simp[hf.get t v ht,hf.get u x hu]
end
section
variable{P:Program}{r:Option Nat}{n:Nat}{E E':List (Nat×Value)}{C:I3}{H:List C2}{Q:Exit->Act->World->Prop}{K:Act->World->Prop}{ops:Array Oper}{rest:List Oper}
variable{dst:Option Tmp}{ty:TypeId}{pos:String}{after:Array Edge}{g:Option (Nat×Bool)}{x y z:Operand}{t xT yT:TypeId}
def Qm(P:Program):List Field->Option (List (Nat×Nat))
 |[]=>some []
 |f::fs=>match CF P f.type with
  |some k=>(match Qm P fs with
   |some l=>some ((f.offset,k)::l)
   |none=>none)
  |none=>none
def Ae(P:Program)(t:TypeId):Option (List Value×List (Nat×Nat)):=match P.info? t with
 |some i=>(match i.zero with
  |some v=>(match P.underlying t with
   |some (.struct fs)=>(match Qm P fs.toList with
    |some l=>some (v.cells.toList,l)
    |none=>none)
   |_=>none)
  |none=>none)
 |none=>none
def Mq(P:Program)(t:TypeId):Option (List Value×Nat):=match P.info? t with
 |some i=>(match i.zero with
  |some v=>(match P.underlying t with
   |some (.array _ e)=>(match CF P e with
    |some k=>some (v.cells.toList,k)
    |none=>none)
   |_=>none)
  |none=>none)
 |none=>none
def Mv(E:List (Nat×Value)):List (Nat×Operand)->Option (List (Nat×Value))
 |[]=>some []
 |(i,x)::ps=>match ev E x with
  |some v=>(match Mv E ps with
   |some vs=>some ((i,v)::vs)
   |none=>none)
  |none=>none
theorem XE{a:Act}(hf:U2 n E a):∀{ps:List (Nat×Operand)} {vs:X0},Mv E ps=some vs->ps.map (λp=>(p.1,a.eval p.2))=vs
 |[],vs,h=>by simp[Mv] at h;subst h;rfl
 |(i,x)::ps,vs,h=>by
  unfold Mv at h;split at h
  ·rename_i v hv;split at h
   ·rename_i us hu;cases h;simp[hf.eval hv,XE hf hu]
   ·cases h
  ·cases h
theorem dQ{w:B6}:∀{fs:List Field} {l:List (Nat×Nat)},Qm P fs=some l->(fs.mapM (λf:Field=>do pure (f.offset,<-Go.sizeOf f.type):Field->Sem (Nat×Nat))).run P w=.ok l w
 |[],l,h=>by simp[Qm] at h;subst h;rfl
 |f::fs,l,h=>by
  unfold Qm at h;split at h
  ·rename_i k hk;split at h
   ·rename_i l' hl;cases h;simp only[Pg,Sem.run_bind,Gd hk,Result.andThen,Sem.run_pure,dQ hl]
   ·cases h
  ·cases h
theorem TC{zs cs:H2}{pl:List (Nat×Nat)}{ps:List (Nat×Operand)}{vs:X0}(hs:Ae P t=some (zs,pl))(hp:Mv E ps=some vs)(hf:Instr.fill (λi=>pl[i]?) zs.toArray vs=some cs.toArray):
  L1 P n E C H ⟨dst,.build t ps.toArray,ty,pos,after,g⟩ (.agg cs.toArray):=by
 intro a w hfi ho;unfold Ae at hs;split at hs
 ·rename_i i hi;split at hs
  ·rename_i v hv;split at hs
   ·rename_i fs hu;split at hs
    ·rename_i l hl;simp only[Ck,Cl] at hs;obtain⟨rfl,rfl⟩:=hs;have hm:(ps.toArray.map λ(i,x)=>(i,a.eval x))=vs.toArray:=by
      rw[List.map_toArray];exact congrArg _ (XE hfi hp)
     have hz:(zeroValue t).run P w=.ok v w:=by simp[zeroValue,typeInfo,go_sem,hi,hv]
     have hpl:=dQ (w:=w) hl;have hpa:(fs.mapM λf=>(do pure (f.offset,<-Go.sizeOf f.type):Sem (Nat×Nat))).run P w=.ok l.toArray w:=by
      rw[<-Um (xs:=fs),Ph];simp only[map_eq_pure_bind,Sem.run_bind,hpl,Result.andThen,Sem.run_pure]
     simp only[execOp,hm];have key:(Instr.build t vs.toArray).run P w=.ok (.agg cs.toArray) w:=by
      unfold Instr.build;simp only[Sem.run_bind,hz,Result.andThen,run_underlying hu,hpa];have:Instr.fill (λx=>l.toArray[x]?) v.cells vs=some cs.toArray:=by
       have e:(λx:Nat=>l.toArray[x]?)=λi:Nat=>l[i]?:=by funext i;simp
       rw[e];simpa using hf
      simp only[CR,this,Sem.run_pure]
     simp only[Sem.run_bind,key,Result.andThen];rfl
    ·cases hs
   ·cases hs
  ·cases hs
 ·cases hs
theorem O7{zs:H2}{pl:List (Nat×Nat)}{ps:List (Nat×Operand)}{vs:X0}(cs:H2)(hs:Ae P t=some (zs,pl))(hh1:(Mv E ps,Instr.fill (λi=>pl[i]?) zs.toArray vs)=(some vs,some cs.toArray)):L1 P n E C H ⟨dst,.build t ps.toArray,ty,pos,after,g⟩ (.agg cs.toArray):=TC hs (C1 hh1).1 (C1 hh1).2
theorem JI{zs cs:H2}{k:Nat}{ps:List (Nat×Operand)}{vs:X0}(hs:Mq P t=some (zs,k))(hp:Mv E ps=some vs)(hf:Instr.fill (λi=>some (i*k,k)) zs.toArray vs=some cs.toArray):
  L1 P n E C H ⟨dst,.build t ps.toArray,ty,pos,after,g⟩ (.agg cs.toArray):=by
 intro a w hfi ho;unfold Mq at hs;split at hs
 ·rename_i i hi;split at hs
  ·rename_i v hv;split at hs
   ·rename_i len e hu;split at hs
    ·rename_i k' hk;simp only[Ck,Cl] at hs;obtain⟨rfl,rfl⟩:=hs;have hm:(ps.toArray.map λ(i,x)=>(i,a.eval x))=vs.toArray:=by
      rw[List.map_toArray];exact congrArg _ (XE hfi hp)
     have hz:(zeroValue t).run P w=.ok v w:=by simp[zeroValue,typeInfo,go_sem,hi,hv]
     simp only[execOp,hm];have key:(Instr.build t vs.toArray).run P w=.ok (.agg cs.toArray) w:=by
      unfold Instr.build;simp only[Sem.run_bind,hz,Result.andThen,run_underlying hu,Gd hk];have:Instr.fill (λi=>some (i*k',k')) v.cells vs=some cs.toArray:=by simpa using hf
      simp only[CR,this,Sem.run_pure]
     simp only[Sem.run_bind,key,Result.andThen];rfl
    ·cases hs
   ·cases hs
  ·cases hs
 ·cases hs
def Oe(P:Program)(t:TypeId):Bool:= !P.eqGuardType P.depth t
theorem az8{xs ys:J2}{b:Bool}(hg:Oe P xT=true)(hx:ev E x=some (.agg xs))(hy:ev E y=some (.agg ys))(h:∀w,(Op.equalIn 10000 xT (.agg xs) (.agg ys)).run P w=.ok b w):L1 P n E C H ⟨dst,.binOp .eql xT x y yT,ty,pos,after,g⟩ (.bool b):=by
 intro a w hf ho;have hg':P.eqGuardType P.depth xT=false:=by simpa[Oe] using hg
 simp only[execOp,hf.eval hx,hf.eval hy];have e1:=run_eqGuard_agg (P:=P) (w:=w) .eql xT x y xs ys hg';simp[go_sem,e1,run_eql_struct,h w]
theorem Zs{xs ys:J2}{b:Bool}(hg:Oe P xT=true)(hx:ev E x=some (.agg xs))(hy:ev E y=some (.agg ys))(h:∀w,(Op.equalIn 10000 xT (.agg xs) (.agg ys)).run P w=.ok b w):L1 P n E C H ⟨dst,.binOp .neq xT x y yT,ty,pos,after,g⟩ (.bool (!b)):=by
 intro a w hf ho;have hg':P.eqGuardType P.depth xT=false:=by simpa[Oe] using hg
 simp only[execOp,hf.eval hx,hf.eval hy];have e1:=run_eqGuard_agg (P:=P) (w:=w) .neq xT x y xs ys hg';simp[go_sem,e1,run_neq_struct,h w]
def RC(P:Program):List Field->Option (List (Nat×Nat))
 |[]=>some []
 |f::fs=>if f.name≠ "_" then(match RC P fs with
  |some l=>(match P.underlying f.type with
   |some (.int _)=>some ((f.offset,0)::l)
   |some .bool=>some ((f.offset,1)::l)
   |some .string=>some ((f.offset,2)::l)
   |_=>none)
  |none=>none) else none
def Ll(P:Program)(t:TypeId):Option (List (Nat×Nat)):=match P.underlying t with
 |some (.struct fs)=>if P.stoodInHeld t||P.eqGuardType P.depth t then none else RC P fs.toList
 |_=>none
def LT:Nat->Option Value->Option Value->Option Bool
 |0,some (.int k a),some (.int k' b)=>if k=k' then some (decide (a=b)) else none
 |1,some (.bool a),some (.bool b)=>some (a==b)
 |2,some (.string a),some (.string b)=>some (decide (a=b))
 |_,_,_=>none
def HK(xs ys:List Value):List (Nat×Nat)->Option Bool
 |[]=>some true
 |(o,k)::l=>match LT k xs[o]? ys[o]? with
  |some b=>(match HK xs ys l with
   |some c=>some (b&&c)
   |none=>none)
  |none=>none
theorem Sw{xs:J2}{o:Nat}{v:Value}{w:B6}(hT:Db P t=true)(hv:xs[o]?=some v):(part t xs o).run P w=.ok v w:=by
 simp[part,Sem.run_bind,Qg hT,hv,Result.andThen]
theorem Yv{k d:Nat}{u v:Value}{b:Bool}{w:B6}(hk:(k=0/\∃q,P.underlying t=some (.int q))\/(k=1/\P.underlying t=some .bool)\/(k=2/\P.underlying t=some .string))(h:LT k (some u) (some v)=some b):(Op.equalIn (d+1) t u v).run P w=.ok b w:=by
 rcases hk with⟨rfl,q,hu⟩|⟨rfl,hu⟩|⟨rfl,hu⟩
 ·unfold LT at h;split at h<;>simp_all;obtain⟨rfl,rfl⟩:=h;rw[run_equalIn_int w d t _ q _ _ hu];congr 1
 ·unfold LT at h;split at h<;>simp_all;subst h;rw[run_equalIn_bool' w d t _ _ hu]
 ·unfold LT at h;split at h<;>simp_all;subst h;rename_i a b' _ _;rw[run_equalIn_string w d t _ _ hu];congr 1;rw[ByteArray.toList_eq,ByteArray.toList_eq,MA];obtain⟨⟨x⟩⟩:=a;obtain⟨⟨y⟩⟩:=b';simp
theorem WO{d:Nat}{xs ys:H2}:∀{fs:List Field} {l:List (Nat×Nat)} {b:Bool} {w:B6},RC P fs=some l->HK xs ys l=some b->(Op.eqFields (d+1) xs.toArray ys.toArray fs).run P w=.ok b w
 |[],l,b,w,hk,h=>by
  simp[RC] at hk;subst hk;simp[HK] at h;subst h;simp[Op.eqFields,Sem.run_pure]
 |f::fs,l,b,w,hk,h=>by
  unfold RC at hk;split at hk
  ·rename_i hn;split at hk
   ·rename_i l' hl';have key:∀k,((k=0/\∃q,P.underlying f.type=some (.int q))\/(k=1/\P.underlying f.type=some .bool)\/(k=2/\P.underlying f.type=some .string))->Db P f.type=true->l=(f.offset,k)::l'->(Op.eqFields (d+1) xs.toArray ys.toArray (f::fs)).run P w=.ok b w:=by
     intro k hkk hpl hle;subst hle;unfold HK at h;split at h
     ·rename_i b1 hb1;split at h
      ·rename_i c hc;cases h;obtain⟨u,hu⟩:∃u,xs[f.offset]?=some u:=by
        cases hx:xs[f.offset]? with
        |none=>rw[hx] at hb1;unfold LT at hb1;split at hb1<;>simp_all
        |some u=>exact⟨u,rfl⟩
       obtain⟨v,hv⟩:∃v,ys[f.offset]?=some v:=by
        cases hy:ys[f.offset]? with
        |none=>rw[hy] at hb1;unfold LT at hb1;split at hb1<;>simp_all
        |some v=>exact⟨v,rfl⟩
       rw[hu,hv] at hb1;unfold Op.eqFields;rw[if_pos hn];have h1:=Sw (w:=w) hpl (xs:=xs.toArray) (o:=f.offset) (v:=u) (by simpa using hu);have h2:=Sw (w:=w) hpl (xs:=ys.toArray) (o:=f.offset) (v:=v) (by simpa using hv);have h3:=Yv (d:=d) (w:=w) hkk hb1;have h4:=WO (d:=d) (xs:=xs) (ys:=ys) (w:=w) hl' hc;simp only[Sem.run_bind,h1,h2,h3,Result.andThen];cases b1
       ·simp[Sem.run_pure]
       ·simp only[Bool.not_true,Fb,if_false,h4,Bool.true_and]
      ·cases h
     ·cases h
    split at hk
    ·rename_i q hu;cases hk;exact key 0 (.inl ⟨rfl,q,hu⟩) (by simp[Db,hu]) rfl
    ·rename_i hu;cases hk;exact key 1 (.inr (.inl ⟨rfl,hu⟩)) (by simp[Db,hu]) rfl
    ·rename_i hu;cases hk;exact key 2 (.inr (.inr ⟨rfl,hu⟩)) (by simp[Db,hu]) rfl
    ·cases hk
   ·cases hk
  ·cases hk
theorem Rs{xs ys:H2}{l:List (Nat×Nat)}{b:Bool}{w:B6}(hT:Ll P t=some l)(h:HK xs ys l=some b):(Op.equalIn 10000 t (.agg xs.toArray) (.agg ys.toArray)).run P w=.ok b w/\P.eqGuardType P.depth t=false:=by
 unfold Ll at hT;split at hT
 ·rename_i fs hu;split at hT
  ·cases hT
  ·rename_i hs;simp only[Kf,not_or,Bool.not_eq_true] at hs;have hfo:P.fieldsOf t=fs:=by simp[Program.fieldsOf,hu]
   refine⟨?_,hs.2⟩;rw[run_equalIn_agg w 9999 t _ _ (by rw[hfo];exact hu) hs.1,hfo];exact WO hT h
 ·cases hT
theorem Yu{xs ys:H2}{l:List (Nat×Nat)}{b:Bool}(hT:Ll P xT=some l)(hx:ev E x=some (.agg xs.toArray))(hy:ev E y=some (.agg ys.toArray))(h:HK xs ys l=some b):L1 P n E C H ⟨dst,.binOp .eql xT x y yT,ty,pos,after,g⟩ (.bool b):=
 az8 (by simp[Oe,(Rs (w:=default) hT h).2]) hx hy λw=>(Rs hT h).1
theorem sH{xs ys:H2}{l:List (Nat×Nat)}{b:Bool}(hT:Ll P xT=some l)(hx:ev E x=some (.agg xs.toArray))(hy:ev E y=some (.agg ys.toArray))(h:HK xs ys l=some b):L1 P n E C H ⟨dst,.binOp .neq xT x y yT,ty,pos,after,g⟩ (.bool (!b)):=
 Zs (by simp[Oe,(Rs (w:=default) hT h).2]) hx hy λw=>(Rs hT h).1
theorem wM{h i j:Nat}{tb:TypeId}{cs:J2}{vs:H2}(hT:CU P t=some vs.length)(hx:ev E x=some (.pointer (some ⟨h,j,none⟩)))(hi:H[i]?=some (.B1 h tb cs))(hv:(cs.toList.drop j).take vs.length=vs):L1 P n E C H ⟨dst,.load t x,ty,pos,after,g⟩ (.agg vs.toArray):=
 Ip hT hx λw ho q u hu=>by
  have hadd:(⟨h,j,none⟩:Addr).add q=⟨h,j+q,none⟩:=by unfold Addr.add;split<;>simp_all
  rw[hadd,ho.cell hi];rw[<-hv,MC] at hu;split at hu
  ·rw[List.getElem?_drop] at hu;simpa using hu
  ·cases hu
theorem o4{h:Nat}{tb:TypeId}{cs:J2}(i:Nat)(j:Nat)(vs:H2)(hT:CU P t=some vs.length)(hh1:(ev E x,H[i]?)=(some (.pointer (some ⟨h,j,none⟩)),some (.B1 h tb cs)))(hv:(cs.toList.drop j).take vs.length=vs):L1 P n E C H ⟨dst,.load t x,ty,pos,after,g⟩ (.agg vs.toArray):=wM hT (C1 hh1).1 (C1 hh1).2 hv
theorem vU{h i j:Nat}{tb:TypeId}{cs vs:J2}(hT:CF P t=some vs.size)(hx:ev E x=some (.pointer (some ⟨h,j,none⟩)))(hy:ev E y=some (.agg vs))(h1:(vs.toList.all (·.oneCell'))=true)(hi:H[i]?=some (.B1 h tb cs))(hj:Nat.ble (j+vs.size) cs.size=true)
  :Ic P n E C H ⟨none,.store t x y,ty,pos,after,none⟩ (H.set i (.B1 h tb (cs.toList.take j++vs.toList++cs.toList.drop (j+vs.size)).toArray)):=by
 have hj':j+vs.size<=cs.size:=by simpa using hj
 intro a w hf ho;have hrow:=ho.get hi;have hst:=run_storeCells_at P h j tb vs.toList 0 cs w hrow (by simpa using hj') (λv hv=>f5.1 h1 v hv);refine⟨w.setRow h (cs.toList.take j++vs.toList++cs.toList.drop (j+vs.size)).toArray,?_,ho.whole hi (by simp;omega)⟩;simp only[execOp,hf.eval hx,hf.eval hy];simp only[Instr.storeAt,Instr.sureAddr,storeVar,Value.cells];simp at hst;simp[go_sem,Gd hT,hst]
theorem On{h i j:Nat}{tb:TypeId}{cs vs:J2}(hT:CF P t=some vs.size)(hx:ev E x=some (.pointer (some ⟨h,j,none⟩)))(hy:ev E y=some (.agg vs))(h1:(vs.toList.all (·.oneCell'))=true)(hi:H[i]?=some (.B1 h tb cs))(hj:Nat.ble (j+vs.size) cs.size=true)
  (k:At n E C (H.set i (.B1 h tb (cs.toList.take j++vs.toList++cs.toList.drop (j+vs.size)).toArray)) (D3 r P ops Q rest)):At n E C H (D3 r P ops Q (⟨none,.store t x y,ty,pos,after,none⟩::rest)):=
 OW (vU hT hx hy h1 hi hj) rfl rfl rfl k
theorem aI{h:Nat}{tb:TypeId}{cs:J2}{w:B6}{v:Value}(hT:Db P t=true)(hb:w.heap[h]?=some (.cells cs tb))(hv:cs[0]?=some v):(loadVar t ⟨h,0,none⟩).run P w=.ok v w:=by
 have hc:w.cell? ⟨h,0,none⟩=some v:=(cell_of_row w h 0 cs tb (0,0) hb).trans hv;simp[loadVar,Sem.run_bind,Qg hT,Result.andThen,go_sem,hc]
theorem PJ{h k:Nat}{tb:TypeId}{cs:J2}{w:B6}(hT:CU P t=some k)(hb:w.heap[h]?=some (.cells cs tb))(hk:cs.size=k):(loadVar t ⟨h,0,none⟩).run P w=.ok (.agg cs) w:=by
 have h1:(loadCells ⟨h,0,none⟩ cs.toList.length).run P w=.ok cs.toList.toArray w:=run_loadCells_list w _ cs.toList λj v hv=>by
  have hadd:(⟨h,0,none⟩:Addr).add j=⟨h,j,none⟩:=by unfold Addr.add;split<;>simp_all
  rw[hadd,cell_of_row w h j cs tb (0,0) hb];simpa using hv
 simp at h1;rw[hk] at h1;simp only[loadCells] at h1;simp[go_sem,loadVar,Tp hT,TT hT,h1]
theorem XF{fn:Func}{R:Ending->B6->Prop}{s i h k:Nat}{tb:TypeId}{cs:J2}(hr:fn.results= #[.cell s t])(ht:R6 E s=some (.pointer (some ⟨h,0,none⟩)))(hi:H[i]?=some (.B1 h tb cs))(hT:CU P t=some k)(hv:cs.size=k)
  (hk:∀w,B7 (C.clear w H) H w->R (.returned (.agg cs)) w)(hall:C.marks.all Mk.isAt=true:=by rfl):At n E C H (fin P fn R .ret):=by
 refine aC (λa w hf ho=>⟨.agg cs,?_,hk w ho⟩) hall;have h1:=hf.get s _ ht;have h2:=PJ (P:=P) (t:=t) hT (ho.get hi) hv;have h3:a.tmps.getD s undef=.pointer (some ⟨h,0,none⟩):=by rw[m6,h1];rfl
 unfold results;rw[hr];simp only[Ph,Pg,Re,h3,asAddr,Sem.run_bind,Sem.run_pure,Result.andThen,map_eq_pure_bind,h2];rfl
end
section
variable{P:Program}{r:Option Nat}{n:Nat}{E E':List (Nat×Value)}{C:I3}{H:List C2}{Q:Exit->Act->World->Prop}{K:Act->World->Prop}{ops:Array Oper}{rest:List Oper}
variable{dst:Option Tmp}{ty:TypeId}{pos:String}{after:Array Edge}{g:Option (Nat×Bool)}{x y z:Operand}{t xT yT:TypeId}
end
section
variable{P:Program}{r:Option Nat}{n:Nat}{E E':List (Nat×Value)}{C:I3}{H:List C2}{Q:Exit->Act->World->Prop}{K:Act->World->Prop}{ops:Array Oper}{rest:List Oper}
variable{dst:Option Tmp}{ty:TypeId}{pos:String}{after:Array Edge}{g:Option (Nat×Bool)}{x y z:Operand}{t xT yT:TypeId}
theorem wR(h:∀w,B7 C H w->(∀k∈F1 H,k<w.heap.size)->At n E (C.re w H) H K):At n E C H K:=aZ λw hw=>h w hw hw.lt
def L0.old(b:Nat):L0->Prop
 |.val _=>True
 |.rel Φ=>∀v w w',Φ v w->M0 w (λk=>k<b) w'->Φ v w'
theorem L0.oU{b:Nat}{s:L0}(h:s.old b){v:Value}{w w':B6}(hf:M0 w (λk=>k<b) w')(hv:s.ok v w):s.ok v w':=by
 cases s with
 |val u=>exact hv
 |rel Φ=>exact h v w w' hv hf
def OL(b e len:Nat)(cs:List Value)(v:Value)(w:World):Prop:=∃h,b<=h/\v=.slice (some ⟨h,0,none⟩) len len/\w.heap[h]?=some (.cells cs.toArray e)
theorem ZF(b e len:Nat)(cs:H2):(L0.rel (OL b e len cs)).stab:=λv w w' ⟨h,h0,h1,h2⟩ hb=>
 ⟨h,h0,h1,(hb.block h (T1.1 h2).1).trans h2⟩
theorem fE(b e len:Nat)(cs:H2):(L0.rel (OL b e len cs)).old b:=λv w w' ⟨h,h0,h1,h2⟩ hf=>
 ⟨h,h0,h1,(hf.old h (T1.1 h2).1 (by omega)).trans h2⟩
theorem ZQ{X:B6->Prop}{d:Option Tmp}{e sz:Nat}{ps:List (Nat×Operand)}{vs cs:H2}{len:Nat}(hT:KE P t e sz=true)(hp:JJ E 0 ps=some vs)(hl:Nat.beq vs.length len=true)(hv:(vs.all λv=>Nat.beq v.cells.size sz)=true)(hb:Nat.ble (len*sz) 16777216=true)(hcs:vs.flatMap (λv:Value=>v.cells.toList)=cs):
  Bk P n E C H X ⟨d,.buildSlice t len ps.toArray,ty,pos,after,none⟩ (.rel (OL C.w.heap.size e len cs)):=Yd λa w hf ho _=>
 ⟨_,_,SR hf hT hp hl hv hb,Below.alloc (Below.refl _ _) (L6 _) _,w.heap.size,ho.base.size,rfl,by rw[<-hcs];exact heap_alloc_new w _⟩
theorem B7.perm{w:B6}{H':List C2}(h:B7 C H w)(hp:H'.Perm H):B7 C H' w:=by
 have hb:(F1 H').Perm (F1 H):=hp.flatMap_right _;exact⟨h.X4,h.base,λr hr=>h.ok r (hp.mem_iff.1 hr),hb.nodup_iff.2 h.nodup,λk hk=>h.X8 k (hb.mem_iff.1 hk),h.sub,h.mark⟩
theorem CE{H':List C2}(hp:H'.Perm H)(k:At n E C H' K):At n E C H K:=x4 rfl (λw ho=>ho.perm hp) k
theorem vP{a b:C2}{R:List C2}(k:At n E C (b::a::R) K):At n E C (a::b::R) K:=CE (List.Perm.swap ..) k
theorem Xg{k:Nat}(h:Gh P t=some k):∃e,P.underlying t=some (.slice e)/\∀w,(sizeOf e).run P w=.ok k w:=by
 unfold Gh at h;split at h
 ·rename_i e he;exact⟨e,he,λw=>Gd h w⟩
 ·cases h
theorem RU{A:Addr}{m c sz:Nat}{kk:IntKind}{q:Int}(hT:Gh P xT=some sz)(hx:ev E x=some (.slice (some A) m c))(hz:ev E z=some (.int kk q))(h:0<=q/\q<=c):
  L1 P n E C H ⟨dst,.slice xT x none (some z) none,ty,pos,after,g⟩ (.slice (some A) q.toNat c):=by
 intro a w hf ho;obtain⟨e,hu,hsize⟩:=Xg hT;have h1:¬q<0:=by omega
 have h2:¬(c:Int)<q:=by omega
 have hadd:A.add 0=A:=by unfold Addr.add;split<;>simp_all
 simp only[execOp,Option.map,hf.eval hx,hf.eval hz];simp[go_sem,Instr.sliceAt,Instr.slice,Instr.sliceBounds,Instr.sliceBound,asIntOf,run_underlying hu,hsize,h1,h2,hadd,h.1,h.2]
theorem wD{sz:Nat}{kk:IntKind}(hT:Gh P xT=some sz)(hx:ev E x=some (.slice none 0 0))(hz:ev E z=some (.int kk 0)):
  L1 P n E C H ⟨dst,.slice xT x none (some z) none,ty,pos,after,g⟩ (.slice none 0 0):=by
 intro a w hf ho;obtain⟨e,hu,hsize⟩:=Xg hT;simp only[execOp,Option.map,hf.eval hx,hf.eval hz];simp[go_sem,Instr.sliceAt,Instr.slice,Instr.sliceBounds,Instr.sliceBound,asIntOf,run_underlying hu,hsize]
theorem iI{A:Addr}{m c sz q:Nat}{kk:IntKind}(hT:Gh P xT=some sz)(hx:ev E x=some (.slice (some A) m c))(hy:ev E y=some (.int kk (q:Int)))(h:q<=m/\m<=c):
  L1 P n E C H ⟨dst,.slice xT x (some y) none none,ty,pos,after,g⟩ (.slice (some (if c=q then A else A.add (q*sz))) (m-q) (c-q)):=by
 intro a w hf ho;obtain⟨e,hu,hsize⟩:=Xg hT;have h1:¬(q:Int)<0:=by omega
 have h2:¬(m:Int)<(q:Int):=by omega
 simp only[execOp,Option.map,hf.eval hx,hf.eval hy];by_cases hc:c=q
 ·simp[go_sem,Instr.sliceAt,Instr.slice,Instr.sliceBounds,Instr.sliceBound,asIntOf,run_underlying hu,hsize,h1,h2,hc];omega
 ·simp[go_sem,Instr.sliceAt,Instr.slice,Instr.sliceBounds,Instr.sliceBound,asIntOf,run_underlying hu,hsize,h1,h2,hc];omega
def SD(P:Program)(t:TypeId):Bool:=match P.underlying t with
 |some (.pointer _)=>true
 |_=>false
theorem yE(h:SD P t=true):∃e,P.underlying t=some (.pointer e):=by
 unfold SD at h;split at h
 ·rename_i e he;exact⟨e,he⟩
 ·cases h
theorem oR{o:Option Addr}(hT:SD P t=true)(w:B6):(Op.equal t (.pointer o) (.pointer none)).run P w=.ok o.isNone w:=by
 obtain⟨e,he⟩:=yE hT;show(Op.equalIn (9999+1) t (.pointer o) (.pointer none)).run P w=_;rw[Op.equalIn];cases o with
 |none=>simp[go_sem,run_underlying he]
 |some a=>simp[go_sem,run_underlying he]
theorem pP(A:Addr)(q j:Nat):(A.add q).add j=A.add (q+j):=by
 unfold Addr.add;by_cases hq:q=0
 ·subst hq;simp
 ·by_cases hj:j=0
  ·subst hj;simp[hq]
  ·simp[hq,hj,EZ]
theorem iQ{o:Option Addr}(hT:SD P xT=true)(hx:ev E x=some (.pointer o))(hy:ev E y=some (.pointer none)):L1 P n E C H ⟨dst,.binOp .eql xT x y yT,ty,pos,after,g⟩ (.bool o.isNone):=by
 intro a w hf ho;simp only[execOp,hf.eval hx,hf.eval hy];simp[go_sem,eqGuard,binOp,oR hT]
end
abbrev u4:=List (List UInt8×Value)
def x7:Nat->u4->List MapEntry
 |_,[]=>[]
 |i,p::l=>⟨.string (bs p.1),p.2,i⟩::x7 (i+1) l
def P2(l:u4):Obj:=.map (x7 0 l).toArray l.length
def Eo(g:Nat)(l:u4)(vis:List Nat):Obj:=.mapIter (some g) l.length vis.toArray l.length
def EM(k:List UInt8):u4->Nat->Option (Nat×Value)
 |[],_=>none
 |p::l,j=>if k=p.1 then some (j,p.2) else EM k l (j+1)
def Gp(l:u4)(k:List UInt8):Option Value:=(EM k l 0).map (·.2)
def MU(l:u4)(k:List UInt8)(v:Value):u4:=match EM k l 0 with
 |some q=>l.set q.1 (k,v)
 |none=>l++[(k,v)]
theorem ZU:∀(l:u4) (i:Nat),(x7 i l).length=l.length
 |[],_=>rfl
 |p::l,i=>by simp[x7,ZU l]
theorem RL:∀(l:u4) (i j:Nat),(x7 i l)[j]?=(l[j]?).map λp=>⟨.string (bs p.1),p.2,i+j⟩
 |[],_,_=>by simp[x7]
 |p::l,i,0=>by simp[x7]
 |p::l,i,j+1=>by
  rw[x7,JC,RL l (i+1) j,JC,show i+1+j=i+(j+1) by omega]
theorem WJ(a b:C9):(bs a==bs b)=decide (a=b):=by
 rw[MA,MapKept.bytes_beq];simp only[decide_eq_true_eq];exact⟨Zp,λh=>by rw[h]⟩
theorem Vb(k:C9):∀(l:u4) (i j:Nat),Instr.findNow .string (.string (bs k)) (x7 i l) j=some (EM k l j)
 |[],_,_=>rfl
 |p::l,i,j=>by
  rw[x7,Instr.findNow,EM];by_cases h:k=p.1
  ·simp[Instr.sameNow,WJ,h]
  ·simp[Instr.sameNow,WJ,h,Vb k l (i+1) (j+1)]
theorem WM{k:C9}:∀{l:u4} {j:Nat} {q:Nat×Value},EM k l j=some q->j<=q.1/\l[q.1-j]?=some (k,q.2)
 |[],_,_,h=>by cases h
 |p::l,j,q,h=>by
  rw[EM] at h;split at h
  ·rename_i e;cases h;simp[e]
  ·obtain⟨h1,h2⟩:=WM h;refine⟨by omega,?_⟩;rw[show q.1-j=(q.1-(j+1))+1 by omega,JC];exact h2
theorem Ys:∀(l:u4) (i j:Nat) (k:C9) (v:Value),j<l.length->(x7 i l).modify j (λe=>{e with key:=.string (bs k),val:=v})=x7 i (l.set j (k,v))
 |[],_,_,_,_,h=>by simp at h
 |p::l,i,0,k,v,_=>by simp[x7]
 |p::l,i,j+1,k,v,h=>by
  simp only[x7,List.modify_succ_cons,Ra];rw[Ys l (i+1) j k v (by simpa using h)]
theorem rD(l:u4)(i:Nat)(k:C9)(v:Value):x7 i (l++[(k,v)])=x7 i l++[⟨.string (bs k),v,i+l.length⟩]:=by
 induction l generalizing i with
 |nil=>rfl
 |cons p l ih=>
  rw[GP,x7,ih,x7,GP,T3,show i+1+l.length=i+(l.length+1) by omega]
def Hu(P:Program)(t:TypeId):Option TypeId:=match P.underlying t with
 |some (.map k e)=>if Kb P k then some e else none
 |_=>none
theorem To{P:Program}{t e:TypeId}(h:Hu P t=some e):∃k,P.underlying t=some (.map k e)/\P.underlying k=some .string:=by
 unfold Hu at h;split at h
 ·rename_i k e' he;split at h
  ·rename_i hk;cases h;exact⟨k,he,OY hk⟩
  ·cases h
 ·cases h
section
variable{P:Program}{r:Option Nat}{n:Nat}{E E':List (Nat×Value)}{C:I3}{H:List C2}{Q:Exit->Act->World->Prop}{K:Act->World->Prop}{ops:Array Oper}{rest:List Oper}
variable{dst:Option Tmp}{ty:TypeId}{pos:String}{after:Array Edge}{g:Option (Nat×Bool)}{x y z:Operand}{t xT yT:TypeId}
theorem Wj{e gm:Nat}{l:u4}{k:C9}{u:Value}{ok:Bool}{w:B6}(hT:Hu P t=some e)(hb:w.heap[gm]?=some (P2 l))(hz:(zeroValue e).run P w=.ok u w):
  (Instr.lookup t (.map (some gm)) (.string (bs k)) ok).run P w=.ok (if ok then .tuple #[(Gp l k).getD u,.bool (Gp l k).isSome] else(Gp l k).getD u) w:=by
 obtain⟨kt,h1,h2⟩:=To hT;have hc:∀em,(Instr.checkKey em 10000 kt (.string (bs k))).run P w=.ok () w:=λem=>by
  unfold Instr.checkKey;simp[Sem.run_bind,run_underlying h2,Result.andThen]
 have hf:=MapKept.run_findKey (P:=P) (w:=w) (k:=.string (bs k)) (l:=x7 0 l) h2 (Vb k l 0 0);unfold Instr.lookup;simp only[Sem.run_bind,run_underlying h1,Result.andThen,MapKept.run_getObj_map (P:=P) hb,Sem.run_pure,hc,hf];cases hq:EM k l 0 with
 |none=>cases ok<;>simp[Gp,hq,hz,Sem.run_bind,Result.andThen]
 |some q=>cases ok<;>simp[Gp,hq,Result.andThen]
theorem aq3{e gm i:Nat}{l:u4}{k:C9}{u:Value}(hT:Hu P t=some e)(hz:∀w,(zeroValue e).run P w=.ok u w)(hx:ev E x=some (.map (some gm)))(hy:ev E y=some (.string (bs k)))(hi:H[i]?=some (.obj gm (P2 l))):
  L1 P n E C H ⟨dst,.lookup t x y true,ty,pos,after,g⟩ (.tuple #[(Gp l k).getD u,.bool (Gp l k).isSome]):=by
 intro a w hf ho;have h:=Wj (P:=P) (k:=k) (ok:=true) hT (ho.ok _ (CP hi)).1 (hz w);simp only[execOp,hf.eval hx,hf.eval hy];simp only[Sem.run_bind,h,Result.andThen];rfl
theorem ar4{e gm i:Nat}{l:u4}{k:C9}{u:Value}(hT:Hu P t=some e)(hz:∀w,(zeroValue e).run P w=.ok u w)(hx:ev E x=some (.map (some gm)))(hy:ev E y=some (.string (bs k)))(hi:H[i]?=some (.obj gm (P2 l))):
  L1 P n E C H ⟨dst,.lookup t x y false,ty,pos,after,g⟩ ((Gp l k).getD u):=by
 intro a w hf ho;have h:=Wj (P:=P) (k:=k) (ok:=false) hT (ho.ok _ (CP hi)).1 (hz w);simp only[execOp,hf.eval hx,hf.eval hy];simp only[Sem.run_bind,h,Result.andThen];rfl
theorem jD{e gm i:Nat}{l:u4}(hT:Hu P t=some e)(hx:ev E x=some (.map (some gm)))(hi:H[i]?=some (.obj gm (P2 l))):
  L1 P n E C H ⟨dst,.call ⟨.builtin .len,#[x],#[t]⟩,ty,pos,after,g⟩ (.int .i64 (l.length:Int)):=by
 intro a w hf ho;obtain⟨kt,h1,h2⟩:=To hT;have hm:(#[x]:Array Operand).map a.eval= #[.map (some gm)]:=by simp[hf.eval hx]
 simp only[execOp,resolve,hm];simp[invoke,builtin,Builtin.len_,go_sem,run_underlying h1,MapKept.run_getObj_map (P:=P) (ho.ok _ (CP hi)).1,goInt,ZU]
theorem B7.fX{w:B6}{i gm:Nat}{o o':Obj}(ho:B7 C H w)(hi:H[i]?=some (.obj gm o))(ht:RW o'=true):B7 C (H.set i (.obj gm o')) (w.putObj gm o'):=by
 have h:=ho.ok _ (CP hi);refine ho.swap hi ⟨rfl,rfl,rfl,by simp,λk _ hk=>World.putObj_heap_other (λe=>hk (by simp[C2.blocks,e]))⟩ ⟨?_,ht⟩ (λk hk=>.inl (by simpa[C2.blocks] using hk));have hlt:=(T1.1 h.1).1;simp[World.putObj,hlt]
theorem zP{e gm:Nat}{l:u4}{k:C9}{v:Value}{w:B6}(hT:Hu P t=some e)(hb:w.heap[gm]?=some (P2 l)):
  (Instr.mapUpdate t (.map (some gm)) (.string (bs k)) v).run P w=.ok () (w.putObj gm (P2 (MU l k v))):=by
 obtain⟨kt,h1,h2⟩:=To hT;have hc:∀em,(Instr.checkKey em 10000 kt (.string (bs k))).run P w=.ok () w:=λem=>by
  unfold Instr.checkKey;simp[Sem.run_bind,run_underlying h2,Result.andThen]
 have hf:=MapKept.run_findKey (P:=P) (w:=w) (k:=.string (bs k)) (l:=x7 0 l) h2 (Vb k l 0 0);have hs:∀o:Obj,(setObj gm o).run P w=.ok () (w.putObj gm o):=λo=>MapKept.run_setObj_map (P:=P) o hb;unfold Instr.mapUpdate;simp only[Sem.run_bind,run_underlying h1,Result.andThen,MapKept.run_getObj_map (P:=P) hb,hc,hf];cases hq:EM k l 0 with
 |none=>
  simp only[hs,MU,hq,P2,rD,List.push_toArray,J8,T3,Y4,Y3]
 |some q=>
  obtain⟨_,h4⟩:=WM hq;have hlt:=(N5.1 h4).1;have hk:((x7 0 l).toArray[q.1]?).map (·.key)=some (.string (bs k)):=by
   rw[Rf,RL,show l[q.1]?=some (k,q.2) from h4];rfl
  have hst:(Instr.keyThatStays (.string (bs k)) (.string (bs k))).run P w=.ok (.string (bs k)) w:=by
   have hbb:Instr.sameBits 10000 (.string (bs k)) (.string (bs k))=true:=by
    simp[Instr.sameBits,WJ]
   unfold Instr.keyThatStays;rw[if_pos hbb];rfl
  simp only[hk,Nh,Sem.run_bind,hst,Result.andThen,hs,MU,hq,P2];have:=Ys l 0 q.1 k v (by omega);rw[List.modify_toArray,this,Kg]
theorem an1{e gm i:Nat}{l:u4}{k:C9}{v:Value}{op:Op}(hop:op=.mapUpdate t x y z\/op=.insert t x y z)(hT:Hu P t=some e)(hx:ev E x=some (.map (some gm)))(hy:ev E y=some (.string (bs k)))(hz:ev E z=some v)(hi:H[i]?=some (.obj gm (P2 l))):
  Ic P n E C H ⟨none,op,ty,pos,after,none⟩ (H.set i (.obj gm (P2 (MU l k v)))):=by
 intro a w hf ho;refine⟨w.putObj gm (P2 (MU l k v)),?_,ho.fX hi rfl⟩;have h:=zP (P:=P) (k:=k) (v:=v) hT (ho.ok _ (CP hi)).1;rcases hop with rfl|rfl
 all_goals
  simp only[execOp,hf.eval hx,hf.eval hy,hf.eval hz];simp only[Sem.run_bind,h,Result.andThen];rfl
theorem Ef{e gm i:Nat}{l:u4}{k:C9}{v:Value}{op:Op}(hop:op=.mapUpdate t x y z\/op=.insert t x y z)(hT:Hu P t=some e)(hx:ev E x=some (.map (some gm)))(hy:ev E y=some (.string (bs k)))(hz:ev E z=some v)(hi:H[i]?=some (.obj gm (P2 l)))
  (kk:At n E C (H.set i (.obj gm (P2 (MU l k v)))) (D3 r P ops Q rest)):At n E C H (D3 r P ops Q (⟨none,op,ty,pos,after,none⟩::rest)):=
 OW (an1 hop hT hx hy hz hi) rfl (by rcases hop with rfl|rfl<;>rfl) rfl kk
theorem B7.Ws{w:B6}(h:B7 C H w)(o:Obj)(ht:RW o=true):B7 C (.obj w.heap.size o::H) (w.alloc o):=by
 have h1:=h.alloc o;have hn:w.heap.size∉F1 H:=λhm=>by have:=h.lt _ hm;omega
 refine⟨h1.X4,h1.base,?_,?_,?_,h1.sub,h1.mark⟩
 ·intro r hr;rcases BD.1 hr with rfl|hr
  ·exact⟨heap_alloc_new w _,ht⟩
  ·exact h1.ok r hr
 ·show(w.heap.size::F1 H).Nodup;exact Pb.2 ⟨hn,h.nodup⟩
 ·intro k hk;rcases BD.1 (show k∈w.heap.size::F1 H from hk) with rfl|hk
  ·exact⟨.inl h.X4.size,.inl h.base.size⟩
  ·exact h.X8 k hk
theorem aa2{d:Nat}(hd:Nat.blt d n=true)(k:∀h,At n ((d,.map (some h))::E) C (.obj h (P2 [])::H) (D3 r P ops Q rest)):
  At n E C H (D3 r P ops Q (⟨some d,.makeMap t none,ty,pos,after,none⟩::rest)):=
 Ie (ι:=Nat) (λh=>.map (some h)) (λh=>.obj h (P2 [])::H) (λa w hf ho=>by
  refine⟨w.heap.size,w.alloc (P2 []),?_,ho.Ws _ rfl⟩;simp only[execOp];rfl) rfl rfl hd k
theorem Ve{d gm i:Nat}{l:u4}{e:TypeId}(hT:Hu P t=some e)(hx:ev E x=some (.map (some gm)))(hi:H[i]?=some (.obj gm (P2 l)))(hd:Nat.blt d n=true)
  (k:∀h,At n ((d,.pointer (some ⟨h,0,none⟩))::E) C (.obj h (Eo gm l [])::H) (D3 r P ops Q rest)):
  At n E C H (D3 r P ops Q (⟨some d,.range t x,ty,pos,after,none⟩::rest)):=
 Ie (ι:=Nat) (λh=>.pointer (some ⟨h,0,none⟩)) (λh=>.obj h (Eo gm l [])::H) (λa w hf ho=>by
  obtain⟨kt,h1,h2⟩:=To hT;refine⟨w.heap.size,w.alloc (Eo gm l []),?_,ho.Ws _ rfl⟩;have:=run_range_map (P:=P) w t kt e gm _ _ h1 (ho.ok _ (CP hi)).1;simp only[execOp,hf.eval hx];simp only[Sem.run_bind,this,Result.andThen];rfl) rfl rfl hd k
theorem au2{gm gi:Nat}{l:u4}{vis:List Nat}{w:B6}(hm:w.heap[gm]?=some (P2 l))(hi:w.heap[gi]?=some (Eo gm l vis)):
  ((∀j,j<l.length->j∈vis)/\(Instr.next (.pointer (some ⟨gi,0,none⟩)) false ty).run P w=.ok (.tuple #[.bool false]) w)\/
  ∃j p w1,j∉vis/\l[j]?=some p/\(w1=w\/w1=w.drew)/\(Instr.next (.pointer (some ⟨gi,0,none⟩)) false ty).run P w=.ok (.tuple #[.bool true,.string (bs p.1),p.2]) (w1.putObj gi (Eo gm l (vis++[j]))):=by
 have hold:∀x∈(x7 0 l).toArray.toList,x.born<l.length:=λx hx=>by
  obtain⟨j,hj⟩:=List.getElem?_of_mem hx;rw[CR,RL] at hj;obtain⟨p,hp,rfl⟩:=YB.1 hj;have:=(N5.1 hp).1;simp;omega
 unfold Eo at hi;unfold P2 at hm;simp only[Instr.next,Sem.run_bind,getObj,Sem.run,hi,hm,Result.andThen,next_test_false _ _ _ _ hold (L6 _),Fb,if_false];have hmem:∀x,x∈(Array.filter (λe=> !vis.toArray.contains e.born) (x7 0 l).toArray).toList↔∃j p,l[j]?=some p/\j∉vis/\x=⟨.string (bs p.1),p.2,j⟩:=λx=>by
  rw[Array.toList_filter,Pi,CR];constructor
  ·rintro⟨h1,h2⟩;obtain⟨j,hj⟩:=List.getElem?_of_mem h1;rw[RL] at hj;obtain⟨p,hp,rfl⟩:=YB.1 hj;refine⟨j,p,hp,?_,by simp⟩;simpa using h2
  ·rintro⟨j,p,hp,hj,rfl⟩;refine⟨CP (i:=j) (by rw[RL,hp];simp),by simpa using hj⟩
 generalize Array.filter (λe=> !vis.toArray.contains e.born) (x7 0 l).toArray=L at hmem⊢;have hL:∀x∈L.toList,x.born<l.length:=λx hx=>by
  obtain⟨j,p,hp,_,rfl⟩:=(hmem x).1 hx;exact(N5.1 hp).1
 have e1:L.filter (λx=>decide (x.born<l.length))=L:=Array.filter_eq_self.2 (λx hx=>by simpa using hL x (by simpa using hx));have e2:L.filter (λx=>decide (x.born>=l.length))= #[]:=by
  rw[Array.filter_eq_empty_iff];intro x hx;have:=hL x (by simpa using hx);simp;omega
 simp only[e1,e2,Array.append_empty];by_cases h0:L.size=0
 ·left;have:L= #[]:=Array.eq_empty_of_size_eq_zero h0;subst this;refine⟨λj hj=>?_,by simp[choose,Sem.run,Question.forced]⟩;refine Classical.byContradiction λhn=>?_;have:=(hmem ⟨.string (bs l[j].1),l[j].2,j⟩).2 ⟨j,l[j],T8 hj,hn,rfl⟩;simp at this
 ·right;have hne:L.isEmpty=false:=by simp[Array.isEmpty,h0]
  simp only[hne,Fb,if_false,Array.empty_append,Array.size_map];have hch:∃(j:Nat) (w1:B6),j<L.size/\(w1=w\/w1=w.drew)/\(choose (Question.mapNext L.size)).run P w=.ok j w1:=by
   by_cases hf:L.size<=1
   ·exact⟨0,w,by omega,.inl rfl,by simp[choose,Sem.run,Question.forced,hf]⟩
   ·exact⟨_,w.drew,Rg _ (by omega),.inr rfl,by
     simp only[choose,Sem.run,Question.forced,decide_eq_true_eq,hf,if_false,Question.cut];rfl⟩
  obtain⟨j,w1,hj,hal,hrun⟩:=hch;obtain⟨q,p,hp,hq,he⟩:=(hmem L[j]).1 (by simp);refine⟨q,p,w1,hq,hp,hal,?_⟩;have hi1:w1.heap[gi]?=some (Eo gm l vis):=by rcases hal with rfl|rfl<;>exact hi
  have hset:∀o':Obj,(setObj gi o').run P w1=.ok () (w1.putObj gi o'):=λo'=>by simp[setObj,Sem.run,hi1,Eo,World.putObj]
  simp only[hrun,Array.getElem?_map,s4 hj,Rh,Sem.run_bind,hset,Result.andThen,he,List.push_toArray];rfl
theorem WY{d gm gi i j:Nat}{l:u4}{vis:List Nat}(hx:ev E x=some (.pointer (some ⟨gi,0,none⟩)))(hi:H[i]?=some (.obj gm (P2 l)))(hj:H[j]?=some (.obj gi (Eo gm l vis)))(hd:Nat.blt d n=true)
  (k0:(∀j,j<l.length->j∈vis)->At n ((d,.tuple #[.bool false])::E) C H (D3 r P ops Q rest))
  (k1:∀q p,q∉vis->l[q]?=some p->At n ((d,.tuple #[.bool true,.string (bs p.1),p.2])::E) C (H.set j (.obj gi (Eo gm l (vis++[q])))) (D3 r P ops Q rest)):
  At n E C H (D3 r P ops Q (⟨some d,.next x false,ty,pos,after,none⟩::rest)):=by
 intro a w hf hdf ho;refine KN rfl rfl ?_;simp only[execOp,hf.eval hx];have h1:=(ho.ok _ (CP hi)).1;have h2:=(ho.ok _ (CP hj)).1;rcases au2 (P:=P) (ty:=ty) h1 h2 with⟨hv,hr⟩|⟨q,p,w1,hq,hp,hw,hr⟩
 ·simp only[Sem.run_bind,hr,Result.andThen];exact k0 hv _ _ (hf.put (d:=some d) hd) (hdf.put (some d) _) ho
 ·simp only[Sem.run_bind,hr,Result.andThen];have ho1:B7 C H w1:=by
   rcases hw with rfl|rfl
   ·exact ho
   ·exact ho.drew
  exact k1 q p hq hp _ _ (hf.put (d:=some d) hd) (hdf.put (some d) _) (ho1.fX hj rfl)
theorem yV(vis:List Nat)(l:u4)(q:Nat)(p:List UInt8×Value)(hp:l[q]?=some p):(x7 0 l).toArray.find? (·.born==q)=some ⟨.string (bs p.1),p.2,q⟩:=by
 have:∀(l:u4) (i q:Nat),l[q]?=some p->(x7 i l).find? (·.born==i+q)=some ⟨.string (bs p.1),p.2,i+q⟩:=by
  intro l
  induction l with
  |nil=>intro i q h;simp at h
  |cons u l ih=>
   intro i q h;cases q with
   |zero=>simp at h;subst h;simp[x7]
   |succ q=>
    rw[x7,List.find?_cons_of_neg (by simp)];have:=ih (i+1) q (by simpa using h);rwa[show i+1+q=i+(q+1) by omega] at this
 have h:=this l 0 q hp;simpa using h
theorem OA{gm gi i j q:Nat}{l:u4}{vis:List Nat}{p:List UInt8×Value}(hx:ev E x=some (.pointer (some ⟨gi,0,none⟩)))(hi:H[i]?=some (.obj gm (P2 l)))(hj:H[j]?=some (.obj gi (Eo gm l (vis++[q]))))(hp:l[q]?=some p):
  L1 P n E C H ⟨dst,.entry x,ty,pos,after,g⟩ (.tuple #[.string (bs p.1),p.2]):=by
 intro a w hf ho;have h1:=(ho.ok _ (CP hi)).1;have h2:=(ho.ok _ (CP hj)).1;unfold P2 at h1;unfold Eo at h2;have hb:(vis++[q]).toArray.back?=some q:=by simp
 simp only[execOp,hf.eval hx];simp only[Instr.entry,getObj,Sem.run_bind,Sem.run,h1,h2,hb,Result.andThen,yV vis l q p hp,bne_self_eq_false,Fb,if_false];rfl
end
def P7:=@Tryz.zeroValue45
def V2:=@Tryz.zeroValue100
def W9:=@Tryz.zeroValue82
def CS:=@Tryz.zeroValue132
def Cn:=@Tryz.func53
def Co:=@Tryz.ntmps53
def Dl:=@Tryz.func39
def Dm:=@Tryz.ntmps39
def FD:=@Tryz.zeroValue48
def HC:=@Tryz.func59
def HD:=@Tryz.ntmps59
def IE:=@Tryz.zeroValue118
def JF:=@Tryz.underlying3
def Kk:=@Tryz.func29
def Kl:=@Tryz.ntmps29
def Km:=@Tryz.func117
def Kn:=@Tryz.ntmps117
def MH:=@Tryz.func198
def MI:=@Tryz.ntmps198
def MJ:=@Tryz.func147
def MK:=@Tryz.ntmps147
def Nl:=@Tryz.zeroValue37
def Nm:=@Tryz.zeroValue3
def Nn:=@Tryz.underlying9
def Ro:=@Tryz.underlying175
def YG:=@Tryz.zeroValue90
def YK:=@Tryz.underlying4
def YL:=@Tryz.zeroValue9
abbrev I6(f:FuncId)(args:Array Value)(w:World)(v:Value):Prop:=Calls Tryz.prog f args w λe w'=>e=.returned v/\Below w.heap.size w w'
section
variable{P:Program}{r:Option Nat}{n d id:Nat}{E:List (Nat×Value)}{C:I3}{H:List C2}{Q:Exit->Act->World->Prop}{K:Act->World->Prop}{ops:Array Oper}{rest o:List Oper}
variable{ty:TypeId}{pos:String}{after:Array Edge}{x y z:Operand}{xT yT t:TypeId}{k:IntKind}{p q:Int}{l m:List UInt8}{c c':Code}{R:Act->Prop}
def KT:List Nat->Nat->Bool
 |[],_=>false
 |a::l,t=>match Nat.beq a t with
  |true=>true
  |false=>KT l t
def IK{β:Type}:List (Nat×β)->Nat->Option β
 |[],_=>none
 |(a,b)::l,t=>match Nat.beq a t with
  |true=>some b
  |false=>IK l t
theorem Wl{p:Nat->Bool}:∀{l:List Nat},l.all p=true->∀t,KT l t=true->p t=true
 |[],_,t,h=>by cases h
 |a::l,hp,t,h=>by
  simp only[Pe,j1] at hp;unfold KT at h;split at h
  ·rename_i e;obtain rfl:=DK e;exact hp.1
  ·exact Wl hp.2 t h
theorem Pq{β:Type}{p:Nat->β->Bool}:∀{l:List (Nat×β)},(l.all λx=>p x.1 x.2)=true->∀t k,IK l t=some k->p t k=true
 |[],_,t,k,h=>by cases h
 |(a,b)::l,hp,t,k,h=>by
  simp only[Pe,j1] at hp;unfold IK at h;split at h
  ·rename_i e;obtain rfl:=DK e;cases h;exact hp.1
  ·exact Pq hp.2 t k h
def We(l:List (Nat×List Nat))(t g:Nat):Option Nat:=match IK l t with
 |some r=>r[g]?
 |none=>none
instance:EH Tryz.prog:=⟨KT [9,10,11],Wl (by kernel_rfl)⟩
instance:It Tryz.prog:=⟨KT [22,29,35,46,55,62,93,109,112,148,200],Wl (by kernel_rfl)⟩
theorem dN{p:Nat->Bool}{n:Nat}{l:List Nat}(h:(List.range n).all (λf=>KT l f||p f)=true)(f:Nat)(hf:(Nat.blt f n&& !(KT l f))=true):p f=true:=by
 simp only[j1,Bool.not_eq_true',Nat.blt_eq] at hf;have:=f5.1 h f (j9.2 hf.1);rw[hf.2] at this;exact this
theorem ai4{p:Nat->Option Nat}{n:Nat}{l:List (Nat×Nat)}(h:(List.range n).all (λt=>decide (p t=some ((IK l t).getD 1)))=true)(t k:Nat)(hf:(if Nat.blt t n=true then some ((IK l t).getD 1) else none)=some k):p t=some k:=by
 split at hf
 ·rename_i hn;rw[<-hf];exact of_decide_eq_true (f5.1 h t (j9.2 (by simpa using hn)))
 ·cases hf
set_option maxRecDepth 100000 in
instance:BW Tryz.prog:=⟨λf=>Nat.blt f 306&& !(KT [7,8,13,14,18,19,23,24,25,26,27,28,30,31,32,33,36,37,44,45,47,48,63,64,65,66,74,75,79,80,81,82,85,86,88,89,94,95,99,100,113,114,117,118,119,120,131,132,149,150,151,152,174,183,187,188,202,203,208,214,224,249,250,258,286,287,289,294,295,296,297,298,304,305] f),dN (by kernel_rfl)⟩
set_option maxRecDepth 100000 in
instance:Mw Tryz.prog:=⟨λf=>Nat.blt f 257&& !(KT [0,1,145,182] f),dN (by kernel_rfl)⟩
set_option maxRecDepth 100000 in
instance:EX Tryz.prog:=⟨IK [(8,4),(14,2),(19,1),(23,16),(24,16),(26,32),(28,35),(31,2),(33,39),(37,2),(45,3),(48,7),(64,2),(66,4),(75,4),(80,3),(82,4),(86,2),(89,4),(95,3),(100,8),(114,19),(118,5),(120,4),(132,6),(150,6),(152,3),(174,5),(183,4),(188,9),(203,4),(208,21),(214,24),(224,2),(249,20),(250,65),(258,6),(286,32),(287,64),(289,12),(295,4),(297,0),(298,0),(305,11)],λt k h=>of_decide_eq_true (Pq (p:=λt k=>decide (CU Tryz.prog t=some k)) (by kernel_rfl) t k h)⟩
set_option maxRecDepth 100000 in
instance:GA Tryz.prog:=⟨IK [(22,5),(29,1),(35,8),(46,4),(55,4),(62,1),(93,1),(109,3),(112,1),(148,4),(200,4)],λt k h=>of_decide_eq_true (Pq (p:=λt k=>decide (Gh Tryz.prog t=some k)) (by kernel_rfl) t k h)⟩
set_option maxRecDepth 100000 in
instance:MT Tryz.prog:=⟨λt=>if Nat.blt t 306=true then some ((IK [(7,4),(8,4),(13,2),(14,2),(23,16),(24,16),(25,32),(26,32),(27,35),(28,35),(30,2),(31,2),(32,39),(33,39),(36,2),(37,2),(44,3),(45,3),(47,7),(48,7),(63,2),(64,2),(65,4),(66,4),(74,4),(75,4),(79,3),(80,3),(81,4),(82,4),(85,2),(86,2),(88,4),(89,4),(94,3),(95,3),(99,8),(100,8),(113,19),(114,19),(117,5),(118,5),(119,4),(120,4),(131,6),(132,6),(149,6),(150,6),(151,3),(152,3),(174,5),(183,4),(187,9),(188,9),(202,4),(203,4),(208,21),(214,24),(224,2),(249,20),(250,65),(258,6),(286,32),(287,64),(289,12),(294,4),(295,4),(296,0),(297,0),(298,0),(304,11),(305,11)] t).getD 1) else none,ai4 (by kernel_rfl)⟩
set_option maxRecDepth 100000 in
instance:TG Tryz.prog:=⟨IK [(22,(118,5)),(29,(9,1)),(35,(100,8)),(46,(75,4)),(55,(82,4)),(62,(5,1)),(93,(3,1)),(109,(45,3)),(148,(120,4)),(200,(203,4))],λt e z h=>Pq (p:=λt k=>KE Tryz.prog t k.1 k.2) (by kernel_rfl) t (e,z) h⟩
theorem ab1{P:Program}{l:List (Nat×List Nat)}(h:(l.all λx=>(List.range x.2.length).all λg=>decide (Oh P x.1 g=x.2[g]?))=true)(t g k:Nat)(hk:We l t g=some k):Oh P t g=some k:=by
 unfold We at hk;split at hk
 ·rename_i r hr;have:=f5.1 (Pq (p:=λt r=>(List.range r.length).all λg=>decide (Oh P t g=r[g]?)) h t r hr) g (j9.2 (N5.1 hk).1);exact(of_decide_eq_true this).trans hk
 ·cases hk
set_option maxRecDepth 100000 in
instance:Fg Tryz.prog:=⟨We [(8,[0,1,2,3]),(14,[0,1]),(19,[0]),(26,[0,16]),(28,[0,32,33,34]),(31,[0,1]),(33,[0,1,36,38]),(37,[0,1]),(45,[0,1,2]),(48,[0,1,2,5,6]),(64,[0,1]),(66,[0,2]),(75,[0,1]),(80,[0,1,2]),(82,[0,1,2,3]),(86,[0,1]),(89,[0,1,2]),(95,[0,2]),(100,[0,1,2,3,4,5,6,7]),(114,[0,1,3,4,5,6,7,8,9,10,11,18]),(118,[0,1,4]),(120,[0,1,2,3]),(132,[0,1,2,3,4,5]),(150,[0,2,3,4,5]),(152,[0,1,2]),(188,[0,2,3,4,5,6,7,8]),(203,[0,1]),(295,[0,1,2,3]),(305,[0,1,2,3,4,5,6,7,8,9,10])],ab1 (by kernel_rfl)⟩
set_option maxRecDepth 100000 in
instance:WZ Tryz.prog:=⟨by kernel_rfl⟩
theorem O{α:Sort _}{a:α}:a=a:=rfl
theorem D5{S:List L0}{mm j:Nat}{oo:Oper}{v:Value}(hg:(oo.guard,M9 S j)=(none,L0.val v))(h1:∀vs:Nat->Value,L1 P n (U1 ops S vs (M4 oo) E) C H oo v)(h2:Em P n E C H ops S mm (j+1) rest):Em P n E C H ops S (mm+1) j (oo::rest):=Ld (C1 hg).1 (λvs=>by rw[(C1 hg).2];exact D0 (h1 vs)) h2
theorem A6(h:At n E C H K):At n E C H (D3 r P ops (Exit.then K Q) []):=H6 (E2 h)
theorem A3(h:At n E C H (D3 r P o.toArray (Exit.then (F8 r P c Q) Q) o)):At n E C H (F8 r P (Code.seq (Code.region id o.toArray false) c) Q):=C8 (C5 h)
theorem B5(h:At n E C H (D3 r P o.toArray (Exit.then (F8 r P c (Exit.then (F8 r P c' Q) Q)) (Exit.then (F8 r P c' Q) Q)) o)):At n E C H (F8 r P (Code.seq (Code.seq (Code.region id o.toArray false) c) c') Q):=C8 (C8 (C5 h))
theorem CN(h:At n E C H (F8 r P c (Exit.then (F8 r P c' (Exit.inBlock id Q)) (Exit.inBlock id Q)))):At n E C H (F8 r P (Code.block id (Code.seq c c')) Q):=C7 (C8 h)
theorem D6(h:At n E C H K):At n E C H (F8 r P Code.skip (Exit.then K Q)):=P5 (E2 h)
theorem U3(h:At n E C H (Q .ret)):At n E C H (Exit.inBlock id (Exit.then K Q) .ret):=DO (K0 h)
theorem K3(h:At n E C H (Q .ret)):At n E C H (F8 r P Code.ret (Exit.inBlock id (Exit.then K Q))):=D4 (DO (K0 h))
theorem E7{p:Prop}[Decidable p](hc:ev E x=some (.bool (decide p)))(h:p)(h2:At n E C H (F8 r P c Q)):At n E C H (F8 r P (Code.cond x c c') Q):=k8 hc (decide_eq_true h) h2
theorem E0{p:Prop}[Decidable p](hc:ev E x=some (.bool (decide p)))(h:¬p)(h2:At n E C H (F8 r P c' Q)):At n E C H (F8 r P (Code.cond x c c') Q):=Y7 hc (decide_eq_false h) h2
def UI(E:List (Nat×Value))(ops:Array Oper)(j:Nat)(b:Bool):Bool:=match Ci ops j with
 |some t=>(match R6 E t with
  |some (.bool c)=>c==b
  |_=>false)
 |none=>false
def TU(E:List (Nat×Value))(ops:Array Oper)(j:Nat)(b:Bool):Bool:=match Ci ops j with
 |some t=>(match R6 E t with
  |some v=> !BN v b
  |_=>false)
 |none=>false
theorem mH{j:Nat}{b:Bool}(h:UI E ops j b=true):∃t,Ci ops j=some t/\R6 E t=some (.bool b):=by
 unfold UI at h;split at h
 ·rename_i t ht;split at h
  ·rename_i c hc;simp at h;subst h;exact⟨t,ht,hc⟩
  ·cases h
 ·cases h
theorem aH{j:Nat}{b:Bool}(h:TU E ops j b=true):∃t v,Ci ops j=some t/\R6 E t=some v/\BN v b=false:=by
 unfold TU at h;split at h
 ·rename_i t ht;split at h
  ·rename_i v hv;simp at h;exact⟨t,v,ht,hv,h⟩
  ·cases h
 ·cases h
theorem B3{dst:Option Tmp}{op:Op}{j:Nat}{b:Bool}(h:UI E ops j b=true)(k:At n E C H (D3 r P ops Q (⟨dst,op,ty,pos,after,none⟩::rest))):At n E C H (D3 r P ops Q (⟨dst,op,ty,pos,after,some (j,b)⟩::rest)):=by
 obtain⟨t,h1,h2⟩:=mH h;exact oW h1 h2 k
theorem D2{op:Op}{j:Nat}{b:Bool}(hh:(TU E ops j b,Nat.blt d n)=(true,true))(k:At n ((d,undef)::E) C H (D3 r P ops Q rest)):At n E C H (D3 r P ops Q (⟨some d,op,ty,pos,after,some (j,b)⟩::rest)):=by
 obtain⟨t,v,h1,h2,h3⟩:=aH (C1 hh).1;exact oP h1 h2 h3 (C1 hh).2 k
theorem I5{dst:Option Tmp}{op:Op}{j:Nat}{b:Bool}{D:B6->Prop}(h:UI E ops j b=true)(k:G9 n E C (wpQuiet P ops D R (⟨dst,op,ty,pos,after,none⟩::rest))):G9 n E C (wpQuiet P ops D R (⟨dst,op,ty,pos,after,some (j,b)⟩::rest)):=by
 obtain⟨t,h1,h2⟩:=mH h;exact nC h1 h2 k
theorem P1{op:Op}{j:Nat}{b:Bool}{D:B6->Prop}(hh:(TU E ops j b,Nat.blt d n)=(true,true))(k:G9 n ((d,undef)::E) C (wpQuiet P ops D R rest)):G9 n E C (wpQuiet P ops D R (⟨some d,op,ty,pos,after,some (j,b)⟩::rest)):=by
 obtain⟨t,v,h1,h2,h3⟩:=aH (C1 hh).1;exact nM h1 h2 h3 (C1 hh).2 k
theorem B9{op:Op}{v:Value}(h:L1 P n E C H ⟨some d,op,ty,pos,after,none⟩ v)(hh:(Op.X9 op,Nat.blt d n)=(false,true))(h2:At n ((d,v)::E) C H (D3 r P ops Q rest)):At n E C H (D3 r P ops Q (⟨some d,op,ty,pos,after,none⟩::rest)):=o0 h (C1 hh).1 (C1 hh).2 h2
theorem r5{op:Op}{v:Value}(h:L1 P n E C H ⟨some d,op,ty,pos,after,none⟩ v)(hh:(Op.X9 op,Nat.blt d n)=(false,true))(h2:G9 n ((d,v)::E) C (wpQuiet P ops (B7 C H) R rest)):G9 n E C (wpQuiet P ops (B7 C H) R (⟨some d,op,ty,pos,after,none⟩::rest)):=DP h (C1 hh).1 (C1 hh).2 h2
theorem A5{v:Value}(hh:(ev E x,Nat.blt d n)=(some v,true))(h:At n ((d,v)::E) C H K):At n E C H (D3 r P ops (Exit.then K Q) [⟨some d,.assign x,ty,pos,after,none⟩]):=o0 (FH (C1 hh).1) rfl (C1 hh).2 (A6 h)
theorem C6{d':Nat}{ty':TypeId}{pos':String}{after':Array Edge}{v:Value}(hh:(ev E x,ev E y,ev ((d,.bool (decide (p=q)))::E) z,Nat.blt d n,Nat.blt d' n)=(some (.int k p),some (.int k q),some v,true,true))(h:At n ((d',v)::(d,.bool (decide (p=q)))::E) C H K):At n E C H (D3 r P ops (Exit.then K Q) [⟨some d,.binOp .eql xT x y yT,ty,pos,after,none⟩,⟨some d',.assign z,ty',pos',after',none⟩]):=by
 simp only[Cl] at hh;exact o0 (JU hh.1 hh.2.1) O hh.2.2.2.1 (A5 (by simp[hh.2.2.1,hh.2.2.2.2]) h)
theorem E6{v:Value}(hh:(ev E x,Nat.blt d n)=(some v,true))(h2:At n ((d,v)::E) C H (D3 r P ops Q rest)):At n E C H (D3 r P ops Q (⟨some d,.assign x,ty,pos,after,none⟩::rest)):=o0 (FH (C1 hh).1) rfl (C1 hh).2 h2
theorem o6{v:Value}(hh:(ev E x,Nat.blt d n)=(some v,true))(h2:G9 n ((d,v)::E) C (wpQuiet P ops (B7 C H) R rest)):G9 n E C (wpQuiet P ops (B7 C H) R (⟨some d,.assign x,ty,pos,after,none⟩::rest)):=DP (FH (C1 hh).1) rfl (C1 hh).2 h2
theorem A4{v:Value}(hh:(ev E x,Nat.blt d n)=(some v,true))(h2:At n ((d,v)::E) C H (D3 r P ops Q rest)):At n E C H (D3 r P ops Q (⟨some d,.move x,ty,pos,after,none⟩::rest)):=o0 (H8 (C1 hh).1) rfl (C1 hh).2 h2
theorem G3{v:Value}(hh:(ev E x,Nat.blt d n)=(some v,true))(h2:G9 n ((d,v)::E) C (wpQuiet P ops (B7 C H) R rest)):G9 n E C (wpQuiet P ops (B7 C H) R (⟨some d,.move x,ty,pos,after,none⟩::rest)):=DP (H8 (C1 hh).1) rfl (C1 hh).2 h2
theorem H5(hh:(ev E x,ev E y,Nat.blt d n)=(some (.int k p),some (.int k q),true))(h2:At n ((d,(.bool (decide (p=q))))::E) C H (D3 r P ops Q rest)):At n E C H (D3 r P ops Q (⟨some d,.binOp .eql xT x y yT,ty,pos,after,none⟩::rest)):=o0 (JU (C1 hh).1 (C1 (C1 hh).2).1) rfl (C1 (C1 hh).2).2 h2
theorem Nb(hh:(ev E x,ev E y,Nat.blt d n)=(some (.int k p),some (.int k q),true))(h2:G9 n ((d,(.bool (decide (p=q))))::E) C (wpQuiet P ops (B7 C H) R rest)):G9 n E C (wpQuiet P ops (B7 C H) R (⟨some d,.binOp .eql xT x y yT,ty,pos,after,none⟩::rest)):=DP (JU (C1 hh).1 (C1 (C1 hh).2).1) rfl (C1 (C1 hh).2).2 h2
theorem D9[Fg P]{h j o f:Nat}(hh:(Fg.f P xT f,ev E x,Nat.blt d n)=(some o,some (.pointer (some ⟨h,j,none⟩)),true))(h2:At n ((d,(.pointer (some ⟨h,j+o,none⟩)))::E) C H (D3 r P ops Q rest)):At n E C H (D3 r P ops Q (⟨some d,.fieldAddr xT x f,ty,pos,after,none⟩::rest)):=o0 (Ru (Fg.ok _ _ _ (C1 hh).1) (C1 (C1 hh).2).1) rfl (C1 (C1 hh).2).2 h2
theorem I1[Fg P]{h j o f:Nat}(hh:(Fg.f P xT f,ev E x,Nat.blt d n)=(some o,some (.pointer (some ⟨h,j,none⟩)),true))(h2:G9 n ((d,(.pointer (some ⟨h,j+o,none⟩)))::E) C (wpQuiet P ops (B7 C H) R rest)):G9 n E C (wpQuiet P ops (B7 C H) R (⟨some d,.fieldAddr xT x f,ty,pos,after,none⟩::rest)):=DP (Ru (Fg.ok _ _ _ (C1 hh).1) (C1 (C1 hh).2).1) rfl (C1 (C1 hh).2).2 h2
theorem N3[BW P]{h j:Nat}{tb:TypeId}{cs:J2}{v:Value}(i:Nat)(hh:(ev E x,H[i]?,Lb cs.toList j,BW.f P t,Nat.blt d n)=(some (.pointer (some ⟨h,j,none⟩)),some (.B1 h tb cs),some v,true,true))(h2:At n ((d,v)::E) C H (D3 r P ops Q rest)):At n E C H (D3 r P ops Q (⟨some d,.load t x,ty,pos,after,none⟩::rest)):=o0 (TP (BW.ok _ (C1 (C1 (C1 (C1 hh).2).2).2).1) (C1 hh).1 (C1 (C1 hh).2).1 (C1 (C1 (C1 hh).2).2).1) rfl (C1 (C1 (C1 (C1 hh).2).2).2).2 h2
theorem J4[BW P]{h j:Nat}{tb:TypeId}{cs:J2}{v:Value}(i:Nat)(hh:(ev E x,H[i]?,Lb cs.toList j,BW.f P t,Nat.blt d n)=(some (.pointer (some ⟨h,j,none⟩)),some (.B1 h tb cs),some v,true,true))(h2:G9 n ((d,v)::E) C (wpQuiet P ops (B7 C H) R rest)):G9 n E C (wpQuiet P ops (B7 C H) R (⟨some d,.load t x,ty,pos,after,none⟩::rest)):=DP (TP (BW.ok _ (C1 (C1 (C1 (C1 hh).2).2).2).1) (C1 hh).1 (C1 (C1 hh).2).1 (C1 (C1 (C1 hh).2).2).1) rfl (C1 (C1 (C1 (C1 hh).2).2).2).2 h2
theorem E5{p:Addr}(hh:(ev E x,Nat.blt d n)=(some (.pointer (some p)),true))(h2:At n ((d,(.pointer (some p)))::E) C H (D3 r P ops Q rest)):At n E C H (D3 r P ops Q (⟨some d,.nilCheck x,ty,pos,after,none⟩::rest)):=o0 (N1 (C1 hh).1) rfl (C1 hh).2 h2
theorem K2{p:Addr}(hh:(ev E x,Nat.blt d n)=(some (.pointer (some p)),true))(h2:G9 n ((d,(.pointer (some p)))::E) C (wpQuiet P ops (B7 C H) R rest)):G9 n E C (wpQuiet P ops (B7 C H) R (⟨some d,.nilCheck x,ty,pos,after,none⟩::rest)):=DP (N1 (C1 hh).1) rfl (C1 hh).2 h2
theorem L4(hh:(ev E x,ev E y,Nat.blt d n)=(some (.string (bs l)),some (.string (bs m)),true))(h2:At n ((d,(.bool (decide (l=m))))::E) C H (D3 r P ops Q rest)):At n E C H (D3 r P ops Q (⟨some d,.binOp .eql xT x y yT,ty,pos,after,none⟩::rest)):=o0 (an5 (C1 hh).1 (C1 (C1 hh).2).1) rfl (C1 (C1 hh).2).2 h2
theorem H9(hh:(ev E x,ev E y,Nat.blt d n)=(some (.int k p),some (.int k q),true))(h2:At n ((d,(.bool (decide (p<q))))::E) C H (D3 r P ops Q rest)):At n E C H (D3 r P ops Q (⟨some d,.binOp .lss xT x y yT,ty,pos,after,none⟩::rest)):=o0 (Kx (C1 hh).1 (C1 (C1 hh).2).1) rfl (C1 (C1 hh).2).2 h2
theorem AD(hh:(ev E x,ev E y,Nat.blt d n)=(some (.int k p),some (.int k q),true))(h2:G9 n ((d,(.bool (decide (p<q))))::E) C (wpQuiet P ops (B7 C H) R rest)):G9 n E C (wpQuiet P ops (B7 C H) R (⟨some d,.binOp .lss xT x y yT,ty,pos,after,none⟩::rest)):=DP (Kx (C1 hh).1 (C1 (C1 hh).2).1) rfl (C1 (C1 hh).2).2 h2
theorem G1{i:Nat}{vs:H2}{v:Value}(hh:(ev E x,vs[i]?,Nat.blt d n)=(some (.tuple vs.toArray),some v,true))(h2:At n ((d,v)::E) C H (D3 r P ops Q rest)):At n E C H (D3 r P ops Q (⟨some d,.extract x i,ty,pos,after,none⟩::rest)):=o0 (HO (C1 hh).1 (C1 (C1 hh).2).1) rfl (C1 (C1 hh).2).2 h2
theorem N6(hh:(ev E x,ev E y,Nat.blt d n)=(some (.int .i64 p),some (.int .i64 q),true))(h: -9223372036854775808<=p+q/\p+q<=9223372036854775807)(h2:At n ((d,(.int .i64 (p+q)))::E) C H (D3 r P ops Q rest)):At n E C H (D3 r P ops Q (⟨some d,.binOp .add xT x y yT,ty,pos,after,none⟩::rest)):=o0 (Nc (C1 hh).1 (C1 (C1 hh).2).1 h) rfl (C1 (C1 hh).2).2 h2
theorem G4{v:Value}(hh:(ev E x,ev E z,Nat.blt d n)=(some (.bool false),some v,true))(h2:At n ((d,v)::E) C H (D3 r P ops Q rest)):At n E C H (D3 r P ops Q (⟨some d,.pick x y z,ty,pos,after,none⟩::rest)):=o0 (GH (C1 hh).1 (C1 (C1 hh).2).1) rfl (C1 (C1 hh).2).2 h2
theorem Jw{v:Value}(hh:(ev E x,ev E z,Nat.blt d n)=(some (.bool false),some v,true))(h2:G9 n ((d,v)::E) C (wpQuiet P ops (B7 C H) R rest)):G9 n E C (wpQuiet P ops (B7 C H) R (⟨some d,.pick x y z,ty,pos,after,none⟩::rest)):=DP (GH (C1 hh).1 (C1 (C1 hh).2).1) rfl (C1 (C1 hh).2).2 h2
theorem K8{u:Value}(hh:(ev E x,ev E y,Nat.blt d n)=(some (.bool true),some u,true))(h2:At n ((d,u)::E) C H (D3 r P ops Q rest)):At n E C H (D3 r P ops Q (⟨some d,.pick x y z,ty,pos,after,none⟩::rest)):=o0 (He (C1 hh).1 (C1 (C1 hh).2).1) rfl (C1 (C1 hh).2).2 h2
theorem Ek{u:Value}(hh:(ev E x,ev E y,Nat.blt d n)=(some (.bool true),some u,true))(h2:G9 n ((d,u)::E) C (wpQuiet P ops (B7 C H) R rest)):G9 n E C (wpQuiet P ops (B7 C H) R (⟨some d,.pick x y z,ty,pos,after,none⟩::rest)):=DP (He (C1 hh).1 (C1 (C1 hh).2).1) rfl (C1 (C1 hh).2).2 h2
theorem J3(hh:(ev E x,ev E y,Nat.blt d n)=(some (.int k p),some (.int k q),true))(h2:At n ((d,(.bool (decide (p≠q))))::E) C H (D3 r P ops Q rest)):At n E C H (D3 r P ops Q (⟨some d,.binOp .neq xT x y yT,ty,pos,after,none⟩::rest)):=o0 (Yk (C1 hh).1 (C1 (C1 hh).2).1) rfl (C1 (C1 hh).2).2 h2
theorem Q7(hh:(ev E x,ev E y,Nat.blt d n)=(some (.int k p),some (.int k q),true))(h2:At n ((d,(.bool (decide (q<p))))::E) C H (D3 r P ops Q rest)):At n E C H (D3 r P ops Q (⟨some d,.binOp .gtr xT x y yT,ty,pos,after,none⟩::rest)):=o0 (KY (C1 hh).1 (C1 (C1 hh).2).1) rfl (C1 (C1 hh).2).2 h2
theorem NL(hh:(ev E x,ev E y,Nat.blt d n)=(some (.int k p),some (.int k q),true))(h2:G9 n ((d,(.bool (decide (q<p))))::E) C (wpQuiet P ops (B7 C H) R rest)):G9 n E C (wpQuiet P ops (B7 C H) R (⟨some d,.binOp .gtr xT x y yT,ty,pos,after,none⟩::rest)):=DP (KY (C1 hh).1 (C1 (C1 hh).2).1) rfl (C1 (C1 hh).2).2 h2
theorem J7{b:Bool}(hh:(ev E x,Nat.blt d n)=(some (.bool b),true))(h2:At n ((d,(.bool (!b)))::E) C H (D3 r P ops Q rest)):At n E C H (D3 r P ops Q (⟨some d,.unOp .not xT x,ty,pos,after,none⟩::rest)):=o0 (lU (C1 hh).1) rfl (C1 hh).2 h2
theorem RS{b:Bool}(hh:(ev E x,Nat.blt d n)=(some (.bool b),true))(h2:G9 n ((d,(.bool (!b)))::E) C (wpQuiet P ops (B7 C H) R rest)):G9 n E C (wpQuiet P ops (B7 C H) R (⟨some d,.unOp .not xT x,ty,pos,after,none⟩::rest)):=DP (lU (C1 hh).1) rfl (C1 hh).2 h2
theorem O1(hh:(ev E x,ev E y,Nat.blt d n)=(some (.int k p),some (.int k q),true))(h2:At n ((d,(.bool (decide (q<=p))))::E) C H (D3 r P ops Q rest)):At n E C H (D3 r P ops Q (⟨some d,.binOp .geq xT x y yT,ty,pos,after,none⟩::rest)):=o0 (dX (C1 hh).1 (C1 (C1 hh).2).1) rfl (C1 (C1 hh).2).2 h2
theorem n4[EH P]{t:TypeId}(hh:(ev E x,EH.f P t,Nat.blt d n)=(some (.string (bs l)),true,true))(h2:At n ((d,(.int .i64 (l.length:Int)))::E) C H (D3 r P ops Q rest)):At n E C H (D3 r P ops Q (⟨some d,.call ⟨.builtin .len,#[x],#[t]⟩,ty,pos,after,none⟩::rest)):=o0 (Wx (EH.ok _ (C1 (C1 hh).2).1) (C1 hh).1) rfl (C1 (C1 hh).2).2 h2
theorem t8[EH P]{t:TypeId}(hh:(ev E x,EH.f P t,Nat.blt d n)=(some (.string (bs l)),true,true))(h2:G9 n ((d,(.int .i64 (l.length:Int)))::E) C (wpQuiet P ops (B7 C H) R rest)):G9 n E C (wpQuiet P ops (B7 C H) R (⟨some d,.call ⟨.builtin .len,#[x],#[t]⟩,ty,pos,after,none⟩::rest)):=DP (Wx (EH.ok _ (C1 (C1 hh).2).1) (C1 hh).1) rfl (C1 (C1 hh).2).2 h2
theorem Li[EH P]{k:IntKind}{q:Int}(hh:(ev E x,ev E y,EH.f P xT,Nat.blt d n)=(some (.string (bs l)),some (.int k q),true,true))(h:0<=q/\q<l.length)(h2:At n ((d,(.int .u8 (J6 l q.toNat)))::E) C H (D3 r P ops Q rest)):At n E C H (D3 r P ops Q (⟨some d,.index xT x y,ty,pos,after,none⟩::rest)):=o0 (HN (EH.ok _ (C1 (C1 (C1 hh).2).2).1) (C1 hh).1 (C1 (C1 hh).2).1 h) rfl (C1 (C1 (C1 hh).2).2).2 h2
theorem AX[EH P]{k:IntKind}{q:Int}(hh:(ev E x,ev E y,EH.f P xT,Nat.blt d n)=(some (.string (bs l)),some (.int k q),true,true))(h:0<=q/\q<l.length)(h2:G9 n ((d,(.int .u8 (J6 l q.toNat)))::E) C (wpQuiet P ops (B7 C H) R rest)):G9 n E C (wpQuiet P ops (B7 C H) R (⟨some d,.index xT x y,ty,pos,after,none⟩::rest)):=DP (HN (EH.ok _ (C1 (C1 (C1 hh).2).2).1) (C1 hh).1 (C1 (C1 hh).2).1 h) rfl (C1 (C1 (C1 hh).2).2).2 h2
theorem BA[It P]{e sz m:Nat}{v:Value}{xs:H2}(i:Nat)(hh:(ev E x,H[i]?,It.f P t,Nat.blt d n)=(some v,some (.row v e sz m xs),true,true))(h2:At n ((d,(.int .i64 (m:Int)))::E) C H (D3 r P ops Q rest)):At n E C H (D3 r P ops Q (⟨some d,.call ⟨.builtin .len,#[x],#[t]⟩,ty,pos,after,none⟩::rest)):=o0 (Im (It.ok _ (C1 (C1 (C1 hh).2).2).1) (C1 hh).1 (C1 (C1 hh).2).1) rfl (C1 (C1 (C1 hh).2).2).2 h2
theorem d1[It P]{t:TypeId}{A:Option Addr}{q c:Nat}(hh:(ev E x,It.f P t,Nat.blt d n)=(some (.slice A q c),true,true))(h2:At n ((d,(.int .i64 (q:Int)))::E) C H (D3 r P ops Q rest)):At n E C H (D3 r P ops Q (⟨some d,.call ⟨.builtin .len,#[x],#[t]⟩,ty,pos,after,none⟩::rest)):=o0 (KG (It.ok _ (C1 (C1 hh).2).1) (C1 hh).1) rfl (C1 (C1 hh).2).2 h2
theorem Sn[It P]{t:TypeId}{A:Option Addr}{q c:Nat}(hh:(ev E x,It.f P t,Nat.blt d n)=(some (.slice A q c),true,true))(h2:G9 n ((d,(.int .i64 (q:Int)))::E) C (wpQuiet P ops (B7 C H) R rest)):G9 n E C (wpQuiet P ops (B7 C H) R (⟨some d,.call ⟨.builtin .len,#[x],#[t]⟩,ty,pos,after,none⟩::rest)):=DP (KG (It.ok _ (C1 (C1 hh).2).1) (C1 hh).1) rfl (C1 (C1 hh).2).2 h2
theorem FJ{cs:J2}{f:Nat}{v:Value}(o:Nat)(hh:(ev E x,cs[o]?,Nat.blt d n)=(some (.agg cs),some v,true))(hF:Wo P xT f=some o)(h2:At n ((d,v)::E) C H (D3 r P ops Q rest)):At n E C H (D3 r P ops Q (⟨some d,.field xT x f,ty,pos,after,none⟩::rest)):=o0 (xU hF (C1 hh).1 (C1 (C1 hh).2).1) rfl (C1 (C1 hh).2).2 h2
theorem Hp(hh:(ev E x,ev E y,Nat.blt d n)=(some (.int k p),some (.int k q),true))(h2:At n ((d,(.bool (decide (p<=q))))::E) C H (D3 r P ops Q rest)):At n E C H (D3 r P ops Q (⟨some d,.binOp .leq xT x y yT,ty,pos,after,none⟩::rest)):=o0 (eL (C1 hh).1 (C1 (C1 hh).2).1) rfl (C1 (C1 hh).2).2 h2
theorem WS(hh:(ev E x,ev E y,Nat.blt d n)=(some (.int k p),some (.int k q),true))(h2:G9 n ((d,(.bool (decide (p<=q))))::E) C (wpQuiet P ops (B7 C H) R rest)):G9 n E C (wpQuiet P ops (B7 C H) R (⟨some d,.binOp .leq xT x y yT,ty,pos,after,none⟩::rest)):=DP (eL (C1 hh).1 (C1 (C1 hh).2).1) rfl (C1 (C1 hh).2).2 h2
theorem Q4[GA P]{h o q c j k:Nat}{kk:IntKind}(hh:(GA.f P xT,ev E x,ev E y,Nat.blt d n)=(some k,some (.slice (some ⟨h,o,none⟩) q c),some (.int kk (j:Int)),true))(hp:j<q)(h2:At n ((d,(.pointer (some ⟨h,o+j*k,none⟩)))::E) C H (D3 r P ops Q rest)):At n E C H (D3 r P ops Q (⟨some d,.indexAddr xT x y,ty,pos,after,none⟩::rest)):=o0 (XG (GA.ok _ _ (C1 hh).1) (C1 (C1 hh).2).1 (C1 (C1 (C1 hh).2).2).1 hp) rfl (C1 (C1 (C1 hh).2).2).2 h2
theorem LS[GA P]{h o q c j k:Nat}{kk:IntKind}(hh:(GA.f P xT,ev E x,ev E y,Nat.blt d n)=(some k,some (.slice (some ⟨h,o,none⟩) q c),some (.int kk (j:Int)),true))(hp:j<q)(h2:G9 n ((d,(.pointer (some ⟨h,o+j*k,none⟩)))::E) C (wpQuiet P ops (B7 C H) R rest)):G9 n E C (wpQuiet P ops (B7 C H) R (⟨some d,.indexAddr xT x y,ty,pos,after,none⟩::rest)):=DP (XG (GA.ok _ _ (C1 hh).1) (C1 (C1 hh).2).1 (C1 (C1 (C1 hh).2).2).1 hp) rfl (C1 (C1 (C1 hh).2).2).2 h2
theorem U6[EX P]{p:Addr}{vs:H2}(hh:(ev E x,EX.f P t,Nat.blt d n)=(some (.pointer (some p)),some vs.length,true))(hc:∀w,B7 C H w->∀j v,vs[j]?=some v->w.cell? (p.add j)=some v)(h2:At n ((d,(.agg vs.toArray))::E) C H (D3 r P ops Q rest)):At n E C H (D3 r P ops Q (⟨some d,.load t x,ty,pos,after,none⟩::rest)):=o0 (Ip (EX.ok _ _ (C1 (C1 hh).2).1) (C1 hh).1 hc) rfl (C1 (C1 hh).2).2 h2
theorem jU[EX P]{p:Addr}{vs:H2}(hh:(ev E x,EX.f P t,Nat.blt d n)=(some (.pointer (some p)),some vs.length,true))(hc:∀w,B7 C H w->∀j v,vs[j]?=some v->w.cell? (p.add j)=some v)(h2:G9 n ((d,(.agg vs.toArray))::E) C (wpQuiet P ops (B7 C H) R rest)):G9 n E C (wpQuiet P ops (B7 C H) R (⟨some d,.load t x,ty,pos,after,none⟩::rest)):=DP (Ip (EX.ok _ _ (C1 (C1 hh).2).1) (C1 hh).1 hc) rfl (C1 (C1 hh).2).2 h2
theorem G6[EX P]{h k:Nat}{tb:TypeId}{cs:J2}(i:Nat)(hh:(EX.f P t,ev E x,H[i]?,Nat.blt d n)=(some k,some (.pointer (some ⟨h,0,none⟩)),some (.B1 h tb cs),true))(hk:cs.size=k)(h2:At n ((d,(.agg cs))::E) C H (D3 r P ops Q rest)):At n E C H (D3 r P ops Q (⟨some d,.load t x,ty,pos,after,none⟩::rest)):=o0 (eV (EX.ok _ _ (C1 hh).1) (C1 (C1 hh).2).1 (C1 (C1 (C1 hh).2).2).1 hk) rfl (C1 (C1 (C1 hh).2).2).2 h2
theorem JS(hh:(ev E x,ev E y,Nat.blt d n)=(some (.string (bs l)),some (.string (bs m)),true))(h2:At n ((d,(.bool (decide (l≠m))))::E) C H (D3 r P ops Q rest)):At n E C H (D3 r P ops Q (⟨some d,.binOp .neq xT x y yT,ty,pos,after,none⟩::rest)):=o0 (pK (C1 hh).1 (C1 (C1 hh).2).1) rfl (C1 (C1 hh).2).2 h2
theorem GD(hh:(ev E x,ev E y,Nat.blt d n)=(some (.int k p),some (.int k q),true))(h2:At n ((d,(.int k (k.wrap (p-q))))::E) C H (D3 r P ops Q rest)):At n E C H (D3 r P ops Q (⟨some d,.binOp .sub xT x y yT,ty,pos,after,none⟩::rest)):=o0 (Xc (C1 hh).1 (C1 (C1 hh).2).1) rfl (C1 (C1 hh).2).2 h2
theorem I0{Q':Exit->Act->B6->Prop}(h:At n E C H (D3 r P o.toArray (Exit.then (F8 r P c Q') Q') o)):At n E C H (D3 r P ops (Exit.then (F8 r P (Code.seq (Code.region id o.toArray false) c) Q') Q) []):=A6 (A3 h)
theorem B4{v:Value}(hh:(ev E x,Nat.blt d n)=(some v,true))(h:At n ((d,v)::E) C H (D3 r P (⟨some d,.move x,ty,pos,after,none⟩::rest).toArray (Exit.then (F8 r P c Q) Q) rest)):At n E C H (F8 r P (Code.seq (Code.region id (⟨some d,.move x,ty,pos,after,none⟩::rest).toArray false) c) Q):=A3 (A4 hh h)
theorem I9{Q':Exit->Act->B6->Prop}{v:Value}(hh:(ev E x,Nat.blt d n)=(some v,true))(h:At n ((d,v)::E) C H (D3 r P (⟨some d,.move x,ty,pos,after,none⟩::rest).toArray (Exit.then (F8 r P c Q') Q') rest)):At n E C H (D3 r P ops (Exit.then (F8 r P (Code.seq (Code.region id (⟨some d,.move x,ty,pos,after,none⟩::rest).toArray false) c) Q') Q) []):=A6 (B4 hh h)
theorem B2[Fg P][BW P]{h j oo f d2:Nat}{tb ty2:TypeId}{pos2:String}{after2:Array Edge}{x2:Operand}{cs:J2}{v:Value}(i:Nat)(hh:(ev E x,Fg.f P xT f,ev ((d,.pointer (some ⟨h,j+oo,none⟩))::E) x2,H[i]?,Lb cs.toList (j+oo),Nat.blt d n,Nat.blt d2 n,BW.f P t)=(some (.pointer (some ⟨h,j,none⟩)),some oo,some (.pointer (some ⟨h,j+oo,none⟩)),some (.B1 h tb cs),some v,true,true,true))(h2:At n ((d2,v)::(d,.pointer (some ⟨h,j+oo,none⟩))::E) C H (D3 r P ops Q rest)):At n E C H (D3 r P ops Q (⟨some d,.fieldAddr xT x f,ty,pos,after,none⟩::⟨some d2,.load t x2,ty2,pos2,after2,none⟩::rest)):=by
 simp only[Cl] at hh;exact o0 (Ru (Fg.ok _ _ _ hh.2.1) hh.1) O hh.2.2.2.2.2.1 (o0 (TP (BW.ok _ hh.2.2.2.2.2.2.2) hh.2.2.1 hh.2.2.2.1 hh.2.2.2.2.1) O hh.2.2.2.2.2.2.1 h2)
theorem C3{Q':Exit->Act->B6->Prop}{d':Nat}{ty':TypeId}{pos':String}{after':Array Edge}{x':Operand}{v:Value}(hh:(ev E x,ev E y,ev ((d,.bool (decide (p=q)))::E) z,Nat.blt d n,Nat.blt d' n,ev ((d',v)::(d,.bool (decide (p=q)))::E) x')=(some (.int k p),some (.int k q),some v,true,true,some (.bool (decide (p=q)))))(hp:¬p=q)(h:At n ((d',v)::(d,.bool (decide (p=q)))::E) C H (F8 r P c' Q')):At n E C H (D3 r P ops (Exit.then (F8 r P (Code.cond x' c c') Q') Q) [⟨some d,.binOp .eql xT x y yT,ty,pos,after,none⟩,⟨some d',.assign z,ty',pos',after',none⟩]):=by
 simp only[Cl] at hh;exact C6 (k:=k) (by simp only[hh.1,hh.2.1,hh.2.2.1,hh.2.2.2.1,hh.2.2.2.2.1]) (E0 hh.2.2.2.2.2 hp h)
theorem Q9{Q':Exit->Act->B6->Prop}{d':Nat}{ty':TypeId}{pos':String}{after':Array Edge}{x':Operand}{v:Value}(hh:(ev E x,ev E y,ev ((d,.bool (decide (p=q)))::E) z,Nat.blt d n,Nat.blt d' n,ev ((d',v)::(d,.bool (decide (p=q)))::E) x')=(some (.int k p),some (.int k q),some v,true,true,some (.bool (decide (p=q)))))(hp:p=q)(h:At n ((d',v)::(d,.bool (decide (p=q)))::E) C H (F8 r P c Q')):At n E C H (D3 r P ops (Exit.then (F8 r P (Code.cond x' c c') Q') Q) [⟨some d,.binOp .eql xT x y yT,ty,pos,after,none⟩,⟨some d',.assign z,ty',pos',after',none⟩]):=by
 simp only[Cl] at hh;exact C6 (k:=k) (by simp only[hh.1,hh.2.1,hh.2.2.1,hh.2.2.2.1,hh.2.2.2.2.1]) (E7 hh.2.2.2.2.2 hp h)
end
end Go.Proofs.YtjkhokkdgfbhcaaGreatDoor
namespace Go.Proofs.YtjkhokkdgfbhcaaGreatDoor
open Go.RowKit Tryz
section
variable{P:Program}{n:Nat}{E:List (Nat×Value)}{C:I3}{H:List C2}{t:TypeId}
theorem EK{fn:Func}{R:Ending->B6->Prop}{s i h k:Nat}{tb:TypeId}{cs:J2}(hr:fn.results= #[.cell s t])(hm:C.marks=[])(ht:R6 E s=some (.pointer (some ⟨h,0,none⟩)))(hi:H[i]?=some (.B1 h tb cs))(hT:CU P t=some k)(hv:cs.size=k)
  (hk:∀w,B7 C H w->R (.returned (.agg cs)) w):At n E C H (fin P fn R .ret):=by
 intro a w hf hd ho;refine Il (v:=.agg cs) hm hd ?_ (hk w ho);have h1:=hf.get s _ ht;have h2:=PJ (P:=P) (t:=t) hT (ho.get hi) hv;have h3:a.tmps.getD s undef=.pointer (some ⟨h,0,none⟩):=by rw[m6,h1];rfl
 unfold results;rw[hr];simp only[Ph,Pg,Re,h3,asAddr,Sem.run_bind,Sem.run_pure,Result.andThen,map_eq_pure_bind,h2];rfl
theorem ax9{fn:Func}{R:Ending->B6->Prop}{s u i h k:Nat}{tb:TypeId}{cs:J2}{x:Value}(hr:fn.results= #[.cell s t,.tmp u])(hm:C.marks=[])(ht:R6 E s=some (.pointer (some ⟨h,0,none⟩)))(hu:R6 E u=some x)(hi:H[i]?=some (.B1 h tb cs))(hT:CU P t=some k)(hv:cs.size=k)
  (hk:∀w,B7 C H w->R (.returned (.tuple #[.agg cs,x])) w):At n E C H (fin P fn R .ret):=by
 intro a w hf hd ho;refine Il (v:=.tuple #[.agg cs,x]) hm hd ?_ (hk w ho);have h1:=hf.get s _ ht;have h4:=hf.get u _ hu;have h2:=PJ (P:=P) (t:=t) hT (ho.get hi) hv;have h3:a.tmps.getD s undef=.pointer (some ⟨h,0,none⟩):=by rw[m6,h1];rfl
 have h5:a.tmps.getD u undef=x:=by rw[m6,h4];rfl
 unfold results;rw[hr];simp only[Ph,Pg,Re,h3,h5,asAddr,Sem.run_bind,Sem.run_pure,Result.andThen,map_eq_pure_bind,h2];rfl
theorem O5{fn:Func}{R:Ending->B6->Prop}{s u h k:Nat}{tb:TypeId}{cs:J2}{x:Value}(i:Nat)[EX P](hh0:(fn.results,EX.f P t,C.marks,R6 E s,R6 E u,H[i]?,cs.size)=(#[.cell s t,.tmp u],some k,[],some (.pointer (some ⟨h,0,none⟩)),some x,some (.B1 h tb cs),k))(hk:∀w,B7 C H w->R (.returned (.tuple #[.agg cs,x])) w):At n E C H (fin P fn R .ret):=ax9 (C1 hh0).1 (C1 (C1 (C1 hh0).2).2).1 (C1 (C1 (C1 (C1 hh0).2).2).2).1 (C1 (C1 (C1 (C1 (C1 hh0).2).2).2).2).1 (C1 (C1 (C1 (C1 (C1 (C1 hh0).2).2).2).2).2).1 (EX.ok _ _ (C1 (C1 hh0).2).1) (C1 (C1 (C1 (C1 (C1 (C1 hh0).2).2).2).2).2).2 hk
end
def fV(P:Program)(t:TypeId):Option Nat:=match P.underlying t with
 |some (.array l e)=>if CF P e==some 1&&Db P e then some l else none
 |_=>none
theorem BZ{P:Program}{n:Nat}{E:X0}{C:I3}{H:List C2}{dst:Option Tmp}{ty:TypeId}{pos:String}{after:Array Edge}{g:Option (Nat×Bool)}{x y:Operand}{xT:TypeId}{cs:J2}{l q:Nat}{kk:IntKind}{v:Value}
  (hT:fV P xT=some l)(hx:ev E x=some (.agg cs))(hy:ev E y=some (.int kk (q:Int)))(hq:q<l)(hv:cs[q]?=some v):L1 P n E C H ⟨dst,.index xT x y,ty,pos,after,g⟩ v:=by
 intro a w hf ho;unfold fV at hT;split at hT
 ·rename_i l' e he;split at hT
  ·rename_i hh;cases hT;simp only[j1,beq_iff_eq] at hh;have hs:=Gd hh.1 w;simp only[execOp,hf.eval hx,hf.eval hy];simp[go_sem,Instr.index,asIntOf,run_underlying he,hq,hs,part,Qg hh.2,asAgg,hv]
  ·cases hT
 ·cases hT
section
variable{P:Program}{n:Nat}{E:List (Nat×Value)}{C:I3}{H:List C2}
end
section
variable{P:Program}{r:Option Nat}{n:Nat}{E:List (Nat×Value)}{C:I3}{H:List C2}{ops:Array Oper}{Q:Exit->Act->World->Prop}{rest:List Oper}
theorem gN{c:Code}(E':X0)(A:At n E' C H (Q .normal))(B:At n E' C H (Q .normal)->At n E C H (F8 r P c Q)):At n E C H (F8 r P c Q):=B A
theorem NS{E':X0}(A:At n E' C H (Q .normal))(he:Eu E' E):At n E C H (D3 r P ops Q []):=λa w hf hd ho=>A a w (hf.Jv he) hd ho
theorem W7{ι:Type}{d:Nat}{op:Op}{ty:TypeId}{pos:String}{after:Array Edge}{f:FuncId}{args:J2}(R H0:List C2)(v:ι->Value)(H0':ι->List C2)(hH:H=R++H0)(he:f0 P n E C (H0++R) ⟨some d,op,ty,pos,after,none⟩ f args)
  (hc:∀w,B7 C (H0++R) w->B7 (J1 w H0) H0 w->Calls P f args w λe w'=>∃i,e=.returned (v i)/\O0 w (λk=>k∈F1 H0) (H0' i) w')(hn:Op.X9 op=false)(hd:Nat.blt d n=true)
  (k:∀i,At n ((d,v i)::E) C (R++H0' i) (D3 r P ops Q rest)):At n E C H (D3 r P ops Q (⟨some d,op,ty,pos,after,none⟩::rest)):=by
 subst hH;exact CE EC (Dg v H0' O he hc hn hd λi=>CE EC (k i))
end
section
attribute [local irreducible] F8 D3 Exit.then Exit.inBlock Exit.noGoto wpQuiet Calls fin At G9 L3 L7
def MR(c:Int):Bool:=(decide (97<=c)&&decide (c<=122))||(decide (48<=c)&&decide (c<=57))||decide (c=45)||decide (c=46)||decide (c=47)||decide (c=95)
def NY(c:UInt8):Bool:=MR (c.toNat:Int)
def w6(l:List UInt8):Bool:=decide (l.length<=24)&&l.all NY
def FO(l:List UInt8):Bool:=decide (l≠[])&&w6 l
def AB(i:Nat):Int:=if i=0 then 288195191779622912 else 576460745860972544
def j0(w:World):Prop:=w.cell? ⟨0,0,none⟩=some (.int .u64 288195191779622912)/\w.cell? ⟨0,1,none⟩=some (.int .u64 576460745860972544)
theorem B7.Q8{C:I3}{H:List C2}{w:B6}(ho:B7 C H w)(h:j0 C.W)(hL:¬C.L 0):j0 w:=by
 have e:=ho.X4.old 0 (World.block_lt_of_cell? _ _ h.1) hL;exact⟨(World.cell?_of_block (a:=⟨0,0,none⟩) e).trans h.1,(World.cell?_of_block (a:=⟨0,1,none⟩) e).trans h.2⟩
theorem j0.cell{w:B6}(h:j0 w){i:Nat}(hi:i<2):w.cell? ⟨0,0+i*1,none⟩=some (.int .u64 (AB i)):=by
 match i,hi with
 |0,_=>exact h.1
 |1,_=>exact h.2
theorem LY(l:C9)(i:Nat)(h:i<l.length):J6 l i=(l[i].toNat:Int):=by simp[J6,List.getD,T8 h]
theorem rU:∀c:Fin 128,decide (bits .and .u64 ((AB ((c.val:Int).fdiv (2^(min (6:Int).toNat IntKind.u8.bits))).toNat).fdiv (2^(min (bits .and .u8 (c.val:Int) 63).toNat IntKind.u64.bits))) 1=1)=MR (c.val:Int):=by decide+kernel
theorem aj1:∀c:Fin 128,0<=(c.val:Int).fdiv (2^(min (6:Int).toNat IntKind.u8.bits))/\(c.val:Int).fdiv (2^(min (6:Int).toNat IntKind.u8.bits))<(2:Nat):=by decide+kernel
theorem am3:∀c:Fin 128,0<=bits .and .u8 (c.val:Int) 63:=by decide+kernel
theorem jM(c:Int)(h0:0<=c)(h1:c<128):0<=c.fdiv (2^(min (6:Int).toNat IntKind.u8.bits))/\c.fdiv (2^(min (6:Int).toNat IntKind.u8.bits))<(2:Nat):=by
 obtain⟨k,rfl⟩:=Ri h0;exact aj1 ⟨k,by omega⟩
theorem wN(c:Int)(h0:0<=c)(h1:c<128):0<=bits .and .u8 c 63:=by
 obtain⟨k,rfl⟩:=Ri h0;exact am3 ⟨k,by omega⟩
theorem ad2(c:Int)(h0:0<=c)(h1:c<128):decide (bits .and .u64 ((AB (c.fdiv (2^(min (6:Int).toNat IntKind.u8.bits))).toNat).fdiv (2^(min (bits .and .u8 c 63).toNat IntKind.u64.bits))) 1=1)=MR c:=by
 obtain⟨k,rfl⟩:=Ri h0;exact rU ⟨k,by omega⟩
theorem nG(c:Int)(w:B6)(hG:j0 w)(h0:0<=c)(h255:c<=255):I6 118 #[.int .u8 c] w (.bool (MR c)):=by
 refine J5 func118 O ntmps118 O<|A3<|A5 O<|B4 O<|H9 O<|A4 O<|Mx O O (λz0=>?_) (λz0=>?_);refine B3 O<|A4 O<|B3 O<|B9 (TX O O (by omega)) O<|B3 O<|B9 (eN (k:=1) (by kernel_rfl) O O (jM c h0 (by omega))) O<|B3 O<|B9 (AI O (λw ho=>(ho.Q8 hG id).cell (by have:=jM c h0 (by omega);omega))) O<|B3 O<|A4 O<|B3 O<|B9 (Si (by simp) O O) O<|B3 O<|B9 (TX O O (wN c h0 (by omega))) O<|B3 O<|B9 (Si (by simp) O O) O<|B3 O<|H5 O<|K8 O<|A5 O<|D4<|E4 O λw9 ho9=>?_;rotate_left;refine D2 O<|D2 O<|D2 O<|D2 O<|D2 O<|D2 O<|D2 O<|D2 O<|D2 O<|G4 O<|A5 O<|D4<|E4 O λw9 ho9=>?_;rotate_left
 ·exact⟨d8 (ad2 c h0 (by omega)),ho9.plain⟩
 ·refine⟨d8 ?_,ho9.plain⟩;simp[MR];omega
theorem aq6(l:C9)(k:Nat)(h:k<l.length):(l.take (k+1)).all NY=((l.take k).all NY&&MR (J6 l k)):=by
 rw[Rj h,YE,LY l k h];simp[NY]
theorem pX(l:C9)(k:Nat)(h:k<l.length)(hs:MR (J6 l k)=false):l.all NY=false:=by
 rw[Ni];exact⟨l[k],Fd h,by rw[LY l k h] at hs;simp[NY,hs]⟩
theorem dJ(l:C9)(w:B6)(hG:j0 w):I6 66 #[.string (bs l)] w (.bool (w6 l)):=by
 refine J5 func66 O ntmps66 O<|A3<|A5 O<|B5<|A4 O<|n4 O<|Q7 O<|A6<|C4 O (λz0=>?_) (λz0=>?_);refine A3<|A5 O<|D4<|K0<|E4 O λw9 ho9=>?_;rotate_left;refine D6<|B5<|A4 O<|n4 O<|A4 O<|A6<|C7 ?_;rotate_left
 ·refine⟨d8 ?_,ho9.plain⟩;simp[w6];omega
 ·refine DG (λk:Nat=>k<=l.length/\(l.take k).all NY=true) (λk=>[(0,.string (bs l)),(8,.int .i64 l.length),(9,.int .i64 k)]) (λk=>l.length-k) 0 ⟨by omega,by simp⟩ ⟨rfl,rfl,rfl,trivial⟩ ?_;rintro k ⟨hk,hall⟩;refine A3<|H9 O<|A6<|C8<|C4 O (λz0=>?_) (λz0=>?_);refine D6<|C8<|C7<|B4 O<|A5 O<|B4 O<|A4 O<|Li O (by omega)<|F3 118 (A7 O) (λw ho=>nG _ w (ho.Q8 hG id) (WQ _ _).1 (WQ _ _).2) O<|J7 O<|A6<|fO O (λz1=>?_) (λz1=>?_);refine A3<|A5 O<|K3<|K0<|U3<|E4 O λw9 ho9=>?_;rotate_left;refine P5<|F4<|E2<|C5<|N6 O (by omega)<|A4 O<|A6 ?_;rotate_left;refine S4<|J0<|J0<|S5<|E2<|A3<|A5 O<|D4<|E4 O λw9 ho9=>?_;rotate_left
  ·refine⟨d8 ?_,ho9.plain⟩;simp only[w6,pX l k (by omega) z1,Bool.and_false]
  ·refine DB (k+1) ⟨by omega,?_⟩ (by omega) ⟨rfl,rfl,rfl,trivial⟩;rw[aq6 l k (by omega),hall];simpa using z1
  ·refine⟨d8 ?_,ho9.plain⟩;have:k=l.length:=by omega
   subst this;rw[GQ] at hall;simp[w6,hall];omega
def V0(s p:List UInt8):Bool:=decide (p.length<=s.length)&&decide (s.take p.length=p)
def OX(k:List UInt8):Int:=if FO k then J6 k 0%16 else-1
theorem wL{l:C9}(h:FO l=true):0<l.length:=by
 unfold FO at h;cases l with
 |nil=>simp at h
 |cons a l=>simp
theorem Lp(l:C9)(w:B6)(hG:j0 w):I6 168 #[.string (bs l)] w (.bool (FO l)):=by
 refine J5 func168 O ntmps168 O<|A3<|A5 O<|B4 O<|JS O<|A4 O<|Mx O O (λz0=>?_) (λz0=>?_);refine B3 O<|A4 O<|B3 O<|F3 66 (A7 O) (λw ho=>dJ _ w (ho.Q8 hG id)) O<|K8 O<|A5 O<|D4<|E4 O λw9 ho9=>?_;rotate_left;refine D2 O<|D2 O<|G4 O<|A5 O<|D4<|E4 O λw9 ho9=>?_;rotate_left
 all_goals
  refine⟨d8 ?_,ho9.plain⟩;simp_all[FO]
theorem Ma(l:C9)(w:B6)(hG:j0 w):I6 33 #[.string (bs l)] w (.bool (w6 l)):=by
 refine J5 func33 O ntmps33 O<|A3<|A5 O<|B4 O<|F3 66 (A7 O) (λw ho=>dJ _ w (ho.Q8 hG id)) O<|A5 O<|D4<|E4 O λw9 ho9=>?_;exact⟨rfl,ho9.plain⟩
theorem aA7(s p:C9)(w:B6):I6 123 #[.string (bs s),.string (bs p)] w (.bool (V0 s p)):=by
 refine J5 func123 O ntmps123 O<|A3<|A5 O<|B4 O<|n4 O<|A4 O<|n4 O<|O1 O<|A4 O<|Mx O O (λz0=>?_) (λz0=>?_);refine B3 O<|A4 O<|B3 O<|A4 O<|B3 O<|n4 O<|B3 O<|B9 (NW (by kernel_rfl) O O (by omega)) O<|B3 O<|A4 O<|B3 O<|L4 O<|K8 O<|A5 O<|D4<|E4 O λw9 ho9=>?_;rotate_left;refine D2 O<|D2 O<|D2 O<|D2 O<|D2 O<|D2 O<|G4 O<|A5 O<|D4<|E4 O λw9 ho9=>?_;rotate_left
 all_goals
  refine⟨d8 ?_,ho9.plain⟩;simp[V0];omega
theorem Ij(s p:C9)(w:B6):I6 74 #[.string (bs s),.string (bs p)] w (.bool (V0 s p)):=by
 refine J5 func74 O ntmps74 O<|A3<|A5 O<|B4 O<|A4 O<|F3 123 (A7 O) (λw ho=>aA7 _ _ w) O<|A5 O<|D4<|E4 O λw9 ho9=>?_;exact⟨rfl,ho9.plain⟩
theorem VL(k:C9)(w:B6)(hG:j0 w):I6 151 #[.string (bs k)] w (.int .i64 (OX k)):=by
 refine J5 func151 O ntmps151 O ?_;have hr:=WQ k 0;have hp:FO k=true->0<k.length:=wL;refine A3<|A5 O<|B5<|A4 O<|F3 168 (A7 O) (λw ho=>Lp _ w (ho.Q8 hG id)) O<|J7 O<|A6<|fO O (λz0=>?_) (λz0=>?_);refine A3<|A5 O<|D4<|K0<|E4 O λw9 ho9=>?_;rotate_left;refine D6<|B4 O<|Li O (by(have:=hp (by assumption);simp;omega))<|B9 (dR (by kernel_rfl) (by kernel_rfl) O (by(have:=hp (by assumption);simp;omega))) O<|B9 (qE O O (by(have:=hp (by assumption);simp;omega))) O<|A5 O<|D4<|E4 O λw9 ho9=>?_;rotate_left
 all_goals exact⟨by simp_all[OX],ho9.plain⟩
theorem Qe:∀(a b:C9),Op.bytesLess a b= !(Op.bytesLess b a||decide (b=a))
 |[],[]=>by simp[Op.bytesLess]
 |[],_::_=>by simp[Op.bytesLess]
 |_::_,[]=>by simp[Op.bytesLess]
 |x::a,y::b=>by
  have ih:=Qe a b;rw[Op.bytesLess,Op.bytesLess,ih];by_cases h:x=y
  ·subst h;have:¬x<x:=by simp[ME]
   simp[this]
  ·have h':y≠x:=λe=>h e.symm;have:decide (x<y)= !decide (y<x):=by
    rw[MA];have hn:x.toNat≠y.toNat:=λe=>h (Rk.1 e);simp[ME,UInt8.le_iff_toNat_le];omega
   have hb:(x==y)=false:=by simp[h]
   have hb':(y==x)=false:=by simp[h']
   rw[this,hb,hb'];simp[h']
end
theorem RA:∀(a b c:C9),Op.bytesLess a b=true->Op.bytesLess b c=true->Op.bytesLess a c=true
 |_,_,[],_,h=>by simp[Op.bytesLess] at h
 |_,[],_::_,h,_=>by simp[Op.bytesLess] at h
 |[],_::_,_::_,_,_=>rfl
 |x::a,y::b,z::c,h1,h2=>by
  rw[Op.bytesLess] at h1 h2⊢;simp only[Kf,j1,decide_eq_true_eq,beq_iff_eq,ME] at h1 h2⊢;rcases h1 with h1|⟨rfl,h1⟩
  ·rcases h2 with h2|⟨rfl,h2⟩
   ·left;omega
   ·left;exact h1
  ·rcases h2 with h2|⟨rfl,h2⟩
   ·left;exact h2
   ·right;exact⟨rfl,RA a b c h1 h2⟩
theorem Qz(a:C9):Op.bytesLess a a=false:=by
 have:=Qe a a;cases h:Op.bytesLess a a<;>simp[h] at this⊢
theorem dD{s p:C9}:V0 s p=true↔∃r,s=p++r:=by
 unfold V0;simp only[j1,decide_eq_true_eq];constructor
 ·rintro⟨_,h⟩;exact⟨s.drop p.length,by have:=FZ p.length s;rw[h] at this;exact this.symm⟩
 ·rintro⟨r,rfl⟩;simp
section
attribute [local irreducible] F8 D3 Exit.then Exit.inBlock Exit.noGoto wpQuiet Calls fin At G9 L3 L7 RQ
def Ar(c:Int):Bool:=(decide (97<=c)&&decide (c<=122))||decide (c=95)
def Z1(c:Int):Bool:=decide (48<=c)&&decide (c<=57)
def k7(c:Int):Bool:=Ar c||Z1 c
def AH(c:Int):Bool:=decide (c≠10)
def NF(c:Int):Int:=if c=34\/c=92 then c else if c=110 then 10 else 0
theorem MY(c:Int)(w:B6):I6 44 #[.int .u8 c] w (.bool (Ar c)):=by
 refine J5 func44 O ntmps44 O ?_;by_cases h1:97<=c
 ·by_cases h2:c<=122
  ·exact A3<|A5 O<|B4 O<|O1 O<|A4 O<|F9 5 true O (decide_eq_true (by omega))<|B3 O<|A4 O<|B3 O<|Hp O<|K8 O<|A4 O<|F9 9 true O (decide_eq_true (by omega))<|D2 O<|D2 O<|K8 O<|A5 O<|D4<|E4 O λw9 ho9=>⟨d8 (by simp[Ar,h1,h2]),ho9.plain⟩
  ·exact A3<|A5 O<|B4 O<|O1 O<|A4 O<|F9 5 true O (decide_eq_true (by omega))<|B3 O<|A4 O<|B3 O<|Hp O<|K8 O<|A4 O<|F9 9 false O (decide_eq_false (by omega))<|B3 O<|A4 O<|B3 O<|H5 O<|G4 O<|A5 O<|D4<|E4 O λw9 ho9=>⟨d8 (by simp[Ar,h1,h2]),ho9.plain⟩
 ·exact A3<|A5 O<|B4 O<|O1 O<|A4 O<|F9 5 false O (decide_eq_false (by omega))<|D2 O<|D2 O<|G4 O<|A4 O<|B3 O<|A4 O<|B3 O<|H5 O<|G4 O<|A5 O<|D4<|E4 O λw9 ho9=>⟨d8 (by simp[Ar,h1]),ho9.plain⟩
theorem ON(c:Int)(w:B6):I6 46 #[.int .u8 c] w (.bool (Z1 c)):=by
 refine J5 func46 O ntmps46 O ?_;by_cases h1:48<=c
 ·exact A3<|A5 O<|B4 O<|O1 O<|A4 O<|F9 5 true O (decide_eq_true (by omega))<|B3 O<|A4 O<|B3 O<|Hp O<|K8 O<|A5 O<|D4<|E4 O λw9 ho9=>⟨d8 (by simp[Z1,h1]),ho9.plain⟩
 ·exact A3<|A5 O<|B4 O<|O1 O<|A4 O<|F9 5 false O (decide_eq_false (by omega))<|D2 O<|D2 O<|G4 O<|A5 O<|D4<|E4 O λw9 ho9=>⟨d8 (by simp[Z1,h1]),ho9.plain⟩
theorem dH(c:Int)(w:B6):I6 94 #[.int .u8 c] w (.bool (AH c)):=by
 refine J5 func94 O ntmps94 O<|A3<|A5 O<|B4 O<|J3 O<|A5 O<|D4<|E4 O λw9 ho9=>?_;exact⟨d8 (by simp[AH]),ho9.plain⟩
theorem kJ(c:Int)(w:B6):I6 95 #[.int .u8 c] w (.bool (k7 c)):=by
 refine J5 func95 O ntmps95 O ?_;cases h:Ar c
 ·exact A3<|A5 O<|B4 O<|F3 44 (A7 O) (λw ho=>MY c w) O<|A4 O<|F9 5 false O (by exact h)<|B3 O<|A4 O<|B3 O<|F3 46 (A7 O) (λw ho=>ON c w) O<|G4 O<|A5 O<|D4<|E4 O λw9 ho9=>⟨d8 (by simp[k7,h]),ho9.plain⟩
 ·exact A3<|A5 O<|B4 O<|F3 44 (A7 O) (λw ho=>MY c w) O<|A4 O<|F9 5 true O (by exact h)<|D2 O<|D2 O<|K8 O<|A5 O<|D4<|E4 O λw9 ho9=>⟨d8 (by simp[k7,h]),ho9.plain⟩
theorem sO(c:Int)(w:B6):I6 99 #[.int .u8 c] w (.int .u8 (NF c)):=by
 refine J5 func99 O ntmps99 O ?_;by_cases h1:c=34
 ·exact A3<|A5 O<|B5<|A4 O<|A6<|C7<|B5<|Q9 O (by omega)<|D6<|E7 O (by omega)<|B4 O<|A5 O<|K3<|E4 O λw9 ho9=>⟨by rw[NF,if_pos (.inl h1)],ho9.plain⟩
 by_cases h2:c=92
 ·exact A3<|A5 O<|B5<|A4 O<|A6<|C7<|B5<|C3 O (by omega)<|C5<|Q9 O (by omega)<|B4 O<|A5 O<|K3<|E4 O λw9 ho9=>⟨by rw[NF,if_pos (.inr h2)],ho9.plain⟩
 by_cases h3:c=110
 ·exact A3<|A5 O<|B5<|A4 O<|A6<|C7<|B5<|C3 O (by omega)<|C5<|C3 O (by omega)<|A3<|Q9 O (by omega)<|A3<|A5 O<|K3<|E4 O λw9 ho9=>⟨by rw[NF,if_neg (by omega),if_pos h3],ho9.plain⟩
 ·exact A3<|A5 O<|B5<|A4 O<|A6<|C7<|B5<|C3 O (by omega)<|C5<|C3 O (by omega)<|A3<|C3 O (by omega)<|P5<|F4<|E2<|A3<|A5 O<|D4<|E4 O λw9 ho9=>⟨by rw[NF,if_neg (by omega),if_neg h3],ho9.plain⟩
abbrev LX:Nat:=80
def lexB(g:Nat)(s:List UInt8)(n:Nat)(lv:Value):C2:=.B1 g LX #[.string (bs s),.int .i64 n,lv]
def P3(p:Int->Bool)(l:List UInt8):List UInt8:=l.takeWhile λb=>p (b.toNat:Int)
theorem OE(s:C9)(n j:Nat):J6 (s.drop n) j=J6 s (n+j):=by simp[J6,List.getD]
theorem lV(p:Int->Bool):∀l,(P3 p l).length<=l.length
 |[]=>by simp[P3]
 |b::l=>by
  have:=lV p l;unfold P3 at this⊢;rw[JD];split<;>simp<;>omega
theorem gI(p:Int->Bool):∀l,l.take (P3 p l).length=P3 p l
 |[]=>by simp[P3]
 |b::l=>by
  have:=gI p l;unfold P3 at this⊢;rw[JD];split<;>simp[this]
theorem TR(p:Int->Bool):∀(l:C9) (j:Nat),j<(P3 p l).length->p (J6 l j)=true
 |[],j,h=>by simp[P3] at h
 |b::l,j,h=>by
  unfold P3 at h;rw[JD] at h;split at h
  ·rename_i hb;cases j with
   |zero=>rw[LY _ _ (by simp)];exact hb
   |succ j=>
    have:=TR p l j (by simpa[P3] using h);simpa[J6,List.getD] using this
  ·simp at h
theorem TM(p:Int->Bool):∀(l:C9),(P3 p l).length<l.length->p (J6 l (P3 p l).length)=false
 |[],h=>by simp[P3] at h
 |b::l,h=>by
  unfold P3 at h⊢;rw[JD] at h⊢;split
  ·rename_i hb;rw[if_pos hb] at h;have:=TM p l (by simpa[P3] using h);simpa[P3,J6,List.getD] using this
  ·rename_i hb;rw[LY _ _ (by simp)];simpa using hb
theorem LC(p:Int->Bool)(s:C9)(n:Nat)(hn:n<=s.length):n+(P3 p (s.drop n)).length<=s.length:=by
 have:=lV p (s.drop n);rw[EB] at this;omega
theorem Ww(p:Int->Bool)(s:C9)(n:Nat)(hn:n<=s.length):(s.take (n+(P3 p (s.drop n)).length)).drop n=P3 p (s.drop n):=by
 rw[Uj,show n+(P3 p (s.drop n)).length-n=(P3 p (s.drop n)).length by omega,gI]
theorem qZ(g n:Nat)(s:C9)(lv:Value)(w:B6)(hn:n<=s.length)(hs:s.length<=5000)(hlv:lv.oneCell'=true)(ho:B7 (J1 w [lexB g s n lv]) [lexB g s n lv] w):
  Calls prog 93 #[.pointer (some ⟨g,0,none⟩),.func (.func 94) #[] #[]] w λe w'=>e=.returned (.string (bs (P3 AH (s.drop n))))/\O0 w (λk=>k∈F1 [lexB g s n lv]) [lexB g s (n+(P3 AH (s.drop n)).length) lv] w':=by
 have hge:=LC AH s n hn;have hsl:=Ww AH s n hn;have hlt:∀m,n<=m->m<n+(P3 AH (s.drop n)).length->AH (J6 s m)=true:=λm h1 h2=>by
  have:=TR AH (s.drop n) (m-n) (by omega);rwa[OE,show n+(m-n)=m by omega] at this
 have hat:n+(P3 AH (s.drop n)).length<s.length->AH (J6 s (n+(P3 AH (s.drop n)).length))=false:=λh=>by
  have:=TM AH (s.drop n) (by rw[EB];omega);rwa[OE] at this
 refine G7 ho func93 O ntmps93 O ?_;generalize P3 AH (s.drop n)=T at*;unfold lexB at*;refine A3<|A5 O<|B4 O<|E5 O<|B2 0 O<|A5 O<|C8<|C7 ?_;rotate_left;refine l9 (σ:=Nat) (λm=>n<=m/\m<=n+T.length) (λm=>[(0,.pointer (some ⟨g,0,none⟩)),(1,.func (.func 94) #[] #[]),(5,.int .i64 n)]) (λm=>[.B1 g LX #[.string (bs s),.int .i64 m,lv]]) (λm=>n+T.length-m)
  (λw ho=>⟨n,⟨L6 _,Un _ _⟩,⟨rfl,rfl,rfl,trivial⟩,ho⟩) ?_
 rintro m ⟨hm1,hm2⟩;by_cases hml:m<s.length
 ·by_cases hmT:m<n+T.length
  ·have hp:=hlt m hm1 hmT;refine C8<|C8<|R2 (by kernel_rfl)<|G3 O<|K2 O<|I1 O<|J4 0 O<|G3 O<|K2 O<|I1 O<|J4 0 O<|t8 O<|AD O<|G3 O<|Aw (t:=20) (d:=true) O (decide_eq_true (by omega))<|I5 O<|G3 O<|I5 O<|G3 O<|I5 O<|K2 O<|I5 O<|I1 O<|I5 O<|J4 0 O<|I5 O<|G3 O<|I5 O<|K2 O<|I5 O<|I1 O<|I5 O<|J4 0 O<|I5 O<|AX O (by omega)<|I5 O<|EE (f:=94) (CB O) (λw ho=>dH _ w) O O<|Ek O<|R4<|E2 ?_;refine k8 O (by exact hp)<|D6<|C7<|C5<|A4 O<|E5 O<|B2 0 O<|N6 O (by omega)<|E5 O<|D9 O<|N4 0 O<|H6<|F4<|E2 ?_;rotate_left;refine W5 λw ho=>⟨m+1,⟨by omega,by omega⟩,by omega,⟨rfl,rfl,rfl,trivial⟩,rfl,ho⟩
  ·obtain rfl:m=n+T.length:=by omega
   have hp:=hat hml;refine C8<|C8<|R2 (by kernel_rfl)<|G3 O<|K2 O<|I1 O<|J4 0 O<|G3 O<|K2 O<|I1 O<|J4 0 O<|t8 O<|AD O<|G3 O<|Aw (t:=20) (d:=true) O (decide_eq_true (by omega))<|I5 O<|G3 O<|I5 O<|G3 O<|I5 O<|K2 O<|I5 O<|I1 O<|I5 O<|J4 0 O<|I5 O<|G3 O<|I5 O<|K2 O<|I5 O<|I1 O<|I5 O<|J4 0 O<|I5 O<|AX O (by omega)<|I5 O<|EE (f:=94) (CB O) (λw ho=>dH _ w) O O<|Ek O<|R4<|E2 ?_;refine Y7 O (by exact hp)<|S4<|J0<|J0<|S5<|E2<|C8<|R2 (by kernel_rfl)<|G3 O<|K2 O<|I1 O<|J4 0 O<|G3 O<|G3 O<|K2 O<|I1 O<|J4 0 O<|r5 (PZ (by kernel_rfl) O O O (by omega)) O<|o6 O<|R4<|E2<|D4<|E4 O λw9 ho9=>?_;exact⟨by rw[show List.drop ((n:Int)).toNat (List.take (((n+T.length:Nat):Int)).toNat s)=T from hsl],_,_,ho9⟩
 ·obtain rfl:m=n+T.length:=by omega
  refine C8<|C8<|R2 (by kernel_rfl)<|G3 O<|K2 O<|I1 O<|J4 0 O<|G3 O<|K2 O<|I1 O<|J4 0 O<|t8 O<|AD O<|G3 O<|Aw (t:=20) (d:=false) O (decide_eq_false (by omega))<|P1 O<|P1 O<|P1 O<|P1 O<|P1 O<|P1 O<|P1 O<|P1 O<|P1 O<|P1 O<|P1 O<|Jw O<|R4<|E2<|M8 O<|S4<|J0<|J0<|S5<|E2<|C8<|R2 (by kernel_rfl)<|G3 O<|K2 O<|I1 O ?_;refine J4 0 O<|G3 O<|G3 O<|K2 O<|I1 O<|J4 0 O<|r5 (PZ (by kernel_rfl) O O O (by omega)) O<|o6 O<|R4<|E2<|D4<|E4 O λw9 ho9=>?_;exact⟨by rw[show List.drop ((n:Int)).toNat (List.take (((n+T.length:Nat):Int)).toNat s)=T from hsl],_,_,ho9⟩
theorem zX(g n:Nat)(s:C9)(lv:Value)(w:B6)(hn:n<=s.length)(hs:s.length<=5000)(hlv:lv.oneCell'=true)(ho:B7 (J1 w [lexB g s n lv]) [lexB g s n lv] w):
  Calls prog 93 #[.pointer (some ⟨g,0,none⟩),.func (.func 95) #[] #[]] w λe w'=>e=.returned (.string (bs (P3 k7 (s.drop n))))/\O0 w (λk=>k∈F1 [lexB g s n lv]) [lexB g s (n+(P3 k7 (s.drop n)).length) lv] w':=by
 have hge:=LC k7 s n hn;have hsl:=Ww k7 s n hn;have hlt:∀m,n<=m->m<n+(P3 k7 (s.drop n)).length->k7 (J6 s m)=true:=λm h1 h2=>by
  have:=TR k7 (s.drop n) (m-n) (by omega);rwa[OE,show n+(m-n)=m by omega] at this
 have hat:n+(P3 k7 (s.drop n)).length<s.length->k7 (J6 s (n+(P3 k7 (s.drop n)).length))=false:=λh=>by
  have:=TM k7 (s.drop n) (by rw[EB];omega);rwa[OE] at this
 refine G7 ho func93 O ntmps93 O ?_;generalize P3 k7 (s.drop n)=T at*;unfold lexB at*;refine A3<|A5 O<|B4 O<|E5 O<|B2 0 O<|A5 O<|C8<|C7 ?_;rotate_left;refine l9 (σ:=Nat) (λm=>n<=m/\m<=n+T.length) (λm=>[(0,.pointer (some ⟨g,0,none⟩)),(1,.func (.func 95) #[] #[]),(5,.int .i64 n)]) (λm=>[.B1 g LX #[.string (bs s),.int .i64 m,lv]]) (λm=>n+T.length-m)
  (λw ho=>⟨n,⟨L6 _,Un _ _⟩,⟨rfl,rfl,rfl,trivial⟩,ho⟩) ?_
 rintro m ⟨hm1,hm2⟩;by_cases hml:m<s.length
 ·by_cases hmT:m<n+T.length
  ·have hp:=hlt m hm1 hmT;refine C8<|C8<|R2 (by kernel_rfl)<|G3 O<|K2 O<|I1 O<|J4 0 O<|G3 O<|K2 O<|I1 O<|J4 0 O<|t8 O<|AD O<|G3 O<|Aw (t:=20) (d:=true) O (decide_eq_true (by omega))<|I5 O<|G3 O<|I5 O<|G3 O<|I5 O<|K2 O<|I5 O<|I1 O<|I5 O<|J4 0 O<|I5 O<|G3 O<|I5 O<|K2 O<|I5 O<|I1 O<|I5 O<|J4 0 O<|I5 O<|AX O (by omega)<|I5 O<|EE (f:=95) (CB O) (λw ho=>kJ _ w) O O<|Ek O<|R4<|E2 ?_;refine k8 O (by exact hp)<|D6<|C7<|C5<|A4 O<|E5 O<|B2 0 O<|N6 O (by omega)<|E5 O<|D9 O<|N4 0 O<|H6<|F4<|E2 ?_;rotate_left;refine W5 λw ho=>⟨m+1,⟨by omega,by omega⟩,by omega,⟨rfl,rfl,rfl,trivial⟩,rfl,ho⟩
  ·obtain rfl:m=n+T.length:=by omega
   have hp:=hat hml;refine C8<|C8<|R2 (by kernel_rfl)<|G3 O<|K2 O<|I1 O<|J4 0 O<|G3 O<|K2 O<|I1 O<|J4 0 O<|t8 O<|AD O<|G3 O<|Aw (t:=20) (d:=true) O (decide_eq_true (by omega))<|I5 O<|G3 O<|I5 O<|G3 O<|I5 O<|K2 O<|I5 O<|I1 O<|I5 O<|J4 0 O<|I5 O<|G3 O<|I5 O<|K2 O<|I5 O<|I1 O<|I5 O<|J4 0 O<|I5 O<|AX O (by omega)<|I5 O<|EE (f:=95) (CB O) (λw ho=>kJ _ w) O O<|Ek O<|R4<|E2 ?_;refine Y7 O (by exact hp)<|S4<|J0<|J0<|S5<|E2<|C8<|R2 (by kernel_rfl)<|G3 O<|K2 O<|I1 O<|J4 0 O<|G3 O<|G3 O<|K2 O<|I1 O<|J4 0 O<|r5 (PZ (by kernel_rfl) O O O (by omega)) O<|o6 O<|R4<|E2<|D4<|E4 O λw9 ho9=>?_;exact⟨by rw[show List.drop ((n:Int)).toNat (List.take (((n+T.length:Nat):Int)).toNat s)=T from hsl],_,_,ho9⟩
 ·obtain rfl:m=n+T.length:=by omega
  refine C8<|C8<|R2 (by kernel_rfl)<|G3 O<|K2 O<|I1 O<|J4 0 O<|G3 O<|K2 O<|I1 O<|J4 0 O<|t8 O<|AD O<|G3 O<|Aw (t:=20) (d:=false) O (decide_eq_false (by omega))<|P1 O<|P1 O<|P1 O<|P1 O<|P1 O<|P1 O<|P1 O<|P1 O<|P1 O<|P1 O<|P1 O<|Jw O<|R4<|E2<|M8 O<|S4<|J0<|J0<|S5<|E2<|C8<|R2 (by kernel_rfl)<|G3 O<|K2 O<|I1 O ?_;refine J4 0 O<|G3 O<|G3 O<|K2 O<|I1 O<|J4 0 O<|r5 (PZ (by kernel_rfl) O O O (by omega)) O<|o6 O<|R4<|E2<|D4<|E4 O λw9 ho9=>?_;exact⟨by rw[show List.drop ((n:Int)).toNat (List.take (((n+T.length:Nat):Int)).toNat s)=T from hsl],_,_,ho9⟩
theorem ag3(g n:Nat)(s:C9)(lv:Value)(w:B6)(hn:n<=s.length)(hs:s.length<=5000)(hlv:lv.oneCell'=true)(ho:B7 (J1 w [lexB g s n lv]) [lexB g s n lv] w):
  Calls prog 93 #[.pointer (some ⟨g,0,none⟩),.func (.func 46) #[] #[]] w λe w'=>e=.returned (.string (bs (P3 Z1 (s.drop n))))/\O0 w (λk=>k∈F1 [lexB g s n lv]) [lexB g s (n+(P3 Z1 (s.drop n)).length) lv] w':=by
 have hge:=LC Z1 s n hn;have hsl:=Ww Z1 s n hn;have hlt:∀m,n<=m->m<n+(P3 Z1 (s.drop n)).length->Z1 (J6 s m)=true:=λm h1 h2=>by
  have:=TR Z1 (s.drop n) (m-n) (by omega);rwa[OE,show n+(m-n)=m by omega] at this
 have hat:n+(P3 Z1 (s.drop n)).length<s.length->Z1 (J6 s (n+(P3 Z1 (s.drop n)).length))=false:=λh=>by
  have:=TM Z1 (s.drop n) (by rw[EB];omega);rwa[OE] at this
 refine G7 ho func93 O ntmps93 O ?_;generalize P3 Z1 (s.drop n)=T at*;unfold lexB at*;refine A3<|A5 O<|B4 O<|E5 O<|B2 0 O<|A5 O<|C8<|C7 ?_;rotate_left;refine l9 (σ:=Nat) (λm=>n<=m/\m<=n+T.length) (λm=>[(0,.pointer (some ⟨g,0,none⟩)),(1,.func (.func 46) #[] #[]),(5,.int .i64 n)]) (λm=>[.B1 g LX #[.string (bs s),.int .i64 m,lv]]) (λm=>n+T.length-m)
  (λw ho=>⟨n,⟨L6 _,Un _ _⟩,⟨rfl,rfl,rfl,trivial⟩,ho⟩) ?_
 rintro m ⟨hm1,hm2⟩;by_cases hml:m<s.length
 ·by_cases hmT:m<n+T.length
  ·have hp:=hlt m hm1 hmT;refine C8<|C8<|R2 (by kernel_rfl)<|G3 O<|K2 O<|I1 O<|J4 0 O<|G3 O<|K2 O<|I1 O<|J4 0 O<|t8 O<|AD O<|G3 O<|Aw (t:=20) (d:=true) O (decide_eq_true (by omega))<|I5 O<|G3 O<|I5 O<|G3 O<|I5 O<|K2 O<|I5 O<|I1 O<|I5 O<|J4 0 O<|I5 O<|G3 O<|I5 O<|K2 O<|I5 O<|I1 O<|I5 O<|J4 0 O<|I5 O<|AX O (by omega)<|I5 O<|EE (f:=46) (CB O) (λw ho=>ON _ w) O O<|Ek O<|R4<|E2 ?_;refine k8 O (by exact hp)<|D6<|C7<|C5<|A4 O<|E5 O<|B2 0 O<|N6 O (by omega)<|E5 O<|D9 O<|N4 0 O<|H6<|F4<|E2 ?_;rotate_left;refine W5 λw ho=>⟨m+1,⟨by omega,by omega⟩,by omega,⟨rfl,rfl,rfl,trivial⟩,rfl,ho⟩
  ·obtain rfl:m=n+T.length:=by omega
   have hp:=hat hml;refine C8<|C8<|R2 (by kernel_rfl)<|G3 O<|K2 O<|I1 O<|J4 0 O<|G3 O<|K2 O<|I1 O<|J4 0 O<|t8 O<|AD O<|G3 O<|Aw (t:=20) (d:=true) O (decide_eq_true (by omega))<|I5 O<|G3 O<|I5 O<|G3 O<|I5 O<|K2 O<|I5 O<|I1 O<|I5 O<|J4 0 O<|I5 O<|G3 O<|I5 O<|K2 O<|I5 O<|I1 O<|I5 O<|J4 0 O<|I5 O<|AX O (by omega)<|I5 O<|EE (f:=46) (CB O) (λw ho=>ON _ w) O O<|Ek O<|R4<|E2 ?_;refine Y7 O (by exact hp)<|S4<|J0<|J0<|S5<|E2<|C8<|R2 (by kernel_rfl)<|G3 O<|K2 O<|I1 O<|J4 0 O<|G3 O<|G3 O<|K2 O<|I1 O<|J4 0 O<|r5 (PZ (by kernel_rfl) O O O (by omega)) O<|o6 O<|R4<|E2<|D4<|E4 O λw9 ho9=>?_;exact⟨by rw[show List.drop ((n:Int)).toNat (List.take (((n+T.length:Nat):Int)).toNat s)=T from hsl],_,_,ho9⟩
 ·obtain rfl:m=n+T.length:=by omega
  refine C8<|C8<|R2 (by kernel_rfl)<|G3 O<|K2 O<|I1 O<|J4 0 O<|G3 O<|K2 O<|I1 O<|J4 0 O<|t8 O<|AD O<|G3 O<|Aw (t:=20) (d:=false) O (decide_eq_false (by omega))<|P1 O<|P1 O<|P1 O<|P1 O<|P1 O<|P1 O<|P1 O<|P1 O<|P1 O<|P1 O<|P1 O<|Jw O<|R4<|E2<|M8 O<|S4<|J0<|J0<|S5<|E2<|C8<|R2 (by kernel_rfl)<|G3 O<|K2 O<|I1 O ?_;refine J4 0 O<|G3 O<|G3 O<|K2 O<|I1 O<|J4 0 O<|r5 (PZ (by kernel_rfl) O O O (by omega)) O<|o6 O<|R4<|E2<|D4<|E4 O λw9 ho9=>?_;exact⟨by rw[show List.drop ((n:Int)).toNat (List.take (((n+T.length:Nat):Int)).toNat s)=T from hsl],_,_,ho9⟩
def j6:Bool->List UInt8->Nat
 |_,[]=>0
 |true,b::l=>if b=10 then 1+j6 false l else 1+j6 true l
 |false,b::l=>if b=32\/b=9\/b=10 then 1+j6 false l else if b=35 then 1+j6 true l else 0
theorem eP:∀l:List UInt8,j6 true l=(P3 AH l).length+j6 false (l.drop (P3 AH l).length)
 |[]=>by simp[j6,P3]
 |b::l=>by
  have ih:=eP l;unfold P3 at ih⊢;rw[j6,JD];by_cases hb:b=10
  ·subst hb;simp[j6,AH]
  ·have:AH (b.toNat:Int)=true:=by
    simp only[AH,decide_eq_true_eq];intro e;apply hb;apply Rk.1;have:b.toNat=10:=by omega
    simpa using this
   rw[if_neg hb,if_pos this,ih];simp only[T3,MF];omega
theorem LV:∀(c:Bool) (l:C9),j6 c l<=l.length
 |c,[]=>by simp[j6]
 |true,b::l=>by
  have h1:=LV false l;have h2:=LV true l;rw[j6];split<;>simp<;>omega
 |false,b::l=>by
  have h1:=LV false l;have h2:=LV true l;rw[j6];split
  ·simp;omega
  ·split<;>simp<;>omega
theorem Jm{s:C9}{m:Nat}(h:m<s.length):∃b,s.drop m=b::s.drop (m+1)/\J6 s m=(b.toNat:Int):=by
 exact⟨s[m],MG h,LY s m h⟩
theorem Fx{b:UInt8}{k:Nat}(h:(b.toNat:Int)=k)(hk:k<256):b=UInt8.ofNat k:=by
 apply Rk.1;simp;omega
theorem ay9{s:C9}{m:Nat}(h:m<s.length)(hb:J6 s m=32\/J6 s m=9\/J6 s m=10):j6 false (s.drop m)=1+j6 false (s.drop (m+1)):=by
 obtain⟨b,h1,h2⟩:=Jm h;rw[h1,j6,if_pos];rw[h2] at hb;rcases hb with hb|hb|hb
 ·exact .inl (Fx (k:=32) hb (by decide))
 ·exact .inr (.inl (Fx (k:=9) hb (by decide)))
 ·exact .inr (.inr (Fx (k:=10) hb (by decide)))
theorem au3{s:C9}{m:Nat}(h:m<s.length)(hb:J6 s m=35):j6 false (s.drop m)=(P3 AH (s.drop m)).length+j6 false (s.drop (m+(P3 AH (s.drop m)).length))/\0<(P3 AH (s.drop m)).length:=by
 obtain⟨b,h1,h2⟩:=Jm h;rw[h2] at hb;obtain rfl:=Fx (k:=35) hb (by decide);have e:j6 false (s.drop m)=j6 true (s.drop m):=by
  rw[h1];rfl
 rw[e,eP,JB];refine⟨rfl,?_⟩;rw[h1];show 0<(List.takeWhile (λb:UInt8=>AH (b.toNat:Int)) ((35:UInt8)::_)).length;rw[JD,if_pos (by decide)];simp
theorem aW{s:C9}{m:Nat}(hb:m<s.length->J6 s m≠32/\J6 s m≠9/\J6 s m≠10/\J6 s m≠35):j6 false (s.drop m)=0:=by
 by_cases h:m<s.length
 ·obtain⟨b,h1,h2⟩:=Jm h;have:=hb h;rw[h2] at this;rw[h1,j6,if_neg,if_neg]
  ·rintro rfl;exact this.2.2.2 rfl
  ·rintro(rfl|rfl|rfl)
   ·exact this.1 rfl
   ·exact this.2.1 rfl
   ·exact this.2.2.1 rfl
 ·rw[JE (by omega)];rfl
theorem sR(g n:Nat)(s:C9)(lv:Value)(w:B6)(hn:n<=s.length)(hs:s.length<=5000)(hlv:lv.oneCell'=true)(ho:B7 (J1 w [lexB g s n lv]) [lexB g s n lv] w):
  Calls prog 42 #[.pointer (some ⟨g,0,none⟩)] w λe w'=>e=.returned (.tuple #[])/\O0 w (λk=>k∈F1 [lexB g s n lv]) [lexB g s (n+j6 false (s.drop n)) lv] w':=by
 have hle:=LV false (s.drop n);rw[EB] at hle;refine G7 ho func42 O ntmps42 O ?_;obtain⟨T,hT⟩:∃T,T=n+j6 false (s.drop n):=⟨_,rfl⟩
 rw[<-hT];have hTs:T<=s.length:=by omega
 refine C7 ?_;rotate_left;refine l9 (σ:=Nat) (λm=>n<=m/\m<=s.length/\m+j6 false (s.drop m)=T) (λm=>[(0,.pointer (some ⟨g,0,none⟩))]) (λm=>[lexB g s m lv]) (λm=>s.length-m)
  (λw ho=>⟨n,⟨L6 _,hn,hT.symm⟩,⟨rfl,trivial⟩,ho⟩) ?_
 rintro m ⟨hm1,hm2,hm3⟩;by_cases hml:m<s.length
 ·by_cases hb:J6 s m=32\/J6 s m=9\/J6 s m=10
  ·have hst:=ay9 hml hb;unfold lexB;by_cases h1:J6 s m=32
   ·refine C8<|C8<|R2 (by kernel_rfl)<|G3 O<|K2 O<|I1 O<|J4 0 O<|G3 O<|K2 O<|I1 O<|J4 0 O<|t8 O<|AD O<|R4<|E2<|E7 O (by omega)<|D6<|CN<|R2 (by kernel_rfl)<|G3 O<|K2 O<|I1 O<|J4 0 O<|G3 O<|K2 O<|I1 O<|J4 0 O<|AX O (by omega)<|R4<|E2<|C7<|B5<|Q9 O (by exact h1)<|D6<|E7 O (by exact h1)<|C5<|A4 O<|E5 O<|B2 0 O<|N6 O (by omega) ?_;refine E5 O<|D9 O<|N4 0 O<|H6<|F4<|F4<|E2 ?_;rotate_left;refine W5 λw ho=>⟨m+1,⟨by omega,by omega,by omega⟩,by omega,⟨rfl,trivial⟩,rfl,ho⟩
   by_cases h2:J6 s m=9
   ·refine C8<|C8<|R2 (by kernel_rfl)<|G3 O<|K2 O<|I1 O<|J4 0 O<|G3 O<|K2 O<|I1 O<|J4 0 O<|t8 O<|AD O<|R4<|E2<|E7 O (by omega)<|D6<|CN<|R2 (by kernel_rfl)<|G3 O<|K2 O<|I1 O<|J4 0 O<|G3 O<|K2 O<|I1 O<|J4 0 O<|AX O (by omega)<|R4<|E2<|C7<|B5<|C3 O (by exact h1)<|A3<|Q9 O (by exact h2)<|D6<|E7 O (by exact h2)<|C5<|A4 O<|E5 O ?_;refine B2 0 O<|N6 O (by omega)<|E5 O<|D9 O<|N4 0 O<|H6<|F4<|F4<|E2 ?_;rotate_left;refine W5 λw ho=>⟨m+1,⟨by omega,by omega,by omega⟩,by omega,⟨rfl,trivial⟩,rfl,ho⟩
   ·have h3:J6 s m=10:=by omega
    refine C8<|C8<|R2 (by kernel_rfl)<|G3 O<|K2 O<|I1 O<|J4 0 O<|G3 O<|K2 O<|I1 O<|J4 0 O<|t8 O<|AD O<|R4<|E2<|E7 O (by omega)<|D6<|CN<|R2 (by kernel_rfl)<|G3 O<|K2 O<|I1 O<|J4 0 O<|G3 O<|K2 O<|I1 O<|J4 0 O<|AX O (by omega)<|R4<|E2<|C7<|B5<|C3 O (by exact h1)<|A3<|C3 O (by exact h2)<|C5<|Q9 O (by exact h3)<|C5<|A4 O<|E5 O ?_;refine B2 0 O<|N6 O (by omega)<|E5 O<|D9 O<|N4 0 O<|H6<|F4<|F4<|E2 ?_;rotate_left;refine W5 λw ho=>⟨m+1,⟨by omega,by omega,by omega⟩,by omega,⟨rfl,trivial⟩,rfl,ho⟩
  ·have n1:¬J6 s m=32:=λh=>hb (.inl h);have n2:¬J6 s m=9:=λh=>hb (.inr (.inl h));have n3:¬J6 s m=10:=λh=>hb (.inr (.inr h));by_cases h4:J6 s m=35
   ·obtain⟨hst,hpos⟩:=au3 hml h4;have hge:=LC AH s m hm2;have cW:∀{w'},B7 (J1 w' [lexB g s m lv]) [lexB g s m lv] w'->Calls prog 93 #[.pointer (some ⟨g,0,none⟩),.func (.func 94) #[] #[]] w' λe w3=>∃_:Unit,e=.returned (.string (bs (P3 AH (s.drop m))))/\O0 w' (λk=>k∈F1 [lexB g s m lv]) [lexB g s (m+(P3 AH (s.drop m)).length) lv] w3:=λho=>(qZ g m s lv _ hm2 hs hlv ho).mono λe w3 h=>⟨(),h⟩
    generalize P3 AH (s.drop m)=T2 at*;unfold lexB at*;refine C8<|C8<|R2 (by kernel_rfl)<|G3 O<|K2 O<|I1 O<|J4 0 O<|G3 O<|K2 O<|I1 O<|J4 0 O<|t8 O<|AD O<|R4<|E2<|E7 O (by omega)<|D6<|CN<|R2 (by kernel_rfl)<|G3 O<|K2 O<|I1 O<|J4 0 O<|G3 O<|K2 O<|I1 O<|J4 0 O<|AX O (by omega)<|R4<|E2<|C7<|B5<|C3 O (by exact n1)<|A3<|C3 O (by exact n2)<|C5<|C3 O (by exact n3)<|A3<|Q9 O (by exact h4)<|C5 ?_;refine A4 O<|Dg (ι:=Unit) (f:=93) (H0:=[.B1 g LX #[.string (bs s),.int .i64 m,lv]]) (R:=[]) (λ_=>.string (bs T2)) (λ_=>[.B1 g LX #[.string (bs s),.int .i64 ((m+T2.length:Nat):Int),lv]]) O (A7 O) (λw _ ho=>cW ho) O O λ_=>H6<|F4<|F4<|E2 ?_;rotate_left;refine W5 λw ho=>⟨m+T2.length,⟨by omega,by omega,by omega⟩,by omega,⟨rfl,trivial⟩,rfl,ho⟩
   ·have hst:=aW (s:=s) (m:=m) (λ_=>by omega);have n1:¬J6 s m=32:=λh=>hb (.inl h);have n2:¬J6 s m=9:=λh=>hb (.inr (.inl h));have n3:¬J6 s m=10:=λh=>hb (.inr (.inr h));unfold lexB;refine C8<|C8<|R2 (by kernel_rfl)<|G3 O<|K2 O<|I1 O<|J4 0 O<|G3 O<|K2 O<|I1 O<|J4 0 O<|t8 O<|AD O<|R4<|E2<|E7 O (by omega)<|D6<|CN<|R2 (by kernel_rfl)<|G3 O<|K2 O<|I1 O<|J4 0 O<|G3 O<|K2 O<|I1 O<|J4 0 O<|AX O (by omega)<|R4<|E2<|C7<|B5<|C3 O (by exact n1)<|A3<|C3 O (by exact n2)<|C5<|C3 O (by exact n3)<|A3<|C3 O (by exact h4)<|D4 ?_;refine DO<|U3<|DO<|Ct O O λw9 ho9=>?_;obtain rfl:m=T:=by omega
    exact⟨rfl,_,_,ho9⟩
 ·have hst:=aW (s:=s) (m:=m) (λh=>absurd h hml);unfold lexB;refine C8<|C8<|R2 (by kernel_rfl)<|G3 O<|K2 O<|I1 O<|J4 0 O<|G3 O<|K2 O<|I1 O<|J4 0 O<|t8 O<|AD O<|R4<|E2<|E0 O (by omega)<|S4<|J0<|J0<|S5<|K7 O λw9 ho9=>?_;obtain rfl:m=T:=by omega
  exact⟨rfl,_,_,ho9⟩
def Cy:List (List UInt8):=[[97,98,111,114,116],[97,110,100],[100,101,108,101,116,101],[101,108,115,101],[102,97,108,115,101],[102,111,114],[103,101,116],[104,97,115],[105,102],[105,110],[108,101,110],[108,101,116],[110,105,108],[110,111,116],[111,114],[112,117,116],[114,101,112,101,97,116],[114,101,116,117,114,110],[115,99,97,110],[115,101,116],[115,104,111,119]]
def D1(L:List (List UInt8)):List Value:=L.map λb=>.string (bs b)
def Sb:List UInt8:=[116,114,117,101]
def BS(s:List UInt8):Bool:=Cy.contains s||decide (s=Sb)
theorem aa1:Mq prog 208=some (List.replicate 21 (.string (bs [])),1):=by kernel_rfl
theorem ag6(w:B6):I6 135 #[] w (.agg (D1 Cy).toArray):=by
 refine J5 func135 O ntmps135 O<|A3<|E3 Tryz.zeroValue208 O λgz0=>I0<|B9 (JI (cs:=D1 Cy) aa1 O O) O<|E8 0 ((D1 Cy).toArray) O<|A6<|D4<|EK (i:=0) (k:=21) O O O O (by kernel_rfl) O λw9 ho9=>?_;exact⟨rfl,ho9.plain⟩
theorem az9{L:List (List UInt8)}{i:Nat}{s:C9}(h:i<L.length):(L.take (i+1)).contains s=((L.take i).contains s||(L[i]==s)):=by
 rw[Rj h];simp only[List.contains_eq_any_beq,List.any_append,List.any_cons,List.any_nil,Bool.or_false];congr 1;rw[Bool.beq_comm]
theorem jH(s:C9)(w:B6):I6 96 #[.string (bs s)] w (.bool (BS s)):=by
 refine J5 func96 O ntmps96 O<|A3<|A5 O<|B5<|F3 135 (A7 O) (λw ho=>ag6 w) O<|A4 O<|A6<|C7 ?_;have hlen:(D1 Cy).length=21:=rfl;refine DG (λi:Nat=>i<=21/\(Cy.take i).contains s=false) (λi=>[(0,.string (bs s)),(5,.agg (D1 Cy).toArray),(6,.int .i64 i)]) (λi=>21-i) 0 ⟨R5 _,rfl⟩ ⟨rfl,rfl,rfl,trivial⟩ ?_;rintro i ⟨hi,hI⟩;by_cases hil:i<21
 ·have hget:(D1 Cy).toArray[i]?=some (.string (bs (Cy[i]'hil))):=by simp[D1,T8 (show i<Cy.length from hil)];rfl
  have hc:=az9 (L:=Cy) (s:=s) (show i<Cy.length from hil);generalize Cy[i]'hil=x at hget hc;by_cases hx:s=x
  ·refine A3<|H9 O<|A6<|C8<|E7 O (by omega)<|D6<|C8<|C7<|A3<|B9 (BZ (l:=21) (q:=i) (by kernel_rfl) O O hil hget) O<|A5 O<|B4 O<|A4 O<|L4 O<|A6<|E7 O (by omega)<|A3<|A5 O<|K3<|K0<|U3<|E4 O λw9 ho9=>?_;refine⟨d8 ?_,ho9.plain⟩;have:Cy.contains s=true:=by
    rw[Nj];have h2:(Cy.take (i+1)).contains s=true:=by rw[hc,hx];simp
    rw[Nj] at h2;exact YF h2
   rw[BS,this];rfl
  ·refine A3<|H9 O<|A6<|C8<|E7 O (by omega)<|D6<|C8<|C7<|A3<|B9 (BZ (l:=21) (q:=i) (by kernel_rfl) O O hil hget) O<|A5 O<|B4 O<|A4 O<|L4 O<|A6<|E0 O (by omega)<|P5<|F4<|E2<|C5<|N6 O (by omega)<|A4 O<|A6 ?_;rotate_left;refine DB (i+1) ⟨by omega,by rw[hc,hI];simpa using λe=>hx e.symm⟩ (by omega) ⟨rfl,rfl,rfl,trivial⟩
 ·obtain rfl:i=21:=by omega
  refine A3<|H9 O<|A6<|C8<|E0 O (by omega)<|S4<|J0<|J0<|S5<|E2<|B4 O<|L4 O<|A5 O<|D4<|E4 O λw9 ho9=>?_;refine⟨d8 ?_,ho9.plain⟩;have:Cy.contains s=false:=hI;rw[BS,this];rfl
abbrev TK:Nat:=82
structure G8 where
 kind:Int
 pos:Int
 s:List UInt8
 num:Int
 deriving DecidableEq
instance:Inhabited G8:=⟨⟨0,0,[],0⟩⟩
def K9(t:G8):List Value:=[.int .i64 t.kind,.int .i64 t.pos,.string (bs t.s),.int .i64 t.num]
def By(t:G8):Value:=.agg (K9 t).toArray
theorem Cz:Ae prog 82=some (K9 default,[(0,1),(1,1),(2,1),(3,1)]):=by kernel_rfl
def FA(T:List UInt8):G8×Int:=if BS T then(⟨5,0,T,0⟩,0) else if 16<T.length then(default,5) else(⟨1,0,T,0⟩,0)
theorem ah4(g n:Nat)(s:C9)(lv:Value)(w:B6)(hn:n<=s.length)(hs:s.length<=5000)(hlv:lv.oneCell'=true)(ho:B7 (J1 w [lexB g s n lv]) [lexB g s n lv] w):
  Calls prog 45 #[.pointer (some ⟨g,0,none⟩)] w λe w'=>e=.returned (.tuple #[By (FA (P3 k7 (s.drop n))).1,.int .i64 (FA (P3 k7 (s.drop n))).2])/\O0 w (λk=>k∈F1 [lexB g s n lv]) [lexB g s (n+(P3 k7 (s.drop n)).length) lv] w':=by
 have cW:∀{w'},B7 (J1 w' [lexB g s n lv]) [lexB g s n lv] w'->Calls prog 93 #[.pointer (some ⟨g,0,none⟩),.func (.func 95) #[] #[]] w' λe w3=>∃_:Unit,e=.returned (.string (bs (P3 k7 (s.drop n))))/\O0 w' (λk=>k∈F1 [lexB g s n lv]) [lexB g s (n+(P3 k7 (s.drop n)).length) lv] w3:=λho=>(zX g n s lv _ hn hs hlv ho).mono λe w3 h=>⟨(),h⟩
 have hge:=LC k7 s n hn;refine G7 ho func45 O ntmps45 O ?_;generalize P3 k7 (s.drop n)=T at*;have cWo:∀{w'},I6 96 #[.string (bs T)] w' (.bool (BS T)):=λ{w'}=>jH T w';have hT5:T.length<=5000:=by omega
 cases hw:BS T
 ·rw[hw] at cWo;by_cases h16:16<T.length
  ·rw[show FA T=(default,5) by simp[FA,hw,h16]];exact A3<|E3 W9 O λgz0=>A5 O<|B4 O<|W7 (ι:=Unit) (f:=93) [.B1 gz0 TK (K9 default).toArray] [lexB g s n lv] (λ_=>.string (bs T)) (λ_=>[lexB g s (n+T.length) lv]) O (A7 O) (λw _ ho=>cW ho) O O λ_=>A5 O<|C8<|C7<|B4 O<|F3 96 (A7 O) (λw ho=>cWo) O<|A5 O<|M8 O<|B4 O<|n4 O<|Q7 O<|A5 O<|E7 O (by omega)<|A3<|B9 (O7 (K9 default) Cz O) O<|E8 0 ((K9 default).toArray) O<|A5 O<|K3<|O5 0 O λw9 ho9=>⟨rfl,_,_,ho9.sublist (.cons _ (Q5 _))⟩
  ·rw[show FA T=(⟨1,0,T,0⟩,0) by simp[FA,hw,h16]];exact A3<|E3 W9 O λgz0=>A5 O<|B4 O<|W7 (ι:=Unit) (f:=93) [.B1 gz0 TK (K9 default).toArray] [lexB g s n lv] (λ_=>.string (bs T)) (λ_=>[lexB g s (n+T.length) lv]) O (A7 O) (λw _ ho=>cW ho) O O λ_=>A5 O<|C8<|C7<|B4 O<|F3 96 (A7 O) (λw ho=>cWo) O<|A5 O<|M8 O<|B4 O<|n4 O<|Q7 O<|A5 O<|E0 O (by omega)<|P5<|F4<|E2<|B4 O<|B9 (O7 (K9 ⟨1,0,T,0⟩) Cz O) O<|E8 0 ((K9 ⟨1,0,T,0⟩).toArray) O<|A5 O<|D4<|O5 0 O λw9 ho9=>⟨rfl,_,_,ho9.sublist (.cons _ (Q5 _))⟩
 ·rw[hw] at cWo;rw[show FA T=(⟨5,0,T,0⟩,0) by simp[FA,hw]];exact A3<|E3 W9 O λgz0=>A5 O<|B4 O<|W7 (ι:=Unit) (f:=93) [.B1 gz0 TK (K9 default).toArray] [lexB g s n lv] (λ_=>.string (bs T)) (λ_=>[lexB g s (n+T.length) lv]) O (A7 O) (λw _ ho=>cW ho) O O λ_=>A5 O<|C8<|C7<|B4 O<|F3 96 (A7 O) (λw ho=>cWo) O<|A5 O<|R1 O<|B4 O<|B9 (O7 (K9 ⟨5,0,T,0⟩) Cz O) O<|E8 0 ((K9 ⟨5,0,T,0⟩).toArray) O<|A5 O<|K3<|O5 0 O λw9 ho9=>⟨rfl,_,_,ho9.sublist (.cons _ (Q5 _))⟩
def Ey:Int->List UInt8->Option Int
 |v,[]=>if 9223372036854775807<v then none else some v
 |v,b::l=>if 922337203685477580<v then none else Ey (10*v+((b.toNat:Int)-48)) l
def KL(T:List UInt8):G8×Int:=match Ey 0 T with
 |none=>(default,8)
 |some v=>(⟨2,0,[],v⟩,0)
def LE(s:List UInt8)(m:Nat)(T:List UInt8):Bool:=(decide (1<T.length)&&decide (J6 T 0=48))||(decide (m<s.length)&&Ar (J6 s m))
def NQ(s:List UInt8)(n:Nat):G8×Int:=if LE s (n+(P3 Z1 (s.drop n)).length) (P3 Z1 (s.drop n)) then(default,3) else KL (P3 Z1 (s.drop n))
theorem Sv(p:Int->Bool):∀l,∀b∈P3 p l,p (b.toNat:Int)=true
 |[],b,h=>by simp[P3] at h
 |a::l,b,h=>by
  unfold P3 at h;rw[JD] at h;split at h
  ·rename_i ha;rcases BD.1 h with rfl|h
   ·exact ha
   ·exact Sv p l b (by simpa[P3] using h)
  ·simp at h
theorem Yq{z:Int}(h0:0<=z)(h1:z<18446744073709551616):IntKind.u64.wrap z=z:=by
 simp[IntKind.wrap,IntKind.signed,IntKind.bits];omega
theorem oK{z:Int}(h0:0<=z)(h1:z<256):IntKind.u8.wrap z=z:=by
 simp[IntKind.wrap,IntKind.signed,IntKind.bits];omega
theorem sA(g n:Nat)(s:C9)(lv:Value)(w:B6)(hn:n<=s.length)(hs:s.length<=5000)(hlv:lv.oneCell'=true)(ho:B7 (J1 w [lexB g s n lv]) [lexB g s n lv] w):
  Calls prog 47 #[.pointer (some ⟨g,0,none⟩)] w λe w'=>e=.returned (.tuple #[By (NQ s n).1,.int .i64 (NQ s n).2])/\O0 w (λk=>k∈F1 [lexB g s n lv]) [lexB g s (n+(P3 Z1 (s.drop n)).length) lv] w':=by
 have cW:∀{w'},B7 (J1 w' [lexB g s n lv]) [lexB g s n lv] w'->Calls prog 93 #[.pointer (some ⟨g,0,none⟩),.func (.func 46) #[] #[]] w' λe w3=>∃_:Unit,e=.returned (.string (bs (P3 Z1 (s.drop n))))/\O0 w' (λk=>k∈F1 [lexB g s n lv]) [lexB g s (n+(P3 Z1 (s.drop n)).length) lv] w3:=λho=>(ag3 g n s lv _ hn hs hlv ho).mono λe w3 h=>⟨(),h⟩
 have hge:=LC Z1 s n hn;have hdg:=Sv Z1 (s.drop n);refine G7 ho func47 O ntmps47 O ?_;unfold NQ;generalize P3 Z1 (s.drop n)=T at*;obtain⟨m,hm⟩:∃m,m=n+T.length:=⟨_,rfl⟩
 rw[<-hm] at cW hge⊢;refine A3<|E3 W9 O λgz0=>A5 O<|B4 O<|W7 (ι:=Unit) (f:=93) [.B1 gz0 TK (K9 default).toArray] [lexB g s n lv] (λ_=>.string (bs T)) (λ_=>[.B1 g LX #[.string (bs s),.int .i64 m,lv]]) O (A7 O) (λw _ ho=>cW ho) O O λ_=>A5 O<|C8<|C8 ?_;have cL:∀{w'},I6 44 #[.int .u8 (J6 s m)] w' (.bool (Ar (J6 s m))):=λ{w'}=>MY _ w';cases hb:LE s m T
 ·have hb1:¬(1<T.length/\J6 T 0=48):=λh=>by simp[LE,h.1,h.2] at hb
  have hb2:m<s.length->Ar (J6 s m)=false:=λh=>by
   cases h2:Ar (J6 s m)
   ·rfl
   ·simp[LE,h,h2] at hb
  refine gN ([(40,.bool false),(4,.string (bs T)),(2,.pointer (some ⟨gz0,0,none⟩)),(0,.pointer (some ⟨g,0,none⟩))]) ?_ (λtail=>?_)
  ·refine E2<|M8 O<|D6<|A3<|A5 O<|B5<|A4 O<|n4 O<|A4 O<|A6<|C7 ?_;rw[if_neg (by simp)];have hT5:T.length<=5000:=by omega
   refine l9 (σ:=Nat×Int) (λq=>q.1<=T.length/\0<=q.2/\q.2<=9223372036854775809/\Ey q.2 (T.drop q.1)=Ey 0 T) (λq=>[(2,.pointer (some ⟨gz0,0,none⟩)),(4,.string (bs T)),(5,.int .u64 q.2),(43,.int .i64 T.length),(44,.int .i64 q.1)]) (λ_=>[.B1 gz0 TK (K9 default).toArray,.B1 g LX #[.string (bs s),.int .i64 m,lv]]) (λq=>T.length-q.1)
    (λw ho=>⟨(0,0),⟨R5 _,by decide,by decide,rfl⟩,⟨rfl,rfl,rfl,rfl,rfl,trivial⟩,ho⟩) ?_
   rintro⟨i,v⟩ ⟨hi,hv0,hv1,hv2⟩;simp only at hi hv0 hv1 hv2;by_cases hil:i<T.length
   ·rw[MG hil,Ey] at hv2;have hd:=hdg T[i] (Fd hil);have hbt:=LY T i hil;have hbt2:J6 T ((i:Int)).toNat=(T[i].toNat:Int):=hbt;generalize T[i]=b at hv2 hd hbt hbt2;have hd1:48<=(b.toNat:Int)/\(b.toNat:Int)<=57:=by simpa[Z1] using hd
    by_cases hov:922337203685477580<v
    ·rw[if_pos hov] at hv2;have hnt:KL T=(default,8):=by rw[KL,<-hv2]
     rw[hnt];refine A3<|H9 O<|A6<|C8<|E7 O (by omega)<|D6<|C8<|C7<|B4 O<|A5 O<|B5<|A4 O<|Q7 O<|A6<|E7 O (by omega)<|A3<|B9 (O7 (K9 default) Cz O) O<|E8 0 ((K9 default).toArray) O<|A5 O<|D4<|K0<|U3<|K0<|U3<|O5 0 O λw9 ho9=>?_;exact⟨rfl,_,_,ho9.sublist (.cons _ (Q5 _))⟩
    ·rw[if_neg hov] at hv2;have e51:IntKind.u64.wrap (10*v)=10*v:=Yq (by omega) (by omega);have e55:IntKind.u8.wrap ((b.toNat:Int)-48)=(b.toNat:Int)-48:=oK (by omega) (by omega);have e57:IntKind.u64.wrap (10*v+((b.toNat:Int)-48))=10*v+((b.toNat:Int)-48):=Yq (by omega) (by omega);refine A3<|H9 O<|A6<|C8<|E7 O (by omega)<|D6<|C8<|C7<|B4 O<|A5 O<|B5<|A4 O<|Q7 O<|A6<|E0 O (by omega)<|D6<|C5<|A4 O<|B9 (e51▸Hm rfl rfl) O<|A4 O<|A4 O<|B9 (hbt2▸HN (l:=T) (k:=.i64) (q:=(i:Int)) (by kernel_rfl) rfl rfl (by omega)) O<|B9 (e55▸Xc (p:=(b.toNat:Int)) (q:=48) rfl rfl) O<|B9 (Yn (p:=(b.toNat:Int)-48) (by kernel_rfl) (by kernel_rfl) O (by omega)) O<|B9 (e57▸Hz (p:=10*v) (q:=(b.toNat:Int)-48) rfl rfl) O<|E6 O<|H6<|F4<|E2<|C5<|N6 O (by omega)<|A4 O<|A6 ?_;rotate_left;refine W5 λw ho=>⟨(i+1,10*v+((b.toNat:Int)-48)),⟨by show i+1<=T.length;omega,by show 0<=10*v+((b.toNat:Int)-48);omega,by show 10*v+((b.toNat:Int)-48)<=9223372036854775809;omega,hv2⟩,by show T.length-(i+1)<T.length-i;omega,⟨rfl,rfl,rfl,rfl,rfl,trivial⟩,rfl,ho⟩
   ·obtain rfl:i=T.length:=by omega
    rw[Rl,Ey] at hv2;by_cases hov:9223372036854775807<v
    ·rw[if_pos hov] at hv2;have hnt:KL T=(default,8):=by rw[KL,<-hv2]
     rw[hnt];refine A3<|H9 O<|A6<|C8<|E0 O (by omega)<|S4<|J0<|J0<|S5<|E2<|B5<|A4 O<|Q7 O<|A6<|E7 O (by omega)<|A3<|B9 (O7 (K9 default) Cz O) O<|E8 0 ((K9 default).toArray) O<|A5 O<|D4<|K0<|O5 0 O λw9 ho9=>?_;exact⟨rfl,_,_,ho9.sublist (.cons _ (Q5 _))⟩
    ·rw[if_neg hov] at hv2;have hnt:KL T=(⟨2,0,[],v⟩,0):=by rw[KL,<-hv2]
     rw[hnt];refine A3<|H9 O<|A6<|C8<|E0 O (by omega)<|S4<|J0<|J0<|S5<|E2<|B5<|A4 O<|Q7 O<|A6<|E0 O (by omega)<|D6<|B4 O<|B9 (dR (by kernel_rfl) (by kernel_rfl) O (by omega)) O<|B9 (O7 (K9 ⟨2,0,[],v⟩) Cz O) O<|E8 0 ((K9 ⟨2,0,[],v⟩).toArray) O<|A5 O<|D4<|O5 0 O λw9 ho9=>?_;exact⟨rfl,_,_,ho9.sublist (.cons _ (Q5 _))⟩
  ·by_cases hl:1<T.length
   ·have e11:decide ((T.length:Int)>1)=true:=decide_eq_true (by omega);have e15:decide (J6 T ((0:Int)).toNat=48)=false:=decide_eq_false (λh=>hb1 ⟨hl,h⟩);by_cases hml:m<s.length
    ·have e27:decide ((m:Int)<(s.length:Int))=true:=decide_eq_true (by omega);rw[hb2 hml] at cL;apply HX 32 (.val _::.val _::.val _::.val _::.val _::.val _::.val _::.val _::.val _::.val _::.val _::.val _::.val _::.val _::.val _::.val _::.val _::.val _::.val _::.val _::.val _::.val _::.val _::.val _::.val _::.val _::.val _::.val _::.val _::.val _::.val _::.val _::[]) (by kernel_rfl) (by kernel_rfl) rfl ⟨trivial,trivial,trivial,trivial,trivial,trivial,trivial,trivial,trivial,trivial,trivial,trivial,trivial,trivial,trivial,trivial,trivial,trivial,trivial,trivial,trivial,trivial,trivial,trivial,trivial,trivial,trivial,trivial,trivial,trivial,trivial,trivial,trivial⟩
     ·refine D5 O (λvs=>H8 O)<|D5 O (λvs=>FM O)<|D5 O (λvs=>e11▸KY rfl rfl)<|D5 O (λvs=>H8 O)<|J9 O O (λvs=>rfl) O (λvs=>D0 (H8 O))<|J9 O O (λvs=>rfl) O (λvs=>D0 (HN (by kernel_rfl) O O (by omega)))<|J9 O O (λvs=>rfl) O (λvs=>D0 (e15▸JU rfl rfl))<|D5 O (λvs=>He O O)<|D5 O (λvs=>H8 O)<|J9 O O (λvs=>rfl) O (λvs=>D0 (H8 O))<|J9 O O (λvs=>rfl) O (λvs=>D0 (N1 O))<|J9 O O (λvs=>rfl) O (λvs=>D0 (I8 1 O))<|J9 O O (λvs=>rfl) O (λvs=>D0 (K1 1 O))<|J9 O O (λvs=>rfl) O (λvs=>D0 (H8 O))<|J9 O O (λvs=>rfl) O (λvs=>D0 (N1 O))<|J9 O O (λvs=>rfl) O (λvs=>D0 (I8 0 O))<|J9 O O (λvs=>rfl) O (λvs=>D0 (K1 1 O))<|J9 O O (λvs=>rfl) O (λvs=>D0 (FM O))<|J9 O O (λvs=>rfl) O (λvs=>D0 (e27▸Kx rfl rfl))<|J9 O O (λvs=>rfl) O (λvs=>D0 (H8 O))<|J9 O O (λvs=>rfl) O (λvs=>D0 (H8 O))<|J9 O O (λvs=>rfl) O (λvs=>D0 (N1 O))<|J9 O O (λvs=>rfl) O (λvs=>D0 (I8 0 O))<|J9 O O (λvs=>rfl) O (λvs=>D0 (K1 1 O))<|J9 O O (λvs=>rfl) O (λvs=>D0 (H8 O))<|J9 O O (λvs=>rfl) O (λvs=>D0 (N1 O))<|J9 O O (λvs=>rfl) O (λvs=>D0 (I8 1 O))<|J9 O O (λvs=>rfl) O (λvs=>D0 (K1 1 O))<|J9 O O (λvs=>rfl) O (λvs=>D0 (HN (by kernel_rfl) O O (by omega)))<|J9 O O (λvs=>rfl) O (λvs=>IZ (f:=44) (A7 O) (λw ho hx=>cL))<|J9 O O (λvs=>rfl) O (λvs=>D0 (He O O))<|D5 O (λvs=>GH O O) ?_;exact l6
     ·intro vs9;exact NS tail ⟨rfl,rfl,rfl,rfl,trivial⟩
    ·have e27:decide ((m:Int)<(s.length:Int))=false:=decide_eq_false (by omega);apply HX 32 (.val _::.val _::.val _::.val _::.val _::.val _::.val _::.val _::.val _::.val _::.val _::.val _::.val _::.val _::.val _::.val _::.val _::.val _::.val _::.val _::.val _::.val _::.val _::.val _::.val _::.val _::.val _::.val _::.val _::.val _::.val _::.val _::[]) (by kernel_rfl) (by kernel_rfl) rfl ⟨trivial,trivial,trivial,trivial,trivial,trivial,trivial,trivial,trivial,trivial,trivial,trivial,trivial,trivial,trivial,trivial,trivial,trivial,trivial,trivial,trivial,trivial,trivial,trivial,trivial,trivial,trivial,trivial,trivial,trivial,trivial,trivial,trivial⟩
     ·refine D5 O (λvs=>H8 O)<|D5 O (λvs=>FM O)<|D5 O (λvs=>e11▸KY rfl rfl)<|D5 O (λvs=>H8 O)<|J9 O O (λvs=>rfl) O (λvs=>D0 (H8 O))<|J9 O O (λvs=>rfl) O (λvs=>D0 (HN (by kernel_rfl) O O (by omega)))<|J9 O O (λvs=>rfl) O (λvs=>D0 (e15▸JU rfl rfl))<|D5 O (λvs=>He O O)<|D5 O (λvs=>H8 O)<|J9 O O (λvs=>rfl) O (λvs=>D0 (H8 O))<|J9 O O (λvs=>rfl) O (λvs=>D0 (N1 O))<|J9 O O (λvs=>rfl) O (λvs=>D0 (I8 1 O))<|J9 O O (λvs=>rfl) O (λvs=>D0 (K1 1 O))<|J9 O O (λvs=>rfl) O (λvs=>D0 (H8 O))<|J9 O O (λvs=>rfl) O (λvs=>D0 (N1 O))<|J9 O O (λvs=>rfl) O (λvs=>D0 (I8 0 O))<|J9 O O (λvs=>rfl) O (λvs=>D0 (K1 1 O))<|J9 O O (λvs=>rfl) O (λvs=>D0 (FM O))<|J9 O O (λvs=>rfl) O (λvs=>D0 (e27▸Kx rfl rfl))<|J9 O O (λvs=>rfl) O (λvs=>D0 (H8 O))<|V3 O O (λvs=>rfl) O O<|V3 O O (λvs=>rfl) O O<|V3 O O (λvs=>rfl) O O<|V3 O O (λvs=>rfl) O O<|V3 O O (λvs=>rfl) O O<|V3 O O (λvs=>rfl) O O<|V3 O O (λvs=>rfl) O O<|V3 O O (λvs=>rfl) O O<|V3 O O (λvs=>rfl) O O<|V3 O O (λvs=>rfl) O O<|J9 O O (λvs=>rfl) O (λvs=>D0 (GH O O))<|D5 O (λvs=>GH O O) ?_;exact l6
     ·intro vs9;exact NS tail ⟨rfl,rfl,rfl,rfl,trivial⟩
   ·have e11:decide ((T.length:Int)>1)=false:=decide_eq_false (by omega);by_cases hml:m<s.length
    ·have e27:decide ((m:Int)<(s.length:Int))=true:=decide_eq_true (by omega);rw[hb2 hml] at cL;apply HX 32 (.val _::.val _::.val _::.val _::.val _::.val _::.val _::.val _::.val _::.val _::.val _::.val _::.val _::.val _::.val _::.val _::.val _::.val _::.val _::.val _::.val _::.val _::.val _::.val _::.val _::.val _::.val _::.val _::.val _::.val _::.val _::.val _::[]) (by kernel_rfl) (by kernel_rfl) rfl ⟨trivial,trivial,trivial,trivial,trivial,trivial,trivial,trivial,trivial,trivial,trivial,trivial,trivial,trivial,trivial,trivial,trivial,trivial,trivial,trivial,trivial,trivial,trivial,trivial,trivial,trivial,trivial,trivial,trivial,trivial,trivial,trivial,trivial⟩
     ·refine D5 O (λvs=>H8 O)<|D5 O (λvs=>FM O)<|D5 O (λvs=>e11▸KY rfl rfl)<|D5 O (λvs=>H8 O)<|V3 O O (λvs=>rfl) O O<|V3 O O (λvs=>rfl) O O<|V3 O O (λvs=>rfl) O O<|D5 O (λvs=>GH O O)<|D5 O (λvs=>H8 O)<|J9 O O (λvs=>rfl) O (λvs=>D0 (H8 O))<|J9 O O (λvs=>rfl) O (λvs=>D0 (N1 O))<|J9 O O (λvs=>rfl) O (λvs=>D0 (I8 1 O))<|J9 O O (λvs=>rfl) O (λvs=>D0 (K1 1 O))<|J9 O O (λvs=>rfl) O (λvs=>D0 (H8 O))<|J9 O O (λvs=>rfl) O (λvs=>D0 (N1 O))<|J9 O O (λvs=>rfl) O (λvs=>D0 (I8 0 O))<|J9 O O (λvs=>rfl) O (λvs=>D0 (K1 1 O))<|J9 O O (λvs=>rfl) O (λvs=>D0 (FM O))<|J9 O O (λvs=>rfl) O (λvs=>D0 (e27▸Kx rfl rfl))<|J9 O O (λvs=>rfl) O (λvs=>D0 (H8 O))<|J9 O O (λvs=>rfl) O (λvs=>D0 (H8 O))<|J9 O O (λvs=>rfl) O (λvs=>D0 (N1 O))<|J9 O O (λvs=>rfl) O (λvs=>D0 (I8 0 O))<|J9 O O (λvs=>rfl) O (λvs=>D0 (K1 1 O))<|J9 O O (λvs=>rfl) O (λvs=>D0 (H8 O))<|J9 O O (λvs=>rfl) O (λvs=>D0 (N1 O))<|J9 O O (λvs=>rfl) O (λvs=>D0 (I8 1 O))<|J9 O O (λvs=>rfl) O (λvs=>D0 (K1 1 O))<|J9 O O (λvs=>rfl) O (λvs=>D0 (HN (by kernel_rfl) O O (by omega)))<|J9 O O (λvs=>rfl) O (λvs=>IZ (f:=44) (A7 O) (λw ho hx=>cL))<|J9 O O (λvs=>rfl) O (λvs=>D0 (He O O))<|D5 O (λvs=>GH O O) ?_;exact l6
     ·intro vs9;exact NS tail ⟨rfl,rfl,rfl,rfl,trivial⟩
    ·have e27:decide ((m:Int)<(s.length:Int))=false:=decide_eq_false (by omega);apply HX 32 (.val _::.val _::.val _::.val _::.val _::.val _::.val _::.val _::.val _::.val _::.val _::.val _::.val _::.val _::.val _::.val _::.val _::.val _::.val _::.val _::.val _::.val _::.val _::.val _::.val _::.val _::.val _::.val _::.val _::.val _::.val _::.val _::[]) (by kernel_rfl) (by kernel_rfl) rfl ⟨trivial,trivial,trivial,trivial,trivial,trivial,trivial,trivial,trivial,trivial,trivial,trivial,trivial,trivial,trivial,trivial,trivial,trivial,trivial,trivial,trivial,trivial,trivial,trivial,trivial,trivial,trivial,trivial,trivial,trivial,trivial,trivial,trivial⟩
     ·refine D5 O (λvs=>H8 O)<|D5 O (λvs=>FM O)<|D5 O (λvs=>e11▸KY rfl rfl)<|D5 O (λvs=>H8 O)<|V3 O O (λvs=>rfl) O O<|V3 O O (λvs=>rfl) O O<|V3 O O (λvs=>rfl) O O<|D5 O (λvs=>GH O O)<|D5 O (λvs=>H8 O)<|J9 O O (λvs=>rfl) O (λvs=>D0 (H8 O))<|J9 O O (λvs=>rfl) O (λvs=>D0 (N1 O))<|J9 O O (λvs=>rfl) O (λvs=>D0 (I8 1 O))<|J9 O O (λvs=>rfl) O (λvs=>D0 (K1 1 O))<|J9 O O (λvs=>rfl) O (λvs=>D0 (H8 O))<|J9 O O (λvs=>rfl) O (λvs=>D0 (N1 O))<|J9 O O (λvs=>rfl) O (λvs=>D0 (I8 0 O))<|J9 O O (λvs=>rfl) O (λvs=>D0 (K1 1 O))<|J9 O O (λvs=>rfl) O (λvs=>D0 (FM O))<|J9 O O (λvs=>rfl) O (λvs=>D0 (e27▸Kx rfl rfl))<|J9 O O (λvs=>rfl) O (λvs=>D0 (H8 O))<|V3 O O (λvs=>rfl) O O<|V3 O O (λvs=>rfl) O O<|V3 O O (λvs=>rfl) O O<|V3 O O (λvs=>rfl) O O<|V3 O O (λvs=>rfl) O O<|V3 O O (λvs=>rfl) O O<|V3 O O (λvs=>rfl) O O<|V3 O O (λvs=>rfl) O O<|V3 O O (λvs=>rfl) O O<|V3 O O (λvs=>rfl) O O<|J9 O O (λvs=>rfl) O (λvs=>D0 (GH O O))<|D5 O (λvs=>GH O O) ?_;exact l6
     ·intro vs9;exact NS tail ⟨rfl,rfl,rfl,rfl,trivial⟩
 ·refine gN ([(40,.bool true),(4,.string (bs T)),(2,.pointer (some ⟨gz0,0,none⟩)),(0,.pointer (some ⟨g,0,none⟩))]) ?_ (λtail=>?_)
  ·refine E2<|R1 O<|A3<|B9 (O7 (K9 default) Cz O) O<|E8 0 ((K9 default).toArray) O<|A5 O<|D4<|K0<|O5 0 O λw9 ho9=>?_;exact⟨rfl,_,_,ho9.sublist (.cons _ (Q5 _))⟩
  ·by_cases hl:1<T.length
   ·have e11:decide ((T.length:Int)>1)=true:=decide_eq_true (by omega);by_cases h0:J6 T 0=48
    ·have e15:decide (J6 T ((0:Int)).toNat=48)=true:=decide_eq_true h0;apply HX 32 (.val _::.val _::.val _::.val _::.val _::.val _::.val _::.val _::.val _::.val _::.val _::.val _::.val _::.val _::.val _::.val _::.val _::.val _::.val _::.val _::.val _::.val _::.val _::.val _::.val _::.val _::.val _::.val _::.val _::.val _::.val _::.val _::[]) (by kernel_rfl) (by kernel_rfl) rfl ⟨trivial,trivial,trivial,trivial,trivial,trivial,trivial,trivial,trivial,trivial,trivial,trivial,trivial,trivial,trivial,trivial,trivial,trivial,trivial,trivial,trivial,trivial,trivial,trivial,trivial,trivial,trivial,trivial,trivial,trivial,trivial,trivial,trivial⟩
     ·refine D5 O (λvs=>H8 O)<|D5 O (λvs=>FM O)<|D5 O (λvs=>e11▸KY rfl rfl)<|D5 O (λvs=>H8 O)<|J9 O O (λvs=>rfl) O (λvs=>D0 (H8 O))<|J9 O O (λvs=>rfl) O (λvs=>D0 (HN (by kernel_rfl) O O (by omega)))<|J9 O O (λvs=>rfl) O (λvs=>D0 (e15▸JU rfl rfl))<|D5 O (λvs=>He O O)<|D5 O (λvs=>H8 O)<|V3 O O (λvs=>rfl) O O<|V3 O O (λvs=>rfl) O O<|V3 O O (λvs=>rfl) O O<|V3 O O (λvs=>rfl) O O<|V3 O O (λvs=>rfl) O O<|V3 O O (λvs=>rfl) O O<|V3 O O (λvs=>rfl) O O<|V3 O O (λvs=>rfl) O O<|V3 O O (λvs=>rfl) O O<|V3 O O (λvs=>rfl) O O<|V3 O O (λvs=>rfl) O O<|V3 O O (λvs=>rfl) O O<|V3 O O (λvs=>rfl) O O<|V3 O O (λvs=>rfl) O O<|V3 O O (λvs=>rfl) O O<|V3 O O (λvs=>rfl) O O<|V3 O O (λvs=>rfl) O O<|V3 O O (λvs=>rfl) O O<|V3 O O (λvs=>rfl) O O<|V3 O O (λvs=>rfl) O O<|V3 O O (λvs=>rfl) O O<|V3 O O (λvs=>rfl) O O<|D5 O (λvs=>He O O) ?_;exact l6
     ·intro vs9;exact NS tail ⟨rfl,rfl,rfl,rfl,trivial⟩
    ·have e15:decide (J6 T ((0:Int)).toNat=48)=false:=decide_eq_false h0;have hb2:m<s.length/\Ar (J6 s m)=true:=by simpa[LE,hl,h0] using hb
     have e27:decide ((m:Int)<(s.length:Int))=true:=decide_eq_true (by omega);rw[hb2.2] at cL;apply HX 32 (.val _::.val _::.val _::.val _::.val _::.val _::.val _::.val _::.val _::.val _::.val _::.val _::.val _::.val _::.val _::.val _::.val _::.val _::.val _::.val _::.val _::.val _::.val _::.val _::.val _::.val _::.val _::.val _::.val _::.val _::.val _::.val _::[]) (by kernel_rfl) (by kernel_rfl) rfl ⟨trivial,trivial,trivial,trivial,trivial,trivial,trivial,trivial,trivial,trivial,trivial,trivial,trivial,trivial,trivial,trivial,trivial,trivial,trivial,trivial,trivial,trivial,trivial,trivial,trivial,trivial,trivial,trivial,trivial,trivial,trivial,trivial,trivial⟩
     ·refine D5 O (λvs=>H8 O)<|D5 O (λvs=>FM O)<|D5 O (λvs=>e11▸KY rfl rfl)<|D5 O (λvs=>H8 O)<|J9 O O (λvs=>rfl) O (λvs=>D0 (H8 O))<|J9 O O (λvs=>rfl) O (λvs=>D0 (HN (by kernel_rfl) O O (by omega)))<|J9 O O (λvs=>rfl) O (λvs=>D0 (e15▸JU rfl rfl))<|D5 O (λvs=>He O O)<|D5 O (λvs=>H8 O)<|J9 O O (λvs=>rfl) O (λvs=>D0 (H8 O))<|J9 O O (λvs=>rfl) O (λvs=>D0 (N1 O))<|J9 O O (λvs=>rfl) O (λvs=>D0 (I8 1 O))<|J9 O O (λvs=>rfl) O (λvs=>D0 (K1 1 O))<|J9 O O (λvs=>rfl) O (λvs=>D0 (H8 O))<|J9 O O (λvs=>rfl) O (λvs=>D0 (N1 O))<|J9 O O (λvs=>rfl) O (λvs=>D0 (I8 0 O))<|J9 O O (λvs=>rfl) O (λvs=>D0 (K1 1 O))<|J9 O O (λvs=>rfl) O (λvs=>D0 (FM O))<|J9 O O (λvs=>rfl) O (λvs=>D0 (e27▸Kx rfl rfl))<|J9 O O (λvs=>rfl) O (λvs=>D0 (H8 O))<|J9 O O (λvs=>rfl) O (λvs=>D0 (H8 O))<|J9 O O (λvs=>rfl) O (λvs=>D0 (N1 O))<|J9 O O (λvs=>rfl) O (λvs=>D0 (I8 0 O))<|J9 O O (λvs=>rfl) O (λvs=>D0 (K1 1 O))<|J9 O O (λvs=>rfl) O (λvs=>D0 (H8 O))<|J9 O O (λvs=>rfl) O (λvs=>D0 (N1 O))<|J9 O O (λvs=>rfl) O (λvs=>D0 (I8 1 O))<|J9 O O (λvs=>rfl) O (λvs=>D0 (K1 1 O))<|J9 O O (λvs=>rfl) O (λvs=>D0 (HN (by kernel_rfl) O O (by omega)))<|J9 O O (λvs=>rfl) O (λvs=>IZ (f:=44) (A7 O) (λw ho hx=>cL))<|J9 O O (λvs=>rfl) O (λvs=>D0 (He O O))<|D5 O (λvs=>GH O O) ?_;exact l6
     ·intro vs9;exact NS tail ⟨rfl,rfl,rfl,rfl,trivial⟩
   ·have e11:decide ((T.length:Int)>1)=false:=decide_eq_false (by omega);have hb2:m<s.length/\Ar (J6 s m)=true:=by simpa[LE,hl] using hb
    have e27:decide ((m:Int)<(s.length:Int))=true:=decide_eq_true (by omega);rw[hb2.2] at cL;apply HX 32 (.val _::.val _::.val _::.val _::.val _::.val _::.val _::.val _::.val _::.val _::.val _::.val _::.val _::.val _::.val _::.val _::.val _::.val _::.val _::.val _::.val _::.val _::.val _::.val _::.val _::.val _::.val _::.val _::.val _::.val _::.val _::.val _::[]) (by kernel_rfl) (by kernel_rfl) rfl ⟨trivial,trivial,trivial,trivial,trivial,trivial,trivial,trivial,trivial,trivial,trivial,trivial,trivial,trivial,trivial,trivial,trivial,trivial,trivial,trivial,trivial,trivial,trivial,trivial,trivial,trivial,trivial,trivial,trivial,trivial,trivial,trivial,trivial⟩
    ·refine D5 O (λvs=>H8 O)<|D5 O (λvs=>FM O)<|D5 O (λvs=>e11▸KY rfl rfl)<|D5 O (λvs=>H8 O)<|V3 O O (λvs=>rfl) O O<|V3 O O (λvs=>rfl) O O<|V3 O O (λvs=>rfl) O O<|D5 O (λvs=>GH O O)<|D5 O (λvs=>H8 O)<|J9 O O (λvs=>rfl) O (λvs=>D0 (H8 O))<|J9 O O (λvs=>rfl) O (λvs=>D0 (N1 O))<|J9 O O (λvs=>rfl) O (λvs=>D0 (I8 1 O))<|J9 O O (λvs=>rfl) O (λvs=>D0 (K1 1 O))<|J9 O O (λvs=>rfl) O (λvs=>D0 (H8 O))<|J9 O O (λvs=>rfl) O (λvs=>D0 (N1 O))<|J9 O O (λvs=>rfl) O (λvs=>D0 (I8 0 O))<|J9 O O (λvs=>rfl) O (λvs=>D0 (K1 1 O))<|J9 O O (λvs=>rfl) O (λvs=>D0 (FM O))<|J9 O O (λvs=>rfl) O (λvs=>D0 (e27▸Kx rfl rfl))<|J9 O O (λvs=>rfl) O (λvs=>D0 (H8 O))<|J9 O O (λvs=>rfl) O (λvs=>D0 (H8 O))<|J9 O O (λvs=>rfl) O (λvs=>D0 (N1 O))<|J9 O O (λvs=>rfl) O (λvs=>D0 (I8 0 O))<|J9 O O (λvs=>rfl) O (λvs=>D0 (K1 1 O))<|J9 O O (λvs=>rfl) O (λvs=>D0 (H8 O))<|J9 O O (λvs=>rfl) O (λvs=>D0 (N1 O))<|J9 O O (λvs=>rfl) O (λvs=>D0 (I8 1 O))<|J9 O O (λvs=>rfl) O (λvs=>D0 (K1 1 O))<|J9 O O (λvs=>rfl) O (λvs=>D0 (HN (by kernel_rfl) O O (by omega)))<|J9 O O (λvs=>rfl) O (λvs=>IZ (f:=44) (A7 O) (λw ho hx=>cL))<|J9 O O (λvs=>rfl) O (λvs=>D0 (He O O))<|D5 O (λvs=>GH O O) ?_;exact l6
    ·intro vs9;exact NS tail ⟨rfl,rfl,rfl,rfl,trivial⟩
def AF:List (List UInt8):=[[61,61],[33,61],[60,61],[62,61],[46,46]]
def Ac:List UInt8:=[40,41,123,125,44,59,61,60,62,43,45,42,47,37]
def BU(r:List UInt8):G8×Int×Nat:=match AF.find? (λp=>V0 r p) with
 |some p=>(⟨4,0,p,0⟩,0,2)
 |none=>if Ac.contains (r.headD 0) then(⟨4,0,r.take 1,0⟩,0,1) else(default,3,0)
theorem pZ{α:Type}{p:α->Bool}{L:List α}{i:Nat}(h:i<L.length)(h1:∀x∈L.take i,p x=false)(h2:p L[i]=true):L.find? p=some L[i]:=by
 have e:L.find? p=(L.take i++L.drop i).find? p:=by rw[FZ]
 rw[e,List.find?_append];have:(L.take i).find? p=none:=List.find?_eq_none.2 λx hx=>by rw[h1 x hx];simp
 rw[this,MG h,List.find?_cons,h2];simp
theorem aw3{α:Type}{p:α->Bool}{L:List α}(h1:∀x∈L,p x=false):L.find? p=none:=List.find?_eq_none.2 λx hx=>by rw[h1 x hx];simp
theorem dP{r p:C9}(h:V0 r p=true):p.length<=r.length:=by
 obtain⟨q,rfl⟩:=dD.1 h;simp
theorem qQ{L:C9}{i:Nat}{s:UInt8}(h:i<L.length):(L.take (i+1)).contains s=((L.take i).contains s||(L[i]==s)):=by
 rw[Rj h];simp only[List.contains_eq_any_beq,List.any_append,List.any_cons,List.any_nil,Bool.or_false];congr 1;rw[Bool.beq_comm]
theorem wU:Mq prog 174=some (List.replicate 5 (.string (bs [])),1):=by kernel_rfl
theorem nB(g n:Nat)(s:C9)(lv:Value)(w:B6)(hn:n<s.length)(hs:s.length<=5000)(hlv:lv.oneCell'=true)(ho:B7 (J1 w [lexB g s n lv]) [lexB g s n lv] w):
  Calls prog 43 #[.pointer (some ⟨g,0,none⟩)] w λe w'=>e=.returned (.tuple #[By (BU (s.drop n)).1,.int .i64 (BU (s.drop n)).2.1])/\O0 w (λk=>k∈F1 [lexB g s n lv]) [lexB g s (n+(BU (s.drop n)).2.2) lv] w':=by
 refine G7 ho func43 O ntmps43 O ?_;have hdl:(s.drop n).length=s.length-n:=EB;unfold lexB at*;refine A3<|E3 W9 O λgz0=>A5 O<|C8<|R2 (by kernel_rfl)<|G3 O<|K2 O<|I1 O<|J4 1 O<|G3 O<|K2 O<|I1 O<|J4 1 O<|r5 (aA6 (k:=.i64) (l:=s) (p:=(n:Int)) (by kernel_rfl) O O ⟨by omega,by omega⟩) O<|o6 O<|R4<|E2<|B5<|B9 (JI (cs:=D1 AF) wU O O) O<|A4 O<|A6<|C7 ?_;have e16:s.drop ((n:Int)).toNat=s.drop n:=rfl;obtain⟨R,hR⟩:∃R,R=s.drop n:=⟨_,rfl⟩
 rw[<-hR] at hdl⊢;refine l9 (σ:=Nat) (λi=>i<=5/\∀x∈AF.take i,V0 R x=false) (λi=>[(0,.pointer (some ⟨g,0,none⟩)),(2,.pointer (some ⟨gz0,0,none⟩)),(4,.string (bs R)),(17,.agg (D1 AF).toArray),(18,.int .i64 i)]) (λ_=>[.B1 gz0 TK (K9 default).toArray,.B1 g LX #[.string (bs s),.int .i64 n,lv]]) (λi=>5-i)
  (λw ho=>⟨0,⟨R5 _,λx hx=>by simp at hx⟩,⟨rfl,rfl,by rw[hR];rfl,rfl,rfl,trivial⟩,ho⟩) ?_
 rintro i ⟨hi,hI⟩;by_cases hil:i<5
 ·have hget:(D1 AF).toArray[i]?=some (.string (bs (AF[i]'hil))):=by simp[D1,T8 (show i<AF.length from hil)];rfl
  have hfi:=pZ (p:=λp=>V0 R p) (L:=AF) (show i<AF.length from hil) hI;have hsnoc:∀x∈AF.take (i+1),x∈AF.take i\/x=AF[i]'hil:=λx hx=>by
   rw[Rj (show i<AF.length from hil)] at hx;exact(q0.1 hx).imp id Bt.1
  have hlen2:(AF[i]'hil).length=2:=by
   have:∀x∈AF,x.length=2:=by decide
   exact this _ (Fd _)
  generalize AF[i]'hil=x at hget hfi hsnoc hlen2;cases hb:V0 R x
  ·refine A3<|H9 O<|A6<|C8<|E7 O (by omega)<|D6<|C8<|C7<|A3<|B9 (BZ (l:=5) (q:=i) (by kernel_rfl) O O hil hget) O<|A5 O<|B4 O<|A4 O<|F3 74 (A7 O) (λw ho=>Ij R x w) O<|A6<|Y7 O (by omega)<|P5<|F4<|E2<|C5<|N6 O (by omega)<|A4 O<|A6 ?_;rotate_left;refine W5 λw ho=>⟨i+1,⟨by omega,λy hy=>by
    rcases hsnoc y hy with h|rfl
    ·exact hI y h
    ·exact hb⟩,by omega,⟨rfl,rfl,rfl,rfl,rfl,trivial⟩,rfl,ho⟩
  ·have hsg:BU R=(⟨4,0,x,0⟩,0,2):=by rw[BU,hfi hb]
   have h2:=dP hb;rw[hsg];exact A3<|H9 O<|A6<|C8<|E7 O (by omega)<|D6<|C8<|C7<|A3<|B9 (BZ (l:=5) (q:=i) (by kernel_rfl) O O hil hget) O<|A5 O<|B4 O<|A4 O<|F3 74 (A7 O) (λw ho=>Ij R x w) O<|A6<|k8 O (by omega)<|B4 O<|E5 O<|B2 1 O<|N6 O (by omega)<|E5 O<|D9 O<|N4 1 O<|I9 O<|B9 (O7 (K9 ⟨4,0,x,0⟩) Cz O) O<|E8 0 ((K9 ⟨4,0,x,0⟩).toArray) O<|A5 O<|K3<|K0<|U3<|O5 0 O λw9 ho9=>⟨rfl,_,_,ho9.sublist (.cons _ (Q5 _))⟩
 ·obtain rfl:i=5:=by omega
  have hfn:AF.find? (λp=>V0 R p)=none:=aw3 hI;have hsg:BU R=if Ac.contains (R.headD 0) then(⟨4,0,R.take 1,0⟩,0,1) else(default,3,0):=by rw[BU,hfn]
  rw[hsg];have hR0:J6 R 0=((R.headD 0).toNat:Int):=by
   cases R with
   |nil=>simp at hdl;omega
   |cons a r=>rw[LY _ _ (by simp)];rfl
  generalize R.headD 0=c at hR0⊢;refine A3<|H9 O<|A6<|C8<|E0 O (by omega)<|S4<|J0<|J0<|S5<|E2<|B5<|A4 O<|A6<|C7 ?_;rotate_left;refine l9 (σ:=Nat) (λi=>i<=14/\(Ac.take i).contains c=false) (λi=>[(0,.pointer (some ⟨g,0,none⟩)),(2,.pointer (some ⟨gz0,0,none⟩)),(4,.string (bs R)),(34,.int .i64 i)]) (λ_=>[.B1 gz0 TK (K9 default).toArray,.B1 g LX #[.string (bs s),.int .i64 n,lv]]) (λi=>14-i)
   (λw ho=>⟨0,⟨R5 _,rfl⟩,⟨rfl,rfl,rfl,rfl,trivial⟩,ho⟩) ?_
  rintro i ⟨hi,hI⟩;by_cases hil:i<14
  ·have hc:=qQ (L:=Ac) (s:=c) (show i<Ac.length from hil);have hbx:=LY Ac i hil;generalize Ac[i]'hil=x at hc hbx;have i0:0<=(0:Int)/\(0:Int)<R.length:=by omega
   have i1:0<=(i:Int)/\(i:Int)<Ac.length:=⟨by omega,by show(i:Int)<14;omega⟩
   by_cases hx:c=x
   ·have f1:J6 R ((0:Int)).toNat=J6 Ac ((i:Int)).toNat:=by
     show J6 R 0=J6 Ac i;rw[hR0,hbx,hx]
    have hcc:Ac.contains c=true:=by
     rw[Nj];have h2:(Ac.take (i+1)).contains c=true:=by rw[hc,hx];simp
     rw[Nj] at h2;exact YF h2
    rw[if_pos hcc];exact A3<|H9 O<|A6<|C8<|E7 O (by omega)<|D6<|C8<|C7<|B4 O<|A5 O<|C8<|R2 (by kernel_rfl)<|G3 O<|AX (l:=R) (k:=.i64) (q:=0) O i0<|G3 O<|AX (l:=Ac) (k:=.i64) (q:=(i:Int)) O i1<|Nb O<|R4<|E2<|E7 O (by omega)<|B4 O<|E5 O<|B2 1 O<|N6 O (by omega)<|E5 O<|D9 O<|N4 1 O<|I9 O<|B9 (NW (by kernel_rfl) O O (by omega)) O<|B9 (O7 (K9 ⟨4,0,R.take 1,0⟩) Cz O) O<|E8 0 ((K9 ⟨4,0,R.take 1,0⟩).toArray) O<|A5 O<|K3<|K0<|U3<|O5 0 O λw9 ho9=>⟨rfl,_,_,ho9.sublist (.cons _ (Q5 _))⟩
   ·have f1:¬J6 R ((0:Int)).toNat=J6 Ac ((i:Int)).toNat:=by
     show¬J6 R 0=J6 Ac i;rw[hR0,hbx];exact λe=>hx (Rk.1 (by omega))
    refine A3<|H9 O<|A6<|C8<|E7 O (by omega)<|D6<|C8<|C7<|B4 O<|A5 O<|C8<|R2 (by kernel_rfl)<|G3 O<|AX (l:=R) (k:=.i64) (q:=0) O i0<|G3 O<|AX (l:=Ac) (k:=.i64) (q:=(i:Int)) O i1<|Nb O<|R4<|E2<|E0 O (by omega)<|P5<|F4<|E2<|C5<|N6 O (by omega)<|A4 O<|A6 ?_;rotate_left;refine W5 λw ho=>⟨i+1,⟨by omega,by rw[hc,hI];simpa using λe=>hx e.symm⟩,by omega,⟨rfl,rfl,rfl,rfl,trivial⟩,rfl,ho⟩
  ·obtain rfl:i=14:=by omega
   have hcc:Ac.contains c=false:=hI;rw[if_neg (by rw[hcc];simp)];exact A3<|H9 O<|A6<|C8<|E0 O (by omega)<|S4<|J0<|J0<|S5<|E2<|A3<|B9 (O7 (K9 default) Cz O) O<|E8 0 ((K9 default).toArray) O<|A5 O<|D4<|O5 0 O λw9 ho9=>⟨rfl,_,_,ho9.sublist (.cons _ (Q5 _))⟩
end
section
def Z3(l:List UInt8):List Value:=l.map λb=>.int .u8 (b.toNat:Int)
theorem ao5(l:C9):Lib.strCells (bs l)=Z3 l:=by
 simp[Lib.strCells,Z3,bs]
section
variable{P:Program}{r:Option Nat}{n:Nat}{E:List (Nat×Value)}{C:I3}{H:List C2}{ops:Array Oper}{Q:Exit->Act->World->Prop}{rest:List Oper}{t u ty:TypeId}{pos:String}{after:Array Edge}{x y:Operand}{g:Option (Nat×Bool)}{dst:Option Tmp}{xT yT:TypeId}
theorem bZ{d i e m:Nat}{v:Value}{xs:H2}{l:C9}(hT:HG P t e 1 1=true)(hz:(P.info? e).bind (·.zero)=some (.int .u8 0))(hu:P.underlying u=some .string)(hx:ev E x=some v)(hi:H[i]?=some (.row v e 1 m xs))(hy:ev E y=some (.string (bs l)))
  (hb:m+l.length<=maxLen/\m+l.length<=140737488355328)(hd:Nat.blt d n=true)
  (kk:∀v':Value,v'.oneCell'=true->At n ((d,v')::E) C (H.set i (.row v' e 1 (m+l.length) (xs++Z3 l))) (D3 r P ops Q rest)):
  At n E C H (D3 r P ops Q (⟨some d,.call ⟨.builtin .append,#[x,y],#[t,u]⟩,ty,pos,after,none⟩::rest)):=by
 refine Ie (ι:=Value) (λv'=>v') (λv'=>H.set i (.row v' e 1 (m+l.length) (xs++Z3 l))) ?_ O O hd (λv' a w hf hdf ho=>kk v' (Kp (ho.rowAt (Pf (N5.1 hi).1))) a w hf hdf ho);intro a w hf ho;obtain⟨ht,i',z,q1,q2,q3,q4,q5,q6⟩:=QI hT;have hz':i'.zero=some (.int .u8 0):=by rw[q1] at hz;simpa using hz
 have hsz:(bs l).size=l.length:=Hn l;have key:∀base,base<=w.heap.size->∀v0,w.ownsRow base e 1 v0 m xs->∃v' w',(Builtin.append_ #[t,u] ty #[v0,.string (bs l)]).run P w=.ok v' w'/\w'.ownsRow base e 1 v' (m+l.length) (xs++Z3 l)/\w.grownBy w' v0.ownBlock:=λbase hbase v0 h0=>by
  obtain⟨v',w',h1,h2,h3,_⟩:=Lib.run_append_own_string (P:=P) (w:=w) base t u ty e i' ht hu q1 hz' q2 q3 v0 m xs h0 (bs l) (by rw[hsz];exact hb.1) (by rw[hsz];exact hb.2) hbase;rw[hsz,ao5] at h2;exact⟨v',w',h1,h2,h3⟩
 obtain⟨v',w',hr,h2,h3⟩:=key 0 (R5 _) v (ho.rowAt hi);have hown:∀b∈(C2.row v' e 1 (m+l.length) (xs++Z3 l)).blocks,b∈(C2.row v e 1 m xs).blocks\/w.heap.size<=b:=by
  intro b hbb;rcases w7 b w.heap.size with hlt|hge
  ·left;rcases(ho.rowAt hi).2 with⟨rfl,rfl⟩|⟨g0,cap,cur,rfl,hbg,hg,hc1,hc2,hc3,hc4⟩
   ·obtain⟨v2,w2,hr2,h22,_⟩:=key w.heap.size (L6 _) (.slice none 0 0) ⟨(ho.rowAt hi).1,.inl ⟨rfl,rfl⟩⟩;rw[hr] at hr2;cases hr2;have:=h22.lt b (by simpa[C2.blocks] using hbb);omega
   ·by_cases hroom:m+l.length<=cap
    ·have hr3:=Lib.run_append_room_string (P:=P) (w:=w) t u ty e i' ht hu q1 q2 g0 m cap cur hg (bs l) (by rw[hsz];exact hroom) (by rw[hsz];omega);rw[hr] at hr3;cases hr3;simpa[C2.blocks,Value.ownBlock] using hbb
    ·have hr3:=Lib.run_append_grow_string (P:=P) (w:=w) t u ty e i' (.int .u8 0) ht hu q1 hz' ⟨g0,0,none⟩ m cap xs (by rw[q2];exact(ho.rowAt hi).1) ((ho.rowAt hi).cells (g:=g0) rfl) (bs l) (by rw[hsz];omega) (by rw[hsz];have:=hb.1;simp only[maxLen] at this;omega) (by rw[hsz];exact growslice_fits (by omega) (by rw[q3];have:=hb.2;omega));rw[hr] at hr3;cases hr3;simp[C2.blocks,Value.ownBlock] at hbb;omega
  ·exact .inr hge
 refine⟨v',w',?_,ho.swap hi (Ns h3) h2 hown⟩;have hm:(#[x,y]:Array Operand).map a.eval= #[v,.string (bs l)]:=by simp[hf.eval hx,hf.eval hy]
 simp only[execOp,resolve,hm];simp only[invoke,builtin,Sem.run_bind,Sem.run_pure,Result.andThen_ok,hr]
def PK(P:Program)(t e:TypeId):Bool:=match P.underlying t with
 |some (.pointer e')=>Nat.beq e' e
 |_=>false
theorem Ts{e:TypeId}(h:PK P t e=true):P.underlying t=some (.pointer e):=by
 unfold PK at h;split at h
 ·rename_i e' he;rw[he,DK h]
 ·cases h
theorem qO{e:TypeId}{p:Addr}(hT:PK P xT e=true)(hi:(P.info? e).isSome=true)(hx:ev E x=some (.pointer (some p)))(hy:ev E y=some (.pointer (some p))):L1 P n E C H ⟨dst,.binOp .neq xT x y yT,ty,pos,after,g⟩ (.bool false):=by
 intro a w hf ho;obtain⟨j,hj⟩:=JA.1 hi;simp only[execOp,hf.eval hx,hf.eval hy];have h:=Lib.run_neq_ptr_same (P:=P) w p (Ts hT) hj;simp[go_sem,eqGuard,h]
def Zn(P:Program)(e:TypeId):Bool:=match P.info? e with
 |some j=> !Nat.beq j.size 0
 |none=>false
theorem Xh{w:B6}{h e:Nat}{cs:J2}(hw:w.heap[h]?=some (.cells cs e)):w.shape? h=some (e,cs.size):=by simp[World.shape?,hw]
theorem ae7{e tb h o i:Nat}{cs:J2}(hs:PK P xT e=true)(hd:P.underlying yT=some .unsafePointer)(he:Zn P e=true)(hx:ev E x=some (.pointer (some ⟨h,o,none⟩)))(hi:H[i]?=some (.B1 h tb cs))(ho':o<cs.size):
  L1 P n E C H ⟨dst,.convert xT yT x,ty,pos,after,g⟩ (.pointer (some ⟨h,o,none⟩)):=by
 intro a w hf ho;unfold Zn at he;split at he
 ·rename_i j hj;have hj0:j.size≠0:=by
   intro e0;rw[e0] at he;simp at he
  have h1:=Lib.run_to_unsafe (P:=P) (w:=w) ⟨h,o,none⟩ (Ts hs) hd hj hj0 (Xh (ho.get hi)) ho';simp only[execOp,hf.eval hx,h1,Sem.run_bind,Result.andThen];rfl
 ·cases he
theorem ao8{e tb h o i:Nat}{cs:J2}(hs:P.underlying xT=some .unsafePointer)(hd:PK P yT e=true)(he:(P.info? e).isSome=true)(hx:ev E x=some (.pointer (some ⟨h,o,none⟩)))(hi:H[i]?=some (.B1 h tb cs))(hl:liesAt P P.depth tb (cs.size/P.cellsOf tb) o e 1=true):
  L1 P n E C H ⟨dst,.convert xT yT x,ty,pos,after,g⟩ (.pointer (some ⟨h,o,none⟩)):=by
 intro a w hf ho;obtain⟨j,hj⟩:=JA.1 he;have h1:=Lib.run_from_unsafe (P:=P) (w:=w) ⟨h,o,none⟩ hs (Ts hd) hj (Xh (ho.get hi)) hl;simp only[execOp,hf.eval hx,h1,Sem.run_bind,Result.andThen];rfl
theorem sE{f:FuncId}{fn:Func}{v:Value}{ts:Array TypeId}(hf:P.funcs[f]?=some fn)(hname:(fn.name== "runtime.NumGoroutine")=false)(hb:fn.body.isNone=true)(hn:Extern.findNext fn=none)(he:Extern.find fn=some Extern.AbiNoEscape.same)(hx:ev E x=some v):
  L1 P n E C H ⟨dst,.call ⟨.value (.func f),#[x],ts⟩,ty,pos,after,g⟩ v:=by
 intro a w hfi ho;have h1:=run_callFunc_extern hf hname hb hn he #[v] w;rw[Lib.run_noEscape] at h1;have hm:(#[x]:Array Operand).map a.eval= #[v]:=by simp[hfi.eval hx]
 simp only[execOp,resolve,hm];simp only[Result.andThen] at h1;simp[Act.eval,Deferred.ofValue,invoke,go_sem,h1]
end
attribute [local irreducible] F8 D3 Exit.then Exit.inBlock Exit.noGoto wpQuiet Calls fin At G9 L3 L7 RQ
abbrev BT:Nat:=64
abbrev U8:Nat:=5
structure Pr(tb n o:Nat):Prop where
 l:liesAt prog prog.depth tb (n/prog.cellsOf tb) o BT 1=true
structure Dx(cs:Array Value)(h o:Nat)(v:Value):Prop where
 nT:cs[o]?=some (.pointer none)\/cs[o]?=some (.pointer (some ⟨h,o,none⟩))
 buf:cs[o+1]?=some v
def DX(cs:Array Value)(h o:Nat):Array Value:=cs.setIfInBounds o (.pointer (some ⟨h,o,none⟩))
theorem Dx.size{cs:J2}{h o:Nat}{v:Value}(b:Dx cs h o v):o+1<cs.size:=(T1.1 b.buf).1
theorem Dx.self{cs:J2}{h o:Nat}{v:Value}(b:Dx cs h o v):Dx (DX cs h o) h o v/\(DX cs h o)[o]?=some (.pointer (some ⟨h,o,none⟩))/\(DX cs h o).size=cs.size:=by
 have hs:=b.size;have e0:(DX cs h o)[o]?=some (.pointer (some ⟨h,o,none⟩)):=by simp[DX,Ly];omega
 refine⟨⟨.inr e0,?_⟩,e0,by simp[DX]⟩;rw[DX,Ly,if_neg (by omega)];exact b.buf
theorem at7{cs:J2}{h o:Nat}(e:cs[o]?=some (.pointer (some ⟨h,o,none⟩))):DX cs h o=cs:=by
 apply Array.ext';simp only[DX,YC];apply Nk;intro j;rw[List.getElem?_set];split
 ·rename_i hj;subst hj;have:cs.toList[o]?=some (.pointer (some ⟨h,o,none⟩)):=by simpa using e
  split
  ·exact this.symm
  ·rename_i hlt;rw[Fa (by omega)] at this;cases this
 ·rfl
theorem iD(h o tb:Nat)(cs:J2)(v:Value)(w:B6)(hb:Dx cs h o v)(hl:Pr tb cs.size o)(ho:B7 (J1 w [.B1 h tb cs]) [.B1 h tb cs] w):
  Calls prog 115 #[.pointer (some ⟨h,o,none⟩)] w λe w'=>e=.returned (.tuple #[])/\O0 w (λk=>k∈F1 [.B1 h tb cs]) [.B1 h tb (DX cs h o)] w':=by
 have hs:=hb.size;refine G7 ho func115 O ntmps115 O ?_;rcases hb.nT with h0|h0
 ·obtain⟨hb1,hb2,hb3⟩:=hb.self;have hlt:Nat.blt (o+0) cs.size=true:=by simp;omega
  have e0:cs.setIfInBounds (o+0) (.pointer (some ⟨h,o,none⟩))=DX cs h o:=rfl;exact B4 O<|E5 O<|D9 O<|B9 (c7 0 (j:=o+0) (v:=.pointer none) O h0) O<|B9 (iQ (by kernel_rfl) O O) O<|A6<|k8 O (by simp)<|C5<|A4 O<|A4 O<|B9 (ae7 (e:=BT) (i:=0) (by kernel_rfl) (by kernel_rfl) (by kernel_rfl) O O (by omega)) O<|B9 (sE func145 (by kernel_rfl) (by kernel_rfl) (by kernel_rfl) (by kernel_rfl) O) O<|B9 (ao8 (e:=BT) (i:=0) (by kernel_rfl) (by kernel_rfl) (by kernel_rfl) O O hl.l) O<|E5 O<|D9 O<|Ce (i:=0) (by kernel_rfl) O O O O hlt<|H6<|K7 O λw9 ho9=>⟨rfl,_,_,ho9⟩
 ·rw[at7 h0];exact B4 O<|E5 O<|D9 O<|B9 (c7 0 (j:=o+0) (v:=.pointer (some ⟨h,o,none⟩)) O h0) O<|B9 (iQ (by kernel_rfl) O O) O<|A6<|Y7 O (by simp)<|B4 O<|E5 O<|D9 O<|B9 (c7 0 (j:=o+0) (v:=.pointer (some ⟨h,o,none⟩)) O h0) O<|A4 O<|B9 (qO (e:=BT) (by kernel_rfl) (by kernel_rfl) O O) O<|A6<|M8 O<|P5<|K7 O λw9 ho9=>⟨rfl,_,_,ho9⟩
def f8(cs:Array Value)(h o:Nat)(v:Value):Array Value:=(DX cs h o).setIfInBounds (o+1) v
theorem Dx.put{cs:J2}{h o:Nat}{v v':Value}(b:Dx cs h o v):Dx (f8 cs h o v') h o v'/\(f8 cs h o v').size=cs.size:=by
 obtain⟨b1,b2,b3⟩:=b.self;have hs:=b.size;refine⟨⟨.inr ?_,?_⟩,by simp[f8,b3]⟩
 ·rw[f8,Ly,if_neg (by omega)];exact b2
 ·rw[f8,Ly,if_pos rfl,if_pos (by rw[b3];exact hs)]
theorem eA(h o tb:Nat)(cs:J2)(v:Value)(l s:C9)(w:B6)(hb:Dx cs h o v)(hl:Pr tb cs.size o)(hn:l.length+s.length<=1000000)(ho:B7 (J1 w [.B1 h tb cs,.row v U8 1 l.length (Z3 l)]) [.B1 h tb cs,.row v U8 1 l.length (Z3 l)] w):
  Calls prog 61 #[.pointer (some ⟨h,o,none⟩),.string (bs s)] w λe w'=>∃v',e=.returned (.tuple #[.int .i64 s.length,.nilIface])/\O0 w (λk=>k∈F1 [.B1 h tb cs,.row v U8 1 l.length (Z3 l)]) [.B1 h tb (f8 cs h o v'),.row v' U8 1 (l++s).length (Z3 (l++s))] w':=by
 have hs:=hb.size;obtain⟨hb1,hb2,hb3⟩:=hb.self;have hlt:Nat.blt (o+1) (DX cs h o).size=true:=by rw[hb3];simp;omega
 have cC:∀{w'},B7 (J1 w' [.B1 h tb cs]) [.B1 h tb cs] w'->Calls prog 115 #[.pointer (some ⟨h,o,none⟩)] w' λe w3=>∃_:Unit,e=.returned (.tuple #[])/\O0 w' (λk=>k∈F1 [.B1 h tb cs]) [.B1 h tb (DX cs h o)] w3:=λq=>(iD h o tb cs v _ hb hl q).mono λe w3 q2=>⟨(),q2⟩
 refine G7 ho func61 O ntmps61 O ?_;have happ:(l++s).length=l.length+s.length:=J8;have hbv:Z3 (l++s)=Z3 l++Z3 s:=by simp[Z3]
 refine A3<|E6 O<|A5 O<|B4 O<|Dg (ι:=Unit) (f:=115) (H0:=[.B1 h tb cs]) (R:=[.row v U8 1 l.length (Z3 l)]) (λ_=>.tuple #[]) (λ_=>[.B1 h tb (DX cs h o)]) O (A7 O) (λw _ ho=>cC ho) O O λ_=>I9 O<|A4 O<|E5 O<|D9 O<|B9 (c7 0 (j:=o+1) (v:=v) O hb1.buf) O<|A4 O<|bZ (i:=1) (e:=U8) (m:=l.length) (by kernel_rfl) (by kernel_rfl) (by kernel_rfl) O O O (by simp only[maxLen];omega) O λv4 hv4=>E5 O<|D9 O<|Ce (i:=0) (by kernel_rfl) O O hv4 O hlt<|I9 O<|n4 O<|E6 O<|A5 O<|D4<|V6 O O O O λw9 ho9=>?_;refine⟨v4,rfl,?_⟩;rw[happ,hbv];exact⟨_,_,ho9⟩
theorem JV(h o tb:Nat)(cs:J2)(v:Value)(l:C9)(c:UInt8)(w:B6)(hb:Dx cs h o v)(hl:Pr tb cs.size o)(hn:l.length<=1000000)(ho:B7 (J1 w [.B1 h tb cs,.row v U8 1 l.length (Z3 l)]) [.B1 h tb cs,.row v U8 1 l.length (Z3 l)] w):
  Calls prog 98 #[.pointer (some ⟨h,o,none⟩),.int .u8 (c.toNat:Int)] w λe w'=>∃v',e=.returned .nilIface/\O0 w (λk=>k∈F1 [.B1 h tb cs,.row v U8 1 l.length (Z3 l)]) [.B1 h tb (f8 cs h o v'),.row v' U8 1 (l++[c]).length (Z3 (l++[c]))] w':=by
 have hs:=hb.size;obtain⟨hb1,hb2,hb3⟩:=hb.self;have hlt:Nat.blt (o+1) (DX cs h o).size=true:=by rw[hb3];simp;omega
 have cC:∀{w'},B7 (J1 w' [.B1 h tb cs]) [.B1 h tb cs] w'->Calls prog 115 #[.pointer (some ⟨h,o,none⟩)] w' λe w3=>∃_:Unit,e=.returned (.tuple #[])/\O0 w' (λk=>k∈F1 [.B1 h tb cs]) [.B1 h tb (DX cs h o)] w3:=λq=>(iD h o tb cs v _ hb hl q).mono λe w3 q2=>⟨(),q2⟩
 refine G7 ho func98 O ntmps98 O ?_;have happ:(l++[c]).length=l.length+1:=J8;have hbv:Z3 (l++[c])=Z3 l++[.int .u8 (c.toNat:Int)]:=by simp[Z3]
 refine A3<|A5 O<|B4 O<|Dg (ι:=Unit) (f:=115) (H0:=[.B1 h tb cs]) (R:=[.row v U8 1 l.length (Z3 l)]) (λ_=>.tuple #[]) (λ_=>[.B1 h tb (DX cs h o)]) O (A7 O) (λw _ ho=>cC ho) O O λ_=>I9 O<|A4 O<|E5 O<|D9 O<|B9 (c7 0 (j:=o+1) (v:=v) O hb1.buf) O<|A4 O<|N7 [.int .u8 (c.toNat:Int)] [.int .u8 (c.toNat:Int)] O λhl=>CT 2 U8 1 1 (l.length) 1 [.int .u8 (c.toNat:Int)] (by kernel_rfl) O (λw ho=>BI ho (i:=0) rfl) (λu hu=>by obtain rfl:=Bt.1 hu;rfl) (by simp only[maxLen];omega) O λv4 hv4=>E5 O<|D9 O<|Ce (i:=1) (by kernel_rfl) O O hv4 O hlt<|I0<|A5 O<|D4<|E4 O λw9 ho9=>?_;refine⟨v4,rfl,?_⟩;rw[happ,hbv];exact⟨_,_,ho9.sublist (L9 ..)⟩
theorem eO(h o tb:Nat)(cs:J2)(v:Value)(l:C9)(w:B6)(hb:Dx cs h o v)(ho:B7 (J1 w [.B1 h tb cs,.row v U8 1 l.length (Z3 l)]) [.B1 h tb cs,.row v U8 1 l.length (Z3 l)] w):
  Calls prog 97 #[.pointer (some ⟨h,o,none⟩)] w λe w'=>e=.returned (.int .i64 l.length)/\O0 w (λk=>k∈F1 [.B1 h tb cs,.row v U8 1 l.length (Z3 l)]) [.B1 h tb cs,.row v U8 1 l.length (Z3 l)] w':=by
 refine G7 ho func97 O ntmps97 O<|A3<|A5 O<|B4 O<|E5 O<|D9 O<|B9 (c7 0 (j:=o+1) (v:=v) O hb.buf) O<|BA 1 O<|A5 O<|D4<|E4 O λw9 ho9=>?_;exact⟨rfl,_,_,ho9⟩
end
section
section
variable{P:Program}{r:Option Nat}{n:Nat}{E:List (Nat×Value)}{C:I3}{H:List C2}{ops:Array Oper}{Q:Exit->Act->World->Prop}{rest:List Oper}{t u ty:TypeId}{pos:String}{after:Array Edge}{x y:Operand}{g:Option (Nat×Bool)}{dst:Option Tmp}{xT yT:TypeId}
theorem al0{ts:Array TypeId}{a:Addr}{m c:Nat}(hx:ev E x=some (.slice (some a) m c))(hc:c≠0):L1 P n E C H ⟨dst,.call ⟨.builtin .unsafeSliceData,#[x],ts⟩,ty,pos,after,g⟩ (.pointer (some a)):=by
 intro b w hf ho;have hm:(#[x]:Array Operand).map b.eval= #[.slice (some a) m c]:=by simp[hf.eval hx]
 have h1:=Lib.run_unsafeSliceData_row (P:=P) (w:=w) ts ty a m c hc;simp only[execOp,resolve,hm];simp only[invoke,builtin,Sem.run_bind,Sem.run_pure,Result.andThen_ok,h1]
theorem qJ{ts:Array TypeId}{i e m c gb:Nat}{xs:H2}(hx:ev E x=some (.slice (some ⟨gb,0,none⟩) m c))(hi:H[i]?=some (.row (.slice (some ⟨gb,0,none⟩) m c) e 1 m xs))(h0:m≠0):L1 P n E C H ⟨dst,.call ⟨.builtin .unsafeSliceData,#[x],ts⟩,ty,pos,after,g⟩ (.pointer (some ⟨gb,0,none⟩)):=by
 intro a w hf ho;have hc:c≠0:=by
  rcases(ho.rowAt hi).2 with⟨h1,_⟩|⟨g2,cap,cur,e1,_,_,hc2,_⟩
  ·cases h1
  ·simp only[Value.slice.injEq,Ck,Addr.mk.injEq,and_true,true_and] at e1;obtain⟨rfl,rfl⟩:=e1;omega
 exact al0 hx hc a w hf ho
theorem au6{ts:Array TypeId}(hx:ev E x=some (.slice none 0 0)):L1 P n E C H ⟨dst,.call ⟨.builtin .unsafeSliceData,#[x],ts⟩,ty,pos,after,g⟩ (.pointer none):=by
 intro b w hf ho;have hm:(#[x]:Array Operand).map b.eval= #[.slice none 0 0]:=by simp[hf.eval hx]
 have h1:(Builtin.unsafeSliceData_ ts ty #[.slice none 0 0]).run P w=.ok (.pointer none) w:=rfl;simp only[execOp,resolve,hm];simp only[invoke,builtin,Sem.run_bind,Sem.run_pure,Result.andThen_ok,h1]
theorem ap9{pt it:TypeId}{p:Option Addr}(hx:ev E x=some (.pointer p))(hy:ev E y=some (.int .i64 0)):L1 P n E C H ⟨dst,.call ⟨.builtin .unsafeString,#[x,y],#[pt,it]⟩,ty,pos,after,g⟩ (.string (bs [])):=by
 intro b w hf ho;have hm:(#[x,y]:Array Operand).map b.eval= #[.pointer p,.int .i64 0]:=by simp[hf.eval hx,hf.eval hy]
 have h1:=Lib.run_unsafeString_none (P:=P) w pt it ty p;simp only[execOp,resolve,hm];simp only[invoke,builtin,Sem.run_bind,Sem.run_pure,Result.andThen_ok,h1];rfl
theorem vJ(w:B6)(gb k:Nat):M0 w (λb=>b=gb) (w.freeze ⟨gb,0,none⟩ k):=by
 unfold World.freeze;split
 ·exact M0.refl _ _
 ·refine⟨rfl,rfl,rfl,by simp,λb hb hn=>?_⟩;simp only[Ke];rw[if_neg (λe=>hn e.symm)]
def Vf(P:Program)(pt e:TypeId):Bool:=PK P pt e&&Nat.beq (P.cellsOf e) 1
theorem af4{d i e gb c:Nat}{pt it:TypeId}{l:C9}(hT:Vf P pt e=true)(hl:l≠[])(hm':l.length<=1000000)(hx:ev E x=some (.pointer (some ⟨gb,0,none⟩)))(hy:ev E y=some (.int .i64 (l.length:Int)))(hi:H[i]?=some (.row (.slice (some ⟨gb,0,none⟩) l.length c) e 1 l.length (Z3 l)))(hd:Nat.blt d n=true)
  (k:At n ((d,.string (bs l))::E) C (H.set i (.row (.slice none 0 0) e 1 0 [])) (D3 r P ops Q rest)):
  At n E C H (D3 r P ops Q (⟨some d,.call ⟨.builtin .unsafeString,#[x,y],#[pt,it]⟩,ty,pos,after,none⟩::rest)):=by
 refine Ie (ι:=Unit) (λ_=>.string (bs l)) (λ_=>H.set i (.row (.slice none 0 0) e 1 0 [])) ?_ O O hd (λ_=>k);intro a w hf ho;simp only[Vf,j1] at hT;obtain⟨hp,hc1⟩:=hT;have hrow:=ho.rowAt hi;have hl0:l.length≠0:=by simpa using hl
 rcases hrow.2 with⟨h0,_⟩|⟨g2,cap,cur,e1,hbg,hg,hc2,hc3,hc4,hc5⟩
 ·cases h0
 ·simp only[Value.slice.injEq,Ck,Addr.mk.injEq,and_true,true_and] at e1;obtain⟨rfl,rfl⟩:=e1;have h1:=Lib.run_unsafeString_row (P:=P) w pt it ty e (Ts hp) (DK hc1) gb cur.size (Xh hg) l hl (by omega) (by omega) (λj z hz=>by
   refine hrow.cells (g:=gb) rfl j (.int .u8 z.toNat) ?_;simp[Z3,hz])
  refine⟨(),_,?_,ho.swap (q':=.row (.slice none 0 0) e 1 0 []) hi ((vJ w gb l.length).mono λb _ hb=>by simp[C2.blocks,Value.ownBlock,hb]) (World.ownsRow_nil _ _ _ _) (λb hb=>by simp[C2.blocks,Value.ownBlock] at hb)⟩;have hm:(#[x,y]:Array Operand).map a.eval= #[.pointer (some ⟨gb,0,none⟩),.int .i64 l.length]:=by simp[hf.eval hx,hf.eval hy]
  simp only[execOp,resolve,hm];simp only[invoke,builtin,Sem.run_bind,Sem.run_pure,Result.andThen_ok,h1];rfl
end
attribute [local irreducible] F8 D3 Exit.then Exit.inBlock Exit.noGoto wpQuiet Calls fin At G9 L3 L7 RQ
theorem SV(h o tb:Nat)(cs:J2)(v:Value)(l:C9)(w:B6)(hb:Dx cs h o v)(hn:l.length<=1000000)(hne:l≠[]\/v=.slice none 0 0)(ho:B7 (J1 w [.B1 h tb cs,.row v U8 1 l.length (Z3 l)]) [.B1 h tb cs,.row v U8 1 l.length (Z3 l)] w):
  Calls prog 16 #[.pointer (some ⟨h,o,none⟩)] w λe w'=>e=.returned (.string (bs l))/\O0 w (λk=>k∈F1 [.B1 h tb cs,.row v U8 1 l.length (Z3 l)]) [.B1 h tb cs] w':=by
 refine G7 ho func16 O ntmps16 O<|R7 1 O ?_;rintro⟨_,⟨rfl,h0⟩|⟨gb,c,rfl⟩⟩
 ·have hl0:l=[]:=Kh h0;subst hl0;refine A3<|A5 O<|C8 ?_;apply HX 12 (.val _::.val _::.val _::.val _::.val _::.val _::.val _::.val _::.val _::.val _::.val _::.val _::[]) (by kernel_rfl) (by kernel_rfl) rfl ⟨trivial,trivial,trivial,trivial,trivial,trivial,trivial,trivial,trivial,trivial,trivial,trivial,trivial⟩
  ·refine D5 O (λvs=>H8 O)<|D5 O (λvs=>N1 O)<|D5 O (λvs=>I8 1 O)<|D5 O (λvs=>c7 0 (j:=o+1) (v:=.slice none 0 0) O hb.buf)<|D5 O (λvs=>au6 O)<|D5 O (λvs=>H8 O)<|D5 O (λvs=>N1 O)<|D5 O (λvs=>I8 1 O)<|D5 O (λvs=>c7 0 (j:=o+1) (v:=.slice none 0 0) O hb.buf)<|D5 O (λvs=>Im (i:=1) (m:=0) (by kernel_rfl) O O)<|D5 O (λvs=>ap9 O O)<|D5 O (λvs=>FH O) ?_;exact l6
  ·intro vs9;refine A6<|D4<|E4 O λw9 ho9=>?_;exact⟨rfl,_,_,ho9.sublist (.cons_cons _ (Ea _))⟩
 ·have hl:l≠[]:=hne.resolve_right (λh=>by cases h);refine A3<|A5 O<|C8 ?_;have hl0:l.length≠0:=by simpa using hl
  apply HX 10 (.val _::.val _::.val _::.val _::.val _::.val _::.val _::.val _::.val _::.val _::[]) (by kernel_rfl) (by kernel_rfl) rfl ⟨trivial,trivial,trivial,trivial,trivial,trivial,trivial,trivial,trivial,trivial,trivial⟩
  ·refine D5 O (λvs=>H8 O)<|D5 O (λvs=>N1 O)<|D5 O (λvs=>I8 1 O)<|D5 O (λvs=>c7 0 (j:=o+1) (v:=.slice (some ⟨gb,0,none⟩) l.length c) O hb.buf)<|D5 O (λvs=>qJ (i:=1) O O hl0)<|D5 O (λvs=>H8 O)<|D5 O (λvs=>N1 O)<|D5 O (λvs=>I8 1 O)<|D5 O (λvs=>c7 0 (j:=o+1) (v:=.slice (some ⟨gb,0,none⟩) l.length c) O hb.buf)<|D5 O (λvs=>Im (i:=1) (m:=l.length) (by kernel_rfl) O O) ?_;exact l6
  ·intro vs9;have hT:Vf prog 103 U8=true:=by kernel_rfl
   refine Ai (E':=[(7,.pointer (some ⟨gb,0,none⟩)),(12,.int .i64 l.length)]) ⟨rfl,rfl,trivial⟩<|af4 (i:=1) (e:=U8) (gb:=gb) (c:=c) (l:=l) hT hl hn O O O O<|A5 O<|D4<|E4 O λw9 ho9=>?_;exact⟨rfl,_,_,ho9.sublist (.cons_cons _ (Ea _))⟩
end
end Go.Proofs.YtjkhokkdgfbhcaaGreatDoor
