/-
  Part 5 of what the proof of PlenumPrinted stands on: laws of walks, contracts of functions, plain laws. No condition of its own.
-/
import Derived.Test.YtjkhokkdgfbhcaaGreatDoorPd
set_option linter.defProp false
set_option linter.unusedSectionVars false
set_option linter.unusedSimpArgs false
set_option linter.unusedVariables false
set_option linter.deprecated false
set_option maxHeartbeats 16000000
namespace Go.Proofs.YtjkhokkdgfbhcaaGreatDoor
open Go.RowKit Tryz
def Z7:List Ed->List UInt8->Option Vl
 |[],_=>none
 |p::l,k=>if k=p.1 then some p.2 else Z7 l k
def BC:List Ed->List UInt8->Vl->List Ed
 |[],k,v=>[(k,v)]
 |p::l,k,v=>if k=p.1 then(k,v)::l else p::BC l k v
def R0(l:List Ed):u4:=l.map λp=>(p.1,O6 p.2)
theorem Zt(k:C9):∀(l:List Ed) (j:Nat),(EM k (R0 l) j).map (·.2)=(Z7 l k).map O6
 |[],_=>rfl
 |p::l,j=>by
  rw[R0,Rd,EM,Z7];by_cases h:k=p.1
  ·simp[h]
  ·rw[if_neg h,if_neg h];exact Zt k l (j+1)
theorem dE(l:List Ed)(k:C9):Gp (R0 l) k=(Z7 l k).map O6:=Zt k l 0
theorem aG(k:C9)(v:Vl):∀(l:List Ed) (j:Nat),(match EM k (R0 l) j with|some q=>(R0 l).set (q.1-j) (k,O6 v)|none=>R0 l++[(k,O6 v)])=R0 (BC l k v)
 |[],_=>rfl
 |p::l,j=>by
  have ih:=aG k v l (j+1);rw[BC];show(match EM k ((p.1,O6 p.2)::R0 l) j with|some q=>((p.1,O6 p.2)::R0 l).set (q.1-j) (k,O6 v)|none=>((p.1,O6 p.2)::R0 l)++[(k,O6 v)])=_;rw[EM];by_cases h:k=p.1
  ·rw[if_pos h,if_pos h];simp[R0]
  ·rw[if_neg h,if_neg h];cases hq:EM k (R0 l) (j+1) with
   |none=>
    rw[hq] at ih;simp only at ih⊢;rw[GP,ih];rfl
   |some q=>
    rw[hq] at ih;have:=(WM hq).1;simp only at ih⊢;rw[show q.1-j=(q.1-(j+1))+1 by omega,Ra,ih];rfl
theorem aw7(l:List Ed)(k:C9)(v:Vl):MU (R0 l) k (O6 v)=R0 (BC l k v):=aG k v l 0
theorem Qf(l:List Ed):(R0 l).length=l.length:=by simp[R0]
theorem Wd{k:C9}{v:Vl}:∀{l:List Ed},Z7 l k=some v->(k,v)∈l
 |[],h=>by cases h
 |p::l,h=>by
  rw[Z7] at h;split at h
  ·rename_i e;cases h;rw[e];exact j8 ..
  ·exact Cj _ (Wd h)
theorem VA{k:C9}:∀{l:List Ed},Z7 l k=none↔k∉l.map (·.1)
 |[]=>by simp[Z7]
 |p::l=>by
  rw[Z7];by_cases h:k=p.1
  ·simp[h]
  ·rw[if_neg h,VA];simp[h]
theorem WK{k:C9}{v:Vl}{x:Ed}:∀{l:List Ed},x∈BC l k v->x=(k,v)\/x∈l
 |[],h=>by simpa[BC] using h
 |p::l,h=>by
  rw[BC] at h;split at h
  ·rcases BD.1 h with h|h
   ·exact .inl h
   ·exact .inr (Cj _ h)
  ·rcases BD.1 h with h|h
   ·exact .inr (by rw[h];exact j8 ..)
   ·exact(WK h).imp id (Cj _)
theorem Wg{k:C9}{v:Vl}:∀{l:List Ed},(BC l k v).map (·.1)=if k∈l.map (·.1) then l.map (·.1) else l.map (·.1)++[k]
 |[]=>rfl
 |p::l=>by
  rw[BC];by_cases h:k=p.1
  ·simp[h]
  ·rw[if_neg h,Rd,Wg];by_cases h2:k∈l.map (·.1)
   ·simp[h2]
   ·simp[h2,h]
theorem eI{k:C9}{v:Vl}{l:List Ed}(h:(l.map (·.1)).Nodup):((BC l k v).map (·.1)).Nodup:=by
 rw[Wg];split
 ·exact h
 ·rename_i hn;exact FB.2 ⟨h,by simp,λa ha b hb e=>hn (by rw[Bt.1 hb] at e;rw[<-e];exact ha)⟩
theorem jB{k:C9}{v:Vl}(l:List Ed):(BC l k v).length=if Z7 l k=none then l.length+1 else l.length:=by
 have:=congrArg List.length (Wg (k:=k) (v:=v) (l:=l));rw[Nq] at this;rw[this];by_cases h:k∈l.map (·.1)
 ·rw[if_pos h,if_neg (λhn=>VA.1 hn h),Nq]
 ·rw[if_neg h,if_pos (VA.2 h)];simp
def LH(k p:List UInt8):Bool:=FO k&&w6 p&&V0 k p
structure Wt where
 reads:List (List UInt8)
 writes:List (List UInt8)
def Cx(W:Wt)(k:List UInt8):Bool:=W.writes.any λp=>LH k p
def Lf(W:Wt)(k:List UInt8):Bool:=Cx W k||W.reads.any λp=>LH k p
def IH(l:List (List UInt8))(k:List UInt8):Bool:=l.any λp=>V0 k p
def EL(has edits:List Ed)(k:List UInt8):Vl:=(Z7 edits k).getD ((Z7 has k).getD H4)
def Bg(v:Vl)(may:List UInt8->Bool):Int:=if v.kind≠3 then 10 else if FO v.K4=false then 3 else if may v.K4=false then 13 else 0
def Mr(W:Wt)(has edits:List Ed)(kind:Nat)(v:Vl):VE:=
 if kind=7 then PG v else if kind=8 then Od v else if kind=9 then Of v else if kind=10 then Py v
 else if Bg v (Lf W)≠0 then(H4,Bg v (Lf W))
 else if kind=6 then(Hj (decide ((EL has edits v.K4).kind≠0)),0) else(EL has edits v.K4,0)
def NV(sign:Nat)(a b:Vl):VE:=
 if sign<6 then PA sign a b else if sign=7 then Ad KX a b else if sign=8 then Ad Kt a b else if sign=9 then Ad LR a b else if sign=10 then Ad Lo a b else if sign=11 then OG a b else Ad II a b
def UC(L:List (List UInt8)):List (List UInt8):=L.mergeSort BP
def Ob(has edits:List Ed)(p:List UInt8):List (List UInt8):=(has.map (·.1)).filter (λk=>V0 k p)++(edits.map (·.1)).filter (λk=>(Z7 has k).isNone&&V0 k p)
def DJ(has edits:List Ed):List (List UInt8)->List Ed
 |[]=>[]
 |k::l=>if(EL has edits k).kind≠0 then(k,EL has edits k)::DJ has edits l else DJ has edits l
def Jo(has edits:List Ed)(p:List UInt8)(B8:Nat):List Ed:=(DJ has edits (UC (Ob has edits p))).take B8
structure Mc where
 at_:Nat
 left:Nat
 stack:List Vl
 C0:List Vl
 lists:List (List Ed×Nat)
 counts:List Nat
 edits:List Ed
 code:Int
 node:Int
 val:Vl
 ended:Bool
def V7(e node:Int)(v:Vl)(m:Mc):Mc:={m with ended:=true,code:=e,node:=node,val:=v}
def Ku(e node:Int)(m:Mc):Mc:=if e=0 then m else V7 e node H4 m
def KC(node:Int)(m:Mc):Mc:=if m.left=0 then Ku 11 node m else{m with left:=m.left-1}
def AC(v:Vl)(m:Mc):Mc:={m with stack:=m.stack++[v]}
def O9(m:Mc):Mc:={m with stack:=m.stack.dropLast}
def X6(m:Mc):Vl:=m.stack.getLast?.getD H4
def Jf(r:VE)(node:Int)(m:Mc):Mc:=if r.2=0 then AC r.1 m else V7 r.2 node H4 m
def Ee(m:Mc)(k:List UInt8):Int:=if Z7 m.edits k=none/\m.edits.length=64 then 5 else 0
def HL(k:List UInt8)(v:Vl)(node:Int)(m:Mc):Mc:=if Ee m k=0 then{m with edits:=BC m.edits k v} else V7 (Ee m k) node H4 m
def OH(W:Wt)(node:Int)(m:Mc):Mc:=
 let v:=X6 m
 let k:=X6 (O9 m)
 let m2:=O9 (O9 m)
 if Bg k (Cx W)≠0 then V7 (Bg k (Cx W)) node H4 m2 else if v.kind=0 then V7 10 node H4 m2 else HL k.K4 v node m2
def Nu(W:Wt)(node:Int)(m:Mc):Mc:=
 let k:=X6 m
 if Bg k (Cx W)≠0 then V7 (Bg k (Cx W)) node H4 (O9 m) else HL k.K4 H4 node (O9 m)
def OB(W:Wt)(has:List Ed)(B8:Nat)(node:Int)(m:Mc):Mc:=
 let v:=X6 m
 if v.kind≠3 then V7 10 node H4 (O9 m) else if w6 v.K4=false then V7 3 node H4 (O9 m)
 else if IH W.reads v.K4=false/\IH W.writes v.K4=false then V7 13 node H4 (O9 m)
 else{O9 m with lists:=m.lists++[(Jo has m.edits v.K4 B8,0)]}
def IR(a q:Nat)(node:Int)(m:Mc):Mc:=
 match m.lists.getLast? with
 |none=>m
 |some l=>match l.1[l.2]? with
  |none=>{m with lists:=m.lists.dropLast,at_:=q}
  |some x=>if m.left=0 then V7 11 node H4 m else{m with left:=m.left-1,C0:=(m.C0.set a (Fy x.1)).set (a+1) x.2,lists:=m.lists.dropLast++[(l.1,l.2+1)]}
def Kv(q:Nat)(node:Int)(m:Mc):Mc:=
 match m.counts.getLast? with
 |none=>m
 |some n=>if n=0 then{m with counts:=m.counts.dropLast,at_:=q} else if m.left=0 then V7 11 node H4 m else{m with left:=m.left-1,counts:=m.counts.dropLast++[n-1]}
def Nz(q:Nat)(b node:Int)(m:Mc):Mc:=
 if m.left=0 then V7 11 node H4 m else
 if(X6 m).kind≠1 then V7 10 node H4 {m with left:=m.left-1} else if(X6 m).num=b then{m with left:=m.left-1,at_:=q} else O9 {m with left:=m.left-1}
def PV(q:Nat)(node:Int)(m:Mc):Mc:=
 if(X6 m).kind≠1 then V7 10 node H4 (O9 m) else if(X6 m).num=0 then{O9 m with at_:=q} else O9 m
def HQ(W:Wt)(has:List Ed)(op a:Nat)(node:Int)(m:Mc):Mc:=
 if m.left=0 then V7 11 node H4 m else
 if op=4 then Jf (NV a (X6 (O9 m)) (X6 m)) node (O9 (O9 {m with left:=m.left-1}))
 else Jf (Mr W has m.edits a (X6 m)) node (O9 {m with left:=m.left-1})
def Q6(W:Wt)(has:List Ed)(G5:List Vl)(x:f9)(m:Mc):Mc:=
 if x.op=0 then(if m.left=0 then V7 11 x.node H4 m else AC (G5.getD x.a.toNat H4) {m with left:=m.left-1})
 else if x.op=1 then(if m.left=0 then V7 11 x.node H4 m else AC (m.C0.getD x.a.toNat H4) {m with left:=m.left-1})
 else if x.op=2 then{O9 m with C0:=m.C0.set x.a.toNat (X6 m)}
 else if x.op=3\/x.op=4 then HQ W has x.op.toNat x.a.toNat x.node m
 else if x.op=5 then Nz x.a.toNat x.b x.node m
 else if x.op=6 then(if(X6 m).kind≠1 then V7 10 x.node H4 m else m)
 else if x.op=7 then KC x.node m
 else if x.op=8 then PV x.a.toNat x.node m
 else if x.op=9 then{m with at_:=x.a.toNat}
 else if x.op=10 then OH W x.node m
 else if x.op=11 then Nu W x.node m
 else if x.op=12 then OB W has x.b.toNat x.node m
 else if x.op=13 then IR x.a.toNat x.b.toNat x.node m
 else if x.op=14 then{m with counts:=m.counts++[x.a.toNat]}
 else if x.op=15 then Kv x.b.toNat x.node m
 else if x.op=16 then V7 12 x.node (X6 m) (O9 m)
 else if x.op=17 then V7 0 x.node (X6 m) (O9 m)
 else V7 0 (-1) H4 m
section
variable{W:Wt}{has:List Ed}{G5:List Vl}{x:f9}{m:Mc}
theorem ZL(h:x.op=0):Q6 W has G5 x m=(if m.left=0 then V7 11 x.node H4 m else AC (G5.getD x.a.toNat H4) {m with left:=m.left-1}):=by
 unfold Q6;rw[h,if_pos rfl]
theorem kE(h:x.op=1):Q6 W has G5 x m=(if m.left=0 then V7 11 x.node H4 m else AC (m.C0.getD x.a.toNat H4) {m with left:=m.left-1}):=by
 unfold Q6;rw[h,if_neg (by decide),if_pos rfl]
theorem fH(h:x.op=2):Q6 W has G5 x m={O9 m with C0:=m.C0.set x.a.toNat (X6 m)}:=by
 unfold Q6;rw[h,if_neg (by decide),if_neg (by decide),if_pos rfl]
theorem fF(h:x.op=3):Q6 W has G5 x m=HQ W has 3 x.a.toNat x.node m:=by
 unfold Q6;rw[h,if_neg (by decide),if_neg (by decide),if_neg (by decide),if_pos (.inl rfl)];rfl
theorem dL(h:x.op=4):Q6 W has G5 x m=HQ W has 4 x.a.toNat x.node m:=by
 unfold Q6;rw[h,if_neg (by decide),if_neg (by decide),if_neg (by decide),if_pos (.inr rfl)];rfl
theorem bG(h:x.op=5):Q6 W has G5 x m=Nz x.a.toNat x.b x.node m:=by
 unfold Q6;rw[h,if_neg (by decide),if_neg (by decide),if_neg (by decide),if_neg (by decide),if_pos rfl]
theorem ZA(h:x.op=6):Q6 W has G5 x m=(if(X6 m).kind≠1 then V7 10 x.node H4 m else m):=by
 unfold Q6;rw[h,if_neg (by decide),if_neg (by decide),if_neg (by decide),if_neg (by decide),if_neg (by decide),if_pos rfl]
theorem jJ(h:x.op=7):Q6 W has G5 x m=KC x.node m:=by
 unfold Q6;rw[h,if_neg (by decide),if_neg (by decide),if_neg (by decide),if_neg (by decide),if_neg (by decide),if_neg (by decide),if_pos rfl]
theorem Zk(h:x.op=8):Q6 W has G5 x m=PV x.a.toNat x.node m:=by
 unfold Q6;rw[h,if_neg (by decide),if_neg (by decide),if_neg (by decide),if_neg (by decide),if_neg (by decide),if_neg (by decide),if_neg (by decide),if_pos rfl]
theorem Ya(h:x.op=9):Q6 W has G5 x m={m with at_:=x.a.toNat}:=by
 unfold Q6;rw[h,if_neg (by decide),if_neg (by decide),if_neg (by decide),if_neg (by decide),if_neg (by decide),if_neg (by decide),if_neg (by decide),if_neg (by decide),if_pos rfl]
theorem lR(h:x.op=10):Q6 W has G5 x m=OH W x.node m:=by
 unfold Q6;rw[h,if_neg (by decide),if_neg (by decide),if_neg (by decide),if_neg (by decide),if_neg (by decide),if_neg (by decide),if_neg (by decide),if_neg (by decide),if_neg (by decide),if_pos rfl]
theorem eD(h:x.op=11):Q6 W has G5 x m=Nu W x.node m:=by
 unfold Q6;rw[h,if_neg (by decide),if_neg (by decide),if_neg (by decide),if_neg (by decide),if_neg (by decide),if_neg (by decide),if_neg (by decide),if_neg (by decide),if_neg (by decide),if_neg (by decide),if_pos rfl]
theorem Zd(h:x.op=12):Q6 W has G5 x m=OB W has x.b.toNat x.node m:=by
 unfold Q6;rw[h,if_neg (by decide),if_neg (by decide),if_neg (by decide),if_neg (by decide),if_neg (by decide),if_neg (by decide),if_neg (by decide),if_neg (by decide),if_neg (by decide),if_neg (by decide),if_neg (by decide),if_pos rfl]
theorem iG(h:x.op=13):Q6 W has G5 x m=IR x.a.toNat x.b.toNat x.node m:=by
 unfold Q6;rw[h,if_neg (by decide),if_neg (by decide),if_neg (by decide),if_neg (by decide),if_neg (by decide),if_neg (by decide),if_neg (by decide),if_neg (by decide),if_neg (by decide),if_neg (by decide),if_neg (by decide),if_neg (by decide),if_pos rfl]
theorem jN(h:x.op=14):Q6 W has G5 x m={m with counts:=m.counts++[x.a.toNat]}:=by
 unfold Q6;rw[h,if_neg (by decide),if_neg (by decide),if_neg (by decide),if_neg (by decide),if_neg (by decide),if_neg (by decide),if_neg (by decide),if_neg (by decide),if_neg (by decide),if_neg (by decide),if_neg (by decide),if_neg (by decide),if_neg (by decide),if_pos rfl]
theorem bD(h:x.op=15):Q6 W has G5 x m=Kv x.b.toNat x.node m:=by
 unfold Q6;rw[h,if_neg (by decide),if_neg (by decide),if_neg (by decide),if_neg (by decide),if_neg (by decide),if_neg (by decide),if_neg (by decide),if_neg (by decide),if_neg (by decide),if_neg (by decide),if_neg (by decide),if_neg (by decide),if_neg (by decide),if_neg (by decide),if_pos rfl]
theorem Yx(h:x.op=16):Q6 W has G5 x m=V7 12 x.node (X6 m) (O9 m):=by
 unfold Q6;rw[h,if_neg (by decide),if_neg (by decide),if_neg (by decide),if_neg (by decide),if_neg (by decide),if_neg (by decide),if_neg (by decide),if_neg (by decide),if_neg (by decide),if_neg (by decide),if_neg (by decide),if_neg (by decide),if_neg (by decide),if_neg (by decide),if_neg (by decide),if_pos rfl]
theorem Zf(h:x.op=17):Q6 W has G5 x m=V7 0 x.node (X6 m) (O9 m):=by
 unfold Q6;rw[h,if_neg (by decide),if_neg (by decide),if_neg (by decide),if_neg (by decide),if_neg (by decide),if_neg (by decide),if_neg (by decide),if_neg (by decide),if_neg (by decide),if_neg (by decide),if_neg (by decide),if_neg (by decide),if_neg (by decide),if_neg (by decide),if_neg (by decide),if_neg (by decide),if_pos rfl]
theorem lS(h:x.op=18):Q6 W has G5 x m=V7 0 (-1) H4 m:=by
 unfold Q6;rw[h,if_neg (by decide),if_neg (by decide),if_neg (by decide),if_neg (by decide),if_neg (by decide),if_neg (by decide),if_neg (by decide),if_neg (by decide),if_neg (by decide),if_neg (by decide),if_neg (by decide),if_neg (by decide),if_neg (by decide),if_neg (by decide),if_neg (by decide),if_neg (by decide),if_neg (by decide)]
end
structure Ab(l:List Ed):Prop where
 ok:∀x∈l,N2 x.2/\x.1.length<=64
structure LM(B8:Nat)(T:Nat->Ty)(L:Nat)(m:Mc):Prop where
 pos:m.at_<=L
 run:m.ended=false
 stack:m.stack.length=(T m.at_).h
 lists:m.lists.length=(T m.at_).d
 counts:m.counts.length=(T m.at_).c
 C0:m.C0.length=B8
 vs:∀v∈m.stack,N2 v
 Cg:∀v∈m.C0,N2 v
 ls:∀q∈m.lists,Ab q.1/\q.1.length<=64/\q.2<=q.1.length
 cs:∀n∈m.counts,n<=64
 es:Ab m.edits
 en:(m.edits.map (·.1)).Nodup
 el:m.edits.length<=64
theorem fZ{k:C9}(h:FO k=true):k.length<=24:=by
 simp only[FO,w6,j1,decide_eq_true_eq] at h;exact h.2.1
theorem dM{has edits:List Ed}(hh:Ab has)(he:Ab edits)(k:C9):N2 (EL has edits k):=by
 unfold EL;cases h:Z7 edits k with
 |some v=>exact(he.ok _ (Wd h)).1
 |none=>
  cases h2:Z7 has k with
  |some v=>exact(hh.ok _ (Wd h2)).1
  |none=>exact Fh
theorem nN{W:Wt}{has edits:List Ed}(hh:Ab has)(he:Ab edits)(kind:Nat){v:Vl}(hv:N2 v):N2 (Mr W has edits kind v).1:=by
 unfold Mr;split
 ·exact tY hv
 split
 ·exact zI hv
 split
 ·exact nQ v
 split
 ·exact vK hv
 split
 ·exact Fh
 split
 ·exact TB _
 ·exact dM hh he _
theorem ac7(sign:Nat){a b:Vl}(ha:N2 a)(hb:N2 b):N2 (NV sign a b).1:=by
 unfold NV;split
 ·exact aq5 _ _ _
 split
 ·exact Oz jG ha hb
 split
 ·exact Oz af7 ha hb
 split
 ·exact Oz qY ha hb
 split
 ·exact Oz zR ha hb
 split
 ·exact rC _ _
 ·exact Oz aA3 ha hb
theorem Zr{has edits:List Ed}(hh:Ab has)(he:Ab edits):∀{l:List (List UInt8)},(∀k∈l,k.length<=64)->Ab (DJ has edits l)
 |[],_=>⟨λx hx=>by cases hx⟩
 |k::l,h=>by
  have ih:=Zr hh he (l:=l) (λk hk=>h k (Cj _ hk));rw[DJ];split
  ·refine⟨λx hx=>?_⟩;rcases BD.1 hx with rfl|hx
   ·exact⟨dM hh he k,h k (j8 ..)⟩
   ·exact ih.ok x hx
  ·exact ih
theorem wX{has edits:List Ed}(hh:Ab has)(he:Ab edits)(p:C9):∀k∈Ob has edits p,k.length<=64:=by
 intro k hk;unfold Ob at hk;rcases q0.1 hk with hk|hk
 ·obtain⟨x,hx,rfl⟩:=FC.1 (Pi.1 hk).1;exact(hh.ok x hx).2
 ·obtain⟨x,hx,rfl⟩:=FC.1 (Pi.1 hk).1;exact(he.ok x hx).2
theorem oT{has edits:List Ed}(hh:Ab has)(he:Ab edits)(p:C9)(B8:Nat):Ab (Jo has edits p B8)/\(Jo has edits p B8).length<=B8:=by
 have h:=Zr hh he (l:=UC (Ob has edits p)) (λk hk=>wX hh he p k ((Rq _ BP).mem_iff.1 hk));exact⟨⟨λx hx=>h.ok x (YF hx)⟩,by unfold Jo;rw[ED];omega⟩
def Jn(L:Nat)(I:List f9)(p:Nat):Nat:=match I[p]? with
 |some x=>if x.op=13\/x.op=15 then 2*(L-x.b.toNat)+1 else 2*(L-p)
 |none=>0
def Gn(L:Nat)(I:List f9)(m:Mc):Nat:=m.left*(2*L+4)+Jn L I m.at_
theorem Qi{B8 nv L:Nat}{I:List f9}{T:Nat->Ty}(ok:∀p x,I[p]?=some x->r4 B8 nv L I T p x)(p:Nat):Jn L I p<=2*(L-p):=by
 unfold Jn;cases h:I[p]? with
 |none=>exact R5 _
 |some x=>
  dsimp only;split
  ·rename_i h2;have:=ok p x h;cases this<;>first|(exfalso;revert h2;decide)|(simp at h2)|skip
   ·rename_i hq _ _ _;simp only[Cm];omega
   ·rename_i hq _ _ _;simp only[Cm];omega
  ·exact L6 _
theorem y9{α:Type}{l:List α}{n:Nat}(h:l.length=n+1):∃A x,l=A++[x]/\A.length=n:=by
 have hne:l≠[]:=by intro e;rw[e] at h;cases h
 exact⟨l.dropLast,l.getLast hne,(mP hne).symm,by rw[List.length_dropLast];omega⟩
section
variable{B8:Nat}{M:Cd}{T:Nat->Ty}{W:Wt}{has:List Ed}{m m':Mc}{x:f9}
theorem Jt(ok:∀p x,M.ins[p]?=some x->r4 B8 M.G5.length (M.ins.length-1) M.ins T p x)(hl:m'.left+1=m.left):Gn (M.ins.length-1) M.ins m'<Gn (M.ins.length-1) M.ins m:=by
 unfold Gn;have h1:=Qi ok m'.at_;generalize hK:2*(M.ins.length-1)+4=K;have h2:(m'.left+1)*K=m'.left*K+K:=Np _ _;rw[<-hl,h2];omega
theorem UM(hl:m'.left=m.left)(hr:Jn (M.ins.length-1) M.ins m'.at_<Jn (M.ins.length-1) M.ins m.at_):Gn (M.ins.length-1) M.ins m'<Gn (M.ins.length-1) M.ins m:=by
 unfold Gn;rw[hl];omega
theorem eF{L p:Nat}{I:List f9}(hx:I[p]?=some x)(hn:¬(x.op=13\/x.op=15)):Jn L I p=2*(L-p):=by
 unfold Jn;rw[hx];dsimp only;rw[if_neg hn]
theorem XL{L p q:Nat}{I:List f9}(hx:I[p]?=some x)(hn:x.op=13\/x.op=15)(hb:x.b=(q:Int)):Jn L I p=2*(L-q)+1:=by
 unfold Jn;rw[hx];dsimp only;rw[if_pos hn,hb,Cm]
theorem NO(ok:∀p x,M.ins[p]?=some x->r4 B8 M.G5.length (M.ins.length-1) M.ins T p x)(hx:M.ins[m.at_]?=some x)(hn:¬(x.op=13\/x.op=15))(hp:m.at_<M.ins.length-1)(hl:m'.left=m.left)(hat:m.at_<m'.at_):Gn (M.ins.length-1) M.ins m'<Gn (M.ins.length-1) M.ins m:=by
 refine UM hl ?_;rw[eF hx hn];have:=Qi ok m'.at_;omega
theorem UF{l:List Vl}{v:Vl}(h:∀v∈l,N2 v)(hv:N2 v):∀u∈l++[v],N2 u:=λu hu=>by
 rcases q0.1 hu with hu|hu
 ·exact h u hu
 ·rw[Bt.1 hu];exact hv
theorem VV{l:List Vl}{v:Vl}{i:Nat}(h:∀v∈l,N2 v)(hv:N2 v):∀u∈l.set i v,N2 u:=λu hu=>by
 rcases mN hu with hu|rfl
 ·exact h u hu
 ·exact hv
theorem ZD{l:List Vl}(h:∀v∈l,N2 v)(i:Nat):N2 (l.getD i H4):=by
 rw[W6];cases he:l[i]? with
 |none=>exact Fh
 |some v=>exact h v (CP he)
def Xo(B8:Nat)(T:Nat->Ty)(M:Cd)(m m':Mc):Prop:=m'.ended=true\/(LM B8 T (M.ins.length-1) m'/\Gn (M.ins.length-1) M.ins m'<Gn (M.ins.length-1) M.ins m)
theorem BK{e node:Int}{v:Vl}{m0:Mc}:Xo B8 T M m (V7 e node v m0):=.inl rfl
theorem bJ(hc:Jh B8 M T)(hi:LM B8 T (M.ins.length-1) m)(hx:M.ins[m.at_]?=some x)(hn:¬(x.op=13\/x.op=15))(hp:m.at_<M.ins.length-1)(k:C9)(hk:k.length<=64){v:Vl}(hv:N2 v)(node:Int){m0:Mc}(h0:m0.at_=m.at_+1)(hr:m0.ended=false)(hl0:m0.left=m.left)
  (hst:m0.stack.length=(T (m.at_+1)).h)(hls:m0.lists=m.lists)(hcs:m0.counts=m.counts)(hsl:m0.C0=m.C0)(hes:m0.edits=m.edits)(hvs:∀v∈m0.stack,N2 v)(ht:(T (m.at_+1)).d=(T m.at_).d/\(T (m.at_+1)).c=(T m.at_).c):Xo B8 T M m (HL k v node m0):=by
 unfold HL;split
 ·rename_i hce;have hce2:¬(Z7 m.edits k=none/\m.edits.length=64):=by
   unfold Ee at hce;rw[hes] at hce;intro h;rw[if_pos h] at hce;cases hce
  refine .inr ⟨⟨by show m0.at_<=M.ins.length-1;omega,hr,by rw[show({m0 with edits:=BC m0.edits k v}:Mc).at_=m.at_+1 from h0];exact hst,by show m0.lists.length=(T m0.at_).d;rw[h0,hls,hi.lists,ht.1],by show m0.counts.length=(T m0.at_).c;rw[h0,hcs,hi.counts,ht.2],by dsimp only;rw[hsl];exact hi.C0,hvs,by dsimp only;rw[hsl];exact hi.Cg,by dsimp only;rw[hls];exact hi.ls,by dsimp only;rw[hcs];exact hi.cs,⟨λy hy=>?_⟩,?_,?_⟩,NO hc.ok hx hn hp hl0 (by dsimp only;omega)⟩
  ·rw[hes] at hy;rcases WK hy with rfl|hy
   ·exact⟨hv,hk⟩
   ·exact hi.es.ok y hy
  ·dsimp only;rw[hes];exact eI hi.en
  ·dsimp only;rw[hes,jB];have:=hi.el;split
   ·rename_i hnone;have h64:m.edits.length≠64:=λh=>hce2 ⟨hnone,h⟩;omega
   ·exact this
 ·exact BK
theorem pH(hc:Jh B8 M T){p:Nat}(hx:M.ins[p]?=some x)(h:x.op≠18):p<M.ins.length-1:=by
 obtain⟨y,hy,hop⟩:=hc.last;have hlt:=(N5.1 hx).1;rcases w7 p (M.ins.length-1) with h1|h1
 ·exact h1
 ·have:p=M.ins.length-1:=by omega
  subst this;rw[hy] at hx;cases hx;exact absurd hop h
theorem jO{v:Vl}{may:List UInt8->Bool}(h:¬Bg v may≠0):v.K4.length<=64:=by
 have h:=Classical.not_not.1 h;unfold Bg at h;split at h
 ·cases h
 split at h
 ·cases h
 ·rename_i h2;have:=fZ (Bool.not_eq_false _▸h2);omega
theorem Sh(hc:Jh B8 M T)(hh:Ab has)(hi:LM B8 T (M.ins.length-1) m)(hx:M.ins[m.at_]?=some x):Xo B8 T M m (Q6 W has M.G5 x {m with at_:=m.at_+1}):=by
 have hok:=hc.ok _ x hx;obtain⟨p,left,stack,C0,lists,counts,edits,code,node,val,ended⟩:=m;have hst:=hi.stack;have hls:=hi.lists;have hcs:=hi.counts;have hvs:=hi.vs;dsimp only at hx hok hst hls hcs hvs⊢;have hplt:x.op≠18->p<M.ins.length-1:=pH hc hx;cases hok with
 |const a h d c b j ha h0 h1=>
  have hp:=hplt (by simp);rw[ZL rfl];dsimp only;split
  ·exact BK
  ·rename_i hl;rw[h0] at hst hls hcs;refine .inr ⟨⟨hp,hi.run,by simp[AC,h1,hst],by simp[AC,h1,hls],by simp[AC,h1,hcs],hi.C0,UF hvs (ZD hc.G5 _),hi.Cg,hi.ls,hi.cs,hi.es,hi.en,hi.el⟩,Jt hc.ok (by simp[AC] at hl⊢;omega)⟩
 |load a h d c b j ha h0 h1=>
  have hp:=hplt (by simp);rw[kE rfl];dsimp only;split
  ·exact BK
  ·rename_i hl;rw[h0] at hst hls hcs;refine .inr ⟨⟨hp,hi.run,by simp[AC,h1,hst],by simp[AC,h1,hls],by simp[AC,h1,hcs],hi.C0,UF hvs (ZD hi.Cg _),hi.Cg,hi.ls,hi.cs,hi.es,hi.en,hi.el⟩,Jt hc.ok (by simp[AC] at hl⊢;omega)⟩
 |store a h d c b j ha h0 h1=>
  have hp:=hplt (by simp);rw[fH rfl];dsimp only;rw[h0] at hst hls hcs;obtain⟨S,v,rfl,hS⟩:=y9 hst;have hv:N2 v:=hvs v (by simp);have hS2:∀u∈S,N2 u:=λu hu=>hvs u (by simp[hu]);refine .inr ⟨⟨hp,hi.run,by simp[O9,h1,hS],by simp[O9,h1,hls],by simp[O9,h1,hcs],by simpa[O9] using hi.C0,by simpa[O9] using hS2,by simpa[O9,X6] using VV hi.Cg hv,hi.ls,hi.cs,hi.es,hi.en,hi.el⟩,NO hc.ok hx (by simp) hp rfl (Nat.lt_succ_self _)⟩
 |call k h d c b j hk h0 h1=>
  have hp:=hplt (by simp);rw[fF rfl];dsimp only;rw[h0] at hst hls hcs;obtain⟨S,v,rfl,hS⟩:=y9 hst;have hv:N2 v:=hvs v (by simp);have hS2:∀u∈S,N2 u:=λu hu=>hvs u (by simp[hu]);unfold HQ;split
  ·exact BK
  rename_i hl;rw[if_neg (by decide)];unfold Jf;split
  ·refine .inr ⟨⟨hp,hi.run,by simp[O9,AC,h1,hS],by simp[O9,AC,h1,hls],by simp[O9,AC,h1,hcs],by simpa[O9,AC] using hi.C0,?_,hi.Cg,hi.ls,hi.cs,hi.es,hi.en,hi.el⟩,Jt hc.ok (by simp[AC,O9] at hl⊢;omega)⟩;have:=UF hS2 (nN (W:=W) hh hi.es k hv);simpa[O9,AC,X6] using this
  ·exact BK
 |two a h d c b j ha h0 h1=>
  have hp:=hplt (by simp);rw[dL rfl];dsimp only;rw[h0] at hst hls hcs;obtain⟨S1,v,rfl,hS1⟩:=y9 (n:=h+1) hst;obtain⟨S,u,rfl,hS⟩:=y9 hS1;have hv:N2 v:=hvs v (by simp);have hu:N2 u:=hvs u (by simp);have hS2:∀u∈S,N2 u:=λy hy=>hvs y (by simp[hy]);unfold HQ;split
  ·exact BK
  rename_i hl;rw[if_pos (by decide)];unfold Jf;split
  ·refine .inr ⟨⟨hp,hi.run,by simp[O9,AC,h1,hS],by simp[O9,AC,h1,hls],by simp[O9,AC,h1,hcs],by simpa[O9,AC] using hi.C0,?_,hi.Cg,hi.ls,hi.cs,hi.es,hi.en,hi.el⟩,Jt hc.ok (by simp[AC,O9] at hl⊢;omega)⟩;have:=UF hS2 (ac7 a hu hv);simpa[O9,AC,X6] using this
  ·exact BK
 |both q h d c b j hq h0 h1 h2=>
  have hp:=hplt (by simp);rw[bG rfl];dsimp only;rw[h0] at hst hls hcs;unfold Nz;split
  ·exact BK
  rename_i hl;split
  ·exact BK
  split
  ·refine .inr ⟨⟨hq.2,hi.run,by simp[h2,hst],by simp[h2,hls],by simp[h2,hcs],hi.C0,hvs,hi.Cg,hi.ls,hi.cs,hi.es,hi.en,hi.el⟩,Jt hc.ok (by simp at hl⊢;omega)⟩
  ·obtain⟨S,v,rfl,hS⟩:=y9 hst;have hS2:∀u∈S,N2 u:=λu hu=>hvs u (by simp[hu]);refine .inr ⟨⟨hp,hi.run,by simp[O9,h1,hS],by simp[O9,h1,hls],by simp[O9,h1,hcs],hi.C0,by simpa[O9] using hS2,hi.Cg,hi.ls,hi.cs,hi.es,hi.en,hi.el⟩,Jt hc.ok (by simp[O9] at hl⊢;omega)⟩
 |XU h d c a b j h0 h1=>
  have hp:=hplt (by simp);rw[ZA rfl];dsimp only;rw[h0] at hst hls hcs;split
  ·exact BK
  ·exact .inr ⟨⟨hp,hi.run,by simp[h1,hst],by simp[h1,hls],by simp[h1,hcs],hi.C0,hvs,hi.Cg,hi.ls,hi.cs,hi.es,hi.en,hi.el⟩,NO hc.ok hx (by simp) hp rfl (Nat.lt_succ_self _)⟩
 |step h d c a b j h0 h1=>
  have hp:=hplt (by simp);rw[jJ rfl];dsimp only;rw[h0] at hst hls hcs;unfold KC;split
  ·exact BK
  ·rename_i hl;exact .inr ⟨⟨hp,hi.run,by simp[h1,hst],by simp[h1,hls],by simp[h1,hcs],hi.C0,hvs,hi.Cg,hi.ls,hi.cs,hi.es,hi.en,hi.el⟩,Jt hc.ok (by simp at hl⊢;omega)⟩
 |UW q h d c b j hq h0 h1 h2=>
  have hp:=hplt (by simp);rw[Zk rfl];dsimp only;rw[h0] at hst hls hcs;obtain⟨S,v,rfl,hS⟩:=y9 hst;have hS2:∀u∈S,N2 u:=λu hu=>hvs u (by simp[hu]);unfold PV;split
  ·exact BK
  split
  ·exact .inr ⟨⟨hq.2,hi.run,by simp[O9,h2,hS],by simp[O9,h2,hls],by simp[O9,h2,hcs],hi.C0,by simpa[O9] using hS2,hi.Cg,hi.ls,hi.cs,hi.es,hi.en,hi.el⟩,NO hc.ok hx (by simp) hp rfl hq.1⟩
  ·exact .inr ⟨⟨hp,hi.run,by simp[O9,h1,hS],by simp[O9,h1,hls],by simp[O9,h1,hcs],hi.C0,by simpa[O9] using hS2,hi.Cg,hi.ls,hi.cs,hi.es,hi.en,hi.el⟩,NO hc.ok hx (by simp) hp rfl (Nat.lt_succ_self _)⟩
 |jump q h d c b j hq h0 h2=>
  have hp:=hplt (by simp);rw[Ya rfl];dsimp only;rw[h0] at hst hls hcs;refine .inr ⟨⟨hq.2,hi.run,by simp[h2,hst],by simp[h2,hls],by simp[h2,hcs],hi.C0,hvs,hi.Cg,hi.ls,hi.cs,hi.es,hi.en,hi.el⟩,UM rfl ?_⟩;rw[eF hx (by simp)];dsimp only[Int.toNat_natCast];rcases hq.1 with h|⟨y,hy,hop,hb⟩
  ·have:=Qi hc.ok q;omega
  ·rw[XL hy hop hb];omega
 |put h d c a b j h0 h1=>
  have hp:=hplt (by simp);rw[lR rfl];dsimp only;rw[h0] at hst hls hcs;obtain⟨S1,v,rfl,hS1⟩:=y9 (n:=h+1) hst;obtain⟨S,u,rfl,hS⟩:=y9 hS1;have hv:N2 v:=hvs v (by simp);have hS2:∀u∈S,N2 u:=λy hy=>hvs y (by simp[hy]);unfold OH;dsimp only;split
  ·exact BK
  rename_i hk;split
  ·exact BK
  ·exact bJ hc hi hx (by simp) hp _ (jO hk) (by simpa[X6] using hv) _ rfl hi.run rfl (by simp[O9,h1,hS]) rfl rfl rfl rfl (by simpa[O9] using hS2) (by simp[h0,h1])
 |del h d c a b j h0 h1=>
  have hp:=hplt (by simp);rw[eD rfl];dsimp only;rw[h0] at hst hls hcs;obtain⟨S,v,rfl,hS⟩:=y9 hst;have hS2:∀u∈S,N2 u:=λy hy=>hvs y (by simp[hy]);unfold Nu;dsimp only;split
  ·exact BK
  rename_i hk;exact bJ hc hi hx (by simp) hp _ (jO hk) Fh _ rfl hi.run rfl (by simp[O9,h1,hS]) rfl rfl rfl rfl (by simpa[O9] using hS2) (by simp[h0,h1])
 |scan n h d c a j hn h0 h1=>
  have hp:=hplt (by simp);rw[Zd rfl];dsimp only;rw[h0] at hst hls hcs;obtain⟨S,v,rfl,hS⟩:=y9 hst;have hS2:∀u∈S,N2 u:=λy hy=>hvs y (by simp[hy]);unfold OB;dsimp only;split
  ·exact BK
  split
  ·exact BK
  split
  ·exact BK
  ·refine .inr ⟨⟨hp,hi.run,by simp[O9,h1,hS],by simp[O9,h1,hls],by simp[O9,h1,hcs],hi.C0,by simpa[O9] using hS2,hi.Cg,λq hq=>?_,hi.cs,hi.es,hi.en,hi.el⟩,NO hc.ok hx (by simp) hp rfl (Nat.lt_succ_self _)⟩;rcases List.mem_append.1 hq with hq|hq
   ·exact hi.ls q hq
   ·rw[List.mem_singleton.1 hq];have:=oT hh hi.es (X6 ⟨p+1,left,S++[v],C0,lists,counts,edits,code,node,val,ended⟩).K4 n;exact⟨this.1,Nat.le_trans this.2 hn,Nat.zero_le _⟩
 |each a q h d c j ha hq h0 h1 h2=>
  have hp:=hplt (by simp);rw[iG rfl];dsimp only;rw[h0] at hst hls hcs;obtain⟨A,l,rfl,hA⟩:=y9 hls;have hA2:∀q∈A,_:=λq hq=>hi.ls q (by simp[hq]);have hl2:=hi.ls l (by simp);unfold IR;simp only[List.getLast?_append,List.getLast?_singleton,Option.some_or,List.dropLast_concat,Int.toNat_natCast];split
  ·refine .inr ⟨⟨hq.2,hi.run,by simp[h2,hst],by simp[h2,hA],by simp[h2,hcs],hi.C0,hvs,hi.Cg,hA2,hi.cs,hi.es,hi.en,hi.el⟩,UM rfl ?_⟩;rw[XL hx (.inl rfl) rfl];have:=Qi hc.ok q;dsimp only;omega
  ·rename_i y hy;split
   ·exact BK
   ·rename_i hlf;have hy1:=hl2.1.ok y (List.mem_of_getElem? hy);have hlt:=(List.getElem?_eq_some_iff.1 hy).1;refine .inr ⟨⟨hp,hi.run,by simp[h1,hst],by simp[h1,hA],by simp[h1,hcs],by simpa using hi.C0,hvs,VV (VV hi.Cg (Vr hy1.2)) hy1.1,λq hq=>?_,hi.cs,hi.es,hi.en,hi.el⟩,Jt hc.ok (by simp at hlf⊢;omega)⟩;rcases List.mem_append.1 hq with hq|hq
    ·exact hA2 q hq
    ·rw[List.mem_singleton.1 hq];exact⟨hl2.1,hl2.2.1,hlt⟩
 |turns n h d c b j hn h0 h1=>
  have hp:=hplt (by simp);rw[jN rfl];dsimp only;rw[h0] at hst hls hcs;refine .inr ⟨⟨hp,hi.run,by simp[h1,hst],by simp[h1,hls],by simp[h1,hcs],hi.C0,hvs,hi.Cg,hi.ls,λk hk=>?_,hi.es,hi.en,hi.el⟩,NO hc.ok hx (by simp) hp rfl (Nat.lt_succ_self _)⟩;rcases List.mem_append.1 hk with hk|hk
  ·exact hi.cs k hk
  ·rw[List.mem_singleton.1 hk];exact hn
 |again q h d c a j hq h0 h1 h2=>
  have hp:=hplt (by simp);rw[bD rfl];dsimp only;rw[h0] at hst hls hcs;obtain⟨A,l,rfl,hA⟩:=y9 hcs;have hA2:∀q∈A,q<=64:=λq hq=>hi.cs q (by simp[hq]);have hl2:l<=64:=hi.cs l (by simp);unfold Kv;simp only[List.getLast?_append,List.getLast?_singleton,Option.some_or,List.dropLast_concat,Int.toNat_natCast];split
  ·refine .inr ⟨⟨hq.2,hi.run,by simp[h2,hst],by simp[h2,hls],by simp[h2,hA],hi.C0,hvs,hi.Cg,hi.ls,hA2,hi.es,hi.en,hi.el⟩,UM rfl ?_⟩;rw[XL hx (.inr rfl) rfl];have:=Qi hc.ok q;dsimp only;omega
  ·split
   ·exact BK
   ·rename_i hlf;refine .inr ⟨⟨hp,hi.run,by simp[h1,hst],by simp[h1,hls],by simp[h1,hA],hi.C0,hvs,hi.Cg,hi.ls,λk hk=>?_,hi.es,hi.en,hi.el⟩,Jt hc.ok (by simp at hlf⊢;omega)⟩;rcases List.mem_append.1 hk with hk|hk
    ·exact hA2 k hk
    ·rw[List.mem_singleton.1 hk];omega
 |abort h d c a b j h0=>
  rw[Yx rfl];dsimp only;exact BK
 |ret h d c a b j h0=>
  rw[Zf rfl];dsimp only;exact BK
 |fin a b j hp=>
  rw[lS rfl];exact BK
end
section
attribute [local irreducible] F8 D3 Exit.then Exit.inBlock Exit.noGoto wpQuiet Calls fin At G9 L3 L7 RQ R9
abbrev CW:Nat:=114
abbrev Ew:Nat:=203
abbrev t7:Nat:=200
structure T4 where
 gc:Nat
 rv:Value
 wv:Value
 gh:Nat
 ge:Nat
 has:List Ed
structure Cs where
 sv:Value
 T6:Value
 lv:Value
 cv:Value
 ls:List (Value×List Ed×Nat)
def IC(i:Nat):Value->Value
 |.slice (some ⟨g,o,p⟩) n c=>.slice (some ⟨g,if c=i then o+(i-1)*4 else o+i*4,p⟩) (n-i) (c-i)
 |v=>v
def n5(q:Value×List Ed×Nat):Value:=IC q.2.2 q.1
def Bd(q:Value×List Ed×Nat):C2:=.row q.1 Ew 4 q.2.1.length (d3 q.2.1)
def y7(l:List Nat):List Value:=l.map λ(x:Nat)=>.int .i64 (x:Int)
def Ez(e:T4)(z:Cs)(m:Mc):Array Value:= #[.pointer (some ⟨e.gc,0,none⟩),e.rv,e.wv,.int .i64 m.at_,.int .i64 m.left,z.sv,z.T6,z.lv,z.cv,.map (some e.gh),.map (some e.ge),.int .i64 m.code,.int .i64 m.node,.int .i64 m.val.kind,.int .i64 m.val.num,.string (bs m.val.K4),.int .i64 0,.slice none 0 0,.bool m.ended]
def O3(g:Nat)(e:T4)(z:Cs)(m:Mc):List C2:=
 .B1 g CW (Ez e z m)::.row z.sv I4 3 m.stack.length (P8 m.stack)::.row z.T6 I4 3 m.C0.length (P8 m.C0)::.row z.lv t7 1 m.lists.length (z.ls.map n5)::.row z.cv S7 1 m.counts.length (y7 m.counts)::.obj e.gh (P2 (R0 e.has))::.obj e.ge (P2 (R0 m.edits))::z.ls.map Bd
def HV(z:Cs)(m:Mc):Prop:=z.ls.map (·.2)=m.lists
structure ER(w0:World)(e:T4)(W:Wt)(M:Cd)(B8:Int):Prop where
 p6:Cr w0
 rv:T7 w0 e.rv (D1 W.reads)
 wv:T7 w0 e.wv (D1 W.writes)
 code:Hd w0 e.gc B8 M
 rl:W.reads.length<=1000
 wl:W.writes.length<=1000
 aB6:Ab e.has
 aB8:(e.has.map (·.1)).Nodup
 rB:e.has.length<=5000
structure MW(w0:World)(C:I3):Prop where
 below:Below w0.heap.size w0 C.W
 low:∀k,C.L k->w0.heap.size<=k
def PD(w0:World)(H:List C2):Prop:=∀k∈F1 H,w0.heap.size<=k
theorem B7.mw{C:I3}{H:List C2}{w w0:B6}(ho:B7 C H w)(hG:MW w0 C):Below w0.heap.size w0 w:=
 ⟨ho.X4.os.trans hG.below.os,ho.X4.tape.trans hG.below.tape,ho.X4.output.trans hG.below.output,j7 hG.below.size ho.X4.size,λk hk=>(ho.X4.old k (ID hk hG.below.size) (λh=>by have:=hG.low k h;omega)).trans (hG.below.block k hk)⟩
theorem B7.qC{C:I3}{H:List C2}{w w0:B6}(ho:B7 C H w)(hG:MW w0 C):PD w0 H:=λk hk=>by
 rcases(ho.X8 k hk).1 with h|h
 ·have:=hG.below.size;omega
 ·exact hG.low k (ho.sub k h)
theorem PD.left{w0:B6}{A B:List C2}(h:PD w0 (A++B)):PD w0 A:=λk hk=>h k (by rw[DY];exact Lz _ hk)
theorem k6{w0 w:B6}{H:List C2}(hb:Below w0.heap.size w0 w)(hU:PD w0 H):MW w0 (J1 w H):=⟨hb,hU⟩
def xQ(w:World)(H:List C2)(g:Nat)(e:T4)(m':Mc)(u:Value)(en:Ending)(w':World):Prop:=∃z',en=.returned u/\HV z' m'/\O0 w (λk=>k∈F1 H) (O3 g e z' m') w'
def Y5(w0:World)(e:T4)(m:Mc)(fn:FuncId)(args:Nat->Array Value)(m':Mc)(u:Value):Prop:=
 ∀(g:Nat) (z:Cs) (w:World),HV z m->Below w0.heap.size w0 w->PD w0 (O3 g e z m)->B7 (J1 w (O3 g e z m)) (O3 g e z m) w->Calls prog fn (args g) w (xQ w (O3 g e z m) g e m' u)
section
variable{C:I3}{H:List C2}{E:List (Nat×Value)}{n:Nat}{r:Option Nat}{Q:Exit->Act->World->Prop}{ops:Array Oper}{rest:List Oper}
theorem P0{d:Nat}{op:Op}{ty:TypeId}{pos:String}{after:Array Edge}{fn:FuncId}{w0:B6}{g:Nat}{e:T4}{z:Cs}{m:Mc}{args:Nat->Array Value}(R:List C2){m':Mc}{u:Value}(hc:Y5 w0 e m fn args m' u)(hG:MW w0 C)(hz:HV z m)(hH:H=R++O3 g e z m)
  (he:f0 prog n E C (O3 g e z m++R) ⟨some d,op,ty,pos,after,none⟩ fn (args g))(hn:Op.X9 op=false)(hd:Nat.blt d n=true)
  (k:∀z',HV z' m'->At n ((d,u)::E) C (R++O3 g e z' m') (D3 r prog ops Q rest)):At n E C H (D3 r prog ops Q (⟨some d,op,ty,pos,after,none⟩::rest)):=
 Oa (ι:=Cs) (λz'=>HV z' m') R _ (λ_=>u) (λz'=>O3 g e z' m') hH he (λw ho1 ho=>(hc g z w hz (ho1.mw hG) (ho1.qC hG).left ho).mono λe w' ⟨z',h1,h2,h3⟩=>⟨z',h1,h3,h2⟩) hn hd k
end
theorem UP(w0:B6)(e:T4)(m:Mc)(c node:Int)(v:Vl):Y5 w0 e m 88 (λg=> #[.pointer (some ⟨g,0,none⟩),.int .i64 c,.int .i64 node,O6 v]) (V7 c node v m) (.tuple #[]):=by
 intro g z w hz hb hU ho;refine G7 ho func88 O ntmps88 O ?_;obtain⟨at_,left,stack,C0,lists,counts,edits,code,nod,val,ended⟩:=m;refine A3<|F0 O λgz0=>I9 O<|E5 O<|D9 O<|N4 1 O<|A6 ?_;apply Bh 14 [_,_,_,_,_,_,_,_,_,j2,_,_,_,j2] (λlst _=>.B1 gz0 I4 (D8 v).toArray::O3 g e z ⟨at_,left,stack,C0,lists,counts,edits,if lst 9 then c else code,if lst 13 then node else nod,val,true⟩) (by kernel_rfl) (by kernel_rfl) (by kernel_rfl) (λ_=>rfl)
 ·refine E9 O (F7 O (λlst vs hl he=>D0 (H8 O)) (λ_ _ _=>rfl))<|E9 O (F7 O (λlst vs hl he=>D0 (H8 O)) (λ_ _ _=>rfl))<|E9 O (F7 O (λlst vs hl he=>D0 (H8 O)) (λ_ _ _=>rfl))<|E9 O (F7 O (λlst vs hl he=>D0 (H8 O)) (λ_ _ _=>rfl))<|E9 O (F7 O (λlst vs hl he=>D0 (H8 O)) (λ_ _ _=>rfl))<|E9 O (F7 O (λlst vs hl he=>D0 (FY 0 (k:=3) O)) (λ_ _ _=>rfl))<|E9 O (F7 O (λlst vs hl he=>D0 (N1 O)) (λ_ _ _=>rfl))<|E9 O (F7 O (λlst vs hl he=>D0 (I8 11 O)) (λ_ _ _=>rfl))<|E9 O (F7 O (λlst vs hl he=>D0 (I8 0 O)) (λ_ _ _=>rfl))<|E9 O (UQ O O (λlst vs hl he=>Jq (NT (i:=1) (by kernel_rfl) O O O O O) O))<|E9 O (F7 O (λlst vs hl he=>D0 (N1 O)) (λ_ _ _=>rfl))<|E9 O (F7 O (λlst vs hl he=>D0 (I8 11 O)) (λ_ _ _=>rfl))<|E9 O (F7 O (λlst vs hl he=>D0 (I8 1 O)) (λ_ _ _=>rfl))<|E9 O (UQ O O (λlst vs hl he=>Jq (NT (i:=1) (by kernel_rfl) O O O O O) O)) ?_;exact Bf
 ·(repeat(first|exact trivial|exact(λ_ _ _ h=>h)|refine⟨trivial,?_⟩|refine⟨λ_ _ _ h=>h,?_⟩))
 ·intro vs w1 hx;refine x4 (H':=.B1 gz0 I4 (D8 v).toArray::O3 g e z ⟨at_,left,stack,C0,lists,counts,edits,c,node,val,true⟩) O (λw ho=>ho)<|E5 O<|D9 O<|D9 O<|On (i:=1) (j:=0+11+2) (vs:=(D8 v).toArray) (by kernel_rfl) O O O O O<|H6<|K7 O λw9 ho9=>?_;exact⟨z,rfl,hz,_,_,ho9.sublist (L9 ..)⟩
theorem FV(w0:B6)(e:T4)(m:Mc)(c node:Int):Y5 w0 e m 81 (λg=> #[.pointer (some ⟨g,0,none⟩),.int .i64 c,.int .i64 node]) (Ku c node m) (.bool (decide (c≠0))):=by
 intro g z w hz hb hU ho;refine G7 ho func81 O ntmps81 O ?_;have hG:=k6 hb hU;unfold Ku;by_cases h:c=0
 ·rw[if_pos h];refine A3<|A5 O<|B5<|A4 O<|H5 O<|A6<|E7 O (by exact h)<|A3<|A5 O<|D4<|K0<|E4 O λw9 ho9=>?_;exact⟨z,by rw[decide_eq_false (λhn=>hn h)],hz,_,_,ho9⟩
 ·rw[if_neg h];refine A3<|A5 O<|B5<|A4 O<|H5 O<|A6<|E0 O (by exact h)<|D6<|B4 O<|A4 O<|A4 O<|B9 (O7 (D8 H4) Bc O) O<|P0 [] (UP w0 e m c node H4) hG hz O (A7 O) O O λz1 hz1=>I0<|A5 O<|D4<|E4 O λw9 ho9=>?_;exact⟨z1,by rw[decide_eq_true h],hz1,_,_,ho9⟩
theorem XJ(w0:B6)(e:T4)(m:Mc)(node:Int)(hl:m.left<=100000):Y5 w0 e m 75 (λg=> #[.pointer (some ⟨g,0,none⟩),.int .i64 node]) (KC node m) (.bool (decide (m.left≠0))):=by
 intro g z w hz hb hU ho;refine G7 ho func75 O ntmps75 O ?_;have hG:=k6 hb hU;unfold KC;by_cases h:m.left=0
 ·rw[if_pos h];refine A3<|A5 O<|B5<|A4 O<|E5 O<|B2 0 O<|H5 O<|A6<|E7 O (by omega)<|B4 O<|A4 O<|P0 [] (FV w0 e m 11 node) hG hz O (A7 O) O O λz1 hz1=>I0<|A5 O<|D4<|K0<|E4 O λw9 ho9=>?_;exact⟨z1,by rw[decide_eq_false (λhn=>hn h)],hz1,_,_,ho9⟩
 ·rw[if_neg h];refine A3<|A5 O<|B5<|A4 O<|E5 O<|B2 0 O<|H5 O<|A6<|E0 O (by omega)<|D6<|B4 O<|E5 O<|B2 0 O<|B9 (DA O O (by omega)) O<|E5 O<|D9 O<|N4 0 O<|I0<|A5 O<|D4<|E4 O λw9 ho9=>?_;refine⟨z,by rw[decide_eq_true h],hz,?_⟩;have e1:(m.left:Int)-1=((m.left-1:Nat):Int):=by omega
  rw[e1] at ho9;exact⟨_,_,ho9⟩
theorem UD(w0:B6)(e:T4)(m:Mc)(v:Vl)(hl:m.stack.length<=90000):Y5 w0 e m 76 (λg=> #[.pointer (some ⟨g,0,none⟩),O6 v]) (AC v m) (.tuple #[]):=by
 intro g z w hz hb hU ho;refine G7 ho func76 O ntmps76 O<|A3<|F0 O λgz0=>A6 ?_;apply Bh 8 [_,_,_,_,_,_,.rel λu _=>∃gl,u=e6 gl 1,.rel λu _=>u.oneCell'=true] (Dq [.B1 gz0 I4 (D8 v).toArray,.B1 g CW (Ez e z m)] (.row z.T6 I4 3 m.C0.length (P8 m.C0)::.row z.lv t7 1 m.lists.length (z.ls.map n5)::.row z.cv S7 1 m.counts.length (y7 m.counts)::.obj e.gh (P2 (R0 e.has))::.obj e.ge (P2 (R0 m.edits))::z.ls.map Bd) 6 7 z.sv I4 3 m.stack.length (P8 m.stack) (D8 v)) (by kernel_rfl) (by kernel_rfl) (by kernel_rfl) (λ_=>by simp[Dq,O3])
 ·refine E9 O (F7 O (λlst vs hl he=>D0 (H8 O)) (λ_ _ _=>rfl))<|E9 O (F7 O (λlst vs hl he=>D0 (H8 O)) (λ_ _ _=>rfl))<|E9 O (F7 O (λlst vs hl he=>D0 (N1 O)) (λ_ _ _=>rfl))<|E9 O (F7 O (λlst vs hl he=>D0 (I8 5 O)) (λ_ _ _=>rfl))<|E9 O (F7 O (λlst vs hl he=>D0 (K1 1 O)) (λ_ _ _=>rfl))<|E9 O (F7 O (λlst vs hl he=>D0 (FY 0 (k:=3) O)) (λ_ _ _=>rfl))<|E9 O (Sj (w0:=O6 v) O (by decide) (by kernel_rfl) (λvs=>rfl) O O O)<|E9 O (TO (by':=32) O O (by decide) (by decide) (by kernel_rfl) (λvs=>rfl) (λvs=>rfl) O (LU rfl) (by simp only[maxLen];omega)) ?_;exact Bf
 ·(repeat(first|exact trivial|exact(λ_ _ _ h=>h)|refine⟨trivial,?_⟩|refine⟨λ_ _ _ h=>h,?_⟩))
 ·intro vs w1 hx;obtain⟨gl,hgl⟩:=BG (i:=6) rfl hx (by decide);have h7:=BG (i:=7) rfl hx (by decide);refine x4 (H':=.B1 g CW (Ez e z m)::.row (vs 7) I4 3 (m.stack.length+1) (P8 m.stack++D8 v)::.row z.T6 I4 3 m.C0.length (P8 m.C0)::.row z.lv t7 1 m.lists.length (z.ls.map n5)::.row z.cv S7 1 m.counts.length (y7 m.counts)::.obj e.gh (P2 (R0 e.has))::.obj e.ge (P2 (R0 m.edits))::z.ls.map Bd) O (λw ho=>by unfold Dq at ho;rw[hgl] at ho;exact ho.sublist (.cons _ (.cons_cons _ (.cons_cons _ (HB _ _)))))<|Ai (E':=[(4,.pointer (some ⟨g,0,none⟩)),(11,vs 7)]) ⟨rfl,rfl,trivial⟩ ?_;generalize vs 7=v7 at h7⊢;refine E5 O<|D9 O<|Ce (i:=0) (by kernel_rfl) O O (by assumption) O O<|H6<|K7 O λw9 ho9=>?_;refine⟨{z with sv:=v7},rfl,hz,?_⟩;unfold O3 AC;dsimp only;rw[Wn,J8];exact⟨_,_,ho9⟩
theorem rT{L:List Vl}{i j:Nat}{x:Vl}(hi:L[i]?=some x)(hj:j<3):(P8 L)[0+i*3+j]?=(D8 x)[j]?:=QV Hh hi hj
theorem sJ(S:List Vl)(v:Vl):(P8 (S++[v])).take (S.length*3)=P8 S:=by
 rw[Wn,Rc (by rw[P8,Qu Hh];exact L6 _),CQ (by rw[P8,Qu Hh];exact L6 _)]
theorem Qo(e:T4)(m:Mc){S:List Vl}{v:Vl}(hS:m.stack=S++[v])(hl:m.stack.length<=90001)(g:Nat)(z:Cs)(w:B6)(ho:B7 (J1 w (O3 g e z m)) (O3 g e z m) w):
  Calls prog 78 #[.pointer (some ⟨g,0,none⟩)] w λen w'=>en=.returned (O6 v)/\O0 w (λk=>k∈F1 (O3 g e z m)) (O3 g e {z with sv:=AZ S.length z.sv} {m with stack:=S}) w':=by
 refine G7 ho func78 O ntmps78 O ?_;have hlen:m.stack.length=S.length+1:=by rw[hS];simp
 have hat:m.stack[S.length]?=some v:=by rw[hS,j4 (L6 _),JH];rfl
 obtain⟨at_,left,stack,C0,lists,counts,edits,code,node,val,ended⟩:=m;obtain⟨sv,T6,lv,cv,ls⟩:=z;refine R7 1 O ?_;rintro⟨_,⟨hsv,h0⟩|⟨gs,cp,hsv⟩⟩
 ·dsimp only at hlen h0;omega
 dsimp only at hsv hlen hat hl hS⊢;subst hsv;have hi1:(stack.length:Int)-1=(S.length:Int):=by omega
 have hlt:S.length<stack.length:=by omega
 refine A3<|E3 P7 O λgz0=>I9 O<|E5 O<|B2 1 O<|d1 O<|B9 (hi1▸DA rfl rfl (by omega)) O<|A5 O<|B4 O<|E5 O<|B2 1 O<|A4 O<|Q4 (j:=S.length) O hlt<|U6 (vs:=D8 v) O (λw' ho=>X7 Hh ho (q:=2) rfl hat)<|E3 P7 O λgz1=>E8 0 ((D8 v).toArray) O<|I9 O<|A4 O<|E5 O<|B2 2 O<|A4 O<|B9 (ZM (i:=3) (q:=S.length) (by kernel_rfl) O O O (Nat.le_of_lt hlt)) O<|E5 O<|D9 O<|N4 2 O<|I0<|G6 0 O O<|E8 1 ((D8 v).toArray) O<|A6<|D4<|EK (i:=1) (k:=3) O O O O (by kernel_rfl) O λw9 ho9=>?_;have h2:=ho9.TV (i:=3) (q:=S.length) rfl (Nat.le_of_lt hlt);have h3:(P8 stack).take (S.length*3)=P8 S:=by rw[hS];exact sJ S v
 rw[h3] at h2;exact⟨rfl,_,_,h2.sublist (.cons _ (L9 ..))⟩
theorem LA(w0:B6)(e:T4)(m:Mc){S:List Vl}{v:Vl}(hS:m.stack=S++[v])(hl:m.stack.length<=90001):Y5 w0 e m 78 (λg=> #[.pointer (some ⟨g,0,none⟩)]) {m with stack:=S} (O6 v):=by
 intro g z w hz hb hU ho;exact(Qo e m hS hl g z w ho).mono λen w' ⟨h1,h2⟩=>⟨{z with sv:=AZ S.length z.sv},h1,hz,h2⟩
theorem NP(w0:B6)(e:T4)(m:Mc)(node:Int)(h:m.left=0):Y5 w0 e m 75 (λg=> #[.pointer (some ⟨g,0,none⟩),.int .i64 node]) (V7 11 node H4 m) (.bool false):=by
 have h1:=XJ w0 e m node (by omega);have h2:KC node m=V7 11 node H4 m:=by unfold KC;rw[if_pos h];exact if_neg (by decide)
 rw[h2,decide_eq_false (λhn=>hn h)] at h1;exact h1
theorem kN(e:T4)(m:Mc)(node:Int)(h:m.left≠0)(hl:m.left<=100000)(g:Nat)(z:Cs)(w:B6)(ho:B7 (J1 w (O3 g e z m)) (O3 g e z m) w):
  Calls prog 75 #[.pointer (some ⟨g,0,none⟩),.int .i64 node] w λen w'=>en=.returned (.bool true)/\O0 w (λk=>k∈F1 (O3 g e z m)) (O3 g e z {m with left:=m.left-1}) w':=by
 refine G7 ho func75 O ntmps75 O<|A3<|A5 O<|B5<|A4 O<|E5 O<|B2 0 O<|H5 O<|A6<|E0 O (by omega)<|D6<|B4 O<|E5 O<|B2 0 O<|B9 (DA O O (by omega)) O<|E5 O<|D9 O<|N4 0 O<|I0<|A5 O<|D4<|E4 O λw9 ho9=>?_;have e1:(m.left:Int)-1=((m.left-1:Nat):Int):=by omega
 rw[e1] at ho9;exact⟨rfl,_,_,ho9⟩
theorem RV(w0:B6)(e:T4)(m:Mc)(node:Int)(h:m.left≠0)(hl:m.left<=100000):Y5 w0 e m 75 (λg=> #[.pointer (some ⟨g,0,none⟩),.int .i64 node]) {m with left:=m.left-1} (.bool true):=by
 have h1:=XJ w0 e m node hl;have h2:KC node m={m with left:=m.left-1}:=by unfold KC;rw[if_neg h]
 rw[h2,decide_eq_true h] at h1;exact h1
theorem dV(k p:C9)(w:B6)(hG:j0 w):I6 218 #[.string (bs k),.string (bs p)] w (.bool (LH k p)):=by
 refine J5 func218 O ntmps218 O<|A3<|A5 O<|B4 O<|F3 168 (A7 O) (λw ho=>Lp _ w (ho.Q8 hG id)) O<|A4 O<|Tw O O (λz0=>?_) (λz0=>?_);refine B3 O<|A4 O<|B3 O<|F3 33 (A7 O) (λw ho=>Ma _ w (ho.Q8 hG id)) O<|K8 O<|A4 O<|Tw O O (λz1=>?_) (λz1=>?_);refine B3 O<|A4 O<|B3 O<|A4 O<|B3 O<|F3 74 (A7 O) (λw ho=>Ij _ _ w) O<|K8 O<|A5 O<|D4<|E4 O λw9 ho9=>?_;rotate_left;refine D2 O<|D2 O<|D2 O<|G4 O<|A5 O<|D4<|E4 O λw9 ho9=>?_;rotate_left;refine D2 O<|D2 O<|G4 O<|A4 O<|D2 O<|D2 O<|D2 O<|G4 O<|A5 O<|D4<|E4 O λw9 ho9=>?_;rotate_left
 all_goals exact⟨d8 (by simp_all[LH]),ho9.plain⟩
theorem rP{f:Nat}{first cap:H2}(pred:List UInt8->Bool)(v:Value)(L:List (List UInt8))(w:B6)(hV:T7 w v (D1 L))(hl:L.length<=100000)(hent:GB prog f=true)
  (hc:∀x w',Below w.heap.size w w'->Calls prog f (first++[Value.string (bs x)]++cap).toArray w' λe w''=>e=.returned (.bool (pred x))/\Below w'.heap.size w' w''):
  I6 71 #[v,.func (.func f) first.toArray cap.toArray] w (.int .i64 (match L.findIdx? pred with|some k=>(k:Int)|none=> -1)):=by
 refine J5 func71 O ntmps71 O ?_;have hln:(D1 L).length=L.length:=by simp[D1]
 refine A3<|A5 O<|B5<|A4 O<|B9 (Ot (vs:=D1 L) (by kernel_rfl) O (λw ho=>ho.DT hV)) O<|A4 O<|A6<|C7 ?_;rw[hln];refine DG (λi:Nat=>i<=L.length/\∀x∈L.take i,pred x=false) (λi=>[(0,v),(1,.func (.func f) first.toArray cap.toArray),(7,.int .i64 L.length),(8,.int .i64 i)]) (λi=>L.length-i) 0 ⟨R5 _,by simp⟩ ⟨rfl,rfl,rfl,rfl,trivial⟩ ?_;rintro i ⟨hi,hn⟩;by_cases hil:i<L.length
 ·obtain⟨gb,o,c,rfl,_,_,hcell⟩:=hV.form (by omega);have hx:L[i]?=some L[i]:=T8 hil;have hcl:=hcell i _ (La hx);have hcx:=hc L[i];cases he:pred L[i]
  ·rw[he] at hcx;refine A3<|H9 O<|A6<|C8<|E7 O (by omega)<|D6<|C8<|C7<|B4 O<|A5 O<|B4 O<|A4 O<|A4 O<|B9 (AW i O (by omega)) O<|B9 (AI (v:=.string (bs L[i])) O (λw' ho=>Below.o8 ho.plain hcl)) O<|o7 (IN (first:=first) (cap:=cap) (vs:=[.string (bs L[i])]) O hent O) (λw' ho=>hcx w' ho.plain) O O O<|A6<|M8 O<|P5<|F4<|E2<|C5<|N6 O (by omega)<|A4 O<|A6 ?_;rotate_left;refine DB (i+1) ⟨by omega,?_⟩ (by omega) ⟨rfl,rfl,rfl,rfl,trivial⟩;rw[JG,hx];intro x hx2;rcases q0.1 hx2 with hx2|hx2
   ·exact hn x hx2
   ·simp only[Option.toList,Bt] at hx2;rw[hx2];exact he
  ·rw[he] at hcx;refine A3<|H9 O<|A6<|C8<|E7 O (by omega)<|D6<|C8<|C7<|B4 O<|A5 O<|B4 O<|A4 O<|A4 O<|B9 (AW i O (by omega)) O<|B9 (AI (v:=.string (bs L[i])) O (λw' ho=>Below.o8 ho.plain hcl)) O<|o7 (IN (first:=first) (cap:=cap) (vs:=[.string (bs L[i])]) O hent O) (λw' ho=>hcx w' ho.plain) O O O<|A6<|R1 O<|B4 O<|A5 O<|K3<|K0<|U3<|E4 O λw9 ho9=>?_;refine⟨?_,ho9.plain⟩;have:L.findIdx? pred=some i:=by
    rw[YW];refine⟨hil,he,λj hj=>?_⟩;have:=hn (L[j]'(by omega)) (YQ.2 ⟨j,by omega,rfl⟩);simp[this]
   rw[this]
 ·obtain rfl:i=L.length:=by omega
  refine A3<|H9 O<|A6<|C8<|E0 O (by omega)<|S4<|J0<|J0<|S5<|E2<|A3<|A5 O<|D4<|E4 O λw9 ho9=>?_;refine⟨?_,ho9.plain⟩;rw[GQ] at hn;have:L.findIdx? pred=none:=mO.2 hn;rw[this]
theorem Te{f:Nat}{first cap:H2}(pred:List UInt8->Bool)(v:Value)(L:List (List UInt8))(w:B6)(hV:T7 w v (D1 L))(hl:L.length<=100000)(hent:GB prog f=true)
  (hc:∀x w',Below w.heap.size w w'->Calls prog f (first++[Value.string (bs x)]++cap).toArray w' λe w''=>e=.returned (.bool (pred x))/\Below w'.heap.size w' w''):
  I6 35 #[v,.func (.func f) first.toArray cap.toArray] w (.bool (L.any pred)):=by
 refine J5 func35 O ntmps35 O ?_;have cI:∀w',Below w.heap.size w w'->_:=λw' hb=>rP (first:=first) (cap:=cap) pred v L w' (hV.K6 hb) hl hent (λx w2 hb2=>hc x w2 (hb.trans (hb2.mono hb.size)));refine A3<|A5 O<|B4 O<|A4 O<|F3 71 (A7 O) (λw ho=>cI w ho.plain) O<|O1 O<|A5 O<|D4<|E4 O λw9 ho9=>?_;refine⟨?_,ho9.plain⟩;cases e:L.findIdx? pred with
 |none=>
  have:=mO.1 e;have h:L.any pred=false:=by rw[List.any_eq_false];intro x hx;rw[this x hx];decide
  rw[h];rfl
 |some k=>
  obtain⟨h1,h2,_⟩:=YW.1 e;have h:L.any pred=true:=Uk.2 ⟨_,Fd h1,h2⟩;rw[h];simp
theorem aB3(k x:C9)(gk:Nat)(w:B6)(hk:w.heap[gk]?=some (.cells #[.string (bs k)] S0)):I6 170 #[.string (bs x),.pointer (some ⟨gk,0,none⟩)] w (.bool (V0 k x)):=by
 refine J5 func170 O ntmps170 O ?_;have hc:w.cell? ⟨gk,0,none⟩=some (.string (bs k)):=by rw[cell_of_row w gk 0 _ S0 (0,0) hk];rfl
 exact A3<|A5 O<|A3<|B9 (AI (v:=.string (bs k)) O (λw' ho=>Below.o8 ho.plain hc)) O<|A4 O<|F3 74 (A7 O) (λw ho=>Ij k x w) O<|A5 O<|D4<|E4 O λw9 ho9=>⟨rfl,ho9.plain⟩
theorem as9(k x:C9)(gk:Nat)(w:B6)(hG:j0 w)(hk:w.heap[gk]?=some (.cells #[.string (bs k)] S0)):I6 217 #[.string (bs x),.pointer (some ⟨gk,0,none⟩)] w (.bool (LH k x)):=by
 refine J5 func217 O ntmps217 O ?_;have hc:w.cell? ⟨gk,0,none⟩=some (.string (bs k)):=by rw[cell_of_row w gk 0 _ S0 (0,0) hk];rfl
 exact A3<|A5 O<|A3<|B9 (AI (v:=.string (bs k)) O (λw' ho=>Below.o8 ho.plain hc)) O<|A4 O<|F3 218 (A7 O) (λw ho=>dV k x w (ho.Q8 hG id)) O<|A5 O<|D4<|E4 O λw9 ho9=>⟨rfl,ho9.plain⟩
theorem ay7(k x:C9)(gk:Nat)(w:B6)(hG:j0 w)(hk:w.heap[gk]?=some (.cells #[.string (bs k)] S0)):I6 237 #[.string (bs x),.pointer (some ⟨gk,0,none⟩)] w (.bool (LH k x)):=by
 refine J5 func237 O ntmps237 O ?_;have hc:w.cell? ⟨gk,0,none⟩=some (.string (bs k)):=by rw[cell_of_row w gk 0 _ S0 (0,0) hk];rfl
 exact A3<|A5 O<|A3<|B9 (AI (v:=.string (bs k)) O (λw' ho=>Below.o8 ho.plain hc)) O<|A4 O<|F3 218 (A7 O) (λw ho=>dV k x w (ho.Q8 hG id)) O<|A5 O<|D4<|E4 O λw9 ho9=>⟨rfl,ho9.plain⟩
theorem j0.K6{w w':B6}(h:j0 w)(hb:Below w.heap.size w w'):j0 w':=⟨Below.o8 hb h.1,Below.o8 hb h.2⟩
theorem TL{w w':B6}{g e:Nat}{cs:J2}(h:w.heap[g]?=some (.cells cs e))(hb:Below w.heap.size w w'):w'.heap[g]?=some (.cells cs e):=(hb.block g (T1.1 h).1).trans h
theorem QS(k:C9)(v:Value)(L:List (List UInt8))(w:B6)(hV:T7 w v (D1 L))(hl:L.length<=1000):I6 129 #[.string (bs k),v] w (.bool (IH L k)):=by
 refine J5 func129 O ntmps129 O<|A3<|KP O O O λgz0=>A5 O<|B4 O<|B9 (Gx O) O<|F3 35 (A7 O) (λw ho=>Te (f:=170) (first:=[]) (cap:=[.pointer (some ⟨gz0,0,none⟩)]) (λp=>V0 k p) v L w (ho.DT hV) (by omega) (by kernel_rfl) (λx w2 hb=>aB3 k x gz0 w2 (TL (ho.get (i:=0) rfl) hb))) O<|A5 O<|D4<|E4 O λw9 ho9=>?_;exact⟨rfl,ho9.plain⟩
theorem lW(rv wv:Value)(W:Wt)(k:C9)(w:B6)(hG:j0 w)(hW:T7 w wv (D1 W.writes))(hl:W.writes.length<=1000):I6 169 #[.agg #[rv,wv],.string (bs k)] w (.bool (Cx W k)):=by
 refine J5 func169 O ntmps169 O<|A3<|F0 O λgz0=>KP O O O λgz1=>A5 O<|A3<|B2 1 O<|B9 (Gx O) O<|F3 35 (A7 O) (λw ho=>Te (f:=217) (first:=[]) (cap:=[.pointer (some ⟨gz1,0,none⟩)]) (λp=>LH k p) wv W.writes w (ho.DT hW) (by omega) (by kernel_rfl) (λx w2 hb=>as9 k x gz1 w2 ((ho.Q8 hG id).K6 hb) (TL (ho.get (i:=0) rfl) hb))) O<|A5 O<|D4<|E4 O λw9 ho9=>?_;exact⟨rfl,ho9.plain⟩
theorem wV(rv wv:Value)(W:Wt)(k:C9)(w:B6)(hG:j0 w)(hR:T7 w rv (D1 W.reads))(hW:T7 w wv (D1 W.writes))(hr:W.reads.length<=1000)(hl:W.writes.length<=1000):I6 216 #[.agg #[rv,wv],.string (bs k)] w (.bool (Lf W k)):=by
 refine J5 func216 O ntmps216 O<|A3<|F0 O λgz0=>KP O O O λgz1=>A5 O<|A3<|G6 1 O O<|N3 0 O<|F3 169 (A7 O) (λw ho=>lW rv wv W k w (ho.Q8 hG id) (ho.DT hW) hl) O<|A4 O<|Tw O O (λz2=>?_) (λz2=>?_);refine D2 O<|D2 O<|D2 O<|D2 O<|K8 O<|A5 O<|D4<|E4 O λw9 ho9=>?_;rotate_left;refine B3 O<|D9 O<|B3 O<|N3 1 O<|B3 O<|B9 (Gx O) O<|B3 O<|F3 35 (A7 O) (λw ho=>Te (f:=237) (first:=[]) (cap:=[.pointer (some ⟨gz1,0,none⟩)]) (λp=>LH k p) rv W.reads w (ho.DT hR) (by omega) (by kernel_rfl) (λx w2 hb=>ay7 k x gz1 w2 ((ho.Q8 hG id).K6 hb) (TL (ho.get (i:=0) rfl) hb))) O<|G4 O<|A5 O<|D4<|E4 O λw9 ho9=>?_;rotate_left
 all_goals exact⟨d8 (by simp_all[Lf]),ho9.plain⟩
section
variable{w0:World}{e:T4}{W:Wt}{M:Cd}{B8:Int}{m:Mc}
theorem lO(hE:ER w0 e W M B8)(k:C9):Y5 w0 e m 127 (λg=> #[.pointer (some ⟨g,0,none⟩),.string (bs k)]) m (.bool (Cx W k)):=by
 intro g z w hz hb hU ho;refine G7 ho func127 O ntmps127 O ?_;have hG:=k6 hb hU;exact A3<|A5 O<|B4 O<|E5 O<|D9 O<|B9 (o4 0 (0+1) [e.rv,e.wv] (by kernel_rfl) O O) O<|A4 O<|F3 169 (A7 O) (λw ho=>lW e.rv e.wv W k w (hE.p6.Q8.K6 (ho.mw hG)) (hE.wv.K6 (ho.mw hG)) hE.wl) O<|A5 O<|D4<|E4 O λw9 ho9=>⟨z,rfl,hz,_,_,ho9⟩
theorem xA(hE:ER w0 e W M B8)(k:C9):Y5 w0 e m 165 (λg=> #[.pointer (some ⟨g,0,none⟩),.string (bs k)]) m (.bool (Lf W k)):=by
 intro g z w hz hb hU ho;refine G7 ho func165 O ntmps165 O ?_;have hG:=k6 hb hU;exact A3<|A5 O<|B4 O<|E5 O<|D9 O<|B9 (o4 0 (0+1) [e.rv,e.wv] (by kernel_rfl) O O) O<|A4 O<|F3 216 (A7 O) (λw ho=>wV e.rv e.wv W k w (hE.p6.Q8.K6 (ho.mw hG)) (hE.rv.K6 (ho.mw hG)) (hE.wv.K6 (ho.mw hG)) hE.rl hE.wl) O<|A5 O<|D4<|E4 O λw9 ho9=>⟨z,rfl,hz,_,_,ho9⟩
end
abbrev QN:Nat:=111
theorem RE(w:B6):(zeroValue I4).run prog w=.ok (O6 H4) w:=P7 w
section
variable{n:Nat}{E:List (Nat×Value)}{C:I3}{H:List C2}{dst:Option Tmp}{ty:TypeId}{pos:String}{after:Array Edge}{g:Option (Nat×Bool)}{x y:Operand}
theorem Nv{gm:Nat}(i:Nat){l:List Ed}{k:C9}(hx:ev E x=some (.map (some gm)))(hy:ev E y=some (.string (bs k)))(hi:H[i]?=some (.obj gm (P2 (R0 l)))):
  L1 prog n E C H ⟨dst,.lookup QN x y true,ty,pos,after,g⟩ (.tuple #[O6 ((Z7 l k).getD H4),.bool (Z7 l k).isSome]):=by
 have h:=aq3 (P:=prog) (n:=n) (C:=C) (dst:=dst) (ty:=ty) (pos:=pos) (after:=after) (g:=g) (t:=QN) (e:=I4) (by kernel_rfl) RE hx hy hi;rw[dE] at h;cases hl:Z7 l k with
 |none=>rw[hl] at h;exact h
 |some v=>rw[hl] at h;exact h
theorem ah9{gm:Nat}(i:Nat){l:List Ed}{k:C9}(hx:ev E x=some (.map (some gm)))(hy:ev E y=some (.string (bs k)))(hi:H[i]?=some (.obj gm (P2 (R0 l)))):
  L1 prog n E C H ⟨dst,.lookup QN x y false,ty,pos,after,g⟩ (O6 ((Z7 l k).getD H4)):=by
 have h:=ar4 (P:=prog) (n:=n) (C:=C) (dst:=dst) (ty:=ty) (pos:=pos) (after:=after) (g:=g) (t:=QN) (e:=I4) (by kernel_rfl) RE hx hy hi;rw[dE] at h;cases hl:Z7 l k with
 |none=>rw[hl] at h;exact h
 |some v=>rw[hl] at h;exact h
end
section
variable{w0:World}{e:T4}{W:Wt}{M:Cd}{B8:Int}{m:Mc}
theorem fL(e:T4)(m:Mc)(k:C9)(g:Nat)(z:Cs)(w:B6)(ho:B7 (J1 w (O3 g e z m)) (O3 g e z m) w):
  Calls prog 166 #[.pointer (some ⟨g,0,none⟩),.string (bs k)] w λen w'=>en=.returned (O6 (EL e.has m.edits k))/\O0 w (λk=>k∈F1 (O3 g e z m)) (O3 g e z m) w':=by
 refine G7 ho func166 O ntmps166 O ?_;unfold EL;cases hl:Z7 m.edits k with
 |none=>
  exact A3<|E3 P7 O λgz0=>A6<|B5<|A4 O<|E5 O<|B2 1 O<|A4 O<|B9 (Nv 7 (l:=m.edits) (k:=k) O O O) O<|A4 O<|G1 O<|G1 O<|E3 P7 O λgz1=>E8 0 _ O<|A5 O<|B4 O<|A6<|Y7 O (by(rw[hl];rfl))<|D6<|B4 O<|E5 O<|B2 2 O<|A4 O<|B9 (ah9 7 (l:=e.has) (k:=k) O O O) O<|E8 1 _ O<|A6<|D4<|EK (i:=1) (k:=3) O O O O (by kernel_rfl) O λw9 ho9=>⟨rfl,_,_,ho9.sublist (.cons _ (L9 ..))⟩
 |some v=>
  exact A3<|E3 P7 O λgz0=>A6<|B5<|A4 O<|E5 O<|B2 1 O<|A4 O<|B9 (Nv 7 (l:=m.edits) (k:=k) O O O) O<|A4 O<|G1 O<|G1 O<|E3 P7 O λgz1=>E8 0 _ O<|A5 O<|B4 O<|A6<|k8 O (by(rw[hl];rfl))<|A3<|G6 0 O O<|E8 1 _ O<|A6<|D4<|K0<|EK (i:=1) (k:=3) O O O O (by kernel_rfl) O λw9 ho9=>⟨(by rw[hl];rfl),_,_,ho9.sublist (.cons _ (L9 ..))⟩
theorem uC(w0:B6)(e:T4)(m:Mc)(k:C9):Y5 w0 e m 166 (λg=> #[.pointer (some ⟨g,0,none⟩),.string (bs k)]) m (O6 (EL e.has m.edits k)):=by
 intro g z w hz hb hU ho;exact(fL e m k g z w ho).mono λen w' ⟨h1,h2⟩=>⟨z,h1,hz,h2⟩
theorem Vz{f:Nat}(hent:GB prog f=true)(may:List UInt8->Bool)(hE:ER w0 e W M B8)(hm:∀k,Y5 w0 e m f (λg=> #[.pointer (some ⟨g,0,none⟩),.string (bs k)]) m (.bool (may k)))(v:Vl):
  Y5 w0 e m 126 (λg=> #[O6 v,.func (.func f) #[.pointer (some ⟨g,0,none⟩)] #[]]) m (.int .i64 (Bg v may)):=by
 intro g z w hz hb hU ho;refine G7 ho func126 O ntmps126 O ?_;have hG:=k6 hb hU;unfold Bg;by_cases h1:v.kind=3
 ·rw[if_neg (λh=>h h1)];cases h2:FO v.K4
  ·rw[if_pos rfl];exact A3<|F0 O λgz0=>A5 O<|C8<|C7<|A3<|B2 0 O<|J3 O<|A5 O<|E0 O (by omega)<|A3<|B2 0 O<|F3 168 (A7 O) (λw ho=>Lp v.K4 w (hE.p6.Q8.K6 (ho.mw hG))) O<|J7 O<|A5 O<|k8 O (by(rw[h2];rfl))<|A3<|A5 O<|K3<|E4 O λw9 ho9=>⟨z,rfl,hz,_,_,ho9.sublist (L9 ..)⟩
  ·rw[if_neg (by decide)];have hmk:=hm v.K4;cases h3:may v.K4
   ·rw[if_pos rfl];rw[h3] at hmk;exact A3<|F0 O λgz0=>A5 O<|C8<|C7<|A3<|B2 0 O<|J3 O<|A5 O<|E0 O (by omega)<|A3<|B2 0 O<|F3 168 (A7 O) (λw ho=>Lp v.K4 w (hE.p6.Q8.K6 (ho.mw hG))) O<|J7 O<|A5 O<|Y7 O (by(rw[h2];rfl))<|B4 O<|B2 0 O<|P0 [.B1 gz0 I4 (D8 v).toArray] hmk hG hz O (IN (first:=[.pointer (some ⟨g,0,none⟩)]) (cap:=[]) (vs:=[.string (bs v.K4)]) O hent O) O O λz1 hz1=>J7 O<|A5 O<|R1 O<|A3<|A5 O<|K3<|E4 O λw9 ho9=>⟨z1,rfl,hz1,_,_,ho9.sublist (L9 ..)⟩
   ·rw[if_neg (by decide)];rw[h3] at hmk;exact A3<|F0 O λgz0=>A5 O<|C8<|C7<|A3<|B2 0 O<|J3 O<|A5 O<|E0 O (by omega)<|A3<|B2 0 O<|F3 168 (A7 O) (λw ho=>Lp v.K4 w (hE.p6.Q8.K6 (ho.mw hG))) O<|J7 O<|A5 O<|Y7 O (by(rw[h2];rfl))<|B4 O<|B2 0 O<|P0 [.B1 gz0 I4 (D8 v).toArray] hmk hG hz O (IN (first:=[.pointer (some ⟨g,0,none⟩)]) (cap:=[]) (vs:=[.string (bs v.K4)]) O hent O) O O λz1 hz1=>J7 O<|A5 O<|M8 O<|P5<|F4<|E2<|A3<|A5 O<|D4<|E4 O λw9 ho9=>⟨z1,rfl,hz1,_,_,ho9.sublist (L9 ..)⟩
 ·rw[if_pos h1];exact A3<|F0 O λgz0=>A5 O<|C8<|C7<|A3<|B2 0 O<|J3 O<|A5 O<|E7 O (by exact h1)<|A3<|A5 O<|K3<|E4 O λw9 ho9=>⟨z,rfl,hz,_,_,ho9.sublist (L9 ..)⟩
end
theorem Ky{P:Program}{n:Nat}{E:X0}{C:I3}{H:List C2}{dst:Option Tmp}{ty:TypeId}{pos:String}{after:Array Edge}{g:Option (Nat×Bool)}{f:FuncId}{fst:List Operand}{vs:H2}(hc:HW E fst=some vs):L1 P n E C H ⟨dst,.makeFunc (.func f) fst.toArray #[],ty,pos,after,g⟩ (.func (.func f) vs.toArray #[]):=by
 intro a w hf ho;have hm:fst.toArray.map a.eval=vs.toArray:=by simp[PL hf hc]
 simp only[execOp,hm];simp[go_sem,Instr.makeFunc]
theorem FU.K6{w w':B6}(h:FU w)(hb:Below w.heap.size w w'):FU w':=by
 have h2:=h.lt;have hg:prog.globalNamed "internal/strconv.uint64pow10" =some 2:=by kernel_rfl
 unfold FU Lib.TabIs World.var? at h⊢;rw[hg,RZ] at h⊢;rw[hb.block 2 h2];exact h
theorem ad9(a:Nat)(ha:a<12){x y:Vl}(hx:N2 x)(hy:N2 y)(w:B6):I6 124 #[.int .i64 a,O6 x,O6 y] w (El (NV a x y)):=by
 refine J5 func124 O ntmps124 O ?_;unfold NV;by_cases h6:a<6
 ·rw[if_pos h6];exact A3<|F0 O λgz0=>F0 O λgz1=>E3 P7 O λgz2=>A5 O<|B5<|A4 O<|H9 O<|A6<|E7 O (by omega)<|B4 O<|G6 2 (cs:=(D8 x).toArray) O O<|G6 1 (cs:=(D8 y).toArray) O O<|F3 154 (A7 O) (λw ho=>ar5 a (by omega) hx hy w) O<|G1 O<|G1 O<|E8 0 ((D8 (PA a x y).1).toArray) O<|A5 O<|D4<|K0<|O5 0 O λw9 ho9=>⟨rfl,ho9.plain⟩
 rw[if_neg h6];by_cases h7:a=7
 ·subst h7;rw[if_pos rfl];exact A3<|F0 O λgz0=>F0 O λgz1=>E3 P7 O λgz2=>A5 O<|B5<|A4 O<|H9 O<|A6<|E0 O (by decide)<|D6<|A3<|A5 O<|B5<|A4 O<|A6<|C7<|A3<|Q9 O (by decide)<|C5<|E6 O<|H6<|F4<|E2<|B4 O<|G6 2 (cs:=(D8 x).toArray) O O<|G6 1 (cs:=(D8 y).toArray) O O<|o7 (CB (first:=[]) (cap:=[]) (vs:=[O6 x,O6 y]) O) (λw ho=>gG hx hy w) O O O<|G1 O<|G1 O<|E8 0 ((D8 (Ad KX x y).1).toArray) O<|A5 O<|D4<|O5 0 O λw9 ho9=>⟨rfl,ho9.plain⟩
 rw[if_neg h7];by_cases h8:a=8
 ·subst h8;rw[if_pos rfl];exact A3<|F0 O λgz0=>F0 O λgz1=>E3 P7 O λgz2=>A5 O<|B5<|A4 O<|H9 O<|A6<|E0 O (by decide)<|D6<|A3<|A5 O<|B5<|A4 O<|A6<|C7<|A3<|C3 O (by decide)<|A3<|Q9 O (by decide)<|C5<|E6 O<|H6<|F4<|E2<|B4 O<|G6 2 (cs:=(D8 x).toArray) O O<|G6 1 (cs:=(D8 y).toArray) O O<|o7 (CB (first:=[]) (cap:=[]) (vs:=[O6 x,O6 y]) O) (λw ho=>rV hx hy w) O O O<|G1 O<|G1 O<|E8 0 ((D8 (Ad Kt x y).1).toArray) O<|A5 O<|D4<|O5 0 O λw9 ho9=>⟨rfl,ho9.plain⟩
 rw[if_neg h8];by_cases h9:a=9
 ·subst h9;rw[if_pos rfl];exact A3<|F0 O λgz0=>F0 O λgz1=>E3 P7 O λgz2=>A5 O<|B5<|A4 O<|H9 O<|A6<|E0 O (by decide)<|D6<|A3<|A5 O<|B5<|A4 O<|A6<|C7<|A3<|C3 O (by decide)<|A3<|C3 O (by decide)<|A3<|Q9 O (by decide)<|C5<|E6 O<|H6<|F4<|E2<|B4 O<|G6 2 (cs:=(D8 x).toArray) O O<|G6 1 (cs:=(D8 y).toArray) O O<|o7 (CB (first:=[]) (cap:=[]) (vs:=[O6 x,O6 y]) O) (λw ho=>uJ hx hy w) O O O<|G1 O<|G1 O<|E8 0 ((D8 (Ad LR x y).1).toArray) O<|A5 O<|D4<|O5 0 O λw9 ho9=>⟨rfl,ho9.plain⟩
 rw[if_neg h9];by_cases h10:a=10
 ·subst h10;rw[if_pos rfl];exact A3<|F0 O λgz0=>F0 O λgz1=>E3 P7 O λgz2=>A5 O<|B5<|A4 O<|H9 O<|A6<|E0 O (by decide)<|D6<|A3<|A5 O<|B5<|A4 O<|A6<|C7<|A3<|C3 O (by decide)<|A3<|C3 O (by decide)<|A3<|C3 O (by decide)<|A3<|Q9 O (by decide)<|C5<|E6 O<|H6<|F4<|E2<|B4 O<|G6 2 (cs:=(D8 x).toArray) O O<|G6 1 (cs:=(D8 y).toArray) O O<|o7 (CB (first:=[]) (cap:=[]) (vs:=[O6 x,O6 y]) O) (λw ho=>aa6 hx hy w) O O O<|G1 O<|G1 O<|E8 0 ((D8 (Ad Lo x y).1).toArray) O<|A5 O<|D4<|O5 0 O λw9 ho9=>⟨rfl,ho9.plain⟩
 rw[if_neg h10];by_cases h11:a=11
 ·subst h11;rw[if_pos rfl];refine A3<|F0 O λgz0=>F0 O λgz1=>E3 P7 O λgz2=>A5 O<|B5<|A4 O<|H9 O<|A6<|E0 O (by decide)<|D6<|A3<|A5 O<|B5<|A4 O<|A6<|C7<|A3<|C3 O (by decide)<|A3<|C3 O (by decide)<|A3<|C3 O (by decide)<|A3<|C3 O (by decide)<|A3<|Q9 O (by decide)<|C5<|E6 O<|H6<|F4<|E2<|B4 O<|G6 2 (cs:=(D8 x).toArray) O O<|G6 1 (cs:=(D8 y).toArray) O O<|o7 (CB (first:=[]) (cap:=[]) (vs:=[O6 x,O6 y]) O) (λw ho=>vE hx hy w) O O O<|G1 O<|G1 O<|E8 0 ((D8 (OG x y).1).toArray) O<|A5 O ?_;exact D4<|O5 0 O λw9 ho9=>⟨rfl,ho9.plain⟩
 rw[if_neg h11];obtain rfl:a=6:=by omega
 exact A3<|F0 O λgz0=>F0 O λgz1=>E3 P7 O λgz2=>A5 O<|B5<|A4 O<|H9 O<|A6<|E0 O (by decide)<|D6<|A3<|A5 O<|B5<|A4 O<|A6<|C7<|A3<|C3 O (by decide)<|A3<|C3 O (by decide)<|A3<|C3 O (by decide)<|A3<|C3 O (by decide)<|A3<|C3 O (by decide)<|P5<|F4<|E2<|B4 O<|G6 2 (cs:=(D8 x).toArray) O O<|G6 1 (cs:=(D8 y).toArray) O O<|o7 (CB (first:=[]) (cap:=[]) (vs:=[O6 x,O6 y]) O) (λw ho=>am6 hx hy w) O O O<|G1 O<|G1 O<|E8 0 ((D8 (Ad II x y).1).toArray) O<|A5 O<|D4<|O5 0 O λw9 ho9=>⟨rfl,ho9.plain⟩
section
variable{w0:World}{e:T4}{W:Wt}{M:Cd}{B8:Int}{m:Mc}
theorem uB(hE:ER w0 e W M B8)(he:Ab m.edits)(k:Nat){v:Vl}(hv:N2 v):Y5 w0 e m 125 (λg=> #[.pointer (some ⟨g,0,none⟩),.int .i64 k,O6 v]) m (El (Mr W e.has m.edits k v)):=by
 intro g z w hz hb hU ho;refine G7 ho func125 O ntmps125 O ?_;have hG:=k6 hb hU;unfold Mr;by_cases h7:k=7
 ·subst h7;rw[if_pos rfl];exact A3<|F0 O λgz0=>E3 P7 O λgz1=>A5 O<|B5<|A4 O<|A6<|C7<|A3<|Q9 O (by decide)<|A3<|G6 1 (cs:=(D8 v).toArray) O O<|F3 161 (A7 O) (λw ho=>ay6 hv w) O<|G1 O<|G1 O<|E8 0 ((D8 (PG v).1).toArray) O<|A5 O<|K3<|O5 0 O λw9 ho9=>⟨z,rfl,hz,_,_,ho9.sublist (.cons _ (L9 ..))⟩
 rw[if_neg h7];by_cases h8:k=8
 ·subst h8;rw[if_pos rfl];exact A3<|F0 O λgz0=>E3 P7 O λgz1=>A5 O<|B5<|A4 O<|A6<|C7<|A3<|C3 O (by decide)<|A3<|Q9 O (by decide)<|A3<|G6 1 (cs:=(D8 v).toArray) O O<|F3 162 (A7 O) (λw ho=>ae3 hv w (hE.p6.AB.K6 (ho.mw hG))) O<|G1 O<|G1 O<|E8 0 ((D8 (Od v).1).toArray) O<|A5 O<|K3<|O5 0 O λw9 ho9=>⟨z,rfl,hz,_,_,ho9.sublist (.cons _ (L9 ..))⟩
 rw[if_neg h8];by_cases h9:k=9
 ·subst h9;rw[if_pos rfl];exact A3<|F0 O λgz0=>E3 P7 O λgz1=>A5 O<|B5<|A4 O<|A6<|C7<|A3<|C3 O (by decide)<|A3<|C3 O (by decide)<|A3<|Q9 O (by decide)<|A3<|G6 1 (cs:=(D8 v).toArray) O O<|F3 163 (A7 O) (λw ho=>aa9 hv w) O<|G1 O<|G1 O<|E8 0 ((D8 (Of v).1).toArray) O<|A5 O<|K3<|O5 0 O λw9 ho9=>⟨z,rfl,hz,_,_,ho9.sublist (.cons _ (L9 ..))⟩
 rw[if_neg h9];by_cases h10:k=10
 ·subst h10;rw[if_pos rfl];exact A3<|F0 O λgz0=>E3 P7 O λgz1=>A5 O<|B5<|A4 O<|A6<|C7<|A3<|C3 O (by decide)<|A3<|C3 O (by decide)<|A3<|C3 O (by decide)<|A3<|Q9 O (by decide)<|A3<|G6 1 (cs:=(D8 v).toArray) O O<|F3 164 (A7 O) (λw ho=>oY hv w) O<|G1 O<|G1 O<|E8 0 ((D8 (Py v).1).toArray) O<|A5 O<|K3<|O5 0 O λw9 ho9=>⟨z,rfl,hz,_,_,ho9.sublist (.cons _ (L9 ..))⟩
 rw[if_neg h10];have hK:=Vz (m:=m) (f:=165) (by kernel_rfl) (Lf W) hE (λk=>xA hE k) v;have hS:=uC w0 e m v.K4;by_cases hk:Bg v (Lf W)=0
 ·rw[if_neg (λh=>h hk)];rw[hk] at hK;by_cases h6:k=6
  ·subst h6;rw[if_pos rfl];generalize EL e.has m.edits v.K4=s at hS⊢;refine A3<|F0 O λgz0=>E3 P7 O λgz1=>A5 O<|B5<|A4 O<|A6<|C7<|A3<|C3 O (by decide)<|A3<|C3 O (by decide)<|A3<|C3 O (by decide)<|A3<|C3 O (by decide)<|P5<|F4<|E2<|B5<|G6 1 (cs:=(D8 v).toArray) O O<|A4 O<|B9 (Ky (vs:=[.pointer (some ⟨g,0,none⟩)]) O) O<|P0 [.B1 gz1 I4 (D8 H4).toArray,.B1 gz0 I4 (D8 v).toArray] hK hG hz O (A7 O) O O λz1 hz1=>A5 O<|B4 O<|J3 O<|A6<|E0 O (by decide)<|D6<|B4 O<|B2 1 O<|P0 [.B1 gz1 I4 (D8 H4).toArray,.B1 gz0 I4 (D8 v).toArray] hS hG hz1 O (A7 O) O O λz2 hz2=>E3 P7 O λgz2=>E8 0 _ O<|A6<|B5<|A4 O<|H5 O<|A6 ?_;refine E7 O (by decide)<|A3<|B2 0 O<|J3 O<|F3 167 (A7 O) (λw ho=>Ua _ w) O<|E8 1 _ O<|A5 O<|D4<|K0<|O5 1 O λw9 ho9=>?_;exact⟨z2,rfl,hz2,_,_,ho9.sublist (.cons _ (.cons _ (L9 ..)))⟩
  ·rw[if_neg h6];generalize EL e.has m.edits v.K4=s at hS⊢;refine A3<|F0 O λgz0=>E3 P7 O λgz1=>A5 O<|B5<|A4 O<|A6<|C7<|A3<|C3 O (by omega)<|A3<|C3 O (by omega)<|A3<|C3 O (by omega)<|A3<|C3 O (by omega)<|P5<|F4<|E2<|B5<|G6 1 (cs:=(D8 v).toArray) O O<|A4 O<|B9 (Ky (vs:=[.pointer (some ⟨g,0,none⟩)]) O) O<|P0 [.B1 gz1 I4 (D8 H4).toArray,.B1 gz0 I4 (D8 v).toArray] hK hG hz O (A7 O) O O λz1 hz1=>A5 O<|B4 O<|J3 O<|A6<|E0 O (by omega)<|D6<|B4 O<|B2 1 O<|P0 [.B1 gz1 I4 (D8 H4).toArray,.B1 gz0 I4 (D8 v).toArray] hS hG hz1 O (A7 O) O O λz2 hz2=>E3 P7 O λgz2=>E8 0 _ O<|A6<|B5<|A4 O<|H5 O<|A6 ?_;refine E0 O (by omega)<|D6<|A3<|G6 0 O O<|E8 1 _ O<|A5 O<|D4<|O5 1 O λw9 ho9=>?_;exact⟨z2,rfl,hz2,_,_,ho9.sublist (.cons _ (.cons _ (L9 ..)))⟩
 ·rw[if_pos hk];generalize Bg v (Lf W)=q at hK hk⊢;exact A3<|F0 O λgz0=>E3 P7 O λgz1=>A5 O<|B5<|A4 O<|A6<|C7<|A3<|C3 O (by omega)<|A3<|C3 O (by omega)<|A3<|C3 O (by omega)<|A3<|C3 O (by omega)<|P5<|F4<|E2<|B5<|G6 1 (cs:=(D8 v).toArray) O O<|A4 O<|B9 (Ky (vs:=[.pointer (some ⟨g,0,none⟩)]) O) O<|P0 [.B1 gz1 I4 (D8 H4).toArray,.B1 gz0 I4 (D8 v).toArray] hK hG hz O (A7 O) O O λz1 hz1=>A5 O<|B4 O<|J3 O<|A6<|E7 O (by omega)<|A3<|B9 (O7 (D8 H4) Bc O) O<|A4 O<|E8 0 _ O<|A5 O<|D4<|K0<|O5 0 O λw9 ho9=>⟨z1,rfl,hz1,_,_,ho9.sublist (.cons _ (L9 ..))⟩
end
def EU(B:List C2)(p q:Nat)(t:TypeId)(zs cs:Array Value)(lst:Nat->Bool)(vs:Nat->Value):List C2:=
 B++if lst p then[.B1 (Mz (vs p)) t (if lst q then cs else zs)] else if lst q then[.B1 0 0 #[],.B1 0 0 #[]] else[]
abbrev QD:L0:=.rel λu _=>∃b,u=.pointer (some ⟨b,0,none⟩)
section
variable{P:Program}{n:Nat}{E:List (Nat×Value)}{C:I3}{ops:Array Oper}{S:List L0}
variable{B:List C2}{p q:Nat}{d:Tmp}{ty t:TypeId}{pos:String}{after:Array Edge}{zs cs:Array Value}{x y:Operand}
theorem dW{p q:Nat}(h:p≠q):Nat.beq p q=false:=by
 cases hb:Nat.beq p q with
 |false=>rfl
 |true=>exact absurd (DK hb) h
theorem VJ(hS:M9 S p=QD)(hpq:q≠p)(hz:∀w,(zeroValue t).run P w=.ok (.agg zs) w):
  Bx P n E C (EU B p q t zs cs) ops S p ⟨some d,.alloc t,ty,pos,after,none⟩/\((⟨some d,.alloc t,ty,pos,after,none⟩:Oper).dst=none->M9 S p=j2):=
 CZ rfl λlst vs hl he a w hf ho hx=>by
  unfold EU at ho;rw[hl] at ho;cases hq:lst q with
  |true=>
   rw[hq] at ho;exact(RO ho).elim
  |false=>
   rw[hq] at ho;simp only[Fb,if_false,k5] at ho;obtain⟨g,w',h1,h2⟩:=kZ (d:=d) (ty:=ty) (pos:=pos) (after:=after) hz a w hf ho;refine .inl ⟨_,w',h1,?_,by rw[hS];exact⟨g,rfl⟩⟩;unfold EU;have h3:Q3 lst p p=true:=by unfold Q3;rw[Uw];rfl
   have h4:U9 vs p (.pointer (some ⟨g,0,none⟩)) p=.pointer (some ⟨g,0,none⟩):=if_pos rfl;have h5:Q3 lst p q=false:=by unfold Q3;rw[dW hpq,hq];rfl
   rw[h3,h4,h5];exact h2.perm (HE (C2.B1 g t zs) B)
theorem gJ(hS:M9 S q=j2)(hSp:M9 S p=QD)(hpq:p≠q)(hpe:p∈M4 ⟨none,.store t x y,ty,pos,after,none⟩)(hT:CF P t=some cs.size)
  (hx:∀vs,ev (U1 ops S vs (M4 ⟨none,.store t x y,ty,pos,after,none⟩) E) x=some (vs p))(hy:∀vs,ev (U1 ops S vs (M4 ⟨none,.store t x y,ty,pos,after,none⟩) E) y=some (.agg cs))(h1:(cs.toList.all (·.oneCell'))=true)(hz:zs.size=cs.size):
  Bx P n E C (EU B p q t zs cs) ops S q ⟨none,.store t x y,ty,pos,after,none⟩/\((⟨none,.store t x y,ty,pos,after,none⟩:Oper).dst=none->M9 S q=j2):=
 ⟨λlst vs hl he a w hf ho hX=>by
  have hlp:=he p hpe;obtain⟨b,hb⟩:=BG hSp hX hpe;have hH:EU B p q t zs cs lst vs=B++[.B1 b t zs]:=by unfold EU;rw[hlp,hl,hb];rfl
  rw[hH] at ho;obtain⟨w',h2,h3⟩:=Sz (ty:=ty) (pos:=pos) (after:=after) (i:=B.length) hT ((hx vs).trans (by rw[hb])) (hy vs) h1 (show(B++[C2.B1 b t zs])[B.length]?=some (.B1 b t zs) by simp) hz a w hf ho;refine .inr (.inl ⟨w',h2,rfl,?_⟩);have h5:Q3 lst q q=true:=by unfold Q3;rw[Uw];rfl
  have h6:Q3 lst q p=true:=by unfold Q3;rw[hlp];simp
  unfold EU;rw[h6,h5,hb];have h7:(B++[C2.B1 b t zs]).set B.length (.B1 b t cs)=B++[.B1 b t cs]:=by simp
  rw[h7] at h3;exact h3,λ_=>hS⟩
end
theorem qU{n:Nat}{E:X0}{C:I3}{K:Act->B6->Prop}{B:List C2}{p q:Nat}{t b:Nat}{zs cs:J2}{lst:Nat->Bool}{vs:Nat->Value}(hv:vs p=.pointer (some ⟨b,0,none⟩))(hp:lst p=true)(hq:lst q=false)(k:At n E C (.B1 b t zs::B) K):At n E C (EU B p q t zs cs lst vs) K:=by
 have h:EU B p q t zs cs lst vs=B++[.B1 b t zs]:=by unfold EU;rw[hp,hq,hv];rfl
 rw[h];exact CE (HE (C2.B1 b t zs) B).symm k
theorem kX{n:Nat}{E:X0}{C:I3}{K:Act->B6->Prop}{B:List C2}{p q:Nat}{t b:Nat}{zs cs:J2}{lst:Nat->Bool}{vs:Nat->Value}(hv:vs p=.pointer (some ⟨b,0,none⟩))(hp:lst p=true)(hq:lst q=true)(k:At n E C (.B1 b t cs::B) K):At n E C (EU B p q t zs cs lst vs) K:=by
 have h:EU B p q t zs cs lst vs=B++[.B1 b t cs]:=by unfold EU;rw[hp,hq,hv];rfl
 rw[h];exact CE (HE (C2.B1 b t cs) B).symm k
section
variable{w0:World}{e:T4}{W:Wt}{M:Cd}{B8:Int}{m:Mc}
variable{n:Nat}{E:List (Nat×Value)}{C:I3}{H:List C2}{Q:Exit->Act->World->Prop}{r:Option Nat}{ops:Array Oper}{rest:List Oper}{ty:TypeId}{pos:String}{after:Array Edge}{x y z:Operand}
theorem XP{gm:Nat}(i:Nat){l:List Ed}{k:C9}{v:Vl}(hx:ev E x=some (.map (some gm)))(hy:ev E y=some (.string (bs k)))(hz:ev E z=some (O6 v))(hi:H[i]?=some (.obj gm (P2 (R0 l))))
  (kk:At n E C (H.set i (.obj gm (P2 (R0 (BC l k v))))) (D3 r prog ops Q rest)):At n E C H (D3 r prog ops Q (⟨none,.mapUpdate QN x y z,ty,pos,after,none⟩::rest)):=
 Ef (e:=I4) (.inl rfl) (by kernel_rfl) hx hy hz hi (by rw[aw7];exact kk)
theorem dI(w0:B6)(e:T4)(m:Mc)(k v:Vl):Y5 w0 e m 128 (λg=> #[.pointer (some ⟨g,0,none⟩),O6 k,O6 v]) {m with edits:=if Ee m k.K4=0 then BC m.edits k.K4 v else m.edits} (.int .i64 (Ee m k.K4)):=by
 intro g z w hz hb hU ho;refine G7 ho func128 O ntmps128 O ?_;have hG:=k6 hb hU;obtain⟨at_,left,stack,C0,lists,counts,edits,code,nod,val,ended⟩:=m;unfold Ee;dsimp only;refine A3<|F0 O λgz0=>F0 O λgz1=>A5 O<|C8<|C8 ?_;apply Bh 12 [_,_,_,_,_,_,_,_,_,_,QD,j2] (EU (.B1 gz1 I4 (D8 v).toArray::.B1 gz0 I4 (D8 k).toArray::O3 g e z ⟨at_,left,stack,C0,lists,counts,edits,code,nod,val,ended⟩) 10 11 I4 (D8 H4).toArray (D8 ((Z7 edits k.K4).getD H4)).toArray) (by kernel_rfl) (by kernel_rfl) (by kernel_rfl) (λ_=>k5 _)
 ·refine E9 O (F7 O (λlst vs hl he=>D0 (H8 O)) (λ_ _ _=>rfl))<|E9 O (F7 O (λlst vs hl he=>D0 (N1 O)) (λ_ _ _=>rfl))<|E9 O (F7 O (λlst vs hl he=>D0 (I8 10 O)) (λ_ _ _=>rfl))<|E9 O (F7 O (λlst vs hl he=>D0 (K1 2 O)) (λ_ _ _=>rfl))<|E9 O (F7 O (λlst vs hl he=>D0 (I8 2 O)) (λ_ _ _=>rfl))<|E9 O (F7 O (λlst vs hl he=>D0 (K1 1 O)) (λ_ _ _=>rfl))<|E9 O (F7 O (λlst vs hl he=>D0 (Nv 8 (l:=edits) (k:=k.K4) O O O)) (λ_ _ _=>rfl))<|E9 O (F7 O (λlst vs hl he=>D0 (H8 O)) (λ_ _ _=>rfl))<|E9 O (F7 O (λlst vs hl he=>D0 (HO O O)) (λ_ _ _=>rfl))<|E9 O (F7 O (λlst vs hl he=>D0 (HO O O)) (λ_ _ _=>rfl))<|E9 O (VJ O (by decide) RE)<|E9 O (gJ O O (by decide) (by decide) (by kernel_rfl) (λ_=>rfl) (λ_=>rfl) O O) ?_;exact Bf
 ·(repeat(first|exact trivial|exact(λ_ _ _ h=>h)|refine⟨trivial,?_⟩|refine⟨λ_ _ _ h=>h,?_⟩))
 ·intro vs w1 hx;obtain⟨b,hvb⟩:=BG (i:=10) rfl hx (by decide);refine kX hvb O O<|Ai (E':=[(0,.pointer (some ⟨g,0,none⟩)),(4,.pointer (some ⟨gz0,0,none⟩)),(5,.pointer (some ⟨gz1,0,none⟩)),(7,.pointer (some ⟨b,0,none⟩)),(14,.pointer (some ⟨gz0,2,none⟩)),(17,O6 ((Z7 edits k.K4).getD H4)),(18,.bool (Z7 edits k.K4).isSome)]) ⟨rfl,rfl,rfl,by rw[<-hvb];rfl,rfl,rfl,rfl,trivial⟩ ?_;cases hl:Z7 edits k.K4 with
  |some u=>
   have hc:(if some u=none/\edits.length=64 then(5:Int) else 0)=0:=if_neg (λh=>by cases h.1);rw[hc,if_pos rfl];refine A5 O<|B4 O<|J7 O<|A4 O<|F9 21 false O (by rfl)<|D2 O<|D2 O<|D2 O<|D2 O<|D2 O<|D2 O<|G4 O<|A6<|M8 O<|D6<|C8 ?_;apply BL 7 [_,_,_,_,_,_,_] (by kernel_rfl) (by kernel_rfl) (by kernel_rfl)
   ·refine D5 O (λvs=>H8 O)<|D5 O (λvs=>N1 O)<|D5 O (λvs=>I8 10 O)<|D5 O (λvs=>K1 3 O)<|D5 O (λvs=>I8 2 O)<|D5 O (λvs=>K1 2 O)<|D5 O (λvs=>FY 1 (k:=3) O) ?_;exact l6
   ·(repeat(first|exact trivial|exact(λ_ _ _ h=>h)|refine⟨trivial,?_⟩|refine⟨λ_ _ _ h=>h,?_⟩))
   ·intro vs2;refine XP 9 (l:=edits) (k:=k.K4) (v:=v) O O O O<|I0<|A5 O<|D4<|E4 O λw9 ho9=>?_;exact⟨z,rfl,hz,_,_,ho9.sublist (.cons _ (.cons _ (L9 ..)))⟩
  |none=>
   by_cases h64:edits.length=64
   ·have hc:(if(none:Option Vl)=none/\edits.length=64 then(5:Int) else 0)=5:=if_pos ⟨rfl,h64⟩;rw[hc,if_neg (by decide)];refine A5 O<|B4 O<|J7 O<|A4 O<|F9 21 true O (by rfl)<|B3 O<|A4 O<|B3 O<|E5 O<|B3 O<|D9 O<|B3 O<|N3 3 O<|B3 O<|B9 (jD (i:=9) (e:=I4) (l:=R0 edits) (by kernel_rfl) O O) O<|B3 O<|H5 O<|K8 O<|A6<|E7 O (by(rw[Qf];omega))<|A3<|A5 O<|D4<|K0<|E4 O λw9 ho9=>?_;exact⟨z,rfl,hz,_,_,ho9.sublist (.cons _ (.cons _ (L9 ..)))⟩
   ·have hc:(if(none:Option Vl)=none/\edits.length=64 then(5:Int) else 0)=0:=if_neg (λh=>h64 h.2);rw[hc,if_pos rfl];refine A5 O<|B4 O<|J7 O<|A4 O<|F9 21 true O (by rfl)<|B3 O<|A4 O<|B3 O<|E5 O<|B3 O<|D9 O<|B3 O<|N3 3 O<|B3 O<|B9 (jD (i:=9) (e:=I4) (l:=R0 edits) (by kernel_rfl) O O) O<|B3 O<|H5 O<|K8 O<|A6<|E0 O (by(rw[Qf];omega))<|D6<|C8 ?_;apply BL 7 [_,_,_,_,_,_,_] (by kernel_rfl) (by kernel_rfl) (by kernel_rfl)
    ·refine D5 O (λvs=>H8 O)<|D5 O (λvs=>N1 O)<|D5 O (λvs=>I8 10 O)<|D5 O (λvs=>K1 3 O)<|D5 O (λvs=>I8 2 O)<|D5 O (λvs=>K1 2 O)<|D5 O (λvs=>FY 1 (k:=3) O) ?_;exact l6
    ·(repeat(first|exact trivial|exact(λ_ _ _ h=>h)|refine⟨trivial,?_⟩|refine⟨λ_ _ _ h=>h,?_⟩))
    ·intro vs2;refine XP 9 (l:=edits) (k:=k.K4) (v:=v) O O O O<|I0<|A5 O<|D4<|E4 O λw9 ho9=>?_;exact⟨z,rfl,hz,_,_,ho9.sublist (.cons _ (.cons _ (L9 ..)))⟩
theorem lY(m:Mc)(k:C9)(v:Vl)(node:Int):Ku (Ee m k) node {m with edits:=if Ee m k=0 then BC m.edits k v else m.edits}=HL k v node m:=by
 unfold Ku HL;by_cases h:Ee m k=0
 ·rw[if_pos h,if_pos h,if_pos h]
 ·rw[if_neg h,if_neg h,if_neg h]
theorem rI{W:Wt}{node:Int}{m:Mc}{S:List Vl}{k v:Vl}(hS:m.stack=S++[k]++[v]):OH W node m=if Bg k (Cx W)≠0 then V7 (Bg k (Cx W)) node H4 {m with stack:=S} else if v.kind=0 then V7 10 node H4 {m with stack:=S} else HL k.K4 v node {m with stack:=S}:=by
 have h1:X6 m=v:=by simp[X6,hS]
 have h2:X6 (O9 m)=k:=by simp[X6,O9,hS]
 have h3:O9 (O9 m)={m with stack:=S}:=by simp[O9,hS]
 unfold OH;dsimp only;rw[h1,h2,h3]
theorem tQ{W:Wt}{node:Int}{m:Mc}{S:List Vl}{k:Vl}(hS:m.stack=S++[k]):Nu W node m=if Bg k (Cx W)≠0 then V7 (Bg k (Cx W)) node H4 {m with stack:=S} else HL k.K4 H4 node {m with stack:=S}:=by
 have h1:X6 m=k:=by simp[X6,hS]
 have h3:O9 m={m with stack:=S}:=by simp[O9,hS]
 unfold Nu;dsimp only;rw[h1,h3]
theorem HJ{c node:Int}{m:Mc}(h:c≠0):Ku c node m=V7 c node H4 m:=if_neg h
theorem pL(hE:ER w0 e W M B8)(node:Int){S:List Vl}{k v:Vl}(hS:m.stack=S++[k]++[v])(hl:m.stack.length<=90001):Y5 w0 e m 83 (λg=> #[.pointer (some ⟨g,0,none⟩),.int .i64 node]) (OH W node m) (.tuple #[]):=by
 intro g z w hz hb hU ho;refine G7 ho func83 O ntmps83 O ?_;have hG:=k6 hb hU;have hP1:=LA w0 e m hS hl;have hP2:=LA w0 e {m with stack:=S++[k]} (S:=S) (v:=k) rfl (by rw[hS] at hl;simp at hl⊢;omega);have hK:=Vz (m:={m with stack:=S}) (f:=127) (by kernel_rfl) (Cx W) hE (λk=>lO hE k) k;rw[rI hS];by_cases hk:Bg k (Cx W)=0
 ·rw[if_neg (λh=>h hk)];rw[hk] at hK;by_cases hv:v.kind=0
  ·rw[if_pos hv];have hF:=FV w0 e {m with stack:=S} 10 node;rw[HJ (by decide)] at hF;refine B4 O<|P0 [] hP1 hG hz O (A7 O) O O λz1 hz1=>E3 P7 O λgz0=>E8 0 ((D8 v).toArray) O<|I9 O<|P0 [.B1 gz0 I4 (D8 v).toArray] hP2 hG hz1 O (A7 O) O O λz2 hz2=>E3 P7 O λgz1=>E8 0 ((D8 k).toArray) O<|I0<|G6 0 O O<|A4 O<|B9 (Ky (vs:=[.pointer (some ⟨g,0,none⟩)]) O) O<|P0 [.B1 gz1 I4 (D8 k).toArray,.B1 gz0 I4 (D8 v).toArray] hK hG hz2 O (A7 O) O O λz3 hz3=>A5 O<|B5<|A4 O<|H5 O<|A4 O<|F9 17 true O (decide_eq_true (by decide))<|B3 O<|D9 O<|B3 O<|N3 1 O<|B3 O<|H5 O<|K8 O<|A6<|E7 O (by exact hv)<|C5<|A5 O<|B5<|A4 O<|H5 O<|A6<|E0 O (by decide)<|D6<|C5<|A4 O<|A4 O<|A4 O ?_;exact P0 [.B1 gz1 I4 (D8 k).toArray,.B1 gz0 I4 (D8 v).toArray] hF hG hz3 O (A7 O) O O λz4 hz4=>H6<|K7 O λw9 ho9=>⟨z4,rfl,hz4,_,_,ho9.sublist (.cons _ (L9 ..))⟩
  ·rw[if_neg hv];have hC:=dI w0 e {m with stack:=S} k v;have hF:=FV w0 e {{m with stack:=S} with edits:=if Ee {m with stack:=S} k.K4=0 then BC m.edits k.K4 v else m.edits} (Ee {m with stack:=S} k.K4) node;rw[lY {m with stack:=S} k.K4 v node] at hF;generalize Ee {m with stack:=S} k.K4=q at hC hF;generalize HL k.K4 v node {m with stack:=S}=m9 at hF⊢;refine B4 O<|P0 [] hP1 hG hz O (A7 O) O O λz1 hz1=>E3 P7 O λgz0=>E8 0 ((D8 v).toArray) O<|I9 O<|P0 [.B1 gz0 I4 (D8 v).toArray] hP2 hG hz1 O (A7 O) O O λz2 hz2=>E3 P7 O λgz1=>E8 0 ((D8 k).toArray) O<|I0<|G6 0 O O<|A4 O<|B9 (Ky (vs:=[.pointer (some ⟨g,0,none⟩)]) O) O<|P0 [.B1 gz1 I4 (D8 k).toArray,.B1 gz0 I4 (D8 v).toArray] hK hG hz2 O (A7 O) O O λz3 hz3=>A5 O<|B5<|A4 O<|H5 O<|A4 O<|F9 17 true O (decide_eq_true (by decide))<|B3 O<|D9 O<|B3 O<|N3 1 O<|B3 O<|H5 O<|K8 O<|A6<|E0 O (by exact hv)<|D6<|B5<|A4 O<|H5 O<|A6<|E7 O (by decide)<|C5<|A4 O<|G6 0 O O<|G6 1 O O<|P0 [.B1 gz1 I4 (D8 k).toArray,.B1 gz0 I4 (D8 v).toArray] hC hG hz3 O (A7 O) O O λz4 hz4=>A5 O ?_;exact C5<|A4 O<|A4 O<|A4 O<|P0 [.B1 gz1 I4 (D8 k).toArray,.B1 gz0 I4 (D8 v).toArray] hF hG hz4 O (A7 O) O O λz5 hz5=>H6<|K7 O λw9 ho9=>⟨z5,rfl,hz5,_,_,ho9.sublist (.cons _ (L9 ..))⟩
 ·rw[if_pos hk];have hF:=FV w0 e {m with stack:=S} (Bg k (Cx W)) node;rw[HJ hk] at hF;generalize Bg k (Cx W)=q at hK hF hk⊢;exact B4 O<|P0 [] hP1 hG hz O (A7 O) O O λz1 hz1=>E3 P7 O λgz0=>E8 0 ((D8 v).toArray) O<|I9 O<|P0 [.B1 gz0 I4 (D8 v).toArray] hP2 hG hz1 O (A7 O) O O λz2 hz2=>E3 P7 O λgz1=>E8 0 ((D8 k).toArray) O<|I0<|G6 0 O O<|A4 O<|B9 (Ky (vs:=[.pointer (some ⟨g,0,none⟩)]) O) O<|P0 [.B1 gz1 I4 (D8 k).toArray,.B1 gz0 I4 (D8 v).toArray] hK hG hz2 O (A7 O) O O λz3 hz3=>A5 O<|B5<|A4 O<|H5 O<|A4 O<|F9 17 false O (decide_eq_false (by exact hk))<|D2 O<|D2 O<|D2 O<|G4 O<|A6<|M8 O<|D6<|B5<|A4 O<|H5 O<|A6<|E0 O (by exact hk)<|D6<|C5<|A4 O<|A4 O<|A4 O<|P0 [.B1 gz1 I4 (D8 k).toArray,.B1 gz0 I4 (D8 v).toArray] hF hG hz3 O (A7 O) O O λz4 hz4=>H6<|K7 O λw9 ho9=>⟨z4,rfl,hz4,_,_,ho9.sublist (.cons _ (L9 ..))⟩
theorem ab5(hE:ER w0 e W M B8)(node:Int){S:List Vl}{k:Vl}(hS:m.stack=S++[k])(hl:m.stack.length<=90001):Y5 w0 e m 84 (λg=> #[.pointer (some ⟨g,0,none⟩),.int .i64 node]) (Nu W node m) (.tuple #[]):=by
 intro g z w hz hb hU ho;refine G7 ho func84 O ntmps84 O ?_;have hG:=k6 hb hU;have hP1:=LA w0 e m hS hl;have hK:=Vz (m:={m with stack:=S}) (f:=127) (by kernel_rfl) (Cx W) hE (λk=>lO hE k) k;rw[tQ hS];by_cases hk:Bg k (Cx W)=0
 ·rw[if_neg (λh=>h hk)];rw[hk] at hK;have hC:=dI w0 e {m with stack:=S} k H4;have hF:=FV w0 e {{m with stack:=S} with edits:=if Ee {m with stack:=S} k.K4=0 then BC m.edits k.K4 H4 else m.edits} (Ee {m with stack:=S} k.K4) node;rw[lY {m with stack:=S} k.K4 H4 node] at hF;generalize Ee {m with stack:=S} k.K4=q at hC hF;generalize HL k.K4 H4 node {m with stack:=S}=m9 at hF⊢;exact B4 O<|P0 [] hP1 hG hz O (A7 O) O O λz1 hz1=>E3 P7 O λgz0=>E8 0 ((D8 k).toArray) O<|I0<|G6 0 O O<|A4 O<|B9 (Ky (vs:=[.pointer (some ⟨g,0,none⟩)]) O) O<|P0 [.B1 gz0 I4 (D8 k).toArray] hK hG hz1 O (A7 O) O O λz3 hz3=>A5 O<|B5<|A4 O<|H5 O<|A6<|E7 O (by decide)<|C5<|A4 O<|G6 0 O O<|B9 (O7 (D8 H4) Bc O) O<|P0 [.B1 gz0 I4 (D8 k).toArray] hC hG hz3 O (A7 O) O O λz4 hz4=>A5 O<|C5<|A4 O<|A4 O<|A4 O<|P0 [.B1 gz0 I4 (D8 k).toArray] hF hG hz4 O (A7 O) O O λz5 hz5=>H6<|K7 O λw9 ho9=>⟨z5,rfl,hz5,_,_,ho9.sublist (L9 ..)⟩
 ·rw[if_pos hk];have hF:=FV w0 e {m with stack:=S} (Bg k (Cx W)) node;rw[HJ hk] at hF;generalize Bg k (Cx W)=q at hK hF hk⊢;exact B4 O<|P0 [] hP1 hG hz O (A7 O) O O λz1 hz1=>E3 P7 O λgz0=>E8 0 ((D8 k).toArray) O<|I0<|G6 0 O O<|A4 O<|B9 (Ky (vs:=[.pointer (some ⟨g,0,none⟩)]) O) O<|P0 [.B1 gz0 I4 (D8 k).toArray] hK hG hz1 O (A7 O) O O λz3 hz3=>A5 O<|B5<|A4 O<|H5 O<|A6<|E0 O (by exact hk)<|D6<|C5<|A4 O<|A4 O<|A4 O<|P0 [.B1 gz0 I4 (D8 k).toArray] hF hG hz3 O (A7 O) O O λz4 hz4=>H6<|K7 O λw9 ho9=>⟨z4,rfl,hz4,_,_,ho9.sublist (L9 ..)⟩
end
section
variable{w0:World}{e:T4}{W:Wt}{M:Cd}{B8:Int}{m:Mc}
theorem ae4{q:Nat}{node:Int}{m:Mc}{S:List Vl}{v:Vl}(hS:m.stack=S++[v]):PV q node m=if v.kind≠1 then V7 10 node H4 {m with stack:=S} else if v.num=0 then{m with stack:=S,at_:=q} else{m with stack:=S}:=by
 have h1:X6 m=v:=by simp[X6,hS]
 have h3:O9 m={m with stack:=S}:=by simp[O9,hS]
 unfold PV;rw[h1,h3]
theorem ac5{q:Nat}{b node:Int}{m:Mc}{S:List Vl}{v:Vl}(hS:m.stack=S++[v]):Nz q b node m=if m.left=0 then V7 11 node H4 m else if v.kind≠1 then V7 10 node H4 {m with left:=m.left-1} else if v.num=b then{m with left:=m.left-1,at_:=q} else{m with left:=m.left-1,stack:=S}:=by
 have h1:X6 m=v:=by simp[X6,hS]
 have h3:O9 {m with left:=m.left-1}={m with left:=m.left-1,stack:=S}:=by simp[O9,hS]
 unfold Nz;rw[h1,h3]
theorem ax8(w0:B6)(e:T4)(m:Mc)(op b node:Int)(q:Nat){S:List Vl}{v:Vl}(hS:m.stack=S++[v])(hl:m.stack.length<=90001):Y5 w0 e m 82 (λg=> #[.pointer (some ⟨g,0,none⟩),u0 ⟨op,q,b,node⟩]) (PV q node m) (.tuple #[]):=by
 intro g z w hz hb hU ho;refine G7 ho func82 O ntmps82 O ?_;have hG:=k6 hb hU;have hP:=LA w0 e m hS hl;rw[ae4 hS];obtain⟨at_,left,stack,C0,lists,counts,edits,code,nod,val,ended⟩:=m;dsimp only at hP⊢;by_cases hk:v.kind=1
 ·rw[if_neg (λh=>h hk)];by_cases hn:v.num=0
  ·rw[if_pos hn];exact A3<|F0 O λgz0=>I9 O<|P0 [.B1 gz0 Q1 (P4 ⟨op,q,b,node⟩).toArray] hP hG hz O (A7 O) O O λz1 hz1=>E3 P7 O λgz1=>E8 0 ((D8 v).toArray) O<|A6<|C7<|A3<|B2 0 O<|J3 O<|A5 O<|E0 O (by omega)<|A3<|B2 0 O<|Q9 O (by exact hn)<|C5<|A4 O<|B2 1 O<|E5 O<|D9 O<|N4 2 O<|H6<|F4<|K7 O λw9 ho9=>⟨z1,rfl,hz1,_,_,ho9.sublist (.cons _ (L9 ..))⟩
  ·rw[if_neg hn];exact A3<|F0 O λgz0=>I9 O<|P0 [.B1 gz0 Q1 (P4 ⟨op,q,b,node⟩).toArray] hP hG hz O (A7 O) O O λz1 hz1=>E3 P7 O λgz1=>E8 0 ((D8 v).toArray) O<|A6<|C7<|A3<|B2 0 O<|J3 O<|A5 O<|E0 O (by omega)<|A3<|B2 0 O<|C3 O (by exact hn)<|P5<|F4<|K7 O λw9 ho9=>⟨z1,rfl,hz1,_,_,ho9.sublist (.cons _ (L9 ..))⟩
 ·rw[if_pos hk];have hF:=FV w0 e ⟨at_,left,S,C0,lists,counts,edits,code,nod,val,ended⟩ 10 node;rw[HJ (by decide)] at hF;exact A3<|F0 O λgz0=>I9 O<|P0 [.B1 gz0 Q1 (P4 ⟨op,q,b,node⟩).toArray] hP hG hz O (A7 O) O O λz1 hz1=>E3 P7 O λgz1=>E8 0 ((D8 v).toArray) O<|A6<|C7<|A3<|B2 0 O<|J3 O<|A5 O<|E7 O (by exact hk)<|C5<|A4 O<|B2 1 O<|P0 [.B1 gz1 I4 (D8 v).toArray,.B1 gz0 Q1 (P4 ⟨op,q,b,node⟩).toArray] hF hG hz1 O (A7 O) O O λz2 hz2=>H6<|F4<|K7 O λw9 ho9=>⟨z2,rfl,hz2,_,_,ho9.sublist (.cons _ (L9 ..))⟩
theorem vG(w0:B6)(e:T4)(m:Mc)(op b node:Int)(q:Nat){S:List Vl}{v:Vl}(hS:m.stack=S++[v])(hl:m.stack.length<=90001)(hlf:m.left<=100000):Y5 w0 e m 80 (λg=> #[.pointer (some ⟨g,0,none⟩),u0 ⟨op,q,b,node⟩]) (Nz q b node m) (.tuple #[]):=by
 intro g z w hz hb hU ho;refine G7 ho func80 O ntmps80 O ?_;have hG:=k6 hb hU;rw[ac5 hS];by_cases h0:m.left=0
 ·rw[if_pos h0];have hY:=NP w0 e m node h0;refine A3<|F0 O λgz0=>A6<|B5<|A4 O<|B2 0 O<|P0 [.B1 gz0 Q1 (P4 ⟨op,q,b,node⟩).toArray] hY hG hz O (A7 O) O O λz1 hz1=>J7 O<|A6<|R1 O<|D4<|K0<|Ct O O λw9 ho9=>?_;exact⟨z1,rfl,hz1,_,_,ho9.sublist (L9 ..)⟩
 rw[if_neg h0];have hY:=RV w0 e m node h0 hlf;have hlen:m.stack.length=S.length+1:=by rw[hS];simp
 have hat:m.stack[S.length]?=some v:=by rw[hS,j4 (L6 _),JH];rfl
 obtain⟨at_,left,stack,C0,lists,counts,edits,code,nod,val,ended⟩:=m;dsimp only at hY hS hl hlen hat⊢;refine A3<|F0 O λgz0=>A6<|B5<|A4 O<|B2 0 O<|P0 [.B1 gz0 Q1 (P4 ⟨op,q,b,node⟩).toArray] hY hG hz O (A7 O) O O λz1 hz1=>J7 O<|A6<|M8 O<|D6<|C8 ?_;rotate_left;refine R7 2 O ?_;obtain⟨sv,T6,lv,cv,ls⟩:=z1;rintro⟨_,⟨hsv,h00⟩|⟨gs,cp,hsv⟩⟩
 ·dsimp only at h00;omega
 dsimp only at hsv;subst hsv;have hi1:(stack.length:Int)-1=(S.length:Int):=by omega
 have hlt:S.length<stack.length:=by omega
 apply Bh 13 [_,_,_,_,_,_,_,_,_,_,_,_,QD] (EU (.B1 gz0 Q1 (P4 ⟨op,q,b,node⟩).toArray::O3 g e ⟨.slice (some ⟨gs,0,none⟩) stack.length cp,T6,lv,cv,ls⟩ ⟨at_,left-1,stack,C0,lists,counts,edits,code,nod,val,ended⟩) 12 13 I4 (D8 H4).toArray (D8 v).toArray) (by kernel_rfl) (by kernel_rfl) (by kernel_rfl) (λ_=>k5 _)
 ·refine E9 O (F7 O (λlst vs hl he=>D0 (H8 O)) (λ_ _ _=>rfl))<|E9 O (F7 O (λlst vs hl he=>D0 (N1 O)) (λ_ _ _=>rfl))<|E9 O (F7 O (λlst vs hl he=>D0 (I8 5 O)) (λ_ _ _=>rfl))<|E9 O (F7 O (λlst vs hl he=>D0 (K1 1 O)) (λ_ _ _=>rfl))<|E9 O (F7 O (λlst vs hl he=>D0 (H8 O)) (λ_ _ _=>rfl))<|E9 O (F7 O (λlst vs hl he=>D0 (N1 O)) (λ_ _ _=>rfl))<|E9 O (F7 O (λlst vs hl he=>D0 (I8 5 O)) (λ_ _ _=>rfl))<|E9 O (F7 O (λlst vs hl he=>D0 (K1 1 O)) (λ_ _ _=>rfl))<|E9 O (F7 O (λlst vs hl he=>D0 (KG (by kernel_rfl) O)) (λ_ _ _=>rfl))<|E9 O (F7 O (λlst vs hl he=>D0 (hi1▸DA rfl rfl (by omega))) (λ_ _ _=>rfl))<|E9 O (F7 O (λlst vs hl he=>D0 (En 3 (S.length) O hlt)) (λ_ _ _=>rfl))<|E9 O (F7 O (λlst vs hl he=>D0 (Ip (vs:=D8 v) (by kernel_rfl) O (λw' ho=>X7 Hh ho (q:=2) rfl hat))) (λ_ _ _=>rfl))<|E9 O (VJ O (by decide) RE) ?_;exact Bf
 ·(repeat(first|exact trivial|exact(λ_ _ _ h=>h)|refine⟨trivial,?_⟩|refine⟨λ_ _ _ h=>h,?_⟩))
 ·intro vs w1 hx;obtain⟨b4,hvb⟩:=BG (i:=12) rfl hx (by decide);refine qU hvb O O<|Ai (E':=[(0,.pointer (some ⟨g,0,none⟩)),(3,.pointer (some ⟨gz0,0,none⟩)),(4,.pointer (some ⟨b4,0,none⟩)),(21,O6 v)]) ⟨rfl,rfl,by rw[<-hvb];rfl,rfl,trivial⟩ ?_;by_cases hk:v.kind=1
  ·rw[if_neg (λh=>h hk)];by_cases hn:v.num=b
   ·rw[if_pos hn];refine E8 0 ((D8 v).toArray) O<|A6<|C7<|A3<|B2 0 O<|J3 O<|A5 O<|E0 O (by omega)<|A3<|B2 0 O<|B2 1 O<|Q9 O (by exact hn)<|C5<|A4 O<|B2 1 O<|E5 O<|D9 O<|N4 2 O<|H6<|F4<|K7 O λw9 ho9=>?_;exact⟨⟨.slice (some ⟨gs,0,none⟩) stack.length cp,T6,lv,cv,ls⟩,rfl,hz1,_,_,ho9.sublist (.cons _ (L9 ..))⟩
   ·rw[if_neg hn];have hP:=LA w0 e ⟨at_,left-1,stack,C0,lists,counts,edits,code,nod,val,ended⟩ hS hl;refine E8 0 ((D8 v).toArray) O<|A6<|C7<|A3<|B2 0 O<|J3 O<|A5 O<|E0 O (by omega)<|A3<|B2 0 O<|B2 1 O<|C3 O (by exact hn)<|C5<|A4 O<|P0 [.B1 b4 I4 (D8 v).toArray,.B1 gz0 Q1 (P4 ⟨op,q,b,node⟩).toArray] hP hG hz1 O (A7 O) O O λz2 hz2=>H6<|F4<|K7 O λw9 ho9=>?_;exact⟨z2,rfl,hz2,_,_,ho9.sublist (.cons _ (L9 ..))⟩
  ·rw[if_pos hk];have hF:=FV w0 e ⟨at_,left-1,stack,C0,lists,counts,edits,code,nod,val,ended⟩ 10 node;rw[HJ (by decide)] at hF;refine E8 0 ((D8 v).toArray) O<|A6<|C7<|A3<|B2 0 O<|J3 O<|A5 O<|E7 O (by exact hk)<|C5<|A4 O<|B2 1 O<|P0 [.B1 b4 I4 (D8 v).toArray,.B1 gz0 Q1 (P4 ⟨op,q,b,node⟩).toArray] hF hG hz1 O (A7 O) O O λz2 hz2=>H6<|F4<|K7 O λw9 ho9=>?_;exact⟨z2,rfl,hz2,_,_,ho9.sublist (.cons _ (L9 ..))⟩
end
section
variable{w0:World}{e:T4}{W:Wt}{M:Cd}{B8:Int}{m:Mc}
theorem vN{has:List Ed}{k:Nat}{node:Int}{m:Mc}{S:List Vl}{v:Vl}(hS:m.stack=S++[v]):HQ W has 3 k node m=if m.left=0 then V7 11 node H4 m else Jf (Mr W has m.edits k v) node {m with left:=m.left-1,stack:=S}:=by
 have h1:X6 m=v:=by simp[X6,hS]
 have h3:O9 {m with left:=m.left-1}={m with left:=m.left-1,stack:=S}:=by simp[O9,hS]
 unfold HQ;rw[h1,h3,if_neg (show¬(3:Nat)=4 by decide)]
theorem xD{has:List Ed}{k:Nat}{node:Int}{m:Mc}{S:List Vl}{x y:Vl}(hS:m.stack=S++[x]++[y]):HQ W has 4 k node m=if m.left=0 then V7 11 node H4 m else Jf (NV k x y) node {m with left:=m.left-1,stack:=S}:=by
 have h1:X6 m=y:=by simp[X6,hS]
 have h2:X6 (O9 m)=x:=by simp[X6,O9,hS]
 have h3:O9 (O9 {m with left:=m.left-1})={m with left:=m.left-1,stack:=S}:=by simp[O9,hS]
 unfold HQ;rw[h1,h2,h3,if_pos rfl]
theorem mS(hE:ER w0 e W M B8)(he:Ab m.edits)(k:Nat)(b node:Int){S:List Vl}{v:Vl}(hv:N2 v)(hS:m.stack=S++[v])(hl:m.stack.length<=90000)(hlf:m.left<=100000):
  Y5 w0 e m 79 (λg=> #[.pointer (some ⟨g,0,none⟩),u0 ⟨3,k,b,node⟩]) (HQ W e.has 3 k node m) (.tuple #[]):=by
 intro g z w hz hb hU ho;refine G7 ho func79 O ntmps79 O ?_;have hG:=k6 hb hU;rw[vN hS];by_cases h0:m.left=0
 ·rw[if_pos h0];have hY:=NP w0 e m node h0;exact A3<|F0 O λgz0=>A6<|B5<|A4 O<|B2 0 O<|P0 [.B1 gz0 Q1 (P4 ⟨3,k,b,node⟩).toArray] hY hG hz O (A7 O) O O λz1 hz1=>J7 O<|A6<|R1 O<|D4<|K0<|Ct O O λw9 ho9=>⟨z1,rfl,hz1,_,_,ho9.sublist (L9 ..)⟩
 rw[if_neg h0];have hY:=RV w0 e m node h0 hlf;have hP:=LA w0 e {m with left:=m.left-1} hS (Nat.le_succ_of_le hl);have hC:=uB (m:={m with left:=m.left-1,stack:=S}) hE he k hv;obtain⟨at_,left,stack,C0,lists,counts,edits,code,nod,val,ended⟩:=m;dsimp only at hY hP hC hS hl⊢;generalize Mr W e.has edits k v=r at hC⊢;have hF:=FV w0 e ⟨at_,left-1,S,C0,lists,counts,edits,code,nod,val,ended⟩ r.2 node;unfold Jf;by_cases hr:r.2=0
 ·rw[if_pos hr];have hF0:Ku r.2 node ⟨at_,left-1,S,C0,lists,counts,edits,code,nod,val,ended⟩=⟨at_,left-1,S,C0,lists,counts,edits,code,nod,val,ended⟩:=if_pos hr;rw[hF0,decide_eq_false (λh=>h hr)] at hF;have hQ:=UD w0 e ⟨at_,left-1,S,C0,lists,counts,edits,code,nod,val,ended⟩ r.1 (by rw[hS] at hl;simp at hl⊢;omega);refine A3<|F0 O λgz0=>A6<|B5<|A4 O<|B2 0 O<|P0 [.B1 gz0 Q1 (P4 ⟨3,k,b,node⟩).toArray] hY hG hz O (A7 O) O O λz1 hz1=>J7 O<|A6<|M8 O<|D6<|B4 O<|P0 [.B1 gz0 Q1 (P4 ⟨3,k,b,node⟩).toArray] hP hG hz1 O (A7 O) O O λz2 hz2=>E3 P7 O λgz1=>E8 0 ((D8 v).toArray) O<|I0<|E3 P7 O λgz2=>I0<|A5 O<|B5<|B2 2 O<|H5 O<|A6<|C4 O (λz3=>absurd z3 (by simp[*])) λz3=>C5<|A4 O<|B2 2 O<|G6 1 O O<|P0 [.B1 gz2 I4 (D8 H4).toArray,.B1 gz1 I4 (D8 v).toArray,.B1 gz0 Q1 (P4 ⟨3,k,b,node⟩).toArray] hC hG hz2 O (A7 O) O O λz3 hz3=>A4 O<|G1 O<|G1 O<|E8 0 ((D8 r.1).toArray) O<|A5 O<|B4 O<|A4 O<|B2 2 O<|P0 [.B1 gz2 I4 (D8 r.1).toArray,.B1 gz1 I4 (D8 v).toArray,.B1 gz0 Q1 (P4 ⟨3,k,b,node⟩).toArray] hF hG hz3 O (A7 O) O O λz4 hz4=>J7 O<|A6 ?_;refine R1 O<|C5<|A4 O<|G6 0 O O<|P0 [.B1 gz2 I4 (D8 r.1).toArray,.B1 gz1 I4 (D8 v).toArray,.B1 gz0 Q1 (P4 ⟨3,k,b,node⟩).toArray] hQ hG hz4 O (A7 O) O O λz5 hz5=>H6<|K7 O λw9 ho9=>?_;exact⟨z5,rfl,hz5,_,_,ho9.sublist (.cons _ (.cons _ (L9 ..)))⟩
 ·rw[if_neg hr];rw[HJ hr,decide_eq_true hr] at hF;refine A3<|F0 O λgz0=>A6<|B5<|A4 O<|B2 0 O<|P0 [.B1 gz0 Q1 (P4 ⟨3,k,b,node⟩).toArray] hY hG hz O (A7 O) O O λz1 hz1=>J7 O<|A6<|M8 O<|D6<|B4 O<|P0 [.B1 gz0 Q1 (P4 ⟨3,k,b,node⟩).toArray] hP hG hz1 O (A7 O) O O λz2 hz2=>E3 P7 O λgz1=>E8 0 ((D8 v).toArray) O<|I0<|E3 P7 O λgz2=>I0<|A5 O<|B5<|B2 2 O<|H5 O<|A6<|C4 O (λz3=>absurd z3 (by simp[*])) λz3=>C5<|A4 O<|B2 2 O<|G6 1 O O<|P0 [.B1 gz2 I4 (D8 H4).toArray,.B1 gz1 I4 (D8 v).toArray,.B1 gz0 Q1 (P4 ⟨3,k,b,node⟩).toArray] hC hG hz2 O (A7 O) O O λz3 hz3=>A4 O<|G1 O<|G1 O<|E8 0 ((D8 r.1).toArray) O<|A5 O<|B4 O<|A4 O<|B2 2 O<|P0 [.B1 gz2 I4 (D8 r.1).toArray,.B1 gz1 I4 (D8 v).toArray,.B1 gz0 Q1 (P4 ⟨3,k,b,node⟩).toArray] hF hG hz3 O (A7 O) O O λz4 hz4=>J7 O<|A6 ?_;refine M8 O<|P5<|K7 O λw9 ho9=>?_;exact⟨z4,rfl,hz4,_,_,ho9.sublist (.cons _ (.cons _ (L9 ..)))⟩
theorem az7(w0:B6)(e:T4)(m:Mc)(W:Wt)(k:Nat)(hk:k<12)(b node:Int){S:List Vl}{x y:Vl}(hx:N2 x)(hy:N2 y)(hS:m.stack=S++[x]++[y])(hl:m.stack.length<=90000)(hlf:m.left<=100000):
  Y5 w0 e m 79 (λg=> #[.pointer (some ⟨g,0,none⟩),u0 ⟨4,k,b,node⟩]) (HQ W e.has 4 k node m) (.tuple #[]):=by
 intro g z w hz hb hU ho;refine G7 ho func79 O ntmps79 O ?_;have hG:=k6 hb hU;rw[xD hS];by_cases h0:m.left=0
 ·rw[if_pos h0];have hY:=NP w0 e m node h0;refine A3<|F0 O λgz0=>A6<|B5<|A4 O<|B2 0 O<|P0 [.B1 gz0 Q1 (P4 ⟨4,k,b,node⟩).toArray] hY hG hz O (A7 O) O O λz1 hz1=>J7 O<|A6<|R1 O<|D4<|K0<|Ct O O λw9 ho9=>?_;rotate_left;exact⟨z1,rfl,hz1,_,_,ho9.sublist (L9 ..)⟩
 rw[if_neg h0];have hY:=RV w0 e m node h0 hlf;have hP:=LA w0 e {m with left:=m.left-1} hS (Nat.le_succ_of_le hl);obtain⟨at_,left,stack,C0,lists,counts,edits,code,nod,val,ended⟩:=m;dsimp only at hY hP hS hl⊢;have hl2:(S++[x]).length<=90001:=by rw[hS] at hl;simp at hl⊢;omega
 have hP2:=Qo e ⟨at_,left-1,S++[x],C0,lists,counts,edits,code,nod,val,ended⟩ (S:=S) (v:=x) rfl hl2 g;have hT:=λw=>ad9 k hk hx hy w;generalize NV k x y=r at hT⊢;have hF:=FV w0 e ⟨at_,left-1,S,C0,lists,counts,edits,code,nod,val,ended⟩ r.2 node;refine A3<|F0 O λgz0=>A6<|B5<|A4 O<|B2 0 O<|P0 [.B1 gz0 Q1 (P4 ⟨4,k,b,node⟩).toArray] hY hG hz O (A7 O) O O λz1 hz1=>J7 O<|A6<|M8 O<|D6<|B4 O<|P0 [.B1 gz0 Q1 (P4 ⟨4,k,b,node⟩).toArray] hP hG hz1 O (A7 O) O O λz2 hz2=>E3 P7 O λgz1=>E8 0 ((D8 y).toArray) O<|I0<|E3 P7 O λgz2=>I0<|A5 O<|B5<|B2 2 O<|H5 O<|A6<|C4 O (λz3=>?_) (λz3=>?_);rotate_left;contradiction;have hP3:=hP2 z2;generalize hz3:({z2 with sv:=AZ S.length z2.sv}:Cs)=z3 at hP3;have hz3':HV z3 ⟨at_,left-1,S,C0,lists,counts,edits,code,nod,val,ended⟩:=by rw[<-hz3];exact hz2
 apply Bh 10 [_,_,_,.val (O6 x),_,_,_,_,_,j2] (λlst _=>.B1 gz2 I4 (if lst 9 then(D8 r.1).toArray else(D8 H4).toArray)::.B1 gz1 I4 (D8 y).toArray::.B1 gz0 Q1 (P4 ⟨4,k,b,node⟩).toArray::(if lst 3 then O3 g e z3 ⟨at_,left-1,S,C0,lists,counts,edits,code,nod,val,ended⟩ else O3 g e z2 ⟨at_,left-1,S++[x],C0,lists,counts,edits,code,nod,val,ended⟩)) (by kernel_rfl) (by kernel_rfl) (by kernel_rfl) (λ_=>rfl)
 ·refine E9 O (F7 O (λlst vs hl he=>D0 (I8 1 O)) (λ_ _ _=>rfl))<|E9 O (F7 O (λlst vs hl he=>D0 (K1 2 O)) (λ_ _ _=>rfl))<|E9 O (F7 O (λlst vs hl he=>D0 (H8 O)) (λ_ _ _=>rfl))<|E9 O (CZ O λlst vs hl he a w hf ho hx=>?_) ?_;rotate_left;refine E9 O (F7 O (λlst vs hl he=>D0 (FY 1 (k:=3) O)) (λ_ _ _=>rfl))<|E9 O (F7 O (λlst vs hl he=>IZ (A7 O) (λw ho _=>hT w)) (λ_ _ _=>rfl))<|E9 O (F7 O (λlst vs hl he=>D0 (H8 O)) (λ_ _ _=>rfl))<|E9 O (F7 O (λlst vs hl he=>D0 (HO O O)) (λ_ _ _=>rfl))<|E9 O (F7 O (λlst vs hl he=>D0 (HO O O)) (λ_ _ _=>rfl))<|E9 O (UQ O O (λlst vs hl he=>Jq (Sz (i:=0) (vs:=(D8 r.1).toArray) (by kernel_rfl) O O O O (show(if lst 9 then(D8 r.1).toArray else(D8 H4).toArray).size=3 by split<;>rfl)) O)) ?_;exact Bf;have hl:lst 3=false:=hl;have ho1:=ho;rw[hl,if_neg Bool.false_ne_true] at ho1;have ho2:B7 _ (O3 g e z2 ⟨at_,left-1,S++[x],C0,lists,counts,edits,code,nod,val,ended⟩++[.B1 gz2 I4 (if lst 9 then(D8 r.1).toArray else(D8 H4).toArray),.B1 gz1 I4 (D8 y).toArray,.B1 gz0 Q1 (P4 ⟨4,k,b,node⟩).toArray]) w:=ho1.perm (EC (l₂:=[_,_,_]));refine .inr ⟨_,_,MM (by kernel_rfl) rfl a w hf ho2,(hP3 w (B7.Gl (ho2.sublist (HB _ _)))).mono ?_⟩;rintro en w' ⟨rfl,hin⟩;exact⟨_,rfl,(ho2.Lc hin).perm (EC (l₁:=[_,_,_])),rfl⟩
 ·(repeat(first|exact trivial|exact(λ_ _ _ h=>h)|refine⟨trivial,?_⟩|refine⟨λ_ _ _ h=>h,?_⟩))
 ·intro vs w1 hx;refine x4 (H':=.B1 gz2 I4 (D8 r.1).toArray::.B1 gz1 I4 (D8 y).toArray::.B1 gz0 Q1 (P4 ⟨4,k,b,node⟩).toArray::O3 g e z3 ⟨at_,left-1,S,C0,lists,counts,edits,code,nod,val,ended⟩) O (λw ho=>ho) ?_;unfold Jf;by_cases hr:r.2=0
  ·rw[if_pos hr];have hF0:Ku r.2 node ⟨at_,left-1,S,C0,lists,counts,edits,code,nod,val,ended⟩=⟨at_,left-1,S,C0,lists,counts,edits,code,nod,val,ended⟩:=if_pos hr;rw[hF0,decide_eq_false (λh=>h hr)] at hF;have hQ:=UD w0 e ⟨at_,left-1,S,C0,lists,counts,edits,code,nod,val,ended⟩ r.1 (by simp at hl2⊢;omega);refine A5 O<|B4 O<|A4 O<|B2 2 O<|P0 [.B1 gz2 I4 (D8 r.1).toArray,.B1 gz1 I4 (D8 y).toArray,.B1 gz0 Q1 (P4 ⟨4,k,b,node⟩).toArray] hF hG hz3' O (A7 O) O O λz4 hz4=>J7 O<|A6<|R1 O<|C5<|A4 O<|G6 0 O O<|P0 [.B1 gz2 I4 (D8 r.1).toArray,.B1 gz1 I4 (D8 y).toArray,.B1 gz0 Q1 (P4 ⟨4,k,b,node⟩).toArray] hQ hG hz4 O (A7 O) O O λz5 hz5=>H6<|K7 O λw9 ho9=>?_;rotate_left;exact⟨z5,rfl,hz5,_,_,ho9.sublist (.cons _ (.cons _ (L9 ..)))⟩
  ·rw[if_neg hr];rw[HJ hr,decide_eq_true hr] at hF;refine A5 O<|B4 O<|A4 O<|B2 2 O<|P0 [.B1 gz2 I4 (D8 r.1).toArray,.B1 gz1 I4 (D8 y).toArray,.B1 gz0 Q1 (P4 ⟨4,k,b,node⟩).toArray] hF hG hz3' O (A7 O) O O λz4 hz4=>J7 O<|A6<|M8 O<|P5<|K7 O λw9 ho9=>?_;rotate_left;exact⟨z4,rfl,hz4,_,_,ho9.sublist (.cons _ (.cons _ (L9 ..)))⟩
end
def Dt(A:List C2)(ps:List Nat)(q:Nat)(H0 H1:List C2)(lst:Nat->Bool)(vs:Nat->Value):List C2:=
 A++if lst q then(if ps.all lst then H1 else[.B1 0 0 #[],.B1 0 0 #[]]) else H0
section
variable{P:Program}{n:Nat}{E:List (Nat×Value)}{C:I3}{ops:Array Oper}{S:List L0}
variable{A H0 H1:List C2}{ps:List Nat}{p q:Nat}{o:Oper}
theorem VK{lst:Nat->Bool}{i k:Nat}(h:k≠i):Q3 lst i k=lst k:=by unfold Q3;rw[dW h];rfl
theorem kR{lst:Nat->Bool}{i:Nat}:Q3 lst i i=true:=by unfold Q3;rw[Uw];rfl
theorem OU(hd:o.dst.isSome=true)(hp:p∈ps)(hpq:q≠p)(h:∀(lst:Nat->Bool) (vs:Nat->Value),lst q=false->(∀e∈M4 o,lst e=true)->Bk P n (U1 ops S vs (M4 o) E) C (A++H0) (X5 S vs (M4 o)) o (M9 S p)):
  Bx P n E C (Dt A ps q H0 H1) ops S p o/\(o.dst=none->M9 S p=j2):=
 CZ hd λlst vs hl he a w hf ho hx=>by
  have hall:ps.all lst=false:=by rw[Ni];exact⟨p,hp,by rw[hl];decide⟩
  cases hq:lst q with
  |true=>
   unfold Dt at ho;rw[hq,hall] at ho;exact(RO ho).elim
  |false=>
   have hH:Dt A ps q H0 H1 lst vs=A++H0:=by unfold Dt;rw[hq];rfl
   have hH2:∀u,Dt A ps q H0 H1 (Q3 lst p) (U9 vs p u)=A++H0:=λu=>by unfold Dt;rw[VK hpq,hq];rfl
   rw[hH] at ho;rcases h lst vs hq he a w hf ho hx with⟨u,w',h1,h2,_,h4⟩|⟨f,args,h1,h2⟩
   ·exact .inl ⟨u,w',h1,by rw[hH2];exact h2,h4⟩
   ·exact .inr ⟨f,args,h1,h2.mono λe w' ⟨u,h3,h4,_,h5⟩=>⟨u,h3,by rw[hH2];exact h4,h5⟩⟩
theorem VN(hd:o.dst=none)(hS:M9 S q=j2)(hpe:∀p∈ps,p∈M4 o)(hqp:q∉ps)(h:∀(lst:Nat->Bool) (vs:Nat->Value),(∀e∈M4 o,lst e=true)->Ic P n (U1 ops S vs (M4 o) E) C (A++H0) o (A++H1)):
  Bx P n E C (Dt A ps q H0 H1) ops S q o/\(o.dst=none->M9 S q=j2):=
 UQ hd hS λlst vs hl he=>by
  have hall:ps.all (Q3 lst q)=true:=f5.2 λp hp=>by rw[VK (λ(h9:p=q)=>hqp (by rw[<-h9];exact hp))];exact he p (hpe p hp)
  have hH:Dt A ps q H0 H1 lst vs=A++H0:=by unfold Dt;rw[hl];rfl
  have hH2:Dt A ps q H0 H1 (Q3 lst q) vs=A++H1:=by unfold Dt;rw[kR,hall];rfl
  rw[hH,hH2];exact h lst vs he
theorem XZ{K:Act->B6->Prop}{lst:Nat->Bool}{vs:Nat->Value}(hq:lst q=true)(hp:ps.all lst=true)(k:At n E C (A++H1) K):At n E C (Dt A ps q H0 H1 lst vs) K:=by
 have hH:Dt A ps q H0 H1 lst vs=A++H1:=by unfold Dt;rw[hq,hp];rfl
 rw[hH];exact k
end
theorem Vm{w:B6}{b e sz n c:Nat}{A:Addr}{xs:H2}(h:w.ownsRow b e sz (.slice (some A) n c) n xs):n<=c:=by
 rcases h.2 with⟨h1,_⟩|⟨g,cap,cur,h1,_,_,h2,_⟩
 ·cases h1
 ·cases h1;exact h2
theorem xW{L:List Nat}{i n:Nat}(h:L[i]?=some n):(y7 L)[0+i]?=some (.int .i64 (n:Int)):=by simp[y7,h]
theorem aj0{A L:List Nat}{n:Nat}(h:L=A++[n]):(y7 L).take (A.length*1)=y7 A:=by
 subst h;rw[y7,Bu,Rc (by simp),CQ (by simp)];rfl
theorem oD{A L:List Nat}{n k:Nat}(h:L=A++[n]):(y7 L).set (0+A.length) (.int .i64 (k:Int))=y7 (A++[k]):=by
 subst h;rw[Y3,y7,y7,Bu,Bu,Rn _ _ (by simp)];simp
theorem nJ(g:Nat)(e:T4)(z:Cs)(m:Mc){k:Nat}(h:m.counts.length=k):O3 g e z m=.B1 g CW (Ez e z m)::.row z.sv I4 3 m.stack.length (P8 m.stack)::.row z.T6 I4 3 m.C0.length (P8 m.C0)::.row z.lv t7 1 m.lists.length (z.ls.map n5)::.row z.cv S7 1 k (y7 m.counts)::.obj e.gh (P2 (R0 e.has))::.obj e.ge (P2 (R0 m.edits))::z.ls.map Bd:=by
 subst h;rfl
section
variable{w0:World}{e:T4}{W:Wt}{M:Cd}{B8:Int}{m:Mc}
theorem aA2{q:Nat}{node:Int}{m:Mc}{A:List Nat}{n:Nat}(hS:m.counts=A++[n]):Kv q node m=if n=0 then{m with counts:=A,at_:=q} else if m.left=0 then V7 11 node H4 m else{m with left:=m.left-1,counts:=A++[n-1]}:=by
 unfold Kv;rw[hS];simp
theorem uZ(w0:B6)(e:T4)(m:Mc)(a node:Int)(q:Nat){A:List Nat}{n:Nat}(hS:m.counts=A++[n])(hl:m.counts.length<=90001)(hn:n<=100000)(hlf:m.left<=100000):Y5 w0 e m 87 (λg=> #[.pointer (some ⟨g,0,none⟩),u0 ⟨15,a,q,node⟩]) (Kv q node m) (.tuple #[]):=by
 intro g z w hz hb hU ho;refine G7 ho func87 O ntmps87 O ?_;have hG:=k6 hb hU;rw[aA2 hS];have hlen:m.counts.length=A.length+1:=by rw[hS];simp
 have hat:(y7 m.counts)[0+A.length]?=some (.int .i64 (n:Int)):=xW (by rw[hS,j4 (L6 _),JH];rfl);have hY0:=λh=>NP w0 e m node h;have hY1:=λh=>RV w0 e m node h hlf;obtain⟨at_,left,stack,C0,lists,counts,edits,code,nod,val,ended⟩:=m;dsimp only at hY0 hY1 hS hl hlen hat⊢;obtain⟨sv,T6,lv,cv,ls⟩:=z;refine R7 4 O ?_;rintro⟨_,⟨hcv,h00⟩|⟨gs,cp,hcv⟩⟩
 ·dsimp only at h00;omega
 dsimp only at hcv;subst hcv;refine Oy (φ:=counts.length<=cp) (λw ho=>Vm (ho.rowAt (i:=4) rfl)) λhcap=>?_;have hi1:(counts.length:Int)-1=(A.length:Int):=by omega
 have hlt:A.length<counts.length:=by omega
 have hlt1:0+A.length<counts.length*1:=by omega
 by_cases h0:n=0
 ·rw[if_pos h0];refine A3<|F0 O λgz0=>I9 O<|E5 O<|B2 1 O<|d1 O<|B9 (hi1▸DA rfl rfl (by omega)) O<|A5 O<|B5<|A4 O<|E5 O<|B2 1 O<|A4 O<|B9 (AW (A.length) O hlt) O<|B9 (Av 5 O hlt1 hat) O<|H5 O<|A6<|E7 O (by omega)<|C8 ?_;apply Bh 13 [_,_,_,_,_,_,_,_,_,_,_,_,j2] (Dt [.B1 gz0 Q1 (P4 ⟨15,a,q,node⟩).toArray] [5] 12 (O3 g e ⟨sv,T6,lv,.slice (some ⟨gs,0,none⟩) counts.length cp,ls⟩ ⟨at_,left,stack,C0,lists,counts,edits,code,nod,val,ended⟩) (.B1 g CW (Ez e ⟨sv,T6,lv,AZ A.length (.slice (some ⟨gs,0,none⟩) counts.length cp),ls⟩ ⟨at_,left,stack,C0,lists,counts,edits,code,nod,val,ended⟩)::.row sv I4 3 stack.length (P8 stack)::.row T6 I4 3 C0.length (P8 C0)::.row lv t7 1 lists.length (ls.map n5)::.row (.slice (some ⟨gs,0,none⟩) counts.length cp) S7 1 counts.length (y7 counts)::.obj e.gh (P2 (R0 e.has))::.obj e.ge (P2 (R0 edits))::ls.map Bd)) (by kernel_rfl) (by kernel_rfl) (by kernel_rfl) (λ_=>rfl)
  ·refine E9 O (F7 O (λlst vs hl he=>D0 (H8 O)) (λ_ _ _=>rfl))<|E9 O (F7 O (λlst vs hl he=>D0 (H8 O)) (λ_ _ _=>rfl))<|E9 O (F7 O (λlst vs hl he=>D0 (H8 O)) (λ_ _ _=>rfl))<|E9 O (F7 O (λlst vs hl he=>D0 (N1 O)) (λ_ _ _=>rfl))<|E9 O (F7 O (λlst vs hl he=>D0 (I8 8 O)) (λ_ _ _=>rfl))<|E9 O (OU O (by decide) (by decide) (λlst vs hq he=>D0 (K1 1 O)))<|E9 O (F7 O (λlst vs hl he=>D0 (H8 O)) (λ_ _ _=>rfl))<|E9 O (F7 O (λlst vs hl he=>D0 (RU (sz:=1) (by kernel_rfl) O O ⟨YR _,by omega⟩)) (λ_ _ _=>rfl))<|E9 O (F7 O (λlst vs hl he=>D0 (I8 2 O)) (λ_ _ _=>rfl))<|E9 O (F7 O (λlst vs hl he=>D0 (K1 0 O)) (λ_ _ _=>rfl))<|E9 O (F7 O (λlst vs hl he=>D0 (N1 O)) (λ_ _ _=>rfl))<|E9 O (F7 O (λlst vs hl he=>D0 (I8 8 O)) (λ_ _ _=>rfl))<|E9 O (VN O O (by decide) (by decide) (λlst vs he=>Jq (NT (i:=1) (by kernel_rfl) O O O O O) O)) ?_;exact Bf
  ·(repeat(first|exact trivial|exact(λ_ _ _ h=>h)|refine⟨trivial,?_⟩|refine⟨λ_ _ _ h=>h,?_⟩))
  ·intro vs w1 hx;refine XZ O O<|E5 O<|D9 O<|N4 1 O<|A6<|D4<|K0<|Ct O O λw9 ho9=>?_;have h2:=ho9.TV (i:=5) (q:=A.length) rfl (Nat.le_of_lt hlt);rw[aj0 hS] at h2;exact⟨⟨sv,T6,lv,AZ A.length (.slice (some ⟨gs,0,none⟩) counts.length cp),ls⟩,rfl,hz,_,_,h2.sublist (L9 ..)⟩
 rw[if_neg h0];by_cases hlf0:left=0
 ·rw[if_pos hlf0];have hY:=hY0 hlf0;refine A3<|F0 O λgz0=>I9 O<|E5 O<|B2 1 O<|d1 O<|B9 (hi1▸DA rfl rfl (by omega)) O<|A5 O<|B5<|A4 O<|E5 O<|B2 1 O<|A4 O<|B9 (AW (A.length) O hlt) O<|B9 (Av 5 O hlt1 hat) O<|H5 O<|A6<|E0 O (by omega)<|D6<|B4 O<|B2 0 O<|P0 [.B1 gz0 Q1 (P4 ⟨15,a,q,node⟩).toArray] hY hG hz O (A7 O) O O λz1 hz1=>A6<|M8 O<|P5<|K7 O λw9 ho9=>?_;exact⟨z1,rfl,hz1,_,_,ho9.sublist (L9 ..)⟩
 rw[if_neg hlf0];have hY:=hY1 hlf0;have hn1:(n:Int)-1=((n-1:Nat):Int):=by omega
 refine A3<|F0 O λgz0=>I9 O<|E5 O<|B2 1 O<|d1 O<|B9 (hi1▸DA rfl rfl (by omega)) O<|A5 O<|B5<|A4 O<|E5 O<|B2 1 O<|A4 O<|B9 (AW (A.length) O hlt) O<|B9 (Av 5 O hlt1 hat) O<|H5 O<|A6<|E0 O (by omega)<|D6<|B4 O<|B2 0 O<|P0 [.B1 gz0 Q1 (P4 ⟨15,a,q,node⟩).toArray] hY hG hz O (A7 O) O O λz1 hz1=>A6<|R1 O ?_;obtain⟨sv1,slv1,lv1,cv1,ls1⟩:=z1;refine R7 5 O ?_;rintro⟨_,⟨hcv,h00⟩|⟨gs1,cp1,hcv⟩⟩
 ·dsimp only at h00;omega
 dsimp only at hcv;subst hcv;refine C5<|A4 O<|E5 O<|B2 1 O<|A4 O<|B9 (AW (A.length) O hlt) O<|B9 (Av 5 O hlt1 hat) O<|B9 (hn1▸DA rfl rfl (by omega)) O<|B9 (AW (A.length) O hlt) O<|GR (i:=5) (by kernel_rfl) O O O O hlt1<|H6<|K7 O λw9 ho9=>?_;rw[oD hS] at ho9;have hlc:counts.length=(A++[n-1]).length:=by rw[hS];simp
 refine⟨⟨sv1,slv1,lv1,.slice (some ⟨gs1,0,none⟩) counts.length cp1,ls1⟩,rfl,hz1,?_⟩;rw[nJ g e ⟨sv1,slv1,lv1,.slice (some ⟨gs1,0,none⟩) counts.length cp1,ls1⟩ ⟨at_,left-1,stack,C0,lists,A++[n-1],edits,code,nod,val,ended⟩ hlc.symm];exact⟨_,_,ho9.sublist (L9 ..)⟩
end
end
theorem Yb:∀(n:Nat) (l:List Nat),l.Nodup->(∀x∈l,x<n)->l.length<=n
 |0,l,_,h=>by
  cases l with
  |nil=>exact L6 _
  |cons a l=>have:=h a (j8 ..);omega
 |n+1,l,hn,h=>by
  have h1:=Yb n (l.erase n) (hn.sublist List.erase_sublist) (λx hx=>by
   have h2:=(hn.mem_erase_iff).1 hx;have:=h x h2.2;have:=h2.1;omega)
  rw[List.length_erase] at h1;split at h1<;>omega
def Be{β:Type}(L:List (List UInt8×β))(f:List UInt8->Bool)(vis:List Nat):List (List UInt8):=(vis.filterMap λj=>L[j]?.map (·.1)).filter f
structure IG(n:Nat)(vis:List Nat):Prop where
 nd:vis.Nodup
 lt:∀j∈vis,j<n
theorem IG.le{n:Nat}{vis:List Nat}(h:IG n vis):vis.length<=n:=Yb n vis h.nd h.lt
theorem IG.more{n q:Nat}{vis:List Nat}(h:IG n vis)(hq:q∉vis)(hn:q<n):IG n (vis++[q]):=
 ⟨FB.2 ⟨h.nd,by simp,λa ha b hb e=>hq (by rw[Bt.1 hb] at e;rw[<-e];exact ha)⟩,λj hj=>by
  rcases q0.1 hj with hj|hj
  ·exact h.lt j hj
  ·rw[Bt.1 hj];exact hn⟩
theorem ZW{β:Type}{L:List (List UInt8×β)}{f:List UInt8->Bool}{vis:List Nat}{q:Nat}{x:List UInt8×β}(h:L[q]?=some x):Be L f (vis++[q])=Be L f vis++if f x.1 then[x.1] else[]:=by
 unfold Be;rw[List.filterMap_append,List.filter_append];simp[h,YU]
theorem TE{β:Type}{L:List (List UInt8×β)}{f:List UInt8->Bool}(vis:List Nat):(Be L f vis).length<=vis.length:=
 j7 (List.length_filter_le _ _) (List.length_filterMap_le _ _)
theorem bK{β:Type}:∀(L pre:List (List UInt8×β)),((List.range' pre.length L.length).filterMap λj=>(pre++L)[j]?.map (·.1))=L.map (·.1)
 |[],_=>rfl
 |x::L,pre=>by
  have ih:=bK L (pre++[x]);rw[J8,Q2] at ih;rw[T3,Ng,List.filterMap_cons,j4 (L6 _),JH];simp only[YS,Rh,Rd];exact congrArg _ ih
theorem vL{β:Type}(L:List (List UInt8×β)):((List.range L.length).filterMap λj=>L[j]?.map (·.1))=L.map (·.1):=by
 rw[List.range_eq_range'];exact bK L []
theorem fT{β:Type}{L:List (List UInt8×β)}{f:List UInt8->Bool}{vis:List Nat}(h:IG L.length vis)(hall:∀j,j<L.length->j∈vis):(Be L f vis).Perm ((L.map (·.1)).filter f):=by
 have hp:vis.Perm (List.range L.length):=(List.perm_ext_iff_of_nodup h.nd List.nodup_range).2 λa=>⟨λha=>j9.2 (h.lt a ha),λha=>hall a (j9.1 ha)⟩
 unfold Be;rw[<-vL L];exact(hp.filterMap _).filter _
theorem ZS:∀a b c:List UInt8,BP a b=true->BP b c=true->BP a c=true:=λa b c h1 h2=>by simp only[BP,decide_eq_true_eq] at*;exact List.le_trans h1 h2
theorem Za:∀a b:List UInt8,(BP a b||BP b a)=true:=λa b=>by simp only[BP,Kf,decide_eq_true_eq];exact List.le_total a b
theorem ar1{L K:List (List UInt8)}(hp:L.Perm K):L.mergeSort BP=UC K:=by
 have h1:(L.mergeSort BP).Perm (K.mergeSort BP):=(Rq L BP).trans (hp.trans (Rq K BP).symm);exact h1.eq_of_pairwise (le:=λa b=>BP a b=true) (λa b _ _ q1 q2=>List.le_antisymm (by simpa[BP] using q1) (by simpa[BP] using q2)) (YN ZS Za L) (YN ZS Za K)
theorem kH(has edits:List Ed)(k:C9):∀l:List (List UInt8),DJ has edits (l++[k])=DJ has edits l++if(EL has edits k).kind≠0 then[(k,EL has edits k)] else[]
 |[]=>by simp[DJ]
 |x::l=>by
  rw[GP,DJ,DJ,kH has edits k l];split<;>rfl
theorem rR{α:Type}{A:List α}{x:α}{n:Nat}(h:A.length<n):(A++[x]).take n=A.take n++[x]:=by
 rw[CQ (by simp;omega),CQ (by omega)]
theorem pF{α:Type}{A B:List α}{n:Nat}(h:n<=A.length):(A++B).take n=A.take n:=Rc h
section
attribute [local irreducible] F8 D3 Exit.then Exit.inBlock Exit.noGoto wpQuiet Calls fin At G9 L3 L7 RQ R9
theorem tH:Ae prog 203=some (g9 ([],H4),[(0,1),(1,3)]):=by kernel_rfl
theorem WX{l:List Ed}{q:Nat}{p:List UInt8×Value}(h:(R0 l)[q]?=some p):∃x,l[q]?=some x/\p=(x.1,O6 x.2):=by
 unfold R0 at h;rw[Kj] at h;cases hl:l[q]? with
 |none=>rw[hl] at h;cases h
 |some x=>rw[hl] at h;exact⟨x,rfl,(Fc h).symm⟩
theorem PE(L:List (List UInt8))(x:C9):D1 (L++[x])=D1 L++[.string (bs x)]:=by simp[D1]
theorem Ye(L:List Ed)(x:Ed):d3 (L++[x])=d3 L++g9 x:=by simp[d3]
theorem kL(x:Ed):∀u∈g9 x,u.oneCell'=true:=by
 intro u hu;simp[g9,D8] at hu;rcases hu with rfl|rfl|rfl|rfl<;>rfl
section
variable{C:I3}{H:List C2}{E:List (Nat×Value)}{n:Nat}{r:Option Nat}{Q:Exit->Act->World->Prop}{ops:Array Oper}{rest:List Oper}
theorem Pz{d:Nat}{op:Op}{ty:TypeId}{pos:String}{after:Array Edge}{fn:FuncId}{g:Nat}{e:T4}{z:Cs}{m m':Mc}{args:J2}(R:List C2){u:Value}(hc:∀w,B7 (J1 w (O3 g e z m)) (O3 g e z m) w->Calls prog fn args w λen w'=>en=.returned u/\O0 w (λk=>k∈F1 (O3 g e z m)) (O3 g e z m') w')(hH:H=R++O3 g e z m)
  (he:f0 prog n E C (O3 g e z m++R) ⟨some d,op,ty,pos,after,none⟩ fn args)(hn:Op.X9 op=false)(hd:Nat.blt d n=true)
  (k:At n ((d,u)::E) C (R++O3 g e z m') (D3 r prog ops Q rest)):At n E C H (D3 r prog ops Q (⟨some d,op,ty,pos,after,none⟩::rest)):=
 W7 (ι:=Unit) R _ (λ_=>u) (λ_=>O3 g e z m') hH he (λw _ ho=>(hc w ho).mono λe w' ⟨h1,h2⟩=>⟨(),h1,h2⟩) hn hd (λ_=>k)
end
section
variable{w0:World}{e:T4}{W:Wt}{M:Cd}{B8:Int}{m:Mc}
theorem nH(hE:ER w0 e W M B8)(hn:(m.edits.map (·.1)).Nodup)(hel:m.edits.length<=64)(p:C9)(lim:Nat)(hlim:lim<=64)(g:Nat)(z:Cs)(w:B6)(ho:B7 (J1 w (O3 g e z m)) (O3 g e z m) w):
  Calls prog 130 #[.pointer (some ⟨g,0,none⟩),.string (bs p),.int .i64 lim] w λen w'=>∃v,en=.returned v/\O0 w (λk=>k∈F1 (O3 g e z m)) (.row v Ew 4 (Jo e.has m.edits p lim).length (d3 (Jo e.has m.edits p lim))::O3 g e z m) w':=by
 refine G7 ho func130 O ntmps130 O ?_;have hh:=hE.rB;refine BY S0 1<|A3<|A5 O<|A3<|A5 O<|B5<|A4 O<|E5 O<|B2 1 O<|Ve (i:=6) (e:=I4) (l:=R0 e.has) (by kernel_rfl) O O O λgi=>A6<|C7 ?_;rotate_left;refine l9 (σ:=Value×List Nat) (λs=>IG e.has.length s.2) (λs=>[(0,.pointer (some ⟨g,0,none⟩)),(1,.string (bs p)),(2,.int .i64 lim),(7,s.1),(20,.pointer (some ⟨gi,0,none⟩))])
  (λs=>.obj gi (Eo e.gh (R0 e.has) s.2)::.row s.1 S0 1 (Be e.has (λk=>V0 k p) s.2).length (D1 (Be e.has (λk=>V0 k p) s.2))::O3 g e z m) (λs=>e.has.length-s.2.length)
  (λw ho=>⟨(.slice none 0 0,[]),⟨No,λj hj=>by cases hj⟩,⟨rfl,rfl,rfl,rfl,rfl,trivial⟩,ho⟩) ?_
 rintro⟨v7,vis⟩ hv;dsimp only at hv⊢;refine A3<|WY (i:=7) (j:=0) (l:=R0 e.has) (vis:=vis) O O O O (λhall=>?_) (λq px hq hp=>?_);refine G1 O<|A6<|C8<|M8 O<|S4<|J0<|J0<|S5<|E2<|C8<|C8 ?_;rotate_left;refine G1 O<|A6<|C8<|R1 O<|D6<|C7<|A3 ?_;rotate_left
 ·rw[Qf] at hall;have hp1:=fT (f:=λk=>V0 k p) hv hall;have hl1:=TE (L:=e.has) (f:=λk=>V0 k p) vis;have hvl:=hv.le;generalize Be e.has (λk=>V0 k p) vis=ks1 at hp1 hl1⊢;refine Ol (H':=.row v7 S0 1 ks1.length (D1 ks1)::O3 g e z m) (L9 ..)<|C5<|A4 O<|E5 O<|B2 1 O<|Ve (i:=7) (e:=I4) (l:=R0 m.edits) (by kernel_rfl) O O O λgj=>A6<|C7 ?_;rotate_left;refine l9 (σ:=Value×List Nat) (λs=>IG m.edits.length s.2) (λs=>[(0,.pointer (some ⟨g,0,none⟩)),(1,.string (bs p)),(2,.int .i64 lim),(7,s.1),(36,.pointer (some ⟨gj,0,none⟩))])
   (λs=>.obj gj (Eo e.ge (R0 m.edits) s.2)::.row s.1 S0 1 (ks1++Be m.edits (λk=>(Z7 e.has k).isNone&&V0 k p) s.2).length (D1 (ks1++Be m.edits (λk=>(Z7 e.has k).isNone&&V0 k p) s.2))::O3 g e z m) (λs=>m.edits.length-s.2.length)
   (λw ho=>⟨(v7,[]),⟨No,λj hj=>by cases hj⟩,⟨rfl,rfl,rfl,rfl,rfl,trivial⟩,by
    have e0:ks1++Be m.edits (λk=>(Z7 e.has k).isNone&&V0 k p) []=ks1:=k5 _;dsimp only;rw[e0];exact ho⟩) ?_
  rintro⟨v8,vis2⟩ hv2;dsimp only at hv2⊢;refine A3<|WY (i:=8) (j:=0) (l:=R0 m.edits) (vis:=vis2) O O O O (λhall=>?_) (λq px hq hp=>?_);refine G1 O<|A6<|C8<|M8 O<|S4<|J0<|J0<|S5<|E2<|C8 ?_;rotate_left;refine G1 O<|A6<|C8<|R1 O<|D6<|C7<|A3 ?_;rotate_left
  ·rw[Qf] at hall;have hp2:=fT (f:=λk=>(Z7 e.has k).isNone&&V0 k p) hv2 hall;have hl2:=TE (L:=m.edits) (f:=λk=>(Z7 e.has k).isNone&&V0 k p) vis2;have hvl2:=hv2.le;have hpp:(ks1++Be m.edits (λk=>(Z7 e.has k).isNone&&V0 k p) vis2).Perm (Ob e.has m.edits p):=hp1.append hp2;have hkl:(ks1++Be m.edits (λk=>(Z7 e.has k).isNone&&V0 k p) vis2).length<=6000:=by rw[J8];omega
   generalize ks1++Be m.edits (λk=>(Z7 e.has k).isNone&&V0 k p) vis2=ks at hpp hkl⊢;refine x4 (H':=O3 g e z m++[.row v8 S0 1 ks.length (D1 ks)]) O (λw ho=>(ho.sublist (L9 ..)).perm (HE _ _)) ?_;have hsort:=ar1 hpp;have hsl:(ks.mergeSort BP).length=ks.length:=YM _;have cS:∀w,B7 (J1 w [.row v8 S0 1 ks.length (D1 ks)]) [.row v8 S0 1 ks.length (D1 ks)] w->Calls prog 171 #[v8] w λe w'=>∃u:Unit,e=.returned (.tuple #[])/\O0 w (λk=>k∈F1 [.row v8 S0 1 ks.length (D1 ks)]) [.row v8 S0 1 ks.length (D1 (ks.mergeSort BP))] w':=λw ho=>(aq1 v8 ks w (by omega) ho).mono λe w' ⟨h1,h2⟩=>⟨(),h1,h2⟩
   rw[<-hsl] at cS⊢;rw[hsort] at cS hsl⊢;unfold Jo;generalize UC (Ob e.has m.edits p)=SS at cS hsl⊢;refine C5<|A4 O<|W7 (ι:=Unit) (O3 g e z m) [.row v8 S0 1 SS.length (D1 ks)] (λ_=>.tuple #[]) (λ_=>[.row v8 S0 1 SS.length (D1 SS)]) O (A7 O) (λw _ ho=>cS w ho) O O λ_=>I0<|A5 O<|C8<|C8 ?_;rotate_left;refine x4 (H':=.row v8 S0 1 SS.length (D1 SS)::O3 g e z m) O (λw ho=>ho.perm (HE _ _).symm)<|BY Ew 4<|C5<|A4 O<|BA 1 O<|A4 O<|A6<|C7 ?_;rotate_left;refine l9 (σ:=Nat×Value) (λs=>s.1<=SS.length) (λs=>[(0,.pointer (some ⟨g,0,none⟩)),(2,.int .i64 lim),(12,s.2),(63,v8),(64,.int .i64 SS.length),(65,.int .i64 s.1)])
    (λs=>.row s.2 Ew 4 ((DJ e.has m.edits (SS.take s.1)).take lim).length (d3 ((DJ e.has m.edits (SS.take s.1)).take lim))::.row v8 S0 1 SS.length (D1 SS)::O3 g e z m) (λs=>SS.length-s.1)
    (λw ho=>⟨(0,.slice none 0 0),R5 _,⟨rfl,rfl,rfl,rfl,rfl,rfl,trivial⟩,by
     have e0:(DJ e.has m.edits (SS.take 0)).take lim=[]:=by simp[DJ]
     dsimp only;rw[e0];exact ho⟩) ?_
   rintro⟨i,outv⟩ hi;dsimp only at hi⊢;by_cases hil:i<SS.length
   ·refine R7 1 O ?_;rintro⟨_,⟨rfl,h00⟩|⟨gs,cp,rfl⟩⟩
    ·omega
    have hx:SS[i]?=some SS[i]:=T8 hil;have hat:(D1 SS)[0+i]?=some (.string (bs SS[i])):=by rw[Y3];exact La hx
    have hst:DJ e.has m.edits (SS.take (i+1))=DJ e.has m.edits (SS.take i)++if(EL e.has m.edits SS[i]).kind≠0 then[(SS[i],EL e.has m.edits SS[i])] else[]:=by
     rw[JG,hx];exact kH _ _ _ _
    have hS:=fL e m SS[i] g z;have hlt1:0+i<SS.length*1:=by omega
    generalize SS[i]=k at hx hat hst hS;generalize EL e.has m.edits k=s at hst hS;generalize DJ e.has m.edits (SS.take i)=D at hst⊢;by_cases hk:s.kind=0
    ·rw[if_neg (λh=>h hk),k5] at hst;refine A3<|H9 O<|A6<|C8<|E7 O (by omega)<|D6<|C8<|C7<|A3<|B9 (AW i O hil) O<|B9 (Av 1 O hlt1 hat) O<|A5 O<|B4 O<|A4 O<|Pz [.row outv Ew 4 (D.take lim).length (d3 (D.take lim)),.row (.slice (some ⟨gs,0,none⟩) SS.length cp) S0 1 SS.length (D1 SS)] hS O (A7 O) O O<|E3 P7 O λgz0=>E8 0 ((D8 s).toArray) O<|I0<|B2 0 O<|J3 O<|A4 O<|F9 75 false O (decide_eq_false (by omega))<|D2 O<|D2 O<|D2 O<|D2 O<|G4 O<|A6<|M8 O<|P5<|F4<|E2<|C5<|N6 O (by omega)<|A4 O<|A6 ?_;rotate_left;exact W5 λw ho=>⟨(i+1,outv),hil,by dsimp only;omega,⟨rfl,rfl,rfl,rfl,rfl,rfl,trivial⟩,rfl,by dsimp only;rw[hst];exact ho.sublist (L9 ..)⟩
    ·rw[if_pos hk] at hst;by_cases hfu:(D.take lim).length<lim
     ·have hD:D.length<lim:=by rw[ED] at hfu;omega
      have hDt:D.take lim=D:=CQ (by omega);rw[hDt];have hst2:(D++[(k,s)]).take lim=D++[(k,s)]:=by rw[rR hD,hDt]
      refine A3<|H9 O<|A6<|C8<|E7 O (by omega)<|D6<|C8<|C7<|A3<|B9 (AW i O hil) O<|B9 (Av 1 O hlt1 hat) O<|A5 O<|B4 O<|A4 O<|Pz [.row outv Ew 4 D.length (d3 D),.row (.slice (some ⟨gs,0,none⟩) SS.length cp) S0 1 SS.length (D1 SS)] hS O (A7 O) O O<|E3 P7 O λgz0=>E8 0 ((D8 s).toArray) O<|I0<|B2 0 O<|J3 O<|A4 O<|F9 75 true O (decide_eq_true (by omega))<|B3 O<|A4 O<|B3 O<|BA 1 O<|B3 O<|A4 O<|B3 O<|H9 O<|K8 O<|A6<|E7 O (by omega)<|C5<|A4 O<|A4 O<|G6 0 O O<|B9 (O7 (g9 (k,s)) tH O) O<|N7 [.agg (g9 (k,s)).toArray] (g9 (k,s)) O λgl=>CT 2 Ew 4 48 (D.length) 1 (g9 (k,s)) (by kernel_rfl) O (λw ho=>BI ho (i:=0) rfl) (kL _) (by simp only[maxLen];omega) O λv' hv'=>?_;refine E6 O<|H6<|F4<|E2<|C5<|N6 O (by omega)<|A4 O<|A6 ?_;rotate_left;exact W5 λw ho=>⟨(i+1,v'),hil,by dsimp only;omega,⟨rfl,rfl,rfl,rfl,rfl,rfl,trivial⟩,rfl,by dsimp only;rw[hst,hst2,Ye,J8];exact ho.sublist (.cons _ (L9 ..))⟩
     ·have hD:lim<=D.length:=by rw[ED] at hfu;omega
      rw[<-pF (B:=[(k,s)]) hD] at hfu⊢;rw[<-hst] at hfu⊢;refine A3<|H9 O<|A6<|C8<|E7 O (by omega)<|D6<|C8<|C7<|A3<|B9 (AW i O hil) O<|B9 (Av 1 O hlt1 hat) O<|A5 O<|B4 O<|A4 O<|Pz [.row outv Ew 4 ((DJ e.has m.edits (SS.take (i+1))).take lim).length (d3 ((DJ e.has m.edits (SS.take (i+1))).take lim)),.row (.slice (some ⟨gs,0,none⟩) SS.length cp) S0 1 SS.length (D1 SS)] hS O (A7 O) O O<|E3 P7 O λgz0=>E8 0 ((D8 s).toArray) O<|I0<|B2 0 O<|J3 O<|A4 O<|F9 75 true O (decide_eq_true (by omega))<|B3 O<|A4 O<|B3 O<|BA 1 O<|B3 O<|A4 O<|B3 O<|H9 O<|K8 O<|A6<|E0 O (by omega)<|P5<|F4<|E2<|C5<|N6 O (by omega)<|A4 O<|A6 ?_;rotate_left;exact W5 λw ho=>⟨(i+1,outv),hil,by dsimp only;omega,⟨rfl,rfl,rfl,rfl,rfl,rfl,trivial⟩,rfl,ho.sublist (L9 ..)⟩
   ·obtain rfl:i=SS.length:=by omega
    rw[GQ];exact A3<|H9 O<|A6<|C8<|E0 O (by omega)<|S4<|J0<|J0<|S5<|E2<|B4 O<|A5 O<|D4<|E4 O λw9 ho9=>⟨outv,rfl,_,_,ho9.sublist (.cons_cons _ (L9 ..))⟩
  ·obtain⟨x,hx,rfl⟩:=WX hp;have hlt:q<m.edits.length:=(N5.1 hx).1;have hl2:=TE (L:=m.edits) (f:=λk=>(Z7 e.has k).isNone&&V0 k p) vis2;have hvl2:=hv2.le;have hv3:=hv2.more hq hlt;have hvl3:=hv3.le;have hks:(ks1++Be m.edits (λk=>(Z7 e.has k).isNone&&V0 k p) vis2).length<=6000:=by rw[J8];omega
   have hst:ks1++Be m.edits (λk=>(Z7 e.has k).isNone&&V0 k p) (vis2++[q])=(ks1++Be m.edits (λk=>(Z7 e.has k).isNone&&V0 k p) vis2)++(if(Z7 e.has x.1).isNone&&V0 x.1 p then[x.1] else[]):=by rw[ZW hx,Q2]
   rw[J8] at hvl3;generalize ks1++Be m.edits (λk=>(Z7 e.has k).isNone&&V0 k p) vis2=ks at hks hst⊢;cases hl:Z7 e.has x.1 with
   |some u=>
    rw[hl] at hst;refine B9 (OA (i:=8) (j:=0) (q:=q) (l:=R0 m.edits) (vis:=vis2) (p:=(x.1,O6 x.2)) O O O hp) O<|G1 O<|A5 O<|B4 O<|E5 O<|B2 2 O<|A4 O<|B9 (Nv 7 (l:=e.has) (k:=x.1) O O O) O<|A4 O<|G1 O<|G1 O<|E3 P7 O λgz0=>E8 0 _ O<|A5 O<|B4 O<|J7 O<|A4 O<|F9 52 false O (by(rw[hl];rfl))<|D2 O<|D2 O<|D2 O<|G4 O<|A6<|M8 O<|P5<|F4<|E2 ?_;rotate_left;exact W5 λw ho=>⟨(v8,vis2++[q]),hv3,by dsimp only;rw[J8];simp only[T3,Y4] at hvl3⊢;omega,⟨rfl,rfl,rfl,rfl,rfl,trivial⟩,rfl,by dsimp only;rw[hst];simp only[Option.isNone_some,Bool.false_and,Fb,if_false,k5];exact ho.sublist (L9 ..)⟩
   |none=>
    rw[hl] at hst;cases hf:V0 x.1 p
    ·rw[hf] at hst;refine B9 (OA (i:=8) (j:=0) (q:=q) (l:=R0 m.edits) (vis:=vis2) (p:=(x.1,O6 x.2)) O O O hp) O<|G1 O<|A5 O<|B4 O<|E5 O<|B2 2 O<|A4 O<|B9 (Nv 7 (l:=e.has) (k:=x.1) O O O) O<|A4 O<|G1 O<|G1 O<|E3 P7 O λgz0=>E8 0 _ O<|A5 O<|B4 O<|J7 O<|A4 O<|F9 52 true O (by(rw[hl];rfl))<|B3 O<|A4 O<|B3 O<|A4 O<|B3 O<|F3 74 (A7 O) (λw ho=>Ij _ _ w) O<|K8 O<|A6<|Y7 O (by exact hf)<|P5<|F4<|E2 ?_;rotate_left;exact W5 λw ho=>⟨(v8,vis2++[q]),hv3,by dsimp only;rw[J8];simp only[T3,Y4] at hvl3⊢;omega,⟨rfl,rfl,rfl,rfl,rfl,trivial⟩,rfl,by dsimp only;rw[hst];simp only[Option.isNone_none,Bool.and_false,Fb,if_false,k5];exact ho.sublist (L9 ..)⟩
    ·rw[hf] at hst;refine B9 (OA (i:=8) (j:=0) (q:=q) (l:=R0 m.edits) (vis:=vis2) (p:=(x.1,O6 x.2)) O O O hp) O<|G1 O<|A5 O<|B4 O<|E5 O<|B2 2 O<|A4 O<|B9 (Nv 7 (l:=e.has) (k:=x.1) O O O) O<|A4 O<|G1 O<|G1 O<|E3 P7 O λgz0=>E8 0 _ O<|A5 O<|B4 O<|J7 O<|A4 O<|F9 52 true O (by(rw[hl];rfl))<|B3 O<|A4 O<|B3 O<|A4 O<|B3 O<|F3 74 (A7 O) (λw ho=>Ij _ _ w) O<|K8 O<|A6<|k8 O (by exact hf)<|C5<|A4 O<|A4 O<|N7 [.string (bs x.1)] [.string (bs x.1)] O λgl=>CT 3 S0 1 16 (ks.length) 1 [.string (bs x.1)] (by kernel_rfl) O (λw ho=>BI ho (i:=0) rfl) (Gy rfl) (by simp only[maxLen];omega) O λv' hv'=>E6 O<|H6<|F4<|E2 ?_;rotate_left;exact W5 λw ho=>⟨(v',vis2++[q]),hv3,by dsimp only;rw[J8];simp only[T3,Y4] at hvl3⊢;omega,⟨rfl,rfl,rfl,rfl,rfl,trivial⟩,rfl,by dsimp only;rw[hst,Option.isNone_none,Bool.true_and,if_pos rfl,PE,J8];exact ho.sublist (.cons _ (L9 ..))⟩
 ·obtain⟨x,hx,rfl⟩:=WX hp;have hlt:q<e.has.length:=(N5.1 hx).1;have hl1:=TE (L:=e.has) (f:=λk=>V0 k p) vis;have hvl:=hv.le;have hv3:=hv.more hq hlt;have hvl3:=hv3.le;have hst:Be e.has (λk=>V0 k p) (vis++[q])=Be e.has (λk=>V0 k p) vis++(if V0 x.1 p then[x.1] else[]):=ZW hx;rw[J8] at hvl3;generalize Be e.has (λk=>V0 k p) vis=ks at hl1 hst⊢;cases hf:V0 x.1 p
  ·rw[hf] at hst;refine B9 (OA (i:=7) (j:=0) (q:=q) (l:=R0 e.has) (vis:=vis) (p:=(x.1,O6 x.2)) O O O hp) O<|G1 O<|A5 O<|B4 O<|A4 O<|F3 74 (A7 O) (λw ho=>Ij _ _ w) O<|A6<|Y7 O (by exact hf)<|P5<|F4<|E2 ?_;rotate_left;exact W5 λw ho=>⟨(v7,vis++[q]),hv3,by dsimp only;rw[J8];simp only[T3,Y4] at hvl3⊢;omega,⟨rfl,rfl,rfl,rfl,rfl,trivial⟩,rfl,by dsimp only;rw[hst];simp only[Fb,if_false,k5];exact ho⟩
  ·rw[hf] at hst;refine B9 (OA (i:=7) (j:=0) (q:=q) (l:=R0 e.has) (vis:=vis) (p:=(x.1,O6 x.2)) O O O hp) O<|G1 O<|A5 O<|B4 O<|A4 O<|F3 74 (A7 O) (λw ho=>Ij _ _ w) O<|A6<|k8 O (by exact hf)<|C5<|A4 O<|A4 O<|N7 [.string (bs x.1)] [.string (bs x.1)] O λgl=>CT 2 S0 1 16 (ks.length) 1 [.string (bs x.1)] (by kernel_rfl) O (λw ho=>BI ho (i:=0) rfl) (Gy rfl) (by simp only[maxLen];omega) O λv' hv'=>E6 O<|H6<|F4<|E2 ?_;rotate_left;exact W5 λw ho=>⟨(v',vis++[q]),hv3,by dsimp only;rw[J8];simp only[T3,Y4] at hvl3⊢;omega,⟨rfl,rfl,rfl,rfl,rfl,trivial⟩,rfl,by dsimp only;rw[hst,if_pos rfl,PE,J8];exact ho.sublist (L9 ..)⟩
end
theorem an4(v:Value):IC 0 v=v:=by
 unfold IC;split
 ·simp
 ·rfl
def Ks(g:Nat)(e:T4)(z:Cs)(m:Mc):List C2:=
 .B1 g CW (Ez e z m)::.row z.sv I4 3 m.stack.length (P8 m.stack)::.row z.T6 I4 3 m.C0.length (P8 m.C0)::.row z.cv S7 1 m.counts.length (y7 m.counts)::.obj e.gh (P2 (R0 e.has))::.obj e.ge (P2 (R0 m.edits))::z.ls.map Bd
theorem uS(g:Nat)(e:T4)(z:Cs)(m:Mc):(Ks g e z m++[C2.row z.lv t7 1 m.lists.length (z.ls.map n5)]).Perm (O3 g e z m):=by
 refine(HE _ _).trans ?_;unfold Ks O3;exact(List.Perm.swap ..).trans (.cons _ ((List.Perm.swap ..).trans (.cons _ (List.Perm.swap ..))))
def IA(lst:Nat->Bool):Bool:=(!lst 10||lst 9)&&(!lst 11||lst 10)
def AN(A:List C2)(lv:Value)(k:Nat)(xs:List Value)(L:List Ed)(lst:Nat->Bool)(vs:Nat->Value):List C2:=
 A++if IA lst then(if lst 9 then[.row (vs 9) Ew 4 L.length (d3 L)] else[])++((if lst 10 then[.B1 (PH (vs 10)) t7 #[vs 9]] else[])++[.row (if lst 11 then vs 11 else lv) t7 1 (if lst 11 then k+1 else k) (if lst 11 then xs++[vs 9] else xs)]) else[.B1 0 0 #[],.B1 0 0 #[]]
section
variable{A:List C2}{lv:Value}{k:Nat}{xs:List Value}{L:List Ed}{lst:Nat->Bool}{vs:Nat->Value}{C:I3}{w:World}
theorem AN.own(h:B7 C (AN A lv k xs L lst vs) w):IA lst=true:=by
 cases hg:IA lst with
 |true=>rfl
 |false=>
  unfold AN at h;rw[hg] at h;exact(RO h).elim
theorem AN.s0(hg:IA lst=true)(h9:lst 9=false):lst 10=false/\lst 11=false/\AN A lv k xs L lst vs=A++[.row lv t7 1 k xs]:=by
 have h10:lst 10=false:=by
  cases h:lst 10 with
  |false=>rfl
  |true=>unfold IA at hg;rw[h,h9] at hg;cases hg
 have h11:lst 11=false:=by
  cases h:lst 11 with
  |false=>rfl
  |true=>unfold IA at hg;rw[h,h10] at hg;simp at hg
 refine⟨h10,h11,?_⟩;unfold AN;rw[hg,h9,h10,h11];rfl
theorem AN.s1(hg:IA lst=true)(h9:lst 9=true)(h10:lst 10=false):lst 11=false/\AN A lv k xs L lst vs=A++[.row (vs 9) Ew 4 L.length (d3 L),.row lv t7 1 k xs]:=by
 have h11:lst 11=false:=by
  cases h:lst 11 with
  |false=>rfl
  |true=>unfold IA at hg;rw[h,h10] at hg;simp at hg
 refine⟨h11,?_⟩;unfold AN;rw[hg,h9,h10,h11];rfl
theorem AN.s2(h9:lst 9=true)(h10:lst 10=true)(h11:lst 11=false):AN A lv k xs L lst vs=A++[.row (vs 9) Ew 4 L.length (d3 L),.B1 (PH (vs 10)) t7 #[vs 9],.row lv t7 1 k xs]:=by
 unfold AN IA;rw[h9,h10,h11];rfl
theorem AN.s3(h9:lst 9=true)(h10:lst 10=true)(h11:lst 11=true):AN A lv k xs L lst vs=A++[.row (vs 9) Ew 4 L.length (d3 L),.B1 (PH (vs 10)) t7 #[vs 9],.row (vs 11) t7 1 (k+1) (xs++[vs 9])]:=by
 unfold AN IA;rw[h9,h10,h11];rfl
end
theorem qD{P:Program}{n:Nat}{E:X0}{C:I3}{H:List C2}{dst:Option Tmp}{ty t:TypeId}{pos:String}{after:Array Edge}{x y:Operand}{i e sz by' m k c:Nat}{v:Value}{A:Addr}{xs news:H2}{a:Act}{w:B6}{Q:Value->B6->Prop}(hT:HG P t e sz by'=true)(hx:ev E x=some v)(hi:H[i]?=some (.row v e sz m xs))(hy:ev E y=some (.slice (some A) k c))
  (hl:news.length=k*sz)(hn:∀w,B7 C H w->∀j u,news[j]?=some u->w.cell? (A.add j)=some u)(h1:∀u∈news,u.oneCell'=true)(hb:m+k<=maxLen/\(m+k)*by'<=140737488355328)(hf:U2 n E a)(ho:B7 C H w)
  (kk:∀v' w',v'.oneCell'=true->B7 C (H.set i (.row v' e sz (m+k) (xs++news))) w'->Q v' w'):∃u w',(execOp a.eval ⟨dst,.call ⟨.builtin .append,#[x,y],#[t,t]⟩,ty,pos,after,none⟩).run P w=.ok (.value u) w'/\Q u w':=by
 obtain⟨v',w',h2,h3,h4⟩:=Ym (dst:=dst) (ty:=ty) (pos:=pos) (after:=after) hT hx hi hy hl hn h1 hb a w hf ho;exact⟨v',w',h2,kk v' w' h3 h4⟩
theorem an6{α:Type}(a b c d e f h:α)(l:List α)(r9 r11:α):(a::b::c::d::r11::e::f::h::(l++[r9])).Perm ((a::b::c::d::e::f::h::l)++[r9,r11]):=by
 refine(Nr (l₁:=[a,b,c,d])).trans ?_;have:=(HE r11 (a::b::c::d::e::f::h::(l++[r9]))).symm;simpa using this
theorem xY{α:Type}(A:List α)(a b c:α):(A++[a,b,c])[A.length+1]?=some b:=by
 rw[j4 (by omega),show A.length+1-A.length=1 by omega];rfl
theorem rY{α:Type}(A:List α)(a b c:α):(A++[a,b,c])[A.length+2]?=some c:=by
 rw[j4 (by omega),show A.length+2-A.length=2 by omega];rfl
theorem qA{α:Type}(A:List α)(a b c d:α):(A++[a,b,c]).set (A.length+2) d=A++[a,b,d]:=by
 rw[Rn _ _ (by omega),show A.length+2-A.length=2 by omega];rfl
theorem nE{W:Wt}{has:List Ed}{lim:Nat}{node:Int}{m:Mc}{S:List Vl}{v:Vl}(hS:m.stack=S++[v]):OB W has lim node m=if v.kind≠3 then V7 10 node H4 {m with stack:=S} else if w6 v.K4=false then V7 3 node H4 {m with stack:=S} else if IH W.reads v.K4=false/\IH W.writes v.K4=false then V7 13 node H4 {m with stack:=S} else{m with stack:=S,lists:=m.lists++[(Jo has m.edits v.K4 lim,0)]}:=by
 have h1:X6 m=v:=by simp[X6,hS]
 have h3:O9 m={m with stack:=S}:=by simp[O9,hS]
 unfold OB;dsimp only;rw[h1,h3]
section
variable{w0:World}{e:T4}{W:Wt}{M:Cd}{B8:Int}{m:Mc}
theorem ah0(hE:ER w0 e W M B8)(hn:(m.edits.map (·.1)).Nodup)(hel:m.edits.length<=64)(lim:Nat)(hlim:lim<=64)(node:Int){S:List Vl}{v:Vl}(hS:m.stack=S++[v])(hl:m.stack.length<=90001)(hll:m.lists.length<=90000):
  Y5 w0 e m 85 (λg=> #[.pointer (some ⟨g,0,none⟩),.int .i64 lim,.int .i64 node]) (OB W e.has lim node m) (.tuple #[]):=by
 intro g z w hz hb hU ho;refine G7 ho func85 O ntmps85 O ?_;have hG:=k6 hb hU;have hP:=LA w0 e m hS hl;rw[nE hS];obtain⟨at_,left,stack,C0,lists,counts,edits,code,nod,val,ended⟩:=m;dsimp only at hP hn hel hll⊢;by_cases hk:v.kind=3
 ·rw[if_neg (λh=>h hk)];by_cases hf:w6 v.K4=true
  ·rw[if_neg (by rw[hf];decide)];by_cases hb2:IH W.reads v.K4=false/\IH W.writes v.K4=false
   ·rw[if_pos hb2];have hF:=FV w0 e ⟨at_,left,S,C0,lists,counts,edits,code,nod,val,ended⟩ 13 node;rw[HJ (by decide)] at hF;obtain⟨hb3,hb4⟩:=hb2;refine B4 O<|P0 [] hP hG hz O (A7 O) O O λz1 hz1=>E3 P7 O λgz0=>E8 0 ((D8 v).toArray) O<|A6<|C7<|A3<|B2 0 O<|J3 O<|A5 O<|E0 O (by omega)<|A3<|B2 0 O<|F3 33 (A7 O) (λw ho=>Ma v.K4 w (hE.p6.Q8.K6 (ho.mw hG))) O<|J7 O<|A5 O<|Y7 O (by(rw[hf];rfl))<|C8<|R2 (by kernel_rfl)<|I1 O<|J4 0 O<|G3 O<|K2 O<|I1 O<|I1 O<|J4 1 O<|EE (f:=129) (A7 O) (λw ho=>QS v.K4 e.rv W.reads w (hE.rv.K6 (ho.mw hG)) hE.rl) O O<|RS O<|G3 O<|Aw (t:=48) (d:=true) O (by(rw[hb3];rfl))<|I5 O<|I1 O<|I5 O<|J4 0 O<|I5 O<|G3 O<|I5 O<|K2 O<|I5 O<|I1 O ?_;refine I5 O<|I1 O<|I5 O<|J4 1 O<|I5 O<|EE (f:=129) (A7 O) (λw ho=>QS v.K4 e.wv W.writes w (hE.wv.K6 (ho.mw hG)) hE.wl) O O<|I5 O<|RS O<|Ek O<|o6 O<|R4<|E2<|k8 O (by(rw[hb4];rfl))<|C5<|A4 O<|A4 O<|P0 [.B1 gz0 I4 (D8 v).toArray] hF hG hz1 O (A7 O) O O λz2 hz2=>H6<|F4<|K7 O λw9 ho9=>?_;exact⟨z2,rfl,hz2,_,_,ho9.sublist (L9 ..)⟩
   ·rw[if_neg hb2];have hL:=nH (e:=e) (m:=⟨at_,left,S,C0,lists,counts,edits,code,nod,val,ended⟩) hE hn hel v.K4 lim hlim g;refine B4 O<|P0 [] hP hG hz O (A7 O) O O λz1 hz1=>E3 P7 O λgz0=>E8 0 ((D8 v).toArray) O<|A6<|C7<|A3<|B2 0 O<|J3 O<|A5 O<|E0 O (by omega)<|A3<|B2 0 O<|F3 33 (A7 O) (λw ho=>Ma v.K4 w (hE.p6.Q8.K6 (ho.mw hG))) O<|J7 O<|A5 O<|Y7 O (by(rw[hf];rfl))<|C8 ?_;rotate_left;refine Wv (ι:=Unit) (λ_=>True) (λ_=>[(0,.pointer (some ⟨g,0,none⟩)),(1,.int .i64 lim),(2,.int .i64 node),(6,.pointer (some ⟨gz0,0,none⟩)),(38,.bool false)]) (λ_=>.B1 gz0 I4 (D8 v).toArray::O3 g e z1 ⟨at_,left,S,C0,lists,counts,edits,code,nod,val,ended⟩) ?_ (λ_ _=>?_)
    ·cases hr:IH W.reads v.K4 with
     |true=>
      refine R2 (by kernel_rfl)<|I1 O<|J4 0 O<|G3 O<|K2 O<|I1 O<|I1 O<|J4 1 O<|EE (f:=129) (A7 O) (λw ho=>QS v.K4 e.rv W.reads w (hE.rv.K6 (ho.mw hG)) hE.rl) O O<|RS O<|G3 O<|Aw (t:=48) (d:=false) O (by(rw[hr];rfl))<|P1 O<|P1 O<|P1 O<|P1 O<|P1 O<|P1 O<|P1 O<|P1 O<|P1 O<|Jw O<|o6 O<|R4<|E2 ?_;rotate_left;exact FK () trivial ⟨rfl,rfl,rfl,rfl,rfl,trivial⟩ O
     |false=>
      have hw:IH W.writes v.K4=true:=by
       cases h:IH W.writes v.K4 with
       |true=>rfl
       |false=>exact absurd ⟨hr,h⟩ hb2
      refine R2 (by kernel_rfl)<|I1 O<|J4 0 O<|G3 O<|K2 O<|I1 O<|I1 O<|J4 1 O<|EE (f:=129) (A7 O) (λw ho=>QS v.K4 e.rv W.reads w (hE.rv.K6 (ho.mw hG)) hE.rl) O O<|RS O<|G3 O<|Aw (t:=48) (d:=true) O (by(rw[hr];rfl))<|I5 O<|I1 O<|I5 O<|J4 0 O<|I5 O<|G3 O<|I5 O<|K2 O<|I5 O<|I1 O<|I5 O<|I1 O<|I5 O<|J4 1 O<|I5 O<|EE (f:=129) (A7 O) (λw ho=>QS v.K4 e.wv W.writes w (hE.wv.K6 (ho.mw hG)) hE.wl) O O<|I5 O<|RS O<|Ek O<|o6 O<|R4<|E2 ?_;rotate_left;exact FK () trivial ⟨rfl,rfl,rfl,rfl,by rw[hw];rfl,trivial⟩ O
    have hL1:=hL z1;generalize Jo e.has edits v.K4 lim=L at hL1⊢;have hpm:=uS g e z1 ⟨at_,left,S,C0,lists,counts,edits,code,nod,val,ended⟩;have hz1':z1.ls.map (·.2)=lists:=hz1;refine E2<|M8 O ?_;rotate_left;refine x4 (H':=(.B1 gz0 I4 (D8 v).toArray::Ks g e z1 ⟨at_,left,S,C0,lists,counts,edits,code,nod,val,ended⟩)++[.row z1.lv t7 1 lists.length (z1.ls.map n5)]) O (λw ho=>ho.perm (.cons _ hpm)) ?_;apply Bh 12 [_,_,_,_,_,_,_,_,_,.rel λu _=>u.oneCell'=true,.rel λu _=>∃gl,u=e6 gl 1,.rel λu _=>u.oneCell'=true] (AN (.B1 gz0 I4 (D8 v).toArray::Ks g e z1 ⟨at_,left,S,C0,lists,counts,edits,code,nod,val,ended⟩) z1.lv lists.length (z1.ls.map n5) L) (by kernel_rfl) (by kernel_rfl) (by kernel_rfl) (λvs=>(AN.s0 rfl rfl).2.2)
    ·refine E9 O (F7 O (λlst vs hl he=>D0 (H8 O)) (λ_ _ _=>rfl))<|E9 O (F7 O (λlst vs hl he=>D0 (H8 O)) (λ_ _ _=>rfl))<|E9 O (F7 O (λlst vs hl he=>D0 (N1 O)) (λ_ _ _=>rfl))<|E9 O (F7 O (λlst vs hl he=>D0 (I8 7 O)) (λ_ _ _=>rfl))<|E9 O (F7 O (λlst vs hl he=>D0 (K1 1 O)) (λ_ _ _=>rfl))<|E9 O (F7 O (λlst vs hl he=>D0 (H8 O)) (λ_ _ _=>rfl))<|E9 O (F7 O (λlst vs hl he=>D0 (I8 2 O)) (λ_ _ _=>rfl))<|E9 O (F7 O (λlst vs hl he=>D0 (K1 0 O)) (λ_ _ _=>rfl))<|E9 O (F7 O (λlst vs hl he=>D0 (H8 O)) (λ_ _ _=>rfl))<|E9 O (CZ O λlst vs hl he a w hf ho hx=>?_) ?_;rotate_left;refine E9 O (CZ O λlst vs hl he a w hf ho hx=>?_) ?_;rotate_left;refine E9 O (CZ O λlst vs hl he a w hf ho hx=>?_) ?_;rotate_left;exact Bf
     ·have hg:=AN.own ho;have hl:lst 9=false:=hl;obtain⟨h10,h11,hH⟩:=AN.s0 (A:=.B1 gz0 I4 (D8 v).toArray::Ks g e z1 ⟨at_,left,S,C0,lists,counts,edits,code,nod,val,ended⟩) (lv:=z1.lv) (k:=lists.length) (xs:=z1.ls.map n5) (L:=L) (vs:=vs) hg hl;have ho1:=ho;rw[hH] at ho1;have ho2:B7 _ (O3 g e z1 ⟨at_,left,S,C0,lists,counts,edits,code,nod,val,ended⟩++[.B1 gz0 I4 (D8 v).toArray]) w:=ho1.perm ((HE _ _).trans (.cons _ hpm.symm));refine .inr ⟨_,_,MM (by kernel_rfl) rfl a w hf ho2,(hL1 w (B7.Gl (ho2.sublist (HB _ _)))).mono ?_⟩;rintro en w' ⟨v9,rfl,hin⟩;have ho3:=ho2.Lc hin;refine⟨v9,rfl,?_,Kp (ho3.rowAt (i:=0) rfl)⟩;have hg2:IA (Q3 lst 9)=true:=by
       show((!lst 10||true)&&(!lst 11||lst 10))=true;rw[h10,h11];rfl
      rw[(AN.s1 (lst:=Q3 lst 9) (vs:=U9 vs 9 v9) hg2 rfl h10).2];exact ho3.perm (Nr.trans (.cons _ ((List.Perm.cons _ hpm).trans (HE _ _).symm)))
     ·have hg:=AN.own ho;have hl:lst 10=false:=hl;have h9:lst 9=true:=he 9 (by decide);obtain⟨h11,hH⟩:=AN.s1 (A:=.B1 gz0 I4 (D8 v).toArray::Ks g e z1 ⟨at_,left,S,C0,lists,counts,edits,code,nod,val,ended⟩) (lv:=z1.lv) (k:=lists.length) (xs:=z1.ls.map n5) (L:=L) (vs:=vs) hg h9 hl;have ho1:=ho;rw[hH] at ho1;have hone:(vs 9).oneCell'=true:=BG (i:=9) rfl hx (by decide);have hc:=QH hone;refine .inl ⟨e6 w.heap.size 1,_,SR (e:=t7) (sz:=1) (vs:=[vs 9]) hf (by kernel_rfl) rfl rfl (by simp[hc]) rfl,?_,⟨_,rfl⟩⟩;have hn1:=ho1.new #[vs 9] t7;have e1:([vs 9].flatMap λv:Value=>v.cells.toList).toArray= #[vs 9]:=by simp[hc]
      rw[e1,AN.s2 (lst:=Q3 lst 10) (vs:=U9 vs 10 (e6 w.heap.size 1)) h9 rfl h11];exact hn1.perm ((List.perm_append_left_iff _).2 (List.Perm.swap ..)|>.trans Nr)
     ·have hl:lst 11=false:=hl;have h9:lst 9=true:=he 9 (by decide);have h10:lst 10=true:=he 10 (by decide);have hH:=AN.s2 (A:=.B1 gz0 I4 (D8 v).toArray::Ks g e z1 ⟨at_,left,S,C0,lists,counts,edits,code,nod,val,ended⟩) (lv:=z1.lv) (k:=lists.length) (xs:=z1.ls.map n5) (L:=L) (vs:=vs) h9 h10 hl;have ho1:=ho;rw[hH] at ho1;have hone:(vs 9).oneCell'=true:=BG (i:=9) rfl hx (by decide);obtain⟨gl,hgl⟩:=BG (i:=10) rfl hx (by decide);rw[hgl] at ho1;refine .inl (qD (i:=(.B1 gz0 I4 (D8 v).toArray::Ks g e z1 ⟨at_,left,S,C0,lists,counts,edits,code,nod,val,ended⟩).length+2) (e:=t7) (sz:=1) (by':=24) (m:=lists.length) (k:=1) (c:=1) (A:=⟨gl,0,none⟩) (v:=z1.lv) (xs:=z1.ls.map n5) (news:=[vs 9]) (by kernel_rfl) rfl (rY _ _ _ _) (Eq.trans (b:=some (vs 10)) rfl (congrArg some hgl)) rfl (λw ho=>BI (cs:= #[vs 9]) ho (xY _ _ _ _)) (Gy hone) (by simp only[maxLen];omega) hf ho1 (λv' w' h3 h4=>⟨?_,h3⟩));rw[AN.s3 (lst:=Q3 lst 11) (vs:=U9 vs 11 v') h9 h10 rfl];rw[qA] at h4;show B7 _ (_++[_,.B1 (PH (vs 10)) _ _,_]) _;rw[hgl];exact h4
    ·(repeat(first|exact trivial|exact(λ_ _ _ h=>h)|refine⟨trivial,?_⟩|refine⟨λ_ _ _ h=>h,?_⟩))
    ·intro vs w1 hx;have h9:(vs 9).oneCell'=true:=BG (i:=9) rfl hx (by decide);have h11:(vs 11).oneCell'=true:=BG (i:=11) rfl hx (by decide);refine x4 (H':=.B1 gz0 I4 (D8 v).toArray::.B1 g CW (Ez e z1 ⟨at_,left,S,C0,lists,counts,edits,code,nod,val,ended⟩)::.row z1.sv I4 3 S.length (P8 S)::.row z1.T6 I4 3 C0.length (P8 C0)::.row (vs 11) t7 1 (lists.length+1) (z1.ls.map n5++[vs 9])::.row z1.cv S7 1 counts.length (y7 counts)::.obj e.gh (P2 (R0 e.has))::.obj e.ge (P2 (R0 edits))::(z1.ls.map Bd++[.row (vs 9) Ew 4 L.length (d3 L)])) O (λw ho=>by
      rw[AN.s3 rfl rfl rfl] at ho;exact(ho.sublist (List.Sublist.append (Q5 _) (.cons_cons _ (L9 ..)))).perm (an6 _ _ _ _ _ _ _ _ _ _)) ?_
     refine Ai (E':=[(9,.pointer (some ⟨g,0,none⟩)),(20,vs 11)]) ⟨rfl,rfl,trivial⟩ ?_;generalize vs 11=v11 at h11⊢;generalize vs 9=v9 at h9⊢;refine E5 O<|D9 O<|Ce (i:=1) (by kernel_rfl) O O (by assumption) O O<|H6<|F4<|K7 O λw9 ho9=>?_;refine⟨⟨z1.sv,z1.T6,v11,z1.cv,z1.ls++[(v9,L,0)]⟩,rfl,?_,?_⟩
     ·unfold HV;dsimp only;rw[Bu,hz1'];rfl
     ·have e1:O3 g e ⟨z1.sv,z1.T6,v11,z1.cv,z1.ls++[(v9,L,0)]⟩ ⟨at_,left,S,C0,lists++[(L,0)],counts,edits,code,nod,val,ended⟩=.B1 g CW (Ez e ⟨z1.sv,z1.T6,v11,z1.cv,z1.ls⟩ ⟨at_,left,S,C0,lists,counts,edits,code,nod,val,ended⟩)::.row z1.sv I4 3 S.length (P8 S)::.row z1.T6 I4 3 C0.length (P8 C0)::.row v11 t7 1 (lists.length+1) (z1.ls.map n5++[v9])::.row z1.cv S7 1 counts.length (y7 counts)::.obj e.gh (P2 (R0 e.has))::.obj e.ge (P2 (R0 edits))::(z1.ls.map Bd++[.row v9 Ew 4 L.length (d3 L)]):=by
       unfold O3;dsimp only;rw[J8,Bu,Bu];have e2:List.map n5 [(v9,L,0)]=[v9]:=by simp[n5,an4]
       rw[e2];rfl
      rw[e1];exact⟨_,_,ho9.sublist (L9 ..)⟩
  ·have hf0:w6 v.K4=false:=by simpa using hf
   rw[if_pos hf0];have hF:=FV w0 e ⟨at_,left,S,C0,lists,counts,edits,code,nod,val,ended⟩ 3 node;rw[HJ (by decide)] at hF;refine B4 O<|P0 [] hP hG hz O (A7 O) O O λz1 hz1=>E3 P7 O λgz0=>E8 0 ((D8 v).toArray) O<|A6<|C7<|A3<|B2 0 O<|J3 O<|A5 O<|E0 O (by omega)<|A3<|B2 0 O<|F3 33 (A7 O) (λw ho=>Ma v.K4 w (hE.p6.Q8.K6 (ho.mw hG))) O<|J7 O<|A5 O<|k8 O (by(rw[hf0];rfl))<|C5<|A4 O<|A4 O<|P0 [.B1 gz0 I4 (D8 v).toArray] hF hG hz1 O (A7 O) O O λz2 hz2=>H6<|F4<|K7 O λw9 ho9=>?_;exact⟨z2,rfl,hz2,_,_,ho9.sublist (L9 ..)⟩
 ·rw[if_pos hk];have hF:=FV w0 e ⟨at_,left,S,C0,lists,counts,edits,code,nod,val,ended⟩ 10 node;rw[HJ (by decide)] at hF;refine B4 O<|P0 [] hP hG hz O (A7 O) O O λz1 hz1=>E3 P7 O λgz0=>E8 0 ((D8 v).toArray) O<|A6<|C7<|A3<|B2 0 O<|J3 O<|A5 O<|E7 O (by exact hk)<|C5<|A4 O<|A4 O<|P0 [.B1 gz0 I4 (D8 v).toArray] hF hG hz1 O (A7 O) O O λz2 hz2=>H6<|F4<|K7 O λw9 ho9=>?_;exact⟨z2,rfl,hz2,_,_,ho9.sublist (L9 ..)⟩
end
section
variable{P:Program}{n:Nat}{E:List (Nat×Value)}{C:I3}{H:List C2}{Q:Exit->Act->World->Prop}{r:Option Nat}{ops:Array Oper}{rest:List Oper}{ty t:TypeId}{pos:String}{after:Array Edge}{x y:Operand}
theorem ap1{α:Type}(cur vs:List α)(j k:Nat)(hj:j+vs.length<=k)(hk:k<=cur.length):(cur.take j++vs++cur.drop (j+vs.length)).take k=(cur.take k).take j++vs++(cur.take k).drop (j+vs.length):=by
 have hl1:(cur.take j).length=j:=by rw[ED];omega
 rw[Q2,Q2,List.take_append,hl1,CQ (l:=cur.take j) (by omega),List.take_append,CQ (l:=vs) (by omega),Rm,Pj (by omega),Uj,Nat.sub_sub]
theorem eM{i e sz m gb c j:Nat}{vs:J2}{xs:H2}(hT:CF P t=some vs.size)(hx:ev E x=some (.pointer (some ⟨gb,j,none⟩)))(hy:ev E y=some (.agg vs))(h1:(vs.toList.all (·.oneCell'))=true)(hi:H[i]?=some (.row (.slice (some ⟨gb,0,none⟩) m c) e sz m xs))(hj:j+vs.size<=m*sz)
  :Ic P n E C H ⟨none,.store t x y,ty,pos,after,none⟩ (H.set i (.row (.slice (some ⟨gb,0,none⟩) m c) e sz m (xs.take j++vs.toList++xs.drop (j+vs.size)))):=by
 intro a w hf ho;have hrow:=ho.rowAt hi;rcases hrow.2 with⟨hv,_⟩|⟨g,cap,cur,hv,hbg,hg,hmc,hcm,hcs,htk⟩
 ·cases hv
 cases hv;have hmsz:m*sz<=c*sz:=Us sz hmc;have hst:=run_storeCells_at P gb j e vs.toList 0 cur w hg (by simp;omega) (λv hv=>f5.1 h1 v hv);refine⟨w.setRow gb (cur.toList.take j++vs.toList++cur.toList.drop (j+vs.size)).toArray,?_,?_⟩
 ·simp only[execOp,hf.eval hx,hf.eval hy];simp only[Instr.storeAt,Instr.sureAddr,storeVar,Value.cells];simp at hst;simp[go_sem,Gd hT,hst]
 ·refine ho.swap hi ⟨rfl,rfl,rfl,by simp[World.setRow],λk _ hk=>?_⟩ ⟨?_,.inr ⟨gb,c,(cur.toList.take j++vs.toList++cur.toList.drop (j+vs.size)).toArray,rfl,R5 _,?_,hmc,hcm,?_,?_⟩⟩ (λk hk=>.inl hk)
  ·simp only[World.setRow,Ke];rw[if_neg (λe=>hk (by simp[C2.blocks,Value.ownBlock,e]))]
  ·have:=hrow.1;simp only[J8,ED,EB,YD];omega
  ·simp[World.setRow,Ke,hg]
  ·simp only[Ul,J8,ED,EB,YD];omega
  ·show List.take (m*sz) (cur.toList.take j++vs.toList++cur.toList.drop (j+vs.size))=_;rw[<-htk];have:=ap1 cur.toList vs.toList j (m*sz) (by simpa using hj) (by rw[YD];omega);simpa using this
theorem fY{i e sz m gb c j:Nat}{vs:J2}{xs:H2}(hT:CF P t=some vs.size)(hx:ev E x=some (.pointer (some ⟨gb,j,none⟩)))(hy:ev E y=some (.agg vs))(h1:(vs.toList.all (·.oneCell'))=true)(hi:H[i]?=some (.row (.slice (some ⟨gb,0,none⟩) m c) e sz m xs))(hj:j+vs.size<=m*sz)
  (k:At n E C (H.set i (.row (.slice (some ⟨gb,0,none⟩) m c) e sz m (xs.take j++vs.toList++xs.drop (j+vs.size)))) (D3 r P ops Q rest)):At n E C H (D3 r P ops Q (⟨none,.store t x y,ty,pos,after,none⟩::rest)):=
 OW (eM hT hx hy h1 hi hj) rfl rfl rfl k
end
theorem Vc{L:List Vl}{i:Nat}{v:Vl}(hi:i<L.length):(P8 L).take (0+i*3)++(D8 v).toArray.toList++(P8 L).drop (0+i*3+(D8 v).toArray.size)=P8 (L.set i v):=by
 have h1:L=L.take i++L[i]::L.drop (i+1):=by rw[YA,FZ]
 have hl:(P8 (L.take i)).length=i*3:=by
  rw[P8,Qu Hh,ED,Pj (by omega)]
 have h2:P8 L=P8 (L.take i)++(D8 L[i]++P8 (L.drop (i+1))):=by
  conv=>lhs;rw[h1]
  simp only[P8,Ut,DL]
 have h3:L.set i v=L.take i++v::L.drop (i+1):=by
  rw[List.set_eq_take_append_cons_drop,if_pos hi]
 rw[h3,Y3];have h4:P8 (L.take i++v::L.drop (i+1))=P8 (L.take i)++(D8 v++P8 (L.drop (i+1))):=by simp only[P8,Ut,DL]
 rw[h4,h2,Rc (by omega),CQ (by omega)];have h5:(D8 v).toArray.size=3:=rfl;rw[h5,List.drop_append,JE (by omega),hl,show i*3+3-i*3=3 by omega,DM];have h6:(D8 L[i]++P8 (L.drop (i+1))).drop 3=P8 (L.drop (i+1)):=rfl;rw[h6,Q2]
theorem nL{i n c gb:Nat}(h:i<c):IC i (.slice (some ⟨gb,0,none⟩) n c)=.slice (some ⟨gb,0+i*4,none⟩) (n-i) (c-i):=by
 unfold IC;dsimp only;rw[if_neg (by omega)]
theorem at2{i n c gb:Nat}(h:i<n)(hn:n<=c):Value.slice (some (if c-i=1 then⟨gb,0+i*4,none⟩ else(⟨gb,0+i*4,none⟩:Addr).add (1*4))) (n-i-1) (c-i-1)=IC (i+1) (.slice (some ⟨gb,0,none⟩) n c):=by
 unfold IC;dsimp only;by_cases h1:c=i+1
 ·rw[if_pos (by omega),if_pos h1];congr 1
 ·rw[if_neg (by omega),if_neg h1,Fi];congr 1;rw[Y3,Y3,MD]
theorem sY{a q:Nat}{node:Int}{m:Mc}{A:List (List Ed×Nat)}{l:List Ed}{i:Nat}(hS:m.lists=A++[(l,i)])(hi:l[i]?=none):IR a q node m={m with lists:=A,at_:=q}:=by
 unfold IR;rw[hS];simp[hi]
theorem ao2{a q:Nat}{node:Int}{m:Mc}{A:List (List Ed×Nat)}{l:List Ed}{i:Nat}{x:Ed}(hS:m.lists=A++[(l,i)])(hi:l[i]?=some x):IR a q node m=if m.left=0 then V7 11 node H4 m else{m with left:=m.left-1,C0:=(m.C0.set a (Fy x.1)).set (a+1) x.2,lists:=A++[(l,i+1)]}:=by
 unfold IR;rw[hS];simp[hi]
theorem ag4{α β:Type}{f:α->β}{L:List α}{A:List β}{b:β}(h:L.map f=A++[b]):∃Z z,L=Z++[z]/\Z.map f=A/\f z=b:=by
 have hne:L≠[]:=by rintro rfl;simp at h
 refine⟨L.dropLast,L.getLast hne,(mP hne).symm,?_,?_⟩
 ·have:=congrArg List.dropLast h;simpa[List.map_dropLast] using this
 ·rw[<-mP hne,Bu] at h;have:=List.append_inj_right' h rfl;simpa using this
theorem UZ(g:Nat)(e:T4)(sv T6 lv cv:Value)(Z:List (Value×List Ed×Nat))(x:Value×List Ed×Nat)(m:Mc):(O3 g e ⟨sv,T6,lv,cv,Z++[x]⟩ m)[7+Z.length]?=some (Bd x):=by
 unfold O3;rw[show 7+Z.length=Z.length+1+1+1+1+1+1+1 by omega];simp only[JC,Bu];rw[j4 (by simp)];simp
theorem dZ(b:C2)(g:Nat)(e:T4)(sv T6 lv cv:Value)(Z:List (Value×List Ed×Nat))(x:Value×List Ed×Nat)(m:Mc):(b::O3 g e ⟨sv,T6,lv,cv,Z++[x]⟩ m)[8+Z.length]?=some (Bd x):=by
 rw[show 8+Z.length=(7+Z.length)+1 by omega,JC];exact UZ g e sv T6 lv cv Z x m
theorem av4{Z:List (Value×List Ed×Nat)}{A:List (List Ed×Nat)}{x:Value×List Ed×Nat}(h:Z.map (·.2)=A):((Z++[x]).map n5)[0+A.length]?=some (n5 x):=by
 have hl:Z.length=A.length:=by rw[<-h,Nq]
 rw[Bu,Y3,j4 (by simp[hl])];simp[hl]
theorem ar3{Z:List (Value×List Ed×Nat)}{A:List (List Ed×Nat)}{x:Value×List Ed×Nat}(h:Z.map (·.2)=A):((Z++[x]).map n5).take (A.length*1)=Z.map n5:=by
 have hl:Z.length=A.length:=by rw[<-h,Nq]
 rw[Bu,Rc (by simp[hl]),CQ (by simp[hl])]
theorem af2{Z:List (Value×List Ed×Nat)}{A:List (List Ed×Nat)}{x y:Value×List Ed×Nat}(h:Z.map (·.2)=A):((Z++[x]).map n5).set (0+A.length) (n5 y)=(Z++[y]).map n5:=by
 have hl:Z.length=A.length:=by rw[<-h,Nq]
 rw[Bu,Bu,Y3,Rn _ _ (by simp[hl])];simp[hl]
theorem xB{w:B6}{b n i:Nat}{v:Value}{xs:H2}(h:w.ownsRow b Ew 4 v n xs):∃A0 c9,IC i v=.slice A0 (n-i) c9:=by
 rcases(UO h).2 with⟨rfl,h0⟩|⟨gb,c0,rfl⟩
 ·exact⟨none,0,by rw[h0];simp[IC]⟩
 ·exact⟨_,_,rfl⟩
section
variable{w0:World}{e:T4}{W:Wt}{M:Cd}{B8:Int}{m:Mc}
theorem at1(w0:B6)(e:T4)(m:Mc)(node:Int)(a q:Nat){A:List (List Ed×Nat)}{l:List Ed}{i:Nat}(hS:m.lists=A++[(l,i)])(hil:i<=l.length)(hll:m.lists.length<=90001)(hsl:a+1<m.C0.length)(hsb:m.C0.length<=90000)(hlf:m.left<=100000):
  Y5 w0 e m 86 (λg=> #[.pointer (some ⟨g,0,none⟩),u0 ⟨13,a,q,node⟩]) (IR a q node m) (.tuple #[]):=by
 intro g z w hz hb hU ho;refine G7 ho func86 O ntmps86 O ?_;have hG:=k6 hb hU;obtain⟨Z,⟨v0,li⟩,hZ,hZA,hzl⟩:=ag4 (Eq.trans hz hS);obtain rfl:li=(l,i):=hzl;obtain⟨sv,T6,lv,cv,ls⟩:=z;dsimp only at hZ;subst hZ;have hlen:m.lists.length=A.length+1:=by rw[hS];simp
 have hY0:=λh=>NP w0 e m node h;have hY1:=λh=>kN e m node h hlf g;have hE0:=λh=>sY (a:=a) (q:=q) (node:=node) hS h;have hE1:=λx h=>ao2 (a:=a) (q:=q) (node:=node) (x:=x) hS h;obtain⟨at_,left,stack,C0,lists,counts,edits,code,nod,val,ended⟩:=m;dsimp only at hY0 hY1 hS hll hsl hsb hlen hE0 hE1⊢;refine R7 3 O ?_;rintro⟨_,⟨hlv,h00⟩|⟨gv,cp,hlv⟩⟩
 ·dsimp only at h00;omega
 dsimp only at hlv;subst hlv;refine Oy (φ:=lists.length<=cp) (λw ho=>Vm (ho.rowAt (i:=3) rfl)) λhcap=>?_;have hi1:(lists.length:Int)-1=(A.length:Int):=by omega
 have hlt:A.length<lists.length:=by omega
 have hlt1:0+A.length<lists.length*1:=by omega
 have hat:((Z++[(v0,l,i)]).map n5)[0+A.length]?=some (IC i v0):=av4 hZA;cases hx:l[i]? with
 |none=>
  rw[hE0 hx];have hi2:l.length-i=0:=by have:=List.getElem?_eq_none_iff.1 hx;omega
  refine Oy (φ:=∃A0 c9,IC i v0=.slice A0 (l.length-i) c9) (λw ho=>xB (ho.rowAt (UZ g e sv T6 _ cv Z (v0,l,i) _))) λhcut=>?_;obtain⟨A0,c9,hcut⟩:=hcut;rw[hcut,hi2] at hat;refine A3<|F0 O λgz0=>I9 O<|E5 O<|B2 1 O<|d1 O<|B9 (hi1▸DA rfl rfl (by omega)) O<|A5 O<|B4 O<|E5 O<|B2 1 O<|A4 O<|B9 (AW (A.length) O hlt) O<|B9 (Av 4 O hlt1 hat) O<|A5 O<|B5<|A4 O<|d1 O<|H5 O<|A6<|E7 O (by decide)<|C8 ?_;apply Bh 13 [_,_,_,_,_,_,_,_,_,_,_,_,j2] (Dt [.B1 gz0 Q1 (P4 ⟨13,a,q,node⟩).toArray] [5] 12 (O3 g e ⟨sv,T6,.slice (some ⟨gv,0,none⟩) lists.length cp,cv,Z++[(v0,l,i)]⟩ ⟨at_,left,stack,C0,lists,counts,edits,code,nod,val,ended⟩) (.B1 g CW (Ez e ⟨sv,T6,AZ A.length (.slice (some ⟨gv,0,none⟩) lists.length cp),cv,Z⟩ ⟨at_,left,stack,C0,lists,counts,edits,code,nod,val,ended⟩)::.row sv I4 3 stack.length (P8 stack)::.row T6 I4 3 C0.length (P8 C0)::.row (.slice (some ⟨gv,0,none⟩) lists.length cp) t7 1 lists.length ((Z++[(v0,l,i)]).map n5)::.row cv S7 1 counts.length (y7 counts)::.obj e.gh (P2 (R0 e.has))::.obj e.ge (P2 (R0 edits))::(Z++[(v0,l,i)]).map Bd)) (by kernel_rfl) (by kernel_rfl) (by kernel_rfl) (λ_=>rfl)
  ·refine E9 O (F7 O (λlst vs hl he=>D0 (H8 O)) (λ_ _ _=>rfl))<|E9 O (F7 O (λlst vs hl he=>D0 (H8 O)) (λ_ _ _=>rfl))<|E9 O (F7 O (λlst vs hl he=>D0 (H8 O)) (λ_ _ _=>rfl))<|E9 O (F7 O (λlst vs hl he=>D0 (N1 O)) (λ_ _ _=>rfl))<|E9 O (F7 O (λlst vs hl he=>D0 (I8 7 O)) (λ_ _ _=>rfl))<|E9 O (OU O (by decide) (by decide) (λlst vs hq he=>D0 (K1 1 O)))<|E9 O (F7 O (λlst vs hl he=>D0 (H8 O)) (λ_ _ _=>rfl))<|E9 O (F7 O (λlst vs hl he=>D0 (RU (sz:=1) (by kernel_rfl) O O ⟨YR _,by omega⟩)) (λ_ _ _=>rfl))<|E9 O (F7 O (λlst vs hl he=>D0 (I8 2 O)) (λ_ _ _=>rfl))<|E9 O (F7 O (λlst vs hl he=>D0 (K1 0 O)) (λ_ _ _=>rfl))<|E9 O (F7 O (λlst vs hl he=>D0 (N1 O)) (λ_ _ _=>rfl))<|E9 O (F7 O (λlst vs hl he=>D0 (I8 7 O)) (λ_ _ _=>rfl))<|E9 O (VN O O (by decide) (by decide) (λlst vs he=>Jq (NT (i:=1) (by kernel_rfl) O O O O O) O)) ?_;exact Bf
  ·(repeat(first|exact trivial|exact(λ_ _ _ h=>h)|refine⟨trivial,?_⟩|refine⟨λ_ _ _ h=>h,?_⟩))
  ·intro vs w1 hx1;refine XZ O O<|E5 O<|D9 O<|N4 1 O<|A6<|D4<|K0<|Ct O O λw9 ho9=>?_;have h2:=ho9.TV (i:=4) (q:=A.length) rfl (Nat.le_of_lt hlt);rw[ar3 hZA] at h2;have hsub:(Z.map Bd).Sublist ((Z++[(v0,l,i)]).map Bd):=by rw[Bu];exact HB _ _
   exact⟨⟨sv,T6,AZ A.length (.slice (some ⟨gv,0,none⟩) lists.length cp),cv,Z⟩,rfl,hZA,_,_,h2.sublist (.cons _ (.cons_cons _ (.cons_cons _ (.cons_cons _ (.cons_cons _ (.cons_cons _ (.cons_cons _ (.cons_cons _ hsub))))))))⟩
 |some x=>
  rw[hE1 x hx];have hil2:i<l.length:=(N5.1 hx).1;refine WP (UZ g e sv T6 _ cv Z (v0,l,i) _) ?_;rintro⟨_,⟨_,h00⟩|⟨gb,c0,hv0⟩⟩
  ·dsimp only at h00;omega
  dsimp only at hv0;subst hv0;refine Oy (φ:=l.length<=c0) (λw ho=>Vm (ho.rowAt (UZ g e sv T6 _ cv Z _ _))) λhcap2=>?_;rw[nL (by omega)] at hat;have hne:¬((l.length-i:Nat):Int)=0:=by omega
  by_cases hl0:left=0
  ·rw[if_pos hl0];have hY:=hY0 hl0;refine A3<|F0 O λgz0=>I9 O<|E5 O<|B2 1 O<|d1 O<|B9 (hi1▸DA rfl rfl (by omega)) O<|A5 O<|B4 O<|E5 O<|B2 1 O<|A4 O<|B9 (AW (A.length) O hlt) O<|B9 (Av 4 O hlt1 hat) O<|A5 O<|B5<|A4 O<|d1 O<|H5 O<|A6<|E0 O (by exact hne)<|D6<|B4 O<|B2 0 O<|P0 [.B1 gz0 Q1 (P4 ⟨13,a,q,node⟩).toArray] hY hG hz O (A7 O) O O λz1 hz1=>A6<|M8 O<|P5<|K7 O λw9 ho9=>?_;exact⟨z1,rfl,hz1,_,_,ho9.sublist (L9 ..)⟩
  rw[if_neg hl0];have hY:=hY1 hl0;refine R7 2 O ?_;rintro⟨_,⟨_,h00⟩|⟨gsl,cs,hslv⟩⟩
  ·dsimp only at h00;omega
  dsimp only at hslv;subst hslv;have ha:a<C0.length:=by omega
  have ha1:(a:Int)+1=((a+1:Nat):Int):=by omega
  have hsz:0+a*3+3<=C0.length*3:=by omega
  have hsz2:0+(a+1)*3+3<=C0.length*3:=by omega
  have hpos:0<l.length-i:=by omega
  have hkey:∀(b:C2) (sl:List Vl) (C:I3) (w:B6),B7 C (b::O3 g e ⟨sv,.slice (some ⟨gsl,0,none⟩) C0.length cs,.slice (some ⟨gv,0,none⟩) lists.length cp,cv,Z++[(Value.slice (some ⟨gb,0,none⟩) l.length c0,l,i)]⟩ ⟨at_,left-1,stack,sl,lists,counts,edits,code,nod,val,ended⟩) w->w.cell? ⟨gb,0+i*4+0*4+0,none⟩=some (.string (bs x.1)):=λb sl C w ho=>by
   have h:=X7 PF ho (q:=8+Z.length) (dZ b g e sv _ _ cv Z _ _) hx 0 _ rfl;rw[Fi] at h;exact h
  have hval:∀(b:C2) (sl:List Vl) (C:I3) (w:B6),B7 C (b::O3 g e ⟨sv,.slice (some ⟨gsl,0,none⟩) C0.length cs,.slice (some ⟨gv,0,none⟩) lists.length cp,cv,Z++[(Value.slice (some ⟨gb,0,none⟩) l.length c0,l,i)]⟩ ⟨at_,left-1,stack,sl,lists,counts,edits,code,nod,val,ended⟩) w->∀j u,(D8 x.2)[j]?=some u->w.cell? ((⟨gb,0+i*4+0*4+1,none⟩:Addr).add j)=some u:=λb sl C w ho j u hu=>by
   have h:=X7 PF ho (q:=8+Z.length) (dZ b g e sv _ _ cv Z _ _) hx (j+1) u hu;rw[Fi] at h⊢;rw[show 0+i*4+0*4+1+j=0+i*4+(j+1) by omega];exact h
  refine A3<|F0 O λgz0=>I9 O<|E5 O<|B2 1 O<|d1 O<|B9 (hi1▸DA rfl rfl (by omega)) O<|A5 O<|B4 O<|E5 O<|B2 1 O<|A4 O<|B9 (AW (A.length) O hlt) O<|B9 (Av 4 O hlt1 hat) O<|A5 O<|B5<|A4 O<|d1 O<|H5 O<|A6<|E0 O (by exact hne)<|D6<|B4 O<|B2 0 O<|Pz [.B1 gz0 Q1 (P4 ⟨13,a,q,node⟩).toArray] (hY _) O (A7 O) O O<|A6<|R1 O<|C8 ?_;apply Bh 24 [_,_,_,_,_,_,_,_,_,_,_,_,_,_,_,_,_,_,_,_,_,_,_,j2] (Dt [.B1 gz0 Q1 (P4 ⟨13,a,q,node⟩).toArray] [3,9,16,21] 23 (O3 g e ⟨sv,.slice (some ⟨gsl,0,none⟩) C0.length cs,.slice (some ⟨gv,0,none⟩) lists.length cp,cv,Z++[(Value.slice (some ⟨gb,0,none⟩) l.length c0,l,i)]⟩ ⟨at_,left-1,stack,C0,lists,counts,edits,code,nod,val,ended⟩) (.B1 g CW (Ez e ⟨sv,.slice (some ⟨gsl,0,none⟩) C0.length cs,.slice (some ⟨gv,0,none⟩) lists.length cp,cv,Z++[(Value.slice (some ⟨gb,0,none⟩) l.length c0,l,i)]⟩ ⟨at_,left-1,stack,C0,lists,counts,edits,code,nod,val,ended⟩)::.row sv I4 3 stack.length (P8 stack)::.row (.slice (some ⟨gsl,0,none⟩) C0.length cs) I4 3 C0.length (P8 (C0.set a (Fy x.1)))::.row (.slice (some ⟨gv,0,none⟩) lists.length cp) t7 1 lists.length ((Z++[(Value.slice (some ⟨gb,0,none⟩) l.length c0,l,i)]).map n5)::.row cv S7 1 counts.length (y7 counts)::.obj e.gh (P2 (R0 e.has))::.obj e.ge (P2 (R0 edits))::(Z++[(Value.slice (some ⟨gb,0,none⟩) l.length c0,l,i)]).map Bd)) (by kernel_rfl) (by kernel_rfl) (by kernel_rfl) (λ_=>rfl)
  ·refine E9 O (F7 O (λlst vs hl he=>D0 (H8 O)) (λ_ _ _=>rfl))<|E9 O (F7 O (λlst vs hl he=>D0 (N1 O)) (λ_ _ _=>rfl))<|E9 O (F7 O (λlst vs hl he=>D0 (I8 6 O)) (λ_ _ _=>rfl))<|E9 O (OU O (by decide) (by decide) (λlst vs hq he=>D0 (K1 1 O)))<|E9 O (F7 O (λlst vs hl he=>D0 (I8 1 O)) (λ_ _ _=>rfl))<|E9 O (F7 O (λlst vs hl he=>D0 (K1 0 O)) (λ_ _ _=>rfl))<|E9 O (F7 O (λlst vs hl he=>D0 (H8 O)) (λ_ _ _=>rfl))<|E9 O (F7 O (λlst vs hl he=>D0 (N1 O)) (λ_ _ _=>rfl))<|E9 O (F7 O (λlst vs hl he=>D0 (I8 6 O)) (λ_ _ _=>rfl))<|E9 O (OU O (by decide) (by decide) (λlst vs hq he=>D0 (K1 1 O)))<|E9 O (F7 O (λlst vs hl he=>D0 (I8 1 O)) (λ_ _ _=>rfl))<|E9 O (F7 O (λlst vs hl he=>D0 (K1 0 O)) (λ_ _ _=>rfl))<|E9 O (F7 O (λlst vs hl he=>D0 (ha1▸Nc rfl rfl (by omega))) (λ_ _ _=>rfl))<|E9 O (F7 O (λlst vs hl he=>D0 (H8 O)) (λ_ _ _=>rfl))<|E9 O (F7 O (λlst vs hl he=>D0 (En 4 0 O hpos)) (λ_ _ _=>rfl))<|E9 O (F7 O (λlst vs hl he=>D0 (I8 0 O)) (λ_ _ _=>rfl))<|E9 O (OU O (by decide) (by decide) (λlst vs hq he=>D0 (AI (v:=.string (bs x.1)) O (λw' ho=>hkey _ C0 _ w' ho))))<|E9 O (F7 O (λlst vs hl he=>D0 (O7 (D8 (Fy x.1)) Bc O)) (λ_ _ _=>rfl))<|E9 O (F7 O (λlst vs hl he=>D0 (H8 O)) (λ_ _ _=>rfl))<|E9 O (F7 O (λlst vs hl he=>D0 (En 4 0 O hpos)) (λ_ _ _=>rfl))<|E9 O (F7 O (λlst vs hl he=>D0 (I8 1 O)) (λ_ _ _=>rfl))<|E9 O (OU O (by decide) (by decide) (λlst vs hq he=>D0 (Ip (vs:=D8 x.2) (by kernel_rfl) O (λw' ho=>hval _ C0 _ w' ho))))<|E9 O (F7 O (λlst vs hl he=>D0 (En 3 a O ha)) (λ_ _ _=>rfl))<|E9 O (VN O O (by decide) (by decide) (λlst vs he=>Jq (eM (i:=3) (c:=cs) (vs:=(D8 (Fy x.1)).toArray) (by kernel_rfl) O O O O hsz) (by rw[Vc ha];rfl))) ?_;exact Bf
  ·(repeat(first|exact trivial|exact(λ_ _ _ h=>h)|refine⟨trivial,?_⟩|refine⟨λ_ _ _ h=>h,?_⟩))
  ·intro vs w1 hx1;refine XZ O O<|Q4 (j:=a+1) O hsl<|fY (i:=3) (vs:=(D8 x.2).toArray) (by kernel_rfl) O O O O hsz2<|A6 ?_;apply BL 7 [_,_,_,_,_,_,_] (by kernel_rfl) (by kernel_rfl) (by kernel_rfl)
   ·refine D5 O (λvs=>H8 O)<|D5 O (λvs=>N1 O)<|D5 O (λvs=>I8 7 O)<|D5 O (λvs=>K1 1 O)<|D5 O (λvs=>H8 O)<|D5 O (λvs=>H8 O)<|D5 O (λvs=>iI (sz:=4) (q:=1) (by kernel_rfl) O O ⟨hpos,by omega⟩) ?_;exact l6
   ·(repeat(first|exact trivial|exact(λ_ _ _ h=>h)|refine⟨trivial,?_⟩|refine⟨λ_ _ _ h=>h,?_⟩))
   ·intro vs2;refine B9 (AW (A.length) O hlt) O<|GR (i:=4) (by kernel_rfl) O O O O hlt1<|H6<|K7 O λw9 ho9=>?_;have hcn:=at2 (gb:=gb) hil2 hcap2;have hset:=af2 (x:=(Value.slice (some ⟨gb,0,none⟩) l.length c0,l,i)) (y:=(Value.slice (some ⟨gb,0,none⟩) l.length c0,l,i+1)) hZA;have hla:a+1<(C0.set a (Fy x.1)).length:=by rw[Kg];exact hsl
    have e1:O3 g e ⟨sv,.slice (some ⟨gsl,0,none⟩) C0.length cs,.slice (some ⟨gv,0,none⟩) lists.length cp,cv,Z++[(Value.slice (some ⟨gb,0,none⟩) l.length c0,l,i+1)]⟩ ⟨at_,left-1,stack,(C0.set a (Fy x.1)).set (a+1) x.2,A++[(l,i+1)],counts,edits,code,nod,val,ended⟩=.B1 g CW (Ez e ⟨sv,.slice (some ⟨gsl,0,none⟩) C0.length cs,.slice (some ⟨gv,0,none⟩) lists.length cp,cv,Z⟩ ⟨at_,left-1,stack,C0,lists,counts,edits,code,nod,val,ended⟩)::.row sv I4 3 stack.length (P8 stack)::.row (.slice (some ⟨gsl,0,none⟩) C0.length cs) I4 3 C0.length (P8 ((C0.set a (Fy x.1)).set (a+1) x.2))::.row (.slice (some ⟨gv,0,none⟩) lists.length cp) t7 1 lists.length ((Z++[(Value.slice (some ⟨gb,0,none⟩) l.length c0,l,i+1)]).map n5)::.row cv S7 1 counts.length (y7 counts)::.obj e.gh (P2 (R0 e.has))::.obj e.ge (P2 (R0 edits))::(Z++[(Value.slice (some ⟨gb,0,none⟩) l.length c0,l,i)]).map Bd:=by
     unfold O3;dsimp only;rw[Kg,Kg,J8,List.length_singleton,<-hlen,Bu (f:=Bd),Bu (f:=Bd)];rfl
    refine⟨⟨sv,.slice (some ⟨gsl,0,none⟩) C0.length cs,.slice (some ⟨gv,0,none⟩) lists.length cp,cv,Z++[(Value.slice (some ⟨gb,0,none⟩) l.length c0,l,i+1)]⟩,rfl,?_,?_⟩
    ·unfold HV;dsimp only;rw[Bu,hZA];rfl
    ·rw[e1,<-hset,<-Vc hla];have h9:=ho9.sublist (L9 ..);exact⟨_,_,hcn▸h9⟩
end
section
variable{w0:World}{e:T4}{W:Wt}{M:Cd}{B8:Int}{m:Mc}
theorem vM(hE:ER w0 e W M B8)(he:Ab m.edits)(k:Nat)(b node:Int){S:List Vl}{v:Vl}(hv:N2 v)(hS:m.stack=S++[v])(hl:m.stack.length<=90000)(hlf:m.left<=100000)(G5:List Vl):Y5 w0 e m 39 (λg=> #[.pointer (some ⟨g,0,none⟩),u0 ⟨3,k,b,node⟩]) (Q6 W e.has G5 ⟨3,k,b,node⟩ m) (.tuple #[]):=by
 intro g z w hz hb hU ho;refine G7 ho Dl O Dm O ?_;have hG:=k6 hb hU;rw[fF rfl];simp only[Cm];have hC:=mS hE he k b node hv hS hl hlf;refine A3<|F0 O λgz0=>I0<|B2 0 O<|A6<|C7<|B5<|C6 O<|C4 O (λz1=>absurd z1 (by simp[*])) λz1=>C5<|C6 O<|C4 O (λz2=>absurd z2 (by simp[*])) λz2=>A3<|C6 O<|C4 O (λz3=>absurd z3 (by simp[*])) λz3=>B5<|C6 O<|C4 O (λz4=>?_) (λz4=>?_);refine D6<|E7 O (by assumption)<|C5<|A4 O<|G6 0 O O<|P0 [.B1 gz0 Q1 (P4 ⟨3,k,b,node⟩).toArray] hC hG hz O (A7 O) O O λz1 hz1=>H6<|F4<|K7 O λw9 ho9=>?_;rotate_left;contradiction;exact⟨z1,rfl,hz1,_,_,ho9.sublist (L9 ..)⟩
theorem rW(w0:B6)(e:T4)(W:Wt)(m:Mc)(k:Nat)(hk:k<12)(b node:Int){S:List Vl}{x y:Vl}(hx:N2 x)(hy:N2 y)(hS:m.stack=S++[x]++[y])(hl:m.stack.length<=90000)(hlf:m.left<=100000)(G5:List Vl):Y5 w0 e m 39 (λg=> #[.pointer (some ⟨g,0,none⟩),u0 ⟨4,k,b,node⟩]) (Q6 W e.has G5 ⟨4,k,b,node⟩ m) (.tuple #[]):=by
 intro g z w hz hb hU ho;refine G7 ho Dl O Dm O ?_;have hG:=k6 hb hU;rw[dL rfl];simp only[Cm];have hC:=az7 w0 e m W k hk b node hx hy hS hl hlf;refine A3<|F0 O λgz0=>I0<|B2 0 O<|A6<|C7<|B5<|C6 O<|C4 O (λz1=>absurd z1 (by simp[*])) λz1=>C5<|C6 O<|C4 O (λz2=>absurd z2 (by simp[*])) λz2=>A3<|C6 O<|C4 O (λz3=>absurd z3 (by simp[*])) λz3=>B5<|C6 O<|C4 O (λz4=>absurd z4 (by simp[*])) λz4=>C5<|C6 O<|C4 O (λz5=>?_) (λz5=>?_);refine C5<|A4 O<|G6 0 O O<|P0 [.B1 gz0 Q1 (P4 ⟨4,k,b,node⟩).toArray] hC hG hz O (A7 O) O O λz1 hz1=>H6<|F4<|K7 O λw9 ho9=>?_;rotate_left;contradiction;exact⟨z1,rfl,hz1,_,_,ho9.sublist (L9 ..)⟩
theorem xP(w0:B6)(e:T4)(W:Wt)(m:Mc)(q:Nat)(b node:Int){S:List Vl}{v:Vl}(hS:m.stack=S++[v])(hl:m.stack.length<=90001)(hlf:m.left<=100000)(G5:List Vl):Y5 w0 e m 39 (λg=> #[.pointer (some ⟨g,0,none⟩),u0 ⟨5,q,b,node⟩]) (Q6 W e.has G5 ⟨5,q,b,node⟩ m) (.tuple #[]):=by
 intro g z w hz hb hU ho;refine G7 ho Dl O Dm O ?_;have hG:=k6 hb hU;rw[bG rfl];simp only[Cm];have hC:=vG w0 e m 5 b node q hS hl hlf;refine A3<|F0 O λgz0=>I0<|B2 0 O<|A6<|C7<|B5<|C6 O<|C4 O (λz1=>absurd z1 (by simp[*])) λz1=>C5<|C6 O<|C4 O (λz2=>absurd z2 (by simp[*])) λz2=>A3<|C6 O<|C4 O (λz3=>absurd z3 (by simp[*])) λz3=>B5<|C6 O<|C4 O (λz4=>absurd z4 (by simp[*])) λz4=>C5<|C6 O<|C4 O (λz5=>absurd z5 (by simp[*])) λz5=>A3<|C6 O<|C4 O (λz6=>?_) (λz6=>?_);refine C5<|A4 O<|G6 0 O O<|P0 [.B1 gz0 Q1 (P4 ⟨5,q,b,node⟩).toArray] hC hG hz O (A7 O) O O λz1 hz1=>H6<|F4<|K7 O λw9 ho9=>?_;rotate_left;contradiction;exact⟨z1,rfl,hz1,_,_,ho9.sublist (L9 ..)⟩
theorem yW(w0:B6)(e:T4)(W:Wt)(m:Mc)(a b node:Int)(hlf:m.left<=100000)(G5:List Vl):Y5 w0 e m 39 (λg=> #[.pointer (some ⟨g,0,none⟩),u0 ⟨7,a,b,node⟩]) (Q6 W e.has G5 ⟨7,a,b,node⟩ m) (.tuple #[]):=by
 intro g z w hz hb hU ho;refine G7 ho Dl O Dm O ?_;have hG:=k6 hb hU;rw[jJ rfl];have hC:=XJ w0 e m node hlf;refine A3<|F0 O λgz0=>I0<|B2 0 O<|A6<|C7<|B5<|C6 O<|C4 O (λz1=>absurd z1 (by simp[*])) λz1=>C5<|C6 O<|C4 O (λz2=>absurd z2 (by simp[*])) λz2=>A3<|C6 O<|C4 O (λz3=>absurd z3 (by simp[*])) λz3=>B5<|C6 O<|C4 O (λz4=>absurd z4 (by simp[*])) λz4=>C5<|C6 O<|C4 O (λz5=>absurd z5 (by simp[*])) λz5=>A3<|C6 O<|C4 O (λz6=>absurd z6 (by simp[*])) λz6=>A3<|C6 O<|C4 O (λz7=>absurd z7 (by simp[*])) λz7=>A3<|C6 O<|C4 O (λz8=>?_) (λz8=>?_);refine C5<|A4 O<|B2 0 O<|P0 [.B1 gz0 Q1 (P4 ⟨7,a,b,node⟩).toArray] hC hG hz O (A7 O) O O λz1 hz1=>H6<|F4<|K7 O λw9 ho9=>?_;rotate_left;contradiction;exact⟨z1,rfl,hz1,_,_,ho9.sublist (L9 ..)⟩
theorem ai0(w0:B6)(e:T4)(W:Wt)(m:Mc)(q:Nat)(b node:Int){S:List Vl}{v:Vl}(hS:m.stack=S++[v])(hl:m.stack.length<=90001)(G5:List Vl):Y5 w0 e m 39 (λg=> #[.pointer (some ⟨g,0,none⟩),u0 ⟨8,q,b,node⟩]) (Q6 W e.has G5 ⟨8,q,b,node⟩ m) (.tuple #[]):=by
 intro g z w hz hb hU ho;refine G7 ho Dl O Dm O ?_;have hG:=k6 hb hU;rw[Zk rfl];simp only[Cm];have hC:=ax8 w0 e m 8 b node q hS hl;refine A3<|F0 O λgz0=>I0<|B2 0 O<|A6<|C7<|B5<|C6 O<|C4 O (λz1=>absurd z1 (by simp[*])) λz1=>C5<|C6 O<|C4 O (λz2=>absurd z2 (by simp[*])) λz2=>A3<|C6 O<|C4 O (λz3=>absurd z3 (by simp[*])) λz3=>B5<|C6 O<|C4 O (λz4=>absurd z4 (by simp[*])) λz4=>C5<|C6 O<|C4 O (λz5=>absurd z5 (by simp[*])) λz5=>A3<|C6 O<|C4 O (λz6=>absurd z6 (by simp[*])) λz6=>A3<|C6 O<|C4 O (λz7=>absurd z7 (by simp[*])) λz7=>A3<|C6 O<|C4 O (λz8=>absurd z8 (by simp[*])) λz8=>A3<|C6 O<|C4 O (λz9=>?_) (λz9=>?_);refine C5<|A4 O<|G6 0 O O<|P0 [.B1 gz0 Q1 (P4 ⟨8,q,b,node⟩).toArray] hC hG hz O (A7 O) O O λz1 hz1=>H6<|F4<|K7 O λw9 ho9=>?_;rotate_left;contradiction;exact⟨z1,rfl,hz1,_,_,ho9.sublist (L9 ..)⟩
theorem at0(hE:ER w0 e W M B8)(a b node:Int){S:List Vl}{k v:Vl}(hS:m.stack=S++[k]++[v])(hl:m.stack.length<=90001)(G5:List Vl):Y5 w0 e m 39 (λg=> #[.pointer (some ⟨g,0,none⟩),u0 ⟨10,a,b,node⟩]) (Q6 W e.has G5 ⟨10,a,b,node⟩ m) (.tuple #[]):=by
 intro g z w hz hb hU ho;refine G7 ho Dl O Dm O ?_;have hG:=k6 hb hU;rw[lR rfl];have hC:=pL hE node hS hl;refine A3<|F0 O λgz0=>I0<|B2 0 O<|A6<|C7<|B5<|C6 O<|C4 O (λz1=>absurd z1 (by simp[*])) λz1=>C5<|C6 O<|C4 O (λz2=>absurd z2 (by simp[*])) λz2=>A3<|C6 O<|C4 O (λz3=>absurd z3 (by simp[*])) λz3=>B5<|C6 O<|C4 O (λz4=>absurd z4 (by simp[*])) λz4=>C5<|C6 O<|C4 O (λz5=>absurd z5 (by simp[*])) λz5=>A3<|C6 O<|C4 O (λz6=>absurd z6 (by simp[*])) λz6=>A3<|C6 O<|C4 O (λz7=>absurd z7 (by simp[*])) λz7=>A3<|C6 O<|C4 O (λz8=>absurd z8 (by simp[*])) λz8=>A3<|C6 O<|C4 O (λz9=>absurd z9 (by simp[*])) λz9=>A3<|C6 O<|C4 O (λz10=>absurd z10 (by simp[*])) λz10=>A3<|C6 O<|C4 O (λz11=>?_) (λz11=>?_);refine C5<|A4 O<|B2 0 O<|P0 [.B1 gz0 Q1 (P4 ⟨10,a,b,node⟩).toArray] hC hG hz O (A7 O) O O λz1 hz1=>H6<|F4<|K7 O λw9 ho9=>?_;rotate_left;contradiction;exact⟨z1,rfl,hz1,_,_,ho9.sublist (L9 ..)⟩
theorem ak4(hE:ER w0 e W M B8)(a b node:Int){S:List Vl}{k:Vl}(hS:m.stack=S++[k])(hl:m.stack.length<=90001)(G5:List Vl):Y5 w0 e m 39 (λg=> #[.pointer (some ⟨g,0,none⟩),u0 ⟨11,a,b,node⟩]) (Q6 W e.has G5 ⟨11,a,b,node⟩ m) (.tuple #[]):=by
 intro g z w hz hb hU ho;refine G7 ho Dl O Dm O ?_;have hG:=k6 hb hU;rw[eD rfl];have hC:=ab5 hE node hS hl;refine A3<|F0 O λgz0=>I0<|B2 0 O<|A6<|C7<|B5<|C6 O<|C4 O (λz1=>absurd z1 (by simp[*])) λz1=>C5<|C6 O<|C4 O (λz2=>absurd z2 (by simp[*])) λz2=>A3<|C6 O<|C4 O (λz3=>absurd z3 (by simp[*])) λz3=>B5<|C6 O<|C4 O (λz4=>absurd z4 (by simp[*])) λz4=>C5<|C6 O<|C4 O (λz5=>absurd z5 (by simp[*])) λz5=>A3<|C6 O<|C4 O (λz6=>absurd z6 (by simp[*])) λz6=>A3<|C6 O<|C4 O (λz7=>absurd z7 (by simp[*])) λz7=>A3<|C6 O<|C4 O (λz8=>absurd z8 (by simp[*])) λz8=>A3<|C6 O<|C4 O (λz9=>absurd z9 (by simp[*])) λz9=>A3<|C6 O<|C4 O (λz10=>absurd z10 (by simp[*])) λz10=>A3<|C6 O<|C4 O (λz11=>absurd z11 (by simp[*])) λz11=>A3 ?_;refine C6 O<|C4 O (λz12=>?_) (λz12=>?_);refine C5<|A4 O<|B2 0 O<|P0 [.B1 gz0 Q1 (P4 ⟨11,a,b,node⟩).toArray] hC hG hz O (A7 O) O O λz1 hz1=>H6<|F4<|K7 O λw9 ho9=>?_;rotate_left;contradiction;exact⟨z1,rfl,hz1,_,_,ho9.sublist (L9 ..)⟩
theorem wP(hE:ER w0 e W M B8)(hn:(m.edits.map (·.1)).Nodup)(hel:m.edits.length<=64)(a:Int)(lim:Nat)(hlim:lim<=64)(node:Int){S:List Vl}{v:Vl}(hS:m.stack=S++[v])(hl:m.stack.length<=90001)(hll:m.lists.length<=90000)(G5:List Vl):Y5 w0 e m 39 (λg=> #[.pointer (some ⟨g,0,none⟩),u0 ⟨12,a,lim,node⟩]) (Q6 W e.has G5 ⟨12,a,lim,node⟩ m) (.tuple #[]):=by
 intro g z w hz hb hU ho;refine G7 ho Dl O Dm O ?_;have hG:=k6 hb hU;rw[Zd rfl];simp only[Cm];have hC:=ah0 hE hn hel lim hlim node hS hl hll;refine A3<|F0 O λgz0=>I0<|B2 0 O<|A6<|C7<|B5<|C6 O<|C4 O (λz1=>absurd z1 (by simp[*])) λz1=>C5<|C6 O<|C4 O (λz2=>absurd z2 (by simp[*])) λz2=>A3<|C6 O<|C4 O (λz3=>absurd z3 (by simp[*])) λz3=>B5<|C6 O<|C4 O (λz4=>absurd z4 (by simp[*])) λz4=>C5<|C6 O<|C4 O (λz5=>absurd z5 (by simp[*])) λz5=>A3<|C6 O<|C4 O (λz6=>absurd z6 (by simp[*])) λz6=>A3<|C6 O<|C4 O (λz7=>absurd z7 (by simp[*])) λz7=>A3<|C6 O<|C4 O (λz8=>absurd z8 (by simp[*])) λz8=>A3<|C6 O<|C4 O (λz9=>absurd z9 (by simp[*])) λz9=>A3<|C6 O<|C4 O (λz10=>absurd z10 (by simp[*])) λz10=>A3<|C6 O<|C4 O (λz11=>absurd z11 (by simp[*])) λz11=>A3 ?_;refine C6 O<|C4 O (λz12=>absurd z12 (by simp[*])) λz12=>A3<|C6 O<|C4 O (λz13=>?_) (λz13=>?_);refine C5<|A4 O<|B2 0 O<|B2 0 O<|P0 [.B1 gz0 Q1 (P4 ⟨12,a,lim,node⟩).toArray] hC hG hz O (A7 O) O O λz1 hz1=>H6<|F4<|K7 O λw9 ho9=>?_;rotate_left;contradiction;exact⟨z1,rfl,hz1,_,_,ho9.sublist (L9 ..)⟩
theorem ax0(w0:B6)(e:T4)(W:Wt)(m:Mc)(a q:Nat)(node:Int){A:List (List Ed×Nat)}{l:List Ed}{i:Nat}(hS:m.lists=A++[(l,i)])(hil:i<=l.length)(hll:m.lists.length<=90001)(hsl:a+1<m.C0.length)(hsb:m.C0.length<=90000)(hlf:m.left<=100000)(G5:List Vl):Y5 w0 e m 39 (λg=> #[.pointer (some ⟨g,0,none⟩),u0 ⟨13,a,q,node⟩]) (Q6 W e.has G5 ⟨13,a,q,node⟩ m) (.tuple #[]):=by
 intro g z w hz hb hU ho;refine G7 ho Dl O Dm O ?_;have hG:=k6 hb hU;rw[iG rfl];simp only[Cm];have hC:=at1 w0 e m node a q hS hil hll hsl hsb hlf;refine A3<|F0 O λgz0=>I0<|B2 0 O<|A6<|C7<|B5<|C6 O<|C4 O (λz1=>absurd z1 (by simp[*])) λz1=>C5<|C6 O<|C4 O (λz2=>absurd z2 (by simp[*])) λz2=>A3<|C6 O<|C4 O (λz3=>absurd z3 (by simp[*])) λz3=>B5<|C6 O<|C4 O (λz4=>absurd z4 (by simp[*])) λz4=>C5<|C6 O<|C4 O (λz5=>absurd z5 (by simp[*])) λz5=>A3<|C6 O<|C4 O (λz6=>absurd z6 (by simp[*])) λz6=>A3<|C6 O<|C4 O (λz7=>absurd z7 (by simp[*])) λz7=>A3<|C6 O<|C4 O (λz8=>absurd z8 (by simp[*])) λz8=>A3<|C6 O<|C4 O (λz9=>absurd z9 (by simp[*])) λz9=>A3<|C6 O<|C4 O (λz10=>absurd z10 (by simp[*])) λz10=>A3<|C6 O<|C4 O (λz11=>absurd z11 (by simp[*])) λz11=>A3 ?_;refine C6 O<|C4 O (λz12=>absurd z12 (by simp[*])) λz12=>A3<|C6 O<|C4 O (λz13=>absurd z13 (by simp[*])) λz13=>A3<|C6 O<|C4 O (λz14=>?_) (λz14=>?_);refine C5<|A4 O<|G6 0 O O<|P0 [.B1 gz0 Q1 (P4 ⟨13,a,q,node⟩).toArray] hC hG hz O (A7 O) O O λz1 hz1=>H6<|F4<|K7 O λw9 ho9=>?_;rotate_left;contradiction;exact⟨z1,rfl,hz1,_,_,ho9.sublist (L9 ..)⟩
theorem qB(w0:B6)(e:T4)(W:Wt)(m:Mc)(a:Int)(q:Nat)(node:Int){A:List Nat}{n:Nat}(hS:m.counts=A++[n])(hl:m.counts.length<=90001)(hn:n<=100000)(hlf:m.left<=100000)(G5:List Vl):Y5 w0 e m 39 (λg=> #[.pointer (some ⟨g,0,none⟩),u0 ⟨15,a,q,node⟩]) (Q6 W e.has G5 ⟨15,a,q,node⟩ m) (.tuple #[]):=by
 intro g z w hz hb hU ho;refine G7 ho Dl O Dm O ?_;have hG:=k6 hb hU;rw[bD rfl];simp only[Cm];have hC:=uZ w0 e m a node q hS hl hn hlf;refine A3<|F0 O λgz0=>I0<|B2 0 O<|A6<|C7<|B5<|C6 O<|C4 O (λz1=>absurd z1 (by simp[*])) λz1=>C5<|C6 O<|C4 O (λz2=>absurd z2 (by simp[*])) λz2=>A3<|C6 O<|C4 O (λz3=>absurd z3 (by simp[*])) λz3=>B5<|C6 O<|C4 O (λz4=>absurd z4 (by simp[*])) λz4=>C5<|C6 O<|C4 O (λz5=>absurd z5 (by simp[*])) λz5=>A3<|C6 O<|C4 O (λz6=>absurd z6 (by simp[*])) λz6=>A3<|C6 O<|C4 O (λz7=>absurd z7 (by simp[*])) λz7=>A3<|C6 O<|C4 O (λz8=>absurd z8 (by simp[*])) λz8=>A3<|C6 O<|C4 O (λz9=>absurd z9 (by simp[*])) λz9=>A3<|C6 O<|C4 O (λz10=>absurd z10 (by simp[*])) λz10=>A3<|C6 O<|C4 O (λz11=>absurd z11 (by simp[*])) λz11=>A3 ?_;refine C6 O<|C4 O (λz12=>absurd z12 (by simp[*])) λz12=>A3<|C6 O<|C4 O (λz13=>absurd z13 (by simp[*])) λz13=>A3<|C6 O<|C4 O (λz14=>absurd z14 (by simp[*])) λz14=>A3<|C6 O<|C4 O (λz15=>absurd z15 (by simp[*])) λz15=>A3<|C6 O<|C4 O (λz16=>?_) (λz16=>?_);refine C5<|A4 O<|G6 0 O O<|P0 [.B1 gz0 Q1 (P4 ⟨15,a,q,node⟩).toArray] hC hG hz O (A7 O) O O λz1 hz1=>H6<|F4<|K7 O λw9 ho9=>?_;rotate_left;contradiction;exact⟨z1,rfl,hz1,_,_,ho9.sublist (L9 ..)⟩
theorem rE(w0:B6)(e:T4)(W:Wt)(m:Mc)(a b node:Int)(G5:List Vl):Y5 w0 e m 39 (λg=> #[.pointer (some ⟨g,0,none⟩),u0 ⟨18,a,b,node⟩]) (Q6 W e.has G5 ⟨18,a,b,node⟩ m) (.tuple #[]):=by
 intro g z w hz hb hU ho;refine G7 ho Dl O Dm O ?_;have hG:=k6 hb hU;rw[lS rfl];have hC:=UP w0 e m 0 (-1) H4;refine A3<|F0 O λgz0=>I0<|B2 0 O<|A6<|C7<|B5<|C6 O<|C4 O (λz1=>absurd z1 (by simp[*])) λz1=>C5<|C6 O<|C4 O (λz2=>absurd z2 (by simp[*])) λz2=>A3<|C6 O<|C4 O (λz3=>absurd z3 (by simp[*])) λz3=>B5<|C6 O<|C4 O (λz4=>absurd z4 (by simp[*])) λz4=>C5<|C6 O<|C4 O (λz5=>absurd z5 (by simp[*])) λz5=>A3<|C6 O<|C4 O (λz6=>absurd z6 (by simp[*])) λz6=>A3<|C6 O<|C4 O (λz7=>absurd z7 (by simp[*])) λz7=>A3<|C6 O<|C4 O (λz8=>absurd z8 (by simp[*])) λz8=>A3<|C6 O<|C4 O (λz9=>absurd z9 (by simp[*])) λz9=>A3<|C6 O<|C4 O (λz10=>absurd z10 (by simp[*])) λz10=>A3<|C6 O<|C4 O (λz11=>absurd z11 (by simp[*])) λz11=>A3 ?_;exact C6 O<|C4 O (λz12=>absurd z12 (by simp[*])) λz12=>A3<|C6 O<|C4 O (λz13=>absurd z13 (by simp[*])) λz13=>A3<|C6 O<|C4 O (λz14=>absurd z14 (by simp[*])) λz14=>A3<|C6 O<|C4 O (λz15=>absurd z15 (by simp[*])) λz15=>A3<|C6 O<|C4 O (λz16=>absurd z16 (by simp[*])) λz16=>A3<|C6 O<|C4 O (λz17=>absurd z17 (by simp[*])) λz17=>A3<|C6 O<|C4 O (λz18=>absurd z18 (by simp[*])) λz18=>C5<|A4 O<|B9 (O7 (D8 H4) Bc O) O<|P0 [.B1 gz0 Q1 (P4 ⟨18,a,b,node⟩).toArray] hC hG hz O (A7 O) O O λz1 hz1=>H6<|F4<|K7 O λw9 ho9=>⟨z1,rfl,hz1,_,_,ho9.sublist (L9 ..)⟩
theorem ay5(w0:B6)(e:T4)(W:Wt)(m:Mc)(q:Nat)(b node:Int)(G5:List Vl):Y5 w0 e m 39 (λg=> #[.pointer (some ⟨g,0,none⟩),u0 ⟨9,q,b,node⟩]) (Q6 W e.has G5 ⟨9,q,b,node⟩ m) (.tuple #[]):=by
 intro g z w hz hb hU ho;refine G7 ho Dl O Dm O ?_;rw[Ya rfl];simp only[Cm];refine A3<|F0 O λgz0=>I0<|B2 0 O<|A6<|C7<|B5<|C6 O<|C4 O (λz1=>absurd z1 (by simp[*])) λz1=>C5<|C6 O<|C4 O (λz2=>absurd z2 (by simp[*])) λz2=>A3<|C6 O<|C4 O (λz3=>absurd z3 (by simp[*])) λz3=>B5<|C6 O<|C4 O (λz4=>absurd z4 (by simp[*])) λz4=>C5<|C6 O<|C4 O (λz5=>absurd z5 (by simp[*])) λz5=>A3<|C6 O<|C4 O (λz6=>absurd z6 (by simp[*])) λz6=>A3<|C6 O<|C4 O (λz7=>absurd z7 (by simp[*])) λz7=>A3<|C6 O<|C4 O (λz8=>absurd z8 (by simp[*])) λz8=>A3<|C6 O<|C4 O (λz9=>absurd z9 (by simp[*])) λz9=>A3<|C6 O<|C4 O (λz10=>?_) (λz10=>?_);refine C5<|A4 O<|B2 0 O<|E5 O<|D9 O<|N4 1 O<|H6<|F4<|K7 O λw9 ho9=>?_;rotate_left;contradiction;exact⟨z,rfl,hz,_,_,ho9.sublist (L9 ..)⟩
end
theorem Hd.K6{w w':B6}{gc:Nat}{B8:Int}{M:Cd}(h:Hd w gc B8 M)(hb:Below w.heap.size w w'):Hd w' gc B8 M:=by
 obtain⟨u,iv,vv,f,hi,h1,h2,h3⟩:=h;exact⟨u,iv,vv,f,hi,TL h1 hb,h2.K6 hb,h3.K6 hb⟩
def Jr(A:List C2)(q:Nat)(H0 H1:List C2)(lst:Nat->Bool)(vs:Nat->Value):List C2:=A++if lst q then H1 else H0
section
variable{P:Program}{n:Nat}{E:List (Nat×Value)}{C:I3}{ops:Array Oper}{S:List L0}
variable{A H0 H1:List C2}{p q:Nat}{o:Oper}
theorem oF(hd:o.dst.isSome=true)(hpq:q≠p)(h0:∀(lst:Nat->Bool) (vs:Nat->Value),Bk P n (U1 ops S vs (M4 o) E) C (A++H0) (X5 S vs (M4 o)) o (M9 S p))
  (h1:∀(lst:Nat->Bool) (vs:Nat->Value),Bk P n (U1 ops S vs (M4 o) E) C (A++H1) (X5 S vs (M4 o)) o (M9 S p)):Bx P n E C (Jr A q H0 H1) ops S p o/\(o.dst=none->M9 S p=j2):=
 F7 hd (λlst vs hl he=>by
  unfold Jr;split
  ·exact h1 lst vs
  ·exact h0 lst vs) (λlst vs u=>by unfold Jr;rw[VK hpq])
theorem Xs{f:FuncId}{args:J2}{v:Value}(hd:o.dst.isSome=true)(hS:M9 S q=.val v)(he:∀vs,f0 P n (U1 ops S vs (M4 o) E) C (H0++A) o f args)(hc:∀w,B7 (J1 w H0) H0 w->Calls P f args w λe w'=>e=.returned v/\O0 w (λk=>k∈F1 H0) H1 w'):
  Bx P n E C (Jr A q H0 H1) ops S q o/\(o.dst=none->M9 S q=j2):=
 lP A H0 H1 hd hS (λlst vs h=>by unfold Jr;rw[h];rfl) (λlst vs u=>by unfold Jr;rw[kR];rfl) he (λw _ ho=>hc w ho)
end
section
variable{w0:World}{e:T4}{W:Wt}{M:Cd}{B8:Int}{m:Mc}
theorem vO(hE:ER w0 e W M B8)(k:Nat)(hk:k<M.G5.length)(b node:Int)(hl:m.stack.length<=90000)(hlf:m.left<=100000):Y5 w0 e m 39 (λg=> #[.pointer (some ⟨g,0,none⟩),u0 ⟨0,k,b,node⟩]) (Q6 W e.has M.G5 ⟨0,k,b,node⟩ m) (.tuple #[]):=by
 intro g z w hz hb hU ho;refine G7 ho Dl O Dm O ?_;have hG:=k6 hb hU;rw[ZL rfl];simp only[Cm];by_cases h0:m.left=0
 ·rw[if_pos h0];have hY:=NP w0 e m node h0;refine A3<|F0 O λgz0=>I0<|B2 0 O<|A6<|C7<|B5<|C6 O<|C4 O (λz1=>?_) (λz1=>?_);refine D6<|E7 O (by assumption)<|B5<|A4 O<|B2 0 O<|P0 [.B1 gz0 Q1 (P4 ⟨0,k,b,node⟩).toArray] hY hG hz O (A7 O) O O λz1 hz1=>J7 O<|A6<|R1 O<|D4<|K0<|DO<|Ct O O λw9 ho9=>?_;rotate_left;contradiction;exact⟨z1,rfl,hz1,_,_,ho9.sublist (L9 ..)⟩
 rw[if_neg h0];have hY:=RV w0 e m node h0 hlf;have hx:M.G5[k]?=some (M.G5.getD k H4):=by rw[W6,T8 hk];rfl
 generalize M.G5.getD k H4=v at hx⊢;have hQ:=UD w0 e {m with left:=m.left-1} v hl;obtain⟨at_,left,stack,C0,lists,counts,edits,code,nod,val,ended⟩:=m;dsimp only at hY hQ⊢;refine A3<|F0 O λgz0=>I0<|B2 0 O<|A6<|C7<|B5<|C6 O<|C4 O (λz1=>?_) (λz1=>?_);refine D6<|E7 O (by assumption)<|B5<|A4 O<|B2 0 O<|P0 [.B1 gz0 Q1 (P4 ⟨0,k,b,node⟩).toArray] hY hG hz O (A7 O) O O λz1 hz1=>J7 O<|A6<|M8 O<|D6<|B5<|B2 0 O<|H5 O<|A6<|E0 O (by omega)<|D6<|C8 ?_;rotate_left;contradiction;apply Bh 12 [_,_,_,_,_,_,_,_,_,_,QD,j2] (EU (.B1 gz0 Q1 (P4 ⟨0,k,b,node⟩).toArray::O3 g e z1 ⟨at_,left-1,stack,C0,lists,counts,edits,code,nod,val,ended⟩) 10 11 I4 (D8 H4).toArray (D8 v).toArray) (by kernel_rfl) (by kernel_rfl) (by kernel_rfl) (λ_=>k5 _)
 ·refine E9 O (F7 O (λlst vs hl he=>D0 (H8 O)) (λ_ _ _=>rfl))<|E9 O (F7 O (λlst vs hl he=>D0 (N1 O)) (λ_ _ _=>rfl))<|E9 O (F7 O (λlst vs hl he=>D0 (I8 0 O)) (λ_ _ _=>rfl))<|E9 O (F7 O (λlst vs hl he=>D0 (K1 1 O)) (λ_ _ _=>rfl))<|E9 O (F7 O (λlst vs hl he=>D0 (I8 1 O)) (λ_ _ _=>rfl))<|E9 O (F7 O (λlst vs hl he=>D0 (K1 0 O)) (λ_ _ _=>rfl))<|E9 O (F7 O (λlst vs hl he=>IZ (A7 O) (λw ho _=>uO e.gc B8 M k v w (hE.code.K6 (ho.mw hG)) hx)) (λ_ _ _=>rfl))<|E9 O (F7 O (λlst vs hl he=>D0 (H8 O)) (λ_ _ _=>rfl))<|E9 O (F7 O (λlst vs hl he=>D0 (HO O O)) (λ_ _ _=>rfl))<|E9 O (F7 O (λlst vs hl he=>D0 (HO O O)) (λ_ _ _=>rfl))<|E9 O (VJ O (by decide) RE)<|E9 O (gJ O O (by decide) (by decide) (by kernel_rfl) (λ_=>rfl) (λ_=>rfl) O O) ?_;exact Bf
 ·(repeat(first|exact trivial|exact(λ_ _ _ h=>h)|refine⟨trivial,?_⟩|refine⟨λ_ _ _ h=>h,?_⟩))
 ·intro vs w1 hx1;obtain⟨b4,hvb⟩:=BG (i:=10) rfl hx1 (by decide);refine kX hvb O O<|Ai (E':=[(0,.pointer (some ⟨g,0,none⟩)),(4,.pointer (some ⟨b4,0,none⟩)),(41,.bool true)]) ⟨rfl,by rw[<-hvb];rfl,rfl,trivial⟩<|A5 O<|C5<|A4 O<|G6 0 O O<|P0 [.B1 b4 I4 (D8 v).toArray,.B1 gz0 Q1 (P4 ⟨0,k,b,node⟩).toArray] hQ hG hz1 O (A7 O) O O λz2 hz2=>H6<|F4<|K7 O λw9 ho9=>?_;rotate_left;exact⟨z2,rfl,hz2,_,_,ho9.sublist (.cons _ (L9 ..))⟩
theorem ap2(w0:B6)(e:T4)(W:Wt)(m:Mc)(k:Nat)(hk:k<m.C0.length)(b node:Int)(hl:m.stack.length<=90000)(hlf:m.left<=100000)(G5:List Vl):Y5 w0 e m 39 (λg=> #[.pointer (some ⟨g,0,none⟩),u0 ⟨1,k,b,node⟩]) (Q6 W e.has G5 ⟨1,k,b,node⟩ m) (.tuple #[]):=by
 intro g z w hz hb hU ho;refine G7 ho Dl O Dm O ?_;have hG:=k6 hb hU;rw[kE rfl];simp only[Cm];by_cases h0:m.left=0
 ·rw[if_pos h0];have hY:=NP w0 e m node h0;refine A3<|F0 O λgz0=>I0<|B2 0 O<|A6<|C7<|B5<|C6 O<|C4 O (λz1=>absurd z1 (by simp[*])) λz1=>C5<|C6 O<|C4 O (λz2=>?_) (λz2=>?_);refine B5<|A4 O<|B2 0 O<|P0 [.B1 gz0 Q1 (P4 ⟨1,k,b,node⟩).toArray] hY hG hz O (A7 O) O O λz1 hz1=>J7 O<|A6<|R1 O<|D4<|K0<|DO<|Ct O O λw9 ho9=>?_;rotate_left;contradiction;exact⟨z1,rfl,hz1,_,_,ho9.sublist (L9 ..)⟩
 rw[if_neg h0];have hY:=kN e m node h0 hlf g z;have hx:m.C0[k]?=some (m.C0.getD k H4):=by rw[W6,T8 hk];rfl
 generalize m.C0.getD k H4=v at hx⊢;have hQ:=UD w0 e {m with left:=m.left-1} v hl;obtain⟨at_,left,stack,C0,lists,counts,edits,code,nod,val,ended⟩:=m;dsimp only at hY hQ hx hk⊢;obtain⟨sv,T6,lv,cv,ls⟩:=z;refine R7 2 O ?_;rintro⟨_,⟨_,h00⟩|⟨gs,cs,hslv⟩⟩
 ·dsimp only at h00;omega
 dsimp only at hslv;subst hslv;refine A3<|F0 O λgz0=>I0<|B2 0 O<|A6<|C7<|B5<|C6 O<|C4 O (λz1=>absurd z1 (by simp[*])) λz1=>C5<|C6 O<|C4 O (λz2=>?_) (λz2=>?_);refine B5<|A4 O<|B2 0 O<|Pz [.B1 gz0 Q1 (P4 ⟨1,k,b,node⟩).toArray] hY O (A7 O) O O<|J7 O<|A6<|M8 O<|D6<|B5<|B2 0 O<|H5 O<|A6<|E7 O (by assumption)<|C8 ?_;rotate_left;contradiction;apply BL 9 [_,_,_,_,_,_,_,_,_] (by kernel_rfl) (by kernel_rfl) (by kernel_rfl)
 ·refine D5 O (λvs=>H8 O)<|D5 O (λvs=>H8 O)<|D5 O (λvs=>N1 O)<|D5 O (λvs=>I8 6 O)<|D5 O (λvs=>K1 1 O)<|D5 O (λvs=>I8 1 O)<|D5 O (λvs=>K1 0 O)<|D5 O (λvs=>En 3 k O hk)<|D5 O (λvs=>Ip (vs:=D8 v) (by kernel_rfl) O (λw' ho=>X7 Hh ho (q:=3) rfl hx)) ?_;exact l6
 ·(repeat(first|exact trivial|exact(λ_ _ _ h=>h)|refine⟨trivial,?_⟩|refine⟨λ_ _ _ h=>h,?_⟩))
 ·intro vs1;refine P0 [.B1 gz0 Q1 (P4 ⟨1,k,b,node⟩).toArray] hQ hG hz O (A7 O) O O λz2 hz2=>A6<|D4<|K0<|DO<|Ct O O λw9 ho9=>?_;rotate_left;exact⟨z2,rfl,hz2,_,_,ho9.sublist (L9 ..)⟩
theorem aa3(w0:B6)(e:T4)(W:Wt)(m:Mc)(k:Nat)(hk:k<m.C0.length)(b node:Int){S:List Vl}{v:Vl}(hS:m.stack=S++[v])(hl:m.stack.length<=90001)(G5:List Vl):Y5 w0 e m 39 (λg=> #[.pointer (some ⟨g,0,none⟩),u0 ⟨2,k,b,node⟩]) (Q6 W e.has G5 ⟨2,k,b,node⟩ m) (.tuple #[]):=by
 intro g z w hz hb hU ho;refine G7 ho Dl O Dm O ?_;have hG:=k6 hb hU;have e9:Q6 W e.has G5 ⟨2,k,b,node⟩ m={m with stack:=S,C0:=m.C0.set k v}:=by
  rw[fH rfl];simp[O9,X6,hS]
 rw[e9];have hP:=Qo e m hS hl g z;obtain⟨at_,left,stack,C0,lists,counts,edits,code,nod,val,ended⟩:=m;dsimp only at hP hk⊢;obtain⟨sv,T6,lv,cv,ls⟩:=z;refine R7 2 O ?_;rintro⟨_,⟨_,h00⟩|⟨gs,cs,hslv⟩⟩
 ·dsimp only at h00;omega
 dsimp only at hslv hP;subst hslv;have hsz:0+k*3+3<=C0.length*3:=by omega
 refine A3<|F0 O λgz0=>I0<|B2 0 O<|A6<|C7<|B5<|C6 O<|C4 O (λz1=>absurd z1 (by simp[*])) λz1=>C5<|C6 O<|C4 O (λz2=>absurd z2 (by simp[*])) λz2=>A3<|C6 O<|C4 O (λz3=>?_) (λz3=>?_);rotate_left;contradiction;apply Bh 8 [_,_,_,_,_,_,_,.val (O6 v)] (Jr [.B1 gz0 Q1 (P4 ⟨2,k,b,node⟩).toArray] 7 (O3 g e ⟨sv,.slice (some ⟨gs,0,none⟩) C0.length cs,lv,cv,ls⟩ ⟨at_,left,stack,C0,lists,counts,edits,code,nod,val,ended⟩) (O3 g e ⟨AZ S.length sv,.slice (some ⟨gs,0,none⟩) C0.length cs,lv,cv,ls⟩ ⟨at_,left,S,C0,lists,counts,edits,code,nod,val,ended⟩)) (by kernel_rfl) (by kernel_rfl) (by kernel_rfl) (λ_=>rfl)
 ·refine E9 O (F7 O (λlst vs hl he=>D0 (H8 O)) (λ_ _ _=>rfl))<|E9 O (F7 O (λlst vs hl he=>D0 (N1 O)) (λ_ _ _=>rfl))<|E9 O (F7 O (λlst vs hl he=>D0 (I8 6 O)) (λ_ _ _=>rfl))<|E9 O (oF O (by decide) (λlst vs=>D0 (K1 1 O)) (λlst vs=>D0 (K1 1 O)))<|E9 O (F7 O (λlst vs hl he=>D0 (I8 1 O)) (λ_ _ _=>rfl))<|E9 O (F7 O (λlst vs hl he=>D0 (K1 0 O)) (λ_ _ _=>rfl))<|E9 O (F7 O (λlst vs hl he=>D0 (H8 O)) (λ_ _ _=>rfl))<|E9 O (Xs O O (λvs=>A7 O) hP) ?_;exact Bf
 ·(repeat(first|exact trivial|exact(λ_ _ _ h=>h)|refine⟨trivial,?_⟩|refine⟨λ_ _ _ h=>h,?_⟩))
 ·intro vs1 w1 hx1;refine x4 (H':=[.B1 gz0 Q1 (P4 ⟨2,k,b,node⟩).toArray]++O3 g e ⟨AZ S.length sv,.slice (some ⟨gs,0,none⟩) C0.length cs,lv,cv,ls⟩ ⟨at_,left,S,C0,lists,counts,edits,code,nod,val,ended⟩) O (λw ho=>ho)<|Q4 (j:=k) O hk<|fY (i:=3) (vs:=(D8 v).toArray) (by kernel_rfl) O O O O hsz<|H6<|F4<|K7 O λw9 ho9=>?_;rotate_left;rw[Vc hk] at ho9;refine⟨⟨AZ S.length sv,.slice (some ⟨gs,0,none⟩) C0.length cs,lv,cv,ls⟩,rfl,hz,?_⟩;have e1:O3 g e ⟨AZ S.length sv,.slice (some ⟨gs,0,none⟩) C0.length cs,lv,cv,ls⟩ ⟨at_,left,S,C0.set k v,lists,counts,edits,code,nod,val,ended⟩=.B1 g CW (Ez e ⟨AZ S.length sv,.slice (some ⟨gs,0,none⟩) C0.length cs,lv,cv,ls⟩ ⟨at_,left,S,C0,lists,counts,edits,code,nod,val,ended⟩)::.row (AZ S.length sv) I4 3 S.length (P8 S)::.row (.slice (some ⟨gs,0,none⟩) C0.length cs) I4 3 C0.length (P8 (C0.set k v))::.row lv t7 1 lists.length (ls.map n5)::.row cv S7 1 counts.length (y7 counts)::.obj e.gh (P2 (R0 e.has))::.obj e.ge (P2 (R0 edits))::ls.map Bd:=by
   unfold O3;dsimp only;rw[Kg];rfl
  rw[e1];exact⟨_,_,ho9.sublist (L9 ..)⟩
theorem ah3(w0:B6)(e:T4)(W:Wt)(m:Mc)(a b node:Int){S:List Vl}{v:Vl}(hS:m.stack=S++[v])(hl:m.stack.length<=90001)(G5:List Vl):Y5 w0 e m 39 (λg=> #[.pointer (some ⟨g,0,none⟩),u0 ⟨6,a,b,node⟩]) (Q6 W e.has G5 ⟨6,a,b,node⟩ m) (.tuple #[]):=by
 intro g z w hz hb hU ho;refine G7 ho Dl O Dm O ?_;have hG:=k6 hb hU;have e9:Q6 W e.has G5 ⟨6,a,b,node⟩ m=if v.kind≠1 then V7 10 node H4 m else m:=by
  rw[ZA rfl];simp[X6,hS]
 rw[e9];have hlen:m.stack.length=S.length+1:=by rw[hS];simp
 have hat:m.stack[S.length]?=some v:=by rw[hS,j4 (L6 _),JH];rfl
 have hF:=FV w0 e m 10 node;rw[HJ (by decide)] at hF;obtain⟨at_,left,stack,C0,lists,counts,edits,code,nod,val,ended⟩:=m;dsimp only at hF hl hlen hat⊢;obtain⟨sv,T6,lv,cv,ls⟩:=z;refine R7 1 O ?_;rintro⟨_,⟨_,h00⟩|⟨gs,cp,hsv⟩⟩
 ·dsimp only at h00;omega
 dsimp only at hsv;subst hsv;have hi1:(stack.length:Int)-1=(S.length:Int):=by omega
 have hlt:S.length<stack.length:=by omega
 refine A3<|F0 O λgz0=>I0<|B2 0 O<|A6<|C7<|B5<|C6 O<|C4 O (λz1=>absurd z1 (by simp[*])) λz1=>C5<|C6 O<|C4 O (λz2=>absurd z2 (by simp[*])) λz2=>A3<|C6 O<|C4 O (λz3=>absurd z3 (by simp[*])) λz3=>B5<|C6 O<|C4 O (λz4=>absurd z4 (by simp[*])) λz4=>C5<|C6 O<|C4 O (λz5=>absurd z5 (by simp[*])) λz5=>A3<|C6 O<|C4 O (λz6=>absurd z6 (by simp[*])) λz6=>A3<|C6 O<|C4 O (λz7=>?_) (λz7=>?_);refine C8 ?_;rotate_left;contradiction;apply BL 14 [_,_,_,_,_,_,_,_,_,_,_,_,_,_] (by kernel_rfl) (by kernel_rfl) (by kernel_rfl)
 ·refine D5 O (λvs=>H8 O)<|D5 O (λvs=>N1 O)<|D5 O (λvs=>I8 5 O)<|D5 O (λvs=>K1 1 O)<|D5 O (λvs=>H8 O)<|D5 O (λvs=>N1 O)<|D5 O (λvs=>I8 5 O)<|D5 O (λvs=>K1 1 O)<|D5 O (λvs=>KG (by kernel_rfl) O)<|D5 O (λvs=>hi1▸DA rfl rfl (by omega))<|D5 O (λvs=>En 3 (S.length) O hlt)<|D5 O (λvs=>I8 0 O)<|D5 O (λvs=>AI (v:=.int .i64 v.kind) O (λw' ho=>by have h:=X7 Hh ho (q:=2) rfl hat 0 _ rfl;rw[Fi] at h;exact h))<|D5 O (λvs=>Yk O O) ?_;exact l6
 ·(repeat(first|exact trivial|exact(λ_ _ _ h=>h)|refine⟨trivial,?_⟩|refine⟨λ_ _ _ h=>h,?_⟩))
 ·intro vs1;by_cases hk:v.kind=1
  ·rw[if_neg (λh=>h hk)];refine A6<|E0 O (by omega)<|P5<|F4<|K7 O λw9 ho9=>?_;rotate_left;exact⟨⟨.slice (some ⟨gs,0,none⟩) stack.length cp,T6,lv,cv,ls⟩,rfl,hz,_,_,ho9.sublist (L9 ..)⟩
  ·rw[if_pos hk];refine A6<|E7 O (by exact hk)<|C5<|A4 O<|B2 0 O<|P0 [.B1 gz0 Q1 (P4 ⟨6,a,b,node⟩).toArray] hF hG hz O (A7 O) O O λz1 hz1=>H6<|F4<|K7 O λw9 ho9=>?_;rotate_left;exact⟨z1,rfl,hz1,_,_,ho9.sublist (L9 ..)⟩
theorem ay0(w0:B6)(e:T4)(W:Wt)(m:Mc)(k:Nat)(b node:Int)(hl:m.counts.length<=90001)(G5:List Vl):Y5 w0 e m 39 (λg=> #[.pointer (some ⟨g,0,none⟩),u0 ⟨14,k,b,node⟩]) (Q6 W e.has G5 ⟨14,k,b,node⟩ m) (.tuple #[]):=by
 intro g z w hz hb hU ho;refine G7 ho Dl O Dm O ?_;have hG:=k6 hb hU;rw[jN rfl];simp only[Cm];refine A3<|F0 O λgz0=>I0<|B2 0 O<|A6<|C7<|B5<|C6 O<|C4 O (λz1=>absurd z1 (by simp[*])) λz1=>C5<|C6 O<|C4 O (λz2=>absurd z2 (by simp[*])) λz2=>A3<|C6 O<|C4 O (λz3=>absurd z3 (by simp[*])) λz3=>B5<|C6 O<|C4 O (λz4=>absurd z4 (by simp[*])) λz4=>C5<|C6 O<|C4 O (λz5=>absurd z5 (by simp[*])) λz5=>A3<|C6 O<|C4 O (λz6=>absurd z6 (by simp[*])) λz6=>A3<|C6 O<|C4 O (λz7=>absurd z7 (by simp[*])) λz7=>A3<|C6 O<|C4 O (λz8=>absurd z8 (by simp[*])) λz8=>A3<|C6 O<|C4 O (λz9=>absurd z9 (by simp[*])) λz9=>A3<|C6 O<|C4 O (λz10=>absurd z10 (by simp[*])) λz10=>A3<|C6 O<|C4 O (λz11=>absurd z11 (by simp[*])) λz11=>A3 ?_;refine C6 O<|C4 O (λz12=>absurd z12 (by simp[*])) λz12=>A3<|C6 O<|C4 O (λz13=>absurd z13 (by simp[*])) λz13=>A3<|C6 O<|C4 O (λz14=>absurd z14 (by simp[*])) λz14=>A3<|C6 O<|C4 O (λz15=>?_) (λz15=>?_);rotate_left;contradiction;apply Bh 9 [_,_,_,_,_,_,_,.rel λu _=>∃gl,u=e6 gl 1,.rel λu _=>u.oneCell'=true] (Dq [.B1 gz0 Q1 (P4 ⟨14,k,b,node⟩).toArray,.B1 g CW (Ez e z m),.row z.sv I4 3 m.stack.length (P8 m.stack),.row z.T6 I4 3 m.C0.length (P8 m.C0),.row z.lv t7 1 m.lists.length (z.ls.map n5)] (.obj e.gh (P2 (R0 e.has))::.obj e.ge (P2 (R0 m.edits))::z.ls.map Bd) 7 8 z.cv S7 1 m.counts.length (y7 m.counts) [.int .i64 (k:Int)]) (by kernel_rfl) (by kernel_rfl) (by kernel_rfl) (λ_=>by simp[Dq,O3])
 ·refine E9 O (F7 O (λlst vs hl he=>D0 (H8 O)) (λ_ _ _=>rfl))<|E9 O (F7 O (λlst vs hl he=>D0 (H8 O)) (λ_ _ _=>rfl))<|E9 O (F7 O (λlst vs hl he=>D0 (N1 O)) (λ_ _ _=>rfl))<|E9 O (F7 O (λlst vs hl he=>D0 (I8 8 O)) (λ_ _ _=>rfl))<|E9 O (F7 O (λlst vs hl he=>D0 (K1 1 O)) (λ_ _ _=>rfl))<|E9 O (F7 O (λlst vs hl he=>D0 (I8 1 O)) (λ_ _ _=>rfl))<|E9 O (F7 O (λlst vs hl he=>D0 (K1 0 O)) (λ_ _ _=>rfl))<|E9 O (Sj (w0:=.int .i64 (k:Int)) O (by decide) (by kernel_rfl) (λvs=>rfl) O O O)<|E9 O (TO (by':=8) O O (by decide) (by decide) (by kernel_rfl) (λvs=>rfl) (λvs=>rfl) O (Gy rfl) (by simp only[maxLen];omega)) ?_;exact Bf
 ·(repeat(first|exact trivial|exact(λ_ _ _ h=>h)|refine⟨trivial,?_⟩|refine⟨λ_ _ _ h=>h,?_⟩))
 ·intro vs w1 hx;obtain⟨gl,hgl⟩:=BG (i:=7) rfl hx (by decide);have h7:=BG (i:=8) rfl hx (by decide);refine x4 (H':=.B1 gz0 Q1 (P4 ⟨14,k,b,node⟩).toArray::.B1 g CW (Ez e z m)::.row z.sv I4 3 m.stack.length (P8 m.stack)::.row z.T6 I4 3 m.C0.length (P8 m.C0)::.row z.lv t7 1 m.lists.length (z.ls.map n5)::.row (vs 8) S7 1 (m.counts.length+1) (y7 m.counts++[.int .i64 (k:Int)])::.obj e.gh (P2 (R0 e.has))::.obj e.ge (P2 (R0 m.edits))::z.ls.map Bd) O (λw ho=>by
   unfold Dq at ho;rw[hgl] at ho;exact ho.sublist (.cons_cons _ (.cons_cons _ (.cons_cons _ (.cons_cons _ (.cons_cons _ (.cons_cons _ (HB _ _)))))))) ?_
  refine Ai (E':=[(132,.pointer (some ⟨g,0,none⟩)),(140,vs 8)]) ⟨rfl,rfl,trivial⟩ ?_;generalize vs 8=v7 at h7⊢;refine E5 O<|D9 O<|Ce (i:=1) (by kernel_rfl) O O (by assumption) O O<|H6<|F4<|K7 O λw9 ho9=>?_;rotate_left;refine⟨{z with cv:=v7},rfl,hz,?_⟩;have e1:O3 g e {z with cv:=v7} {m with counts:=m.counts++[k]}=.B1 g CW (Ez e {z with cv:=v7} m)::.row z.sv I4 3 m.stack.length (P8 m.stack)::.row z.T6 I4 3 m.C0.length (P8 m.C0)::.row z.lv t7 1 m.lists.length (z.ls.map n5)::.row v7 S7 1 (m.counts.length+1) (y7 m.counts++[.int .i64 (k:Int)])::.obj e.gh (P2 (R0 e.has))::.obj e.ge (P2 (R0 m.edits))::z.ls.map Bd:=by
   unfold O3;dsimp only;rw[J8,y7,Bu];rfl
  rw[e1];exact⟨_,_,ho9.sublist (L9 ..)⟩
theorem rK(w0:B6)(e:T4)(W:Wt)(m:Mc)(a b node:Int){S:List Vl}{v:Vl}(hS:m.stack=S++[v])(hl:m.stack.length<=90001)(G5:List Vl):Y5 w0 e m 39 (λg=> #[.pointer (some ⟨g,0,none⟩),u0 ⟨16,a,b,node⟩]) (Q6 W e.has G5 ⟨16,a,b,node⟩ m) (.tuple #[]):=by
 intro g z w hz hb hU ho;refine G7 ho Dl O Dm O ?_;have hG:=k6 hb hU;have e9:Q6 W e.has G5 ⟨16,a,b,node⟩ m=V7 12 node v {m with stack:=S}:=by
  rw[Yx rfl];simp[O9,X6,hS]
 rw[e9];have hP:=Qo e m hS hl g z;have hC:=UP w0 e {m with stack:=S} 12 node v;refine A3<|F0 O λgz0=>I0<|B2 0 O<|A6<|C7<|B5<|C6 O<|C4 O (λz1=>absurd z1 (by simp[*])) λz1=>C5<|C6 O<|C4 O (λz2=>absurd z2 (by simp[*])) λz2=>A3<|C6 O<|C4 O (λz3=>absurd z3 (by simp[*])) λz3=>B5<|C6 O<|C4 O (λz4=>absurd z4 (by simp[*])) λz4=>C5<|C6 O<|C4 O (λz5=>absurd z5 (by simp[*])) λz5=>A3<|C6 O<|C4 O (λz6=>absurd z6 (by simp[*])) λz6=>A3<|C6 O<|C4 O (λz7=>absurd z7 (by simp[*])) λz7=>A3<|C6 O<|C4 O (λz8=>absurd z8 (by simp[*])) λz8=>A3<|C6 O<|C4 O (λz9=>absurd z9 (by simp[*])) λz9=>A3<|C6 O<|C4 O (λz10=>absurd z10 (by simp[*])) λz10=>A3<|C6 O<|C4 O (λz11=>absurd z11 (by simp[*])) λz11=>A3 ?_;refine C6 O<|C4 O (λz12=>absurd z12 (by simp[*])) λz12=>A3<|C6 O<|C4 O (λz13=>absurd z13 (by simp[*])) λz13=>A3<|C6 O<|C4 O (λz14=>absurd z14 (by simp[*])) λz14=>A3<|C6 O<|C4 O (λz15=>absurd z15 (by simp[*])) λz15=>A3<|C6 O<|C4 O (λz16=>absurd z16 (by simp[*])) λz16=>A3<|C6 O<|C4 O (λz17=>?_) (λz17=>?_);rotate_left;contradiction;apply Bh 5 [_,_,_,_,.val (O6 v)] (Jr [.B1 gz0 Q1 (P4 ⟨16,a,b,node⟩).toArray] 4 (O3 g e z m) (O3 g e {z with sv:=AZ S.length z.sv} {m with stack:=S})) (by kernel_rfl) (by kernel_rfl) (by kernel_rfl) (λ_=>rfl)
 ·refine E9 O (F7 O (λlst vs hl he=>D0 (H8 O)) (λ_ _ _=>rfl))<|E9 O (F7 O (λlst vs hl he=>D0 (I8 3 O)) (λ_ _ _=>rfl))<|E9 O (F7 O (λlst vs hl he=>D0 (K1 0 O)) (λ_ _ _=>rfl))<|E9 O (F7 O (λlst vs hl he=>D0 (H8 O)) (λ_ _ _=>rfl))<|E9 O (Xs O O (λvs=>A7 O) hP) ?_;exact Bf
 ·(repeat(first|exact trivial|exact(λ_ _ _ h=>h)|refine⟨trivial,?_⟩|refine⟨λ_ _ _ h=>h,?_⟩))
 ·intro vs1 w1 hx1;refine x4 (H':=[.B1 gz0 Q1 (P4 ⟨16,a,b,node⟩).toArray]++O3 g e {z with sv:=AZ S.length z.sv} {m with stack:=S}) O (λw ho=>ho)<|P0 [.B1 gz0 Q1 (P4 ⟨16,a,b,node⟩).toArray] hC hG (show HV {z with sv:=AZ S.length z.sv} {m with stack:=S} from hz) O (A7 O) O O λz1 hz1=>H6<|F4<|K7 O λw9 ho9=>?_;rotate_left;exact⟨z1,rfl,hz1,_,_,ho9.sublist (L9 ..)⟩
theorem mV(w0:B6)(e:T4)(W:Wt)(m:Mc)(a b node:Int){S:List Vl}{v:Vl}(hS:m.stack=S++[v])(hl:m.stack.length<=90001)(G5:List Vl):Y5 w0 e m 39 (λg=> #[.pointer (some ⟨g,0,none⟩),u0 ⟨17,a,b,node⟩]) (Q6 W e.has G5 ⟨17,a,b,node⟩ m) (.tuple #[]):=by
 intro g z w hz hb hU ho;refine G7 ho Dl O Dm O ?_;have hG:=k6 hb hU;have e9:Q6 W e.has G5 ⟨17,a,b,node⟩ m=V7 0 node v {m with stack:=S}:=by
  rw[Zf rfl];simp[O9,X6,hS]
 rw[e9];have hP:=Qo e m hS hl g z;have hC:=UP w0 e {m with stack:=S} 0 node v;refine A3<|F0 O λgz0=>I0<|B2 0 O<|A6<|C7<|B5<|C6 O<|C4 O (λz1=>absurd z1 (by simp[*])) λz1=>C5<|C6 O<|C4 O (λz2=>absurd z2 (by simp[*])) λz2=>A3<|C6 O<|C4 O (λz3=>absurd z3 (by simp[*])) λz3=>B5<|C6 O<|C4 O (λz4=>absurd z4 (by simp[*])) λz4=>C5<|C6 O<|C4 O (λz5=>absurd z5 (by simp[*])) λz5=>A3<|C6 O<|C4 O (λz6=>absurd z6 (by simp[*])) λz6=>A3<|C6 O<|C4 O (λz7=>absurd z7 (by simp[*])) λz7=>A3<|C6 O<|C4 O (λz8=>absurd z8 (by simp[*])) λz8=>A3<|C6 O<|C4 O (λz9=>absurd z9 (by simp[*])) λz9=>A3<|C6 O<|C4 O (λz10=>absurd z10 (by simp[*])) λz10=>A3<|C6 O<|C4 O (λz11=>absurd z11 (by simp[*])) λz11=>A3 ?_;refine C6 O<|C4 O (λz12=>absurd z12 (by simp[*])) λz12=>A3<|C6 O<|C4 O (λz13=>absurd z13 (by simp[*])) λz13=>A3<|C6 O<|C4 O (λz14=>absurd z14 (by simp[*])) λz14=>A3<|C6 O<|C4 O (λz15=>absurd z15 (by simp[*])) λz15=>A3<|C6 O<|C4 O (λz16=>absurd z16 (by simp[*])) λz16=>A3<|C6 O<|C4 O (λz17=>absurd z17 (by simp[*])) λz17=>A3<|C6 O<|C4 O (λz18=>?_) (λz18=>?_);rotate_left;contradiction;apply Bh 5 [_,_,_,_,.val (O6 v)] (Jr [.B1 gz0 Q1 (P4 ⟨17,a,b,node⟩).toArray] 4 (O3 g e z m) (O3 g e {z with sv:=AZ S.length z.sv} {m with stack:=S})) (by kernel_rfl) (by kernel_rfl) (by kernel_rfl) (λ_=>rfl)
 ·refine E9 O (F7 O (λlst vs hl he=>D0 (H8 O)) (λ_ _ _=>rfl))<|E9 O (F7 O (λlst vs hl he=>D0 (I8 3 O)) (λ_ _ _=>rfl))<|E9 O (F7 O (λlst vs hl he=>D0 (K1 0 O)) (λ_ _ _=>rfl))<|E9 O (F7 O (λlst vs hl he=>D0 (H8 O)) (λ_ _ _=>rfl))<|E9 O (Xs O O (λvs=>A7 O) hP) ?_;exact Bf
 ·(repeat(first|exact trivial|exact(λ_ _ _ h=>h)|refine⟨trivial,?_⟩|refine⟨λ_ _ _ h=>h,?_⟩))
 ·intro vs1 w1 hx1;refine x4 (H':=[.B1 gz0 Q1 (P4 ⟨17,a,b,node⟩).toArray]++O3 g e {z with sv:=AZ S.length z.sv} {m with stack:=S}) O (λw ho=>ho)<|P0 [.B1 gz0 Q1 (P4 ⟨17,a,b,node⟩).toArray] hC hG (show HV {z with sv:=AZ S.length z.sv} {m with stack:=S} from hz) O (A7 O) O O λz1 hz1=>H6<|F4<|K7 O λw9 ho9=>?_;rotate_left;exact⟨z1,rfl,hz1,_,_,ho9.sublist (L9 ..)⟩
end
section
variable{w0:World}{e:T4}{W:Wt}{M:Cd}{mostI:Int}{B8:Nat}{T:Nat->Ty}{m:Mc}{x:f9}
theorem aj2(hE:ER w0 e W M mostI)(hc:Jh B8 M T)(hi:LM B8 T (M.ins.length-1) m)(hx:M.ins[m.at_]?=some x)(hb1:M.ins.length<=80000)(hb2:B8<=80000)(hlf:m.left<=100000):
  Y5 w0 e {m with at_:=m.at_+1} 39 (λg=> #[.pointer (some ⟨g,0,none⟩),u0 x]) (Q6 W e.has M.G5 x {m with at_:=m.at_+1}) (.tuple #[]):=by
 have hok:=hc.ok _ x hx;have htb:=hc.tb m.at_ (N5.1 hx).1;have hpl:=(N5.1 hx).1;unfold Tb at htb;have h1:=hi.stack;have h2:=hi.lists;have h3:=hi.counts;have h4:=hi.C0;have hvs:=hi.vs;have hl:m.stack.length<=90000:=by omega
 have hl2:m.stack.length<=90001:=by omega
 have hls:m.lists.length<=90000:=by omega
 have hls2:m.lists.length<=90001:=by omega
 have hcs:m.counts.length<=90001:=by omega
 have hsb:m.C0.length<=90000:=by omega
 cases hok with
 |const a h d c b j ha h0 _=>exact vO (m:={m with at_:=m.at_+1}) hE a ha b j hl hlf
 |load a h d c b j ha h0 _=>exact ap2 w0 e W {m with at_:=m.at_+1} a (by show a<m.C0.length;omega) b j hl hlf _
 |store a h d c b j ha h0 _=>
  rw[h0] at h1;obtain⟨S,v,hS,_⟩:=y9 h1;exact aa3 w0 e W {m with at_:=m.at_+1} a (by show a<m.C0.length;omega) b j hS hl2 _
 |call k h d c b j hk h0 _=>
  rw[h0] at h1;obtain⟨S,v,hS,_⟩:=y9 h1;exact vM (m:={m with at_:=m.at_+1}) hE hi.es k b j (hvs v (by rw[hS];simp)) hS hl hlf _
 |two a h d c b j ha h0 _=>
  rw[h0] at h1;obtain⟨S1,y,hS,h9⟩:=y9 (n:=h+1) h1;obtain⟨S,v,hS1,_⟩:=y9 h9;rw[hS1] at hS;exact rW w0 e W {m with at_:=m.at_+1} a ha b j (hvs v (by rw[hS];simp)) (hvs y (by rw[hS];simp)) hS hl hlf _
 |both q h d c b j hq h0 _ _=>
  rw[h0] at h1;obtain⟨S,v,hS,_⟩:=y9 h1;exact xP w0 e W {m with at_:=m.at_+1} q b j hS hl2 hlf _
 |XU h d c a b j h0 _=>
  rw[h0] at h1;obtain⟨S,v,hS,_⟩:=y9 h1;exact ah3 w0 e W {m with at_:=m.at_+1} a b j hS hl2 _
 |step h d c a b j h0 _=>exact yW w0 e W {m with at_:=m.at_+1} a b j hlf _
 |UW q h d c b j hq h0 _ _=>
  rw[h0] at h1;obtain⟨S,v,hS,_⟩:=y9 h1;exact ai0 w0 e W {m with at_:=m.at_+1} q b j hS hl2 _
 |jump q h d c b j hq h0 _=>exact ay5 w0 e W {m with at_:=m.at_+1} q b j _
 |put h d c a b j h0 _=>
  rw[h0] at h1;obtain⟨S1,y,hS,h9⟩:=y9 (n:=h+1) h1;obtain⟨S,v,hS1,_⟩:=y9 h9;rw[hS1] at hS;exact at0 (m:={m with at_:=m.at_+1}) hE a b j hS hl2 _
 |del h d c a b j h0 _=>
  rw[h0] at h1;obtain⟨S,v,hS,_⟩:=y9 h1;exact ak4 (m:={m with at_:=m.at_+1}) hE a b j hS hl2 _
 |scan n h d c a j hn h0 _=>
  rw[h0] at h1;obtain⟨S,v,hS,_⟩:=y9 h1;exact wP (m:={m with at_:=m.at_+1}) hE hi.en hi.el a n hn j hS hl2 hls _
 |each a q h d c j ha hq h0 _ _=>
  rw[h0] at h2;obtain⟨A,⟨l,i⟩,hS,_⟩:=y9 h2;have hq2:=hi.ls (l,i) (by rw[hS];simp);exact ax0 w0 e W {m with at_:=m.at_+1} a q j hS hq2.2.2 hls2 (by show a+1<m.C0.length;omega) hsb hlf _
 |turns n h d c b j hn h0 _=>exact ay0 w0 e W {m with at_:=m.at_+1} n b j hcs _
 |again q h d c a j hq h0 _ _=>
  rw[h0] at h3;obtain⟨A,n,hS,_⟩:=y9 h3;have hn:=hi.cs n (by rw[hS];simp);exact qB w0 e W {m with at_:=m.at_+1} a q j hS hcs (by omega) hlf _
 |abort h d c a b j h0=>
  rw[h0] at h1;obtain⟨S,v,hS,_⟩:=y9 h1;exact rK w0 e W {m with at_:=m.at_+1} a b j hS hl2 _
 |ret h d c a b j h0=>
  rw[h0] at h1;obtain⟨S,v,hS,_⟩:=y9 h1;exact mV w0 e W {m with at_:=m.at_+1} a b j hS hl2 _
 |fin a b j hp=>exact rE w0 e W {m with at_:=m.at_+1} a b j _
end
def KQ{α:Type}(L:List α)(vis:List Nat):List α:=vis.filterMap λj=>L[j]?
theorem Zx{α:Type}:∀(L pre:List α),((List.range' pre.length L.length).filterMap λj=>(pre++L)[j]?)=L
 |[],_=>rfl
 |x::L,pre=>by
  have ih:=Zx L (pre++[x]);rw[J8,Q2] at ih;rw[T3,Ng,List.filterMap_cons,j4 (L6 _),JH];simp only[YS];exact congrArg _ ih
theorem tN{α:Type}{L:List α}{vis:List Nat}(h:IG L.length vis)(hall:∀j,j<L.length->j∈vis):(KQ L vis).Perm L:=by
 have hp:vis.Perm (List.range L.length):=(List.perm_ext_iff_of_nodup h.nd List.nodup_range).2 λa=>⟨λha=>j9.2 (h.lt a ha),λha=>hall a (j9.1 ha)⟩
 have h2:=hp.filterMap λj=>L[j]?;rw[List.range_eq_range'] at h2;have h3:(List.range' 0 L.length).filterMap (λj=>L[j]?)=L:=Zx L [];rw[h3] at h2;exact h2
theorem wY{α:Type}{L:List α}{vis:List Nat}{q:Nat}{x:α}(h:L[q]?=some x):KQ L (vis++[q])=KQ L vis++[x]:=by
 unfold KQ;rw[List.filterMap_append];simp[h]
theorem aE{α:Type}{L:List α}(vis:List Nat):(KQ L vis).length<=vis.length:=List.length_filterMap_le _ _
theorem ar8:Ae prog 75=some (g9 ([],H4),[(0,1),(1,3)]):=by kernel_rfl
section
variable{w0:World}{e:T4}{m:Mc}
end
def GJ(n:Int):Int:=bits .xor .u64 (IntKind.u64.wrap (IntKind.u64.wrap n*2^(min (1:Int).toNat IntKind.u64.bits))) (IntKind.u64.wrap (n.fdiv (2^(min (63:Int).toNat IntKind.i64.bits))))
theorem xI(n:Int)(w:B6):I6 236 #[.int .i64 n] w (.int .u64 (GJ n)):=by
 refine J5 func236 O ntmps236 O<|A3<|A5 O<|B4 O<|B9 (MX (k:=.u64) (by kernel_rfl) (by kernel_rfl) O) O<|B9 (ay2 O O (by omega)) O<|A4 O<|B9 (TX O O (by omega)) O<|B9 (MX (k:=.u64) (by kernel_rfl) (by kernel_rfl) O) O<|B9 (Si (by simp) O O) O<|A5 O<|D4<|E4 O λw9 ho9=>?_;exact⟨rfl,ho9.plain⟩
def EW(v:Nat):Nat:=if h:128<=v then EW (v/128)+1 else 1
 decreasing_by omega
theorem My:∀(j v:Nat),v<128^(j+1)->EW v<=j+1
 |0,v,h=>by
  have:¬128<=v:=by simpa using h
  rw[EW,dif_neg this];exact L6 _
 |j+1,v,h=>by
  rw[EW];split
  ·have:=My j (v/128) (by rw[Nat.div_lt_iff_lt_mul (by omega)];rw[Nat.pow_succ] at h;exact h);omega
  ·omega
theorem So(v:Nat):1<=EW v:=by
 rw[EW];split<;>omega
def GZ(xs:List Value):Prop:=∀u∈xs,u.oneCell'=true
theorem Vj{xs ys:H2}(h1:GZ xs)(h2:GZ ys):GZ (xs++ys):=λu hu=>by
 rcases q0.1 hu with h|h
 ·exact h1 u h
 ·exact h2 u h
theorem eR(k:IntKind)(n:Int):GZ [.int k n]:=Gy rfl
theorem ah8(l:C9):GZ (Z3 l):=λu hu=>by
 obtain⟨x,_,rfl⟩:=FC.1 hu;rfl
section
variable{P:Program}{r:Option Nat}{n:Nat}{E:List (Nat×Value)}{C:I3}{H:List C2}{Q:Exit->Act->World->Prop}{ops:Array Oper}{rest:List Oper}
variable{ty:TypeId}{pos:String}{after:Array Edge}{f:FuncId}{args:Array Value}
theorem Tg{d:Nat}{op:Op}{e sz m:Nat}(he:f0 P n E C H ⟨some d,op,ty,pos,after,none⟩ f args)
  (hc:∀w,B7 C H w->Calls P f args w λe' w'=>∃xs v,e'=.returned v/\Below w.heap.size w w'/\w'.ownsRow w.heap.size e sz v m xs/\GZ xs)(hn:Op.X9 op=false)(hd:Nat.blt d n=true)
  (k:∀xs v,GZ xs->At n ((d,v)::E) C (.row v e sz m xs::H) (D3 r P ops Q rest)):At n E C H (D3 r P ops Q (⟨some d,op,ty,pos,after,none⟩::rest)):=
 Ov (ι:={q:List Value×Value//GZ q.1}) (λq=>q.1.2) (λq=>.row q.1.2 e sz m q.1.1::H) he (λw ho=>(hc w ho).mono λe' w' ⟨xs,v,h1,h2,h3,h4⟩=>⟨⟨(xs,v),h4⟩,h1,ho.Ml h2 ⟨h3.1,h3.2.imp id λ⟨g,cap,cur,q1,q2,q3⟩=>⟨g,cap,cur,q1,R5 _,q3⟩⟩ (λk hk=>(h3.lt k (by simpa[C2.blocks] using hk)).1)⟩) rfl hn hd (λq=>k q.1.1 q.1.2 q.2)
end
theorem fP(v:Nat)(hv:v<18446744073709551616)(w:B6):Calls prog 235 #[.int .u64 v] w λe w'=>∃xs u,e=.returned u/\Below w.heap.size w w'/\w'.ownsRow w.heap.size U8 1 u (EW v) xs/\GZ xs:=by
 refine J5 func235 O ntmps235 O ?_;have hv10:=My 9 v (by omega);refine A3<|A5 O<|A3<|A5 O<|C8<|C7 ?_;rotate_left;refine BY U8 1 ?_;refine l9 (σ:=Value×List Value×Nat×Nat) (λs=>s.2.2.1+EW s.2.2.2=EW v/\s.2.2.2<18446744073709551616/\GZ s.2.1) (λs=>[(0,.int .u64 s.2.2.2),(3,s.1)]) (λs=>[.row s.1 U8 1 s.2.2.1 s.2.1]) (λs=>s.2.2.2)
  (λw ho=>⟨(.slice none 0 0,[],0,v),⟨Y3 _,hv,λu hu=>by simp at hu⟩,⟨rfl,rfl,trivial⟩,ho⟩) ?_
 rintro⟨sv,xs,k,q⟩ ⟨hk,hq,hon⟩;dsimp only at hk hq hon⊢;have hvc:=So q;by_cases h:128<=q
 ·rw[EW,dif_pos h] at hk;have hq7:(q:Int).fdiv (2^(min (7:Int).toNat IntKind.u64.bits))=((q/128:Nat):Int):=by
   have e:(2:Int)^(min (7:Int).toNat IntKind.u64.bits)=128:=by decide
   rw[e,Int.fdiv_eq_ediv_of_nonneg _ (by decide)];omega
  have hb:=So (q/128);refine B5<|A4 O<|O1 O<|A6<|E7 O (by omega)<|D6<|C8<|C7<|C5<|A4 O<|A4 O<|B9 (MX (k:=.u8) (by kernel_rfl) (by kernel_rfl) O) O<|B9 (Si (by simp) O O) O<|N7 [.int .u8 (bits BinOp.or IntKind.u8 (IntKind.u8.wrap (q:Int)) 128)] [.int .u8 (bits BinOp.or IntKind.u8 (IntKind.u8.wrap (q:Int)) 128)] O λgl=>CT 1 U8 1 1 k 1 [.int .u8 (bits BinOp.or IntKind.u8 (IntKind.u8.wrap (q:Int)) 128)] (by kernel_rfl) O (λw ho=>BI ho (i:=0) rfl) (Gy rfl) (by simp only[maxLen];omega) O λv' hv'=>E6 O<|H6<|F4<|E2<|C5<|A4 O<|B9 (hq7▸TX rfl rfl (by omega)) O<|A5 O ?_;generalize bits BinOp.or IntKind.u8 (IntKind.u8.wrap (q:Int)) 128=B;exact W5 λw ho=>⟨(v',xs++[Value.int IntKind.u8 B],k+1,q/128),⟨by dsimp only;omega,by dsimp only;omega,Vj hon (eR _ _)⟩,by dsimp only;omega,⟨rfl,rfl,trivial⟩,rfl,ho.sublist (L9 ..)⟩
 ·rw[EW,dif_neg h] at hk;refine B5<|A4 O<|O1 O<|A6<|E0 O (by omega)<|S4<|J0<|J0<|S5<|E2<|B4 O<|A4 O<|B9 (MX (k:=.u8) (by kernel_rfl) (by kernel_rfl) O) O<|N7 [.int .u8 (IntKind.u8.wrap (q:Int))] [.int .u8 (IntKind.u8.wrap (q:Int))] O λgl=>CT 1 U8 1 1 k 1 [.int .u8 (IntKind.u8.wrap (q:Int))] (by kernel_rfl) O (λw ho=>BI ho (i:=0) rfl) (Gy rfl) (by simp only[maxLen];omega) O λv' hv'=>A5 O<|D4<|E4 O λw9 ho9=>?_;rw[hk] at ho9;exact⟨_,v',rfl,ho9.plain,ho9.GY (.tail _ (j8 ..)),Vj hon (eR _ _)⟩
theorem Xr(n:Int):0<=GJ n/\GJ n<18446744073709551616:=by
 unfold GJ bits;simp[IntKind.wrap,IntKind.signed,IntKind.bits];omega
theorem au5(n:Int)(w:B6):Calls prog 204 #[.int .i64 n] w λe w'=>∃xs u,e=.returned u/\Below w.heap.size w w'/\w'.ownsRow w.heap.size U8 1 u (EW (GJ n).toNat) xs/\GZ xs:=by
 refine J5 func204 O ntmps204 O ?_;have hr:=Xr n;have hP:=λw=>fP (GJ n).toNat (by omega) w;rw[show((GJ n).toNat:Int)=GJ n from Int.toNat_of_nonneg hr.1] at hP;exact A3<|A5 O<|B4 O<|F3 236 (A7 O) (λw ho=>xI n w) O<|Tg (A7 O) (λw ho=>hP w) O O λxs v5 hon=>A5 O<|D4<|E4 O λw9 ho9=>⟨xs,v5,rfl,ho9.plain,ho9.GY (j8 ..),hon⟩
def LW(l:List UInt8):Nat:=if 255<l.length then 0 else EW l.length+l.length
theorem pG(l:C9)(w:B6):Calls prog 205 #[.string (bs l)] w λe w'=>∃xs u,e=.returned u/\Below w.heap.size w w'/\w'.ownsRow w.heap.size U8 1 u (LW l) xs/\GZ xs:=by
 refine J5 func205 O ntmps205 O ?_;unfold LW;by_cases h:255<l.length
 ·rw[if_pos h];refine A3<|A5 O<|B5<|A4 O<|n4 O<|Q7 O<|A6<|E7 O (by omega)<|A3<|A5 O<|D4<|K0<|E4 O λw9 ho9=>?_;exact⟨[],_,rfl,ho9.plain,World.ownsRow_nil _ _ _ _,λu hu=>by simp at hu⟩
 ·rw[if_neg h];have hP:=λw=>fP l.length (by omega) w;have hv10:=My 9 l.length (by omega);refine A3<|A5 O<|B5<|A4 O<|n4 O<|Q7 O<|A6<|E0 O (by omega)<|D6<|B4 O<|n4 O<|B9 (Yn (by kernel_rfl) (by kernel_rfl) O (by omega)) O<|Tg (A7 O) (λw ho=>hP w) O O λxs v9 hon=>A4 O<|bZ (i:=0) (e:=U8) (m:=EW l.length) (by kernel_rfl) (by kernel_rfl) (by kernel_rfl) O O O (by simp only[maxLen];omega) O λv' hv'=>A5 O<|D4<|E4 O λw9 ho9=>?_;exact⟨_,v',rfl,ho9.plain,ho9.GY (j8 ..),Vj hon (ah8 l)⟩
def Jz(k n:Int)(t:List UInt8):Nat:=if Fs k n t then(if k=1 then 2 else if k=2 then 1+EW (GJ n).toNat else if k=3 then 1+LW t else 1) else 0
theorem ZO(k n:Int)(t:C9):Jz k n t<=100:=by
 have h1:=My 9 (GJ n).toNat (by have:=Xr n;omega);unfold Jz;split
 ·split
  ·omega
  ·split
   ·omega
   ·split
    ·unfold LW;split
     ·omega
     ·rename_i hm _ _ _ _;have h2:=My 9 t.length (by omega);have:t.length<=64:=by
       rename_i h1 _ _;simp_all[Fs]
      omega
    ·omega
 ·omega
theorem Yf{C:I3}{H:List C2}{w:B6}{i e m g c:Nat}{xs:H2}(ho:B7 C H w)(hi:H[i]?=some (.row (.slice (some ⟨g,0,none⟩) m c) e 1 m xs)):∀j u,xs[j]?=some u->w.cell? ((⟨g,0,none⟩:Addr).add j)=some u:=λj u hu=>by
 have h1:=(ho.rowAt hi).cells (g:=g) rfl j u hu;have e2:(⟨g,0,none⟩:Addr).add j=⟨g,j,none⟩:=by unfold Addr.add;split<;>simp_all
 first|exact h1|(rw[e2];exact h1)|(rw[e2] at h1;exact h1)
theorem tM(k n:Int)(t:C9)(w:B6):Calls prog 153 #[.agg (VQ k n t)] w λe w'=>(∃A c,e=.returned (.slice A (Jz k n t) c))/\Below w.heap.size w w':=by
 refine J5 func153 O ntmps153 O ?_;cases hm:Fs k n t
 ·rw[Jz,hm,if_neg (by decide)];exact A3<|F0 O λgz0=>A5 O<|B5<|G6 0 O O<|F3 203 (A7 O) (λw ho=>RK k n t w) O<|J7 O<|A6<|k8 O (by(rw[hm];rfl))<|A3<|A5 O<|D4<|K0<|E4 O λw9 ho9=>⟨⟨_,_,rfl⟩,ho9.plain⟩
 rw[Jz,hm,if_pos rfl];refine A3<|F0 O λgz0=>A5 O<|B5<|G6 0 O O<|F3 203 (A7 O) (λw ho=>RK k n t w) O<|J7 O<|A6<|Y7 O (by(rw[hm];rfl))<|D6<|A3<|B2 0 O<|B9 (MX (k:=.u8) (by kernel_rfl) (by kernel_rfl) O) O<|N7 [.int .u8 (IntKind.u8.wrap k)] [.int .u8 (IntKind.u8.wrap k)] O λgl=>?_;rotate_left;refine aA1 (i:=0) (k:=1) 1 O O (by decide) ?_;by_cases h1:k=1
 ·subst h1;rw[if_pos rfl];refine A5 O<|B5<|B2 1 O<|A6<|C7<|A3<|Q9 O (by omega)<|B4 O<|B2 1 O<|B9 (MX (k:=.u8) (by kernel_rfl) (by kernel_rfl) O) O<|N7 [.int .u8 (IntKind.u8.wrap n)] [.int .u8 (IntKind.u8.wrap n)] O λgq=>CT 1 U8 1 1 1 1 [.int .u8 (IntKind.u8.wrap n)] (by kernel_rfl) O (λw ho=>BI ho (i:=0) rfl) (Gy rfl) (by decide) O λv' hv'=>?_;rotate_left;refine PO (i:=1) O λA c e=>?_;subst e;exact A5 O<|K3<|E4 O λw9 ho9=>⟨⟨_,_,rfl⟩,ho9.plain⟩
 rw[if_neg h1];by_cases h2:k=2
 ·subst h2;rw[if_pos rfl];have hv10:=My 9 (GJ n).toNat (by have:=Xr n;omega);have hv0:=So (GJ n).toNat;refine A5 O<|B5<|B2 1 O<|A6<|C7<|A3<|C3 O (by omega)<|A3<|Q9 O (by omega)<|B4 O<|B2 1 O<|Tg (A7 O) (λw ho=>au5 n w) O O λxs v9 hon=>?_;rotate_left;refine R7 0 O ?_;dsimp only;rintro⟨hxl,⟨_,hz⟩|⟨g,c,rfl⟩⟩
  ·omega
  refine Sr (i:=1) (e:=U8) (sz:=1) (by':=1) (m:=1) (k:=EW (GJ n).toNat) (news:=xs) (by kernel_rfl) O O O hxl (λw ho=>Yf ho (i:=0) rfl) hon (by simp only[maxLen];omega) O λv' hv'=>?_;rotate_left;refine PO (i:=1) O λA c e=>?_;subst e;exact A5 O<|K3<|E4 O λw9 ho9=>⟨⟨_,_,rfl⟩,ho9.plain⟩
 rw[if_neg h2];by_cases h3:k=3
 ·subst h3;rw[if_pos rfl];have htc:1<=LW t/\LW t<=100:=by
   have hl:t.length<=64:=by simp_all[Fs]
   have hv0:=So t.length;have hv1:=My 9 t.length (by omega);unfold LW;rw[if_neg (by omega)];omega
  refine A5 O<|B5<|B2 1 O<|A6<|C7<|A3<|C3 O (by omega)<|A3<|C3 O (by omega)<|A3<|Q9 O (by omega)<|B4 O<|B2 1 O<|Tg (A7 O) (λw ho=>pG t w) O O λxs v9 hon=>?_;rotate_left;refine R7 0 O ?_;dsimp only;rintro⟨hxl,⟨_,hz⟩|⟨g,c,rfl⟩⟩
  ·omega
  refine Sr (i:=1) (e:=U8) (sz:=1) (by':=1) (m:=1) (k:=LW t) (news:=xs) (by kernel_rfl) O O O hxl (λw ho=>Yf ho (i:=0) rfl) hon (by simp only[maxLen];omega) O λv' hv'=>?_;rotate_left;refine PO (i:=1) O λA c e=>?_;subst e;exact A5 O<|K3<|E4 O λw9 ho9=>⟨⟨_,_,rfl⟩,ho9.plain⟩
 rw[if_neg h3];exact A5 O<|B5<|B2 1 O<|A6<|C7<|A3<|C3 O (by exact h1)<|A3<|C3 O (by exact h2)<|A3<|C3 O (by exact h3)<|P5<|F4<|E2<|B4 O<|A5 O<|D4<|E4 O λw9 ho9=>⟨⟨_,_,rfl⟩,ho9.plain⟩
def Ik(x:F5):Nat:=x.key.length+Jz x.kind x.num x.K4
def JZ(xs:List F5):Nat:=if DS xs then(xs.map Ik).sum else 0
theorem Zv(arg:Value)(xs:List F5)(w:B6)(hG:j0 w)(hV:BQ w arg xs)(hn:xs.length<=1000):
  I6 152 #[arg] w (.bool (DS xs)):=by
 obtain⟨A0,c0,rfl⟩:=hV.len;refine J5 func152 O ntmps152 O<|A3<|A5 O<|B4 O<|JP (f:=150) (Φ:=XI xs) (A7 O) (λw ho=>ZZ _ xs w (ho.Q8 hG id) (ho.Ln hV) hn) O O λv w1 hw1 hv=>?_;obtain⟨e,k,rfl,he⟩:=hv;exact A4 O<|G1 O<|G1 O<|E6 O<|A5 O<|B4 O<|C6 O<|D4<|E4 O λw9 ho9=>⟨d8 he,ho9.plain⟩
section
variable{P:Program}{n:Nat}{E:List (Nat×Value)}{C:I3}{H:List C2}
theorem at8{X:B6->Prop}{d:Option Tmp}{t ty:TypeId}{pos:String}{after:Array Edge}{g:Option (Nat×Bool)}{x:Operand}{v:Value}{m:Nat}(hT:PS P t=true)(hx:ev E x=some v)(hX:∀w,X w->∃A c,v=.slice A m c):
  Bk P n E C H X ⟨d,.call ⟨.builtin .len,#[x],#[t]⟩,ty,pos,after,g⟩ (.val (.int .i64 m)):=λa w hf ho hw=>by
 obtain⟨A,c,rfl⟩:=hX w hw;exact D0 (KG hT hx) a w hf ho hw
end
def yI(m:Nat)(v:Value)(_:World):Prop:=∃A c,v=.slice A m c
theorem zV(arg:Value)(xs:List F5)(w:B6)(hG:j0 w)(hV:BQ w arg xs)(hn:xs.length<=66)(hk:∀x∈xs,x.key.length<=60):
  I6 120 #[arg] w (.int .i64 (JZ xs)):=by
 obtain⟨A0,c0,rfl⟩:=hV.len;refine J5 func120 O ntmps120 O ?_;unfold JZ;cases hlo:DS xs
 ·rw[if_neg (by decide)];refine A3<|A5 O<|B5<|A4 O<|F3 152 (A7 O) (λw ho=>Zv _ xs w (ho.Q8 hG id) (ho.Ln hV) (by omega)) O<|J7 O<|A6<|k8 O (by(rw[hlo];rfl))<|A3<|A5 O<|D4<|K0<|E4 O λw9 ho9=>?_;exact⟨rfl,ho9.plain⟩
 rw[if_pos rfl];refine A3<|A5 O<|B5<|A4 O<|F3 152 (A7 O) (λw ho=>Zv _ xs w (ho.Q8 hG id) (ho.Ln hV) (by omega)) O<|J7 O<|A6<|Y7 O (by(rw[hlo];rfl))<|D6<|A3<|A5 O<|B5<|A4 O<|d1 O<|A4 O<|A6<|C7 ?_;rotate_left;refine DG (λs:Nat×Nat=>s.1<=xs.length/\s.2=((xs.take s.1).map Ik).sum/\s.2<=160*s.1) (λs=>[(0,.slice A0 xs.length c0),(9,.slice A0 xs.length c0),(10,.int .i64 xs.length),(11,.int .i64 s.1),(3,.int .i64 s.2)]) (λs=>xs.length-s.1) (0,0) ⟨R5 _,rfl,L6 _⟩ ⟨rfl,rfl,rfl,rfl,rfl,trivial⟩ ?_;rintro⟨i,q⟩ ⟨hi,hq,hq2⟩;dsimp only at hi hq hq2⊢;by_cases hil:i<xs.length
 ·obtain⟨gb,o,c1,hv,hc,hlt,hce⟩:=hV.form (by omega);simp only[Value.slice.injEq,true_and] at hv;obtain⟨rfl,rfl⟩:=hv;have hx:=hce i hil;have hkx:=hk _ (Fd hil);have hq3:q+Ik xs[i]=((xs.take (i+1)).map Ik).sum:=by
   rw[JG,T8 hil,Option.toList,Bu,List.sum_append,<-hq];simp
  generalize xs[i]=x at hx hkx hq3;have he:=ZO x.kind x.num x.K4;have hw:Ik x=x.key.length+Jz x.kind x.num x.K4:=rfl;refine A3<|H9 O<|A6<|C8<|E7 O (by omega)<|D6<|C8<|C7<|A3<|Q4 (j:=i) O hil<|U6 (vs:=c6 x) O (λw' ho=>(hx.K6 ho.plain).agg)<|E3 IE O λgz0=>q8 (i:=0) (cs:=LK) (vs:=(c6 x).toArray) (by kernel_rfl) O O (KB x) O O<|A6 ?_;apply BL 10 [_,_,_,_,_,_,.rel (yI (Jz x.kind x.num x.K4)),_,_,_] (by kernel_rfl) (by kernel_rfl) (by kernel_rfl)
  ·refine D5 O (λvs=>H8 O)<|D5 O (λvs=>I8 0 O)<|D5 O (λvs=>K1 0 O)<|D5 O (λvs=>FM O)<|D5 O (λvs=>I8 1 O)<|D5 O (λvs=>o4 0 (0+1) [.int .i64 x.kind,.int .i64 x.num,.string (bs x.K4)] (by kernel_rfl) O O)<|Ld O (λvs=>gA (A7 O) (λw ho _=>(tM x.kind x.num x.K4 w).mono λe w' ⟨⟨A,c,h1⟩,h2⟩=>⟨_,h1,h2,A,c,rfl⟩))<|Ld O (λvs=>at8 (by kernel_rfl) O (λw h=>BG (i:=6) rfl h (by decide)))<|D5 O (λvs=>Nc O O (by omega))<|D5 O (λvs=>Nc O O (by omega)) ?_;exact l6
  ·exact⟨trivial,trivial,trivial,trivial,trivial,trivial,λ_ _ _ h _=>h,trivial,trivial,trivial,trivial⟩
  ·intro vs;refine E6 O<|H6<|F4<|E2<|C5<|N6 O (by omega)<|A4 O<|A6 ?_;have e1:(q:Int)+((x.key.length:Int)+(Jz x.kind x.num x.K4:Int))=((q+Ik x:Nat):Int):=by rw[hw];omega
   rw[e1];exact W5 λw ho=>⟨(i+1,q+Ik x),⟨by dsimp only;omega,hq3,by dsimp only;omega⟩,by dsimp only;omega,⟨rfl,rfl,rfl,rfl,rfl,trivial⟩,rfl,ho.sublist (Ea _)⟩
 ·obtain rfl:i=xs.length:=by omega
  refine A3<|H9 O<|A6<|C8<|E0 O (by omega)<|S4<|J0<|J0<|S5<|E2<|B4 O<|A5 O<|D4<|E4 O λw9 ho9=>?_;exact⟨by rw[hq,GQ],ho9.plain⟩
theorem mT{xs:List F5}(hn:xs.length<=66)(hk:∀x∈xs,x.key.length<=60):JZ xs<=10560:=by
 have h:∀ys:List F5,(∀x∈ys,x.key.length<=60)->(ys.map Ik).sum<=160*ys.length:=λys=>by
  induction ys with
  |nil=>intro _;simp
  |cons y ys ih=>
   intro hy;have h1:=ih λx hx=>hy x (.tail _ hx);have h2:=hy y (j8 ..);have h3:=ZO y.kind y.num y.K4;simp only[Rd,List.sum_cons,T3];unfold Ik;unfold Ik at h1;omega
 have:=h xs hk;unfold JZ;split<;>omega
def NU(f:List F5->Nat)(fs:List (List F5))(b:Nat):Nat:=((List.range b).map λi=>f (fs.getD i [])).sum
theorem lK(f:List F5->Nat)(fs:List (List F5))(b:Nat):NU f fs (b+1)=NU f fs b+f (fs.getD b []):=by
 unfold NU;rw[List.range_succ];simp
def QF(fs:List (List F5))(vs:List Int):Nat:=if y8 fs vs then NU JZ fs 16 else 0
def SO(fs:List (List F5))(vs:List Int):Nat:=if y8 fs vs then NU List.length fs 16 else 0
theorem vI(ls:H2)(vs:List Int)(fs:List (List F5))(w:B6)(hT:Tr w ls vs fs):
  I6 69 #[GN ls vs] w (.int .i64 (QF fs vs)):=by
 have h32:=hT.size;have hl1:=hT.t.l1;have hpart:((Z8 ls vs).toList.drop (0+0)).take 16=ls:=by
  simp only[Z8,CR,Bs,IF];rw[<-hl1,Po]
 refine J5 func69 O ntmps69 O ?_;have cM:∀{w'},Tr w' ls vs fs->I6 67 #[GN ls vs] w' (.bool (y8 fs vs)):=λg=>Rw ls vs fs _ g.Q8 g.t g.l g.s;unfold QF;cases hm:y8 fs vs
 ·rw[if_neg (by decide)];exact A3<|F0 O λgz0=>A5 O<|B5<|G6 0 O h32<|F3 67 (A7 O) (λw ho=>cM (ho.tr hT)) O<|J7 O<|A6<|k8 O (by(rw[hm];rfl))<|A3<|A5 O<|D4<|K0<|E4 O λw9 ho9=>⟨rfl,ho9.plain⟩
 rw[if_pos rfl];refine A3<|F0 O λgz0=>A5 O<|B5<|G6 0 O h32<|F3 67 (A7 O) (λw ho=>cM (ho.tr hT)) O<|J7 O<|A6<|Y7 O (by(rw[hm];rfl))<|D6<|A3<|A5 O<|B5<|D9 O<|B9 (o4 0 (0+0) ls (by rw[hl1];kernel_rfl) O (by rw[hl1];exact hpart)) O<|A4 O<|A6<|C7 ?_;rotate_left;refine DG (λs:Nat×Nat=>s.1<=16/\s.2=NU JZ fs s.1/\s.2<=10560*s.1) (λs=>[(10,.agg ls.toArray),(11,.int .i64 s.1),(3,.int .i64 s.2)]) (λs=>16-s.1) (0,0) ⟨R5 _,rfl,L6 _⟩ ⟨rfl,rfl,rfl,trivial⟩ ?_;rintro⟨b,q⟩ ⟨hb,hq,hq2⟩;dsimp only at hb hq hq2⊢;by_cases hb16:b<16
 ·obtain⟨v,hv,hvi⟩:=hT.t.at' b hb16;have hsb:=hT.s b;have hs1:=lK JZ fs b;have hle:=mT hsb.1 hsb.2;have cW:∀{w'},j0 w'->BQ w' v (fs.getD b [])->I6 120 #[v] w' (.int .i64 (JZ (fs.getD b []))):=λg h=>zV v _ _ g h hsb.1 hsb.2;generalize JZ (fs.getD b [])=q1 at hs1 hle cW;refine A3<|H9 O<|A6<|C8<|E7 O (by omega)<|D6<|C8<|C7<|A3<|B9 (BZ (l:=16) (q:=b) (by kernel_rfl) O O hb16 (by simpa using hv)) O<|A5 O<|C5<|A4 O<|A4 O<|F3 120 (A7 O) (λw ho=>cW (ho.Q8 hT.Q8 id) (ho.Ln hvi.1)) O<|N6 O (by omega)<|E6 O<|H6<|F4<|E2<|C5<|N6 O (by omega)<|A4 O<|A6 ?_;have e1:(q:Int)+(q1:Int)=((q+q1:Nat):Int):=by omega
  rw[e1];exact DB (b+1,q+q1) ⟨by dsimp only;omega,by dsimp only;omega,by dsimp only;omega⟩ (by dsimp only;omega) ⟨rfl,rfl,rfl,trivial⟩
 ·obtain rfl:b=16:=by omega
  exact A3<|H9 O<|A6<|C8<|E0 O (by omega)<|S4<|J0<|J0<|S5<|E2<|B4 O<|A5 O<|D4<|E4 O λw9 ho9=>⟨by rw[hq],ho9.plain⟩
theorem sI(ls:H2)(vs:List Int)(fs:List (List F5))(w:B6)(hT:Tr w ls vs fs):
  I6 70 #[GN ls vs] w (.int .i64 (SO fs vs)):=by
 have h32:=hT.size;have hl1:=hT.t.l1;have hpart:((Z8 ls vs).toList.drop (0+0)).take 16=ls:=by
  simp only[Z8,CR,Bs,IF];rw[<-hl1,Po]
 refine J5 func70 O ntmps70 O ?_;have cM:∀{w'},Tr w' ls vs fs->I6 67 #[GN ls vs] w' (.bool (y8 fs vs)):=λg=>Rw ls vs fs _ g.Q8 g.t g.l g.s;unfold SO;cases hm:y8 fs vs
 ·rw[if_neg (by decide)];exact A3<|F0 O λgz0=>A5 O<|B5<|G6 0 O h32<|F3 67 (A7 O) (λw ho=>cM (ho.tr hT)) O<|J7 O<|A6<|k8 O (by(rw[hm];rfl))<|A3<|A5 O<|D4<|K0<|E4 O λw9 ho9=>⟨rfl,ho9.plain⟩
 rw[if_pos rfl];refine A3<|F0 O λgz0=>A5 O<|B5<|G6 0 O h32<|F3 67 (A7 O) (λw ho=>cM (ho.tr hT)) O<|J7 O<|A6<|Y7 O (by(rw[hm];rfl))<|D6<|A3<|A5 O<|B5<|D9 O<|B9 (o4 0 (0+0) ls (by rw[hl1];kernel_rfl) O (by rw[hl1];exact hpart)) O<|A4 O<|A6<|C7 ?_;rotate_left;refine DG (λs:Nat×Nat=>s.1<=16/\s.2=NU List.length fs s.1/\s.2<=66*s.1) (λs=>[(10,.agg ls.toArray),(11,.int .i64 s.1),(3,.int .i64 s.2)]) (λs=>16-s.1) (0,0) ⟨R5 _,rfl,L6 _⟩ ⟨rfl,rfl,rfl,trivial⟩ ?_;rintro⟨b,q⟩ ⟨hb,hq,hq2⟩;dsimp only at hb hq hq2⊢;by_cases hb16:b<16
 ·obtain⟨v,hv,hvi⟩:=hT.t.at' b hb16;have hsb:=(hT.s b).1;have hs1:=lK List.length fs b;obtain⟨A,c,rfl⟩:=hvi.1.len;generalize (fs.getD b []).length=q1 at hs1 hsb hv;refine A3<|H9 O<|A6<|C8<|E7 O (by omega)<|D6<|C8<|C7<|A3<|B9 (BZ (l:=16) (q:=b) (by kernel_rfl) O O hb16 (by simpa using hv)) O<|A5 O<|C5<|A4 O<|A4 O<|d1 O<|N6 O (by omega)<|E6 O<|H6<|F4<|E2<|C5<|N6 O (by omega)<|A4 O<|A6 ?_;have e1:(q:Int)+(q1:Int)=((q+q1:Nat):Int):=by omega
  rw[e1];exact DB (b+1,q+q1) ⟨by dsimp only;omega,by dsimp only;omega,by dsimp only;omega⟩ (by dsimp only;omega) ⟨rfl,rfl,rfl,trivial⟩
 ·obtain rfl:b=16:=by omega
  exact A3<|H9 O<|A6<|C8<|E0 O (by omega)<|S4<|J0<|J0<|S5<|E2<|B4 O<|A5 O<|D4<|E4 O λw9 ho9=>⟨by rw[hq],ho9.plain⟩
def Lj(v B8:Int):Bool:=decide (0<=v)&&decide (v<=B8)
theorem JQ(v B8:Int)(w:B6):I6 68 #[.int .i64 v,.int .i64 B8] w (.bool (Lj v B8)):=by
 refine J5 func68 O ntmps68 O ?_;unfold Lj;by_cases h:v>=0
 ·exact A3<|A5 O<|B4 O<|O1 O<|A4 O<|F9 7 true O (decide_eq_true (by exact h))<|B3 O<|A4 O<|B3 O<|A4 O<|B3 O<|Hp O<|K8 O<|A5 O<|D4<|E4 O λw9 ho9=>⟨by rw[decide_eq_true (show 0<=v from h)];rfl,ho9.plain⟩
 ·exact A3<|A5 O<|B4 O<|O1 O<|A4 O<|F9 7 false O (decide_eq_false (by exact h))<|D2 O<|D2 O<|D2 O<|G4 O<|A5 O<|D4<|E4 O λw9 ho9=>⟨by rw[decide_eq_false (show¬0<=v from h)];rfl,ho9.plain⟩
def O2(ls:List Value)(vs:List Int)(F6 by' ks:Int):Array Value:=(ls++X2 vs++[Value.int .i64 F6,Value.int .i64 by',Value.int .i64 ks]).toArray
theorem FG{ls:H2}{vs:List Int}{F6 by' ks:Int}(h1:ls.length=16)(h2:vs.length=16):(O2 ls vs F6 by' ks).size=35:=by simp[O2,X2,h1,h2]
theorem WU{ls:H2}{vs:List Int}{F6 by' ks:Int}(h1:ls.length=16)(h2:vs.length=16):((O2 ls vs F6 by' ks).toList.drop (0+0)).take 32=ls++X2 vs:=by
 have h:(ls++X2 vs).length=32:=by simp[X2,h1,h2]
 simp only[O2,CR,Bs,IF];rw[<-h,Po]
theorem wF{ls:H2}{vs:List Int}{F6 by' ks:Int}(h1:ls.length=16)(h2:vs.length=16):((O2 ls vs F6 by' ks).toList.drop (0+0+16)).take 16=X2 vs:=by
 have h:(X2 vs).length=16:=by simp[X2,h2]
 simp only[O2,CR,Q2,Y3];rw[<-h1,Pk,h1,<-h,Po]
theorem vY{ls:H2}{vs:List Int}{F6 by' ks:Int}(h1:ls.length=16)(h2:vs.length=16):(O2 ls vs F6 by' ks)[32]?=some (.int .i64 F6)/\(O2 ls vs F6 by' ks)[33]?=some (.int .i64 by')/\(O2 ls vs F6 by' ks)[34]?=some (.int .i64 ks):=by
 have h:(ls++X2 vs).length=32:=by simp[X2,h1,h2]
 simp only[O2,Rf];refine⟨?_,?_,?_⟩<;>rw[j4 (by omega),h]<;>rfl
def NH(fs:List (List F5))(vs:List Int)(F6 by' ks:Int):Bool:=
 y8 fs vs&&Lj F6 2147483647&&Lj by' 65536&&Lj ks 1024&&vs.all (λv=>decide (v<=F6))&&decide ((QF fs vs:Int)<=by')&&decide ((SO fs vs:Int)<=ks)
theorem aN(ls:H2)(vs:List Int)(fs:List (List F5))(F6 by' ks:Int)(w:B6)(hT:Tr w ls vs fs):
  I6 34 #[.agg (O2 ls vs F6 by' ks)] w (.bool (NH fs vs F6 by' ks)):=by
 have h32:=hT.size;have hl1:=hT.t.l1;have hl:=hT.l;have hpt:=WU (F6:=F6) (by':=by') (ks:=ks) hl1 hl;have hpv:=wF (F6:=F6) (by':=by') (ks:=ks) hl1 hl;obtain⟨ha1,ha2,ha3⟩:=vY (F6:=F6) (by':=by') (ks:=ks) hl1 hl;have hz:=FG (F6:=F6) (by':=by') (ks:=ks) hl1 hl;have hln:(ls++X2 vs).length=32:=by simp[X2,hl1,hl]
 have hlv:(X2 vs).length=16:=by simp[X2,hl]
 have cM:∀{w'},Tr w' ls vs fs->I6 67 #[.agg (ls++X2 vs).toArray] w' (.bool (y8 fs vs)):=λg=>Rw ls vs fs _ g.Q8 g.t g.l g.s;have cW:∀{w'},Tr w' ls vs fs->I6 69 #[.agg (ls++X2 vs).toArray] w' (.int .i64 (QF fs vs)):=λg=>vI ls vs fs _ g;have cC:∀{w'},Tr w' ls vs fs->I6 70 #[.agg (ls++X2 vs).toArray] w' (.int .i64 (SO fs vs)):=λg=>sI ls vs fs _ g;refine J5 func34 O ntmps34 O ?_;unfold NH;cases h1:y8 fs vs
 ·rw[h1] at cM;exact A3<|F0 O λgz0=>A5 O<|B5<|D9 O<|B9 (o4 0 (0+0) (ls++X2 vs) (by rw[hln];kernel_rfl) O (by rw[hln];exact hpt)) O<|F3 67 (A7 O) (λw ho=>cM (ho.tr hT)) O<|J7 O<|A4 O<|D2 O<|D2 O<|D2 O<|D2 O<|K8 O<|A4 O<|D2 O<|D2 O<|D2 O<|D2 O<|K8 O<|A4 O<|D2 O<|D2 O<|D2 O<|D2 O<|K8 O<|A6<|R1 O<|A3<|A5 O<|D4<|K0<|E4 O λw9 ho9=>⟨d8 (by simp),ho9.plain⟩
 rw[h1] at cM;cases h2:Lj F6 2147483647
 ·exact A3<|F0 O λgz0=>A5 O<|B5<|D9 O<|B9 (o4 0 (0+0) (ls++X2 vs) (by rw[hln];kernel_rfl) O (by rw[hln];exact hpt)) O<|F3 67 (A7 O) (λw ho=>cM (ho.tr hT)) O<|J7 O<|A4 O<|B3 O<|D9 O<|B3 O<|B9 (c7 0 (j:=0+32) O ha1) O<|B3 O<|F3 68 (A7 O) (λw ho=>JQ _ _ w) O<|B3 O<|J7 O<|G4 O<|A4 O<|F9 15 true O (by simp[*])<|D2 O<|D2 O<|D2 O<|D2 O<|K8 O<|A4 O<|D2 O<|D2 O<|D2 O<|D2 O<|K8 O<|A6<|R1 O<|A3<|A5 O<|D4<|K0<|E4 O λw9 ho9=>⟨d8 (by simp),ho9.plain⟩
 cases h3:Lj by' 65536
 ·refine A3<|F0 O λgz0=>A5 O<|B5<|D9 O<|B9 (o4 0 (0+0) (ls++X2 vs) (by rw[hln];kernel_rfl) O (by rw[hln];exact hpt)) O<|F3 67 (A7 O) (λw ho=>cM (ho.tr hT)) O<|J7 O<|A4 O<|B3 O<|D9 O<|B3 O<|B9 (c7 0 (j:=0+32) O ha1) O<|B3 O<|F3 68 (A7 O) (λw ho=>JQ _ _ w) O<|B3 O<|J7 O<|G4 O<|A4 O<|F9 15 false O (by simp[*])<|B3 O<|D9 O<|B3 O<|B9 (c7 0 (j:=0+33) O ha2) O<|B3 O<|F3 68 (A7 O) (λw ho=>JQ _ _ w) O<|B3 O<|J7 O<|G4 O<|A4 O<|F9 21 true O (by simp[*])<|D2 O<|D2 O<|D2 O<|D2 O<|K8 O<|A6<|R1 O<|A3<|A5 O ?_;exact D4<|K0<|E4 O λw9 ho9=>⟨d8 (by simp),ho9.plain⟩
 cases h4:Lj ks 1024
 ·refine A3<|F0 O λgz0=>A5 O<|B5<|D9 O<|B9 (o4 0 (0+0) (ls++X2 vs) (by rw[hln];kernel_rfl) O (by rw[hln];exact hpt)) O<|F3 67 (A7 O) (λw ho=>cM (ho.tr hT)) O<|J7 O<|A4 O<|B3 O<|D9 O<|B3 O<|B9 (c7 0 (j:=0+32) O ha1) O<|B3 O<|F3 68 (A7 O) (λw ho=>JQ _ _ w) O<|B3 O<|J7 O<|G4 O<|A4 O<|F9 15 false O (by simp[*])<|B3 O<|D9 O<|B3 O<|B9 (c7 0 (j:=0+33) O ha2) O<|B3 O<|F3 68 (A7 O) (λw ho=>JQ _ _ w) O<|B3 O<|J7 O<|G4 O<|A4 O<|F9 21 false O (by simp[*])<|B3 O<|D9 O<|B3 O<|B9 (c7 0 (j:=0+34) O ha3) O<|B3 O<|F3 68 (A7 O) (λw ho=>JQ _ _ w) O<|B3 O<|J7 O<|G4 O ?_;exact A6<|k8 O (by simp[*])<|A3<|A5 O<|D4<|K0<|E4 O λw9 ho9=>⟨d8 (by simp),ho9.plain⟩
 refine A3<|F0 O λgz0=>A5 O<|B5<|D9 O<|B9 (o4 0 (0+0) (ls++X2 vs) (by rw[hln];kernel_rfl) O (by rw[hln];exact hpt)) O<|F3 67 (A7 O) (λw ho=>cM (ho.tr hT)) O<|J7 O<|A4 O<|B3 O<|D9 O<|B3 O<|B9 (c7 0 (j:=0+32) O ha1) O<|B3 O<|F3 68 (A7 O) (λw ho=>JQ _ _ w) O<|B3 O<|J7 O<|G4 O<|A4 O<|F9 15 false O (by simp[*])<|B3 O<|D9 O<|B3 O<|B9 (c7 0 (j:=0+33) O ha2) O<|B3 O<|F3 68 (A7 O) (λw ho=>JQ _ _ w) O<|B3 O<|J7 O<|G4 O<|A4 O<|F9 21 false O (by simp[*])<|B3 O<|D9 O<|B3 O<|B9 (c7 0 (j:=0+34) O ha3) O<|B3 O<|F3 68 (A7 O) (λw ho=>JQ _ _ w) O<|B3 O<|J7 O<|G4 O ?_;refine A6<|Y7 O (by simp[*])<|D6<|B5<|D9 O<|D9 O<|B9 (o4 0 (0+0+16) (X2 vs) (by rw[hlv];kernel_rfl) O (by rw[hlv];exact hpv)) O<|A4 O<|A6<|C7 ?_;rotate_left;refine DG (λb:Nat=>b<=16/\∀j,j<b->vs.getD j 0<=F6) (λb=>[(1,.pointer (some ⟨gz0,0,none⟩)),(29,.agg (X2 vs).toArray),(30,.int .i64 b)]) (λb=>16-b) 0 ⟨R5 _,λj h=>absurd h (by omega)⟩ ⟨rfl,rfl,rfl,trivial⟩ ?_;rintro b ⟨hb,hI⟩;by_cases hb16:b<16
 ·have hv:(X2 vs).toArray[b]?=some (.int .i64 (vs.getD b 0)):=by
   simp[X2,Kj,W6,hl,hb16]
  by_cases hle:vs.getD b 0>F6
  ·have hno:vs.all (λv=>decide (v<=F6))=false:=Ni.2 ⟨vs.getD b 0,by rw[W6,T8 (by omega)];exact Fd _,by rw[decide_eq_false (by omega)];exact Bool.false_ne_true⟩;exact A3<|H9 O<|A6<|C8<|E7 O (by omega)<|D6<|C8<|C7<|A3<|B9 (BZ (l:=16) (q:=b) (by kernel_rfl) O O hb16 hv) O<|A5 O<|B4 O<|D9 O<|B9 (c7 0 (j:=0+32) O ha1) O<|Q7 O<|A6<|E7 O (by exact hle)<|A3<|A5 O<|K3<|K0<|U3<|E4 O λw9 ho9=>⟨d8 (by rw[hno];simp),ho9.plain⟩
  ·refine A3<|H9 O<|A6<|C8<|E7 O (by omega)<|D6<|C8<|C7<|A3<|B9 (BZ (l:=16) (q:=b) (by kernel_rfl) O O hb16 hv) O<|A5 O<|B4 O<|D9 O<|B9 (c7 0 (j:=0+32) O ha1) O<|Q7 O<|A6<|E0 O (by exact hle)<|P5<|F4<|E2<|C5<|N6 O (by omega)<|A4 O<|A6 ?_;rotate_left;refine DB (b+1) ⟨by omega,λj hj=>?_⟩ (by omega) ⟨rfl,rfl,rfl,trivial⟩;by_cases e:j=b
   ·subst e;omega
   ·exact hI j (by omega)
 ·obtain rfl:b=16:=by omega
  have hyes:vs.all (λv=>decide (v<=F6))=true:=f5.2 λv hv=>by
   obtain⟨j,hj,rfl⟩:=ML hv;have h:=hI j (by omega);rw[W6,T8 hj] at h;simpa using h
  rw[hyes];by_cases h5:(QF fs vs:Int)<=by'
  ·exact A3<|H9 O<|A6<|C8<|E0 O (by omega)<|S4<|J0<|J0<|S5<|E2<|C8<|R2 (by kernel_rfl)<|I1 O<|r5 (o4 0 (0+0) (ls++X2 vs) (by rw[hln];kernel_rfl) O (by rw[hln];exact hpt)) O<|EE (f:=69) (A7 O) (λw ho=>cW (ho.tr hT)) O O<|I1 O<|r5 (c7 0 (j:=0+33) O ha2) O<|WS O<|G3 O<|Aw (t:=44) (d:=true) O (decide_eq_true (by omega))<|I5 O<|I1 O<|I5 O<|r5 (o4 0 (0+0) (ls++X2 vs) (by rw[hln];kernel_rfl) O (by rw[hln];exact hpt)) O<|I5 O<|EE (f:=70) (A7 O) (λw ho=>cC (ho.tr hT)) O O<|I5 O<|I1 O<|I5 O<|r5 (c7 0 (j:=0+34) O ha3) O<|I5 O<|WS O<|Ek O<|o6 O<|R4<|E2<|D4<|E4 O λw9 ho9=>⟨d8 (by rw[decide_eq_true h5];simp),ho9.plain⟩
  ·exact A3<|H9 O<|A6<|C8<|E0 O (by omega)<|S4<|J0<|J0<|S5<|E2<|C8<|R2 (by kernel_rfl)<|I1 O<|r5 (o4 0 (0+0) (ls++X2 vs) (by rw[hln];kernel_rfl) O (by rw[hln];exact hpt)) O<|EE (f:=69) (A7 O) (λw ho=>cW (ho.tr hT)) O O<|I1 O<|r5 (c7 0 (j:=0+33) O ha2) O<|WS O<|G3 O<|Aw (t:=44) (d:=false) O (decide_eq_false (by omega))<|P1 O<|P1 O<|P1 O<|P1 O<|P1 O<|P1 O<|Jw O<|o6 O<|R4<|E2<|D4<|E4 O λw9 ho9=>⟨d8 (by rw[decide_eq_false h5];simp),ho9.plain⟩
end
theorem at4{fs:List (List F5)}{vs:List Int}(h:y8 fs vs=true){b:Nat}(hb:b<16):Ec b (fs.getD b []) (vs.getD b 0)=true:=f5.1 h b (j9.2 hb)
theorem Wu{xs:List F5}(h:DS xs=true):xs.length<=64/\(∀x∈xs,CL x=true)/\∀i,i<xs.length->Fz xs i=true:=by
 simp only[DS,j1,decide_eq_true_eq,f5] at h;exact⟨h.1.1,h.1.2,λi hi=>h.2 i (j9.2 hi)⟩
theorem ai6{xs:List F5}(h:DS xs=true):Up xs:=by
 have hb:=(Wu h).2.2;have key:∀j (hj:j<xs.length) i (hi:i<j),CK (xs[i]'(by omega)) xs[j]=true:=by
  intro j
  induction j with
  |zero=>intro hj i hi;omega
  |succ j ih=>
   intro hj i hi;have h1:=hb (j+1) hj;rw[Fz,Ue xs (j+1) hj,show j+1-1=j by omega,Ue xs j (by omega)] at h1;have h1:Op.bytesLess (xs[j]'(by omega)).key xs[j+1].key=true:=by simpa using h1
   by_cases e:i=j
   ·subst e;exact h1
   ·exact WN (ih (by omega) i (by omega)) h1
 exact List.pairwise_iff_getElem.2 λi j hi hj hij=>key j hj i hij
theorem Ti{fs:List (List F5)}{vs:List Int}(h:y8 fs vs=true){b:Nat}(hb:b<16):DS (fs.getD b [])=true/\∀x∈fs.getD b [],OX x.key=(b:Int):=by
 have:=at4 h hb;simp only[Ec,j1,f5] at this;refine⟨this.1.1.1,λx hx=>?_⟩;have h2:=this.2 x hx;simp only[Iu,j1,decide_eq_true_eq] at h2;exact h2.1
theorem WD{fs:List (List F5)}{f:List F5}(h:f∈fs):∃b,b<fs.length/\fs.getD b []=f:=by
 obtain⟨b,hb,rfl⟩:=ML h;exact⟨b,hb,by rw[W6,T8 hb];rfl⟩
theorem ZP{fs:List (List F5)}{vs:List Int}(h:y8 fs vs=true)(hl:fs.length=16):∀f∈fs,Up f:=λf hf=>by
 obtain⟨b,hb,rfl⟩:=WD hf;exact ai6 (Ti h (by omega)).1
theorem SX{fs:List (List F5)}{vs:List Int}(h:y8 fs vs=true)(hl:fs.length=16):(Gu fs.flatten).Nodup:=by
 refine mD (λk=>(OX k).toNat) fs 0 (ZP h hl) λb x hx=>?_;by_cases hb:b<16
 ·have:=(Ti h hb).2 x hx;simp only[this];omega
 ·rw[W6,Fa (by omega)] at hx;simp at hx
theorem az4{fs:List (List F5)}{vs:List Int}(h:y8 fs vs=true)(hl:fs.length=16){x:F5}(hx:x∈fs.flatten):CL x=true:=by
 obtain⟨f,hf,hxf⟩:=YV.1 hx;obtain⟨b,hb,rfl⟩:=WD hf;exact(Wu (Ti h (show b<16 by omega)).1).2.1 x hxf
theorem jA{fs:List (List F5)}{vs:List Int}(h:y8 fs vs=true)(hl:fs.length=16):fs.flatten.length<=1024:=by
 have:=Xy (fs:=fs) 64 λb=>by
  by_cases hb:b<16
  ·exact(Wu (Ti h hb).1).1
  ·rw[W6,Fa (by omega)];simp
 omega
theorem aj9{fs:List (List F5)}{vs:List Int}(h:y8 fs vs=true)(hl:fs.length=16):w4 NN fs=Lm fs.flatten:=
 rL fs NN (by have:=jA h hl;simp only[NN];omega) (ZP h hl) (SX h hl)
theorem ax6{fs:List (List F5)}{vs:List Int}(h:y8 fs vs=true)(hl:fs.length=16):Up (Lm fs.flatten)/\(Lm fs.flatten).length<=1024/\∀x∈Lm fs.flatten,CL x=true:=by
 have hp:=WV (SX h hl);exact⟨kB (SX h hl),by rw[hp.length_eq];exact jA h hl,λx hx=>az4 h hl (hp.mem_iff.1 hx)⟩
theorem as6{x:F5}(h:CL x=true):FO x.key=true:=by
 simp only[CL,j1] at h;exact h.1.1.1.1
def Iw(x:F5):Vl:=⟨x.kind,x.num,x.K4⟩
theorem mU{x:F5}(h:CL x=true)(hr:r7 x.num):N2 (Iw x)/\x.key.length<=64:=by
 have hk:=fZ (as6 h);simp only[CL,j1] at h;exact⟨⟨h.1.1.1.2,hr⟩,by omega⟩
inductive Do (W:Wt) (has:List Ed) (M:Cd):Mc->Mc->Prop
 |done {m:Mc} {x:f9} (hx:M.ins[m.at_]?=some x) (h:(Q6 W has M.G5 x {m with at_:=m.at_+1}).ended=true):Do W has M m (Q6 W has M.G5 x {m with at_:=m.at_+1})
 |more {m m':Mc} {x:f9} (hx:M.ins[m.at_]?=some x) (h:(Q6 W has M.G5 x {m with at_:=m.at_+1}).ended=false) (r:Do W has M (Q6 W has M.G5 x {m with at_:=m.at_+1}) m'):Do W has M m m'
theorem Do.oZ{W:Wt}{has:List Ed}{M:Cd}{m a b:Mc}(h1:Do W has M m a):Do W has M m b->a=b:=by
 induction h1 with
 |done hx h=>
  intro h2;cases h2 with
  |done hx2 _=>rw[hx] at hx2;cases hx2;rfl
  |more hx2 h2 _=>rw[hx] at hx2;cases hx2;rw[h] at h2;cases h2
 |more hx h r ih=>
  intro h2;cases h2 with
  |done hx2 h2=>rw[hx] at hx2;cases hx2;rw[h] at h2;cases h2
  |more hx2 _ r2=>rw[hx] at hx2;cases hx2;exact ih r2
def GC(B8 G0:Nat):Mc:=⟨0,G0,[],List.replicate B8 H4,[],[],[],0,0,H4,false⟩
theorem gM{B8:Nat}{M:Cd}{T:Nat->Ty}(hc:Jh B8 M T)(G0:Nat):LM B8 T (M.ins.length-1) (GC B8 G0):=by
 have hz:=hc.z;refine⟨R5 _,rfl,(by show _=(T 0).h;rw[hz];rfl),(by show _=(T 0).d;rw[hz];rfl),(by show _=(T 0).c;rw[hz];rfl),(by simp[GC]),λv hv=>(by cases hv),λv hv=>?_,λq hq=>(by cases hq),λn hn=>(by cases hn),⟨λx hx=>(by cases hx)⟩,No,R5 _⟩;rw[(List.mem_replicate.1 hv).2];exact Fh
def Fr(m m':Mc):Prop:=m'.left<=m.left/\(m'.edits=m.edits\/m'.ended=m.ended)
theorem d4{c:Prop}[Decidable c]{m a b:Mc}(h1:Fr m a)(h2:Fr m b):Fr m (if c then a else b):=by
 split
 ·exact h1
 ·exact h2
theorem jP{m m0:Mc}{e node:Int}{v:Vl}(h:m0.left<=m.left)(h2:m0.edits=m.edits):Fr m (V7 e node v m0):=⟨h,.inl h2⟩
theorem d7{m m':Mc}(h:m'.left<=m.left)(h2:m'.edits=m.edits):Fr m m':=⟨h,.inl h2⟩
theorem bM{k:C9}{v:Vl}{node:Int}{m m0:Mc}(h:m0.left<=m.left)(h2:m0.edits=m.edits)(h3:m0.ended=m.ended):Fr m (HL k v node m0):=d4 ⟨h,.inr h3⟩ (jP h h2)
theorem aU{r:VE}{node:Int}{m m0:Mc}(h:m0.left<=m.left)(h2:m0.edits=m.edits):Fr m (Jf r node m0):=d4 (d7 h h2) (jP h h2)
theorem xZ(a q:Nat)(node:Int)(m:Mc):Fr m (IR a q node m):=by
 unfold IR;cases m.lists.getLast? with
 |none=>exact d7 (L6 _) rfl
 |some l=>
  dsimp only;cases l.1[l.2]? with
  |none=>exact d7 (L6 _) rfl
  |some x=>exact d4 (d7 (L6 _) rfl) (d7 (Nat.sub_le _ _) rfl)
theorem mW(q:Nat)(node:Int)(m:Mc):Fr m (Kv q node m):=by
 unfold Kv;cases m.counts.getLast? with
 |none=>exact d7 (L6 _) rfl
 |some n=>exact d4 (d7 (L6 _) rfl) (d4 (d7 (L6 _) rfl) (d7 (Nat.sub_le _ _) rfl))
theorem Yg(W:Wt)(has:List Ed)(G5:List Vl)(x:f9)(m:Mc):Fr m (Q6 W has G5 x m):=by
 have r:=L6 m.left;have l:m.left-1<=m.left:=Nat.sub_le _ _;unfold Q6;refine d4 (d4 (d7 r rfl) (d7 l rfl)) ?_;refine d4 (d4 (d7 r rfl) (d7 l rfl)) ?_;refine d4 (d7 r rfl) ?_;refine d4 (d4 (d7 r rfl) (d4 (aU l rfl) (aU l rfl))) ?_;refine d4 (d4 (d7 r rfl) (d4 (d7 l rfl) (d4 (d7 l rfl) (d7 l rfl)))) ?_;refine d4 (d4 (d7 r rfl) (d7 r rfl)) ?_;refine d4 (d4 (d4 (d7 r rfl) (d7 r rfl)) (d7 l rfl)) ?_;refine d4 (d4 (d7 r rfl) (d4 (d7 r rfl) (d7 r rfl))) ?_;refine d4 (d7 r rfl) ?_;refine d4 (d4 (d7 r rfl) (d4 (d7 r rfl) (bM r rfl rfl))) ?_;refine d4 (d4 (d7 r rfl) (bM r rfl rfl)) ?_;refine d4 (d4 (d7 r rfl) (d4 (d7 r rfl) (d4 (d7 r rfl) (d7 r rfl)))) ?_;refine d4 (xZ ..) ?_;refine d4 (d7 r rfl) ?_;refine d4 (mW ..) ?_;refine d4 (d7 r rfl) ?_;refine d4 (d7 r rfl) (d7 r rfl)
section
attribute [local irreducible] F8 D3 Exit.then Exit.inBlock Exit.noGoto wpQuiet Calls fin At G9 L3 L7 RQ R9
theorem uP(x:C9)(w:B6)(hG:j0 w):I6 32 #[.string (bs x)] w (.bool (!w6 x)):=by
 refine J5 func32 O ntmps32 O<|A3<|A5 O<|B4 O<|F3 33 (A7 O) (λw ho=>Ma x w (ho.Q8 hG id)) O<|J7 O<|A5 O<|D4<|E4 O λw9 ho9=>?_;exact⟨rfl,ho9.plain⟩
theorem SG(v:Value)(L:List (List UInt8))(w:B6)(hG:j0 w)(hV:T7 w v (D1 L))(hl:L.length<=1000):I6 35 #[v,.func (.func 32) #[] #[]] w (.bool (L.any λx=> !w6 x)):=
 Te (first:=[]) (cap:=[]) (λx=> !w6 x) v L w hV (by omega) (by kernel_rfl) (λx w' hb=>uP x w' (hG.K6 hb))
def KA(fs:List (List F5))(vs:List Int)(F6 by' ks:Int)(W:Wt)(G0:Int):Bool:=
 NH fs vs F6 by' ks&&decide (0<=G0)&&decide (G0<=100000)&& !(W.reads.any λx=> !w6 x)&& !(W.writes.any λx=> !w6 x)
def Y2(c node:Int)(v:Vl)(G0:Int)(es:Value):Array Value:= #[.int .i64 c,.int .i64 node,.int .i64 v.kind,.int .i64 v.num,.string (bs v.K4),.int .i64 G0,es]
abbrev Ja:Nat:=48
theorem NJ:Ae prog 48=some ((Y2 0 0 H4 0 (.slice none 0 0)).toList,[(0,1),(1,1),(2,3),(5,1),(6,1)]):=by kernel_rfl
theorem pW(cp:Value)(ls:H2)(vs:List Int)(fs:List (List F5))(F6 by' ks G0:Int)(rv wv:Value)(W:Wt)(w:B6)(hT:Tr w ls vs fs)(hrv:T7 w rv (D1 W.reads))(hwv:T7 w wv (D1 W.writes))(hrl:W.reads.length<=1000)(hwl:W.writes.length<=1000)
  (h:KA fs vs F6 by' ks W G0=false):I6 18 #[cp,.agg (O2 ls vs F6 by' ks),.agg #[rv,wv],.int .i64 G0] w (.tuple #[.agg (Y2 0 0 H4 0 (.slice none 0 0)),.int .i64 1]):=by
 have hl1:=hT.t.l1;have hl:=hT.l;have hz:=FG (F6:=F6) (by':=by') (ks:=ks) hl1 hl;have cM:∀{w'},Tr w' ls vs fs->I6 34 #[.agg (O2 ls vs F6 by' ks)] w' (.bool (NH fs vs F6 by' ks)):=λg=>aN ls vs fs F6 by' ks _ g;refine J5 func18 O ntmps18 O ?_;have cR:∀{w'},j0 w'->T7 w' rv (D1 W.reads)->I6 35 #[rv,.func (.func 32) #[] #[]] w' (.bool (W.reads.any λx=> !w6 x)):=λg hv=>SG rv _ _ g hv hrl;have cV:∀{w'},j0 w'->T7 w' wv (D1 W.writes)->I6 35 #[wv,.func (.func 32) #[] #[]] w' (.bool (W.writes.any λx=> !w6 x)):=λg hv=>SG wv _ _ g hv hwl;cases h1:NH fs vs F6 by' ks
 ·rw[h1] at cM;refine A3<|F0 O λgz0=>F0 O λgz1=>E3 FD O λgz2=>A5 O<|OC<|A3<|A5 O<|B5<|G6 2 O hz<|F3 34 (A7 O) (λw ho=>cM (ho.tr hT)) O<|J7 O<|A4 O<|D2 O<|D2 O<|K8 O<|A4 O<|D2 O<|D2 O<|K8 O<|A4 O<|D2 O<|D2 O<|D2 O<|D2 O<|K8 O<|A4 O<|D2 O<|D2 O<|D2 O<|D2 O<|K8 O<|A6<|R1 O<|A3<|B9 (O7 ((Y2 0 0 H4 0 (.slice none 0 0)).toList) NJ O) O<|E8 0 (Y2 0 0 H4 0 (.slice none 0 0)) O<|A5 O<|D4<|K0 ?_;exact NK<|O5 0 O λw9 ho9=>⟨rfl,ho9.plain⟩
 rw[h1] at cM;by_cases h2:G0<0
 ·refine A3<|F0 O λgz0=>F0 O λgz1=>E3 FD O λgz2=>A5 O<|OC<|A3<|A5 O<|B5<|G6 2 O hz<|F3 34 (A7 O) (λw ho=>cM (ho.tr hT)) O<|J7 O<|A4 O<|B3 O<|A4 O<|B3 O<|H9 O<|G4 O<|A4 O<|F9 25 true O (decide_eq_true (by exact h2))<|D2 O<|D2 O<|K8 O<|A4 O<|D2 O<|D2 O<|D2 O<|D2 O<|K8 O<|A4 O<|D2 O<|D2 O<|D2 O<|D2 O<|K8 O<|A6<|R1 O<|A3<|B9 (O7 ((Y2 0 0 H4 0 (.slice none 0 0)).toList) NJ O) O<|E8 0 (Y2 0 0 H4 0 (.slice none 0 0)) O ?_;exact A5 O<|D4<|K0<|NK<|O5 0 O λw9 ho9=>⟨rfl,ho9.plain⟩
 by_cases h3:G0>100000
 ·refine A3<|F0 O λgz0=>F0 O λgz1=>E3 FD O λgz2=>A5 O<|OC<|A3<|A5 O<|B5<|G6 2 O hz<|F3 34 (A7 O) (λw ho=>cM (ho.tr hT)) O<|J7 O<|A4 O<|B3 O<|A4 O<|B3 O<|H9 O<|G4 O<|A4 O<|F9 25 false O (decide_eq_false (by exact h2))<|B3 O<|A4 O<|B3 O<|Q7 O<|G4 O<|A4 O<|F9 29 true O (decide_eq_true (by exact h3))<|D2 O<|D2 O<|D2 O<|D2 O<|K8 O<|A4 O<|D2 O<|D2 O<|D2 O<|D2 O<|K8 O<|A6<|R1 O ?_;exact A3<|B9 (O7 ((Y2 0 0 H4 0 (.slice none 0 0)).toList) NJ O) O<|E8 0 (Y2 0 0 H4 0 (.slice none 0 0)) O<|A5 O<|D4<|K0<|NK<|O5 0 O λw9 ho9=>⟨rfl,ho9.plain⟩
 have h2':(0:Int)<=G0:=by omega
 have h3':G0<=100000:=by omega
 cases h4:W.reads.any λx=> !w6 x
 ·rw[h4] at cR;cases h5:W.writes.any λx=> !w6 x
  ·simp[KA,h1,h2',h3',h4,h5] at h
  ·rw[h5] at cV;refine A3<|F0 O λgz0=>F0 O λgz1=>E3 FD O λgz2=>A5 O<|OC<|A3<|A5 O<|B5<|G6 2 O hz<|F3 34 (A7 O) (λw ho=>cM (ho.tr hT)) O<|J7 O<|A4 O<|B3 O<|A4 O<|B3 O<|H9 O<|G4 O<|A4 O<|F9 25 false O (decide_eq_false (by exact h2))<|B3 O<|A4 O<|B3 O<|Q7 O<|G4 O<|A4 O<|F9 29 false O (decide_eq_false (by exact h3))<|B3 O<|D9 O<|B3 O<|N3 1 O<|B3 O<|A4 O<|B3 O<|F3 35 (A7 O) (λw ho=>cR (ho.Q8 hT.Q8 id) (ho.DT hrv)) O<|G4 O<|A4 O<|B3 O<|D9 O<|B3 O ?_;exact N3 1 O<|B3 O<|A4 O<|B3 O<|F3 35 (A7 O) (λw ho=>cV (ho.Q8 hT.Q8 id) (ho.DT hwv)) O<|G4 O<|A6<|R1 O<|A3<|B9 (O7 ((Y2 0 0 H4 0 (.slice none 0 0)).toList) NJ O) O<|E8 0 (Y2 0 0 H4 0 (.slice none 0 0)) O<|A5 O<|D4<|K0<|NK<|O5 0 O λw9 ho9=>⟨rfl,ho9.plain⟩
 ·rw[h4] at cR;refine A3<|F0 O λgz0=>F0 O λgz1=>E3 FD O λgz2=>A5 O<|OC<|A3<|A5 O<|B5<|G6 2 O hz<|F3 34 (A7 O) (λw ho=>cM (ho.tr hT)) O<|J7 O<|A4 O<|B3 O<|A4 O<|B3 O<|H9 O<|G4 O<|A4 O<|F9 25 false O (decide_eq_false (by exact h2))<|B3 O<|A4 O<|B3 O<|Q7 O<|G4 O<|A4 O<|F9 29 false O (decide_eq_false (by exact h3))<|B3 O<|D9 O<|B3 O<|N3 1 O<|B3 O<|A4 O<|B3 O<|F3 35 (A7 O) (λw ho=>cR (ho.Q8 hT.Q8 id) (ho.DT hrv)) O<|G4 O<|A4 O<|D2 O<|D2 O<|D2 O ?_;exact D2 O<|K8 O<|A6<|R1 O<|A3<|B9 (O7 ((Y2 0 0 H4 0 (.slice none 0 0)).toList) NJ O) O<|E8 0 (Y2 0 0 H4 0 (.slice none 0 0)) O<|A5 O<|D4<|K0<|NK<|O5 0 O λw9 ho9=>⟨rfl,ho9.plain⟩
end
end Go.Proofs.YtjkhokkdgfbhcaaGreatDoor
namespace Go.Proofs.YtjkhokkdgfbhcaaGreatDoor
open Go.RowKit
theorem av9{P:Program}{r:Option Nat}{n:Nat}{E:X0}{C:I3}{H:List C2}{Q:Exit->Act->B6->Prop}{l:Nat}(h:At n E C H (Q .normal)):At n E C H (F8 r P (Code.label l) Q):=λa w hf hd ho=>wpIn_label (h a w hf hd ho)
attribute [local irreducible] F8 D3 Exit.then Exit.inBlock Exit.noGoto wpQuiet Calls fin At G9 L3 L7 RQ R9
theorem VX{P:Program}{n:Nat}{E:X0}{C:I3}{H:List C2}{o:Oper}{a:Act}{w:B6}{Q:Value->B6->Prop}{v:Nat->Value}{q:Nat->C2}(h:∀a w,U2 n E a->B7 C H w->∃g w',(execOp a.eval o).run P w=.ok (.value (v g)) w'/\B7 C (q g::H) w')(hf:U2 n E a)(ho:B7 C H w)(k:∀g w',B7 C (q g::H) w'->Q (v g) w'):∃u w',(execOp a.eval o).run P w=.ok (.value u) w'/\Q u w':=by
 obtain⟨g,w',h1,h2⟩:=h a w hf ho;exact⟨_,w',h1,k g w' h2⟩
theorem gS{P:Program}{n:Nat}{E:X0}{C:I3}{H:List C2}{dst:Option Tmp}{t ty:TypeId}{pos:String}{after:Array Edge}:∀a w,U2 n E a->B7 C H w->∃g w',(execOp a.eval ⟨dst,.makeMap t none,ty,pos,after,none⟩).run P w=.ok (.value (.map (some g))) w'/\B7 C (.obj g (P2 [])::H) w':=by
 intro a w hf ho;refine⟨w.heap.size,w.alloc (P2 []),?_,ho.Ws _ rfl⟩;simp only[execOp];rfl
theorem xF(m:Nat):(madeCells (D8 H4).toArray (m*3)).toList=P8 (List.replicate m H4):=by
 apply Nk;intro k;have hlen:(P8 (List.replicate m H4)).length=m*3:=by rw[P8,Qu Hh];simp
 by_cases h:k<m*3
 ·have hi:(List.replicate m H4)[k/3]?=some H4:=by
   rw[YO,if_pos (by omega)]
  have hj:k%3<3:=Rg _ (by decide);have h2:=rT hi hj;rw[show 0+k/3*3+k%3=k by omega] at h2;rw[h2];simp only[madeCells,Array.toList_map,Array.toList_range,Kj];rw[List.getElem?_range (by omega)];have e3:(D8 H4).toArray.size=3:=rfl;simp only[Rh,e3];have:k%3=0\/k%3=1\/k%3=2:=by omega
  rcases this with h|h|h<;>rw[h]<;>rfl
 ·rw[Fa (by simp[madeCells];omega),Fa (by omega)]
def Ji(gc:Nat)(rv wv:Value)(G0:Int)(u5 u6 u7:Value):Array Value:= #[.pointer (some ⟨gc,0,none⟩),rv,wv,.int .i64 0,.int .i64 G0,.slice none 0 0,u5,.slice none 0 0,.slice none 0 0,u6,u7,.int .i64 0,.int .i64 0,.int .i64 0,.int .i64 0,.string (bs []),.int .i64 0,.slice none 0 0,.bool false]
theorem vW:Ae Tryz.prog 114=some ([.pointer none,.slice none 0 0,.slice none 0 0,.int .i64 0,.int .i64 0,.slice none 0 0,.slice none 0 0,.slice none 0 0,.slice none 0 0,.map none,.map none,.int .i64 0,.int .i64 0,.int .i64 0,.int .i64 0,.string (bs []),.int .i64 0,.slice none 0 0,.bool false],[(0,1),(1,2),(3,1),(4,1),(5,1),(6,1),(7,1),(8,1),(9,1),(10,1),(11,7),(18,1)]):=by kernel_rfl
def DV:Value->Nat
 |.map (some g)=>g
 |_=>0
def Bp(B8 gc:Nat)(rv wv:Value)(G0:Int)(lst:Nat->Bool)(vs:Nat->Value):Prop:=
 (lst 5=true->∃g,vs 5=.slice (some ⟨g,0,none⟩) B8 B8)/\(lst 6=true->∃g,vs 6=.map (some g))/\(lst 7=true->∃g,vs 7=.map (some g))/\
 (lst 8=true->lst 5=true/\lst 6=true/\lst 7=true/\vs 8=.agg (Ji gc rv wv G0 (vs 5) (vs 6) (vs 7)))/\(lst 9=true->lst 8=true/\∃b,vs 9=.pointer (some ⟨b,0,none⟩))
def y6(B8 gc:Nat)(rv wv:Value)(G0:Int)(lst:Nat->Bool)(vs:Nat->Value):List C2:=
 (if lst 5 then[.row (vs 5) I4 3 B8 (P8 (List.replicate B8 H4))] else[])++(if lst 6 then[.obj (DV (vs 6)) (P2 [])] else[])++(if lst 7 then[.obj (DV (vs 7)) (P2 [])] else[])++(if lst 9 then[.B1 (Mz (vs 9)) CW (Ji gc rv wv G0 (vs 5) (vs 6) (vs 7))] else[])
open Classical in
noncomputable def rnXs(B8 gc:Nat)(rv wv:Value)(G0:Int)(lst:Nat->Bool)(vs:Nat->Value):List C2:=
 if Bp B8 gc rv wv G0 lst vs then y6 B8 gc rv wv G0 lst vs else[.B1 0 0 #[],.B1 0 0 #[]]
section
variable{B8 gc:Nat}{rv wv:Value}{G0:Int}{lst:Nat->Bool}{vs:Nat->Value}
theorem NI{C:I3}{A:List C2}{w:B6}(h:B7 C (A++rnXs B8 gc rv wv G0 lst vs) w):Bp B8 gc rv wv G0 lst vs/\B7 C (A++y6 B8 gc rv wv G0 lst vs) w:=by
 unfold rnXs at h;split at h
 ·exact⟨by assumption,h⟩
 ·exact(RO h).elim
theorem OZ(h:Bp B8 gc rv wv G0 lst vs):rnXs B8 gc rv wv G0 lst vs=y6 B8 gc rv wv G0 lst vs:=by
 unfold rnXs;rw[if_pos h]
theorem Bp.Ow(h:Bp B8 gc rv wv G0 lst vs)(h0:lst 5=false\/lst 6=false\/lst 7=false):lst 8=false/\lst 9=false:=by
 obtain⟨h5,h6,h7,h8,h9⟩:=h;have e8:lst 8=false:=by
  cases e:lst 8 with
  |false=>rfl
  |true=>
   obtain⟨a,b,c,_⟩:=h8 e;rcases h0 with h0|h0|h0
   ·rw[h0] at a;cases a
   ·rw[h0] at b;cases b
   ·rw[h0] at c;cases c
 refine⟨e8,?_⟩;cases e:lst 9 with
 |false=>rfl
 |true=>have:=(h9 e).1;rw[e8] at this;cases this
theorem Bp.s5(h:Bp B8 gc rv wv G0 lst vs)(hl:lst 5=false)(g:Nat):Bp B8 gc rv wv G0 (Q3 lst 5) (U9 vs 5 (.slice (some ⟨g,0,none⟩) B8 B8)):=by
 obtain⟨e8,e9⟩:=h.Ow (.inl hl);obtain⟨h5,h6,h7,h8,h9⟩:=h;refine⟨λ_=>⟨g,rfl⟩,h6,h7,λh=>?_,λh=>?_⟩
 ·have h:lst 8=true:=h;rw[e8] at h;cases h
 ·have h:lst 9=true:=h;rw[e9] at h;cases h
theorem Bp.s6(h:Bp B8 gc rv wv G0 lst vs)(hl:lst 6=false)(g:Nat):Bp B8 gc rv wv G0 (Q3 lst 6) (U9 vs 6 (.map (some g))):=by
 obtain⟨e8,e9⟩:=h.Ow (.inr (.inl hl));obtain⟨h5,h6,h7,h8,h9⟩:=h;refine⟨h5,λ_=>⟨g,rfl⟩,h7,λh=>?_,λh=>?_⟩
 ·have h:lst 8=true:=h;rw[e8] at h;cases h
 ·have h:lst 9=true:=h;rw[e9] at h;cases h
theorem Bp.s7(h:Bp B8 gc rv wv G0 lst vs)(hl:lst 7=false)(g:Nat):Bp B8 gc rv wv G0 (Q3 lst 7) (U9 vs 7 (.map (some g))):=by
 obtain⟨e8,e9⟩:=h.Ow (.inr (.inr hl));obtain⟨h5,h6,h7,h8,h9⟩:=h;refine⟨h5,h6,λ_=>⟨g,rfl⟩,λh=>?_,λh=>?_⟩
 ·have h:lst 8=true:=h;rw[e8] at h;cases h
 ·have h:lst 9=true:=h;rw[e9] at h;cases h
theorem Bp.s8(h:Bp B8 gc rv wv G0 lst vs)(hl:lst 8=false)(a:lst 5=true)(b:lst 6=true)(c:lst 7=true):Bp B8 gc rv wv G0 (Q3 lst 8) (U9 vs 8 (.agg (Ji gc rv wv G0 (vs 5) (vs 6) (vs 7)))):=by
 obtain⟨h5,h6,h7,h8,h9⟩:=h;exact⟨h5,h6,h7,λ_=>⟨a,b,c,rfl⟩,λh=>⟨rfl,(h9 h).2⟩⟩
theorem Bp.s9(h:Bp B8 gc rv wv G0 lst vs)(hh:lst 8=true)(b:Nat):Bp B8 gc rv wv G0 (Q3 lst 9) (U9 vs 9 (.pointer (some ⟨b,0,none⟩))):=by
 obtain⟨h5,h6,h7,h8,h9⟩:=h;exact⟨h5,h6,h7,h8,λ_=>⟨hh,b,rfl⟩⟩
end
theorem QU{B8 gc:Nat}{rv wv:Value}{G0:Int}{lst:Nat->Bool}{vs:Nat->Value}{j:Nat}(h:Nat.blt j 5=true)(u:Value):rnXs B8 gc rv wv G0 (Q3 lst j) (U9 vs j u)=rnXs B8 gc rv wv G0 lst vs:=by
 have hj:j<5:=by simpa using h
 have a:∀k,5<=k->Q3 lst j k=lst k:=λk hk=>by unfold Q3;rw[show Nat.beq k j=false from by rw[Bool.eq_false_iff];intro h;have:=DK h;omega];rfl
 have b:∀k,5<=k->U9 vs j u k=vs k:=λk hk=>by unfold U9;rw[if_neg (by omega)]
 unfold rnXs Bp y6;rw[a 5 (by omega),a 6 (by omega),a 7 (by omega),a 8 (by omega),a 9 (by omega),b 5 (by omega),b 6 (by omega),b 7 (by omega),b 8 (by omega),b 9 (by omega)]
theorem UB{α:Type}(q:α)(A L L':List α)(h:L'.Perm (q::L)):(q::(A++L)).Perm (A++L'):=
 Nr.symm.trans (h.symm.append_left A)
section
variable{B8 gc:Nat}{rv wv:Value}{G0:Int}{lst:Nat->Bool}{vs:Nat->Value}
theorem tI(h5:lst 5=false)(h9:lst 9=false)(u:Value):(y6 B8 gc rv wv G0 (Q3 lst 5) (U9 vs 5 u)).Perm (.row u I4 3 B8 (P8 (List.replicate B8 H4))::y6 B8 gc rv wv G0 lst vs):=by
 have e1:y6 B8 gc rv wv G0 (Q3 lst 5) (U9 vs 5 u)=[.row u I4 3 B8 (P8 (List.replicate B8 H4))]++(if lst 6 then[.obj (DV (vs 6)) (P2 [])] else[])++(if lst 7 then[.obj (DV (vs 7)) (P2 [])] else[])++[]:=by
  unfold y6;rw[show Q3 lst 5 9=false from h9];rfl
 have e2:y6 B8 gc rv wv G0 lst vs=[]++(if lst 6 then[.obj (DV (vs 6)) (P2 [])] else[])++(if lst 7 then[.obj (DV (vs 7)) (P2 [])] else[])++[]:=by
  unfold y6;rw[h5,h9];rfl
 rw[e1,e2];exact List.Perm.refl _
theorem nZ(h6:lst 6=false)(h9:lst 9=false)(u:Value):(y6 B8 gc rv wv G0 (Q3 lst 6) (U9 vs 6 u)).Perm (.obj (DV u) (P2 [])::y6 B8 gc rv wv G0 lst vs):=by
 have e1:y6 B8 gc rv wv G0 (Q3 lst 6) (U9 vs 6 u)=(if lst 5 then[.row (vs 5) I4 3 B8 (P8 (List.replicate B8 H4))] else[])++[.obj (DV u) (P2 [])]++(if lst 7 then[.obj (DV (vs 7)) (P2 [])] else[])++[]:=by
  unfold y6;rw[show Q3 lst 6 9=false from h9];rfl
 have e2:y6 B8 gc rv wv G0 lst vs=(if lst 5 then[.row (vs 5) I4 3 B8 (P8 (List.replicate B8 H4))] else[])++[]++(if lst 7 then[.obj (DV (vs 7)) (P2 [])] else[])++[]:=by
  unfold y6;rw[h6,h9];rfl
 rw[e1,e2]
 classical
 exact YT.2 λx=>by simp only[Rb,Uu,List.count_nil];omega
theorem af9(h7:lst 7=false)(h9:lst 9=false)(u:Value):(y6 B8 gc rv wv G0 (Q3 lst 7) (U9 vs 7 u)).Perm (.obj (DV u) (P2 [])::y6 B8 gc rv wv G0 lst vs):=by
 have e1:y6 B8 gc rv wv G0 (Q3 lst 7) (U9 vs 7 u)=(if lst 5 then[.row (vs 5) I4 3 B8 (P8 (List.replicate B8 H4))] else[])++(if lst 6 then[.obj (DV (vs 6)) (P2 [])] else[])++[.obj (DV u) (P2 [])]++[]:=by
  unfold y6;rw[show Q3 lst 7 9=false from h9];rfl
 have e2:y6 B8 gc rv wv G0 lst vs=(if lst 5 then[.row (vs 5) I4 3 B8 (P8 (List.replicate B8 H4))] else[])++(if lst 6 then[.obj (DV (vs 6)) (P2 [])] else[])++[]++[]:=by
  unfold y6;rw[h7,h9];rfl
 rw[e1,e2]
 classical
 exact YT.2 λx=>by simp only[Rb,Uu,List.count_nil];omega
theorem as2(h9:lst 9=false)(u:Value):(y6 B8 gc rv wv G0 (Q3 lst 9) (U9 vs 9 u)).Perm (.B1 (Mz u) CW (Ji gc rv wv G0 (vs 5) (vs 6) (vs 7))::y6 B8 gc rv wv G0 lst vs):=by
 have e1:y6 B8 gc rv wv G0 (Q3 lst 9) (U9 vs 9 u)=(if lst 5 then[.row (vs 5) I4 3 B8 (P8 (List.replicate B8 H4))] else[])++(if lst 6 then[.obj (DV (vs 6)) (P2 [])] else[])++(if lst 7 then[.obj (DV (vs 7)) (P2 [])] else[])++[.B1 (Mz u) CW (Ji gc rv wv G0 (vs 5) (vs 6) (vs 7))]:=rfl;have e2:y6 B8 gc rv wv G0 lst vs=(if lst 5 then[.row (vs 5) I4 3 B8 (P8 (List.replicate B8 H4))] else[])++(if lst 6 then[.obj (DV (vs 6)) (P2 [])] else[])++(if lst 7 then[.obj (DV (vs 7)) (P2 [])] else[])++[]:=by
  unfold y6;rw[h9];rfl
 rw[e1,e2,k5];exact HE _ _
end
end Go.Proofs.YtjkhokkdgfbhcaaGreatDoor
namespace Go.Proofs.YtjkhokkdgfbhcaaGreatDoor
open Go.RowKit Tryz
section
attribute [local irreducible] F8 D3 Exit.then Exit.inBlock Exit.noGoto wpQuiet Calls fin At G9 L3 L7 RQ R9
def au1(e:T4)(z:Cs)(m:Mc)(gs:Int):Array Value:= #[.pointer (some ⟨e.gc,0,none⟩),e.rv,e.wv,.int .i64 m.at_,.int .i64 m.left,z.sv,z.T6,z.lv,z.cv,.map (some e.gh),.map (some e.ge),.int .i64 m.code,.int .i64 m.node,.int .i64 m.val.kind,.int .i64 m.val.num,.string (bs m.val.K4),.int .i64 gs,.slice none 0 0,.bool m.ended]
def KS(g:Nat)(e:T4)(z:Cs)(m:Mc)(gs:Int):List C2:=
 .B1 g CW (au1 e z m gs)::.row z.sv I4 3 m.stack.length (P8 m.stack)::.row z.T6 I4 3 m.C0.length (P8 m.C0)::.row z.lv t7 1 m.lists.length (z.ls.map n5)::.row z.cv S7 1 m.counts.length (y7 m.counts)::.obj e.gh (P2 (R0 e.has))::.obj e.ge (P2 (R0 m.edits))::z.ls.map Bd
section
variable{w0:World}{e:T4}{m:Mc}
theorem av8(gs:Int)(hn:(m.edits.map (·.1)).Nodup)(hel:m.edits.length<=64)(g:Nat)(z:Cs)(w:B6)(ho:B7 (J1 w (KS g e z m gs)) (KS g e z m gs) w):
  Calls prog 40 #[.pointer (some ⟨g,0,none⟩)] w λen w'=>∃v,en=.returned v/\O0 w (λk=>k∈F1 (KS g e z m gs)) (.row v ET 4 (Cp m.edits).length (d3 (Cp m.edits))::KS g e z m gs) w':=by
 refine G7 ho func40 O ntmps40 O<|BY ET 4<|A3<|A5 O<|A3<|A5 O<|B5<|A4 O<|E5 O<|B2 1 O<|Ve (i:=7) (e:=I4) (l:=R0 m.edits) (by kernel_rfl) O O O λgi=>A6<|C7 ?_;rotate_left;refine l9 (σ:=Value×List Nat) (λs=>IG m.edits.length s.2) (λs=>[(0,.pointer (some ⟨g,0,none⟩)),(3,s.1),(10,.pointer (some ⟨gi,0,none⟩))])
  (λs=>.obj gi (Eo e.ge (R0 m.edits) s.2)::.row s.1 ET 4 (KQ m.edits s.2).length (d3 (KQ m.edits s.2))::KS g e z m gs) (λs=>m.edits.length-s.2.length)
  (λw ho=>⟨(.slice none 0 0,[]),⟨No,λj hj=>by cases hj⟩,⟨rfl,rfl,rfl,trivial⟩,ho⟩) ?_
 rintro⟨v3,vis⟩ hv;dsimp only at hv⊢;refine A3<|WY (i:=8) (j:=0) (l:=R0 m.edits) (vis:=vis) O O O O (λhall=>?_) (λq px hq hp=>?_);refine G1 O<|A6<|C8<|M8 O<|S4<|J0<|J0<|S5<|E2<|C8 ?_;rotate_left;refine G1 O<|A6<|C8<|R1 O<|D6<|C7<|A3 ?_;rotate_left
 ·rw[Qf] at hall;have hp1:=tN hv hall;have hl1:=aE (L:=m.edits) vis;have hvl:=hv.le;generalize KQ m.edits vis=L at hp1 hl1⊢;have hnL:(L.map (·.1)).Nodup:=(hp1.map _).nodup_iff.2 hn;have hsort:Cp L=Cp m.edits:=kP ((Rq L EN).trans hp1) (YN jS jL L) hn;have hsl:(Cp L).length=L.length:=YM _;refine x4 (H':=KS g e z m gs++[.row v3 ET 4 L.length (d3 L)]) O (λw ho=>(ho.sublist (L9 ..)).perm (HE _ _)) ?_;have cS:∀w,B7 (J1 w [.row v3 ET 4 L.length (d3 L)]) [.row v3 ET 4 L.length (d3 L)] w->Calls prog 89 #[v3,.func (.func 90) #[] #[]] w λe w'=>∃u:Unit,e=.returned (.tuple #[])/\O0 w (λk=>k∈F1 [.row v3 ET 4 L.length (d3 L)]) [.row v3 ET 4 L.length (d3 (Cp L))] w':=λw ho=>(az5 v3 L w (by omega) hnL ho).mono λe w' ⟨h1,h2⟩=>⟨(),h1,h2⟩
  rw[<-hsl] at cS⊢;rw[hsort] at cS⊢;generalize Cp m.edits=SS at cS⊢;exact C5<|A4 O<|W7 (ι:=Unit) (KS g e z m gs) [.row v3 ET 4 SS.length (d3 L)] (λ_=>.tuple #[]) (λ_=>[.row v3 ET 4 SS.length (d3 SS)]) O (A7 O) (λw _ ho=>cS w ho) O O λ_=>I9 O<|A5 O<|D4<|E4 O λw9 ho9=>⟨v3,rfl,_,_,ho9.perm (HE _ _).symm⟩
 ·obtain⟨x,hx,rfl⟩:=WX hp;have hlt:q<m.edits.length:=(N5.1 hx).1;have hl1:=aE (L:=m.edits) vis;have hvl:=hv.le;have hv3:=hv.more hq hlt;have hvl3:=hv3.le;have hst:=wY (vis:=vis) hx;rw[J8] at hvl3;generalize KQ m.edits vis=L at hl1 hst⊢;refine B9 (OA (i:=8) (j:=0) (q:=q) (l:=R0 m.edits) (vis:=vis) (p:=(x.1,O6 x.2)) O O O hp) O<|G1 O<|G1 O<|E3 P7 O λgz0=>E6 O<|E8 0 ((D8 x.2).toArray) O<|A6<|C5<|A4 O<|A4 O<|G6 0 O O<|B9 (O7 (g9 x) ar8 O) O<|N7 [.agg (g9 x).toArray] (g9 x) O λgl=>CT 3 ET 4 48 (L.length) 1 (g9 x) (by kernel_rfl) O (λw ho=>BI ho (i:=0) rfl) (kL _) (by simp only[maxLen];omega) O λv' hv'=>E6 O<|H6<|F4<|E2 ?_;rotate_left;exact W5 λw ho=>⟨(v',vis++[q]),hv3,by dsimp only;rw[J8];simp only[T3,Y4] at hvl3⊢;omega,⟨rfl,rfl,rfl,trivial⟩,rfl,by dsimp only;rw[hst,Ye,J8];exact ho.sublist (.cons _ (L9 ..))⟩
end
def GS(xs:List F5):List Ed:=xs.foldl (λl x=>BC l x.key (Iw x)) []
theorem aq0{xs:List F5}{i:Nat}{x:F5}(h:xs[i]?=some x):GS (xs.take (i+1))=BC (GS (xs.take i)) x.key (Iw x):=by
 rw[JG,h,Option.toList,GS,List.foldl_append];rfl
theorem ai7{xs:List F5}:∀{l:List Ed},Ab l->(l.map (·.1)).Nodup->(∀x∈xs,N2 (Iw x)/\x.key.length<=64)->
  Ab (xs.foldl (λl x=>BC l x.key (Iw x)) l)/\((xs.foldl (λl x=>BC l x.key (Iw x)) l).map (·.1)).Nodup/\(xs.foldl (λl x=>BC l x.key (Iw x)) l).length<=l.length+xs.length:=by
 induction xs with
 |nil=>exact λh1 h2 _=>⟨h1,h2,L6 _⟩
 |cons x xs ih=>
  intro l h1 h2 h3;have h4:Ab (BC l x.key (Iw x)):=⟨λy hy=>by
   rcases WK hy with rfl|hy
   ·exact h3 x (j8 ..)
   ·exact h1.ok y hy⟩
  have h5:=ih h4 (eI h2) (λy hy=>h3 y (.tail _ hy));refine⟨h5.1,h5.2.1,j7 h5.2.2 ?_⟩;rw[jB];simp only[T3];split<;>omega
theorem lH{fs:List (List F5)}{vs:List Int}(h:y8 fs vs=true)(hl:fs.length=16)(hr:∀x∈fs.flatten,r7 x.num):Ab (GS (Dh fs vs []))/\((GS (Dh fs vs [])).map (·.1)).Nodup/\(GS (Dh fs vs [])).length<=2000:=by
 have hlen:=iZ fs vs [];have hall:∀x∈Dh fs vs [],N2 (Iw x)/\x.key.length<=64:=by
  have hm:=aj9 h hl;obtain⟨h1,h2,h3⟩:=ax6 h hl;unfold Dh LG;split
  ·rw[hm];intro x hx;have hx:=(Pi.1 hx).1;exact mU (h3 x hx) (hr x ((WV (SX h hl)).mem_iff.1 hx))
  ·exact λx hx=>by cases hx
 have:=ai7 (xs:=Dh fs vs []) (l:=[]) ⟨λx hx=>by cases hx⟩ No hall;exact⟨this.1,this.2.1,j7 this.2.2 (by simpa using hlen)⟩
theorem au7{α:Type}(a b c d e f g h i j:α):[a,b,c,d,e,f,g,h,i,j].Perm [e,d,b,h,i,j,c,f,g,a]:=by
 classical
 exact YT.2 λx=>by simp only[Rb];omega
structure oL(w:World)(gc B8:Nat)(M:Cd)(T:Nat->Ty)(ls:List Value)(vs:List Int)(fs:List (List F5))(rv wv:Value)(W:Wt):Prop where
 p6:Cr w
 tr:Tr w ls vs fs
 code:Hd w gc B8 M
 cert:Jh B8 M T
 rv:T7 w rv (D1 W.reads)
 wv:T7 w wv (D1 W.writes)
 rl:W.reads.length<=1000
 wl:W.writes.length<=1000
 Wm:∀x∈fs.flatten,r7 x.num
 short:M.ins.length<=80000
 DW:B8<=80000
theorem LB{c node:Int}{v:Vl}{G0:Int}{es:Value}(h:es.oneCell'=true):((Y2 c node v G0 es).toList.all (·.oneCell'))=true:=by
 show(true&&(true&&(true&&(true&&(true&&(true&&(es.oneCell'&&true)))))))=true;rw[h];rfl
def GE(m:Mc):List Ed:=if m.code=0 then Cp m.edits else[]
theorem an7(gc B8:Nat)(M:Cd)(T:Nat->Ty)(ls:H2)(vs:List Int)(fs:List (List F5))(F6 by' ks G0:Int)(rv wv:Value)(W:Wt)(w:B6)(hI:oL w gc B8 M T ls vs fs rv wv W)
  (h:KA fs vs F6 by' ks W G0=true):Calls prog 18 #[.pointer (some ⟨gc,0,none⟩),.agg (O2 ls vs F6 by' ks),.agg #[rv,wv],.int .i64 G0] w λe w'=>∃m' v,Do W (GS (Dh fs vs [])) M (GC B8 G0.toNat) m'/\e=.returned (.tuple #[.agg (Y2 m'.code m'.node m'.val (G0-m'.left) v),.int .i64 0])/\Below w.heap.size w w'/\w'.ownsRow w.heap.size ET 4 v (GE m').length (d3 (GE m')):=by
 obtain⟨hgls,hT,hcode,hcert,hrv,hwv,hrl,hwl,hnums,hshort,hfew⟩:=hI;have hl1:=hT.t.l1;have hl:=hT.l;have hz:=FG (F6:=F6) (by':=by') (ks:=ks) hl1 hl;simp only[KA,j1,decide_eq_true_eq,Bool.not_eq_true'] at h;obtain⟨⟨⟨⟨h1,h2'⟩,h3'⟩,h4⟩,h5⟩:=h;have h2:¬G0<0:=by omega
 have h3:¬G0>100000:=by omega
 have hmt:y8 fs vs=true:=by
  simp only[NH,j1] at h1;exact h1.1.1.1.1.1.1
 obtain⟨hok,hnd,hlen⟩:=lH hmt hT.t.l2 hnums;have cM:∀{w'},Tr w' ls vs fs->I6 34 #[.agg (O2 ls vs F6 by' ks)] w' (.bool true):=λg=>by rw[<-h1];exact aN ls vs fs F6 by' ks _ g
 have cR:∀{w'},j0 w'->T7 w' rv (D1 W.reads)->I6 35 #[rv,.func (.func 32) #[] #[]] w' (.bool false):=λg hv=>by rw[<-h4];exact SG rv _ _ g hv hrl
 have cV:∀{w'},j0 w'->T7 w' wv (D1 W.writes)->I6 35 #[wv,.func (.func 32) #[] #[]] w' (.bool false):=λg hv=>by rw[<-h5];exact SG wv _ _ g hv hwl
 have cS:∀{w'},Hd w' gc B8 M->I6 36 #[.pointer (some ⟨gc,0,none⟩)] w' (.int .i64 B8):=λ⟨u,iv,vv,f,hi,hb,_⟩=>pR gc u iv vv f B8 hi _ hb;have cA:∀{w'} (i:Nat) (x:f9),Hd w' gc B8 M->M.ins[i]?=some x->Calls prog 38 #[.pointer (some ⟨gc,0,none⟩),.int .i64 i] w' λe w'=>e=.returned (.tuple #[u0 x,.bool true])/\Below _ _ w':=λi x hc hx=>wO gc B8 M i x _ hc hx;obtain⟨g0,rfl⟩:=Ri h2';refine J5 func18 O ntmps18 O<|A3<|F0 O λgz0=>F0 O λgz1=>E3 FD O λgz2=>A5 O<|OC<|A3<|A5 O<|B5<|G6 2 O hz<|F3 34 (A7 O) (λw ho=>cM (ho.tr hT)) O<|J7 O<|A4 O<|B3 O<|A4 O<|B3 O<|H9 O<|G4 O<|A4 O<|F9 25 false O (decide_eq_false (by exact h2))<|B3 O<|A4 O<|B3 O<|Q7 O<|G4 O<|A4 O<|F9 29 false O (decide_eq_false (by exact h3))<|B3 O<|D9 O<|B3 O<|N3 1 O<|B3 O<|A4 O<|B3 O<|F3 35 (A7 O) (λw ho=>cR (ho.Q8 hT.Q8 id) (ho.DT hrv)) O<|G4 O<|A4 O<|B3 O<|D9 O ?_;refine B3 O<|N3 1 O<|B3 O<|A4 O<|B3 O<|F3 35 (A7 O) (λw ho=>cV (ho.Q8 hT.Q8 id) (ho.DT hwv)) O<|G4 O<|A6<|M8 O<|D6<|C8 ?_;apply Bh 10 [_,_,_,_,_,.rel λ_ _=>True,.rel λ_ _=>True,.rel λ_ _=>True,.rel λ_ _=>True,.rel λ_ _=>True] (λlst vs'=>[.B1 gz2 Ja (Y2 0 0 H4 0 (.slice none 0 0)),.B1 gz1 31 #[rv,wv],.B1 gz0 28 (O2 ls vs F6 by' ks)]++rnXs B8 gc rv wv g0 lst vs') (by kernel_rfl) (by kernel_rfl) (by kernel_rfl)
 ·intro vs';have hg:Bp B8 gc rv wv g0 (λ_=>false) vs':=⟨(λh=>by cases h),(λh=>by cases h),(λh=>by cases h),(λh=>by cases h),(λh=>by cases h)⟩
  rw[OZ hg];rfl
 ·refine E9 O (F7 O (λlst vs hl he=>D0 (H8 O)) (λ_ _ _=>congrArg _ (QU rfl _)))<|E9 O (F7 O (λlst vs hl he=>D0 (FY 1 (k:=2) O)) (λ_ _ _=>congrArg _ (QU rfl _)))<|E9 O (F7 O (λlst vs hl he=>D0 (H8 O)) (λ_ _ _=>congrArg _ (QU rfl _)))<|E9 O (F7 O (λlst vs hl he=>D0 (H8 O)) (λ_ _ _=>congrArg _ (QU rfl _)))<|E9 O (F7 O (λlst vs hl he=>IZ (A7 O) (λw ho _=>cS (hcode.K6 ho.plain))) (λ_ _ _=>congrArg _ (QU rfl _)))<|E9 O (CZ O λlst vs hl he a w hf ho hx=>?_) ?_;rotate_left;refine E9 O (CZ O λlst vs hl he a w hf ho hx=>?_) ?_;rotate_left;refine E9 O (CZ O λlst vs hl he a w hf ho hx=>?_) ?_;rotate_left;refine E9 O (CZ O λlst vs hl he a w hf ho hx=>?_) ?_;rotate_left;refine E9 O (CZ O λlst vs hl he a w hf ho hx=>?_) ?_;rotate_left;exact Bf
  ·obtain⟨hg,ho2⟩:=NI ho;have hl':lst 5=false:=hl;obtain⟨e8,e9⟩:=hg.Ow (.inl hl');refine .inl (VX (aB (by':=32) (m:=B8) (e:=I4) (sz:=3) (P8 (List.replicate B8 H4)) (by kernel_rfl) (λi z q1 q2=>?_) rfl rfl (by simp only[maxLen];omega)) hf ho2 (λg w' h7=>⟨?_,trivial⟩))
   ·have hz:(prog.info? I4).bind (·.zero)=some (.agg (D8 H4).toArray):=by kernel_rfl
    rw[q1] at hz;simp only[RZ] at hz;rw[q2] at hz;cases hz;exact xF _
   ·rw[OZ (hg.s5 hl' g)];exact h7.perm (UB _ _ _ _ (tI hl' e9 _)).symm
  ·obtain⟨hg,ho2⟩:=NI ho;have hl':lst 6=false:=hl;obtain⟨e8,e9⟩:=hg.Ow (.inr (.inl hl'));refine .inl (VX gS hf ho2 (λg w' h7=>⟨?_,trivial⟩));rw[OZ (hg.s6 hl' g)];exact h7.perm (UB _ _ _ _ (nZ hl' e9 _)).symm
  ·obtain⟨hg,ho2⟩:=NI ho;have hl':lst 7=false:=hl;obtain⟨e8,e9⟩:=hg.Ow (.inr (.inr hl'));refine .inl (VX gS hf ho2 (λg w' h7=>⟨?_,trivial⟩));rw[OZ (hg.s7 hl' g)];exact h7.perm (UB _ _ _ _ (af9 hl' e9 _)).symm
  ·obtain⟨hg,ho2⟩:=NI ho;have hl':lst 8=false:=hl;have a5:lst 5=true:=he 5 (by decide);have a6:lst 6=true:=he 6 (by decide);have a7:lst 7=true:=he 7 (by decide);obtain⟨g5,b5⟩:=hg.1 a5;obtain⟨g6,b6⟩:=hg.2.1 a6;obtain⟨g7,b7⟩:=hg.2.2.1 a7;refine .inl ⟨.agg (Ji gc rv wv g0 (vs 5) (vs 6) (vs 7)),w,?_,?_,trivial⟩
   ·rw[b5,b6,b7];exact TC (cs:=(Ji gc rv wv g0 (.slice (some ⟨g5,0,none⟩) B8 B8) (.map (some g6)) (.map (some g7))).toList) (vs:=[(0,.pointer (some ⟨gc,0,none⟩)),(1,.agg #[rv,wv]),(3,.int .i64 g0),(5,.slice (some ⟨g5,0,none⟩) B8 B8),(8,.map (some g6)),(9,.map (some g7))]) vW (by rw[<-b5,<-b6,<-b7];rfl) (by kernel_rfl) a w hf ho
   ·rw[OZ (hg.s8 hl' a5 a6 a7)];exact ho2
  ·obtain⟨hg,ho2⟩:=NI ho;have hl':lst 9=false:=hl;have a8:lst 8=true:=he 8 (by decide);obtain⟨a5,a6,a7,b8⟩:=hg.2.2.2.1 a8;refine .inl (bN (XT (cs:=Ji gc rv wv g0 (vs 5) (vs 6) (vs 7)) ((show ev _ _=some (vs 8) from rfl).trans (by rw[b8]))) hf ho2 (λb w' h7=>⟨?_,trivial⟩));rw[OZ (hg.s9 a8 b)];exact h7.perm (UB _ _ _ _ (as2 hl' _)).symm
 ·(repeat(first|exact trivial|exact(λ_ _ _ h=>h)|refine⟨trivial,?_⟩|refine⟨λ_ _ _ h=>h,?_⟩))
 ·intro vs' w1 hf1;refine Oy (φ:=(∃g,vs' 5=e6 g B8)/\(∃g,vs' 6=.map (some g))/\(∃g,vs' 7=.map (some g))/\∃b,vs' 9=.pointer (some ⟨b,0,none⟩)) (λw ho=>by have hg:=(NI ho).1;exact⟨hg.1 rfl,hg.2.1 rfl,hg.2.2.1 rfl,(hg.2.2.2.2 rfl).2⟩) ?_;rintro⟨⟨g5,b5⟩,⟨gh,b6⟩,⟨ge,b7⟩,⟨gm,b9⟩⟩;refine x4 (H':=[.B1 gz2 Ja (Y2 0 0 H4 0 (.slice none 0 0)),.B1 gz1 31 #[rv,wv],.B1 gz0 28 (O2 ls vs F6 by' ks)]++[.row (e6 g5 B8) I4 3 B8 (P8 (List.replicate B8 H4)),.obj gh (P2 []),.obj ge (P2 []),.B1 gm CW (Ji gc rv wv g0 (e6 g5 B8) (.map (some gh)) (.map (some ge)))]) O (λw ho=>by
   have h:=(NI ho).2;unfold y6 at h;rw[b5,b6,b7,b9] at h;exact h) ?_
  refine Ai (E':=[(51,.pointer (some ⟨gm,0,none⟩)),(0,.pointer (some ⟨gc,0,none⟩)),(3,.int .i64 g0),(5,.pointer (some ⟨gz0,0,none⟩)),(8,.pointer (some ⟨gz2,0,none⟩))]) ⟨by rw[<-b9];rfl,rfl,rfl,rfl,rfl,trivial⟩<|BY I4 3<|BY t7 1<|BY S7 1<|CE (H':=O3 gm ⟨gc,rv,wv,gh,ge,[]⟩ ⟨.slice none 0 0,e6 g5 B8,.slice none 0 0,.slice none 0 0,[]⟩ (GC B8 g0)++[.B1 gz2 Ja (Y2 0 0 H4 0 (.slice none 0 0)),.B1 gz1 31 #[rv,wv],.B1 gz0 28 (O2 ls vs F6 by' ks)]) ?_ ?_
  ·have hr:(List.replicate B8 H4).length=B8:=List.length_replicate;unfold O3 GC;dsimp only;rw[hr];exact au7 _ _ _ _ _ _ _ _ _ _
  have hpt:=WU (F6:=F6) (by':=by') (ks:=ks) hl1 hl;have hln:(ls++X2 vs).length=32:=by simp[X2,hl1,hl]
  have hul:=iZ fs vs [];have cU:∀{w'},Tr w' ls vs fs->Calls prog 37 #[.agg (ls++X2 vs).toArray,.string (bs [])] w' λe w3=>∃(u:Unit) (v:Value),e=.returned (.tuple #[v,.int .i64 (Kw fs vs [] [])])/\Below w'.heap.size w' w3/\w3.ownsRow w'.heap.size IT 5 v (Dh fs vs []).length (Ah (Dh fs vs [])):=λg=>(rG ls vs fs [] _ g).mono λe w3 ⟨v,h1,h2,h3⟩=>⟨(),v,h1,h2,h3⟩
  generalize Dh fs vs []=U at*;generalize Kw fs vs [] []=eu at*;refine A5 O<|A3<|D9 O<|B9 (o4 9 (0+0) (ls++X2 vs) (by rw[hln];kernel_rfl) O (by rw[hln];exact hpt)) O<|Ib (f:=37) (ι:=Unit) (e:=IT) (sz:=5) (m:=U.length) (xs:=Ah U) (λ_ v=>.tuple #[v,.int .i64 eu]) (A7 O) (λw ho=>cU (ho.tr hT)) O O λ_ v55=>A4 O<|G1 O<|G1 O<|E6 O<|A5 O<|B5<|A4 O<|BA 0 O<|A4 O<|A6<|C7 ?_;rotate_left;refine l9 (σ:=Nat) (λi=>i<=U.length) (λi=>[(58,v55),(59,.int .i64 U.length),(60,.int .i64 i),(11,.pointer (some ⟨gm,0,none⟩)),(0,.pointer (some ⟨gc,0,none⟩)),(3,.int .i64 g0),(8,.pointer (some ⟨gz2,0,none⟩))])
   (λi=>.row v55 IT 5 U.length (Ah U)::O3 gm ⟨gc,rv,wv,gh,ge,GS (U.take i)⟩ ⟨.slice none 0 0,e6 g5 B8,.slice none 0 0,.slice none 0 0,[]⟩ (GC B8 g0)++[.B1 gz2 Ja (Y2 0 0 H4 0 (.slice none 0 0)),.B1 gz1 31 #[rv,wv],.B1 gz0 28 (O2 ls vs F6 by' ks)]) (λi=>U.length-i)
   (λw ho=>⟨0,R5 _,⟨rfl,rfl,rfl,rfl,rfl,rfl,rfl,trivial⟩,ho⟩) ?_
  intro i hi;by_cases hil:i<U.length
  ·refine R7 0 O ?_;rintro⟨_,⟨_,h00⟩|⟨gi,ci,rfl⟩⟩
   ·omega
   have hx:U[i]?=some U[i]:=T8 hil;have hst:=aq0 hx;generalize U[i]=x at hx hst;refine A3<|H9 O<|A6<|C8<|E7 O (by omega)<|D6<|C8<|C7<|A3<|Q4 (j:=i) O hil<|U6 (vs:=c6 x) O (λw' ho=>X7 JK ho (q:=0) rfl hx)<|E3 IE O λgz0=>q8 (i:=0) (vs:=(c6 x).toArray) (by kernel_rfl) O O (KB x) O O<|A6 ?_;apply BL 8 [_,_,_,_,_,_,_,_] (by kernel_rfl) (by kernel_rfl) (by kernel_rfl)
   ·refine D5 O (λvs=>H8 O)<|D5 O (λvs=>N1 O)<|D5 O (λvs=>I8 9 O)<|D5 O (λvs=>K1 2 O)<|D5 O (λvs=>I8 0 O)<|D5 O (λvs=>K1 0 O)<|D5 O (λvs=>I8 1 O)<|D5 O (λvs=>o4 0 (0+1) [.int .i64 x.kind,.int .i64 x.num,.string (bs x.K4)] (by kernel_rfl) O O) ?_;exact l6
   ·(repeat(first|exact trivial|exact(λ_ _ _ h=>h)|refine⟨trivial,?_⟩|refine⟨λ_ _ _ h=>h,?_⟩))
   ·intro vs2;refine XP 7 (l:=GS (U.take i)) (k:=x.key) (v:=Iw x) O O O O<|H6<|F4<|E2<|C5<|N6 O (by omega)<|A4 O<|A6 ?_;rotate_left;exact W5 λw ho=>⟨i+1,by omega,by omega,⟨rfl,rfl,rfl,rfl,rfl,rfl,rfl,trivial⟩,rfl,by rw[hst];exact ho.sublist (L9 ..)⟩
  ·obtain rfl:i=U.length:=by omega
   rw[GQ];refine A3<|H9 O<|A6<|C8<|E0 O (by omega)<|S4<|J0<|J0<|S5<|E2<|C8 ?_;rotate_left;refine av9<|E2<|C8<|C7 ?_;rotate_left;generalize GS U=has at*;obtain⟨e,he⟩:∃e:T4,e=⟨gc,rv,wv,gh,ge,has⟩:=⟨_,rfl⟩
   have hE:ER w e W M B8:=by
    subst he;exact⟨hgls,hrv,hwv,hcode,hrl,hwl,hok,hnd,by show has.length<=5000;omega⟩
   have hes:e.has=has:=by rw[he]
   have hegc:e.gc=gc:=by rw[he]
   rw[<-he];have hG:MW w (⟨w,λ_=>False,λ_=>False,w,λ_=>False,[]⟩:I3):=⟨Below.refl _ _,λk h=>h.elim⟩
   refine l9 (σ:=Mc×Cs) (λs=>LM B8 T (M.ins.length-1) s.1/\HV s.2 s.1/\(∀m',Do W has M s.1 m'->Do W has M (GC B8 g0) m')/\s.1.left<=g0) (λs=>[(11,.pointer (some ⟨gm,0,none⟩)),(0,.pointer (some ⟨gc,0,none⟩)),(3,.int .i64 g0),(8,.pointer (some ⟨gz2,0,none⟩))])
    (λs=>[.B1 gz2 Ja (Y2 0 0 H4 0 (.slice none 0 0))]++O3 gm e s.2 s.1) (λs=>Gn (M.ins.length-1) M.ins s.1)
    (λw ho=>⟨(GC B8 g0,⟨.slice none 0 0,e6 g5 B8,.slice none 0 0,.slice none 0 0,[]⟩),⟨gM hcert g0,rfl,λm' h=>h,L6 _⟩,⟨rfl,rfl,rfl,rfl,trivial⟩,?_⟩) ?_
   ·have h:=ho.sublist (.cons _ (List.Sublist.append (Q5 (O3 gm e ⟨.slice none 0 0,e6 g5 B8,.slice none 0 0,.slice none 0 0,[]⟩ (GC B8 g0))) (HB [.B1 gz2 Ja (Y2 0 0 H4 0 (.slice none 0 0))] [.B1 gz1 31 #[rv,wv],.B1 gz0 28 (O2 ls vs F6 by' ks)])));exact h.perm EC
   rintro⟨m,z⟩ ⟨hinv,hz2,hrun,hleft⟩;dsimp only at hinv hz2 hrun hleft⊢;have hpos:m.at_<M.ins.length:=by
    obtain⟨x,hx,_⟩:=hcert.last;have:=(N5.1 hx).1;have:=hinv.pos;omega
   have hx:M.ins[m.at_]?=some M.ins[m.at_]:=T8 hpos;generalize M.ins[m.at_]=x at hx;have hst:=aj2 hE hcert hinv hx hshort hfew (by omega);have hgo:=Sh (W:=W) (has:=has) hcert hok hinv hx;have hfr:=Yg W has M.G5 x {m with at_:=m.at_+1};have hdone:=Do.done (W:=W) (has:=has) (M:=M) hx;have hmore:=λh m'=>Do.more (W:=W) (has:=has) (M:=M) (m':=m') hx h;rw[hes] at hst;have hi1:(m.at_:Int)+1=((m.at_+1:Nat):Int):=by omega
   have hien:=hinv.en;have hiel:=hinv.el;have hirun:=hinv.run;generalize Q6 W has M.G5 x {m with at_:=m.at_+1}=m1 at hst hgo hfr hdone hmore;cases hen:m1.ended
   ·obtain⟨hinv1,hmu1⟩:=hgo.resolve_left (by rw[hen];decide);refine C7<|B4 O<|A4 O<|E5 O<|B2 1 O<|F3 38 (A7 O) (λw ho=>cA m.at_ x (hcode.K6 ho.plain) hx) O<|A4 O<|G1 O<|G1 O<|E3 Tryz.zeroValue120 O λgz0=>E8 0 ((P4 x).toArray) O<|A5 O<|B4 O<|E5 O<|B2 2 O<|B9 (hi1▸Nc rfl rfl (by omega)) O<|E5 O<|D9 O<|N4 2 O<|I9 O<|G6 0 O O<|P0 [.B1 gz0 Q1 (P4 x).toArray,.B1 gz2 Ja (Y2 0 0 H4 0 (.slice none 0 0))] hst hG hz2 O (A7 O) O O λz1 hz1=>I9 O<|E5 O<|B2 2 O<|A6<|Y7 O (by exact hen)<|P5<|F4<|E2 ?_;rotate_left;exact W5 λw ho=>⟨(m1,z1),⟨hinv1,hz1,λm' h=>hrun m' (hmore hen m' h),j7 hfr.1 hleft⟩,hmu1,⟨rfl,rfl,rfl,rfl,trivial⟩,rfl,ho.sublist (L9 ..)⟩
   ·have hed:m1.edits=m.edits:=by
     rcases hfr.2 with h|h
     ·exact h
     ·have h:m1.ended=m.ended:=h;rw[hen,hirun] at h;cases h
    rw[<-hed] at hien hiel;have hlf1:m1.left<=g0:=j7 hfr.1 hleft;have hrun1:=hrun m1 (hdone hen);refine C7<|B4 O<|A4 O<|E5 O<|B2 1 O<|F3 38 (A7 O) (λw ho=>cA m.at_ x (hcode.K6 ho.plain) hx) O<|A4 O<|G1 O<|G1 O<|E3 Tryz.zeroValue120 O λgz0=>E8 0 ((P4 x).toArray) O<|A5 O<|B4 O<|E5 O<|B2 2 O<|B9 (hi1▸Nc rfl rfl (by omega)) O<|E5 O<|D9 O<|N4 2 O<|I9 O<|G6 0 O O<|P0 [.B1 gz0 Q1 (P4 x).toArray,.B1 gz2 Ja (Y2 0 0 H4 0 (.slice none 0 0))] hst hG hz2 O (A7 O) O O λz1 hz1=>I9 O<|E5 O<|B2 2 O<|A6<|k8 O (by exact hen)<|S4<|GI O<|J0<|S5<|E2<|B4 O<|A4 O<|A4 O<|E5 O<|B2 2 O<|B9 (DA O O (by omega)) O<|E5 O<|D9 O ?_;refine D9 O<|N4 2 O<|A6<|B5 ?_;by_cases hc0:m1.code=0
    ·refine A4 O<|E5 O<|D9 O<|B2 2 O<|H5 O<|A6<|E7 O (by exact hc0)<|C5<|A4 O<|A4 O<|W7 (ι:=Value) [.B1 gz0 Q1 (P4 x).toArray,.B1 gz2 Ja (Y2 0 0 H4 0 (.slice none 0 0))] (KS gm e z1 m1 ((g0:Int)-m1.left)) (λv=>v) (λv=>.row v ET 4 (Cp m1.edits).length (d3 (Cp m1.edits))::KS gm e z1 m1 ((g0:Int)-m1.left)) O (A7 O) (λw _ ho=>av8 _ hien hiel gm z1 w ho) O O (λv=>IB (i:=2) O (λhv1=>?_));refine E5 O<|D9 O<|D9 O<|Ce (i:=3) (by kernel_rfl) O O (by assumption) O O<|I9 O<|E5 O<|D9 O<|B9 (o4 3 (0+11) ((Y2 m1.code m1.node m1.val ((g0:Int)-m1.left) v).toList) (by kernel_rfl) O O) O<|q8 (i:=1) (vs:=Y2 m1.code m1.node m1.val ((g0:Int)-m1.left) v) (by kernel_rfl) O O (LB hv1) O O<|A5 O<|D4<|NK<|O5 1 O λw9 ho9=>?_;exact⟨m1,v,by rw[Cm];exact hrun1,rfl,ho9.plain,by rw[GE,if_pos hc0];exact ho9.GY (.tail _ (.tail _ (j8 ..)))⟩
    ·refine A4 O<|E5 O<|D9 O<|B2 2 O<|H5 O<|A6<|E0 O (by exact hc0)<|D6<|B4 O<|E5 O<|D9 O<|B9 (o4 2 (0+11) ((Y2 m1.code m1.node m1.val ((g0:Int)-m1.left) (.slice none 0 0)).toList) (by kernel_rfl) O O) O<|q8 (i:=1) (vs:=Y2 m1.code m1.node m1.val ((g0:Int)-m1.left) (.slice none 0 0)) (by kernel_rfl) O O (LB rfl) O O<|A5 O<|D4<|NK<|O5 1 O λw9 ho9=>?_;exact⟨m1,_,by rw[Cm];exact hrun1,rfl,ho9.plain,by rw[GE,if_neg hc0];exact World.ownsRow_nil _ _ _ _⟩
def Sm(S:Sc):Prop:=S.e=0->S.B8<=32
theorem Yp{s:C9}{i:Nat}{S:Sc}(h:Sm S):Sm (EP s i S):=by
 unfold EP Sm;dsimp only;split
 ·exact λhe=>absurd he (Mf _ _ _ (by decide))
 ·exact h
theorem kA{s:C9}{i:Int}{S:Sc}(h:Sm S):Sm (DE s i S):=by
 unfold DE Sm;dsimp only;split
 ·exact λhe=>absurd he (Mf _ _ _ (by decide))
 ·split
  ·exact λhe=>absurd he (Mf _ _ _ (by decide))
  ·intro he;have:=h he;omega
theorem OV:∀(e:Ex) (n:Nat) {S:Sc},Sm S->Sm (M5 e n S)
 |.no,_,_,h=>h
 |.nd k i s a b,n,S,h=>by
  simp only[M5];split
  ·exact Yp (OV b _ (OV a _ h))
  ·exact OV b _ (OV a _ h)
theorem eS(p:Int):∀(l:List (List UInt8)) {S:Sc},Sm S->Sm (AT l p S)
 |[],_,h=>h
 |s::l,S,h=>by
  have:=eS p l (kA (s:=s) (i:=p) h);unfold AT at*;exact this
theorem RX{f:Sc->Sc}(hf:∀S,Sm S->Sm (f S))(l:List (List UInt8))(p:Int){S:Sc}(h:Sm S):Sm (Aj f l p S):=hf _ (eS p l h)
theorem qN(k:Int)(s t:C9)(a b:Ex){fB fC:Sc->Sc}(hB:∀S,Sm S->Sm (fB S))(hC:∀S,Sm S->Sm (fC S))(n j:Nat){S:Sc}(h:Sm S):Sm (Eh k s t a b fB fC n j S):=by
 have h1:=OV a n h;unfold Eh;split
 ·exact OV b _ h1
 split
 ·exact kA (S:=AU j (M5 a n S)) h1
 split
 ·exact Yp h1
 split
 ·exact RX hC _ _ (RX hB _ _ h1)
 split
 ·exact RX hB _ _ (S:=AU j (M5 a n S)) h1
 split
 ·exact RX hB _ _ h1
 ·exact h1
theorem TF:∀(B:Bl) (n:Nat) (S:Sc),Sm S->Sm (k9 B n S)
 |.no,_,_,h=>h
 |.st k i s t a b B C r,n,S,h=>by
  simp only[k9];exact TF r _ _ (qN k s t a b (TF B _) (TF C _) _ _ h)
theorem rN{B:Bl}(he:(R3 B).e=0):(R3 B).B8<=32:=RX (TF B 0) [] (-1) (S:=Kr B.size) (λ_=>R5 _) he
theorem ac4{B:Bl}(hs:B.size<=512):(Cw B).ins.length<=80000:=by
 have h:=HI (R3 B).C0 B 0 ⟨[],[]⟩;have h2:(Cw B).ins.length=(T0 (R3 B).C0 B 0 ⟨[],[]⟩).ins.length+1:=by simp[Cw,G2]
 have h3:=h.2.1;simp only[Y4] at h3;omega
theorem ab3{W:Wt}{has:List Ed}{M:Cd}{B8:Nat}{T:Nat->Ty}(hc:Jh B8 M T)(hh:Ab has):∀(k:Nat) (m:Mc),Gn (M.ins.length-1) M.ins m<=k->LM B8 T (M.ins.length-1) m->∃m',Do W has M m m':=by
 intro k
 induction k with
 |zero=>
  intro m hk hi;obtain⟨x0,hx0,_⟩:=hc.last;have hp:m.at_<M.ins.length:=by have:=(N5.1 hx0).1;have:=hi.pos;omega
  have hx:M.ins[m.at_]?=some M.ins[m.at_]:=T8 hp;rcases Sh (W:=W) hc hh hi hx with h|⟨h1,h2⟩
  ·exact⟨_,.done hx h⟩
  ·omega
 |succ k ih=>
  intro m hk hi;obtain⟨x0,hx0,_⟩:=hc.last;have hp:m.at_<M.ins.length:=by have:=(N5.1 hx0).1;have:=hi.pos;omega
  have hx:M.ins[m.at_]?=some M.ins[m.at_]:=T8 hp;rcases Sh (W:=W) hc hh hi hx with h|⟨h1,h2⟩
  ·exact⟨_,.done hx h⟩
  ·obtain⟨m',hm⟩:=ih _ (by omega) h1;exact⟨m',.more hx h1.run hm⟩
abbrev Lg:Array Value:=Y2 0 0 H4 0 (.slice none 0 0)
section
variable{s:List UInt8}{B:Bl}{ls:List Value}{vs:List Int}{fs:List (List F5)}{F6 by' ks G0:Int}{rv wv:Value}{W:Wt}{w:World}
theorem nF(hp:EO s=none)(hz:(O2 ls vs F6 by' ks).size=35):
  Calls prog 8 #[.string (bs s),.agg (O2 ls vs F6 by' ks),.agg #[rv,wv],.int .i64 G0] w λe w'=>∃q:Int×Int,e=.returned (.tuple #[.agg Lg,.int .i64 q.1,.int .i64 q.2])/\Below w.heap.size w w'/\(q.1≠0/\(q.1=5\/s.length<=4096)):=by
 refine J5 func8 O ntmps8 O<|A3<|F0 O λgz0=>F0 O λgz1=>E3 FD O λgz2=>E6 O<|A5 O<|B4 O<|Qs (f:=17) (ι:=Int×Int) (λq=>q.1≠0/\(q.1=5\/s.length<=4096)) (λq=>.tuple #[.pointer none,.int .i64 q.1,.int .i64 q.2]) (A7 O) (λw ho=>yC hp w) O O λq17 hq17=>A4 O<|G1 O<|G1 O<|G1 O<|E6 O<|E6 O<|A5 O<|B5<|A4 O<|J3 O<|A6<|E7 O (by exact hq17.1)<|A3<|B9 (O7 (Lg.toList) NJ O) O<|A4 O<|A4 O<|E8 0 Lg O<|E6 O<|A5 O<|D4<|K0<|IP (i:=0) (k:=7) O O O O O O (by kernel_rfl) O λw9 ho9=>?_;exact⟨q17,rfl,ho9.plain,hq17⟩
theorem nP(hp:EO s=some (B.ix 0,N0 B 0))(hW:WB B)(hs:B.size<=512)(he:(R3 B).e≠0)(hz:(O2 ls vs F6 by' ks).size=35):
  I6 8 #[.string (bs s),.agg (O2 ls vs F6 by' ks),.agg #[rv,wv],.int .i64 G0] w (.tuple #[.agg Lg,.int .i64 (R3 B).e,.int .i64 (R3 B).at_]):=by
 refine J5 func8 O ntmps8 O<|A3<|F0 O λgz0=>F0 O λgz1=>E3 FD O λgz2=>E6 O<|A5 O<|B4 O<|F3 17 (A7 O) (λw ho=>qX hp hW hs he w) O<|A4 O<|G1 O<|G1 O<|G1 O<|E6 O<|E6 O<|A5 O<|B5<|A4 O<|J3 O<|A6<|E7 O (by exact he)<|A3<|B9 (O7 (Lg.toList) NJ O) O<|A4 O<|A4 O<|E8 0 Lg O<|E6 O<|A5 O<|D4<|K0<|IP (i:=0) (k:=7) O O O O O O (by kernel_rfl) O λw9 ho9=>?_;exact⟨rfl,ho9.plain⟩
theorem fI{w w':B6}{H:List C2}(h:O0 w (λ_=>False) H w'):O0 w (λk=>k∈F1 ([]:List C2)) H w':=by
 have e9:(λk=>k∈F1 ([]:List C2))=λ_=>False:=by
  funext k;simp[F1]
 rw[e9];exact h
theorem ac1(hp:EO s=some (B.ix 0,N0 B 0))(hW:WB B)(hs:B.size<=512)(he:(R3 B).e=0)(hT:Tr w ls vs fs)(hrv:T7 w rv (D1 W.reads))(hwv:T7 w wv (D1 W.writes))(hrl:W.reads.length<=1000)(hwl:W.writes.length<=1000)(h:KA fs vs F6 by' ks W G0=false):
  I6 8 #[.string (bs s),.agg (O2 ls vs F6 by' ks),.agg #[rv,wv],.int .i64 G0] w (.tuple #[.agg Lg,.int .i64 1,.int .i64 (-1)]):=by
 have hz:=FG (F6:=F6) (by':=by') (ks:=ks) hT.t.l1 hT.l;have cR:∀{w'} (cp:Value),Tr w' ls vs fs->T7 w' rv (D1 W.reads)->T7 w' wv (D1 W.writes)->I6 18 #[cp,.agg (O2 ls vs F6 by' ks),.agg #[rv,wv],.int .i64 G0] w' (.tuple #[.agg Lg,.int .i64 1]):=λcp g h1 h2=>pW cp ls vs fs F6 by' ks G0 rv wv W _ g h1 h2 hrl hwl h;refine J5 func8 O ntmps8 O<|A3<|F0 O λgz0=>F0 O λgz1=>E3 FD O λgz2=>E6 O<|A5 O<|B4 O<|W7 (ι:=Nat×Value×Value×Value×Int) _ [] (λq=>.tuple #[.pointer (some ⟨q.1,0,none⟩),.int .i64 0,.int .i64 (-1)]) (λq=>TJ q.1 q.2.1 q.2.2.1 q.2.2.2.1 (B.ix 0) (R3 B).B8 q.2.2.2.2 (Cw B)) (k5 _).symm (A7 O) (λw _ ho=>(kG hp hW hs he w).mono λe w' ⟨q,h1,h2⟩=>⟨q,h1,fI h2⟩) O O λq17=>A4 O<|G1 O<|G1 O<|G1 O<|E6 O<|E6 O<|A5 O<|B5<|A4 O<|J3 O<|A6<|E0 O (by decide)<|D6<|B4 O<|G6 2 O hz<|G6 1 O O<|A4 O<|F3 18 (A7 O) (λw ho=>cR _ (ho.tr hT) (ho.DT hrv) (ho.DT hwv)) O<|A4 O<|G1 O<|G1 O<|E3 FD O λgz3=>E8 0 _ O<|A5 O<|A3<|G6 0 O O<|A4 O<|E8 1 _ O<|E6 O<|A5 O<|D4 ?_;exact IP (i:=1) (k:=7) O O O O O O (by kernel_rfl) O λw9 ho9=>⟨rfl,ho9.plain⟩
theorem kC(hp:EO s=some (B.ix 0,N0 B 0))(hW:WB B)(hs:B.size<=512)(he:(R3 B).e=0)(hG:Cr w)(hT:Tr w ls vs fs)(hnum:∀x∈fs.flatten,r7 x.num)(hrv:T7 w rv (D1 W.reads))(hwv:T7 w wv (D1 W.writes))(hrl:W.reads.length<=1000)(hwl:W.writes.length<=1000)(h:KA fs vs F6 by' ks W G0=true)
  {m:Mc}(hm:Do W (GS (Dh fs vs [])) (Cw B) (GC (R3 B).B8 G0.toNat) m):
  Calls prog 8 #[.string (bs s),.agg (O2 ls vs F6 by' ks),.agg #[rv,wv],.int .i64 G0] w λe w'=>∃v,e=.returned (.tuple #[.agg (Y2 m.code m.node m.val (G0-m.left) v),.int .i64 0,.int .i64 (-1)])/\Below w.heap.size w w'/\w'.ownsRow w.heap.size ET 4 v (GE m).length (d3 (GE m)):=by
 have hz:=FG (F6:=F6) (by':=by') (ks:=ks) hT.t.l1 hT.l;obtain⟨T,hcert⟩:=fG hW he;have cR:∀{w'} (gc:Nat),Below w.heap.size w w'->Tr w' ls vs fs->Hd w' gc (R3 B).B8 (Cw B)->Calls prog 18 #[.pointer (some ⟨gc,0,none⟩),.agg (O2 ls vs F6 by' ks),.agg #[rv,wv],.int .i64 G0] w' λe w3=>∃(u:Unit) (v:Value),e=.returned (.tuple #[.agg (Y2 m.code m.node m.val (G0-m.left) v),.int .i64 0])/\Below w'.heap.size w' w3/\w3.ownsRow w'.heap.size ET 4 v (GE m).length (d3 (GE m)):=λgc hb g hc=>
  (an7 gc (R3 B).B8 (Cw B) T ls vs fs F6 by' ks G0 rv wv W _ ⟨⟨hG.Q8.K6 hb,hG.AB.K6 hb⟩,g,hc,hcert,hrv.K6 hb,hwv.K6 hb,hrl,hwl,hnum,ac4 hs,by have:=rN he;omega⟩ h).mono λe w3 ⟨m',v,h1,h2,h3,h4⟩=>by
   obtain rfl:=h1.oZ hm;exact⟨(),v,h2,h3,h4⟩
 refine J5 func8 O ntmps8 O<|A3<|F0 O λgz0=>F0 O λgz1=>E3 FD O λgz2=>E6 O<|A5 O<|B4 O<|W7 (ι:=Nat×Value×Value×Value×Int) _ [] (λq=>.tuple #[.pointer (some ⟨q.1,0,none⟩),.int .i64 0,.int .i64 (-1)]) (λq=>TJ q.1 q.2.1 q.2.2.1 q.2.2.2.1 (B.ix 0) (R3 B).B8 q.2.2.2.2 (Cw B)) (k5 _).symm (A7 O) (λw _ ho=>(kG hp hW hs he w).mono λe w' ⟨q,h1,h2⟩=>⟨q,h1,fI h2⟩) O O λq17=>A4 O<|G1 O<|G1 O<|G1 O<|E6 O<|E6 O<|A5 O<|B5<|A4 O<|J3 O<|A6<|E0 O (by decide)<|D6<|B4 O<|G6 2 O hz<|G6 1 O O<|A4 O ?_;rotate_left;refine Ib (f:=18) (ι:=Unit) (e:=ET) (sz:=4) (m:=(GE m).length) (xs:=d3 (GE m)) (λ_ v=>.tuple #[.agg (Y2 m.code m.node m.val (G0-m.left) v),.int .i64 0]) (A7 O) (λw ho=>cR _ ho.plain (ho.tr hT) (ho.nX (A:=[]) 3 rfl rfl rfl)) O O (λ_ v31=>IB (i:=0) O (λhv31=>?_));refine A4 O<|G1 O<|G1 O<|E3 FD O λgz0=>q8 (i:=0) (vs:=Y2 m.code m.node m.val (G0-m.left) v31) (by kernel_rfl) O O (LB hv31) O O<|A5 O<|A3<|G6 0 O O<|A4 O<|q8 (i:=2) (vs:=Y2 m.code m.node m.val (G0-m.left) v31) (by kernel_rfl) O O (LB hv31) O O<|E6 O<|A5 O<|D4<|IP (i:=2) (k:=7) O O O O O O (by kernel_rfl) O λw9 ho9=>?_;rotate_left;exact⟨_,rfl,ho9.plain,ho9.GY (.tail _ (j8 ..))⟩
end
def d6(L:List (List UInt8)):List (List UInt8):=(L.take 20).map (List.take 60)
theorem rA(L:List (List UInt8)):(d6 L).length<=20:=by simp[d6];omega
theorem sX(arg:Value)(L:List (List UInt8))(w:B6)(hV:T7 w arg (D1 L))(hn9:L.length<=9223372036854775807):
  Calls prog 20 #[arg] w λe w'=>∃v,e=.returned v/\Below w.heap.size w w'/\w'.ownsRow w.heap.size S0 1 v (d6 L).length (D1 (d6 L)):=by
 have hlnL:(D1 L).length=L.length:=by simp[D1]
 obtain⟨A0,c0,rfl⟩:=hV.len;rw[hlnL] at hV⊢;obtain⟨Ls,hLs⟩:∃Ls,Ls=L.take 20:=⟨_,rfl⟩
 have hpat:d6 L=Ls.map (List.take 60):=by rw[hLs];rfl
 have hl20:Ls.length<=20:=by rw[hLs];simp;omega
 refine J5 func20 O ntmps20 O ?_;by_cases hs:20<L.length
 ·have hlc:Ls.length=20:=by rw[hLs];simp;omega
  have hV':T7 w (.slice A0 20 c0) (D1 Ls):=by
   have:=sG (q:=20) hV (by rw[hlnL];omega);rw[hLs];have e:(D1 L).take 20=D1 (L.take 20):=by simp[D1,List.map_take]
   rw[<-e];exact this
  obtain⟨gb,o,c,hve,hcap,_⟩:=hV.form (by omega);simp only[Value.slice.injEq] at hve;obtain⟨rfl,_,rfl⟩:=hve;rw[hlnL] at hcap;rw[<-hlc] at hV';refine A3<|A5 O<|B5<|A4 O<|d1 O<|Q7 O<|A6<|E7 O (by omega)<|C5<|A4 O<|B9 (RU (sz:=1) (by kernel_rfl) O O (by omega)) O<|A5 O<|A3<|A5 O<|B5<|A5 O<|C7 ?_;rotate_left;refine BY S0 1 ?_;have hln:(D1 Ls).length=Ls.length:=by simp[D1]
  have hrow:∀(i:Nat) (x:C9),Ls[i]?=some x->(Ls.take (i+1)).map (List.take 60)=(Ls.take i).map (List.take 60)++[x.take 60]:=λi x hx=>by rw[JG,hx,Bu];rfl
  refine Ai (E':=[(0,.slice (some ⟨gb,o,none⟩) Ls.length c0),(3,.slice none 0 0),(4,.int .i64 0)]) ⟨by rw[hlc];rfl,rfl,rfl,trivial⟩ ?_;refine l9 (σ:=Value×Nat) (λs=>s.2<=Ls.length) (λs=>[(0,.slice (some ⟨gb,o,none⟩) Ls.length c0),(3,s.1),(4,.int .i64 s.2)])
   (λs=>[.row s.1 S0 1 s.2 (D1 ((Ls.take s.2).map (List.take 60)))]) (λs=>Ls.length-s.2)
   (λw ho=>⟨(.slice none 0 0,0),R5 _,⟨rfl,rfl,rfl,trivial⟩,ho⟩) ?_
  rintro⟨v3,i⟩ hi;simp only at hi;by_cases hil:i<Ls.length
  ·obtain⟨gb1,o1,c1,hve,_,_,hcell⟩:=hV'.form (by omega);have hx:Ls[i]?=some Ls[i]:=T8 hil;have hcl:=hcell i _ (La hx);have hr:=hrow i _ hx;generalize Ls[i]=x at hx hcl hr;simp only[Value.slice.injEq,Ck,Addr.mk.injEq] at hve;obtain⟨⟨rfl,rfl,_⟩,_,rfl⟩:=hve;by_cases h60:60<x.length
   ·refine B5<|A4 O<|A4 O<|B9 (Ot (vs:=D1 Ls) (by kernel_rfl) O (λw ho=>ho.DT hV')) O<|H9 O<|A6<|E7 O (by(rw[hln];omega))<|D6<|C8<|C7<|B4 O<|A4 O<|B9 (AW i O (by omega)) O<|B9 (AI (v:=.string (bs x)) O (λw' ho=>Below.o8 ho.plain hcl)) O<|A5 O<|B5<|A4 O<|n4 O<|Q7 O<|A6<|E7 O (by omega)<|C5<|A4 O<|B9 (NW (by kernel_rfl) O O (by(first|omega|(simp only;omega)))) O<|A5 O<|C5<|A4 O<|A4 O<|N7 (D1 [x.take 60]) (D1 [x.take 60]) O λgl=>CT 1 S0 1 16 i 1 (D1 [x.take 60]) (A:=⟨gl,0,none⟩) (by kernel_rfl) O (λw ho=>BI ho (i:=0) rfl) (Gy rfl) (by simp only[maxLen];omega) O λv' hv'=>E6 O<|H6<|F4<|E2<|C5<|A4 O<|N6 O (by(first|omega|(simp only;omega)))<|A5 O ?_;rotate_left;exact W5 λw' ho=>⟨(v',i+1),by show i+1<=Ls.length;omega,by show Ls.length-(i+1)<Ls.length-i;omega,⟨rfl,rfl,rfl,trivial⟩,rfl,by dsimp only;rw[hr,PE];exact ho.sublist (L9 ..)⟩
   ·have e60:x.take 60=x:=CQ (by omega);rw[e60] at hr;refine B5<|A4 O<|A4 O<|B9 (Ot (vs:=D1 Ls) (by kernel_rfl) O (λw ho=>ho.DT hV')) O<|H9 O<|A6<|E7 O (by(rw[hln];omega))<|D6<|C8<|C7<|B4 O<|A4 O<|B9 (AW i O (by omega)) O<|B9 (AI (v:=.string (bs x)) O (λw' ho=>Below.o8 ho.plain hcl)) O<|A5 O<|B5<|A4 O<|n4 O<|Q7 O<|A6<|E0 O (by omega)<|D6<|C5<|A4 O<|A4 O<|N7 (D1 [x]) (D1 [x]) O λgl=>CT 1 S0 1 16 i 1 (D1 [x]) (A:=⟨gl,0,none⟩) (by kernel_rfl) O (λw ho=>BI ho (i:=0) rfl) (Gy rfl) (by simp only[maxLen];omega) O λv' hv'=>E6 O<|H6<|F4<|E2<|C5<|A4 O<|N6 O (by(first|omega|(simp only;omega)))<|A5 O ?_;rotate_left;exact W5 λw' ho=>⟨(v',i+1),by show i+1<=Ls.length;omega,by show Ls.length-(i+1)<Ls.length-i;omega,⟨rfl,rfl,rfl,trivial⟩,rfl,by dsimp only;rw[hr,PE];exact ho.sublist (L9 ..)⟩
  ·obtain rfl:i=Ls.length:=by omega
   refine B5<|A4 O<|A4 O<|B9 (Ot (vs:=D1 Ls) (by kernel_rfl) O (λw ho=>ho.DT hV')) O<|H9 O<|A6<|E0 O (by(rw[hln];omega))<|S4<|J0<|J0<|S5<|E2<|B4 O<|A5 O<|D4<|E4 O λw9 ho9=>?_;rw[GQ] at ho9;exact⟨_,rfl,ho9.plain,by rw[hpat,Nq];exact ho9.GY (j8 ..)⟩
 ·have hlc:Ls=L:=by rw[hLs];exact CQ (by omega)
  have hV':T7 w (.slice A0 L.length c0) (D1 Ls):=by rw[hlc];exact hV
  refine A3<|A5 O<|B5<|A4 O<|d1 O<|Q7 O<|A6<|E0 O (by omega)<|D6<|A3<|A5 O<|B5<|A5 O<|C7 ?_;rotate_left;refine BY S0 1 ?_;have hln:(D1 Ls).length=Ls.length:=by simp[D1]
  have hrow:∀(i:Nat) (x:C9),Ls[i]?=some x->(Ls.take (i+1)).map (List.take 60)=(Ls.take i).map (List.take 60)++[x.take 60]:=λi x hx=>by rw[JG,hx,Bu];rfl
  refine Ai (E':=[(0,.slice A0 Ls.length c0),(3,.slice none 0 0),(4,.int .i64 0)]) ⟨by rw[hlc];rfl,rfl,rfl,trivial⟩ ?_;refine l9 (σ:=Value×Nat) (λs=>s.2<=Ls.length) (λs=>[(0,.slice A0 Ls.length c0),(3,s.1),(4,.int .i64 s.2)])
   (λs=>[.row s.1 S0 1 s.2 (D1 ((Ls.take s.2).map (List.take 60)))]) (λs=>Ls.length-s.2)
   (λw ho=>⟨(.slice none 0 0,0),R5 _,⟨rfl,rfl,rfl,trivial⟩,ho⟩) ?_
  rintro⟨v3,i⟩ hi;simp only at hi;by_cases hil:i<Ls.length
  ·obtain⟨gb,o,c,hve,_,_,hcell⟩:=hV'.form (by omega);have hx:Ls[i]?=some Ls[i]:=T8 hil;have hcl:=hcell i _ (La hx);have hr:=hrow i _ hx;generalize Ls[i]=x at hx hcl hr;simp only[Value.slice.injEq] at hve;obtain⟨rfl,_,rfl⟩:=hve;by_cases h60:60<x.length
   ·refine B5<|A4 O<|A4 O<|d1 O<|H9 O<|A6<|E7 O (by omega)<|D6<|C8<|C7<|B4 O<|A4 O<|B9 (AW i O (by omega)) O<|B9 (AI (v:=.string (bs x)) O (λw' ho=>Below.o8 ho.plain hcl)) O<|A5 O<|B5<|A4 O<|n4 O<|Q7 O<|A6<|E7 O (by omega)<|C5<|A4 O<|B9 (NW (by kernel_rfl) O O (by(first|omega|(simp only;omega)))) O<|A5 O<|C5<|A4 O<|A4 O<|N7 (D1 [x.take 60]) (D1 [x.take 60]) O λgl=>CT 1 S0 1 16 i 1 (D1 [x.take 60]) (A:=⟨gl,0,none⟩) (by kernel_rfl) O (λw ho=>BI ho (i:=0) rfl) (Gy rfl) (by simp only[maxLen];omega) O λv' hv'=>E6 O<|H6<|F4<|E2<|C5<|A4 O<|N6 O (by(first|omega|(simp only;omega)))<|A5 O ?_;rotate_left;exact W5 λw' ho=>⟨(v',i+1),by show i+1<=Ls.length;omega,by show Ls.length-(i+1)<Ls.length-i;omega,⟨rfl,rfl,rfl,trivial⟩,rfl,by dsimp only;rw[hr,PE];exact ho.sublist (L9 ..)⟩
   ·have e60:x.take 60=x:=CQ (by omega);rw[e60] at hr;refine B5<|A4 O<|A4 O<|d1 O<|H9 O<|A6<|E7 O (by omega)<|D6<|C8<|C7<|B4 O<|A4 O<|B9 (AW i O (by omega)) O<|B9 (AI (v:=.string (bs x)) O (λw' ho=>Below.o8 ho.plain hcl)) O<|A5 O<|B5<|A4 O<|n4 O<|Q7 O<|A6<|E0 O (by omega)<|D6<|C5<|A4 O<|A4 O<|N7 (D1 [x]) (D1 [x]) O λgl=>CT 1 S0 1 16 i 1 (D1 [x]) (A:=⟨gl,0,none⟩) (by kernel_rfl) O (λw ho=>BI ho (i:=0) rfl) (Gy rfl) (by simp only[maxLen];omega) O λv' hv'=>E6 O<|H6<|F4<|E2<|C5<|A4 O<|N6 O (by(first|omega|(simp only;omega)))<|A5 O ?_;rotate_left;exact W5 λw' ho=>⟨(v',i+1),by show i+1<=Ls.length;omega,by show Ls.length-(i+1)<Ls.length-i;omega,⟨rfl,rfl,rfl,trivial⟩,rfl,by dsimp only;rw[hr,PE];exact ho.sublist (L9 ..)⟩
  ·obtain rfl:i=Ls.length:=by omega
   refine B5<|A4 O<|A4 O<|d1 O<|H9 O<|A6<|E0 O (by omega)<|S4<|J0<|J0<|S5<|E2<|B4 O<|A5 O<|D4<|E4 O λw9 ho9=>?_;rw[GQ] at ho9;exact⟨_,rfl,ho9.plain,by rw[hpat,Nq];exact ho9.GY (j8 ..)⟩
end
section
theorem M0.wide{w w':B6}{F F':Nat->Prop}(h:M0 w F w')(hF:∀k,F k->F' k):M0 w F' w':=⟨h.os,h.tape,h.output,h.size,λk hk hn=>h.old k hk λhf=>hn (hF k hf)⟩
theorem vD{C:I3}{H:List C2}{w:B6}{v:Value}{xs:List F5}(ho:B7 C H w)(hV:BQ w v xs)(hn:xs.length<=9223372036854775807):
  Calls prog 41 #[v] w λe w'=>∃u,e=.returned u/\Below w.heap.size w w'/\IL w' (λk=>k∈F1 H\/k<C.W.heap.size) u (Dy xs):=
 (pT v xs w hV hn).mono λe w' ⟨u,q1,q2,q3⟩=>⟨u,q1,q2,aw0 q3,λ_ g hg hb=>by
  have h1:=(q3.lt g hg).1;rcases hb with hb|hb
  ·have:=ho.lt g hb;omega
  ·have:=ho.X4.size;omega⟩
def KV(w:World)(B:Nat->Prop)(v:Value)(L:List (List UInt8)):Prop:=T7 w v (D1 L)/\(0<L.length->∀g∈v.ownBlock,¬B g)
theorem KV.move{w w':B6}{B B':Nat->Prop}{v:Value}{L:List (List UInt8)}(h:KV w B v L)(hf:M0 w B w')(hB:∀k,k<w.heap.size->B' k->B k):KV w' B' v L:=by
 have hln:(D1 L).length=L.length:=by simp[D1]
 by_cases hl:0<L.length
 ·obtain⟨gb,o,c,rfl,hc,hlt,hce⟩:=h.1.form (by omega);have hn:=h.2 hl gb (by simp[Value.ownBlock]);refine⟨.inr ⟨⟨gb,o,none⟩,c,rfl,hc,λj u hu=>?_⟩,λ_ g hg hb=>?_⟩
  ·have:=hce j u hu;rw[Fi];exact(World.cell?_of_block (hf.old gb hlt hn)).trans this
  ·have hg':g=gb:=by simpa[Value.ownBlock] using hg.symm
   subst hg';exact hn (hB g hlt hb)
 ·obtain rfl:L=[]:=Kh (by omega);refine⟨?_,λh=>absurd h (by simp)⟩;rcases h.1 with⟨rfl,_⟩|⟨A,c,rfl,hc,_⟩
  ·exact .inl ⟨rfl,rfl⟩
  ·exact .inr ⟨A,c,rfl,hc,λj u hu=>by simp[D1] at hu⟩
theorem KV.of{w:B6}{C:I3}{H:List C2}{i:Nat}{v:Value}{L:List (List UInt8)}(ho:B7 C H w)(hi:H[i]?=some (.row v S0 1 L.length (D1 L)))(hL:∀k,¬C.M k):KV w (λk=>k<C.W.heap.size) v L:=by
 have hr:=ho.rowAt hi;refine⟨OF hr,λ_ g hg hb=>?_⟩;have hm:g∈F1 H:=by
  have:=CP hi;unfold F1;exact List.mem_flatMap.2 ⟨_,this,by simpa[C2.blocks] using hg⟩
 rcases(ho.X8 g hm).1 with h|h
 ·omega
 ·exact hL g h
attribute [local irreducible] F8 D3 Exit.then Exit.inBlock Exit.noGoto wpQuiet Calls fin At G9 L3 L7 RQ R9
theorem aw4(ls:H2)(vs:List Int)(fs:List (List F5))(w:B6)(hT:Z6 w ES ls fs)(hvs:vs.length=16)(hn:∀i,(fs.getD i []).length<=9223372036854775807):
  Calls prog 19 #[GN ls vs] w λe w'=>∃v,e=.returned v/\Below w.heap.size w w'/\∃ls',v=GN ls' vs/\Z6 w' (λk=>k<w.heap.size) ls' (Dj fs):=by
 have hl1:=hT.l1;have hl2:=hT.l2;refine J5 func19 O ntmps19 O<|A3<|F0 O λgz0=>E3 Tryz.zeroValue26 O λgz1=>A6<|B5<|A5 O<|C7 ?_;rotate_left;refine UV (σ:=B6×List Value×Nat) (λs=>s.2.2<=16/\s.2.1.length=16/\(∀j,j<s.2.2->∃u,s.2.1[j]?=some u/\IL s.1 (λk=>k∈F1 [C2.B1 gz1 26 JO,C2.B1 gz0 26 (Z8 s.2.1 vs)]\/k<w.heap.size) u (Dy (fs.getD j [])))/\(∀j,s.2.2<=j->j<16->s.2.1[j]?=ls[j]?))
  (λs=>[(1,.pointer (some ⟨gz0,0,none⟩)),(2,.pointer (some ⟨gz1,0,none⟩)),(3,.int .i64 s.2.2)])
  (λs=>⟨w,λ_=>False,λ_=>False,s.1,λk=>k∈F1 [C2.B1 gz1 26 JO,C2.B1 gz0 26 (Z8 s.2.1 vs)],[]⟩) (λs=>[.B1 gz1 26 JO,.B1 gz0 26 (Z8 s.2.1 vs)]) (λs=>16-s.2.2)
  (λw1 ho=>⟨(w1,ls,0),⟨R5 _,hl1,λj hj=>absurd hj (by simp),λj _ _=>rfl⟩,⟨rfl,rfl,rfl,trivial⟩,rfl,ho.re⟩) ?_
 rintro⟨W1,us,b⟩ ⟨hb,hul,hK,hN⟩;simp only at hb hul hK hN;by_cases hb16:b<16
 ·obtain⟨vb,hvb,hvi⟩:=hT.at' b hb16;have hub:us[b]?=some vb:=(hN b (L6 _) hb16).trans hvb;have hcs:(Z8 us vs)[0+0+b]?=some vb:=by rw[show 0+0+b=b by omega];exact fK hul hub
  have hfn:=hn b;have hlt:Nat.blt (0+0+b) (Z8 us vs).size=true:=by rw[Md hul hvs];simp;omega
  refine B5<|A4 O<|H9 O<|A6<|E7 O (by(simp only;omega))<|D6<|C8<|C7<|C5<|A4 O<|A4 O<|D9 O<|B9 (KZ (len:=16) (j:=b) (by kernel_rfl) O O hb16) O<|B9 (c7 1 O hcs) O<|JP (f:=41) (Φ:=λu w'=>IL w' (λk=>k∈F1 [C2.B1 gz1 26 JO,C2.B1 gz0 26 (Z8 us vs)]\/k<w.heap.size) u (Dy (fs.getD b []))) (A7 O) (λw ho=>vD ho (ho.Ln hvi.1) hfn) O O λu w2 hw2 hu=>D9 O<|B9 (KZ (len:=16) (j:=b) (by kernel_rfl) O O hb16) O<|Ce (i:=1) (by kernel_rfl) O O (hu.1.one) O hlt<|H6<|F4<|E2<|C5<|A4 O<|N6 O (by(first|omega|(simp only;omega)))<|A5 O ?_;have hset:(Z8 us vs).setIfInBounds (0+0+b) u=Z8 (us.set b u) vs:=by rw[show 0+0+b=b by omega];exact aw6 hul hb16
  refine W5 λw' ho=>⟨(w',us.set b u,b+1),⟨by show b+1<=16;omega,by show(us.set b u).length=16;simpa using hul,λj hj=>?_,λj hj hj16=>?_⟩,by show 16-(b+1)<16-b;omega,⟨rfl,rfl,rfl,trivial⟩,rfl,?_⟩
  ·have hj:j<b+1:=hj;have hf2:M0 w2 (λk=>k∈F1 [C2.B1 gz1 26 JO,C2.B1 gz0 26 (Z8 us vs)]\/k<w.heap.size) w':=M0.wide ho.base λ_ h=>.inl h;have hbe:∀k,k∈F1 [C2.B1 gz1 26 JO,C2.B1 gz0 26 (Z8 (us.set b u) vs)]->k∈F1 [C2.B1 gz1 26 JO,C2.B1 gz0 26 (Z8 us vs)]:=λk hk=>by simpa[F1,C2.blocks] using hk
   by_cases hjb:j<b
   ·obtain⟨u',q1,q2⟩:=hK j hjb;refine⟨u',by show(us.set b u)[j]?=some u';rw[Ux (by omega)];exact q1,(q2.move (M0.wide hw2.base λ_ h=>.inl h) (λ_ _ h=>h)).move hf2 (λk _ h=>h.imp (hbe k) id)⟩
   ·obtain rfl:j=b:=by omega
    exact⟨u,by show(us.set j u)[j]?=some u;rw[Pf (by omega)],hu.move hf2 (λk _ h=>h.imp (hbe k) id)⟩
  ·show(us.set b u)[j]?=ls[j]?;have hj:b+1<=j:=hj;rw[Ux (by omega)];exact hN j (by omega) hj16
  ·have:=ho.re;simp only[Ra,List.set_cons_zero] at this;rw[hset] at this;exact this
 ·obtain rfl:b=16:=by omega
  have hkeep:Z6 W1 (λk=>k∈F1 [C2.B1 gz1 26 JO,C2.B1 gz0 26 (Z8 us vs)]\/k<w.heap.size) us (Dj fs):=⟨hul,by simp[Dj,hl2],λi hi=>by
   obtain⟨u,q1,q2⟩:=hK i hi;exact⟨u,q1,by rw[VM fs i (by omega)];exact q2⟩⟩
  have h32:=Md hul hvs;refine B5<|A4 O<|H9 O<|A6<|E0 O (by(simp only;omega))<|S4<|J0<|J0<|S5<|E2<|A3<|G6 1 O h32<|q8 (i:=0) (h:=gz1) (cs:=JO) (vs:=Z8 us vs) (by rw[h32];kernel_rfl) O O (VF hkeep) O (by rw[h32];rfl)<|A6<|D4<|EK (i:=0) (k:=32) O O O O (by kernel_rfl) h32 λw9 ho9=>?_;exact⟨_,rfl,ho9.plain,us,rfl,hkeep.move (M0.wide ho9.base λ_ h=>.inl h) (λ_ _ h=>.inr h)⟩
theorem vV{α:Type}(A:List α)(q:α)(X:List α):(A++[q]++X).Perm (q::(A++[]++X)):=by
 rw[k5,Q2];exact Nr
theorem yS{α:Type}(A:List α)(q:α):(A++[q]).Perm (q::(A++[])):=by
 rw[k5];exact HE _ _
theorem bS:Ae prog 31=some ([.slice none 0 0,.slice none 0 0],[(0,1),(1,1)]):=by kernel_rfl
theorem eE(rv wv:Value)(R V:List (List UInt8))(w:B6)(hR:T7 w rv (D1 R))(hV:T7 w wv (D1 V))(hr:R.length<=9223372036854775807)(hv:V.length<=9223372036854775807):
  Calls prog 11 #[.agg #[rv,wv]] w λe w'=>∃q:Value×Value,e=.returned (.agg #[q.1,q.2])/\Below w.heap.size w w'/\KV w' (λk=>k<w.heap.size) q.1 (d6 R)/\KV w' (λk=>k<w.heap.size) q.2 (d6 V):=by
 obtain⟨A1,c1,hrv⟩:=hR.len;obtain⟨A2,c2,hwv⟩:=hV.len;have e1:rv.oneCell'=true:=by rw[hrv];rfl
 have e2:wv.oneCell'=true:=by rw[hwv];rfl
 refine J5 func11 O ntmps11 O ?_;have cP:∀{w'} (v:Value) (L:List (List UInt8)),T7 w' v (D1 L)->L.length<=9223372036854775807->Calls prog 20 #[v] w' λe w3=>∃u,e=.returned u/\Below w'.heap.size w' w3/\w3.ownsRow w'.heap.size S0 1 u (d6 L).length (D1 (d6 L)):=λv L h1 h2=>sX v L _ h1 h2;refine A3<|F0 O λgz0=>E3 Tryz.zeroValue31 O λgz1=>A6<|C8 ?_;apply Bh 6 [_,_,.rel λu _=>u.oneCell'=true,_,_,.rel λu _=>u.oneCell'=true] (λlst vs=>[.B1 gz1 31 #[.slice none 0 0,.slice none 0 0],.B1 gz0 31 #[rv,wv]]++(if lst 2 then[.row (vs 2) S0 1 (d6 R).length (D1 (d6 R))] else[])++(if lst 5 then[.row (vs 5) S0 1 (d6 V).length (D1 (d6 V))] else[])) (by kernel_rfl) (by kernel_rfl) (by kernel_rfl) (λ_=>rfl)
 ·refine E9 O (F7 O (λlst vs hl he=>D0 (I8 0 O)) (λ_ _ _=>rfl))<|E9 O (F7 O (λlst vs hl he=>D0 (K1 1 O)) (λ_ _ _=>rfl))<|E9 O (CZ O λlst vs hl he a w hf ho hx=>?_) ?_;rotate_left;refine E9 O (F7 O (λlst vs hl he=>D0 (I8 1 O)) (λ_ _ _=>rfl))<|E9 O (F7 O (λlst vs hl he=>D0 (K1 1 O)) (λ_ _ _=>rfl))<|E9 O (CZ O λlst vs hl he a w hf ho hx=>?_) ?_;rotate_left;exact Bf
  ·have hl':lst 2=false:=hl;refine .inr ⟨_,_,MM (by kernel_rfl) rfl a w hf ho,(cP rv R (hR.K6 ho.plain) hr).mono ?_⟩;rintro en w' ⟨u,rfl,h1,h3⟩;refine⟨u,rfl,?_,Kp h3⟩;have h4:=ho.Ml (q:=.row u S0 1 (d6 R).length (D1 (d6 R))) h1 ⟨h3.1,h3.2.imp id λ⟨g,cap,cur,q1,q2,q3⟩=>⟨g,cap,cur,q1,R5 _,q3⟩⟩ (λk hk=>(h3.lt k (by simpa[C2.blocks] using hk)).1);rw[hl'] at h4;exact h4.perm (vV _ _ _)
  ·have hl':lst 5=false:=hl;refine .inr ⟨_,_,MM (by kernel_rfl) rfl a w hf ho,(cP wv V (hV.K6 ho.plain) hv).mono ?_⟩;rintro en w' ⟨u,rfl,h1,h3⟩;refine⟨u,rfl,?_,Kp h3⟩;have h4:=ho.Ml (q:=.row u S0 1 (d6 V).length (D1 (d6 V))) h1 ⟨h3.1,h3.2.imp id λ⟨g,cap,cur,q1,q2,q3⟩=>⟨g,cap,cur,q1,R5 _,q3⟩⟩ (λk hk=>(h3.lt k (by simpa[C2.blocks] using hk)).1);rw[hl'] at h4;exact h4.perm (yS _ _)
 ·(repeat(first|exact trivial|exact(λ_ _ _ h=>h)|refine⟨trivial,?_⟩|refine⟨λ_ _ _ h=>h,?_⟩))
 ·intro vs w1 hx;have h2:=BG (i:=2) rfl hx (by decide);have h5:=BG (i:=5) rfl hx (by decide);refine x4 (H':=[.B1 gz1 31 #[.slice none 0 0,.slice none 0 0],.B1 gz0 31 #[rv,wv],.row (vs 2) S0 1 (d6 R).length (D1 (d6 R)),.row (vs 5) S0 1 (d6 V).length (D1 (d6 V))]) O (λw ho=>ho)<|Ai (E':=[(2,.pointer (some ⟨gz1,0,none⟩)),(5,vs 2),(8,vs 5)]) ⟨rfl,rfl,rfl,trivial⟩ ?_;generalize vs 2=v2 at h2⊢;generalize vs 5=v5 at h5⊢;refine PO (i:=2) O λA8 c8 e8=>PO (i:=3) O λA9 c9 e9=>?_;subst e8 e9;refine B9 (O7 [.slice A8 (d6 R).length c8,.slice A9 (d6 V).length c9] bS O) O<|q8 (i:=0) (vs:= #[.slice A8 (d6 R).length c8,.slice A9 (d6 V).length c9]) (by kernel_rfl) O O (Kz h2 h5) O O<|A6<|D4<|EK (i:=0) (k:=2) O O O O (by kernel_rfl) O λw9 ho9=>?_;exact⟨(_,_),rfl,ho9.plain,KV.of ho9 (i:=2) rfl (λ_ h=>h),KV.of ho9 (i:=3) rfl (λ_ h=>h)⟩
end
end Go.Proofs.YtjkhokkdgfbhcaaGreatDoor
