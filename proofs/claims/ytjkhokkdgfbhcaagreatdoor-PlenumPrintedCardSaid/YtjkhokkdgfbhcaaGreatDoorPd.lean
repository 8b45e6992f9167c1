/-
  Part 4 of what the proof of PlenumPrinted stands on: laws of walks, contracts of functions, plain laws. No condition of its own.
-/
import Derived.Test.YtjkhokkdgfbhcaaGreatDoorPc
set_option linter.defProp false
set_option linter.unusedSectionVars false
set_option linter.unusedSimpArgs false
set_option linter.unusedVariables false
set_option linter.deprecated false
set_option maxHeartbeats 16000000
namespace Go.Proofs.YtjkhokkdgfbhcaaGreatDoor
open Go.RowKit Tryz
section
theorem bL{P:Program}{n:Nat}{E:X0}{C:I3}{H:List C2}{fn:Func}{R:Ending->B6->Prop}{t u s q:Nat}{v x y z:Value}(hr:fn.results= #[.tmp t,.tmp u,.tmp s,.tmp q])(hm:C.marks=[])(ht:R6 E t=some v)(hu:R6 E u=some x)(hs:R6 E s=some y)(hq:R6 E q=some z)(h:∀w,B7 C H w->R (.returned (.tuple #[v,x,y,z])) w):At n E C H (fin P fn R .ret):=by
 intro a w hf hd ho;have h1:=hf.get t v ht;have h2:=hf.get u x hu;have h3:=hf.get s y hs;have h4:=hf.get q z hq;refine Il hm hd (v:=.tuple #[v,x,y,z]) ?_ (h w ho);simp[results,hr,h1,h2,h3,h4,go_sem]
attribute [local irreducible] F8 D3 Exit.then Exit.inBlock Exit.noGoto wpQuiet Calls fin At G9 L3 L7 RQ R9
theorem sS:Ae prog 188=some ([.slice none 0 0,.int .i64 0,.slice none 0 0,.int .i64 0,.slice none 0 0,.slice none 0 0,.slice none 0 0,.int .i64 0,.int .i64 0],[(0,2),(2,1),(3,1),(4,1),(5,1),(6,1),(7,1),(8,1)]):=by kernel_rfl
def Kr(N:Nat):Sc:=⟨[],0,List.replicate N (-1),0,0⟩
def R3(B:Bl):Sc:=Aj (k9 B 0) [] (-1) (Kr B.size)
def UH(v:Value)(f:Int)(u:Value):Array Value:= #[v,.int .i64 f,.slice none 0 0,.int .i64 0,u,.slice none 0 0,.slice none 0 0,.int .i64 0,.int .i64 0]
theorem zF{a b c d n m k:C2}:[a,b,c,n,d,m,k].Perm [n,m,k,a,b,c,d]:=(Nr (l₁:=[a,b,c]) (l₂:=[d,m,k]) (a:=n)).trans (.cons n (EC (l₁:=[a,b,c,d]) (l₂:=[m,k])))
theorem aB2{B:Bl}(hW:WB B)(hs:B.size<=512)(v:Value)(w:B6)(ns:List F2)(hns:ns=N0 B 0)(ho:B7 (J1 w [.row v ND 8 ns.length (L2 ns)]) [.row v ND 8 ns.length (L2 ns)] w):
  Calls prog 116 #[.agg #[v,.int .i64 (B.ix 0)]] w λe w'=>∃g z,e=.returned (.tuple #[.pointer (some ⟨g,0,none⟩),.int .i64 0])/\(R3 B).C0.length=ns.length/\O0 w (λb=>b∈F1 [.row v ND 8 ns.length (L2 ns)]) (R8 g v (B.ix 0) ns z (R3 B)) w':=by
 refine G7 ho func116 O ntmps116 O ?_;have hM:=fS hW hs;have hsub:=sub_self B;rw[<-hns] at hM hsub;have hlen:ns.length=B.size:=by rw[hns,j3]
 have hblk:=NA (aa7 hW) 0 ns hsub;refine A3<|F0 (cs:= #[v,.int .i64 (B.ix 0)]) O λgp=>E6 O<|A5 O<|B5<|G6 0 O O<|W7 (ι:=Unit) [.B1 gp p8 #[v,.int .i64 (B.ix 0)]] [.row v ND 8 ns.length (L2 ns)] (λ_=>.bool true) (λ_=>[.row v ND 8 ns.length (L2 ns)]) O (A7 O) (λw _ ho=>(gY v _ ns hM w ho).mono λe w' h=>⟨(),h⟩) O O λ_=>J7 O<|A6<|M8 O<|D6<|A3<|G6 0 O O<|B9 (O7 [v,.int .i64 (B.ix 0),.slice none 0 0,.int .i64 0,.slice none 0 0,.slice none 0 0,.slice none 0 0,.int .i64 0,.int .i64 0] sS O) O<|F0 (cs:=UH v (B.ix 0) (.slice none 0 0)) O λgw=>A5 O<|B5<|B2 1 O<|BA 2 O<|A4 O<|A6<|C7 ?_;rotate_left;refine BY S7 1<|CE (H':=[.B1 gp p8 #[v,.int .i64 (B.ix 0)],.B1 gw Rz (UH v (B.ix 0) (.slice none 0 0)),.row v ND 8 ns.length (L2 ns),.row (.slice none 0 0) S7 1 0 []]) iE ?_;refine l9 (σ:=Nat×Value) (λs=>s.1<=ns.length) (λs=>[(1,.pointer (some ⟨gp,0,none⟩)),(4,.pointer (some ⟨gw,0,none⟩)),(13,.int .i64 ns.length),(14,.int .i64 s.1)]) (λs=>[.B1 gp p8 #[v,.int .i64 (B.ix 0)],.B1 gw Rz (UH v (B.ix 0) s.2),.row v ND 8 ns.length (L2 ns),.row s.2 S7 1 s.1 (Ao (List.replicate s.1 (-1)))]) (λs=>ns.length-s.1)
  (λw ho=>⟨(0,.slice none 0 0),R5 _,⟨rfl,rfl,rfl,rfl,trivial⟩,ho⟩) ?_
 rintro⟨i,u⟩ hi;dsimp only at hi⊢;by_cases hil:i<ns.length
 ·have e1:Ao (List.replicate (i+1) (-1))=Ao (List.replicate i (-1))++[.int .i64 (-1)]:=by
   rw[List.replicate_succ'];simp[Ao]
  have h512:=hM.short;refine A3<|H9 O<|A6<|C8<|E7 O (by omega)<|D6<|C8<|C7<|C5<|A4 O<|A4 O<|E5 O<|B2 1 O<|N7 [.int .i64 (-1)] [.int .i64 (-1)] O λgt=>CT 4 S7 1 8 i 1 [.int .i64 (-1)] (by kernel_rfl) O (λw ho=>BI ho (i:=0) rfl) (LU rfl) (by simp only[maxLen];omega) O λv22 hv22=>E5 O<|D9 O<|Ce (i:=2) (by kernel_rfl) O O (by assumption) O O<|H6<|F4<|E2<|C5<|N6 O (by omega)<|A4 O<|A6 ?_;rotate_left;exact RR (i+1,v22) (by dsimp only;omega) (by dsimp only;omega) ⟨rfl,rfl,rfl,rfl,trivial⟩ O (λw ho=>by dsimp only;rw[e1];exact ho.sublist (L9 ..))
 ·obtain rfl:i=ns.length:=by omega
  refine BY S0 1<|BY S0 1<|BY S0 1 ?_;have hz0:Dv 0 ns ⟨.slice none 0 0,u,.slice none 0 0,.slice none 0 0,[],[]⟩ (Kr B.size):=⟨L6 _,L6 _,L6 _,L6 _,by simp[Kr,hlen]⟩
  refine CE (H':=[.B1 gp p8 #[v,.int .i64 (B.ix 0)]]++R8 gw v (B.ix 0) ns ⟨.slice none 0 0,u,.slice none 0 0,.slice none 0 0,[],[]⟩ (Kr B.size)) ?_ ?_
  ·have e2:R8 gw v (B.ix 0) ns ⟨.slice none 0 0,u,.slice none 0 0,.slice none 0 0,[],[]⟩ (Kr B.size)=[.B1 gw Rz (UH v (B.ix 0) u),.row v ND 8 ns.length (L2 ns),.row (.slice none 0 0) S0 1 0 [],.row u S7 1 ns.length (Ao (List.replicate ns.length (-1))),.row (.slice none 0 0) S0 1 0 [],.row (.slice none 0 0) S0 1 0 []]:=by unfold R8;rw[hlen];rfl
   rw[e2];exact zF
  exact A3<|H9 O<|A6<|C8<|E0 O (by omega)<|S4<|J0<|J0<|S5<|E2<|B4 O<|B2 0 O<|Bj [.B1 gp p8 #[v,.int .i64 (B.ix 0)]] [] (R3 B) (0+0+2*B.size) O (A7 O) (λw ho=>hblk [] _ [] UR (by decide) (-1) gw _ _ _ _ 0 w hz0 (by simp only[Y4];omega) hM.short ho) O O λz29 hz29=>I9 O<|E6 O<|A5 O<|D4<|V6 O O O O λw9 ho9=>⟨_,_,rfl,hz29.C0,_,_,ho9.sublist (L9 ..)⟩
theorem aR{B:Bl}(hW:WB B)(hs:B.size<=512)(v:Value)(w:B6)(ns:List F2)(hns:ns=N0 B 0)(ho:B7 (J1 w [.row v ND 8 ns.length (L2 ns)]) [.row v ND 8 ns.length (L2 ns)] w):
  Calls prog 62 #[.agg #[v,.int .i64 (B.ix 0)]] w λe w'=>∃u,(R3 B).C0.length=ns.length/\
   e=.returned (if(R3 B).e=0 then .tuple #[u,.int .i64 (R3 B).B8,.int .i64 0,.int .i64 (-1)] else .tuple #[.slice none 0 0,.int .i64 0,.int .i64 (R3 B).e,.int .i64 (R3 B).at_])/\
   O0 w (λb=>b∈F1 [.row v ND 8 ns.length (L2 ns)]) ([.row v ND 8 ns.length (L2 ns)]++[.row u S7 1 ns.length (Ao (R3 B).C0)]) w':=by
 refine G7 ho func62 O ntmps62 O ?_;have cW:∀w,B7 (J1 w [.row v ND 8 ns.length (L2 ns)]) [.row v ND 8 ns.length (L2 ns)] w->Calls prog 116 #[.agg #[v,.int .i64 (B.ix 0)]] w λe w'=>∃q:Nat×Dk,e=.returned (.tuple #[.pointer (some ⟨q.1,0,none⟩),.int .i64 0])/\O0 w (λb=>b∈F1 [.row v ND 8 ns.length (L2 ns)]) (R8 q.1 v (B.ix 0) ns q.2 (R3 B)) w'/\(R3 B).C0.length=ns.length:=λw ho=>(aB2 hW hs v w ns hns ho).mono λe w' ⟨g,z,h1,h2,h3⟩=>⟨(g,z),h1,h3,h2⟩
 generalize R3 B=S at*;refine A3<|F0 (cs:= #[v,.int .i64 (B.ix 0)]) O λgp=>E6 O<|E6 O<|E6 O<|A5 O<|A3<|G6 0 O O<|Oa (ι:=Nat×Dk) (λ_=>S.C0.length=ns.length) [.B1 gp p8 #[v,.int .i64 (B.ix 0)]] [.row v ND 8 ns.length (L2 ns)] (λq=>.tuple #[.pointer (some ⟨q.1,0,none⟩),.int .i64 0]) (λq=>R8 q.1 v (B.ix 0) ns q.2 S) O (A7 O) (λw _ ho=>cW w ho) O O λq10 hq10=>A4 O<|G1 O<|G1 O<|E6 O<|A5 O<|C8<|C7<|B4 O<|J3 O<|A5 O<|E0 O (by omega)<|C8 ?_;obtain⟨gw,sv,u,mv,fv,made,free⟩:=q10;by_cases he:S.e=0
 ·refine C5<|A4 O<|E5 O<|B2 1 O<|J3 O<|A5 O<|E0 O (by omega)<|P5<|F4<|E2<|C8 ?_;apply BL 12 [_,_,_,_,_,_,_,_,_,_,_,_] (by kernel_rfl) (by kernel_rfl) (by kernel_rfl)
  ·refine D5 O (λvs=>H8 O)<|D5 O (λvs=>N1 O)<|D5 O (λvs=>I8 4 O)<|D5 O (λvs=>K1 1 O)<|D5 O (λvs=>H8 O)<|D5 O (λvs=>N1 O)<|D5 O (λvs=>I8 3 O)<|D5 O (λvs=>K1 1 O)<|D5 O (λvs=>FH O)<|D5 O (λvs=>FH O)<|D5 O (λvs=>FH O)<|D5 O (λvs=>FH O) ?_;exact l6
  ·(repeat(first|exact trivial|exact(λ_ _ _ h=>h)|refine⟨trivial,?_⟩|refine⟨λ_ _ _ h=>h,?_⟩))
  ·intro vs;refine A6<|D4<|bL O O O O O O λw9 ho9=>?_;exact⟨u,hq10,by rw[if_pos he],_,_,ho9.sublist (.cons _ (.cons _ (.cons_cons _ (.cons _ (.cons_cons _ (Ea _))))))⟩
 ·refine C5<|A4 O<|E5 O<|B2 1 O<|J3 O<|A5 O<|E7 O (by exact he)<|C8 ?_;apply BL 12 [_,_,_,_,_,_,_,_,_,_,_,_] (by kernel_rfl) (by kernel_rfl) (by kernel_rfl)
  ·refine D5 O (λvs=>H8 O)<|D5 O (λvs=>N1 O)<|D5 O (λvs=>I8 7 O)<|D5 O (λvs=>K1 1 O)<|D5 O (λvs=>H8 O)<|D5 O (λvs=>N1 O)<|D5 O (λvs=>I8 8 O)<|D5 O (λvs=>K1 1 O)<|D5 O (λvs=>FH O)<|D5 O (λvs=>FH O)<|D5 O (λvs=>FH O)<|D5 O (λvs=>FH O) ?_;exact l6
  ·(repeat(first|exact trivial|exact(λ_ _ _ h=>h)|refine⟨trivial,?_⟩|refine⟨λ_ _ _ h=>h,?_⟩))
  ·intro vs;refine A6<|K3<|bL O O O O O O λw9 ho9=>?_;exact⟨u,hq10,by rw[if_neg he],_,_,ho9.sublist (.cons _ (.cons _ (.cons_cons _ (.cons _ (.cons_cons _ (Ea _))))))⟩
end
section
variable{P:Program}{r:Option Nat}{n:Nat}{E:List (Nat×Value)}{C:I3}{H:List C2}
variable{dst:Option Tmp}{ty t:TypeId}{pos:String}{after:Array Edge}{x y:Operand}
theorem Ym{i e sz by' m k c:Nat}{v:Value}{A:Addr}{xs news:H2}(hT:HG P t e sz by'=true)(hx:ev E x=some v)(hi:H[i]?=some (.row v e sz m xs))(hy:ev E y=some (.slice (some A) k c))
  (hl:news.length=k*sz)(hn:∀w,B7 C H w->∀j u,news[j]?=some u->w.cell? (A.add j)=some u)(h1:∀u∈news,u.oneCell'=true)(hb:m+k<=maxLen/\(m+k)*by'<=140737488355328):
  ∀a w,U2 n E a->B7 C H w->∃v' w',(execOp a.eval ⟨dst,.call ⟨.builtin .append,#[x,y],#[t,t]⟩,ty,pos,after,none⟩).run P w=.ok (.value v') w'/\v'.oneCell'=true/\B7 C (H.set i (.row v' e sz (m+k) (xs++news))) w':=by
 intro a w hf ho;obtain⟨hu,i',z,q1,q2,q3,q4,q5,q6⟩:=QI hT;obtain⟨v',w',hr,h2,h3,h4⟩:=run_append_own (P:=P) w 0 t ty e i' z sz by' hu q1 q5 q2 q3 q6 q4 v m xs (ho.rowAt hi) A k c news hl (hn w ho) h1 hb.1 hb.2 (R5 _);have hown:∀b∈(C2.row v' e sz (m+k) (xs++news)).blocks,b∈(C2.row v e sz m xs).blocks\/w.heap.size<=b:=by
  intro b hbb;rcases w7 b w.heap.size with hlt|hge
  ·left;rcases(ho.rowAt hi).2 with⟨rfl,rfl⟩|⟨g0,cap,cur,rfl,hbg,hg,rest0⟩
   ·obtain⟨v2,w2,hr2,h22,_,_⟩:=run_append_own (P:=P) w w.heap.size t ty e i' z sz by' hu q1 q5 q2 q3 q6 q4 (.slice none 0 0) 0 xs ⟨(ho.rowAt hi).1,.inl ⟨rfl,rfl⟩⟩ A k c news hl (hn w ho) h1 hb.1 hb.2 (L6 _);rw[hr] at hr2;cases hr2;have:=h22.lt b (by simpa[C2.blocks] using hbb);omega
   ·by_cases hroom:m+k<=cap
    ·obtain⟨w3,hr3,_⟩:=run_append_fits (P:=P) w 0 t ty e i' sz hu q1 q2 g0 m cap xs (ho.rowAt hi) A k c news hl (hn w ho) h1 hroom;rw[hr] at hr3;cases hr3;simpa[C2.blocks,Value.ownBlock] using hbb
    ·have hr3:=run_append_grow (P:=P) w t ty e i' z hu q1 q5 ⟨g0,0,none⟩ m cap xs (by rw[q2];exact(ho.rowAt hi).1) ((ho.rowAt hi).cells (g:=g0) rfl) A k c news (by rw[q2];exact hl) (hn w ho) (by omega) (by have:=hb.1;simp only[maxLen] at this;omega) (growslice_fits (by omega) (by rw[q3];exact hb.2));rw[hr] at hr3;cases hr3;simp[C2.blocks,Value.ownBlock] at hbb;omega
  ·exact .inr hge
 have hsw:B7 C (H.set i (.row v' e sz (m+k) (xs++news))) w':=ho.swap hi (Ns h3) h2 hown;refine⟨v',w',?_,Kp (hsw.rowAt (Pf (N5.1 hi).1)),hsw⟩;have hm:(#[x,y]:Array Operand).map a.eval= #[v,.slice (some A) k c]:=by simp[hf.eval hx,hf.eval hy]
 simp only[execOp,resolve,hm];simp only[invoke,builtin,Sem.run_bind,Sem.run_pure,Result.andThen_ok,hr]
end
theorem BG{S:List L0}{vs:Nat->Value}{w:B6}{i:Nat}{Φ:Value->B6->Prop}(hS:M9 S i=.rel Φ):∀{is:List Nat},X5 S vs is w->i∈is->Φ (vs i) w
 |[],_,h=>by cases h
 |j::is,hf,h=>by
  unfold X5 at hf;rcases BD.1 h with rfl|h
  ·rw[hS] at hf;exact hf.1
  ·split at hf
   ·exact BG hS hf h
   ·exact BG hS hf.2 h
def PH:Value->Nat
 |.slice (some a) _ _=>a.block
 |_=>0
def Dq(A B:List C2)(p q:Nat)(iv:Value)(e sz m:Nat)(xs news:List Value)(lst:Nat->Bool)(vs:Nat->Value):List C2:=
 A++.row (if lst q then vs q else iv) e sz (if lst q then m+1 else m) (if lst q then xs++news else xs)::(B++if lst p then[.B1 (PH (vs p)) e news.toArray] else[])
section
variable{P:Program}{n:Nat}{E:List (Nat×Value)}{C:I3}{ops:Array Oper}{S:List L0}
variable{A B:List C2}{p q e sz m by':Nat}{iv:Value}{xs news:List Value}
variable{d:Tmp}{ty t:TypeId}{pos:String}{after:Array Edge}{x y:Operand}
theorem Sj{ps:List (Nat×Operand)}{w0:Value}(hS:M9 S p=.rel λu _=>∃gl,u=e6 gl 1)(hqp:q≠p)(hT:KE P t e sz=true)(hp:∀vs,JJ (U1 ops S vs (M4 ⟨some d,.buildSlice t 1 ps.toArray,ty,pos,after,none⟩) E) 0 ps=some [w0])
  (hv:([w0].all λv=>Nat.beq v.cells.size sz)=true)(hb:Nat.ble (1*sz) 16777216=true)(hc:w0.cells.toList=news):
  Bx P n E C (Dq A B p q iv e sz m xs news) ops S p ⟨some d,.buildSlice t 1 ps.toArray,ty,pos,after,none⟩/\((⟨some d,.buildSlice t 1 ps.toArray,ty,pos,after,none⟩:Oper).dst=none->M9 S p=j2):=
 kU rfl λlst vs hl he w hx=>⟨λg=>e6 g 1,λg=>.B1 g e news.toArray,λa w hf ho=>by
  have h:=SR (dst:=some d) (ty:=ty) (pos:=pos) (after:=after) (g:=none) (w:=w) hf hT (hp vs) rfl hv hb;refine⟨w.heap.size,_,h,?_⟩;have:=ho.new news.toArray e;simpa[hc] using this,λg=>⟨by
  unfold Dq;have hb1:Nat.beq q p=false:=by
   cases h:Nat.beq q p with
   |false=>rfl
   |true=>exact absurd (DK h) hqp
  have h1:Q3 lst p q=lst q:=by unfold Q3;rw[hb1];rfl
  have h2:U9 vs p (e6 g 1) q=vs q:=if_neg hqp;have h3:Q3 lst p p=true:=by unfold Q3;rw[Uw];rfl
  have h4:U9 vs p (e6 g 1) p=e6 g 1:=if_pos rfl;rw[h1,h2,h3,h4,hl];simp only[if_true,PH];have:=EC (l₁:=A++.row (if lst q then vs q else iv) e sz (if lst q then m+1 else m) (if lst q then xs++news else xs)::B) (l₂:=[.B1 g e news.toArray]);simpa using this,λw'=>by rw[hS];exact⟨g,rfl⟩⟩⟩
theorem TO(hSp:M9 S p=.rel λu _=>∃gl,u=e6 gl 1)(hS:M9 S q=.rel λu _=>u.oneCell'=true)(hqp:q≠p)(hpe:p∈M4 ⟨some d,.call ⟨.builtin .append,#[x,y],#[t,t]⟩,ty,pos,after,none⟩)(hT:HG P t e sz by'=true)
  (hx:∀vs,ev (U1 ops S vs (M4 ⟨some d,.call ⟨.builtin .append,#[x,y],#[t,t]⟩,ty,pos,after,none⟩) E) x=some iv)(hy:∀vs,ev (U1 ops S vs (M4 ⟨some d,.call ⟨.builtin .append,#[x,y],#[t,t]⟩,ty,pos,after,none⟩) E) y=some (vs p))
  (hl:news.length=1*sz)(h1:∀u∈news,u.oneCell'=true)(hb:m+1<=maxLen/\(m+1)*by'<=140737488355328):
  Bx P n E C (Dq A B p q iv e sz m xs news) ops S q ⟨some d,.call ⟨.builtin .append,#[x,y],#[t,t]⟩,ty,pos,after,none⟩/\((⟨some d,.call ⟨.builtin .append,#[x,y],#[t,t]⟩,ty,pos,after,none⟩:Oper).dst=none->M9 S q=j2):=
 CZ rfl λlst vs hlq he a w hf ho hx0=>by
  have hlp:lst p=true:=he p hpe;obtain⟨gl,hgl⟩:∃gl,vs p=e6 gl 1:=by
   exact BG hSp hx0 hpe
  have hH:Dq A B p q iv e sz m xs news lst vs=A++.row iv e sz m xs::(B++[.B1 gl e news.toArray]):=by
   unfold Dq;rw[hlq,hlp,hgl];rfl
  rw[hH] at ho;have hi:(A++.row iv e sz m xs::(B++[.B1 gl e news.toArray]))[A.length]?=some (.row iv e sz m xs):=by simp
  have hil:(A++.row iv e sz m xs::(B++[.B1 gl e news.toArray]))[A.length+1+B.length]?=some (.B1 gl e news.toArray):=by
   rw[j4 (by omega),show A.length+1+B.length-A.length=B.length+1 by omega,JC,j4 (L6 _),JH];rfl
  have hy':ev (U1 ops S vs (M4 ⟨some d,.call ⟨.builtin .append,#[x,y],#[t,t]⟩,ty,pos,after,none⟩) E) y=some (.slice (some ⟨gl,0,none⟩) 1 1):=by rw[hy vs,hgl]
  obtain⟨v',w',h2,h3,h4⟩:=Ym (dst:=some d) (ty:=ty) (pos:=pos) (after:=after) hT (hx vs) hi hy' hl (λw ho=>BI ho hil) h1 hb a w hf ho;refine .inl ⟨v',w',h2,?_,by rw[hS];exact h3⟩;have hset:(A++C2.row iv e sz m xs::(B++[C2.B1 gl e news.toArray])).set A.length (.row v' e sz (m+1) (xs++news))=A++.row v' e sz (m+1) (xs++news)::(B++[.B1 gl e news.toArray]):=by simp
  rw[hset] at h4;have hH2:Dq A B p q iv e sz m xs news (Q3 lst q) (U9 vs q v')=A++.row v' e sz (m+1) (xs++news)::(B++[.B1 gl e news.toArray]):=by
   unfold Dq;have g1:Q3 lst q q=true:=by unfold Q3;rw[Uw];rfl
   have g2:U9 vs q v' q=v':=if_pos rfl;have g3:Q3 lst q p=lst p:=by unfold Q3;rw[hlp,Bool.or_true]
   have g4:U9 vs q v' p=vs p:=if_neg (Ne.symm hqp);rw[g1,g2,g3,g4,hlp,hgl];rfl
  rw[hH2];exact h4
end
section
attribute [local irreducible] F8 D3 Exit.then Exit.inBlock Exit.noGoto wpQuiet Calls fin At G9 L3 L7 RQ R9
structure f9 where
 op:Int
 a:Int
 b:Int
 node:Int
 deriving DecidableEq
instance:Inhabited f9:=⟨⟨0,0,0,0⟩⟩
def P4(x:f9):List Value:=[.int .i64 x.op,.int .i64 x.a,.int .i64 x.b,.int .i64 x.node]
def u0(x:f9):Value:=.agg (P4 x).toArray
def Er(l:List f9):List Value:=l.flatMap P4
def P8(l:List Vl):List Value:=l.flatMap D8
theorem VH(x:f9):(P4 x).length=4:=rfl
theorem Hh(x:Vl):(D8 x).length=3:=rfl
theorem yD(l:List f9)(x:f9):Er (l++[x])=Er l++P4 x:=by simp[Er]
theorem Wn(l:List Vl)(x:Vl):P8 (l++[x])=P8 l++D8 x:=by simp[P8]
abbrev Q1:Nat:=120
abbrev I4:Nat:=45
abbrev QB:Nat:=152
abbrev Dn:Nat:=150
structure Cd where
 ins:List f9
 G5:List Vl
structure Eg where
 gc:Nat
 v:Value
 f:Int
 ns:List F2
 sv:Value
 C0:List Int
 B8:Int
structure Df where
 iv:Value
 vv:Value
 now:Int
 high:Int
def U5(g:Nat)(e:Eg)(z:Df)(M:Cd):List C2:=
 [.B1 g QB #[.pointer (some ⟨e.gc,0,none⟩),e.sv,.int .i64 z.now],.B1 e.gc Dn #[e.v,.int .i64 e.f,z.iv,z.vv,.int .i64 e.B8,.int .i64 z.high],.row e.v ND 8 e.ns.length (L2 e.ns),.row z.iv Q1 4 M.ins.length (Er M.ins),.row z.vv I4 3 M.G5.length (P8 M.G5),.row e.sv S7 1 e.ns.length (Ao e.C0)]
def G2(M:Cd)(op a b node:Int):Cd:={M with ins:=M.ins++[⟨op,a,b,node⟩]}
def JM(w:World)(H:List C2)(g:Nat)(e:Eg)(M':Cd)(u:Value)(en:Ending)(w':World):Prop:=∃z',en=.returned u/\O0 w (λk=>k∈F1 H) (U5 g e z' M') w'
theorem qT:Ae prog 120=some (P4 default,[(0,1),(1,1),(2,1),(3,1)]):=by kernel_rfl
theorem BH(g:Nat)(e:Eg)(z:Df)(M:Cd)(op a b node hi:Int)(w:B6)(hl:M.ins.length<=90000)(ho:B7 (J1 w (U5 g e z M)) (U5 g e z M) w):
  Calls prog 65 #[.pointer (some ⟨g,0,none⟩),.int .i64 op,.int .i64 a,.int .i64 b,.int .i64 node,.int .i64 hi] w (JM w (U5 g e z M) g e (G2 M op a b node) (.int .i64 M.ins.length)):=by
 refine G7 ho func65 O ntmps65 O ?_;obtain⟨gc,v,f,ns,sv,C0,B8⟩:=e;obtain⟨iv,vv,now,high⟩:=z;refine A3<|A5 O<|C8 ?_;apply Bh 20 [_,_,_,_,_,_,_,_,_,_,_,_,_,_,_,_,.rel λu _=>∃gl,u=e6 gl 1,.rel λu _=>u.oneCell'=true,_,_] (Dq [.B1 g QB #[.pointer (some ⟨gc,0,none⟩),sv,.int .i64 now],.B1 gc Dn #[v,.int .i64 f,iv,vv,.int .i64 B8,.int .i64 high],.row v ND 8 ns.length (L2 ns)] [.row vv I4 3 M.G5.length (P8 M.G5),.row sv S7 1 ns.length (Ao C0)] 16 17 iv Q1 4 M.ins.length (Er M.ins) (P4 ⟨op,a,b,node⟩)) (by kernel_rfl) (by kernel_rfl) (by kernel_rfl) (λ_=>rfl)
 ·refine E9 O (F7 O (λlst vs hl he=>D0 (H8 O)) (λ_ _ _=>rfl))<|E9 O (F7 O (λlst vs hl he=>D0 (N1 O)) (λ_ _ _=>rfl))<|E9 O (F7 O (λlst vs hl he=>D0 (I8 0 O)) (λ_ _ _=>rfl))<|E9 O (F7 O (λlst vs hl he=>D0 (K1 0 O)) (λ_ _ _=>rfl))<|E9 O (F7 O (λlst vs hl he=>D0 (H8 O)) (λ_ _ _=>rfl))<|E9 O (F7 O (λlst vs hl he=>D0 (N1 O)) (λ_ _ _=>rfl))<|E9 O (F7 O (λlst vs hl he=>D0 (I8 0 O)) (λ_ _ _=>rfl))<|E9 O (F7 O (λlst vs hl he=>D0 (K1 0 O)) (λ_ _ _=>rfl))<|E9 O (F7 O (λlst vs hl he=>D0 (N1 O)) (λ_ _ _=>rfl))<|E9 O (F7 O (λlst vs hl he=>D0 (I8 2 O)) (λ_ _ _=>rfl))<|E9 O (F7 O (λlst vs hl he=>D0 (K1 1 O)) (λ_ _ _=>rfl))<|E9 O (F7 O (λlst vs hl he=>D0 (H8 O)) (λ_ _ _=>rfl))<|E9 O (F7 O (λlst vs hl he=>D0 (H8 O)) (λ_ _ _=>rfl))<|E9 O (F7 O (λlst vs hl he=>D0 (H8 O)) (λ_ _ _=>rfl))<|E9 O (F7 O (λlst vs hl he=>D0 (H8 O)) (λ_ _ _=>rfl))<|E9 O (F7 O (λlst vs hl he=>D0 (O7 (P4 ⟨op,a,b,node⟩) qT O)) (λ_ _ _=>rfl))<|E9 O (Sj (w0:=u0 ⟨op,a,b,node⟩) O (by decide) (by kernel_rfl) (λvs=>rfl) O O O)<|E9 O (TO (by':=32) O O (by decide) (by decide) (by kernel_rfl) (λvs=>rfl) (λvs=>rfl) O (LU rfl) (by simp only[maxLen];omega))<|E9 O (F7 O (λlst vs hl he=>D0 (N1 O)) (λ_ _ _=>rfl))<|E9 O (F7 O (λlst vs hl he=>D0 (I8 2 O)) (λ_ _ _=>rfl)) ?_;exact Bf
 ·(repeat(first|exact trivial|exact(λ_ _ _ h=>h)|refine⟨trivial,?_⟩|refine⟨λ_ _ _ h=>h,?_⟩))
 ·intro vs w1 hx;obtain⟨gl,hgl⟩:=BG (i:=16) rfl hx (by decide);have h17:=BG (i:=17) rfl hx (by decide);refine x4 (H':=[.B1 g QB #[.pointer (some ⟨gc,0,none⟩),sv,.int .i64 now],.B1 gc Dn #[v,.int .i64 f,iv,vv,.int .i64 B8,.int .i64 high],.row v ND 8 ns.length (L2 ns),.row (vs 17) Q1 4 (M.ins.length+1) (Er M.ins++P4 ⟨op,a,b,node⟩),.row vv I4 3 M.G5.length (P8 M.G5),.row sv S7 1 ns.length (Ao C0),.B1 gl Q1 (P4 ⟨op,a,b,node⟩).toArray]) O (λw ho=>by unfold Dq at ho;rw[hgl] at ho;exact ho)<|Ai (E':=[(0,.pointer (some ⟨g,0,none⟩)),(5,.int .i64 hi),(12,.int .i64 0),(30,vs 17),(32,.pointer (some ⟨gc,2,none⟩))]) ⟨rfl,rfl,rfl,rfl,rfl,trivial⟩ ?_;generalize vs 17=v30 at h17⊢;refine Ce (i:=1) (by kernel_rfl) O O (by assumption) O O<|I9 O<|E5 O<|B2 0 O<|A4 O<|B9 (Hz O O) O<|E5 O<|D9 O<|N4 0 O<|A6<|C8 ?_;apply BL 18 [_,_,_,_,_,_,_,_,_,_,_,_,_,_,_,_,_,_] (by kernel_rfl) (by kernel_rfl) (by kernel_rfl)
  ·refine D5 O (λvs=>H8 O)<|D5 O (λvs=>N1 O)<|D5 O (λvs=>I8 0 O)<|D5 O (λvs=>K1 0 O)<|D5 O (λvs=>H8 O)<|D5 O (λvs=>N1 O)<|D5 O (λvs=>I8 0 O)<|D5 O (λvs=>K1 0 O)<|D5 O (λvs=>N1 O)<|D5 O (λvs=>I8 5 O)<|D5 O (λvs=>K1 1 O)<|D5 O (λvs=>H8 O)<|D5 O (λvs=>N1 O)<|D5 O (λvs=>I8 2 O)<|D5 O (λvs=>K1 0 O)<|D5 O (λvs=>iV O O)<|D5 O (λvs=>N1 O)<|D5 O (λvs=>I8 5 O) ?_;exact l6
  ·(repeat(first|exact trivial|exact(λ_ _ _ h=>h)|refine⟨trivial,?_⟩|refine⟨λ_ _ _ h=>h,?_⟩))
  ·intro vs;refine N4 1 O<|I9 O<|E5 O<|B2 0 O<|E5 O<|B2 1 O<|BA 3 O<|B9 (DA O O (by omega)) O<|A5 O<|D4<|E4 O λw9 ho9=>?_;have e1:(((M.ins.length+1:Nat):Int)-1)=(M.ins.length:Int):=by omega
   refine⟨⟨v30,vv,IntKind.i64.wrap (now+hi),if IntKind.i64.wrap (now+hi)>high then IntKind.i64.wrap (now+hi) else high⟩,by rw[e1],?_⟩;unfold U5 G2;dsimp only;rw[yD,J8];exact⟨_,_,ho9.sublist (HB _ [_])⟩
abbrev jW:Nat:=146
def CC(g gop gm gi:Nat)(op i:Int):List C2:=[.B1 gi S7 #[.int .i64 i],.B1 gop S7 #[.int .i64 op],.B1 gm jW #[.pointer (some ⟨g,0,none⟩)]]
def VY(gop gm gi:Nat):Value:=.func (.func 201) #[] #[.pointer (some ⟨gop,0,none⟩),.pointer (some ⟨gm,0,none⟩),.pointer (some ⟨gi,0,none⟩)]
theorem tO(g:Nat)(e:Eg)(z:Df)(M:Cd)(op a b node hi:Int)(w:B6)(hl:M.ins.length<=90000)(ho:B7 (J1 w (U5 g e z M)) (U5 g e z M) w):
  Calls prog 148 #[.pointer (some ⟨g,0,none⟩),.int .i64 op,.int .i64 a,.int .i64 b,.int .i64 node,.int .i64 hi] w λen w'=>∃q:(Nat×Nat×Nat)×Df,en=.returned (VY q.1.1 q.1.2.1 q.1.2.2)/\O0 w (λk=>k∈F1 (U5 g e z M)) (CC g q.1.1 q.1.2.1 q.1.2.2 op M.ins.length++U5 g e q.2 (G2 M op a b node)) w':=by
 refine G7 ho func148 O ntmps148 O<|A3<|KP O O O λgz0=>KP O O O λgz1=>A5 O<|A3<|N3 1 O<|N3 0 O<|A4 O<|A4 O<|A4 O<|A4 O<|W7 (ι:=Df) [.B1 gz1 S7 #[.int .i64 op],.B1 gz0 jW #[.pointer (some ⟨g,0,none⟩)]] (U5 g e z M) (λ_=>.int .i64 M.ins.length) (λz'=>U5 g e z' (G2 M op a b node)) O (A7 O) (λw _ ho=>BH g e z M op a b node hi w hl ho) O O λz20=>Jl O Nm O λgz2=>N4 0 O<|I0<|B9 (Gx O) O<|A5 O<|D4<|E4 O λw9 ho9=>?_;exact⟨((gz1,gz0,gz2),z20),rfl,_,_,ho9⟩
theorem Vx{α:Type}{enc:α->List Value}{k:Nat}(hk:∀x,(enc x).length=k):∀{L:List α} {i j:Nat} {x x':α} {u:Value},L[i]?=some x->j<k->enc x'=(enc x).set j u->(L.flatMap enc).set (0+i*k+j) u=(L.set i x').flatMap enc
 |[],i,j,x,x',u,hi,hj,he=>by simp at hi
 |y::L,0,j,x,x',u,hi,hj,he=>by
  obtain rfl:y=x:=by simpa using hi
  rw[Nat.zero_mul,Y3,List.set_cons_zero,DL,DL,List.set_append_left _ _ (by rw[hk];exact hj),he]
 |y::L,i+1,j,x,x',u,hi,hj,he=>by
  have hi:L[i]?=some x:=by simpa using hi
  have ih:=Vx hk hi hj he;rw[Ra,DL,DL,<-ih,Rn _ _ (by rw[hk,Np];omega),hk];congr 2;rw[Np];omega
def LN(op:Int):Bool:=decide (op=13)||decide (op=15)
def l7(M:Cd)(i:Nat)(op:Int):Cd:={M with ins:=match M.ins[i]? with
 |some x=>M.ins.set i (if LN op then{x with b:=M.ins.length} else{x with a:=M.ins.length})
 |none=>M.ins}
theorem qH(g gop gm gi:Nat)(e:Eg)(z:Df)(M:Cd)(op:Int)(i:Nat)(w:B6)(hi:i<M.ins.length)(hl:M.ins.length<=90000)(ho:B7 (J1 w (CC g gop gm gi op i++U5 g e z M)) (CC g gop gm gi op i++U5 g e z M) w):
  Calls prog 201 #[.pointer (some ⟨gop,0,none⟩),.pointer (some ⟨gm,0,none⟩),.pointer (some ⟨gi,0,none⟩)] w λen w'=>∃z',en=.returned (.tuple #[])/\O0 w (λk=>k∈F1 (CC g gop gm gi op i++U5 g e z M)) (U5 g e z' (l7 M i op)) w':=by
 refine G7 ho func201 O ntmps201 O ?_;obtain⟨gc,v,f,ns,sv,C0,B8⟩:=e;obtain⟨iv,vv,now,high⟩:=z;obtain⟨x,hx⟩:∃x,M.ins[i]?=some x:=⟨_,T8 hi⟩
 refine R7 6 O ?_;rintro⟨_,⟨_,h0⟩|⟨gs,cp,hiv⟩⟩
 ·omega
 dsimp only at hiv;subst hiv;by_cases h13:op=13\/op=15
 ·have hp:LN op=true:=by rcases h13 with rfl|rfl<;>rfl
  have e1:l7 M i op={M with ins:=M.ins.set i {x with b:=M.ins.length}}:=by unfold l7;rw[hx,hp];rfl
  rw[e1];have hset:(Er M.ins).set (0+i*4+2) (.int .i64 M.ins.length)=Er (M.ins.set i {x with b:=M.ins.length}):=Vx VH (j:=2) (x':={x with b:=M.ins.length}) (u:=.int .i64 M.ins.length) hx (by decide) rfl;rcases h13 with rfl|rfl
  ·refine A3<|N3 1 O<|H5 O<|A4 O<|F9 5 true O (decide_eq_true (by omega))<|D2 O<|D2 O<|K8 O<|A6<|R1 O ?_;apply BL 18 [_,_,_,_,_,_,_,_,_,_,_,_,_,_,_,_,_,_] (by kernel_rfl) (by kernel_rfl) (by kernel_rfl)
   ·refine D5 O (λvs=>K1 2 O)<|D5 O (λvs=>N1 O)<|D5 O (λvs=>I8 0 O)<|D5 O (λvs=>K1 3 O)<|D5 O (λvs=>N1 O)<|D5 O (λvs=>I8 2 O)<|D5 O (λvs=>K1 4 O)<|D5 O (λvs=>K1 0 O)<|D5 O (λvs=>K1 2 O)<|D5 O (λvs=>N1 O)<|D5 O (λvs=>I8 0 O)<|D5 O (λvs=>K1 3 O)<|D5 O (λvs=>N1 O)<|D5 O (λvs=>I8 2 O)<|D5 O (λvs=>K1 4 O)<|D5 O (λvs=>Im (i:=6) (by kernel_rfl) O O)<|D5 O (λvs=>En 4 i O hi)<|D5 O (λvs=>I8 2 O) ?_;exact l6
   ·(repeat(first|exact trivial|exact(λ_ _ _ h=>h)|refine⟨trivial,?_⟩|refine⟨λ_ _ _ h=>h,?_⟩))
   ·intro vs;refine GR (i:=6) (j:=0+i*4+2) (by kernel_rfl) O O O O (Mt hi (by decide))<|H6<|K7 O λw9 ho9=>?_;refine⟨⟨.slice (some ⟨gs,0,none⟩) M.ins.length cp,vv,now,high⟩,rfl,?_⟩;unfold U5;dsimp only;rw[Kg,<-hset];exact⟨_,_,ho9.sublist (.cons _ (.cons _ (.cons _ (Q5 _))))⟩
  ·refine A3<|N3 1 O<|H5 O<|A4 O<|F9 5 false O (decide_eq_false (by omega))<|B3 O<|N3 1 O<|B3 O<|H5 O<|G4 O<|A6<|E7 O (by omega) ?_;apply BL 18 [_,_,_,_,_,_,_,_,_,_,_,_,_,_,_,_,_,_] (by kernel_rfl) (by kernel_rfl) (by kernel_rfl)
   ·refine D5 O (λvs=>K1 2 O)<|D5 O (λvs=>N1 O)<|D5 O (λvs=>I8 0 O)<|D5 O (λvs=>K1 3 O)<|D5 O (λvs=>N1 O)<|D5 O (λvs=>I8 2 O)<|D5 O (λvs=>K1 4 O)<|D5 O (λvs=>K1 0 O)<|D5 O (λvs=>K1 2 O)<|D5 O (λvs=>N1 O)<|D5 O (λvs=>I8 0 O)<|D5 O (λvs=>K1 3 O)<|D5 O (λvs=>N1 O)<|D5 O (λvs=>I8 2 O)<|D5 O (λvs=>K1 4 O)<|D5 O (λvs=>Im (i:=6) (by kernel_rfl) O O)<|D5 O (λvs=>En 4 i O hi)<|D5 O (λvs=>I8 2 O) ?_;exact l6
   ·(repeat(first|exact trivial|exact(λ_ _ _ h=>h)|refine⟨trivial,?_⟩|refine⟨λ_ _ _ h=>h,?_⟩))
   ·intro vs;refine GR (i:=6) (j:=0+i*4+2) (by kernel_rfl) O O O O (Mt hi (by decide))<|H6<|K7 O λw9 ho9=>?_;refine⟨⟨.slice (some ⟨gs,0,none⟩) M.ins.length cp,vv,now,high⟩,rfl,?_⟩;unfold U5;dsimp only;rw[Kg,<-hset];exact⟨_,_,ho9.sublist (.cons _ (.cons _ (.cons _ (Q5 _))))⟩
 ·have hp:LN op=false:=by unfold LN;simp;omega
  have e1:l7 M i op={M with ins:=M.ins.set i {x with a:=M.ins.length}}:=by unfold l7;rw[hx,hp];rfl
  rw[e1];have hset:(Er M.ins).set (0+i*4+1) (.int .i64 M.ins.length)=Er (M.ins.set i {x with a:=M.ins.length}):=Vx VH (j:=1) (x':={x with a:=M.ins.length}) (u:=.int .i64 M.ins.length) hx (by decide) rfl;refine A3<|N3 1 O<|H5 O<|A4 O<|F9 5 false O (decide_eq_false (by omega))<|B3 O<|N3 1 O<|B3 O<|H5 O<|G4 O<|A6<|E0 O (by omega) ?_;apply BL 18 [_,_,_,_,_,_,_,_,_,_,_,_,_,_,_,_,_,_] (by kernel_rfl) (by kernel_rfl) (by kernel_rfl)
  ·refine D5 O (λvs=>K1 2 O)<|D5 O (λvs=>N1 O)<|D5 O (λvs=>I8 0 O)<|D5 O (λvs=>K1 3 O)<|D5 O (λvs=>N1 O)<|D5 O (λvs=>I8 2 O)<|D5 O (λvs=>K1 4 O)<|D5 O (λvs=>K1 0 O)<|D5 O (λvs=>K1 2 O)<|D5 O (λvs=>N1 O)<|D5 O (λvs=>I8 0 O)<|D5 O (λvs=>K1 3 O)<|D5 O (λvs=>N1 O)<|D5 O (λvs=>I8 2 O)<|D5 O (λvs=>K1 4 O)<|D5 O (λvs=>Im (i:=6) (by kernel_rfl) O O)<|D5 O (λvs=>En 4 i O hi)<|D5 O (λvs=>I8 1 O) ?_;exact l6
  ·(repeat(first|exact trivial|exact(λ_ _ _ h=>h)|refine⟨trivial,?_⟩|refine⟨λ_ _ _ h=>h,?_⟩))
  ·intro vs;refine GR (i:=6) (j:=0+i*4+1) (by kernel_rfl) O O O O (Mt hi (by decide))<|H6<|K7 O λw9 ho9=>?_;refine⟨⟨.slice (some ⟨gs,0,none⟩) M.ins.length cp,vv,now,high⟩,rfl,?_⟩;unfold U5;dsimp only;rw[Kg,<-hset];exact⟨_,_,ho9.sublist (.cons _ (.cons _ (.cons _ (Q5 _))))⟩
def Hg{α:Type}(enc:α->List Value)(k:Nat)(w:World)(v:Value)(L:List α):Prop:=(v=.slice none 0 0/\L=[])\/
 ∃gb c,v=.slice (some ⟨gb,0,none⟩) L.length c/\∀i x,L[i]?=some x->∀j u,(enc x)[j]?=some u->w.cell? ((⟨gb,0+i*k,none⟩:Addr).add j)=some u
theorem B7.Qw{α:Type}[Inhabited α]{enc:α->List Value}{k:Nat}(hk:∀x,(enc x).length=k){w:B6}{C:I3}{H:List C2}{q e:Nat}{v:Value}{L:List α}(ho:B7 C H w)(hq:H[q]?=some (.row v e k L.length (L.flatMap enc))):Hg enc k w v L:=by
 rcases(ho.rowAt hq).2 with⟨rfl,h0⟩|⟨g,cap,cur,rfl,_⟩
 ·exact .inl ⟨rfl,Kh h0⟩
 ·exact .inr ⟨g,cap,rfl,λi x hx=>X7 hk ho hq hx⟩
theorem Hg.K6{α:Type}{enc:α->List Value}{k:Nat}{w w':B6}{v:Value}{L:List α}(h:Hg enc k w v L)(hb:Below w.heap.size w w'):Hg enc k w' v L:=
 h.imp id λ⟨gb,c,h1,h2⟩=>⟨gb,c,h1,λi x hx j u hu=>Below.o8 hb (h2 i x hx j u hu)⟩
theorem Hg.len{α:Type}{enc:α->List Value}{k:Nat}{w:B6}{v:Value}{L:List α}(h:Hg enc k w v L):∃A c,v=.slice A L.length c:=by
 rcases h with⟨rfl,rfl⟩|⟨gb,c,rfl,_⟩
 ·exact⟨none,0,rfl⟩
 ·exact⟨_,c,rfl⟩
theorem TI:Ll prog 45=some [(0,0),(1,0),(2,2)]:=by kernel_rfl
theorem Td(x y:Vl):HK (D8 x) (D8 y) [(0,0),(1,0),(2,2)]=some (decide (x=y)):=by
 obtain⟨a,b,c⟩:=x;obtain⟨a',b',c'⟩:=y;have hb:(bs c=bs c')↔c=c':=⟨λh=>by unfold bs at h;injection h with h;exact Array.toList_inj.2 h|>λh=>by simpa using h,λh=>by rw[h]⟩
 simp only[D8,HK,LT,YS,JC,if_true];congr 1;by_cases h1:a=a'<;>by_cases h2:b=b'<;>by_cases h3:c=c'<;>simp[h1,h2,h3,hb]
theorem uL(v:Value)(L:List Vl)(x:Vl)(w:B6)(hV:Hg D8 3 w v L)(hl:L.length<=100000):
  I6 233 #[v,O6 x] w (.int .i64 (match L.idxOf? x with|some k=>(k:Int)|none=> -1)):=by
 refine J5 func233 O ntmps233 O ?_;obtain⟨A,c,rfl⟩:=hV.len;refine A3<|F0 (cs:=(D8 x).toArray) O λgx=>A5 O<|B5<|A4 O<|d1 O<|A4 O<|A6<|C7 ?_;rotate_left;refine DG (λi:Nat=>i<=L.length/\x∉L.take i) (λi=>[(0,.slice A L.length c),(3,.pointer (some ⟨gx,0,none⟩)),(7,.int .i64 L.length),(8,.int .i64 i)]) (λi=>L.length-i) 0 ⟨R5 _,by simp⟩ ⟨rfl,rfl,rfl,rfl,trivial⟩ ?_;rintro i ⟨hi,hn⟩;by_cases hil:i<L.length
 ·rcases hV with⟨_,rfl⟩|⟨gb,c2,hs,hcell⟩
  ·simp at hil
  obtain⟨rfl,rfl⟩:A=some ⟨gb,0,none⟩/\c=c2:=by simpa using hs
  have hx:L[i]?=some L[i]:=T8 hil;have hc:=hcell i _ hx;by_cases he:x=L[i]
  ·refine A3<|H9 O<|A6<|C8<|E7 O (by omega)<|D6<|C8<|C7<|B4 O<|A5 O<|C8 ?_;apply BL 6 [_,_,_,_,_,_] (by kernel_rfl) (by kernel_rfl) (by kernel_rfl)
   ·refine D5 O (λvs=>FY 0 (cs:=(D8 x).toArray) O)<|D5 O (λvs=>H8 O)<|D5 O (λvs=>H8 O)<|D5 O (λvs=>En 3 i O hil)<|D5 O (λvs=>Ip (vs:=D8 L[i]) (by kernel_rfl) O (λw' ho j u hu=>Below.o8 ho.plain (hc j u hu)))<|D5 O (λvs=>Yu TI O O (Td _ _)) ?_;exact l6
   ·(repeat(first|exact trivial|exact(λ_ _ _ h=>h)|refine⟨trivial,?_⟩|refine⟨λ_ _ _ h=>h,?_⟩))
   ·intro vs;refine A6<|E7 O (by exact he)<|B4 O<|A5 O<|K3<|K0<|U3<|E4 O λw9 ho9=>?_;refine⟨?_,ho9.plain⟩;have:L.idxOf? x=some i:=by
     rw[mM];refine⟨hil,by simpa using he.symm,λj hj=>?_⟩;intro h9;exact hn (YQ.2 ⟨j,by omega,by simpa using h9⟩)
    rw[this]
  ·refine A3<|H9 O<|A6<|C8<|E7 O (by omega)<|D6<|C8<|C7<|B4 O<|A5 O<|C8 ?_;apply BL 6 [_,_,_,_,_,_] (by kernel_rfl) (by kernel_rfl) (by kernel_rfl)
   ·refine D5 O (λvs=>FY 0 (cs:=(D8 x).toArray) O)<|D5 O (λvs=>H8 O)<|D5 O (λvs=>H8 O)<|D5 O (λvs=>En 3 i O hil)<|D5 O (λvs=>Ip (vs:=D8 L[i]) (by kernel_rfl) O (λw' ho j u hu=>Below.o8 ho.plain (hc j u hu)))<|D5 O (λvs=>Yu TI O O (Td _ _)) ?_;exact l6
   ·(repeat(first|exact trivial|exact(λ_ _ _ h=>h)|refine⟨trivial,?_⟩|refine⟨λ_ _ _ h=>h,?_⟩))
   ·intro vs;refine A6<|E0 O (by exact he)<|P5<|F4<|E2<|C5<|N6 O (by omega)<|A4 O<|A6 ?_;rotate_left;refine DB (i+1) ⟨by omega,?_⟩ (by omega) ⟨rfl,rfl,rfl,rfl,trivial⟩;rw[JG,hx];simp only[Option.toList,q0,Bt];exact λh=>h.elim hn he
 ·obtain rfl:i=L.length:=by omega
  refine A3<|H9 O<|A6<|C8<|E0 O (by omega)<|S4<|J0<|J0<|S5<|E2<|A3<|A5 O<|D4<|E4 O λw9 ho9=>?_;refine⟨?_,ho9.plain⟩;rw[GQ] at hn;rw[Uv.2 hn]
def Ag:List (List UInt8):=[[61,61],[33,61],[60],[60,61],[62],[62,61],[43],[45],[42],[47],[37],[46,46]]
theorem pI:Mq prog 289=some (List.replicate 12 (.string (bs [])),1):=by kernel_rfl
theorem aq7(w:B6):I6 251 #[] w (.agg (D1 Ag).toArray):=by
 refine J5 func251 O ntmps251 O<|A3<|E3 Tryz.zeroValue289 O λgz0=>I0<|B9 (JI (cs:=D1 Ag) pI O O) O<|E8 0 ((D1 Ag).toArray) O<|A6<|D4<|EK (i:=0) (k:=12) O O O O (by kernel_rfl) O λw9 ho9=>?_;exact⟨rfl,ho9.plain⟩
def Hl(s:List UInt8):Int:=match Ag.idxOf? s with|some k=>(k:Int)|none=> -1
theorem xG(s:C9)(w:B6):I6 234 #[.string (bs s)] w (.int .i64 (Hl s)):=by
 refine J5 func234 O ntmps234 O<|A3<|A5 O<|B5<|F3 251 (A7 O) (λw ho=>aq7 w) O<|A4 O<|A6<|C7 ?_;rotate_left;refine DG (λi:Nat=>i<=12/\s∉Ag.take i) (λi=>[(0,.string (bs s)),(5,.agg (D1 Ag).toArray),(6,.int .i64 i)]) (λi=>12-i) 0 ⟨R5 _,by simp⟩ ⟨rfl,rfl,rfl,trivial⟩ ?_;rintro i ⟨hi,hn⟩;by_cases hil:i<12
 ·have hx:Ag[i]?=some (Ag[i]'hil):=T8 (show i<Ag.length from hil);have hget:(D1 Ag).toArray[i]?=some (.string (bs (Ag[i]'hil))):=by simpa using La hx
  have hlt:i<Ag.length:=hil;by_cases he:Ag[i]'hil=s
  ·have hidx:Hl s=i:=by
    have:Ag.idxOf? s=some i:=by
     rw[mM];refine⟨hlt,he,λj hj=>?_⟩;intro h9;exact hn (YQ.2 ⟨j,by omega,by simpa using h9⟩)
    unfold Hl;rw[this]
   generalize Ag[i]'hil=x at hget he;exact A3<|H9 O<|A6<|C8<|E7 O (by omega)<|D6<|C8<|C7<|B4 O<|B9 (BZ (l:=12) (q:=i) (by kernel_rfl) O O hil hget) O<|E6 O<|A5 O<|B4 O<|A4 O<|L4 O<|A6<|E7 O (by omega)<|B4 O<|A5 O<|K3<|K0<|U3<|E4 O λw9 ho9=>⟨by rw[hidx],ho9.plain⟩
  ·have hn2:s∉Ag.take (i+1):=by
    rw[JG,hx];simp only[Option.toList,q0,Bt];exact λh=>h.elim hn λh=>he h.symm
   generalize Ag[i]'hil=x at hget he;refine A3<|H9 O<|A6<|C8<|E7 O (by omega)<|D6<|C8<|C7<|B4 O<|B9 (BZ (l:=12) (q:=i) (by kernel_rfl) O O hil hget) O<|E6 O<|A5 O<|B4 O<|A4 O<|L4 O<|A6<|E0 O (by omega)<|P5<|F4<|E2<|C5<|N6 O (by omega)<|A4 O<|A6 ?_;rotate_left;exact DB (i+1) ⟨by omega,hn2⟩ (by omega) ⟨rfl,rfl,rfl,trivial⟩
 ·obtain rfl:i=12:=by omega
  refine A3<|H9 O<|A6<|C8<|E0 O (by omega)<|S4<|J0<|J0<|S5<|E2<|A3<|A5 O<|D4<|E4 O λw9 ho9=>?_;refine⟨?_,ho9.plain⟩;have hn:s∉Ag:=hn;unfold Hl;rw[Uv.2 hn]
def BV(M:Cd)(x:Vl):Int:=match M.G5.idxOf? x with|some k=>(k:Int)|none=>(M.G5.length:Int)
def y4(M:Cd)(x:Vl):Cd:=match M.G5.idxOf? x with|some _=>M|none=>{M with G5:=M.G5++[x]}
theorem RY(g:Nat)(e:Eg)(z:Df)(M:Cd)(x:Vl)(w:B6)(hl:M.G5.length<=90000)(ho:B7 (J1 w (U5 g e z M)) (U5 g e z M) w):
  Calls prog 199 #[.pointer (some ⟨g,0,none⟩),O6 x] w (JM w (U5 g e z M) g e (y4 M x) (.int .i64 (BV M x))):=by
 refine G7 ho func199 O ntmps199 O ?_;obtain⟨gc,v,f,ns,sv,C0,B8⟩:=e;obtain⟨iv,vv,now,high⟩:=z;unfold BV y4;refine A3<|F0 (cs:=(D8 x).toArray) O λgx=>A5 O<|C8<|C8 ?_;apply BL 9 [_,_,_,_,_,_,_,_,_] (by kernel_rfl) (by kernel_rfl) (by kernel_rfl)
 ·refine D5 O (λvs=>H8 O)<|D5 O (λvs=>N1 O)<|D5 O (λvs=>I8 0 O)<|D5 O (λvs=>K1 1 O)<|D5 O (λvs=>N1 O)<|D5 O (λvs=>I8 3 O)<|D5 O (λvs=>K1 2 O)<|D5 O (λvs=>FY 0 (cs:=(D8 x).toArray) O)<|Ld O (λvs=>IZ (A7 O) (λw ho _=>uL vv M.G5 x w (ho.Qw Hh (q:=5) rfl) (by omega))) ?_;exact l6
 ·(repeat(first|exact trivial|exact(λ_ _ _ h=>h)|refine⟨trivial,?_⟩|refine⟨λ_ _ _ h=>h,?_⟩))
 intro vs;cases hx:M.G5.idxOf? x with
 |some k=>
  refine A5 O<|B4 O<|O1 O<|A6<|E7 O (by exact YR _)<|B4 O<|A5 O<|D4<|K0<|E4 O λw9 ho9=>?_;exact⟨⟨iv,vv,now,high⟩,rfl,_,_,ho9.sublist (L9 ..)⟩
 |none=>
  refine A5 O<|B4 O<|O1 O<|A6<|E0 O (by decide)<|D6<|C8 ?_;apply Bh 16 [_,_,_,_,_,_,_,_,_,_,_,_,.rel λu _=>∃gl,u=e6 gl 1,.rel λu _=>u.oneCell'=true,_,_] (Dq [.B1 gx I4 (D8 x).toArray,.B1 g QB #[.pointer (some ⟨gc,0,none⟩),sv,.int .i64 now],.B1 gc Dn #[v,.int .i64 f,iv,vv,.int .i64 B8,.int .i64 high],.row v ND 8 ns.length (L2 ns),.row iv Q1 4 M.ins.length (Er M.ins)] [.row sv S7 1 ns.length (Ao C0)] 12 13 vv I4 3 M.G5.length (P8 M.G5) (D8 x)) (by kernel_rfl) (by kernel_rfl) (by kernel_rfl) (λ_=>rfl)
  ·refine E9 O (F7 O (λlst vs hl he=>D0 (H8 O)) (λ_ _ _=>rfl))<|E9 O (F7 O (λlst vs hl he=>D0 (N1 O)) (λ_ _ _=>rfl))<|E9 O (F7 O (λlst vs hl he=>D0 (I8 0 O)) (λ_ _ _=>rfl))<|E9 O (F7 O (λlst vs hl he=>D0 (K1 1 O)) (λ_ _ _=>rfl))<|E9 O (F7 O (λlst vs hl he=>D0 (H8 O)) (λ_ _ _=>rfl))<|E9 O (F7 O (λlst vs hl he=>D0 (N1 O)) (λ_ _ _=>rfl))<|E9 O (F7 O (λlst vs hl he=>D0 (I8 0 O)) (λ_ _ _=>rfl))<|E9 O (F7 O (λlst vs hl he=>D0 (K1 1 O)) (λ_ _ _=>rfl))<|E9 O (F7 O (λlst vs hl he=>D0 (N1 O)) (λ_ _ _=>rfl))<|E9 O (F7 O (λlst vs hl he=>D0 (I8 3 O)) (λ_ _ _=>rfl))<|E9 O (F7 O (λlst vs hl he=>D0 (K1 2 O)) (λ_ _ _=>rfl))<|E9 O (F7 O (λlst vs hl he=>D0 (FY 0 (cs:=(D8 x).toArray) O)) (λ_ _ _=>rfl))<|E9 O (Sj (w0:=O6 x) O (by decide) (by kernel_rfl) (λvs=>rfl) O O O)<|E9 O (TO (by':=32) O O (by decide) (by decide) (by kernel_rfl) (λvs=>rfl) (λvs=>rfl) O (LU rfl) (by simp only[maxLen];omega))<|E9 O (F7 O (λlst vs hl he=>D0 (N1 O)) (λ_ _ _=>rfl))<|E9 O (F7 O (λlst vs hl he=>D0 (I8 3 O)) (λ_ _ _=>rfl)) ?_;exact Bf
  ·(repeat(first|exact trivial|exact(λ_ _ _ h=>h)|refine⟨trivial,?_⟩|refine⟨λ_ _ _ h=>h,?_⟩))
  ·intro vs w1 hf1;obtain⟨gl,hgl⟩:=BG (i:=12) rfl hf1 (by decide);have h17:=BG (i:=13) rfl hf1 (by decide);refine x4 (H':=[.B1 gx I4 (D8 x).toArray,.B1 g QB #[.pointer (some ⟨gc,0,none⟩),sv,.int .i64 now],.B1 gc Dn #[v,.int .i64 f,iv,vv,.int .i64 B8,.int .i64 high],.row v ND 8 ns.length (L2 ns),.row iv Q1 4 M.ins.length (Er M.ins),.row (vs 13) I4 3 (M.G5.length+1) (P8 M.G5++D8 x),.row sv S7 1 ns.length (Ao C0),.B1 gl I4 (D8 x).toArray]) O (λw ho=>by unfold Dq at ho;rw[hgl] at ho;exact ho)<|Ai (E':=[(0,.pointer (some ⟨g,0,none⟩)),(31,vs 13),(33,.pointer (some ⟨gc,3,none⟩))]) ⟨rfl,rfl,rfl,trivial⟩ ?_;generalize vs 13=v30 at h17⊢;refine Ce (i:=2) (by kernel_rfl) O O (by assumption) O O<|I9 O<|E5 O<|B2 1 O<|E5 O<|B2 2 O<|BA 5 O<|B9 (DA O O (by omega)) O<|A5 O<|D4<|E4 O λw9 ho9=>?_;have e1:(((M.G5.length+1:Nat):Int)-1)=(M.G5.length:Int):=by omega
   refine⟨⟨iv,v30,now,high⟩,by rw[e1],?_⟩;unfold U5;dsimp only;rw[Wn,J8];exact⟨_,_,ho9.sublist (.cons _ (HB _ [_]))⟩
def Sl:List UInt8:=[97,110,100]
def Gc:List UInt8:=[111,114]
def Ht(s:List UInt8)(j:Int)(fb:Cd->Cd)(M1:Cd):Cd:=
 if s=Sl\/s=Gc then l7 (G2 (fb (G2 M1 5 0 (if s=Gc then 1 else 0) j)) 6 0 0 j) M1.ins.length 5
 else G2 (fb M1) 4 (Hl s) 0 j
def L8(sl:List Int):Ex->Nat->Cd->Cd
 |.no,_,M=>M
 |.nd k i s a b,n,M=>
  if k<=3 then G2 (y4 M ⟨k,i,s⟩) 0 (BV M ⟨k,i,s⟩) 0 ((n+a.size+b.size:Nat):Int)
  else if k=4 then G2 M 1 (sl.getD (n+a.size+b.size) 0) 0 ((n+a.size+b.size:Nat):Int)
  else if k=11 then Ht s ((n+a.size+b.size:Nat):Int) (L8 sl b (n+a.size)) (L8 sl a n M)
  else G2 (L8 sl a n M) 3 k 0 ((n+a.size+b.size:Nat):Int)
theorem Ok(M:Cd)(i:Nat)(op:Int):(l7 M i op).ins.length=M.ins.length/\(l7 M i op).G5=M.G5:=by
 unfold l7;refine⟨?_,rfl⟩;dsimp only;split<;>simp
theorem n7(M:Cd)(op a b node:Int):(G2 M op a b node).ins.length=M.ins.length+1/\(G2 M op a b node).G5=M.G5:=by simp[G2]
theorem NM(M:Cd)(x:Vl):(y4 M x).ins=M.ins/\(y4 M x).G5.length<=M.G5.length+1:=by
 unfold y4;split
 ·exact⟨rfl,Nat.le_succ _⟩
 ·simp
def l5(M M':Cd)(k:Nat):Prop:=M.ins.length<=M'.ins.length/\M'.ins.length<=M.ins.length+2*k/\M'.G5.length<=M.G5.length+k
theorem tV(s:C9)(j:Int){fb:Cd->Cd}{k:Nat}(hf:∀M,l5 M (fb M) k)(M:Cd):l5 M (Ht s j fb M) (k+1):=by
 unfold Ht l5 at*;split
 ·have h1:=hf (G2 M 5 0 (if s=Gc then 1 else 0) j);have h2:=n7 M 5 0 (if s=Gc then 1 else 0) j;have h3:=n7 (fb (G2 M 5 0 (if s=Gc then 1 else 0) j)) 6 0 0 j;have h4:=Ok (G2 (fb (G2 M 5 0 (if s=Gc then 1 else 0) j)) 6 0 0 j) M.ins.length 5;rw[h4.1,h4.2,h3.1,h3.2];rw[h2.1,h2.2] at h1;omega
 ·have h1:=hf M;have h3:=n7 (fb M) 4 (Hl s) 0 j;rw[h3.1,h3.2];omega
theorem Cq(sl:List Int):∀(e:Ex) (n:Nat) (M:Cd),l5 M (L8 sl e n M) e.size
 |.no,_,M=>by simp[L8,l5,Ex.size]
 |.nd k i s a b,n,M=>by
  have ha:=Cq sl a n M;simp only[L8,Ex.size];split
  ·have h1:=NM M ⟨k,i,s⟩;have h2:=n7 (y4 M ⟨k,i,s⟩) 0 (BV M ⟨k,i,s⟩) 0 ((n+a.size+b.size:Nat):Int);unfold l5;rw[h2.1,h2.2,h1.1];omega
  split
  ·have h2:=n7 M 1 (sl.getD (n+a.size+b.size) 0) 0 ((n+a.size+b.size:Nat):Int);unfold l5;rw[h2.1,h2.2];omega
  split
  ·have h3:=tV s ((n+a.size+b.size:Nat):Int) (fb:=L8 sl b (n+a.size)) (k:=b.size) (λM=>Cq sl b _ M) (L8 sl a n M);unfold l5 at*;omega
  ·have h2:=n7 (L8 sl a n M) 3 k 0 ((n+a.size+b.size:Nat):Int);unfold l5 at*;rw[h2.1,h2.2];omega
section
variable{C:I3}{H:List C2}{E:List (Nat×Value)}{n:Nat}{r:Option Nat}{Q:Exit->Act->World->Prop}{ops:Array Oper}{rest:List Oper}
theorem U7{d:Nat}{op:Op}{ty:TypeId}{pos:String}{after:Array Edge}{fn:FuncId}{args:J2}{g:Nat}{e:Eg}{z:Df}{M:Cd}(R:List C2)(M':Cd)(u:Value)(hH:H=R++U5 g e z M)
  (he:f0 prog n E C (U5 g e z M++R) ⟨some d,op,ty,pos,after,none⟩ fn args)(hc:∀w,B7 (J1 w (U5 g e z M)) (U5 g e z M) w->Calls prog fn args w (JM w (U5 g e z M) g e M' u))(hn:Op.X9 op=false)(hd:Nat.blt d n=true)
  (k:∀z',At n ((d,u)::E) C (R++U5 g e z' M') (D3 r prog ops Q rest)):At n E C H (D3 r prog ops Q (⟨some d,op,ty,pos,after,none⟩::rest)):=
 W7 R _ (λ_=>u) (λz'=>U5 g e z' M') hH he (λw _ ho=>hc w ho) hn hd k
theorem OS{d:Nat}{op:Op}{ty:TypeId}{pos:String}{after:Array Edge}{g:Nat}{e:Eg}{z:Df}{M:Cd}(R:List C2)(o a b node hi:Int)(hH:H=R++U5 g e z M)(hl:M.ins.length<=90000)
  (he:f0 prog n E C (U5 g e z M++R) ⟨some d,op,ty,pos,after,none⟩ 148 #[.pointer (some ⟨g,0,none⟩),.int .i64 o,.int .i64 a,.int .i64 b,.int .i64 node,.int .i64 hi])(hn:Op.X9 op=false)(hd:Nat.blt d n=true)
  (k:∀gop gm gi z',At n ((d,VY gop gm gi)::E) C (R++(CC g gop gm gi o M.ins.length++U5 g e z' (G2 M o a b node))) (D3 r prog ops Q rest)):At n E C H (D3 r prog ops Q (⟨some d,op,ty,pos,after,none⟩::rest)):=
 W7 (ι:=(Nat×Nat×Nat)×Df) R _ (λq=>VY q.1.1 q.1.2.1 q.1.2.2) (λq=>CC g q.1.1 q.1.2.1 q.1.2.2 o M.ins.length++U5 g e q.2 (G2 M o a b node)) hH he (λw _ ho=>tO g e z M o a b node hi w hl ho) hn hd (λq=>k _ _ _ _)
theorem Oo{d:Nat}{op:Op}{ty:TypeId}{pos:String}{after:Array Edge}{g gop gm gi i:Nat}{e:Eg}{z:Df}{M:Cd}{o:Int}(R:List C2)(hH:H=R++(CC g gop gm gi o i++U5 g e z M))(hi:i<M.ins.length)(hl:M.ins.length<=90000)
  (he:f0 prog n E C ((CC g gop gm gi o i++U5 g e z M)++R) ⟨some d,op,ty,pos,after,none⟩ 201 #[.pointer (some ⟨gop,0,none⟩),.pointer (some ⟨gm,0,none⟩),.pointer (some ⟨gi,0,none⟩)])(hn:Op.X9 op=false)(hd:Nat.blt d n=true)
  (k:∀z',At n ((d,.tuple #[])::E) C (R++U5 g e z' (l7 M i o)) (D3 r prog ops Q rest)):At n E C H (D3 r prog ops Q (⟨some d,op,ty,pos,after,none⟩::rest)):=
 W7 R _ (λ_=>.tuple #[]) (λz'=>U5 g e z' (l7 M i o)) hH he (λw _ ho=>qH g gop gm gi e z M o i w hi hl ho) hn hd k
end
theorem BB{w w':B6}{H:List C2}{g:Nat}{e:Eg}{z:Df}{M M':Cd}{u:Value}(R:List C2)(h:O0 w (λk=>k∈F1 H) (R++U5 g e z M) w')(hM:M=M'):JM w H g e M' u (.returned u) w':=by
 subst hM;obtain⟨b0,F,h⟩:=h;exact⟨z,rfl,b0,F,h.sublist (Pd _ _)⟩
def W0(M:Cd)(k:Nat):Prop:=M.ins.length+2*k<=80000/\M.G5.length+k<=80000
def RF(a:Ex):Prop:=∀(n:Nat) (e:Eg),AA e.ns n a->e.C0.length=e.ns.length->∀(g:Nat) (z:Df) (M:Cd) (w:World),W0 M a.size->B7 (J1 w (U5 g e z M)) (U5 g e z M) w->
 Calls prog 147 #[.pointer (some ⟨g,0,none⟩),.int .i64 (a.ix n)] w (JM w (U5 g e z M) g e (L8 e.C0 a n M) (.tuple #[]))
theorem W0.after{M M':Cd}{k l:Nat}(h:W0 M (k+l))(hl:l5 M M' k):W0 M' l:=by
 unfold W0 l5 at*;omega
theorem W0.le{M:Cd}{k l:Nat}(h:W0 M k)(hl:l<=k):W0 M l:=by
 unfold W0 at*;omega
theorem W0.lt{M:Cd}{k:Nat}(h:W0 M k):M.ins.length<=80000/\M.G5.length<=80000:=by
 unfold W0 at*;omega
theorem ak3(s:C9){a b:Ex}(ha:RF a)(hb:RF b)(n:Nat)(e:Eg)(hs:AA e.ns n (.nd 11 0 s a b))(hsl:e.C0.length=e.ns.length)(g:Nat)(z:Df)(M:Cd)(w:B6)(hB:W0 M (Ex.nd 11 0 s a b).size)(ho:B7 (J1 w (U5 g e z M)) (U5 g e z M) w):
  Calls prog 200 #[.pointer (some ⟨g,0,none⟩),.int .i64 ((n+a.size+b.size:Nat):Int),Hr ⟨11,Ex.ix n a,Ex.ix (n+Ex.size a) b,-1,-1,0,s,[]⟩] w (JM w (U5 g e z M) g e (L8 e.C0 (.nd 11 0 s a b) n M) (.tuple #[])):=by
 refine G7 ho func200 O ntmps200 O ?_;have hla:=Cq e.C0 a n M;have hB1:W0 (L8 e.C0 a n M) (b.size+1):=by
  have:(Ex.nd 11 0 s a b).size=a.size+(b.size+1):=by simp only[Ex.size];omega
  rw[this] at hB;exact hB.after hla
 have hBa:W0 M a.size:=hB.le (by simp only[Ex.size];omega);have e0:L8 e.C0 (.nd 11 0 s a b) n M=Ht s ((n+a.size+b.size:Nat):Int) (L8 e.C0 b (n+a.size)) (L8 e.C0 a n M):=rfl;rw[e0];have ha:=ha n e hs.left hsl g;have hb:=hb (n+a.size) e hs.right hsl g;have hlb:=Cq e.C0 b (n+a.size);generalize ((n+a.size+b.size:Nat):Int)=j;generalize L8 e.C0 b (n+a.size)=fb at hb hlb⊢;generalize hM1:L8 e.C0 a n M=M1 at hB1⊢;have ha:=λz w h ho=>hM1▸ha z M w h ho;by_cases hs1:s=Sl
 ·have hs9:¬s=Gc:=by rw[hs1];decide
  have e1:Ht s j fb M1=l7 (G2 (fb (G2 M1 5 0 0 j)) 6 0 0 j) M1.ins.length 5:=by unfold Ht;rw[if_pos (.inl hs1)];rw[if_neg hs9]
  rw[e1];have hl2:=hlb (G2 M1 5 0 0 j);have ha2:=n7 M1 5 0 0 j;have hB2:W0 (G2 M1 5 0 0 j) b.size:=by unfold W0 at*;rw[ha2.1,ha2.2];omega
  have ha3:=n7 (fb (G2 M1 5 0 0 j)) 6 0 0 j;have hlt:=hB1.lt;have hlen:(fb (G2 M1 5 0 0 j)).ins.length<=85000:=by unfold l5 W0 at*;omega
  have hM1l:M1.ins.length<(G2 (fb (G2 M1 5 0 0 j)) 6 0 0 j).ins.length:=by rw[ha3.1];unfold l5 at*;omega
  refine A3<|F0 (cs:=(D7 ⟨11,Ex.ix n a,Ex.ix (n+Ex.size a) b,-1,-1,0,s,[]⟩).toArray) O λgb=>I9 O<|B2 0 O<|U7 [.B1 gb ND (D7 ⟨11,Ex.ix n a,Ex.ix (n+Ex.size a) b,-1,-1,0,s,[]⟩).toArray] M1 (.tuple #[]) O (A7 O) (λw ho=>ha z w hBa ho) O O λz11=>A6<|B5<|B2 0 O<|L4 O<|A4 O<|F9 15 true O (decide_eq_true (by exact hs1))<|D2 O<|D2 O<|D2 O<|K8 O<|A6<|R1 O<|A3<|A5 O<|B5<|B2 0 O<|L4 O<|A6<|E0 O (by exact hs9)<|D6<|B4 O<|A4 O<|A4 O<|OS [.B1 gb ND (D7 ⟨11,Ex.ix n a,Ex.ix (n+Ex.size a) b,-1,-1,0,s,[]⟩).toArray] 5 0 0 j (-1) O (by omega) (A7 O) O O λgop gm gi z26=>A5 O<|B4 O<|B2 0 O<|U7 ([.B1 gb ND (D7 ⟨11,Ex.ix n a,Ex.ix (n+Ex.size a) b,-1,-1,0,s,[]⟩).toArray]++CC g gop gm gi 5 M1.ins.length) (fb (G2 M1 5 0 0 j)) (.tuple #[]) O (A7 O) (λw ho=>hb z26 _ w hB2 ho) O O λz30=>I9 O<|A4 O<|U7 ([.B1 gb ND (D7 ⟨11,Ex.ix n a,Ex.ix (n+Ex.size a) b,-1,-1,0,s,[]⟩).toArray]++CC g gop gm gi 5 M1.ins.length) (G2 (fb (G2 M1 5 0 0 j)) 6 0 0 j) (.int .i64 (fb (G2 M1 5 0 0 j)).ins.length) O (A7 O) (λw ho=>BH g e z30 _ 6 0 0 j 0 w (by omega) ho) O O λz33=>I9 O<|Oo [.B1 gb ND (D7 ⟨11,Ex.ix n a,Ex.ix (n+Ex.size a) b,-1,-1,0,s,[]⟩).toArray] O hM1l (by rw[ha3.1];omega) (CB (first:=[]) (vs:=[]) (cap:=[.pointer (some ⟨gop,0,none⟩),.pointer (some ⟨gm,0,none⟩),.pointer (some ⟨gi,0,none⟩)]) O) O O λz35=>A6<|D4 ?_;exact K0<|Ct O O λw9 ho9=>BB [_] ⟨_,_,ho9⟩ rfl
 by_cases hs2:s=Gc
 ·have hs0:=hs1;clear hs1;have hs1:=hs2;have hs9:=hs0;have e1:Ht s j fb M1=l7 (G2 (fb (G2 M1 5 0 1 j)) 6 0 0 j) M1.ins.length 5:=by unfold Ht;rw[if_pos (.inr hs1)];rw[if_pos hs1]
  rw[e1];have hl2:=hlb (G2 M1 5 0 1 j);have ha2:=n7 M1 5 0 1 j;have hB2:W0 (G2 M1 5 0 1 j) b.size:=by unfold W0 at*;rw[ha2.1,ha2.2];omega
  have ha3:=n7 (fb (G2 M1 5 0 1 j)) 6 0 0 j;have hlt:=hB1.lt;have hlen:(fb (G2 M1 5 0 1 j)).ins.length<=85000:=by unfold l5 W0 at*;omega
  have hM1l:M1.ins.length<(G2 (fb (G2 M1 5 0 1 j)) 6 0 0 j).ins.length:=by rw[ha3.1];unfold l5 at*;omega
  refine A3<|F0 (cs:=(D7 ⟨11,Ex.ix n a,Ex.ix (n+Ex.size a) b,-1,-1,0,s,[]⟩).toArray) O λgb=>I9 O<|B2 0 O<|U7 [.B1 gb ND (D7 ⟨11,Ex.ix n a,Ex.ix (n+Ex.size a) b,-1,-1,0,s,[]⟩).toArray] M1 (.tuple #[]) O (A7 O) (λw ho=>ha z w hBa ho) O O λz11=>A6<|B5<|B2 0 O<|L4 O<|A4 O<|F9 15 false O (decide_eq_false (by exact hs9))<|B3 O<|D9 O<|B3 O<|N3 0 O<|B3 O<|L4 O<|G4 O<|A6<|E7 O (by exact hs1)<|A3<|A5 O<|B5<|B2 0 O<|L4 O<|A6<|E7 O (by exact hs1)<|C5<|A5 O<|B4 O<|A4 O<|A4 O<|OS [.B1 gb ND (D7 ⟨11,Ex.ix n a,Ex.ix (n+Ex.size a) b,-1,-1,0,s,[]⟩).toArray] 5 0 1 j (-1) O (by omega) (A7 O) O O λgop gm gi z26=>A5 O<|B4 O<|B2 0 O<|U7 ([.B1 gb ND (D7 ⟨11,Ex.ix n a,Ex.ix (n+Ex.size a) b,-1,-1,0,s,[]⟩).toArray]++CC g gop gm gi 5 M1.ins.length) (fb (G2 M1 5 0 1 j)) (.tuple #[]) O (A7 O) (λw ho=>hb z26 _ w hB2 ho) O O λz30=>I9 O<|A4 O<|U7 ([.B1 gb ND (D7 ⟨11,Ex.ix n a,Ex.ix (n+Ex.size a) b,-1,-1,0,s,[]⟩).toArray]++CC g gop gm gi 5 M1.ins.length) (G2 (fb (G2 M1 5 0 1 j)) 6 0 0 j) (.int .i64 (fb (G2 M1 5 0 1 j)).ins.length) O (A7 O) (λw ho=>BH g e z30 _ 6 0 0 j 0 w (by omega) ho) O O λz33=>?_;exact I9 O<|Oo [.B1 gb ND (D7 ⟨11,Ex.ix n a,Ex.ix (n+Ex.size a) b,-1,-1,0,s,[]⟩).toArray] O hM1l (by rw[ha3.1];omega) (CB (first:=[]) (vs:=[]) (cap:=[.pointer (some ⟨gop,0,none⟩),.pointer (some ⟨gm,0,none⟩),.pointer (some ⟨gi,0,none⟩)]) O) O O λz35=>A6<|D4<|K0<|Ct O O λw9 ho9=>BB [_] ⟨_,_,ho9⟩ rfl
 ·have e1:Ht s j fb M1=G2 (fb M1) 4 (Hl s) 0 j:=by unfold Ht;rw[if_neg (λh=>h.elim hs1 hs2)]
  rw[e1];have hl2:=hlb M1;have hB2:W0 M1 b.size:=hB1.le (by omega);have hlen:(fb M1).ins.length<=85000:=by unfold l5 W0 at*;omega
  exact A3<|F0 (cs:=(D7 ⟨11,Ex.ix n a,Ex.ix (n+Ex.size a) b,-1,-1,0,s,[]⟩).toArray) O λgb=>I9 O<|B2 0 O<|U7 [.B1 gb ND (D7 ⟨11,Ex.ix n a,Ex.ix (n+Ex.size a) b,-1,-1,0,s,[]⟩).toArray] M1 (.tuple #[]) O (A7 O) (λw ho=>ha z w hBa ho) O O λz11=>A6<|B5<|B2 0 O<|L4 O<|A4 O<|F9 15 false O (decide_eq_false (by exact hs1))<|B3 O<|D9 O<|B3 O<|N3 0 O<|B3 O<|L4 O<|G4 O<|A6<|E0 O (by exact hs2)<|D6<|B4 O<|B2 0 O<|U7 [.B1 gb ND (D7 ⟨11,Ex.ix n a,Ex.ix (n+Ex.size a) b,-1,-1,0,s,[]⟩).toArray] (fb M1) (.tuple #[]) O (A7 O) (λw ho=>hb z11 _ w hB2 ho) O O λz39=>A6<|C5<|A4 O<|B2 0 O<|F3 234 (A7 O) (λw ho=>xG s w) O<|A4 O<|U7 [.B1 gb ND (D7 ⟨11,Ex.ix n a,Ex.ix (n+Ex.size a) b,-1,-1,0,s,[]⟩).toArray] (G2 (fb M1) 4 (Hl s) 0 j) (.int .i64 (fb M1).ins.length) O (A7 O) (λw ho=>BH g e z39 _ 4 (Hl s) 0 j (-1) w (by omega) ho) O O λz45=>H6<|K7 O λw9 ho9=>BB [_] ⟨_,_,ho9⟩ rfl
theorem Bc:Ae prog 45=some (D8 default,[(0,1),(1,1),(2,1)]):=by kernel_rfl
theorem Ia{a:Ex}(h:WE a):RF a:=by
 induction h with
 |nil=>
  intro n e hs hsl g z M w hB ho;obtain⟨gc,v,f,ns,sv,C0,B8⟩:=e;dsimp only at hs hsl;have hr:=hs.root;have hjl:=BO hs;refine G7 ho MJ O MK O<|R7 2 O ?_;rintro⟨_,⟨_,h0⟩|⟨gn,cp,hv⟩⟩
  ·dsimp only at h0;omega
  dsimp only at hv;subst hv;have hx:(Ex.nd 0 0 [] .no .no).ix n=((n+Ex.size .no+Ex.size .no:Nat):Int):=rfl;rw[hx];have hlt:=hB.lt;have hvl:=NM M ⟨0,0,[]⟩;refine B4 O<|E5 O<|B2 0 O<|E5 O<|D9 O<|B2 1 O<|A4 O<|Q4 O hjl<|U6 (vs:=D7 _) O (λw' ho=>X7 Y0 ho (q:=2) rfl hr)<|E3 V2 O λgz0=>E8 0 _ O<|I0<|B2 0 O<|A6<|C7<|B5<|C6 O<|C4 O (λz1=>?_) (λz1=>?_);refine D6<|E7 O (by omega)<|C5<|A4 O<|A4 O<|B2 0 O<|B2 0 O<|B2 0 O<|B9 (O7 (D8 ⟨0,0,[]⟩) Bc O) O<|U7 [.B1 gz0 ND (D7 _).toArray] (y4 M ⟨0,0,[]⟩) (.int .i64 (BV M ⟨0,0,[]⟩)) O (A7 O) (λw ho=>RY g _ z M ⟨0,0,[]⟩ w (by omega) ho) O O λz41=>A4 O<|U7 [.B1 gz0 ND (D7 _).toArray] (G2 (y4 M ⟨0,0,[]⟩) 0 (BV M ⟨0,0,[]⟩) 0 ((n+Ex.size .no+Ex.size .no:Nat):Int)) (.int .i64 (y4 M ⟨0,0,[]⟩).ins.length) O (A7 O) (λw ho=>BH g _ z41 _ 0 (BV M ⟨0,0,[]⟩) 0 ((n+Ex.size .no+Ex.size .no:Nat):Int) 1 w (by rw[hvl.1];omega) ho) O O λz43=>H6<|F4<|K7 O λw9 ho9=>?_;rotate_left;contradiction;exact BB [_] ⟨_,_,ho9⟩ rfl
 |bool b=>
  cases b
  ·show RF (.nd 1 0 [] .no .no);intro n e hs hsl g z M w hB ho;obtain⟨gc,v,f,ns,sv,C0,B8⟩:=e;dsimp only at hs hsl;have hr:=hs.root;have hjl:=BO hs;refine G7 ho MJ O MK O<|R7 2 O ?_;rintro⟨_,⟨_,h0⟩|⟨gn,cp,hv⟩⟩
   ·dsimp only at h0;omega
   dsimp only at hv;subst hv;have hx:(Ex.nd 1 0 [] .no .no).ix n=((n+Ex.size .no+Ex.size .no:Nat):Int):=rfl;rw[hx];have hlt:=hB.lt;have hvl:=NM M ⟨1,0,[]⟩;refine B4 O<|E5 O<|B2 0 O<|E5 O<|D9 O<|B2 1 O<|A4 O<|Q4 O hjl<|U6 (vs:=D7 _) O (λw' ho=>X7 Y0 ho (q:=2) rfl hr)<|E3 V2 O λgz0=>E8 0 _ O<|I0<|B2 0 O<|A6<|C7<|B5<|C3 O (by(dsimp only;omega))<|A3<|C6 O<|C4 O (λz1=>?_) (λz1=>?_);refine D6<|E7 O (by omega)<|C5<|A4 O<|A4 O<|B2 0 O<|B2 0 O<|B2 0 O<|B9 (O7 (D8 ⟨1,0,[]⟩) Bc O) O<|U7 [.B1 gz0 ND (D7 _).toArray] (y4 M ⟨1,0,[]⟩) (.int .i64 (BV M ⟨1,0,[]⟩)) O (A7 O) (λw ho=>RY g _ z M ⟨1,0,[]⟩ w (by omega) ho) O O λz41=>A4 O<|U7 [.B1 gz0 ND (D7 _).toArray] (G2 (y4 M ⟨1,0,[]⟩) 0 (BV M ⟨1,0,[]⟩) 0 ((n+Ex.size .no+Ex.size .no:Nat):Int)) (.int .i64 (y4 M ⟨1,0,[]⟩).ins.length) O (A7 O) (λw ho=>BH g _ z41 _ 0 (BV M ⟨1,0,[]⟩) 0 ((n+Ex.size .no+Ex.size .no:Nat):Int) 1 w (by rw[hvl.1];omega) ho) O O λz43=>H6<|F4<|K7 O λw9 ho9=>?_;rotate_left;contradiction;exact BB [_] ⟨_,_,ho9⟩ rfl
  ·show RF (.nd 1 1 [] .no .no);intro n e hs hsl g z M w hB ho;obtain⟨gc,v,f,ns,sv,C0,B8⟩:=e;dsimp only at hs hsl;have hr:=hs.root;have hjl:=BO hs;refine G7 ho MJ O MK O<|R7 2 O ?_;rintro⟨_,⟨_,h0⟩|⟨gn,cp,hv⟩⟩
   ·dsimp only at h0;omega
   dsimp only at hv;subst hv;have hx:(Ex.nd 1 1 [] .no .no).ix n=((n+Ex.size .no+Ex.size .no:Nat):Int):=rfl;rw[hx];have hlt:=hB.lt;have hvl:=NM M ⟨1,1,[]⟩;refine B4 O<|E5 O<|B2 0 O<|E5 O<|D9 O<|B2 1 O<|A4 O<|Q4 O hjl<|U6 (vs:=D7 _) O (λw' ho=>X7 Y0 ho (q:=2) rfl hr)<|E3 V2 O λgz0=>E8 0 _ O<|I0<|B2 0 O<|A6<|C7<|B5<|C3 O (by(dsimp only;omega))<|A3<|C6 O<|C4 O (λz1=>?_) (λz1=>?_);refine D6<|E7 O (by omega)<|C5<|A4 O<|A4 O<|B2 0 O<|B2 0 O<|B2 0 O<|B9 (O7 (D8 ⟨1,1,[]⟩) Bc O) O<|U7 [.B1 gz0 ND (D7 _).toArray] (y4 M ⟨1,1,[]⟩) (.int .i64 (BV M ⟨1,1,[]⟩)) O (A7 O) (λw ho=>RY g _ z M ⟨1,1,[]⟩ w (by omega) ho) O O λz41=>A4 O<|U7 [.B1 gz0 ND (D7 _).toArray] (G2 (y4 M ⟨1,1,[]⟩) 0 (BV M ⟨1,1,[]⟩) 0 ((n+Ex.size .no+Ex.size .no:Nat):Int)) (.int .i64 (y4 M ⟨1,1,[]⟩).ins.length) O (A7 O) (λw ho=>BH g _ z41 _ 0 (BV M ⟨1,1,[]⟩) 0 ((n+Ex.size .no+Ex.size .no:Nat):Int) 1 w (by rw[hvl.1];omega) ho) O O λz43=>H6<|F4<|K7 O λw9 ho9=>?_;rotate_left;contradiction;exact BB [_] ⟨_,_,ho9⟩ rfl
 |int i h=>
  intro n e hs hsl g z M w hB ho;obtain⟨gc,v,f,ns,sv,C0,B8⟩:=e;dsimp only at hs hsl;have hr:=hs.root;have hjl:=BO hs;refine G7 ho MJ O MK O<|R7 2 O ?_;rintro⟨_,⟨_,h0⟩|⟨gn,cp,hv⟩⟩
  ·dsimp only at h0;omega
  dsimp only at hv;subst hv;have hx:(Ex.nd 2 i [] .no .no).ix n=((n+Ex.size .no+Ex.size .no:Nat):Int):=rfl;rw[hx];have hlt:=hB.lt;have hvl:=NM M ⟨2,i,[]⟩;refine B4 O<|E5 O<|B2 0 O<|E5 O<|D9 O<|B2 1 O<|A4 O<|Q4 O hjl<|U6 (vs:=D7 _) O (λw' ho=>X7 Y0 ho (q:=2) rfl hr)<|E3 V2 O λgz0=>E8 0 _ O<|I0<|B2 0 O<|A6<|C7<|B5<|C3 O (by(dsimp only;omega))<|A3<|C3 O (by(dsimp only;omega))<|A3<|C6 O<|C4 O (λz1=>?_) (λz1=>?_);refine D6<|E7 O (by omega)<|C5<|A4 O<|A4 O<|B2 0 O<|B2 0 O<|B2 0 O<|B9 (O7 (D8 ⟨2,i,[]⟩) Bc O) O<|U7 [.B1 gz0 ND (D7 _).toArray] (y4 M ⟨2,i,[]⟩) (.int .i64 (BV M ⟨2,i,[]⟩)) O (A7 O) (λw ho=>RY g _ z M ⟨2,i,[]⟩ w (by omega) ho) O O λz41=>A4 O<|U7 [.B1 gz0 ND (D7 _).toArray] (G2 (y4 M ⟨2,i,[]⟩) 0 (BV M ⟨2,i,[]⟩) 0 ((n+Ex.size .no+Ex.size .no:Nat):Int)) (.int .i64 (y4 M ⟨2,i,[]⟩).ins.length) O (A7 O) (λw ho=>BH g _ z41 _ 0 (BV M ⟨2,i,[]⟩) 0 ((n+Ex.size .no+Ex.size .no:Nat):Int) 1 w (by rw[hvl.1];omega) ho) O O λz43=>H6<|F4<|K7 O λw9 ho9=>?_;rotate_left;contradiction;exact BB [_] ⟨_,_,ho9⟩ rfl
 |text s h=>
  intro n e hs hsl g z M w hB ho;obtain⟨gc,v,f,ns,sv,C0,B8⟩:=e;dsimp only at hs hsl;have hr:=hs.root;have hjl:=BO hs;refine G7 ho MJ O MK O<|R7 2 O ?_;rintro⟨_,⟨_,h0⟩|⟨gn,cp,hv⟩⟩
  ·dsimp only at h0;omega
  dsimp only at hv;subst hv;have hx:(Ex.nd 3 0 s .no .no).ix n=((n+Ex.size .no+Ex.size .no:Nat):Int):=rfl;rw[hx];have hlt:=hB.lt;have hvl:=NM M ⟨3,0,s⟩;refine B4 O<|E5 O<|B2 0 O<|E5 O<|D9 O<|B2 1 O<|A4 O<|Q4 O hjl<|U6 (vs:=D7 _) O (λw' ho=>X7 Y0 ho (q:=2) rfl hr)<|E3 V2 O λgz0=>E8 0 _ O<|I0<|B2 0 O<|A6<|C7<|B5<|C3 O (by(dsimp only;omega))<|A3<|C3 O (by(dsimp only;omega))<|A3<|C3 O (by(dsimp only;omega))<|C5<|C6 O<|C4 O (λz1=>?_) (λz1=>?_);refine C5<|A4 O<|A4 O<|B2 0 O<|B2 0 O<|B2 0 O<|B9 (O7 (D8 ⟨3,0,s⟩) Bc O) O<|U7 [.B1 gz0 ND (D7 _).toArray] (y4 M ⟨3,0,s⟩) (.int .i64 (BV M ⟨3,0,s⟩)) O (A7 O) (λw ho=>RY g _ z M ⟨3,0,s⟩ w (by omega) ho) O O λz41=>A4 O<|U7 [.B1 gz0 ND (D7 _).toArray] (G2 (y4 M ⟨3,0,s⟩) 0 (BV M ⟨3,0,s⟩) 0 ((n+Ex.size .no+Ex.size .no:Nat):Int)) (.int .i64 (y4 M ⟨3,0,s⟩).ins.length) O (A7 O) (λw ho=>BH g _ z41 _ 0 (BV M ⟨3,0,s⟩) 0 ((n+Ex.size .no+Ex.size .no:Nat):Int) 1 w (by rw[hvl.1];omega) ho) O O λz43=>H6<|F4<|K7 O λw9 ho9=>?_;rotate_left;contradiction;exact BB [_] ⟨_,_,ho9⟩ rfl
 |name s h=>
  intro n e hs hsl g z M w hB ho;obtain⟨gc,v,f,ns,sv,C0,B8⟩:=e;dsimp only at hs hsl;have hr:=hs.root;have hjl:=BO hs;refine G7 ho MJ O MK O<|R7 2 O ?_;rintro⟨_,⟨_,h0⟩|⟨gn,cp,hv⟩⟩
  ·dsimp only at h0;omega
  dsimp only at hv;subst hv;have hx:(Ex.nd 4 0 s .no .no).ix n=((n+Ex.size .no+Ex.size .no:Nat):Int):=rfl;rw[hx];have hlt:=hB.lt;refine R7 5 O ?_;rintro⟨_,⟨_,h0⟩|⟨gl,cl,hl⟩⟩
  ·dsimp only at h0;omega
  dsimp only at hl;subst hl;have hsj:C0[n+Ex.size .no+Ex.size .no]?=some (C0.getD (n+Ex.size .no+Ex.size .no) 0):=by
   rw[W6,T8 (by omega)];rfl
  have e1:L8 C0 (.nd 4 0 s .no .no) n M=G2 M 1 (C0.getD (n+Ex.size .no+Ex.size .no) 0) 0 ((n+Ex.size .no+Ex.size .no:Nat):Int):=rfl;dsimp only;rw[e1];generalize C0.getD (n+Ex.size .no+Ex.size .no) 0=sj at hsj⊢;refine B4 O<|E5 O<|B2 0 O<|E5 O<|D9 O<|B2 1 O<|A4 O<|Q4 O hjl<|U6 (vs:=D7 _) O (λw' ho=>X7 Y0 ho (q:=2) rfl hr)<|E3 V2 O λgz0=>E8 0 _ O<|I0<|B2 0 O<|A6<|C7<|B5<|C3 O (by(dsimp only;omega))<|A3<|C3 O (by(dsimp only;omega))<|A3<|C3 O (by(dsimp only;omega))<|C5<|C3 O (by(dsimp only;omega))<|A3<|C6 O<|C4 O (λz1=>?_) (λz1=>?_);refine C5<|A4 O<|A4 O<|E5 O<|B2 1 O<|A4 O<|Q4 O hjl<|B9 (Av 6 O (by omega) (Rv hsj)) O<|A4 O<|U7 [.B1 gz0 ND (D7 _).toArray] (G2 M 1 sj 0 ((n+Ex.size .no+Ex.size .no:Nat):Int)) (.int .i64 M.ins.length) O (A7 O) (λw ho=>BH g _ z _ 1 sj 0 ((n+Ex.size .no+Ex.size .no:Nat):Int) 1 w (by omega) ho) O O λz55=>H6<|F4<|K7 O λw9 ho9=>?_;rotate_left;contradiction;exact BB [_] ⟨_,_,ho9⟩ rfl
 |call k h a ha ih=>
  intro n e hs hsl g z M w hB ho;obtain⟨gc,v,f,ns,sv,C0,B8⟩:=e;dsimp only at hs hsl;have hr:=hs.root;have hjl:=BO hs;refine G7 ho MJ O MK O<|R7 2 O ?_;rintro⟨_,⟨_,h0⟩|⟨gn,cp,hv⟩⟩
  ·dsimp only at h0;omega
  dsimp only at hv;subst hv;have hx:(Ex.nd k 0 [] a .no).ix n=((n+Ex.size a+Ex.size .no:Nat):Int):=rfl;rw[hx];have hlt:=hB.lt;have e1:L8 C0 (.nd k 0 [] a .no) n M=G2 (L8 C0 a n M) 3 k 0 ((n+Ex.size a+Ex.size .no:Nat):Int):=by simp only[L8];rw[if_neg (by omega),if_neg (by omega),if_neg (by omega)]
  dsimp only;rw[e1];have hsl2:=hs.left;have hle:=Cq C0 a n M;have hBa:W0 M a.size:=hB.le (by simp only[Ex.size];omega);have hlen:(L8 C0 a n M).ins.length<=85000:=by unfold l5 W0 at*;omega
  refine B4 O<|E5 O<|B2 0 O<|E5 O<|D9 O<|B2 1 O<|A4 O<|Q4 O hjl<|U6 (vs:=D7 _) O (λw' ho=>X7 Y0 ho (q:=2) rfl hr)<|E3 V2 O λgz0=>E8 0 _ O<|I0<|B2 0 O<|A6<|C7<|B5<|C3 O (by(dsimp only;omega))<|A3<|C3 O (by(dsimp only;omega))<|A3<|C3 O (by(dsimp only;omega))<|C5<|C3 O (by(dsimp only;omega))<|A3<|C3 O (by(dsimp only;omega))<|A3<|C3 O (by(dsimp only;omega))<|B4 O<|B2 0 O<|U7 [.B1 gz0 ND (D7 _).toArray] (L8 C0 a n M) (.tuple #[]) O (A7 O) (λw ho=>ih n _ hsl2 hsl g z M w hBa ho) O O λz21=>A6<|C5<|A4 O<|B2 0 O<|A4 O<|U7 [.B1 gz0 ND (D7 _).toArray] (G2 (L8 C0 a n M) 3 k 0 ((n+Ex.size a+Ex.size .no:Nat):Int)) (.int .i64 (L8 C0 a n M).ins.length) O (A7 O) (λw ho=>BH g _ z21 _ 3 k 0 ((n+Ex.size a+Ex.size .no:Nat):Int) 0 w (by omega) ho) O O λz26=>H6<|F4<|K7 O λw9 ho9=>?_;rotate_left;exact BB [_] ⟨_,_,ho9⟩ rfl
 |pre k h a ha ih=>
  have h:k=9\/k=10:=h;intro n e hs hsl g z M w hB ho;obtain⟨gc,v,f,ns,sv,C0,B8⟩:=e;dsimp only at hs hsl;have hr:=hs.root;have hjl:=BO hs;refine G7 ho MJ O MK O<|R7 2 O ?_;rintro⟨_,⟨_,h0⟩|⟨gn,cp,hv⟩⟩
  ·dsimp only at h0;omega
  dsimp only at hv;subst hv;have hx:(Ex.nd k 0 [] a .no).ix n=((n+Ex.size a+Ex.size .no:Nat):Int):=rfl;rw[hx];have hlt:=hB.lt;have e1:L8 C0 (.nd k 0 [] a .no) n M=G2 (L8 C0 a n M) 3 k 0 ((n+Ex.size a+Ex.size .no:Nat):Int):=by simp only[L8];rw[if_neg (by omega),if_neg (by omega),if_neg (by omega)]
  dsimp only;rw[e1];have hsl2:=hs.left;have hle:=Cq C0 a n M;have hBa:W0 M a.size:=hB.le (by simp only[Ex.size];omega);have hlen:(L8 C0 a n M).ins.length<=85000:=by unfold l5 W0 at*;omega
  refine B4 O<|E5 O<|B2 0 O<|E5 O<|D9 O<|B2 1 O<|A4 O<|Q4 O hjl<|U6 (vs:=D7 _) O (λw' ho=>X7 Y0 ho (q:=2) rfl hr)<|E3 V2 O λgz0=>E8 0 _ O<|I0<|B2 0 O<|A6<|C7<|B5<|C3 O (by(dsimp only;omega))<|A3<|C3 O (by(dsimp only;omega))<|A3<|C3 O (by(dsimp only;omega))<|C5<|C3 O (by(dsimp only;omega))<|A3<|C3 O (by(dsimp only;omega))<|A3<|C3 O (by(dsimp only;omega))<|B4 O<|B2 0 O<|U7 [.B1 gz0 ND (D7 _).toArray] (L8 C0 a n M) (.tuple #[]) O (A7 O) (λw ho=>ih n _ hsl2 hsl g z M w hBa ho) O O λz21=>A6<|C5<|A4 O<|B2 0 O<|A4 O<|U7 [.B1 gz0 ND (D7 _).toArray] (G2 (L8 C0 a n M) 3 k 0 ((n+Ex.size a+Ex.size .no:Nat):Int)) (.int .i64 (L8 C0 a n M).ins.length) O (A7 O) (λw ho=>BH g _ z21 _ 3 k 0 ((n+Ex.size a+Ex.size .no:Nat):Int) 0 w (by omega) ho) O O λz26=>H6<|F4<|K7 O λw9 ho9=>?_;rotate_left;exact BB [_] ⟨_,_,ho9⟩ rfl
 |two s c h a b ha hb iha ihb=>
  intro n e hs hsl g z M w hB ho;obtain⟨gc,v,f,ns,sv,C0,B8⟩:=e;dsimp only at hs hsl;have hr:=hs.root;have hjl:=BO hs;refine G7 ho MJ O MK O<|R7 2 O ?_;rintro⟨_,⟨_,h0⟩|⟨gn,cp,hv⟩⟩
  ·dsimp only at h0;omega
  dsimp only at hv;subst hv;have hx:(Ex.nd 11 0 s a b).ix n=((n+Ex.size a+Ex.size b:Nat):Int):=rfl;rw[hx];have hlt:=hB.lt;have e1:L8 C0 (.nd 11 0 s a b) n M=L8 C0 (.nd 11 0 s a b) n M:=rfl;refine B4 O<|E5 O<|B2 0 O<|E5 O<|D9 O<|B2 1 O<|A4 O<|Q4 O hjl<|U6 (vs:=D7 _) O (λw' ho=>X7 Y0 ho (q:=2) rfl hr)<|E3 V2 O λgz0=>E8 0 _ O<|I0<|B2 0 O<|A6<|C7<|B5<|C3 O (by(dsimp only;omega))<|A3<|C3 O (by(dsimp only;omega))<|A3<|C3 O (by(dsimp only;omega))<|C5<|C3 O (by(dsimp only;omega))<|A3<|C3 O (by(dsimp only;omega))<|A3<|C6 O<|C4 O (λz1=>?_) (λz1=>?_);refine C5<|A4 O<|A4 O<|G6 0 O O<|U7 [.B1 gz0 ND (D7 _).toArray] (L8 C0 (.nd 11 0 s a b) n M) (.tuple #[]) O (A7 O) (λw ho=>ak3 s iha ihb n _ hs hsl g z M w hB ho) O O λz61=>H6<|F4<|K7 O λw9 ho9=>?_;rotate_left;contradiction;exact BB [_] ⟨_,_,ho9⟩ rfl
def Hi(op a j:Int)(fB:Cd->Cd)(M:Cd):Cd:=l7 (G2 (fB (G2 M op a 0 j)) 9 M.ins.length 0 j) M.ins.length op
def Ff(j:Int)(fB fC:Cd->Cd)(cNo:Bool)(M1:Cd):Cd:=
 if cNo then l7 (fB (G2 M1 8 0 0 j)) M1.ins.length 8
 else l7 (fC (l7 (G2 (fB (G2 M1 8 0 0 j)) 9 0 0 j) M1.ins.length 8)) (fB (G2 M1 8 0 0 j)).ins.length 9
def Cv(sl:List Int)(k i:Int)(a b:Ex)(fB fC:Cd->Cd)(cNo:Bool)(n j:Nat)(M:Cd):Cd:=
 if k=20\/k=21 then G2 (L8 sl a n M) 2 (sl.getD j 0) 0 j
 else if k=22 then G2 (L8 sl b (n+a.size) (L8 sl a n M)) 10 0 0 j
 else if k=23 then G2 (L8 sl a n M) 11 0 0 j
 else if k=27 then G2 (L8 sl a n M) 16 0 0 j
 else if k=28 then G2 (L8 sl a n M) 17 0 0 j
 else if k=24 then Ff j fB fC cNo (L8 sl a n M)
 else if k=25 then Hi 13 (sl.getD j 0) j fB (G2 (L8 sl a n M) 12 0 i j)
 else Hi 15 0 j fB (G2 M 14 i 0 j)
def Bl.DU:Bl->Bool
 |.no=>true
 |_=>false
def T0(sl:List Int):Bl->Nat->Cd->Cd
 |.no,_,M=>M
 |.st k i s t a b B C r,n,M=>T0 sl r (n+a.size+b.size+B.size+C.size+1)
   (Cv sl k i a b (T0 sl B (n+a.size+b.size)) (T0 sl C (n+a.size+b.size+B.size)) C.DU n (n+a.size+b.size+B.size+C.size) (G2 M 7 0 0 ((n+a.size+b.size+B.size+C.size:Nat):Int)))
def DI(M M':Cd)(k:Nat):Prop:=M.ins.length<=M'.ins.length/\M'.ins.length<=M.ins.length+4*k/\M'.G5.length<=M.G5.length+k
theorem gP(op a j:Int){fB:Cd->Cd}{k:Nat}(hf:∀M,DI M (fB M) k)(M:Cd):M.ins.length<=(Hi op a j fB M).ins.length/\(Hi op a j fB M).ins.length<=M.ins.length+4*k+2/\(Hi op a j fB M).G5.length<=M.G5.length+k:=by
 unfold Hi;have h1:=hf (G2 M op a 0 j);have h2:=n7 M op a 0 j;have h3:=n7 (fB (G2 M op a 0 j)) 9 M.ins.length 0 j;have h4:=Ok (G2 (fB (G2 M op a 0 j)) 9 M.ins.length 0 j) M.ins.length op;rw[h4.1,h4.2,h3.1,h3.2];unfold DI at h1;rw[h2.1,h2.2] at h1;omega
theorem oO(j:Int){fB fC:Cd->Cd}{k l:Nat}(hf:∀M,DI M (fB M) k)(hg:∀M,DI M (fC M) l)(c:Bool)(M:Cd):M.ins.length<=(Ff j fB fC c M).ins.length/\(Ff j fB fC c M).ins.length<=M.ins.length+4*k+4*l+2/\(Ff j fB fC c M).G5.length<=M.G5.length+k+l:=by
 unfold Ff;have h1:=hf (G2 M 8 0 0 j);have h2:=n7 M 8 0 0 j;unfold DI at h1;rw[h2.1,h2.2] at h1;split
 ·have h4:=Ok (fB (G2 M 8 0 0 j)) M.ins.length 8;rw[h4.1,h4.2];omega
 ·have h3:=n7 (fB (G2 M 8 0 0 j)) 9 0 0 j;have h4:=Ok (G2 (fB (G2 M 8 0 0 j)) 9 0 0 j) M.ins.length 8;have h5:=hg (l7 (G2 (fB (G2 M 8 0 0 j)) 9 0 0 j) M.ins.length 8);have h6:=Ok (fC (l7 (G2 (fB (G2 M 8 0 0 j)) 9 0 0 j) M.ins.length 8)) (fB (G2 M 8 0 0 j)).ins.length 9;unfold DI at h5;rw[h4.1,h4.2,h3.1,h3.2] at h5;rw[h6.1,h6.2];omega
theorem iS(sl:List Int)(k i:Int)(a b:Ex){fB fC:Cd->Cd}{x y:Nat}(hf:∀M,DI M (fB M) x)(hg:∀M,DI M (fC M) y)(c:Bool)(n j:Nat)(M:Cd):
  M.ins.length<=(Cv sl k i a b fB fC c n j M).ins.length/\(Cv sl k i a b fB fC c n j M).ins.length<=M.ins.length+4*(a.size+b.size+x+y)+3/\(Cv sl k i a b fB fC c n j M).G5.length<=M.G5.length+(a.size+b.size+x+y):=by
 have ha:=Cq sl a n M;have hb:=Cq sl b (n+a.size) (L8 sl a n M);unfold l5 at ha hb;unfold Cv;split
 ·have:=n7 (L8 sl a n M) 2 (sl.getD j 0) 0 j;rw[this.1,this.2];omega
 split
 ·have:=n7 (L8 sl b (n+a.size) (L8 sl a n M)) 10 0 0 j;rw[this.1,this.2];omega
 split
 ·have:=n7 (L8 sl a n M) 11 0 0 j;rw[this.1,this.2];omega
 split
 ·have:=n7 (L8 sl a n M) 16 0 0 j;rw[this.1,this.2];omega
 split
 ·have:=n7 (L8 sl a n M) 17 0 0 j;rw[this.1,this.2];omega
 split
 ·have:=oO j hf hg c (L8 sl a n M);omega
 split
 ·have h1:=gP 13 (sl.getD j 0) j hf (G2 (L8 sl a n M) 12 0 i j);have h2:=n7 (L8 sl a n M) 12 0 i j;rw[h2.1,h2.2] at h1;omega
 ·have h1:=gP 15 0 j hf (G2 M 14 i 0 j);have h2:=n7 M 14 i 0 j;rw[h2.1,h2.2] at h1;omega
theorem HI(sl:List Int):∀(B:Bl) (n:Nat) (M:Cd),DI M (T0 sl B n M) B.size
 |.no,_,M=>by simp[T0,DI,Bl.size]
 |.st k i s t a b B C r,n,M=>by
  simp only[T0,Bl.size];have h1:=iS sl k i a b (fB:=T0 sl B (n+a.size+b.size)) (fC:=T0 sl C (n+a.size+b.size+B.size)) (λM=>HI sl B _ M) (λM=>HI sl C _ M) C.DU n (n+a.size+b.size+B.size+C.size) (G2 M 7 0 0 ((n+a.size+b.size+B.size+C.size:Nat):Int));have h2:=n7 M 7 0 0 ((n+a.size+b.size+B.size+C.size:Nat):Int);have h3:=HI sl r (n+a.size+b.size+B.size+C.size+1) (Cv sl k i a b (T0 sl B (n+a.size+b.size)) (T0 sl C (n+a.size+b.size+B.size)) C.DU n (n+a.size+b.size+B.size+C.size) (G2 M 7 0 0 ((n+a.size+b.size+B.size+C.size:Nat):Int)));unfold DI at*;rw[h2.1,h2.2] at h1;omega
def DD(M:Cd)(k:Nat):Prop:=M.ins.length+4*k<=70000/\M.G5.length+k<=70000
theorem DD.le{M:Cd}{k l:Nat}(h:DD M k)(hl:l<=k):DD M l:=by unfold DD at*;omega
def l8(M:Cd)(k:Nat):Prop:=M.ins.length+4*k+3<=70000/\M.G5.length+k<=70000
def NG(B:Bl):Prop:=∀(n:Nat) (e:Eg),f4 e.ns n B->e.C0.length=e.ns.length->∀(g:Nat) (z:Df) (M:Cd) (w:World),DD M B.size->B7 (J1 w (U5 g e z M)) (U5 g e z M) w->
 Calls prog 64 #[.pointer (some ⟨g,0,none⟩),.int .i64 (B.ix n)] w (JM w (U5 g e z M) g e (T0 e.C0 B n M) (.tuple #[]))
def Ho(k i:Int)(s t:List UInt8)(a b:Ex)(B C r:Bl):Prop:=∀(n:Nat) (e:Eg),f4 e.ns n (.st k i s t a b B C r)->e.C0.length=e.ns.length->∀(g:Nat) (z:Df) (M:Cd) (w:World),l8 M (a.size+b.size+B.size+C.size)->B7 (J1 w (U5 g e z M)) (U5 g e z M) w->
 Calls prog 117 #[.pointer (some ⟨g,0,none⟩),.int .i64 ((n+a.size+b.size+B.size+C.size:Nat):Int),Hr ⟨k,a.ix n,K5 (n+a.size) (n+a.size+b.size) B b,C.ix (n+a.size+b.size+B.size),r.ix (n+a.size+b.size+B.size+C.size+1),i,s,t⟩] w
  (JM w (U5 g e z M) g e (Cv e.C0 k i a b (T0 e.C0 B (n+a.size+b.size)) (T0 e.C0 C (n+a.size+b.size+B.size)) C.DU n (n+a.size+b.size+B.size+C.size) M) (.tuple #[]))
def Sy:Bl->Prop
 |.no=>True
 |.st k i s t a b B C r=>Ho k i s t a b B C r/\Sy r
theorem Mu{B:Bl}(hA:Sy B):NG B:=by
 intro n e hs hsl g z M w hB ho;refine G7 ho func64 O ntmps64 O<|C7 ?_;rotate_left;refine l9 (σ:=Bl×Nat×Df×Cd) (λs=>Sy s.1/\f4 e.ns s.2.1 s.1/\T0 e.C0 s.1 s.2.1 s.2.2.2=T0 e.C0 B n M/\DD s.2.2.2 s.1.size) (λs=>[(0,.pointer (some ⟨g,0,none⟩)),(1,.int .i64 (s.1.ix s.2.1))]) (λs=>U5 g e s.2.2.1 s.2.2.2) (λs=>s.1.size)
  (λw ho=>⟨(B,n,z,M),⟨hA,hs,rfl,hB⟩,⟨rfl,rfl,trivial⟩,ho⟩) ?_
 rintro⟨D,m,z,T⟩ ⟨hA,hs,hch,hB⟩;dsimp only at hA hs hch hB⊢;cases D with
 |no=>
  have hix:Bl.no.ix m= -1:=rfl;rw[hix];exact B5<|A4 O<|O1 O<|A6<|E0 O (by decide)<|S4<|J0<|J0<|S5<|K7 O λw9 ho9=>BB [] ⟨_,_,ho9⟩ hch
 |st k i s t a b Y Z r=>
  obtain⟨hSt,hA⟩:=hA;have hr:=hs.root;have hsr:=hs.sr;have hSt:=hSt m e hs hsl g;simp only[Bl.size] at hB;have hx:(Bl.st k i s t a b Y Z r).ix m=((m+a.size+b.size+Y.size+Z.size:Nat):Int):=rfl;rw[hx];simp only[T0] at hch;have hl1:=n7 T 7 0 0 ((m+a.size+b.size+Y.size+Z.size:Nat):Int);have hB1:l8 (G2 T 7 0 0 ((m+a.size+b.size+Y.size+Z.size:Nat):Int)) (a.size+b.size+Y.size+Z.size):=by unfold DD l8 at*;rw[hl1.1,hl1.2];omega
  have hTl:T.ins.length<=70000:=by unfold DD at*;omega
  have hst:=iS e.C0 k i a b (fB:=T0 e.C0 Y (m+a.size+b.size)) (fC:=T0 e.C0 Z (m+a.size+b.size+Y.size)) (λM=>HI _ Y _ M) (λM=>HI _ Z _ M) Z.DU m (m+a.size+b.size+Y.size+Z.size) (G2 T 7 0 0 ((m+a.size+b.size+Y.size+Z.size:Nat):Int));rw[hl1.1,hl1.2] at hst;obtain⟨T2,hT2⟩:∃T2,T2=Cv e.C0 k i a b (T0 e.C0 Y (m+a.size+b.size)) (T0 e.C0 Z (m+a.size+b.size+Y.size)) Z.DU m (m+a.size+b.size+Y.size+Z.size) (G2 T 7 0 0 ((m+a.size+b.size+Y.size+Z.size:Nat):Int)):=⟨_,rfl⟩
  rw[<-hT2] at hch hst;have hSt:=λz w h=>hT2▸hSt z (G2 T 7 0 0 ((m+a.size+b.size+Y.size+Z.size:Nat):Int)) w hB1 h;have hB2:DD T2 r.size:=by unfold DD at*;omega
  have hsz:r.size<(Bl.st k i s t a b Y Z r).size:=by simp only[Bl.size];omega
  clear hT2 hst hl1 hB1;obtain⟨nod,hnod⟩:∃nod:F2,nod=⟨k,a.ix m,K5 (m+a.size) (m+a.size+b.size) Y b,Z.ix (m+a.size+b.size+Y.size),r.ix (m+a.size+b.size+Y.size+Z.size+1),i,s,t⟩:=⟨_,rfl⟩
  have hnx:nod.next=r.ix (m+a.size+b.size+Y.size+Z.size+1):=by rw[hnod]
  rw[<-hnod] at hr hSt;generalize m+a.size+b.size+Y.size+Z.size=j at hr hnx hsr hch hSt⊢;have hjl:j<e.ns.length:=(N5.1 hr).1;obtain⟨gc,v,f,ns,sv,C0,B8⟩:=e;dsimp only at hr hjl hSt hch hsl hsr⊢;refine R7 2 O ?_;rintro⟨_,⟨_,h0⟩|⟨gn,cp,hv⟩⟩
  ·dsimp only at h0;omega
  dsimp only at hv;subst hv;refine B5<|A4 O<|O1 O<|A6<|E7 O (by omega)<|D6<|C8<|C7<|B4 O<|A4 O<|U7 [] (G2 T 7 0 0 (j:Int)) (.int .i64 T.ins.length) O (A7 O) (λw ho=>BH g _ z T 7 0 0 (j:Int) 0 w (by omega) ho) O O λz20=>A6<|C5<|A4 O<|A4 O<|A4 O<|E5 O<|B2 0 O<|E5 O<|D9 O<|B2 1 O<|A4 O<|Q4 (j:=j) O hjl<|U6 (vs:=D7 nod) O (λw' ho=>X7 Y0 ho (q:=2) rfl hr)<|U7 [] T2 (.tuple #[]) O (A7 O) (λw ho=>hSt z20 w ho) O O λz34=>H6<|F4<|E2<|C5<|A4 O<|E5 O<|B2 0 O<|E5 O<|D9 O<|B2 1 O<|A4 O<|Q4 (j:=j) O hjl<|D9 O<|B9 (Av 2 (j:=0+j*8+4) (u:=.int .i64 nod.next) O (Mt hjl (by decide)) (QV Y0 hr (by decide))) O<|A5 O ?_;rotate_left;exact RR (r,j+1,z34,T2) ⟨hA,hsr,hch,hB2⟩ hsz ⟨rfl,by dsimp only;rw[<-hnx];rfl,trivial⟩ O (λw ho=>ho)
theorem aV{B:Bl}(hK:NG B)(n:Nat)(e:Eg)(hs:f4 e.ns n B)(hsl:e.C0.length=e.ns.length)(g:Nat)(op a j:Int)(z:Df)(M:Cd)(w:B6)(hB:M.ins.length+4*B.size+2<=70000/\M.G5.length+B.size<=70000)(ho:B7 (J1 w (U5 g e z M)) (U5 g e z M) w):
  Calls prog 149 #[.pointer (some ⟨g,0,none⟩),.int .i64 op,.int .i64 a,.int .i64 j,.int .i64 (B.ix n)] w (JM w (U5 g e z M) g e (Hi op a j (T0 e.C0 B n) M) (.tuple #[])):=by
 refine G7 ho func149 O ntmps149 O ?_;have hK:=hK n e hs hsl g;have hlen:=HI e.C0 B n;unfold Hi;generalize T0 e.C0 B n=fB at hK hlen⊢;have h2:=n7 M op a 0 j;have hB2:DD (G2 M op a 0 j) B.size:=by unfold DD;rw[h2.1,h2.2];omega
 have hl2:=hlen (G2 M op a 0 j);have hl3:(fB (G2 M op a 0 j)).ins.length<=75000:=by unfold DI DD at*;rw[h2.1,h2.2] at*;omega
 have h3:=n7 (fB (G2 M op a 0 j)) 9 M.ins.length 0 j;have hM1:M.ins.length<(G2 (fB (G2 M op a 0 j)) 9 M.ins.length 0 j).ins.length:=by rw[h3.1];unfold DI at hl2;rw[h2.1] at hl2;omega
 exact B4 O<|E5 O<|B2 0 O<|E5 O<|B2 1 O<|BA 3 O<|A5 O<|B4 O<|A4 O<|A4 O<|A4 O<|OS [] op a 0 j 0 O (by omega) (A7 O) O O λgop gm gi z24=>A5 O<|B4 O<|A4 O<|U7 (CC g gop gm gi op M.ins.length) (fB (G2 M op a 0 j)) (.tuple #[]) O (A7 O) (λw ho=>hK z24 _ w hB2 ho) O O λz27=>I9 O<|A4 O<|A4 O<|U7 (CC g gop gm gi op M.ins.length) (G2 (fB (G2 M op a 0 j)) 9 M.ins.length 0 j) (.int .i64 (fB (G2 M op a 0 j)).ins.length) O (A7 O) (λw ho=>BH g e z27 _ 9 M.ins.length 0 j 0 w (by omega) ho) O O λz31=>A6<|C5<|A4 O<|Oo [] O hM1 (by rw[h3.1];omega) (CB (first:=[]) (vs:=[]) (cap:=[.pointer (some ⟨gop,0,none⟩),.pointer (some ⟨gm,0,none⟩),.pointer (some ⟨gi,0,none⟩)]) O) O O λz33=>H6<|K7 O λw9 ho9=>BB [] ⟨_,_,ho9⟩ rfl
theorem aB5{n1 n2:Nat}{b:Ex}(hb:WE b):K5 n1 n2 .no b=b.ix n1:=by obtain⟨k1,i1,s1,a1,b1,rfl⟩:=hb.ne;rfl
theorem ae9(s:C9)(a:Ex)(r:Bl)(ha:WE a):Ho 20 0 s [] a .no .no .no r:=by
 intro n e hs hsl g z M w hB ho;refine G7 ho Km O Kn O ?_;have hr:=hs.root;have hsa:=hs.sa;have hsb:=hs.sb;have hsB:=hs.sB;have hsC:=hs.sC;have hjl:n+Ex.size a+Ex.size .no+Bl.size .no+Bl.size .no<e.ns.length:=(N5.1 hr).1;have hla:=Cq e.C0 a n M;have hBa:W0 M (Ex.size a):=by unfold l8 W0 at*;omega
 have hea:=λz w h=>Ia ha n e hsa hsl g z M w hBa h;obtain⟨j,hj⟩:∃j,j=n+Ex.size a+Ex.size .no+Bl.size .no+Bl.size .no:=⟨_,rfl⟩
 rw[<-hj] at hjl⊢;have hlM:(L8 e.C0 a n M).ins.length<=75000:=by unfold l8 l5 at*;omega
 have e1:Cv e.C0 20 0 a .no (T0 e.C0 .no (n+Ex.size a+Ex.size .no)) (T0 e.C0 .no (n+Ex.size a+Ex.size .no+Bl.size .no)) Bl.no.DU n j M=G2 (L8 e.C0 a n M) 2 (e.C0.getD j 0) 0 j:=rfl;rw[e1];generalize hM1:L8 e.C0 a n M=M1 at hla hlM⊢;have hea:=λz w h=>hM1▸hea z w h;have hsj:e.C0[j]?=some (e.C0.getD j 0):=by
  rw[W6,T8 (by omega)];rfl
 generalize e.C0.getD j 0=sj at hsj⊢;obtain⟨gc,v,f,ns,sv,C0,B8⟩:=e;dsimp only at hsj hjl hsl hea⊢;refine R7 5 O ?_;rintro⟨_,⟨_,h0⟩|⟨gl,cl,hl⟩⟩
 ·dsimp only at h0;omega
 dsimp only at hl;subst hl;refine A3<|F0 (cs:=(D7 ⟨20,Ex.ix n a,K5 (n+Ex.size a) (n+Ex.size a+Ex.size .no) .no .no,Bl.ix (n+Ex.size a+Ex.size .no+Bl.size .no) .no,Bl.ix (j+1) r,0,s,[]⟩).toArray) O λgb=>A6<|B5<|B2 0 O<|J3 O<|A6<|E7 O (by(dsimp only;decide))<|C5<|A4 O<|B2 0 O<|U7 [.B1 gb ND (D7 ⟨20,Ex.ix n a,K5 (n+Ex.size a) (n+Ex.size a+Ex.size .no) .no .no,Bl.ix (n+Ex.size a+Ex.size .no+Bl.size .no) .no,Bl.ix (j+1) r,0,s,[]⟩).toArray] M1 (.tuple #[]) O (A7 O) (λw ho=>hea z w ho) O O λz14=>I0<|B2 0 O<|A6<|C7<|B5<|C6 O<|C4 O (λz0=>?_) (λz0=>?_);refine D6<|E7 O (by assumption)<|C5<|A4 O<|A4 O<|E5 O<|B2 1 O<|A4 O<|Q4 (j:=j) O hjl<|B9 (Av 6 O (by omega) (Rv hsj)) O<|A4 O<|U7 [.B1 gb ND (D7 ⟨20,Ex.ix n a,K5 (n+Ex.size a) (n+Ex.size a+Ex.size .no) .no .no,Bl.ix (n+Ex.size a+Ex.size .no+Bl.size .no) .no,Bl.ix (j+1) r,0,s,[]⟩).toArray] (G2 M1 2 sj 0 (j:Int)) (.int .i64 M1.ins.length) O (A7 O) (λw ho=>BH g _ z14 M1 2 sj 0 (j:Int) (-1) w (by omega) ho) O O λz29=>H6<|F4<|K7 O λw9 ho9=>?_;rotate_left;contradiction;exact BB [_] ⟨_,_,ho9⟩ rfl
theorem mQ(s:C9)(a:Ex)(r:Bl)(ha:WE a):Ho 21 0 s [] a .no .no .no r:=by
 intro n e hs hsl g z M w hB ho;refine G7 ho Km O Kn O ?_;have hr:=hs.root;have hsa:=hs.sa;have hsb:=hs.sb;have hsB:=hs.sB;have hsC:=hs.sC;have hjl:n+Ex.size a+Ex.size .no+Bl.size .no+Bl.size .no<e.ns.length:=(N5.1 hr).1;have hla:=Cq e.C0 a n M;have hBa:W0 M (Ex.size a):=by unfold l8 W0 at*;omega
 have hea:=λz w h=>Ia ha n e hsa hsl g z M w hBa h;obtain⟨j,hj⟩:∃j,j=n+Ex.size a+Ex.size .no+Bl.size .no+Bl.size .no:=⟨_,rfl⟩
 rw[<-hj] at hjl⊢;have hlM:(L8 e.C0 a n M).ins.length<=75000:=by unfold l8 l5 at*;omega
 have e1:Cv e.C0 21 0 a .no (T0 e.C0 .no (n+Ex.size a+Ex.size .no)) (T0 e.C0 .no (n+Ex.size a+Ex.size .no+Bl.size .no)) Bl.no.DU n j M=G2 (L8 e.C0 a n M) 2 (e.C0.getD j 0) 0 j:=rfl;rw[e1];generalize hM1:L8 e.C0 a n M=M1 at hla hlM⊢;have hea:=λz w h=>hM1▸hea z w h;have hsj:e.C0[j]?=some (e.C0.getD j 0):=by
  rw[W6,T8 (by omega)];rfl
 generalize e.C0.getD j 0=sj at hsj⊢;obtain⟨gc,v,f,ns,sv,C0,B8⟩:=e;dsimp only at hsj hjl hsl hea⊢;refine R7 5 O ?_;rintro⟨_,⟨_,h0⟩|⟨gl,cl,hl⟩⟩
 ·dsimp only at h0;omega
 dsimp only at hl;subst hl;refine A3<|F0 (cs:=(D7 ⟨21,Ex.ix n a,K5 (n+Ex.size a) (n+Ex.size a+Ex.size .no) .no .no,Bl.ix (n+Ex.size a+Ex.size .no+Bl.size .no) .no,Bl.ix (j+1) r,0,s,[]⟩).toArray) O λgb=>A6<|B5<|B2 0 O<|J3 O<|A6<|E7 O (by(dsimp only;decide))<|C5<|A4 O<|B2 0 O<|U7 [.B1 gb ND (D7 ⟨21,Ex.ix n a,K5 (n+Ex.size a) (n+Ex.size a+Ex.size .no) .no .no,Bl.ix (n+Ex.size a+Ex.size .no+Bl.size .no) .no,Bl.ix (j+1) r,0,s,[]⟩).toArray] M1 (.tuple #[]) O (A7 O) (λw ho=>hea z w ho) O O λz14=>I0<|B2 0 O<|A6<|C7<|B5<|C3 O (by(dsimp only;decide))<|C5<|C6 O<|C4 O (λz0=>?_) (λz0=>?_);refine C5<|A4 O<|A4 O<|E5 O<|B2 1 O<|A4 O<|Q4 (j:=j) O hjl<|B9 (Av 6 O (by omega) (Rv hsj)) O<|A4 O<|U7 [.B1 gb ND (D7 ⟨21,Ex.ix n a,K5 (n+Ex.size a) (n+Ex.size a+Ex.size .no) .no .no,Bl.ix (n+Ex.size a+Ex.size .no+Bl.size .no) .no,Bl.ix (j+1) r,0,s,[]⟩).toArray] (G2 M1 2 sj 0 (j:Int)) (.int .i64 M1.ins.length) O (A7 O) (λw ho=>BH g _ z14 M1 2 sj 0 (j:Int) (-1) w (by omega) ho) O O λz29=>H6<|F4<|K7 O λw9 ho9=>?_;rotate_left;contradiction;exact BB [_] ⟨_,_,ho9⟩ rfl
theorem aq9(a b:Ex)(r:Bl)(ha:WE a)(hb0:WE b):Ho 22 0 [] [] a b .no .no r:=by
 intro n e hs hsl g z M w hB ho;refine G7 ho Km O Kn O ?_;have hr:=hs.root;have hsa:=hs.sa;have hsb:=hs.sb;have hsB:=hs.sB;have hsC:=hs.sC;have hjl:n+Ex.size a+Ex.size b+Bl.size .no+Bl.size .no<e.ns.length:=(N5.1 hr).1;have hla:=Cq e.C0 a n M;have hBa:W0 M (Ex.size a):=by unfold l8 W0 at*;omega
 have hea:=λz w h=>Ia ha n e hsa hsl g z M w hBa h;obtain⟨j,hj⟩:∃j,j=n+Ex.size a+Ex.size b+Bl.size .no+Bl.size .no:=⟨_,rfl⟩
 rw[<-hj] at hjl⊢;have hlM:(L8 e.C0 a n M).ins.length<=75000:=by unfold l8 l5 at*;omega
 have hlb:=Cq e.C0 b (n+Ex.size a) (L8 e.C0 a n M);have hBb:W0 (L8 e.C0 a n M) (Ex.size b):=by unfold l8 W0 l5 at*;omega
 have hlN:(L8 e.C0 b (n+Ex.size a) (L8 e.C0 a n M)).ins.length<=75000:=by unfold l8 l5 at*;omega
 have heb:=λz w h=>Ia hb0 (n+Ex.size a) e hsb hsl g z (L8 e.C0 a n M) w hBb h;have e1:Cv e.C0 22 0 a b (T0 e.C0 .no (n+Ex.size a+Ex.size b)) (T0 e.C0 .no (n+Ex.size a+Ex.size b+Bl.size .no)) Bl.no.DU n j M=G2 (L8 e.C0 b (n+Ex.size a) (L8 e.C0 a n M)) 10 0 0 j:=rfl;rw[e1];generalize hM2:L8 e.C0 b (n+Ex.size a) (L8 e.C0 a n M)=M2 at hlN⊢;have heb:=λz w h=>hM2▸heb z w h;generalize hM1:L8 e.C0 a n M=M1 at hla hlM heb⊢;have hea:=λz w h=>hM1▸hea z w h;refine A3<|F0 (cs:=(D7 ⟨22,Ex.ix n a,K5 (n+Ex.size a) (n+Ex.size a+Ex.size b) .no b,Bl.ix (n+Ex.size a+Ex.size b+Bl.size .no) .no,Bl.ix (j+1) r,0,[],[]⟩).toArray) O λgb=>A6<|B5<|B2 0 O<|J3 O<|A6<|E7 O (by(dsimp only;decide))<|C5<|A4 O<|B2 0 O<|U7 [.B1 gb ND (D7 ⟨22,Ex.ix n a,K5 (n+Ex.size a) (n+Ex.size a+Ex.size b) .no b,Bl.ix (n+Ex.size a+Ex.size b+Bl.size .no) .no,Bl.ix (j+1) r,0,[],[]⟩).toArray] M1 (.tuple #[]) O (A7 O) (λw ho=>hea z w ho) O O λz14=>I0<|B2 0 O<|A6<|C7<|B5<|C3 O (by(dsimp only;decide))<|C5<|C3 O (by(dsimp only;decide))<|A3<|C6 O<|C4 O (λz0=>?_) (λz0=>?_);refine B4 O<|B2 0 O<|U7 [.B1 gb ND (D7 ⟨22,Ex.ix n a,K5 (n+Ex.size a) (n+Ex.size a+Ex.size b) .no b,Bl.ix (n+Ex.size a+Ex.size b+Bl.size .no) .no,Bl.ix (j+1) r,0,[],[]⟩).toArray] M2 (.tuple #[]) O (A7 O) (λw ho=>(by rw[aB5 hb0];exact heb z14 w ho)) O O λz35=>A6<|C5<|A4 O<|A4 O<|U7 [.B1 gb ND (D7 ⟨22,Ex.ix n a,K5 (n+Ex.size a) (n+Ex.size a+Ex.size b) .no b,Bl.ix (n+Ex.size a+Ex.size b+Bl.size .no) .no,Bl.ix (j+1) r,0,[],[]⟩).toArray] (G2 M2 10 0 0 (j:Int)) (.int .i64 M2.ins.length) O (A7 O) (λw ho=>BH g _ z35 M2 10 0 0 (j:Int) (-2) w (by omega) ho) O O λz38=>H6<|F4<|K7 O λw9 ho9=>?_;rotate_left;contradiction;exact BB [_] ⟨_,_,ho9⟩ rfl
theorem ak6(a:Ex)(r:Bl)(ha:WE a):Ho 23 0 [] [] a .no .no .no r:=by
 intro n e hs hsl g z M w hB ho;refine G7 ho Km O Kn O ?_;have hr:=hs.root;have hsa:=hs.sa;have hsb:=hs.sb;have hsB:=hs.sB;have hsC:=hs.sC;have hjl:n+Ex.size a+Ex.size .no+Bl.size .no+Bl.size .no<e.ns.length:=(N5.1 hr).1;have hla:=Cq e.C0 a n M;have hBa:W0 M (Ex.size a):=by unfold l8 W0 at*;omega
 have hea:=λz w h=>Ia ha n e hsa hsl g z M w hBa h;obtain⟨j,hj⟩:∃j,j=n+Ex.size a+Ex.size .no+Bl.size .no+Bl.size .no:=⟨_,rfl⟩
 rw[<-hj] at hjl⊢;have hlM:(L8 e.C0 a n M).ins.length<=75000:=by unfold l8 l5 at*;omega
 have e1:Cv e.C0 23 0 a .no (T0 e.C0 .no (n+Ex.size a+Ex.size .no)) (T0 e.C0 .no (n+Ex.size a+Ex.size .no+Bl.size .no)) Bl.no.DU n j M=G2 (L8 e.C0 a n M) 11 0 0 j:=rfl;rw[e1];generalize hM1:L8 e.C0 a n M=M1 at hla hlM⊢;have hea:=λz w h=>hM1▸hea z w h;refine A3<|F0 (cs:=(D7 ⟨23,Ex.ix n a,K5 (n+Ex.size a) (n+Ex.size a+Ex.size .no) .no .no,Bl.ix (n+Ex.size a+Ex.size .no+Bl.size .no) .no,Bl.ix (j+1) r,0,[],[]⟩).toArray) O λgb=>A6<|B5<|B2 0 O<|J3 O<|A6<|E7 O (by(dsimp only;decide))<|C5<|A4 O<|B2 0 O<|U7 [.B1 gb ND (D7 ⟨23,Ex.ix n a,K5 (n+Ex.size a) (n+Ex.size a+Ex.size .no) .no .no,Bl.ix (n+Ex.size a+Ex.size .no+Bl.size .no) .no,Bl.ix (j+1) r,0,[],[]⟩).toArray] M1 (.tuple #[]) O (A7 O) (λw ho=>hea z w ho) O O λz14=>I0<|B2 0 O<|A6<|C7<|B5<|C3 O (by(dsimp only;decide))<|C5<|C3 O (by(dsimp only;decide))<|A3<|C3 O (by(dsimp only;decide))<|A3<|C6 O<|C4 O (λz0=>?_) (λz0=>?_);refine C5<|A4 O<|A4 O<|U7 [.B1 gb ND (D7 ⟨23,Ex.ix n a,K5 (n+Ex.size a) (n+Ex.size a+Ex.size .no) .no .no,Bl.ix (n+Ex.size a+Ex.size .no+Bl.size .no) .no,Bl.ix (j+1) r,0,[],[]⟩).toArray] (G2 M1 11 0 0 (j:Int)) (.int .i64 M1.ins.length) O (A7 O) (λw ho=>BH g _ z14 M1 11 0 0 (j:Int) (-1) w (by omega) ho) O O λz43=>H6<|F4<|K7 O λw9 ho9=>?_;rotate_left;contradiction;exact BB [_] ⟨_,_,ho9⟩ rfl
theorem oJ(a:Ex)(r:Bl)(ha:WE a):Ho 27 0 [] [] a .no .no .no r:=by
 intro n e hs hsl g z M w hB ho;refine G7 ho Km O Kn O ?_;have hr:=hs.root;have hsa:=hs.sa;have hsb:=hs.sb;have hsB:=hs.sB;have hsC:=hs.sC;have hjl:n+Ex.size a+Ex.size .no+Bl.size .no+Bl.size .no<e.ns.length:=(N5.1 hr).1;have hla:=Cq e.C0 a n M;have hBa:W0 M (Ex.size a):=by unfold l8 W0 at*;omega
 have hea:=λz w h=>Ia ha n e hsa hsl g z M w hBa h;obtain⟨j,hj⟩:∃j,j=n+Ex.size a+Ex.size .no+Bl.size .no+Bl.size .no:=⟨_,rfl⟩
 rw[<-hj] at hjl⊢;have hlM:(L8 e.C0 a n M).ins.length<=75000:=by unfold l8 l5 at*;omega
 have e1:Cv e.C0 27 0 a .no (T0 e.C0 .no (n+Ex.size a+Ex.size .no)) (T0 e.C0 .no (n+Ex.size a+Ex.size .no+Bl.size .no)) Bl.no.DU n j M=G2 (L8 e.C0 a n M) 16 0 0 j:=rfl;rw[e1];generalize hM1:L8 e.C0 a n M=M1 at hla hlM⊢;have hea:=λz w h=>hM1▸hea z w h;refine A3<|F0 (cs:=(D7 ⟨27,Ex.ix n a,K5 (n+Ex.size a) (n+Ex.size a+Ex.size .no) .no .no,Bl.ix (n+Ex.size a+Ex.size .no+Bl.size .no) .no,Bl.ix (j+1) r,0,[],[]⟩).toArray) O λgb=>A6<|B5<|B2 0 O<|J3 O<|A6<|E7 O (by(dsimp only;decide))<|C5<|A4 O<|B2 0 O<|U7 [.B1 gb ND (D7 ⟨27,Ex.ix n a,K5 (n+Ex.size a) (n+Ex.size a+Ex.size .no) .no .no,Bl.ix (n+Ex.size a+Ex.size .no+Bl.size .no) .no,Bl.ix (j+1) r,0,[],[]⟩).toArray] M1 (.tuple #[]) O (A7 O) (λw ho=>hea z w ho) O O λz14=>I0<|B2 0 O<|A6<|C7<|B5<|C3 O (by(dsimp only;decide))<|C5<|C3 O (by(dsimp only;decide))<|A3<|C3 O (by(dsimp only;decide))<|A3<|C3 O (by(dsimp only;decide))<|A3<|C6 O<|C4 O (λz0=>?_) (λz0=>?_);refine C5<|A4 O<|A4 O<|U7 [.B1 gb ND (D7 ⟨27,Ex.ix n a,K5 (n+Ex.size a) (n+Ex.size a+Ex.size .no) .no .no,Bl.ix (n+Ex.size a+Ex.size .no+Bl.size .no) .no,Bl.ix (j+1) r,0,[],[]⟩).toArray] (G2 M1 16 0 0 (j:Int)) (.int .i64 M1.ins.length) O (A7 O) (λw ho=>BH g _ z14 M1 16 0 0 (j:Int) (-1) w (by omega) ho) O O λz48=>H6<|F4<|K7 O λw9 ho9=>?_;rotate_left;contradiction;exact BB [_] ⟨_,_,ho9⟩ rfl
theorem at9(a:Ex)(r:Bl)(ha:WE a):Ho 28 0 [] [] a .no .no .no r:=by
 intro n e hs hsl g z M w hB ho;refine G7 ho Km O Kn O ?_;have hr:=hs.root;have hsa:=hs.sa;have hsb:=hs.sb;have hsB:=hs.sB;have hsC:=hs.sC;have hjl:n+Ex.size a+Ex.size .no+Bl.size .no+Bl.size .no<e.ns.length:=(N5.1 hr).1;have hla:=Cq e.C0 a n M;have hBa:W0 M (Ex.size a):=by unfold l8 W0 at*;omega
 have hea:=λz w h=>Ia ha n e hsa hsl g z M w hBa h;obtain⟨j,hj⟩:∃j,j=n+Ex.size a+Ex.size .no+Bl.size .no+Bl.size .no:=⟨_,rfl⟩
 rw[<-hj] at hjl⊢;have hlM:(L8 e.C0 a n M).ins.length<=75000:=by unfold l8 l5 at*;omega
 have e1:Cv e.C0 28 0 a .no (T0 e.C0 .no (n+Ex.size a+Ex.size .no)) (T0 e.C0 .no (n+Ex.size a+Ex.size .no+Bl.size .no)) Bl.no.DU n j M=G2 (L8 e.C0 a n M) 17 0 0 j:=rfl;rw[e1];generalize hM1:L8 e.C0 a n M=M1 at hla hlM⊢;have hea:=λz w h=>hM1▸hea z w h;refine A3<|F0 (cs:=(D7 ⟨28,Ex.ix n a,K5 (n+Ex.size a) (n+Ex.size a+Ex.size .no) .no .no,Bl.ix (n+Ex.size a+Ex.size .no+Bl.size .no) .no,Bl.ix (j+1) r,0,[],[]⟩).toArray) O λgb=>A6<|B5<|B2 0 O<|J3 O<|A6<|E7 O (by(dsimp only;decide))<|C5<|A4 O<|B2 0 O<|U7 [.B1 gb ND (D7 ⟨28,Ex.ix n a,K5 (n+Ex.size a) (n+Ex.size a+Ex.size .no) .no .no,Bl.ix (n+Ex.size a+Ex.size .no+Bl.size .no) .no,Bl.ix (j+1) r,0,[],[]⟩).toArray] M1 (.tuple #[]) O (A7 O) (λw ho=>hea z w ho) O O λz14=>I0<|B2 0 O<|A6<|C7<|B5<|C3 O (by(dsimp only;decide))<|C5<|C3 O (by(dsimp only;decide))<|A3<|C3 O (by(dsimp only;decide))<|A3<|C3 O (by(dsimp only;decide))<|A3<|C3 O (by(dsimp only;decide))<|A3<|C6 O<|C4 O (λz0=>?_) (λz0=>?_);refine C5<|A4 O<|A4 O<|U7 [.B1 gb ND (D7 ⟨28,Ex.ix n a,K5 (n+Ex.size a) (n+Ex.size a+Ex.size .no) .no .no,Bl.ix (n+Ex.size a+Ex.size .no+Bl.size .no) .no,Bl.ix (j+1) r,0,[],[]⟩).toArray] (G2 M1 17 0 0 (j:Int)) (.int .i64 M1.ins.length) O (A7 O) (λw ho=>BH g _ z14 M1 17 0 0 (j:Int) (-1) w (by omega) ho) O O λz53=>H6<|F4<|K7 O λw9 ho9=>?_;rotate_left;contradiction;exact BB [_] ⟨_,_,ho9⟩ rfl
theorem vC(A X Y Z:List C2):((A++Y)++(X++Z)).Perm ((A++X)++(Y++Z)):=by
 simp only[Q2];refine List.Perm.append_left A ?_;rw[<-Q2,<-Q2];exact EC.append_right Z
theorem lC(i:Int)(a:Ex)(B:Bl)(r:Bl)(ha:WE a)(hKB0:NG B):Ho 24 i [] [] a .no B .no r:=by
 intro n e hs hsl g z M w hB ho;refine G7 ho Km O Kn O ?_;have hr:=hs.root;have hsa:=hs.sa;have hsb:=hs.sb;have hsB:=hs.sB;have hsC:=hs.sC;have hjl:n+Ex.size a+Ex.size .no+Bl.size B+Bl.size .no<e.ns.length:=(N5.1 hr).1;have hla:=Cq e.C0 a n M;have hBa:W0 M (Ex.size a):=by unfold l8 W0 at*;omega
 have hea:=λz w h=>Ia ha n e hsa hsl g z M w hBa h;obtain⟨j,hj⟩:∃j,j=n+Ex.size a+Ex.size .no+Bl.size B+Bl.size .no:=⟨_,rfl⟩
 rw[<-hj] at hjl⊢;have hlM:(L8 e.C0 a n M).ins.length<=75000:=by unfold l8 l5 at*;omega
 have hKB:=λz M w h1 h2=>hKB0 (n+Ex.size a+Ex.size .no) e hsB hsl g z M w h1 h2;have hlenB:=HI e.C0 B (n+Ex.size a+Ex.size .no);have e1:Cv e.C0 24 i a .no (T0 e.C0 B (n+Ex.size a+Ex.size .no)) (T0 e.C0 .no (n+Ex.size a+Ex.size .no+Bl.size B)) Bl.no.DU n j M=Ff j (T0 e.C0 B (n+Ex.size a+Ex.size .no)) (T0 e.C0 .no (n+Ex.size a+Ex.size .no+Bl.size B)) true (L8 e.C0 a n M):=rfl;rw[e1];generalize T0 e.C0 B (n+Ex.size a+Ex.size .no)=fB at hKB hlenB⊢;have hBB:DD (G2 (L8 e.C0 a n M) 8 0 0 j) B.size:=by have h2:=n7 (L8 e.C0 a n M) 8 0 0 j;unfold l8 DD l5 at*;rw[h2.1,h2.2];omega
 have hvM:(L8 e.C0 a n M).G5.length<=M.G5.length+Ex.size a:=hla.2.2;have hiM:(L8 e.C0 a n M).ins.length<=M.ins.length+2*Ex.size a:=hla.2.1;generalize hM1:L8 e.C0 a n M=M1 at hla hlM hBB hvM hiM⊢;have hea:=λz w h=>hM1▸hea z w h;have h2:=n7 M1 8 0 0 j;have hl2:=hlenB (G2 M1 8 0 0 j);have hM1:M1.ins.length<(fB (G2 M1 8 0 0 j)).ins.length:=by unfold DI at hl2;rw[h2.1] at hl2;omega
 have hle:(fB (G2 M1 8 0 0 j)).ins.length<=80000:=by unfold DI l8 at*;rw[h2.1] at hl2;omega
 refine A3<|F0 (cs:=(D7 ⟨24,Ex.ix n a,K5 (n+Ex.size a) (n+Ex.size a+Ex.size .no) B .no,Bl.ix (n+Ex.size a+Ex.size .no+Bl.size B) .no,Bl.ix (j+1) r,i,[],[]⟩).toArray) O λgb=>A6<|B5<|B2 0 O<|J3 O<|A6<|E7 O (by(dsimp only;decide))<|C5<|A4 O<|B2 0 O<|U7 [.B1 gb ND (D7 ⟨24,Ex.ix n a,K5 (n+Ex.size a) (n+Ex.size a+Ex.size .no) B .no,Bl.ix (n+Ex.size a+Ex.size .no+Bl.size B) .no,Bl.ix (j+1) r,i,[],[]⟩).toArray] M1 (.tuple #[]) O (A7 O) (λw ho=>hea z w ho) O O λz14=>I0<|B2 0 O<|A6<|C7<|B5<|C3 O (by(dsimp only;decide))<|C5<|C3 O (by(dsimp only;decide))<|A3<|C3 O (by(dsimp only;decide))<|A3<|C3 O (by(dsimp only;decide))<|A3<|C3 O (by(dsimp only;decide))<|A3<|C3 O (by(dsimp only;decide))<|A3<|C6 O<|C4 O (λz0=>?_) (λz0=>?_);refine B4 O<|A4 O<|OS [.B1 gb ND (D7 ⟨24,Ex.ix n a,K5 (n+Ex.size a) (n+Ex.size a+Ex.size .no) B .no,Bl.ix (n+Ex.size a+Ex.size .no+Bl.size B) .no,Bl.ix (j+1) r,i,[],[]⟩).toArray] 8 0 0 j (-1) O (by omega) (A7 O) O O λgopA gmA giA z58=>A5 O<|B4 O<|B2 0 O<|U7 ([.B1 gb ND (D7 ⟨24,Ex.ix n a,K5 (n+Ex.size a) (n+Ex.size a+Ex.size .no) B .no,Bl.ix (n+Ex.size a+Ex.size .no+Bl.size B) .no,Bl.ix (j+1) r,i,[],[]⟩).toArray]++CC g gopA gmA giA 8 M1.ins.length) (fB (G2 M1 8 0 0 j)) (.tuple #[]) O (A7 O) (λw ho=>hKB z58 _ w hBB ho) O O λz62=>A6<|B5<|B2 0 O<|H9 O<|A6<|E7 O (by exact(by decide:(-1:Int)<0))<|B4 O<|Oo [.B1 gb ND (D7 ⟨24,Ex.ix n a,K5 (n+Ex.size a) (n+Ex.size a+Ex.size .no) B .no,Bl.ix (n+Ex.size a+Ex.size .no+Bl.size B) .no,Bl.ix (j+1) r,i,[],[]⟩).toArray] O hM1 (by omega) (CB (first:=[]) (vs:=[]) (cap:=[.pointer (some ⟨gopA,0,none⟩),.pointer (some ⟨gmA,0,none⟩),.pointer (some ⟨giA,0,none⟩)]) O) O O λz67=>A6<|D4<|K0<|DO<|Ct O O λw9 ho9=>?_;rotate_left;contradiction;exact BB [_] ⟨_,_,ho9⟩ rfl
theorem uU(i:Int)(a:Ex)(B C:Bl)(r:Bl)(hCn:C≠.no)(ha:WE a)(hKB0:NG B)(hKC0:NG C):Ho 24 i [] [] a .no B C r:=by
 intro n e hs hsl g z M w hB ho;refine G7 ho Km O Kn O ?_;have hr:=hs.root;have hsa:=hs.sa;have hsb:=hs.sb;have hsB:=hs.sB;have hsC:=hs.sC;have hjl:n+Ex.size a+Ex.size .no+Bl.size B+Bl.size C<e.ns.length:=(N5.1 hr).1;have hla:=Cq e.C0 a n M;have hBa:W0 M (Ex.size a):=by unfold l8 W0 at*;omega
 have hea:=λz w h=>Ia ha n e hsa hsl g z M w hBa h;obtain⟨j,hj⟩:∃j,j=n+Ex.size a+Ex.size .no+Bl.size B+Bl.size C:=⟨_,rfl⟩
 rw[<-hj] at hjl⊢;have hlM:(L8 e.C0 a n M).ins.length<=75000:=by unfold l8 l5 at*;omega
 have hKB:=λz M w h1 h2=>hKB0 (n+Ex.size a+Ex.size .no) e hsB hsl g z M w h1 h2;have hlenB:=HI e.C0 B (n+Ex.size a+Ex.size .no);have hKC:=λz M w h1 h2=>hKC0 (n+Ex.size a+Ex.size .no+Bl.size B) e hsC hsl g z M w h1 h2;have hlenC:=HI e.C0 C (n+Ex.size a+Ex.size .no+Bl.size B);have hcno:C.DU=false:=by cases C with|no=>exact absurd rfl hCn|st=>rfl
 have hcix:¬C.ix (n+Ex.size a+Ex.size .no+Bl.size B)<0:=by cases C with|no=>exact absurd rfl hCn|st=>simp only[Bl.ix];omega
 have e1:Cv e.C0 24 i a .no (T0 e.C0 B (n+Ex.size a+Ex.size .no)) (T0 e.C0 C (n+Ex.size a+Ex.size .no+Bl.size B)) C.DU n j M=Ff j (T0 e.C0 B (n+Ex.size a+Ex.size .no)) (T0 e.C0 C (n+Ex.size a+Ex.size .no+Bl.size B)) false (L8 e.C0 a n M):=by rw[hcno];rfl
 rw[e1];generalize T0 e.C0 C (n+Ex.size a+Ex.size .no+Bl.size B)=fC at hKC hlenC⊢;generalize T0 e.C0 B (n+Ex.size a+Ex.size .no)=fB at hKB hlenB⊢;have hBB:DD (G2 (L8 e.C0 a n M) 8 0 0 j) B.size:=by have h2:=n7 (L8 e.C0 a n M) 8 0 0 j;unfold l8 DD l5 at*;rw[h2.1,h2.2];omega
 have hvM:(L8 e.C0 a n M).G5.length<=M.G5.length+Ex.size a:=hla.2.2;have hiM:(L8 e.C0 a n M).ins.length<=M.ins.length+2*Ex.size a:=hla.2.1;generalize hM1:L8 e.C0 a n M=M1 at hla hlM hBB hvM hiM⊢;have hea:=λz w h=>hM1▸hea z w h;have h2:=n7 M1 8 0 0 j;have hl2:=hlenB (G2 M1 8 0 0 j);have hvB:(fB (G2 M1 8 0 0 j)).G5.length<=M.G5.length+Ex.size a+B.size:=by unfold DI at hl2;rw[h2.2] at hl2;omega
 have hiB:(fB (G2 M1 8 0 0 j)).ins.length<=M.ins.length+2*Ex.size a+1+4*B.size/\M1.ins.length+1<=(fB (G2 M1 8 0 0 j)).ins.length:=by unfold DI at hl2;rw[h2.1] at hl2;omega
 generalize hM3:fB (G2 M1 8 0 0 j)=M3 at hvB hiB;have h4:=n7 M3 9 0 0 j;have h5:=Ok (G2 M3 9 0 0 j) M1.ins.length 8;have hBC:DD (l7 (G2 M3 9 0 0 j) M1.ins.length 8) C.size:=by unfold l8 DD at*;rw[h5.1,h5.2,h4.1,h4.2];omega
 have hl6:=hlenC (l7 (G2 M3 9 0 0 j) M1.ins.length 8);have hM4:M1.ins.length<(G2 M3 9 0 0 j).ins.length:=by rw[h4.1];omega
 have hM5:M3.ins.length<(fC (l7 (G2 M3 9 0 0 j) M1.ins.length 8)).ins.length:=by unfold DI at hl6;rw[h5.1,h4.1] at hl6;omega
 have hle4:(G2 M3 9 0 0 j).ins.length<=80000:=by rw[h4.1];unfold l8 at*;omega
 have hle5:(fC (l7 (G2 M3 9 0 0 j) M1.ins.length 8)).ins.length<=80000:=by unfold DI l8 at*;rw[h5.1,h4.1] at hl6;omega
 have e2:Ff j fB fC false M1=l7 (fC (l7 (G2 M3 9 0 0 j) M1.ins.length 8)) M3.ins.length 9:=by unfold Ff;rw[hM3];rfl
 rw[e2];refine A3<|F0 (cs:=(D7 ⟨24,Ex.ix n a,K5 (n+Ex.size a) (n+Ex.size a+Ex.size .no) B .no,Bl.ix (n+Ex.size a+Ex.size .no+Bl.size B) C,Bl.ix (j+1) r,i,[],[]⟩).toArray) O λgb=>A6<|B5<|B2 0 O<|J3 O<|A6<|E7 O (by(dsimp only;decide))<|C5<|A4 O<|B2 0 O<|U7 [.B1 gb ND (D7 ⟨24,Ex.ix n a,K5 (n+Ex.size a) (n+Ex.size a+Ex.size .no) B .no,Bl.ix (n+Ex.size a+Ex.size .no+Bl.size B) C,Bl.ix (j+1) r,i,[],[]⟩).toArray] M1 (.tuple #[]) O (A7 O) (λw ho=>hea z w ho) O O λz14=>I0<|B2 0 O<|A6<|C7<|B5<|C3 O (by(dsimp only;decide))<|C5<|C3 O (by(dsimp only;decide))<|A3<|C3 O (by(dsimp only;decide))<|A3<|C3 O (by(dsimp only;decide))<|A3<|C3 O (by(dsimp only;decide))<|A3<|C3 O (by(dsimp only;decide))<|A3<|C6 O<|C4 O (λz0=>?_) (λz0=>?_);refine B4 O<|A4 O<|OS [.B1 gb ND (D7 ⟨24,Ex.ix n a,K5 (n+Ex.size a) (n+Ex.size a+Ex.size .no) B .no,Bl.ix (n+Ex.size a+Ex.size .no+Bl.size B) C,Bl.ix (j+1) r,i,[],[]⟩).toArray] 8 0 0 j (-1) O (by omega) (A7 O) O O λgopA gmA giA z58=>A5 O<|B4 O<|B2 0 O<|U7 ([.B1 gb ND (D7 ⟨24,Ex.ix n a,K5 (n+Ex.size a) (n+Ex.size a+Ex.size .no) B .no,Bl.ix (n+Ex.size a+Ex.size .no+Bl.size B) C,Bl.ix (j+1) r,i,[],[]⟩).toArray]++CC g gopA gmA giA 8 M1.ins.length) M3 (.tuple #[]) O (A7 O) (λw ho=>hM3▸hKB z58 _ w hBB ho) O O λz62=>A6<|B5<|B2 0 O<|H9 O<|A6<|E0 O (by exact hcix)<|D6<|B4 O<|A4 O<|OS ([.B1 gb ND (D7 ⟨24,Ex.ix n a,K5 (n+Ex.size a) (n+Ex.size a+Ex.size .no) B .no,Bl.ix (n+Ex.size a+Ex.size .no+Bl.size B) C,Bl.ix (j+1) r,i,[],[]⟩).toArray]++CC g gopA gmA giA 8 M1.ins.length) 9 0 0 j 0 O (by omega) (A7 O) O O λgopB gmB giB z70=>A5 O<|B4 O<|CE (H':=([.B1 gb ND (D7 ⟨24,Ex.ix n a,K5 (n+Ex.size a) (n+Ex.size a+Ex.size .no) B .no,Bl.ix (n+Ex.size a+Ex.size .no+Bl.size B) C,Bl.ix (j+1) r,i,[],[]⟩).toArray]++CC g gopB gmB giB 9 M3.ins.length)++(CC g gopA gmA giA 8 M1.ins.length++U5 g e z70 (G2 M3 9 0 0 j))) (vC _ _ _ _) (Oo ([.B1 gb ND (D7 ⟨24,Ex.ix n a,K5 (n+Ex.size a) (n+Ex.size a+Ex.size .no) B .no,Bl.ix (n+Ex.size a+Ex.size .no+Bl.size B) C,Bl.ix (j+1) r,i,[],[]⟩).toArray]++CC g gopB gmB giB 9 M3.ins.length) O hM4 (by omega) (CB (first:=[]) (vs:=[]) (cap:=[.pointer (some ⟨gopA,0,none⟩),.pointer (some ⟨gmA,0,none⟩),.pointer (some ⟨giA,0,none⟩)]) O) O O (λz72=>?_));refine I9 O<|B2 0 O<|U7 ([.B1 gb ND (D7 ⟨24,Ex.ix n a,K5 (n+Ex.size a) (n+Ex.size a+Ex.size .no) B .no,Bl.ix (n+Ex.size a+Ex.size .no+Bl.size B) C,Bl.ix (j+1) r,i,[],[]⟩).toArray]++CC g gopB gmB giB 9 M3.ins.length) (fC (l7 (G2 M3 9 0 0 j) M1.ins.length 8)) (.tuple #[]) O (A7 O) (λw ho=>hKC z72 _ w hBC ho) O O λz76=>A6<|C5<|A4 O<|Oo [.B1 gb ND (D7 ⟨24,Ex.ix n a,K5 (n+Ex.size a) (n+Ex.size a+Ex.size .no) B .no,Bl.ix (n+Ex.size a+Ex.size .no+Bl.size B) C,Bl.ix (j+1) r,i,[],[]⟩).toArray] O hM5 (by omega) (CB (first:=[]) (vs:=[]) (cap:=[.pointer (some ⟨gopB,0,none⟩),.pointer (some ⟨gmB,0,none⟩),.pointer (some ⟨giB,0,none⟩)]) O) O O λz78=>H6<|F4<|K7 O λw9 ho9=>?_;rotate_left;contradiction;exact BB [_] ⟨_,_,ho9⟩ rfl
theorem qG(i:Int)(s t:C9)(a:Ex)(B:Bl)(r:Bl)(ha:WE a)(hKB0:NG B):Ho 25 i s t a .no B .no r:=by
 intro n e hs hsl g z M w hB ho;refine G7 ho Km O Kn O ?_;have hr:=hs.root;have hsa:=hs.sa;have hsb:=hs.sb;have hsB:=hs.sB;have hsC:=hs.sC;have hjl:n+Ex.size a+Ex.size .no+Bl.size B+Bl.size .no<e.ns.length:=(N5.1 hr).1;have hla:=Cq e.C0 a n M;have hBa:W0 M (Ex.size a):=by unfold l8 W0 at*;omega
 have hea:=λz w h=>Ia ha n e hsa hsl g z M w hBa h;obtain⟨j,hj⟩:∃j,j=n+Ex.size a+Ex.size .no+Bl.size B+Bl.size .no:=⟨_,rfl⟩
 rw[<-hj] at hjl⊢;have hlM:(L8 e.C0 a n M).ins.length<=75000:=by unfold l8 l5 at*;omega
 have e1:Cv e.C0 25 i a .no (T0 e.C0 B (n+Ex.size a+Ex.size .no)) (T0 e.C0 .no (n+Ex.size a+Ex.size .no+Bl.size B)) Bl.no.DU n j M=Hi 13 (e.C0.getD j 0) j (T0 e.C0 B (n+Ex.size a+Ex.size .no)) (G2 (L8 e.C0 a n M) 12 0 i j):=rfl;rw[e1];have hsj:e.C0[j]?=some (e.C0.getD j 0):=by
  rw[W6,T8 (by omega)];rfl
 have hLo:=λsj z w h1 h2=>aV hKB0 (n+Ex.size a+Ex.size .no) e hsB hsl g 13 sj j z (G2 (L8 e.C0 a n M) 12 0 i j) w h1 h2;generalize e.C0.getD j 0=sj at hsj⊢;have h2:=n7 (L8 e.C0 a n M) 12 0 i j;have hBL:(G2 (L8 e.C0 a n M) 12 0 i j).ins.length+4*B.size+2<=70000/\(G2 (L8 e.C0 a n M) 12 0 i j).G5.length+B.size<=70000:=by rw[h2.1,h2.2];unfold l8 l5 at*;omega
 clear h2;generalize hM1:L8 e.C0 a n M=M1 at hla hlM hBL hLo⊢;have hea:=λz w h=>hM1▸hea z w h;have hLo:=λz w h=>hLo sj z w hBL h;obtain⟨gc,v,f,ns,sv,C0,B8⟩:=e;dsimp only at hsj hjl hsl hea hLo⊢;refine R7 5 O ?_;rintro⟨_,⟨_,h0⟩|⟨gl,cl,hl⟩⟩
 ·dsimp only at h0;omega
 dsimp only at hl;subst hl;refine A3<|F0 (cs:=(D7 ⟨25,Ex.ix n a,K5 (n+Ex.size a) (n+Ex.size a+Ex.size .no) B .no,Bl.ix (n+Ex.size a+Ex.size .no+Bl.size B) .no,Bl.ix (j+1) r,i,s,t⟩).toArray) O λgb=>A6<|B5<|B2 0 O<|J3 O<|A6<|E7 O (by(dsimp only;decide))<|C5<|A4 O<|B2 0 O<|U7 [.B1 gb ND (D7 ⟨25,Ex.ix n a,K5 (n+Ex.size a) (n+Ex.size a+Ex.size .no) B .no,Bl.ix (n+Ex.size a+Ex.size .no+Bl.size B) .no,Bl.ix (j+1) r,i,s,t⟩).toArray] M1 (.tuple #[]) O (A7 O) (λw ho=>hea z w ho) O O λz14=>I0<|B2 0 O<|A6<|C7<|B5<|C3 O (by(dsimp only;decide))<|C5<|C3 O (by(dsimp only;decide))<|A3<|C3 O (by(dsimp only;decide))<|A3<|C3 O (by(dsimp only;decide))<|A3<|C3 O (by(dsimp only;decide))<|A3<|C3 O (by(dsimp only;decide))<|A3<|C3 O (by(dsimp only;decide))<|A3<|C6 O<|C4 O (λz0=>?_) (λz0=>?_);refine B4 O<|B2 0 O<|A4 O<|U7 [.B1 gb ND (D7 ⟨25,Ex.ix n a,K5 (n+Ex.size a) (n+Ex.size a+Ex.size .no) B .no,Bl.ix (n+Ex.size a+Ex.size .no+Bl.size B) .no,Bl.ix (j+1) r,i,s,t⟩).toArray] (G2 M1 12 0 i (j:Int)) (.int .i64 M1.ins.length) O (A7 O) (λw ho=>BH g _ z14 M1 12 0 i (j:Int) (-1) w (by omega) ho) O O λz85=>A6 ?_;rotate_left;contradiction;apply BL 11 [_,_,_,_,_,_,_,_,_,_,_] (by kernel_rfl) (by kernel_rfl) (by kernel_rfl)
 ·refine D5 O (λvs=>H8 O)<|D5 O (λvs=>H8 O)<|D5 O (λvs=>N1 O)<|D5 O (λvs=>I8 1 O)<|D5 O (λvs=>K1 1 O)<|D5 O (λvs=>H8 O)<|D5 O (λvs=>En 1 j O hjl)<|D5 O (λvs=>Av 6 O (by omega) (Rv hsj))<|D5 O (λvs=>H8 O)<|D5 O (λvs=>I8 2 O)<|D5 O (λvs=>K1 0 O) ?_;exact l6
 ·(repeat(first|exact trivial|exact(λ_ _ _ h=>h)|refine⟨trivial,?_⟩|refine⟨λ_ _ _ h=>h,?_⟩))
 intro vs;refine U7 [_] _ (.tuple #[]) O (A7 O) (λw ho=>hLo z85 w ho) O O λz97=>H6<|F4<|K7 O λw9 ho9=>?_;rotate_left;exact BB [_] ⟨_,_,ho9⟩ rfl
theorem ab6(i:Int)(B:Bl)(r:Bl)(hKB0:NG B):Ho 26 i [] [] .no .no B .no r:=by
 intro n e hs hsl g z M w hB ho;refine G7 ho Km O Kn O ?_;have hr:=hs.root;have hsa:=hs.sa;have hsb:=hs.sb;have hsB:=hs.sB;have hsC:=hs.sC;have hjl:n+Ex.size .no+Ex.size .no+Bl.size B+Bl.size .no<e.ns.length:=(N5.1 hr).1;have hla:=Cq e.C0 .no n M;have hBa:W0 M (Ex.size .no):=by unfold l8 W0 at*;omega
 obtain⟨j,hj⟩:∃j,j=n+Ex.size .no+Ex.size .no+Bl.size B+Bl.size .no:=⟨_,rfl⟩
 rw[<-hj] at hjl⊢;have e1:Cv e.C0 26 i .no .no (T0 e.C0 B (n+Ex.size .no+Ex.size .no)) (T0 e.C0 .no (n+Ex.size .no+Ex.size .no+Bl.size B)) Bl.no.DU n j M=Hi 15 0 j (T0 e.C0 B (n+Ex.size .no+Ex.size .no)) (G2 M 14 i 0 j):=rfl;rw[e1];have hLo:=λz w h1 h2=>aV hKB0 (n+Ex.size .no+Ex.size .no) e hsB hsl g 15 0 j z (G2 M 14 i 0 j) w h1 h2;have h2:=n7 M 14 i 0 j;have hlM:M.ins.length<=75000:=by unfold l8 at*;omega
 have hBL:(G2 M 14 i 0 j).ins.length+4*B.size+2<=70000/\(G2 M 14 i 0 j).G5.length+B.size<=70000:=by rw[h2.1,h2.2];unfold l8 at*;omega
 refine A3<|F0 (cs:=(D7 ⟨26,Ex.ix n .no,K5 (n+Ex.size .no) (n+Ex.size .no+Ex.size .no) B .no,Bl.ix (n+Ex.size .no+Ex.size .no+Bl.size B) .no,Bl.ix (j+1) r,i,[],[]⟩).toArray) O λgb=>A6<|B5<|B2 0 O<|J3 O<|A6<|E0 O (by(dsimp only;decide))<|D6<|A3<|B2 0 O<|A6<|C7<|B5<|C3 O (by(dsimp only;decide))<|C5<|C3 O (by(dsimp only;decide))<|A3<|C3 O (by(dsimp only;decide))<|A3<|C3 O (by(dsimp only;decide))<|A3<|C3 O (by(dsimp only;decide))<|A3<|C3 O (by(dsimp only;decide))<|A3<|C3 O (by(dsimp only;decide))<|A3<|C3 O (by(dsimp only;decide))<|A3<|C6 O<|C4 O (λz0=>?_) (λz0=>?_);refine B4 O<|B2 0 O<|A4 O<|U7 [.B1 gb ND (D7 ⟨26,Ex.ix n .no,K5 (n+Ex.size .no) (n+Ex.size .no+Ex.size .no) B .no,Bl.ix (n+Ex.size .no+Ex.size .no+Bl.size B) .no,Bl.ix (j+1) r,i,[],[]⟩).toArray] (G2 M 14 i 0 (j:Int)) (.int .i64 M.ins.length) O (A7 O) (λw ho=>BH g _ z M 14 i 0 (j:Int) 0 w (by omega) ho) O O λz104=>A6<|C5<|A4 O<|A4 O<|B2 0 O<|U7 [.B1 gb ND (D7 ⟨26,Ex.ix n .no,K5 (n+Ex.size .no) (n+Ex.size .no+Ex.size .no) B .no,Bl.ix (n+Ex.size .no+Ex.size .no+Bl.size B) .no,Bl.ix (j+1) r,i,[],[]⟩).toArray] _ (.tuple #[]) O (A7 O) (λw ho=>hLo z104 w hBL ho) O O λz109=>H6<|F4<|K7 O λw9 ho9=>?_;rotate_left;contradiction;exact BB [_] ⟨_,_,ho9⟩ rfl
theorem aa0{B:Bl}(h:WB B):Sy B:=by
 induction h with
 |no=>trivial
 |names k h s hs a ha r hr ih=>
  rcases h with rfl|rfl
  ·exact⟨ae9 s a r ha,ih⟩
  ·exact⟨mQ s a r ha,ih⟩
 |put a b ha hb r hr ih=>exact⟨aq9 a b r ha hb,ih⟩
 |one k h a ha r hr ih=>
  rcases h with rfl|rfl|rfl
  ·exact⟨ak6 a r ha,ih⟩
  ·exact⟨oJ a r ha,ih⟩
  ·exact⟨at9 a r ha,ih⟩
 |iff a ha B hB r hr ihB ih=>exact⟨lC 0 a B r ha (Mu ihB),ih⟩
 |Hk a ha B C hB hC r hr ihB ihC ih=>
  cases C with
  |no=>exact⟨lC 1 a B r ha (Mu ihB),ih⟩
  |st=>exact⟨uU 1 a B _ r (by simp) ha (Mu ihB) (Mu ihC),ih⟩
 |each s t hs ht a ha i hi B hB r hr ihB ih=>exact⟨qG i s t a B r ha (Mu ihB),ih⟩
 |rep i hi B hB r hr ihB ih=>exact⟨ab6 i B r (Mu ihB),ih⟩
end
end Go.Proofs.YtjkhokkdgfbhcaaGreatDoor
namespace Go.Proofs.YtjkhokkdgfbhcaaGreatDoor
open Go.RowKit
def XM:Value->Bool
 |.slice none _ _=>true
 |_=>false
theorem ZV{P:Program}{n:Nat}{E:X0}{C:I3}{H:List C2}{dst:Option Tmp}{ty xT:TypeId}{pos:String}{after:Array Edge}{g:Option (Nat×Bool)}{x:Operand}{p:Option Addr}{m c:Nat}(hT:(match P.underlying xT with|some (.slice _)=>true|_=>false)=true)(hx:ev E x=some (.slice p m c)):L1 P n E C H ⟨dst,.binOp .eql xT x (.const (.slice none 0 0)) xT,ty,pos,after,g⟩ (.bool (XM (.slice p m c))):=by
 intro a w hf ho;split at hT
 ·rename_i el he;simp only[execOp,hf.eval hx];have h1:(Op.equal xT (.slice p m c) (.slice none 0 0)).run P w=.ok (XM (.slice p m c)) w:=by
   show(Op.equalIn (9999+1) xT _ _).run P w=_;rw[Op.equalIn];cases p<;>simp[go_sem,run_underlying he,XM]
  simp[go_sem,eqGuard,binOp,Act.eval,h1]
 ·cases hT
theorem bN{P:Program}{n:Nat}{E:X0}{C:I3}{H:List C2}{o:Oper}{t:TypeId}{cs:J2}{a:Act}{w:B6}{Q:Value->B6->Prop}(h:QP P n E C H o t cs)(hf:U2 n E a)(ho:B7 C H w)(k:∀g w',B7 C (.B1 g t cs::H) w'->Q (.pointer (some ⟨g,0,none⟩)) w'):∃u w',(execOp a.eval o).run P w=.ok (.value u) w'/\Q u w':=by
 obtain⟨g,w',h1,h2⟩:=h a w hf ho;exact⟨_,w',h1,k g w' h2⟩
theorem Oy{n:Nat}{E:X0}{C:I3}{H:List C2}{K:Act->B6->Prop}{φ:Prop}(h:∀w,B7 C H w->φ)(k:φ->At n E C H K):At n E C H K:=λa w hf hd ho=>k (h w ho) a w hf hd ho
theorem PO{n:Nat}{E:X0}{C:I3}{H:List C2}{K:Act->B6->Prop}{i e sz m:Nat}{v:Value}{xs:H2}(hi:H[i]?=some (.row v e sz m xs))(k:∀A c,v=.slice A m c->At n E C H K):At n E C H K:=by
 intro a w hf hd ho;rcases(ho.rowAt hi).2 with⟨rfl,h0⟩|⟨g,cap,cur,rfl,_⟩
 ·exact(k none 0 (by rw[h0])) a w hf hd ho
 ·exact(k _ _ rfl) a w hf hd ho
attribute [local irreducible] F8 D3 Exit.then Exit.inBlock Exit.noGoto wpQuiet Calls fin At G9 L3 L7 RQ R9
theorem aw5(v:Value)(ns:List F2)(w:B6)(hl:ns.length<=512)(ho:B7 (J1 w [.row v ND 8 ns.length (L2 ns)]) [.row v ND 8 ns.length (L2 ns)] w):
  Calls Tryz.prog 63 #[v] w λe w'=>∃q:Option Addr×Nat,e=.returned (.slice q.1 ns.length q.2)/\O0 w (λb=>b∈F1 [.row v ND 8 ns.length (L2 ns)]) [.row v ND 8 ns.length (L2 ns),.row (.slice q.1 ns.length q.2) ND 8 ns.length (L2 ns)] w':=by
 refine G7 ho Tryz.func63 O Tryz.ntmps63 O<|R7 0 O ?_;rintro⟨hln,⟨rfl,h0⟩|⟨gn,cp,rfl⟩⟩
 ·obtain rfl:ns=[]:=Kh h0;exact BY ND 8<|A3<|A5 O<|B5<|A4 O<|B9 (ZV (by kernel_rfl) O) O<|A6<|k8 O (by decide)<|A3<|A5 O<|D4<|K0<|E4 O λw9 ho9=>⟨(none,0),rfl,_,_,ho9⟩
 ·refine A3<|A5 O<|B5<|A4 O<|B9 (ZV (by kernel_rfl) O) O<|A6<|Y7 O (by rfl)<|D6<|A3<|N7 [] [] O λgt=>A4 O ?_;rotate_left;refine x4 (H':=[.row (.slice (some ⟨gt,0,none⟩) 0 0) ND 8 0 [],.row (.slice (some ⟨gn,0,none⟩) ns.length cp) ND 8 ns.length (L2 ns)]) O (λw ho=>?_) ?_
  ·exact ho.swap (i:=0) rfl (M0.refl _ _) (q':=.row (.slice (some ⟨gt,0,none⟩) 0 0) ND 8 0 []) ⟨rfl,.inr ⟨gt,0,#[],rfl,R5 _,ho.get (i:=0) rfl,L6 _,R5 _,rfl,rfl⟩⟩ (λk hk=>.inl hk)
  refine Sr (i:=0) (e:=ND) (sz:=8) (by':=80) (m:=0) (k:=ns.length) (news:=L2 ns) (by kernel_rfl) O O O hln (λw ho j u hu=>?_) (λu hu=>?_) (by simp only[maxLen];omega) O (λv7 hv7=>?_);rotate_left;rotate_left;refine A5 O<|D4<|E4 O λw9 ho9=>?_;rotate_left
  ·have h1:=(ho.rowAt (i:=1) rfl).cells (g:=gn) rfl j u hu;have e2:(⟨gn,0,none⟩:Addr).add j=⟨gn,j,none⟩:=by unfold Addr.add;split<;>simp_all
   first|exact h1|(rw[e2];exact h1)|(rw[e2] at h1;exact h1)
  ·obtain⟨m,hm,hu⟩:=List.mem_flatMap.1 hu;simp only[D7,BD,YI,or_false] at hu;rcases hu with rfl|rfl|rfl|rfl|rfl|rfl|rfl|rfl<;>rfl
  have e3:0+ns.length=ns.length:=Y3 _;rw[e3] at ho9;have ho9:B7 _ [.row v7 ND 8 ns.length (L2 ns),.row (.slice (some ⟨gn,0,none⟩) ns.length cp) ND 8 ns.length (L2 ns)] _:=ho9;rcases(ho9.rowAt (i:=0) rfl).2 with⟨rfl,h0⟩|⟨g2,cap,cur,rfl,_⟩
  ·exact⟨(none,0),by rw[h0],_,_,by dsimp only;rw[h0] at ho9⊢;exact ho9.perm (List.Perm.swap ..)⟩
  ·exact⟨(some ⟨g2,0,none⟩,cap),rfl,_,_,ho9.perm (List.Perm.swap ..)⟩
theorem at6:Ae Tryz.prog 150=some ([.slice none 0 0,.int .i64 0,.slice none 0 0,.slice none 0 0,.int .i64 0,.int .i64 0],[(0,2),(2,1),(3,1),(4,1),(5,1)]):=by kernel_rfl
theorem ac8:Ae Tryz.prog 152=some ([.pointer none,.slice none 0 0,.int .i64 0],[(0,1),(1,1),(2,1)]):=by kernel_rfl
theorem aj7:Ae Tryz.prog 37=some ([.slice none 0 0,.int .i64 0],[(0,1),(1,1)]):=by kernel_rfl
def Mz:Value->Nat
 |.pointer (some a)=>a.block
 |_=>0
def KD(u:Value)(f B8:Int):Array Value:= #[u,.int .i64 f,.slice none 0 0,.slice none 0 0,.int .i64 B8,.int .i64 0]
def EY(m:Nat)(f B8:Int)(lst:Nat->Bool)(vs:Nat->Value):Prop:=
 (lst 2=true->∃q:Option Addr×Nat,vs 2=.slice q.1 m q.2)/\(lst 5=true->lst 2=true/\vs 5=.agg #[vs 2,.int .i64 f])/\(lst 7=true->lst 5=true/\vs 7=.agg (KD (vs 2) f B8))/\(lst 8=true->lst 7=true/\∃b,vs 8=.pointer (some ⟨b,0,none⟩))
open Classical in
noncomputable def mkXs(ns:List F2)(f B8:Int)(lst:Nat->Bool)(vs:Nat->Value):List C2:=
 if EY ns.length f B8 lst vs then(if lst 2 then[.row (vs 2) ND 8 ns.length (L2 ns)] else[])++(if lst 8 then[.B1 (Mz (vs 8)) Dn (KD (vs 2) f B8)] else[]) else[.B1 0 0 #[],.B1 0 0 #[]]
theorem RO{C:I3}{A:List C2}{w:B6}(h:B7 C (A++[.B1 0 0 #[],.B1 0 0 #[]]) w):False:=by
 have:=h.nodup;rw[DY,FB] at this;have h2:=this.2.1;simp[F1,C2.blocks] at h2
theorem Mh{C:I3}{A:List C2}{w:B6}{ns:List F2}{f B8:Int}{lst:Nat->Bool}{vs:Nat->Value}(h:B7 C (A++mkXs ns f B8 lst vs) w):EY ns.length f B8 lst vs/\B7 C (A++((if lst 2 then[.row (vs 2) ND 8 ns.length (L2 ns)] else[])++(if lst 8 then[.B1 (Mz (vs 8)) Dn (KD (vs 2) f B8)] else[]))) w:=by
 unfold mkXs at h;split at h
 ·exact⟨by assumption,h⟩
 ·exact(RO h).elim
theorem RJ{ns:List F2}{f B8:Int}{lst:Nat->Bool}{vs:Nat->Value}(h:EY ns.length f B8 lst vs):mkXs ns f B8 lst vs=(if lst 2 then[.row (vs 2) ND 8 ns.length (L2 ns)] else[])++(if lst 8 then[.B1 (Mz (vs 8)) Dn (KD (vs 2) f B8)] else[]):=by
 unfold mkXs;rw[if_pos h]
section
variable{m:Nat}{f B8:Int}{lst:Nat->Bool}{vs:Nat->Value}
theorem EY.s2(h:EY m f B8 lst vs)(hl:lst 2=false)(q:Option Addr×Nat):EY m f B8 (Q3 lst 2) (U9 vs 2 (.slice q.1 m q.2))/\lst 8=false:=by
 obtain⟨h2,h5,h7,h8⟩:=h;have e5:lst 5=false:=by
  cases e:lst 5 with
  |false=>rfl
  |true=>have:=(h5 e).1;rw[hl] at this;cases this
 have e7:lst 7=false:=by
  cases e:lst 7 with
  |false=>rfl
  |true=>have:=(h7 e).1;rw[e5] at this;cases this
 have e8:lst 8=false:=by
  cases e:lst 8 with
  |false=>rfl
  |true=>have:=(h8 e).1;rw[e7] at this;cases this
 refine⟨⟨λ_=>⟨q,rfl⟩,λh=>?_,λh=>?_,λh=>?_⟩,e8⟩
 ·have h:lst 5=true:=h;rw[e5] at h;cases h
 ·have h:lst 7=true:=h;rw[e7] at h;cases h
 ·have h:lst 8=true:=h;rw[e8] at h;cases h
theorem EY.s5(h:EY m f B8 lst vs)(hl:lst 5=false)(hh:lst 2=true):EY m f B8 (Q3 lst 5) (U9 vs 5 (.agg #[vs 2,.int .i64 f])):=by
 obtain⟨h2,h5,h7,h8⟩:=h;have e7:lst 7=false:=by
  cases e:lst 7 with
  |false=>rfl
  |true=>have:=(h7 e).1;rw[hl] at this;cases this
 refine⟨h2,λ_=>⟨hh,rfl⟩,λh=>?_,h8⟩;have h:lst 7=true:=h;rw[e7] at h;cases h
theorem EY.s7(h:EY m f B8 lst vs)(hl:lst 7=false)(hh:lst 5=true):EY m f B8 (Q3 lst 7) (U9 vs 7 (.agg (KD (vs 2) f B8))):=by
 obtain⟨h2,h5,h7,h8⟩:=h;exact⟨h2,h5,λ_=>⟨hh,rfl⟩,λh=>⟨rfl,(h8 h).2⟩⟩
theorem EY.s8(h:EY m f B8 lst vs)(hh:lst 7=true)(b:Nat):EY m f B8 (Q3 lst 8) (U9 vs 8 (.pointer (some ⟨b,0,none⟩))):=by
 obtain⟨h2,h5,h7,h8⟩:=h;exact⟨h2,h5,h7,λ_=>⟨hh,b,rfl⟩⟩
end
theorem ak0{α:Type}(a b c d e f g h:α):[d,e,c,h,g,b,a,f].Perm [a,b,c,d,e,f,g,h]:=by
 classical
 exact YT.2 λx=>by simp only[Rb];omega
theorem yJ{B:Bl}(hW:WB B)(hs:B.size<=512)(v:Value)(w:B6)(ns:List F2)(hns:ns=N0 B 0)(he:(R3 B).e=0)(ho:B7 (J1 w [.row v ND 8 ns.length (L2 ns)]) [.row v ND 8 ns.length (L2 ns)] w):
  Calls Tryz.prog 31 #[.agg #[v,.int .i64 (B.ix 0)]] w λe w'=>∃gc iv vv hi u,e=.returned (.tuple #[.pointer (some ⟨gc,0,none⟩),.int .i64 0,.int .i64 (-1)])/\
   O0 w (λb=>b∈F1 [.row v ND 8 ns.length (L2 ns)]) [.B1 gc Dn #[u,.int .i64 (B.ix 0),iv,vv,.int .i64 (R3 B).B8,.int .i64 hi],.row iv Q1 4 (G2 (T0 (R3 B).C0 B 0 ⟨[],[]⟩) 18 0 0 (-1)).ins.length (Er (G2 (T0 (R3 B).C0 B 0 ⟨[],[]⟩) 18 0 0 (-1)).ins),.row vv I4 3 (T0 (R3 B).C0 B 0 ⟨[],[]⟩).G5.length (P8 (T0 (R3 B).C0 B 0 ⟨[],[]⟩).G5)] w':=by
 refine G7 ho Tryz.func31 O Tryz.ntmps31 O ?_;have hlen:ns.length=B.size:=by rw[hns,j3]
 have hsub:=sub_self B;rw[<-hns] at hsub;have cS:∀w,B7 (J1 w [.row v ND 8 ns.length (L2 ns)]) [.row v ND 8 ns.length (L2 ns)] w->Calls Tryz.prog 62 #[.agg #[v,.int .i64 (B.ix 0)]] w λe w'=>∃u:Value,e=.returned (.tuple #[u,.int .i64 (R3 B).B8,.int .i64 0,.int .i64 (-1)])/\O0 w (λb=>b∈F1 [.row v ND 8 ns.length (L2 ns)]) ([.row v ND 8 ns.length (L2 ns)]++[.row u S7 1 ns.length (Ao (R3 B).C0)]) w'/\(R3 B).C0.length=ns.length:=λw ho=>(aR hW hs v w ns hns ho).mono λe w' ⟨u,h1,h2,h3⟩=>⟨u,by rw[h2,if_pos he],h3,h1⟩
 have hblk:=Mu (aa0 hW) 0;generalize (R3 B).C0=sl at*;generalize (R3 B).B8=B8 at*;refine A3<|F0 (cs:= #[v,.int .i64 (B.ix 0)]) O λgp=>E6 O<|E6 O<|A5 O<|A3<|G6 0 O O<|Oa (ι:=Value) (λ_=>sl.length=ns.length) [.B1 gp p8 #[v,.int .i64 (B.ix 0)]] [.row v ND 8 ns.length (L2 ns)] (λu=>.tuple #[u,.int .i64 B8,.int .i64 0,.int .i64 (-1)]) (λu=>[.row v ND 8 ns.length (L2 ns)]++[.row u S7 1 ns.length (Ao sl)]) O (A7 O) (λw _ ho=>cS w ho) O O λsv hsl=>A4 O<|G1 O<|G1 O<|G1 O<|G1 O<|E6 O<|E6 O<|E6 O<|A5 O<|B5<|A4 O<|J3 O<|A6<|E0 O (by decide)<|D6<|C8 ?_;rotate_left;refine PO (i:=2) O λAs cs hsv=>?_;subst hsv;apply Bh 10 [_,_,.rel λ_ _=>True,_,_,.rel λ_ _=>True,_,.rel λ_ _=>True,.rel λ_ _=>True,_] (λlst vs=>[.B1 gp p8 #[v,.int .i64 (B.ix 0)],.row v ND 8 ns.length (L2 ns),.row (.slice As ns.length cs) S7 1 ns.length (Ao sl)]++mkXs ns (B.ix 0) B8 lst vs) (by kernel_rfl) (by kernel_rfl) (by kernel_rfl)
 ·intro vs;have hg:EY ns.length (B.ix 0) B8 (λ_=>false) vs:=⟨(λh=>by cases h),(λh=>by cases h),(λh=>by cases h),(λh=>by cases h)⟩
  rw[RJ hg];rfl
 ·refine E9 O (F7 O (λlst vs hl he=>D0 (I8 0 O)) (λ_ _ _=>rfl))<|E9 O (F7 O (λlst vs hl he=>D0 (K1 0 O)) (λ_ _ _=>rfl))<|E9 O (CZ O λlst vs hl he a w hf ho hx=>?_) ?_;rotate_left;refine E9 O (F7 O (λlst vs hl he=>D0 (I8 1 O)) (λ_ _ _=>rfl))<|E9 O (F7 O (λlst vs hl he=>D0 (K1 0 O)) (λ_ _ _=>rfl))<|E9 O (CZ O λlst vs hl he a w hf ho hx=>?_) ?_;rotate_left;refine E9 O (F7 O (λlst vs hl he=>D0 (H8 O)) (λ_ _ _=>rfl))<|E9 O (CZ O λlst vs hl he a w hf ho hx=>?_) ?_;rotate_left;refine E9 O (CZ O λlst vs hl he a w hf ho hx=>?_) ?_;rotate_left;refine E9 O (F7 O (λlst vs hl he=>D0 (H8 O)) (λ_ _ _=>rfl)) ?_;exact Bf
  ·obtain⟨hg,ho2⟩:=Mh ho;have hl:lst 2=false:=hl;obtain⟨_,e8⟩:=hg.s2 hl (none,0);rw[hl,e8] at ho2;have ho3:B7 _ ([.row v ND 8 ns.length (L2 ns)]++[.B1 gp p8 #[v,.int .i64 (B.ix 0)],.row (.slice As ns.length cs) S7 1 ns.length (Ao sl)]) w:=ho2.perm (List.Perm.swap ..);refine .inr ⟨_,_,MM (by kernel_rfl) rfl a w hf ho3,(aw5 v ns w (by omega) (B7.Gl (ho3.sublist (HB _ _)))).mono ?_⟩;rintro en w' ⟨q,rfl,hin⟩;refine⟨_,rfl,?_,trivial⟩;rw[RJ (hg.s2 hl q).1];have e9:Q3 lst 2 8=false:=e8;have e10:Q3 lst 2 2=true:=rfl;rw[e9,e10];exact(ho3.Lc hin).perm ((List.Perm.swap _ _ _).trans (.cons _ (EC (l₁:=[_,_]) (l₂:=[_]))))
  ·obtain⟨hg,ho2⟩:=Mh ho;have hl:lst 5=false:=hl;have hh:lst 2=true:=he 2 (by decide);obtain⟨q,hq⟩:=hg.1 hh;refine .inl ⟨.agg #[vs 2,.int .i64 (B.ix 0)],w,?_,?_,trivial⟩
   ·rw[hq];exact TC (cs:=[.slice q.1 ns.length q.2,.int .i64 (B.ix 0)]) (vs:=[(0,.slice q.1 ns.length q.2),(1,.int .i64 (B.ix 0))]) aj7 (by rw[<-hq];rfl) O a w hf ho
   ·rw[RJ (hg.s5 hl hh)];exact ho2
  ·obtain⟨hg,ho2⟩:=Mh ho;have hl:lst 7=false:=hl;have hh:lst 5=true:=he 5 (by decide);obtain⟨h2,h5⟩:=hg.2.1 hh;obtain⟨q,hq⟩:=hg.1 h2;refine .inl ⟨.agg (KD (vs 2) (B.ix 0) B8),w,?_,?_,trivial⟩
   ·rw[hq];exact TC (cs:=(KD (.slice q.1 ns.length q.2) (B.ix 0) B8).toList) (vs:=[(0,.agg #[.slice q.1 ns.length q.2,.int .i64 (B.ix 0)]),(3,.int .i64 B8)]) at6 (by rw[<-hq,<-h5];rfl) O a w hf ho
   ·rw[RJ (hg.s7 hl hh)];exact ho2
  ·obtain⟨hg,ho2⟩:=Mh ho;have hl:lst 8=false:=hl;have hh:lst 7=true:=he 7 (by decide);obtain⟨h5,h7⟩:=hg.2.2.1 hh;obtain⟨h2,_⟩:=hg.2.1 h5;refine .inl (bN (XT (cs:=KD (vs 2) (B.ix 0) B8) ((show ev _ _=some (vs 7) from rfl).trans (by rw[h7]))) hf ho2 (λb w' hw=>⟨?_,trivial⟩));rw[RJ (hg.s8 hh b)];rw[hl,h2] at hw;have e9:Q3 lst 8 2=true:=h2;have e10:Q3 lst 8 8=true:=rfl;rw[e9,e10];exact hw.perm (EC (l₁:=[_,_,_,_]) (l₂:=[_]))
 ·(repeat(first|exact trivial|exact(λ_ _ _ h=>h)|refine⟨trivial,?_⟩|refine⟨λ_ _ _ h=>h,?_⟩))
 ·intro vs w1 hf1;refine Oy (φ:=(∃q:Option Addr×Nat,vs 2=.slice q.1 ns.length q.2)/\∃b,vs 8=.pointer (some ⟨b,0,none⟩)) (λw ho=>⟨(Mh ho).1.1 rfl,((Mh ho).1.2.2.2 rfl).2⟩) ?_;rintro⟨⟨q,hq⟩,gc,hgc⟩;refine x4 (H':=[.B1 gp p8 #[v,.int .i64 (B.ix 0)],.row v ND 8 ns.length (L2 ns),.row (.slice As ns.length cs) S7 1 ns.length (Ao sl),.row (.slice q.1 ns.length q.2) ND 8 ns.length (L2 ns),.B1 gc Dn (KD (.slice q.1 ns.length q.2) (B.ix 0) B8)]) O (λw ho=>by have:=(Mh ho).2;rw[hgc,hq] at this;exact this)<|Ai (E':=[(1,.pointer (some ⟨gp,0,none⟩)),(29,.pointer (some ⟨gc,0,none⟩)),(30,.slice As ns.length cs)]) ⟨rfl,by rw[<-hgc];rfl,rfl,trivial⟩<|B9 (O7 [.pointer (some ⟨gc,0,none⟩),.slice As ns.length cs,.int .i64 0] ac8 O) O<|F0 (cs:= #[.pointer (some ⟨gc,0,none⟩),.slice As ns.length cs,.int .i64 0]) O λgm=>A5 O<|C8 ?_;rotate_left;refine BY Q1 4<|BY I4 3<|CE (H':=[.B1 gp p8 #[v,.int .i64 (B.ix 0)],.row v ND 8 ns.length (L2 ns)]++U5 gm ⟨gc,.slice q.1 ns.length q.2,B.ix 0,ns,.slice As ns.length cs,sl,B8⟩ ⟨.slice none 0 0,.slice none 0 0,0,0⟩ ⟨[],[]⟩) (ak0 _ _ _ _ _ _ _ _) ?_;have hch:=HI sl B 0 ⟨[],[]⟩;have hcl:(T0 sl B 0 ⟨[],[]⟩).ins.length<=4*B.size:=by have:=hch.2.1;simpa using this
  have hK:=λz w h=>hblk ⟨gc,.slice q.1 ns.length q.2,B.ix 0,ns,.slice As ns.length cs,sl,B8⟩ hsub hsl gm z ⟨[],[]⟩ w ⟨by simp;omega,by simp;omega⟩ h;dsimp only at hK;generalize T0 sl B 0 ⟨[],[]⟩=M at hcl hK⊢;refine C5<|A4 O<|B2 0 O<|U7 [.B1 gp p8 #[v,.int .i64 (B.ix 0)],.row v ND 8 ns.length (L2 ns)] M (.tuple #[]) O (A7 O) (λw ho=>hK _ w ho) O O λz36=>I9 O<|U7 [.B1 gp p8 #[v,.int .i64 (B.ix 0)],.row v ND 8 ns.length (L2 ns)] (G2 M 18 0 0 (-1)) (.int .i64 M.ins.length) O (A7 O) (λw ho=>BH gm _ z36 M 18 0 0 (-1) 0 w (by omega) ho) O O λz38=>I9 O<|E5 O<|B2 2 O<|E6 O<|E6 O<|A5 O<|D4<|JN O O O O O λw9 ho9=>?_;exact⟨gc,z38.iv,z38.vv,z38.high,_,rfl,_,_,ho9.sublist (.cons _ (.cons _ (.cons _ (.cons_cons _ (.cons _ (.cons_cons _ (.cons_cons _ (Ea _))))))))⟩
end Go.Proofs.YtjkhokkdgfbhcaaGreatDoor
namespace Go.Proofs.YtjkhokkdgfbhcaaGreatDoor
open Go.RowKit Tryz
section
attribute [local irreducible] F8 D3 Exit.then Exit.inBlock Exit.noGoto wpQuiet Calls fin At G9 L3 L7 RQ R9
theorem vS{B:Bl}(hW:WB B)(hs:B.size<=512)(v:Value)(w:B6)(ns:List F2)(hns:ns=N0 B 0)(he:(R3 B).e≠0)(ho:B7 (J1 w [.row v ND 8 ns.length (L2 ns)]) [.row v ND 8 ns.length (L2 ns)] w):
  Calls prog 31 #[.agg #[v,.int .i64 (B.ix 0)]] w λe w'=>e=.returned (.tuple #[.pointer none,.int .i64 (R3 B).e,.int .i64 (R3 B).at_])/\O0 w (λb=>b∈F1 [.row v ND 8 ns.length (L2 ns)]) [] w':=by
 refine G7 ho func31 O ntmps31 O ?_;have cS:∀w,B7 (J1 w [.row v ND 8 ns.length (L2 ns)]) [.row v ND 8 ns.length (L2 ns)] w->Calls prog 62 #[.agg #[v,.int .i64 (B.ix 0)]] w λe w'=>∃u:Value,e=.returned (.tuple #[.slice none 0 0,.int .i64 0,.int .i64 (R3 B).e,.int .i64 (R3 B).at_])/\O0 w (λb=>b∈F1 [.row v ND 8 ns.length (L2 ns)]) ([.row v ND 8 ns.length (L2 ns)]++[.row u S7 1 ns.length (Ao (R3 B).C0)]) w':=λw ho=>(aR hW hs v w ns hns ho).mono λe w' ⟨u,h1,h2,h3⟩=>⟨u,by rw[h2,if_neg he],h3⟩
 generalize R3 B=S at*;exact A3<|F0 (cs:= #[v,.int .i64 (B.ix 0)]) O λgp=>E6 O<|E6 O<|A5 O<|A3<|G6 0 O O<|W7 (ι:=Value) [.B1 gp p8 #[v,.int .i64 (B.ix 0)]] [.row v ND 8 ns.length (L2 ns)] (λu=>.tuple #[.slice none 0 0,.int .i64 0,.int .i64 S.e,.int .i64 S.at_]) (λu=>[.row v ND 8 ns.length (L2 ns)]++[.row u S7 1 ns.length (Ao S.C0)]) O (A7 O) (λw _ ho=>cS w ho) O O λsv=>A4 O<|G1 O<|G1 O<|G1 O<|G1 O<|E6 O<|E6 O<|E6 O<|A5 O<|B5<|A4 O<|J3 O<|A6<|E7 O (by exact he)<|B4 O<|A4 O<|E6 O<|E6 O<|A5 O<|D4<|K0<|JN O O O O O λw9 ho9=>⟨rfl,_,_,ho9.sublist (Ea _)⟩
def TJ(gc:Nat)(u iv vv:Value)(f B8 hi:Int)(M:Cd):List C2:=[.B1 gc Dn #[u,.int .i64 f,iv,vv,.int .i64 B8,.int .i64 hi],.row iv Q1 4 M.ins.length (Er M.ins),.row vv I4 3 M.G5.length (P8 M.G5)]
def Cw(B:Bl):Cd:=G2 (T0 (R3 B).C0 B 0 ⟨[],[]⟩) 18 0 0 (-1)
theorem kG{s:C9}{B:Bl}(hp:EO s=some (B.ix 0,N0 B 0))(hW:WB B)(hs:B.size<=512)(he:(R3 B).e=0)(w:B6):
  Calls prog 17 #[.string (bs s)] w λe w'=>∃q:Nat×Value×Value×Value×Int,e=.returned (.tuple #[.pointer (some ⟨q.1,0,none⟩),.int .i64 0,.int .i64 (-1)])/\O0 w (λ_=>False) (TJ q.1 q.2.1 q.2.2.1 q.2.2.2.1 (B.ix 0) (R3 B).B8 q.2.2.2.2 (Cw B)) w':=by
 refine J5 func17 O ntmps17 O<|A3<|E6 O<|E6 O<|A5 O<|B4 O<|Ib (f:=5) (ι:=Int) (e:=ND) (sz:=8) (m:=(N0 B 0).length) (xs:=L2 (N0 B 0)) (λp v=>.tuple #[.agg #[v,.int .i64 (B.ix 0)],.int .i64 0,.int .i64 p]) (A7 O) (λw ho=>(Pt s w).mono ?_) O O (λp10 v10=>IB (i:=0) (e:=ND) (sz:=8) (m:=(N0 B 0).length) (v:=v10) (xs:=L2 (N0 B 0)) O (λhv10=>?_));rotate_left;refine A4 O<|G1 O<|G1 O<|G1 O<|E3 Nl O λgz0=>q8 (i:=0) (vs:= #[v10,.int .i64 (B.ix 0)]) (by kernel_rfl) O O (Kz hv10 rfl) O O<|E6 O<|A5 O<|B5<|A4 O<|J3 O<|A6<|E0 O (by decide)<|D6<|A3<|G6 0 (cs:= #[v10,.int .i64 (B.ix 0)]) O O<|W7 (ι:=Nat×Value×Value×Value×Int) [.B1 gz0 p8 #[v10,.int .i64 (B.ix 0)]] [.row v10 ND 8 (N0 B 0).length (L2 (N0 B 0))] (λq=>.tuple #[.pointer (some ⟨q.1,0,none⟩),.int .i64 0,.int .i64 (-1)]) (λq=>TJ q.1 q.2.1 q.2.2.1 q.2.2.2.1 (B.ix 0) (R3 B).B8 q.2.2.2.2 (Cw B)) O (A7 O) (λw _ ho=>(yJ hW hs v10 w _ rfl he ho).mono λe w' ⟨gc,iv,vv,hi,u,h1,h2⟩=>⟨(gc,u,iv,vv,hi),h1,h2⟩) O O λq19=>G1 O<|G1 O<|G1 O<|E6 O<|E6 O<|A5 O<|D4<|JN O O O O O λw9 ho9=>?_;rotate_left
 ·rintro e w' ⟨v,f,c,p,rfl,h1,h2⟩;rw[hp] at h2;obtain⟨rfl,rfl,h3,_⟩:=h2;exact⟨p,v,rfl,h1,h3⟩
 exact⟨q19,rfl,_,_,ho9.sublist (L9 ..)⟩
theorem qX{s:C9}{B:Bl}(hp:EO s=some (B.ix 0,N0 B 0))(hW:WB B)(hs:B.size<=512)(he:(R3 B).e≠0)(w:B6):
  I6 17 #[.string (bs s)] w (.tuple #[.pointer none,.int .i64 (R3 B).e,.int .i64 (R3 B).at_]):=by
 refine J5 func17 O ntmps17 O<|A3<|E6 O<|E6 O<|A5 O<|B4 O<|Ib (f:=5) (ι:=Int) (e:=ND) (sz:=8) (m:=(N0 B 0).length) (xs:=L2 (N0 B 0)) (λp v=>.tuple #[.agg #[v,.int .i64 (B.ix 0)],.int .i64 0,.int .i64 p]) (A7 O) (λw ho=>(Pt s w).mono ?_) O O (λp10 v10=>IB (i:=0) (e:=ND) (sz:=8) (m:=(N0 B 0).length) (v:=v10) (xs:=L2 (N0 B 0)) O (λhv10=>?_));rotate_left;refine A4 O<|G1 O<|G1 O<|G1 O<|E3 Nl O λgz0=>q8 (i:=0) (vs:= #[v10,.int .i64 (B.ix 0)]) (by kernel_rfl) O O (Kz hv10 rfl) O O<|E6 O<|A5 O<|B5<|A4 O<|J3 O<|A6<|E0 O (by decide)<|D6<|A3<|G6 0 (cs:= #[v10,.int .i64 (B.ix 0)]) O O<|W7 (ι:=Unit) [.B1 gz0 p8 #[v10,.int .i64 (B.ix 0)]] [.row v10 ND 8 (N0 B 0).length (L2 (N0 B 0))] (λ_=>.tuple #[.pointer none,.int .i64 (R3 B).e,.int .i64 (R3 B).at_]) (λ_=>[]) O (A7 O) (λw _ ho=>(vS hW hs v10 w _ rfl he ho).mono λe w' ⟨h1,h2⟩=>⟨(),h1,h2⟩) O O λ_=>G1 O<|G1 O<|G1 O<|E6 O<|E6 O<|A5 O<|D4<|JN O O O O O λw9 ho9=>?_;rotate_left
 ·rintro e w' ⟨v,f,c,p,rfl,h1,h2⟩;rw[hp] at h2;obtain⟨rfl,rfl,h3,_⟩:=h2;exact⟨p,v,rfl,h1,h3⟩
 exact⟨rfl,ho9.plain⟩
theorem yC{s:C9}(hp:EO s=none)(w:B6):
  Calls prog 17 #[.string (bs s)] w λe w'=>∃q:Int×Int,e=.returned (.tuple #[.pointer none,.int .i64 q.1,.int .i64 q.2])/\Below w.heap.size w w'/\(q.1≠0/\(q.1=5\/s.length<=4096)):=by
 refine J5 func17 O ntmps17 O<|A3<|E6 O<|E6 O<|A5 O<|B4 O<|Qs (f:=5) (ι:=Int×Int) (λq=>q.1≠0/\(q.1=5\/s.length<=4096)) (λq=>.tuple #[.agg #[.slice none 0 0,.int .i64 0],.int .i64 q.1,.int .i64 q.2]) (A7 O) (λw ho=>(Pt s w).mono ?_) O O (λq10 hq10=>?_);rotate_left;refine A4 O<|G1 O<|G1 O<|G1 O<|E3 Nl O λgz0=>E8 0 (#[.slice none 0 0,.int .i64 0]) O<|E6 O<|A5 O<|B5<|A4 O<|J3 O<|A6<|E7 O (by exact hq10.1)<|B4 O<|A4 O<|E6 O<|E6 O<|A5 O<|D4<|K0<|JN O O O O O λw9 ho9=>?_;rotate_left
 ·rintro e w' ⟨v,f,c,p,rfl,h1,h2⟩;rw[hp] at h2;obtain⟨h3,h4,rfl,rfl⟩:=h2;exact⟨(c,p),rfl,h1,h3,h4⟩
 ·exact⟨q10,rfl,ho9.plain,hq10⟩
theorem pR(gc:Nat)(u iv vv:Value)(f B8 hi:Int)(w:B6)(h:w.heap[gc]?=some (.cells #[u,.int .i64 f,iv,vv,.int .i64 B8,.int .i64 hi] Dn)):
  I6 36 #[.pointer (some ⟨gc,0,none⟩)] w (.int .i64 B8):=by
 refine J5 func36 O ntmps36 O ?_;have hc:w.cell? ⟨gc,4,none⟩=some (.int .i64 B8):=by rw[cell_of_row w gc 4 _ Dn (0,0) h];rfl
 exact A3<|A5 O<|B4 O<|E5 O<|D9 O<|B9 (AI (v:=.int .i64 B8) O (λw' ho=>Below.o8 ho.plain hc)) O<|A5 O<|D4<|E4 O λw9 ho9=>⟨rfl,ho9.plain⟩
structure Hd(w:World)(gc:Nat)(B8:Int)(M:Cd):Prop where
 B1:∃u iv vv f hi,w.heap[gc]?=some (.cells #[u,.int .i64 f,iv,vv,.int .i64 B8,.int .i64 hi] Dn)/\Hg P4 4 w iv M.ins/\Hg D8 3 w vv M.G5
theorem B7.nX{C:I3}{H A:List C2}{w:B6}{gc:Nat}{u iv vv:Value}{f B8 hi:Int}{M:Cd}(ho:B7 C H w)(i:Nat)(h0:H[i]?=some (.B1 gc Dn #[u,.int .i64 f,iv,vv,.int .i64 B8,.int .i64 hi]))(h1:H[i+1]?=some (.row iv Q1 4 M.ins.length (Er M.ins)))(h2:H[i+2]?=some (.row vv I4 3 M.G5.length (P8 M.G5))):Hd w gc B8 M:=
 ⟨u,iv,vv,f,hi,ho.get h0,ho.Qw VH h1,ho.Qw Hh h2⟩
theorem wO(gc:Nat)(B8:Int)(M:Cd)(i:Nat)(x:f9)(w:B6)(h:Hd w gc B8 M)(hx:M.ins[i]?=some x):
  I6 38 #[.pointer (some ⟨gc,0,none⟩),.int .i64 i] w (.tuple #[u0 x,.bool true]):=by
 obtain⟨u,iv,vv,f,hi,hb,h1,h2⟩:=h;refine J5 func38 O ntmps38 O ?_;have hil:i<M.ins.length:=(N5.1 hx).1;have hc:w.cell? ⟨gc,2,none⟩=some iv:=by rw[cell_of_row w gc 2 _ Dn (0,0) hb];rfl
 rcases h1 with⟨_,h0⟩|⟨gb,c,rfl,hcell⟩
 ·rw[h0] at hil;simp at hil
 have hc2:=hcell i x hx;exact A3<|E3 Tryz.zeroValue120 O λgz0=>A5 O<|B5<|A4 O<|H9 O<|A4 O<|F9 8 false O (decide_eq_false (by omega))<|B3 O<|A4 O<|B3 O<|A4 O<|B3 O<|E5 O<|B3 O<|D9 O<|B3 O<|B9 (AI (v:=.slice (some ⟨gb,0,none⟩) M.ins.length c) O (λw' ho=>Below.o8 ho.plain hc)) O<|B3 O<|d1 O<|B3 O<|O1 O<|G4 O<|A6<|E0 O (by omega)<|D6<|B4 O<|E5 O<|D9 O<|B9 (AI (v:=.slice (some ⟨gb,0,none⟩) M.ins.length c) O (λw' ho=>Below.o8 ho.plain hc)) O<|A4 O<|Q4 (j:=i) O hil<|U6 (vs:=P4 x) O (λw' ho j u hu=>Below.o8 ho.plain (hc2 j u hu))<|E8 0 ((P4 x).toArray) O<|A5 O<|D4<|O5 0 O λw9 ho9=>⟨rfl,ho9.plain⟩
theorem uO(gc:Nat)(B8:Int)(M:Cd)(i:Nat)(x:Vl)(w:B6)(h:Hd w gc B8 M)(hx:M.G5[i]?=some x):
  I6 77 #[.pointer (some ⟨gc,0,none⟩),.int .i64 i] w (.tuple #[O6 x,.bool true]):=by
 obtain⟨u,iv,vv,f,hi,hb,h1,h2⟩:=h;refine J5 func77 O ntmps77 O ?_;have hil:i<M.G5.length:=(N5.1 hx).1;have hc:w.cell? ⟨gc,3,none⟩=some vv:=by rw[cell_of_row w gc 3 _ Dn (0,0) hb];rfl
 rcases h2 with⟨_,h0⟩|⟨gb,c,rfl,hcell⟩
 ·rw[h0] at hil;simp at hil
 have hc2:=hcell i x hx;exact A3<|E3 P7 O λgz0=>A5 O<|B5<|A4 O<|H9 O<|A4 O<|F9 8 false O (decide_eq_false (by omega))<|B3 O<|A4 O<|B3 O<|A4 O<|B3 O<|E5 O<|B3 O<|D9 O<|B3 O<|B9 (AI (v:=.slice (some ⟨gb,0,none⟩) M.G5.length c) O (λw' ho=>Below.o8 ho.plain hc)) O<|B3 O<|d1 O<|B3 O<|O1 O<|G4 O<|A6<|E0 O (by omega)<|D6<|B4 O<|E5 O<|D9 O<|B9 (AI (v:=.slice (some ⟨gb,0,none⟩) M.G5.length c) O (λw' ho=>Below.o8 ho.plain hc)) O<|A4 O<|Q4 (j:=i) O hil<|U6 (vs:=D8 x) O (λw' ho j u hu=>Below.o8 ho.plain (hc2 j u hu))<|E8 0 ((D8 x).toArray) O<|A5 O<|D4<|O5 0 O λw9 ho9=>⟨rfl,ho9.plain⟩
end
end Go.Proofs.YtjkhokkdgfbhcaaGreatDoor
namespace Go.Proofs.YtjkhokkdgfbhcaaGreatDoor
structure F5 where
 key:List UInt8
 kind:Int
 num:Int
 K4:List UInt8
 F6:Int
 deriving DecidableEq
instance:Inhabited F5:=⟨⟨[],0,0,[],0⟩⟩
def CK(a b:F5):Bool:=Op.bytesLess a.key b.key
def Up(xs:List F5):Prop:=xs.Pairwise λa b=>CK a b=true
def JT(out:List F5)(x:F5):List F5:=out.filter (λa=>CK a x)++[x]++out.filter (λa=>CK x a)
def Lm(l:List F5):List F5:=l.foldl JT []
theorem WN{a b c:F5}(h1:CK a b=true)(h2:CK b c=true):CK a c=true:=RA _ _ _ h1 h2
theorem Wk{a b:F5}(h1:CK a b=true)(h2:CK b a=true):False:=by
 have:=WN h1 h2;rw[CK,Qz] at this;cases this
theorem iO{a b:F5}(h:a.key≠b.key):CK a b=true\/CK b a=true:=by
 have:=Qe a.key b.key;unfold CK;cases hb:Op.bytesLess b.key a.key
 ·left;rw[this,hb];simp;exact λh'=>h h'.symm
 ·right;rfl
def Gu(l:List F5):List (List UInt8):=l.map (·.key)
theorem gQ(x:F5):∀out:List F5,(∀a∈out,a.key≠x.key)->(out.filter (λa=>CK a x)++out.filter (λa=>CK x a)).Perm out
 |[],_=>List.Perm.refl _
 |a::out,h=>by
  have ih:=gQ x out λb hb=>h b (Cj _ hb);rcases iO (h a (j8 ..)) with h1|h1
  ·have h2:CK x a=false:=by
    cases hx:CK x a
    ·rfl
    ·exact(Wk h1 hx).elim
   simp only[YU,h1,h2,if_true,Fb,if_false,GP];exact ih.cons a
  ·have h2:CK a x=false:=by
    cases hx:CK a x
    ·rfl
    ·exact(Wk h1 hx).elim
   simp only[YU,h1,h2,if_true,Fb,if_false];exact(Nr).trans (ih.cons a)
theorem ag8{out:List F5}{x:F5}(h:∀a∈out,a.key≠x.key):(JT out x).Perm (x::out):=by
 unfold JT;rw[Q2];exact(Nr).trans ((gQ x out h).cons x)
theorem as0{out:List F5}{x:F5}(h:Up out):Up (JT out x):=by
 unfold JT Up;rw[Q2];refine List.pairwise_append.2 ⟨List.Pairwise.sublist List.filter_sublist h,List.pairwise_append.2 ⟨by simp,List.Pairwise.sublist List.filter_sublist h,λa ha b hb=>?_⟩,λa ha b hb=>?_⟩
 ·obtain rfl:a=x:=by simpa using ha
  exact(Pi.1 hb).2
 ·have h1:=(Pi.1 ha).2;rcases q0.1 hb with hb|hb
  ·obtain rfl:b=x:=by simpa using hb
   exact h1
  ·exact WN h1 (Pi.1 hb).2
theorem XO:∀(l out:List F5),(Gu (out++l)).Nodup->Up out->Up (l.foldl JT out)/\(l.foldl JT out).Perm (out++l)
 |[],out,_,h=>⟨h,by simp⟩
 |x::l,out,hn,h=>by
  have hk:∀a∈out,a.key≠x.key:=λa ha e=>by
   rw[Gu,Bu,FB] at hn;exact hn.2.2 a.key (FC.2 ⟨a,ha,rfl⟩) x.key (FC.2 ⟨x,j8 ..,rfl⟩) e
  have hp:=ag8 hk;have hp2:(JT out x++l).Perm (out++x::l):=(hp.append_right l).trans (Nr.symm);have ih:=XO l (JT out x) ((hp2.map _).nodup_iff.2 hn) (as0 h);exact⟨ih.1,ih.2.trans hp2⟩
theorem kB{l:List F5}(h:(Gu l).Nodup):Up (Lm l):=(XO l [] (by simpa using h) List.Pairwise.nil).1
theorem WV{l:List F5}(h:(Gu l).Nodup):(Lm l).Perm l:=by simpa[Lm] using(XO l [] (by simpa using h) List.Pairwise.nil).2
theorem jE:∀{a b:List F5},Up a->Up b->a.Perm b->a=b
 |[],b,_,_,h=>by rw[h.nil_eq]
 |x::a,[],_,_,h=>by cases h.eq_nil
 |x::a,y::b,ha,hb,h=>by
  have ha':=Pn.1 ha;have hb':=Pn.1 hb;have hxy:x=y:=by
   have h1:x∈y::b:=h.mem_iff.1 (j8 ..);have h2:y∈x::a:=h.mem_iff.2 (j8 ..);rcases BD.1 h1 with e|h1
   ·exact e
   ·rcases BD.1 h2 with e|h2
    ·exact e.symm
    ·exact(Wk (ha'.1 y h2) (hb'.1 x h1)).elim
  subst hxy;rw[jE ha'.2 hb'.2 (List.Perm.cons_inv h)]
def hd(l:List F5):List UInt8:=match l with
 |x::_=>x.key
 |[]=>[]
def Bn(fs:List (List F5)):Nat->Option Nat
 |0=>none
 |b+1=>match Bn fs b with
  |none=>if(fs.getD b [])=[] then none else some b
  |some c=>if(fs.getD b [])≠[]/\Op.bytesLess (hd (fs.getD b [])) (hd (fs.getD c []))=true then some b else some c
theorem Vk(fs:List (List F5)):∀n,Bn fs n=none->∀b,b<n->fs.getD b []=[]
 |0,_,b,hb=>absurd hb (by omega)
 |n+1,h,b,hb=>by
  unfold Bn at h;split at h
  ·rename_i hn;split at h
   ·rename_i he;by_cases e:b=n
    ·rw[e];exact he
    ·exact Vk fs n hn b (by omega)
   ·cases h
  ·split at h<;>cases h
theorem ax5{a b c:C9}(h1:Op.bytesLess b a=false)(h2:Op.bytesLess c b=false):Op.bytesLess c a=false:=by
 cases h:Op.bytesLess c a
 ·rfl
 ·have:=Qe c b;rw[h2] at this;have h3:Op.bytesLess b c=true\/b=c:=by
   cases hb:Op.bytesLess b c
   ·rw[hb] at this;simp at this;exact .inr this
   ·exact .inl rfl
  rcases h3 with h3|h3
  ·rw[RA _ _ _ h3 h] at h1;cases h1
  ·rw[h3,h] at h1;cases h1
theorem Uf(fs:List (List F5)):∀n c,Bn fs n=some c->c<n/\fs.getD c []≠[]/\∀b,b<n->fs.getD b []≠[]->Op.bytesLess (hd (fs.getD b [])) (hd (fs.getD c []))=false
 |0,c,h=>by cases h
 |n+1,c,h=>by
  unfold Bn at h;split at h
  ·rename_i hn;split at h
   ·cases h
   ·rename_i he;cases h;refine⟨by omega,he,λb hb hne=>?_⟩;by_cases e:b=n
    ·rw[e];exact Qz _
    ·exact absurd (Vk fs n hn b (by omega)) hne
  ·rename_i c0 hn;obtain⟨i1,i2,i3⟩:=Uf fs n c0 hn;split at h
   ·rename_i he;cases h;refine⟨by omega,he.1,λb hb hne=>?_⟩;by_cases e:b=n
    ·rw[e];exact Qz _
    ·refine ax5 ?_ (i3 b (by omega) hne);cases hx:Op.bytesLess (hd (fs.getD c0 [])) (hd (fs.getD n []))
     ·rfl
     ·have:=RA _ _ _ he.2 hx;rw[Qz] at this;cases this
   ·rename_i he;cases h;refine⟨by omega,i2,λb hb hne=>?_⟩;by_cases e:b=n
    ·subst e;cases hx:Op.bytesLess (hd (fs.getD b [])) (hd (fs.getD c []))
     ·rfl
     ·exact absurd ⟨hne,hx⟩ he
    ·exact i3 b (by omega) hne
def QG(fs:List (List F5))(c:Nat):List (List F5):=fs.set c (fs.getD c []).tail
def w4:Nat->List (List F5)->List F5
 |0,_=>[]
 |n+1,fs=>match Bn fs fs.length with
  |none=>[]
  |some c=>match fs.getD c [] with
   |x::_=>x::w4 n (QG fs c)
   |[]=>[]
theorem Wz:∀(fs:List (List F5)) (c:Nat) (x:F5) (r:List F5),fs[c]?=some (x::r)->fs.flatten.Perm (x::(fs.set c r).flatten)
 |[],c,x,r,h=>by simp at h
 |f::fs,0,x,r,h=>by
  simp at h;subst h;simp
 |f::fs,c+1,x,r,h=>by
  have ih:=Wz fs c x r (by simpa using h);simp only[YP,Ra];exact(ih.append_left f).trans Nr
theorem getD_some{fs:List (List F5)}{c:Nat}(h:fs.getD c []≠[]):∃x r,fs[c]?=some (x::r)/\fs.getD c []=x::r:=by
 rw[W6] at h⊢;cases hc:fs[c]? with
 |none=>rw[hc] at h;simp at h
 |some l=>
  rw[hc] at h;simp at h;cases l with
  |nil=>exact absurd rfl h
  |cons x r=>exact⟨x,r,rfl,rfl⟩
theorem all_nil{fs:List (List F5)}(h:Bn fs fs.length=none):fs.flatten=[]:=by
 have:=Vk fs fs.length h;rw[List.flatten_eq_nil_iff];intro l hl;obtain⟨i,hi,rfl⟩:=ML hl;have:=this i hi;rwa[W6,T8 hi] at this
theorem Yy:∀(n:Nat) (fs:List (List F5)),fs.flatten.length<=n->(∀f∈fs,Up f)->(Gu fs.flatten).Nodup->Up (w4 n fs)/\(w4 n fs).Perm fs.flatten
 |0,fs,hn,_,_=>by
  have:fs.flatten=[]:=Kh (by omega);rw[this];exact⟨List.Pairwise.nil,List.Perm.refl _⟩
 |n+1,fs,hn,hu,hk=>by
  unfold w4;cases hl:Bn fs fs.length with
  |none=>rw[all_nil hl];exact⟨List.Pairwise.nil,List.Perm.refl _⟩
  |some c=>
   obtain⟨h1,h2,h3⟩:=Uf fs fs.length c hl;obtain⟨x,r,e1,e2⟩:=getD_some h2;simp only[e2];have hrest:QG fs c=fs.set c r:=by rw[QG,e2];rfl
   rw[hrest];have hp:=Wz fs c x r e1;have hlen:=hp.length_eq;simp only[T3] at hlen;have hk2:=(hp.map F5.key).nodup_iff.1 hk;simp only[Rd,Pb] at hk2;have hmem:x::r∈fs:=CP e1;have ih:=Yy n (fs.set c r) (by omega) (λf hf=>by
    rcases mN hf with hf|rfl
    ·exact hu f hf
    ·exact(Pn.1 (hu _ hmem)).2) hk2.2
   refine⟨Pn.2 ⟨λy hy=>?_,ih.1⟩,(ih.2.cons x).trans hp.symm⟩;have hy2:y∈(fs.set c r).flatten:=ih.2.mem_iff.1 hy;have hne:x.key≠y.key:=λe=>hk2.1 (FC.2 ⟨y,hy2,e.symm⟩);obtain⟨f,hf,hyf⟩:=YV.1 hy2;rcases mN hf with hf|rfl
   ·obtain⟨b,hb,rfl⟩:=ML hf;have hbn:fs.getD b []=fs[b]:=by rw[W6,T8 hb];rfl
    have hbne:fs.getD b []≠[]:=by rw[hbn];exact List.ne_nil_of_mem hyf
    have h4:=h3 b hb hbne;rw[e2,hbn] at h4;have hub:=hu _ hf;cases hfb:fs[b] with
    |nil=>rw[hfb] at hyf;cases hyf
    |cons z t=>
     rw[hfb] at h4 hyf hub;have h5:Op.bytesLess y.key x.key=false:=by
      rcases BD.1 hyf with rfl|hyt
      ·exact h4
      ·cases hx:Op.bytesLess y.key x.key
       ·rfl
       ·have h6:=(Pn.1 hub).1 y hyt;have h4':Op.bytesLess z.key x.key=false:=h4;rw[RA _ _ _ h6 hx] at h4';cases h4'
     rcases iO hne with h|h
     ·exact h
     ·rw[CK,h5] at h;cases h
   ·exact(Pn.1 (hu _ hmem)).1 y hyf
theorem rL(fs:List (List F5))(n:Nat)(hn:fs.flatten.length<=n)(hu:∀f∈fs,Up f)(hk:(Gu fs.flatten).Nodup):w4 n fs=Lm fs.flatten:=by
 have h:=Yy n fs hn hu hk;exact jE h.1 (kB hk) (h.2.trans (WV hk).symm)
theorem jR:∀{l:List F5},Up l->(Gu l).Nodup
 |[],_=>No
 |x::l,h=>by
  have h':=Pn.1 h;refine Pb.2 ⟨λhm=>?_,jR h'.2⟩;obtain⟨y,hy,e⟩:=FC.1 hm;have:=h'.1 y hy;rw[CK,e,Qz] at this;cases this
theorem mD(g:List UInt8->Nat):∀(fs:List (List F5)) (k:Nat),(∀f∈fs,Up f)->(∀b x,x∈fs.getD b []->g x.key=k+b)->(Gu fs.flatten).Nodup
 |[],_,_,_=>by simp[Gu]
 |f::fs,k,hu,hg=>by
  have ih:=mD g fs (k+1) (λf hf=>hu f (Cj _ hf)) λb x hx=>by
   have:=hg (b+1) x (by simpa[W6] using hx);omega
  have h0:(Gu f).Nodup:=jR (hu f (j8 ..));rw[YP,Gu,Bu,FB];refine⟨h0,ih,λa ha b hb e=>?_⟩;obtain⟨x,hx,rfl⟩:=FC.1 ha;obtain⟨y,hy,rfl⟩:=FC.1 hb;obtain⟨l,hl,hyl⟩:=YV.1 hy;obtain⟨i,hi,rfl⟩:=ML hl;have h1:=hg 0 x (by simpa[W6] using hx);have h2:=hg (i+1) y (by simp[W6,T8 hi];exact hyl);rw[e] at h1;omega
end Go.Proofs.YtjkhokkdgfbhcaaGreatDoor
namespace Go.Proofs.YtjkhokkdgfbhcaaGreatDoor
open Go.RowKit Tryz
section
def c6(x:F5):List Value:=[.string (bs x.key),.int .i64 x.kind,.int .i64 x.num,.string (bs x.K4),.int .i64 x.F6]
def Ah(xs:List F5):List Value:=xs.flatMap c6
theorem JK(x:F5):(c6 x).length=5:=rfl
theorem TH:∀xs:List F5,(Ah xs).length=xs.length*5
 |[]=>rfl
 |x::xs=>by
  have:=TH xs;simp only[Ah,DL,J8,JK,T3] at this⊢;omega
theorem TN:∀(xs:List F5) (i:Nat) (h:i<xs.length) (j:Nat),j<5->(Ah xs)[i*5+j]?=(c6 xs[i])[j]?
 |x::xs,0,_,j,hj=>by
  simp only[Ah,DL,Nat.zero_mul,Y3,List.getElem_cons_zero];rw[Fe (by rw[JK];exact hj)]
 |x::xs,i+1,h,j,hj=>by
  have ih:=TN xs i (by simpa using h) j hj;simp only[Ah,DL,List.getElem_cons_succ] at ih⊢;rw[j4 (by rw[JK];omega),JK,show(i+1)*5+j-5=i*5+j by omega];exact ih
theorem Ug(x:F5):∀u∈c6 x,u.oneCell'=true:=by
 intro u hu;simp only[c6,BD,YI,or_false] at hu;rcases hu with rfl|rfl|rfl|rfl|rfl<;>rfl
def BQ(w:World)(v:Value)(xs:List F5):Prop:=(v=.slice none 0 0/\xs=[])\/
 ∃A c,v=.slice (some A) xs.length c/\xs.length<=c/\∀j u,(Ah xs)[j]?=some u->w.cell? (A.add j)=some u
theorem BQ.K6{w w':B6}{v:Value}{xs:List F5}(h:BQ w v xs)(hb:Below w.heap.size w w'):BQ w' v xs:=
 h.imp id λ⟨A,c,h1,h0,h2⟩=>⟨A,c,h1,h0,λj u hu=>Below.o8 hb (h2 j u hu)⟩
theorem BQ.len{w:B6}{v:Value}{xs:List F5}(h:BQ w v xs):∃A c,v=.slice A xs.length c:=by
 rcases h with⟨rfl,rfl⟩|⟨A,c,rfl,_,_⟩
 ·exact⟨none,0,rfl⟩
 ·exact⟨_,c,rfl⟩
theorem BQ.one{w:B6}{v:Value}{xs:List F5}(h:BQ w v xs):v.oneCell'=true:=by
 obtain⟨A,c,rfl⟩:=h.len;rfl
def FF(w:World)(gb o:Nat)(x:F5):Prop:=∀j u,(c6 x)[j]?=some u->w.cell? ⟨gb,o+j,none⟩=some u
theorem BQ.form{w:B6}{v:Value}{xs:List F5}(h:BQ w v xs)(hne:0<xs.length):∃gb o c,v=.slice (some ⟨gb,o,none⟩) xs.length c/\xs.length<=c/\gb<w.heap.size/\∀i (hi:i<xs.length),FF w gb (o+i*5) xs[i]:=by
 rcases h with⟨_,rfl⟩|⟨⟨gb,o,sp⟩,c,rfl,hc,h2⟩
 ·simp at hne
 ·have h0:=h2 0 _ ((TN xs 0 hne 0 (by omega)).trans rfl);have hsp:sp=none:=by
   cases sp with
   |none=>rfl
   |some s=>simp[Addr.add,World.cell?] at h0;split at h0<;>simp at h0
  subst hsp;refine⟨gb,o,c,rfl,hc,World.block_lt_of_cell? _ _ h0,λi hi j u hu=>?_⟩;have hj:j<5:=by have:=(N5.1 hu).1;simpa[JK] using this
  have:=h2 (i*5+j) u ((TN xs i hi j hj).trans hu);rwa[Fi,<-EZ] at this
theorem FF.K6{w w':B6}{gb o:Nat}{x:F5}(h:FF w gb o x)(hb:Below w.heap.size w w'):FF w' gb o x:=λj u hu=>Below.o8 hb (h j u hu)
theorem FF.agg{w:B6}{gb o:Nat}{x:F5}(h:FF w gb o x):∀j v,(c6 x)[j]?=some v->w.cell? ((⟨gb,o,none⟩:Addr).add j)=some v:=λj v hv=>by rw[Fi];exact h j v hv
theorem FF.key{w:B6}{gb o:Nat}{x:F5}(h:FF w gb o x):w.cell? ⟨gb,o+0,none⟩=some (.string (bs x.key)):=h 0 _ rfl
theorem aw0{w:B6}{b e n:Nat}{v:Value}{xs:List F5}(h:w.ownsRow b e 5 v n (Ah xs)):BQ w v xs:=by
 have hl:xs.length=n:=by have:=h.1;rw[TH] at this;omega
 rcases h.2 with⟨rfl,h0⟩|⟨g,cap,cur,rfl,h1,hg,h2,h3,h4,h5⟩
 ·exact .inl ⟨rfl,Kh (by omega)⟩
 ·refine .inr ⟨⟨g,0,none⟩,cap,by rw[hl],by omega,λj u hu=>?_⟩;rw[Fi,Y3,cell_of_row w g j cur e (0,0) hg];rw[<-h5,MC] at hu;split at hu
  ·simpa using hu
  ·cases hu
theorem B7.Ln{w0 w b:B6}{M F:Nat->Prop}{D:List Mk}{H:List C2}{v:Value}{xs:List F5}(h:B7 ⟨w0,λ_=>False,M,b,F,D⟩ H w)(hB:BQ w0 v xs):BQ w v xs:=hB.K6 h.plain
section
variable{P:Program}{n:Nat}{E:List (Nat×Value)}{C:I3}{H:List C2}{t:TypeId}
end
attribute [local irreducible] F8 D3 Exit.then Exit.inBlock Exit.noGoto wpQuiet Calls fin At G9 L3 L7 RQ
theorem jK(l:C9)(w:B6):I6 134 #[.string (bs l)] w (.string (bs (l.take 60))):=by
 refine J5 func134 O ntmps134 O<|A3<|A5 O<|B5<|A4 O<|n4 O<|Q7 O<|A6<|C4 O (λz0=>?_) (λz0=>?_);refine B4 O<|B9 (NW (by kernel_rfl) O O (by omega)) O<|A5 O<|D4<|K0<|E4 O λw9 ho9=>?_;rotate_left;refine D6<|B4 O<|A5 O<|D4<|E4 O λw9 ho9=>?_;rotate_left
 ·exact⟨rfl,ho9.plain⟩
 ·exact⟨by rw[CQ (by omega)],ho9.plain⟩
def Cb(x:F5):F5:=⟨x.key.take 60,x.kind,x.num,x.K4.take 200,x.F6⟩
def Gr(x:F5):Value:=.agg (c6 x).toArray
theorem eU(x:F5)(w:B6):I6 92 #[Gr x] w (Gr (Cb x)):=by
 refine J5 func92 O ntmps92 O ?_;by_cases h:200<x.K4.length
 ·exact A3<|F0 O λgz0=>E3 IE O λgz1=>I0<|B2 1 O<|F3 134 (A7 O) (λw ho=>jK x.key w) O<|D9 O<|N4 1 O<|A6<|B5<|D9 O<|B2 1 O<|n4 O<|Q7 O<|A6<|E7 O (by omega)<|C5<|D9 O<|B2 1 O<|B9 (NW (by kernel_rfl) O O (by omega)) O<|D9 O<|D9 O<|N4 1 O<|I0<|G6 1 O O<|E8 0 _ O<|A6<|D4<|XF (i:=0) O O O (by kernel_rfl) O λw9 ho9=>⟨rfl,ho9.plain⟩
 ·have e:Cb x=⟨x.key.take 60,x.kind,x.num,x.K4,x.F6⟩:=by rw[Cb,CQ (l:=x.K4) (by omega)]
  rw[e];exact A3<|F0 O λgz0=>E3 IE O λgz1=>I0<|B2 1 O<|F3 134 (A7 O) (λw ho=>jK x.key w) O<|D9 O<|N4 1 O<|A6<|B5<|D9 O<|B2 1 O<|n4 O<|Q7 O<|A6<|E0 O (by omega)<|D6<|A3<|G6 1 O O<|E8 0 _ O<|A6<|D4<|XF (i:=0) O O O (by kernel_rfl) O λw9 ho9=>⟨rfl,ho9.plain⟩
def Dy(xs:List F5):List F5:=(xs.take 66).map Cb
theorem aO(xs:List F5)(n i:Nat)(hn:n<=xs.length)(h:i<n):((xs.take (i+1)).map Cb)=(xs.take i).map Cb++[Cb (xs[i]'(by omega))]:=by
 rw[Rj (by omega),Bu];rfl
theorem WG(xs:List F5)(x:F5):Ah (xs++[x])=Ah xs++c6 x:=by simp[Ah]
theorem pT(arg:Value)(xs:List F5)(w:B6)(hV:BQ w arg xs)(hn9:xs.length<=9223372036854775807):
  Calls prog 41 #[arg] w λe w'=>∃v,e=.returned v/\Below w.heap.size w w'/\w'.ownsRow w.heap.size 118 5 v (Dy xs).length (Ah (Dy xs)):=by
 obtain⟨A0,c0,rfl⟩:=hV.len;by_cases hs:66<xs.length
 ·obtain⟨gb,o,c1,hv,hc,hlt,hce⟩:=hV.form (by omega);simp only[Value.slice.injEq,true_and] at hv;obtain⟨rfl,rfl⟩:=hv;refine J5 func41 O ntmps41 O<|A3<|A5 O<|B5<|A4 O<|d1 O<|Q7 O<|A6<|E7 O (by omega)<|C5<|A4 O<|B9 (RU (sz:=5) (by kernel_rfl) O O (by omega)) O<|A5 O<|A3<|A5 O<|B5<|A5 O<|C7 ?_;rotate_left;refine BY 118 5 ?_;obtain⟨n,hn⟩:∃n,n=66:=⟨_,rfl⟩
  have hnl:n<=xs.length:=by omega
  refine Ai (E':=[(0,.slice (some ⟨gb,o,none⟩) n c0),(3,.slice none 0 0),(4,.int .i64 0)]) ⟨by rw[hn];rfl,rfl,rfl,trivial⟩ ?_;refine l9 (σ:=Value×Nat) (λs=>s.2<=n) (λs=>[(0,.slice (some ⟨gb,o,none⟩) n c0),(3,s.1),(4,.int .i64 s.2)])
   (λs=>[.row s.1 118 5 s.2 (Ah ((xs.take s.2).map Cb))]) (λs=>n-s.2)
   (λw ho=>⟨(.slice none 0 0,0),R5 _,⟨rfl,rfl,rfl,trivial⟩,ho⟩) ?_
  rintro⟨v3,i⟩ hi;simp only at hi;by_cases hil:i<n
  ·have hx:=hce i (by omega);have hst:=aO xs n i hnl hil;generalize xs[i]=x at hx hst;refine B5<|A4 O<|A4 O<|d1 O<|H9 O<|A6<|E7 O (by omega)<|D6<|C8<|C7<|C5<|A4 O<|A4 O<|A4 O<|Q4 (j:=i) O hil<|U6 (vs:=c6 x) O (λw' ho=>(hx.K6 ho.plain).agg)<|F3 92 (A7 O) (λw ho=>eU x w) O<|N7 [Gr (Cb x)] (c6 (Cb x)) O λg=>CT 1 _ 5 56 _ 1 (c6 (Cb x)) (A:=⟨g,0,none⟩) (by kernel_rfl) O (λw ho=>BI ho (i:=0) rfl) (Ug _) (by simp only[maxLen];omega) O λv' hv'=>E6 O<|H6<|F4<|E2<|C5<|A4 O<|N6 O (by(first|omega|(simp only;omega)))<|A5 O ?_;rotate_left;refine W5 λw' ho=>⟨(v',i+1),by show i+1<=n;omega,by show n-(i+1)<n-i;omega,⟨rfl,rfl,rfl,trivial⟩,rfl,?_⟩
   show B7 _ [.row v' 118 5 (i+1) (Ah ((xs.take (i+1)).map Cb))] w';rw[hst,WG];exact ho.sublist (L9 ..)
  ·obtain rfl:i=n:=by omega
   refine B5<|A4 O<|A4 O<|d1 O<|H9 O<|A6<|E0 O (by omega)<|S4<|J0<|J0<|S5<|E2<|B4 O<|A5 O<|D4<|E4 O λw9 ho9=>?_;have hl:(Dy xs).length=i:=by simp[Dy];omega
   have e:(xs.take i).map Cb=Dy xs:=by rw[hn];rfl
   rw[hl,<-e];exact⟨_,rfl,ho9.plain,ho9.GY (j8 ..)⟩
 ·refine J5 func41 O ntmps41 O<|A3<|A5 O<|B5<|A4 O<|d1 O<|Q7 O<|A6<|E0 O (by omega)<|D6<|A3<|A5 O<|B5<|A5 O<|C7 ?_;rotate_left;refine BY 118 5 ?_;obtain⟨n,hn⟩:∃n,n=xs.length:=⟨_,rfl⟩
  have hnl:n<=xs.length:=by omega
  refine Ai (E':=[(0,.slice A0 n c0),(3,.slice none 0 0),(4,.int .i64 0)]) ⟨by rw[hn];rfl,rfl,rfl,trivial⟩ ?_;refine l9 (σ:=Value×Nat) (λs=>s.2<=n) (λs=>[(0,.slice A0 n c0),(3,s.1),(4,.int .i64 s.2)])
   (λs=>[.row s.1 118 5 s.2 (Ah ((xs.take s.2).map Cb))]) (λs=>n-s.2)
   (λw ho=>⟨(.slice none 0 0,0),R5 _,⟨rfl,rfl,rfl,trivial⟩,ho⟩) ?_
  rintro⟨v3,i⟩ hi;simp only at hi;by_cases hil:i<n
  ·obtain⟨gb,o,c1,hv,hc,hlt,hce⟩:=hV.form (by omega);simp only[Value.slice.injEq,true_and] at hv;obtain⟨rfl,rfl⟩:=hv;have hx:=hce i (by omega);have hst:=aO xs n i hnl hil;generalize xs[i]=x at hx hst;refine B5<|A4 O<|A4 O<|d1 O<|H9 O<|A6<|E7 O (by omega)<|D6<|C8<|C7<|C5<|A4 O<|A4 O<|A4 O<|Q4 (j:=i) O hil<|U6 (vs:=c6 x) O (λw' ho=>(hx.K6 ho.plain).agg)<|F3 92 (A7 O) (λw ho=>eU x w) O<|N7 [Gr (Cb x)] (c6 (Cb x)) O λg=>CT 1 _ 5 56 _ 1 (c6 (Cb x)) (A:=⟨g,0,none⟩) (by kernel_rfl) O (λw ho=>BI ho (i:=0) rfl) (Ug _) (by simp only[maxLen];omega) O λv' hv'=>E6 O<|H6<|F4<|E2<|C5<|A4 O<|N6 O (by(first|omega|(simp only;omega)))<|A5 O ?_;rotate_left;refine W5 λw' ho=>⟨(v',i+1),by show i+1<=n;omega,by show n-(i+1)<n-i;omega,⟨rfl,rfl,rfl,trivial⟩,rfl,?_⟩
   show B7 _ [.row v' 118 5 (i+1) (Ah ((xs.take (i+1)).map Cb))] w';rw[hst,WG];exact ho.sublist (L9 ..)
  ·obtain rfl:i=n:=by omega
   refine B5<|A4 O<|A4 O<|d1 O<|H9 O<|A6<|E0 O (by omega)<|S4<|J0<|J0<|S5<|E2<|B4 O<|A5 O<|D4<|E4 O λw9 ho9=>?_;have hl:(Dy xs).length=i:=by simp[Dy];omega
   have e:(xs.take i).map Cb=Dy xs:=by rw[Dy,CQ (by omega),CQ (by omega)]
   rw[hl,<-e];exact⟨_,rfl,ho9.plain,ho9.GY (j8 ..)⟩
end
section
def IL(w:World)(B:Nat->Prop)(v:Value)(xs:List F5):Prop:=BQ w v xs/\(0<xs.length->∀g∈v.ownBlock,¬B g)
theorem IL.move{w w':B6}{B B':Nat->Prop}{v:Value}{xs:List F5}(h:IL w B v xs)(hf:M0 w B w')(hB:∀k,k<w.heap.size->B' k->B k):IL w' B' v xs:=by
 refine⟨?_,λhl g hg hb=>?_⟩
 ·by_cases hl:0<xs.length
  ·obtain⟨gb,o,c,rfl,hc,hlt,hce⟩:=h.1.form hl;refine .inr ⟨⟨gb,o,none⟩,c,rfl,hc,λj u hu=>?_⟩;have hn:=h.2 hl gb (by simp[Value.ownBlock]);rcases h.1 with⟨e,_⟩|⟨A,c',e,_,h2⟩
   ·cases e
   ·simp only[Value.slice.injEq,Ck,true_and] at e;obtain⟨rfl,rfl⟩:=e;have:=h2 j u hu;rw[Fi] at this⊢;exact(World.cell?_of_block (hf.old gb hlt hn)).trans this
  ·obtain rfl:xs=[]:=Kh (by omega);rcases h.1 with⟨rfl,_⟩|⟨A,c,rfl,hc,_⟩
   ·exact .inl ⟨rfl,rfl⟩
   ·exact .inr ⟨A,c,rfl,hc,λj u hu=>by simp[Ah] at hu⟩
 ·obtain⟨gb,o,c,rfl,hc,hlt,hce⟩:=h.1.form hl;have hg':g=gb:=by simpa[Value.ownBlock] using hg.symm
  subst hg';exact h.2 hl g hg (hB g hlt hb)
structure Z6(w:World)(B:Nat->Prop)(ls:List Value)(fs:List (List F5)):Prop where
 l1:ls.length=16
 l2:fs.length=16
 at':∀i,i<16->∃v,ls[i]?=some v/\IL w B v (fs.getD i [])
theorem Z6.move{w w':B6}{B B':Nat->Prop}{ls:H2}{fs:List (List F5)}(h:Z6 w B ls fs)(hf:M0 w B w')(hB:∀k,k<w.heap.size->B' k->B k):Z6 w' B' ls fs:=
 ⟨h.l1,h.l2,λi hi=>by obtain⟨v,h1,h2⟩:=h.at' i hi;exact⟨v,h1,h2.move hf hB⟩⟩
theorem Z6.K6{w w':B6}{B:Nat->Prop}{ls:H2}{fs:List (List F5)}(h:Z6 w B ls fs)(hb:Below w.heap.size w w'):Z6 w' B ls fs:=
 h.move (M0.VW hb λk hk hB=>absurd hB (by omega)) (λ_ _ h=>h)
abbrev ES:Nat->Prop:=λ_=>False
def X2(vs:List Int):List Value:=vs.map λz=>.int .i64 z
def Z8(ls:List Value)(vs:List Int):Array Value:=(ls++X2 vs).toArray
def GN(ls:List Value)(vs:List Int):Value:=.agg (Z8 ls vs)
theorem Md{ls:H2}{vs:List Int}(h1:ls.length=16)(h2:vs.length=16):(Z8 ls vs).size=32:=by simp[Z8,X2,h1,h2]
theorem fK{ls:H2}{vs:List Int}{i:Nat}{v:Value}(h1:ls.length=16)(h:ls[i]?=some v):(Z8 ls vs)[i]?=some v:=by
 have hi:i<ls.length:=(N5.1 h).1;simp only[Z8,Rf];rw[Fe hi];exact h
theorem oC{ls:H2}{vs:List Int}{i:Nat}(h1:ls.length=16)(h2:vs.length=16)(hi:i<16):(Z8 ls vs)[16+i]?=some (.int .i64 (vs.getD i 0)):=by
 simp only[Z8,Rf,X2];rw[j4 (by omega),Kj,h1,show 16+i-16=i by omega,T8 (by omega)];simp[W6,h2,hi]
theorem aw6{ls:H2}{vs:List Int}{i:Nat}{v:Value}(h1:ls.length=16)(hi:i<16):(Z8 ls vs).setIfInBounds i v=Z8 (ls.set i v) vs:=by
 apply Array.ext';simp only[Z8,YC,CR];rw[List.set_append_left _ _ (by omega)]
theorem VF{w:B6}{B:Nat->Prop}{ls:H2}{fs:List (List F5)}{vs:List Int}(h:Z6 w B ls fs):((Z8 ls vs).toList.all (·.oneCell'))=true:=by
 rw[f5];intro u hu;simp only[Z8,CR,X2,q0,FC] at hu;rcases hu with hu|⟨z,_,rfl⟩
 ·obtain⟨i,hi,rfl⟩:=ML hu;obtain⟨v,h1,h2⟩:=h.at' i (by have:=h.l1;omega);rw[T8 hi] at h1;cases h1;exact h2.1.one
 ·rfl
section
variable{P:Program}{n:Nat}{E:List (Nat×Value)}{C:I3}{H:List C2}{dst:Option Tmp}{ty:TypeId}{pos:String}{after:Array Edge}{g:Option (Nat×Bool)}{x y:Operand}{xT t:TypeId}
theorem KZ{h o len j:Nat}{kk:IntKind}(hT:WR P xT len=some 1)(hx:ev E x=some (.pointer (some ⟨h,o,none⟩)))(hy:ev E y=some (.int kk (j:Int)))(hp:j<len):L1 P n E C H ⟨dst,.indexAddr xT x y,ty,pos,after,g⟩ (.pointer (some ⟨h,o+j,none⟩)):=by
 have:=eN (P:=P) (n:=n) (C:=C) (H:=H) (dst:=dst) (ty:=ty) (pos:=pos) (after:=after) (g:=g) hT hx hy (by omega);simpa using this
end
attribute [local irreducible] F8 D3 Exit.then Exit.inBlock Exit.noGoto wpQuiet Calls fin At G9 L3 L7 RQ
def JO:Array Value:=(List.replicate 16 (Value.slice none 0 0)++List.replicate 16 (Value.int .i64 0)).toArray
def Dj(fs:List (List F5)):List (List F5):=fs.map Dy
theorem VM(fs:List (List F5))(i:Nat)(h:i<fs.length):(Dj fs).getD i []=Dy (fs.getD i []):=by simp[Dj,W6,h]
def VQ(k n:Int)(t:List UInt8):Array Value:= #[.int .i64 k,.int .i64 n,.string (bs t)]
def Fs(k n:Int)(t:List UInt8):Bool:=(decide (k=3)&&decide (n=0)&&decide (t.length<=64))||(decide (k=0)&&decide (n=0)&&decide (t=[]))||(decide (k=1)&&(decide (n=0)||decide (n=1))&&decide (t=[]))||(decide (k=2)&&decide (t=[]))
theorem RK(k n:Int)(t:C9)(w:B6):I6 203 #[.agg (VQ k n t)] w (.bool (Fs k n t)):=by
 refine J5 func203 O ntmps203 O<|A3<|F0 O λgz0=>A5 O<|B5<|B2 0 O<|A6<|CN<|CN<|CN<|CN<|CN<|B5<|C6 O<|C4 O (λz1=>?_) (λz1=>?_);refine S4<|J0<|J0<|S5<|E2<|B5<|B2 0 O<|H5 O<|A4 O<|Mx O O (λz2=>?_) (λz2=>?_);refine B3 O<|D9 O<|B3 O<|N3 0 O<|B3 O<|n4 O<|B3 O<|Hp O<|K8 O<|A5 O<|D4<|K0<|U3<|U3<|U3<|U3<|E4 O λw9 ho9=>?_;rotate_left;refine D2 O<|D2 O<|D2 O<|D2 O<|G4 O<|A5 O<|D4<|K0<|U3<|U3<|U3<|U3<|E4 O λw9 ho9=>?_;rotate_left;refine D6<|B5<|C6 O<|C4 O (λz3=>?_) (λz3=>?_);refine S4<|J0<|J0<|GI O<|J0<|S5<|E2<|A3<|B2 0 O<|J3 O<|A6<|C4 O (λz4=>?_) (λz4=>?_);refine A3<|A5 O<|K3<|U3<|U3<|E4 O λw9 ho9=>?_;rotate_left;refine P5<|F4<|E2<|A3<|B2 0 O<|J3 O<|A4 O<|F9 28 false O (decide_eq_false (by assumption))<|D2 O<|D2 O<|D2 O<|G4 O<|A6<|M8 O<|P5<|F4<|E2<|B5<|B2 0 O<|L4 O<|A5 O<|D4<|K0<|U3<|E4 O λw9 ho9=>?_;rotate_left;refine D6<|B5<|C6 O<|C4 O (λz5=>?_) (λz5=>?_);refine S4<|J0<|J0<|GI O<|J0<|GI O<|J0<|S5<|E2<|A3<|B2 0 O<|J3 O<|A4 O<|Mx O O (λz6=>?_) (λz6=>?_);refine B3 O<|D9 O<|B3 O<|N3 0 O<|B3 O<|J3 O<|K8 O<|A6<|C4 O (λz7=>?_) (λz7=>?_);refine A3<|A5 O<|K3<|U3<|E4 O λw9 ho9=>?_;rotate_left;refine P5<|F4<|E2<|B5<|B2 0 O<|L4 O<|A5 O<|D4<|K0<|U3<|E4 O λw9 ho9=>?_;rotate_left;refine D2 O<|D2 O<|D2 O<|G4 O<|A6<|M8 O<|P5<|F4<|E2<|B5<|B2 0 O<|L4 O<|A5 O<|D4<|K0<|U3<|E4 O λw9 ho9=>?_;rotate_left;refine D6<|A3<|C6 O<|C4 O (λz8=>?_) (λz8=>?_);refine S4<|J0<|GI O<|J0<|GI O<|J0<|GI O<|J0<|S5<|E2<|B5<|B2 0 O<|L4 O<|A5 O<|D4<|K0<|U3<|E4 O λw9 ho9=>?_;rotate_left;refine D6<|S4<|GI O<|J0<|GI O<|J0<|GI O<|J0<|GI O<|J0<|S5<|E2<|A3<|A5 O<|D4<|E4 O λw9 ho9=>?_;rotate_left
 all_goals
  refine⟨d8 ?_,ho9.plain⟩;rw[MA]
  first|(simp_all[Fs];done)|(simp_all[Fs];omega)
theorem aq8:Ae prog 45=some ([.int .i64 0,.int .i64 0,.string (bs [])],[(0,1),(1,1),(2,1)]):=by kernel_rfl
theorem zM(n:Int)(w:B6):I6 215 #[.int .i64 n] w (.agg (VQ 2 n [])):=by
 refine J5 func215 O ntmps215 O<|A3<|E3 P7 O λgz0=>I9 O<|B9 (O7 [.int .i64 2,.int .i64 n,.string (bs [])] aq8 O) O<|E8 0 _ O<|A6<|D4<|XF (i:=0) O O O (by kernel_rfl) O λw9 ho9=>?_;exact⟨rfl,ho9.plain⟩
def CL(x:F5):Bool:=FO x.key&&Fs x.kind x.num x.K4&&decide (x.kind≠0)&&decide (0<=x.F6)&&decide (x.F6<=2147483647)
theorem Sg(x:F5)(w:B6)(hG:j0 w):I6 202 #[Gr x] w (.bool (CL x)):=by
 refine J5 func202 O ntmps202 O ?_;cases h1:FO x.key
 ·exact A3<|F0 O λgz0=>A5 O<|A3<|B2 0 O<|F3 168 (A7 O) (λw ho=>Lp x.key w (ho.Q8 hG id)) O<|A4 O<|F9 6 false O (by exact h1)<|D2 O<|D2 O<|D2 O<|G4 O<|A4 O<|D2 O<|D2 O<|D2 O<|D2 O<|G4 O<|A4 O<|D2 O<|D2 O<|D2 O<|G4 O<|A4 O<|D2 O<|D2 O<|D2 O<|G4 O<|A5 O<|D4<|E4 O λw9 ho9=>⟨d8 (by simp[CL,h1]),ho9.plain⟩
 cases h2:Fs x.kind x.num x.K4
 ·exact A3<|F0 O λgz0=>A5 O<|A3<|B2 0 O<|F3 168 (A7 O) (λw ho=>Lp x.key w (ho.Q8 hG id)) O<|A4 O<|F9 6 true O (by exact h1)<|B3 O<|D9 O<|B3 O<|B9 (o4 0 (0+1) [.int .i64 x.kind,.int .i64 x.num,.string (bs x.K4)] (by kernel_rfl) O O) O<|B3 O<|F3 203 (A7 O) (λw ho=>RK x.kind x.num x.K4 w) O<|K8 O<|A4 O<|F9 11 false O (by exact h2)<|D2 O<|D2 O<|D2 O<|D2 O<|G4 O<|A4 O<|D2 O<|D2 O<|D2 O<|G4 O<|A4 O<|D2 O<|D2 O<|D2 O<|G4 O<|A5 O<|D4<|E4 O λw9 ho9=>⟨d8 (by simp[CL,h1,h2]),ho9.plain⟩
 refine A3<|F0 O λgz0=>A5 O<|A3<|B2 0 O<|F3 168 (A7 O) (λw ho=>Lp x.key w (ho.Q8 hG id)) O<|A4 O<|F9 6 true O (by exact h1)<|B3 O<|D9 O<|B3 O<|B9 (o4 0 (0+1) [.int .i64 x.kind,.int .i64 x.num,.string (bs x.K4)] (by kernel_rfl) O O) O<|B3 O<|F3 203 (A7 O) (λw ho=>RK x.kind x.num x.K4 w) O<|K8 O<|A4 O<|F9 11 true O (by exact h2)<|B3 O<|D9 O<|B3 O<|D9 O<|B3 O<|N3 0 O<|B3 O<|J3 O<|K8 O<|A4 O<|Mx O O (λz1=>?_) (λz1=>?_);refine B3 O<|D9 O<|B3 O<|N3 0 O<|B3 O<|O1 O<|K8 O<|A4 O<|Mx O O (λz2=>?_) (λz2=>?_);refine B3 O<|D9 O<|B3 O<|N3 0 O<|B3 O<|Hp O<|K8 O<|A5 O<|D4<|E4 O λw9 ho9=>?_;rotate_left;refine D2 O<|D2 O<|D2 O<|G4 O<|A5 O<|D4<|E4 O λw9 ho9=>?_;rotate_left;refine D2 O<|D2 O<|D2 O<|G4 O<|A4 O<|D2 O<|D2 O<|D2 O<|G4 O<|A5 O<|D4<|E4 O λw9 ho9=>?_;rotate_left
 all_goals
  refine⟨d8 ?_,ho9.plain⟩;rw[MA]
  first|(simp_all[CL];done)|(simp_all[CL];omega)
def Fz(xs:List F5)(i:Nat):Bool:=decide (i=0)||Op.bytesLess (xs.getD (i-1) default).key (xs.getD i default).key
def DS(xs:List F5):Bool:=decide (xs.length<=64)&&xs.all CL&&(List.range xs.length).all (Fz xs)
theorem Ue(xs:List F5)(i:Nat)(h:i<xs.length):xs.getD i default=xs[i]:=by simp[W6,h]
theorem xK{xs:List F5}(h:64<xs.length):DS xs=false:=by
 rw[DS,decide_eq_false (by omega)];rfl
theorem nI{xs:List F5}{i:Nat}(h:i<xs.length)(hm:CL xs[i]=false):DS xs=false:=by
 have:xs.all CL=false:=Ni.2 ⟨xs[i],Fd h,by simp[hm]⟩;rw[DS,this];simp
theorem ae1{xs:List F5}{i:Nat}(h:i<xs.length)(hb:Fz xs i=false):DS xs=false:=by
 have:(List.range xs.length).all (Fz xs)=false:=Ni.2 ⟨i,j9.2 h,by simp[hb]⟩;rw[DS,this];simp
theorem ad0{xs:List F5}(h:xs.length<=64)(hg:∀j (hj:j<xs.length),CL xs[j]=true/\Fz xs j=true):DS xs=true:=by
 have h1:xs.all CL=true:=f5.2 λx hx=>by
  obtain⟨j,hj,rfl⟩:=ML hx;exact(hg j hj).1
 have h2:(List.range xs.length).all (Fz xs)=true:=f5.2 λj hj=>(hg j (j9.1 hj)).2;rw[DS,h1,h2,decide_eq_true h];rfl
def XI(xs:List F5)(v:Value)(_:World):Prop:=∃e i:Int,v=.tuple #[.int .i64 e,.int .i64 i]/\decide (e=0)=DS xs
def LK:Array Value:= #[.string (bs []),.int .i64 0,.int .i64 0,.string (bs []),.int .i64 0]
theorem KB(x:F5):((c6 x).toArray.toList.all (·.oneCell'))=true:=by
 rw[f5];exact λu hu=>Ug x u (by simpa using hu)
theorem ZZ(arg:Value)(xs:List F5)(w:B6)(hG:j0 w)(hV:BQ w arg xs)(hn:xs.length<=1000):
  Calls prog 150 #[arg] w λe w'=>∃v,e=.returned v/\Below w.heap.size w w'/\XI xs v w':=by
 obtain⟨A0,c0,rfl⟩:=hV.len;refine J5 func150 O ntmps150 O ?_;by_cases h64:64<xs.length
 ·exact A3<|E6 O<|A5 O<|B5<|A4 O<|d1 O<|Q7 O<|A6<|E7 O (by omega)<|A3<|E6 O<|A5 O<|D4<|K0<|V6 O O O O λw9 ho9=>⟨_,rfl,ho9.plain,5,64,rfl,(xK h64).symm⟩
 refine A3<|E6 O<|A5 O<|B5<|A4 O<|d1 O<|Q7 O<|A6<|E0 O (by omega)<|D6<|B5<|A4 O<|d1 O<|A4 O<|A6<|C7 ?_;rotate_left;refine DG (λi:Nat=>i<=xs.length/\∀j (hj:j<xs.length),j<i->CL xs[j]=true/\Fz xs j=true) (λi=>[(0,.slice A0 xs.length c0),(9,.slice A0 xs.length c0),(10,.int .i64 xs.length),(11,.int .i64 i)]) (λi=>xs.length-i) 0 ⟨R5 _,λj _ h=>absurd h (by omega)⟩ ⟨rfl,rfl,rfl,rfl,trivial⟩ ?_;rintro i ⟨hi,hI⟩;by_cases hil:i<xs.length
 ·obtain⟨gb,o,c1,hv,hc,hlt,hce⟩:=hV.form (by omega);simp only[Value.slice.injEq,true_and] at hv;obtain⟨rfl,rfl⟩:=hv;have hx:=hce i hil;have hno1:=nI hil;have hbe:Fz xs i=(decide (i=0)||Op.bytesLess (xs.getD (i-1) default).key xs[i].key):=by rw[Fz,Ue xs i hil]
  have hno2:=ae1 hil;have hstep:CL xs[i]=true->Fz xs i=true->∀j (hj:j<xs.length),j<i+1->CL xs[j]=true/\Fz xs j=true:=λh1 h2 j hj hji=>by
   by_cases e:j=i
   ·subst e;exact⟨h1,h2⟩
   ·exact hI j hj (by omega)
  generalize xs[i]=x at hx hno1 hbe hstep;cases hm:CL x
  ·exact A3<|H9 O<|A6<|C8<|E7 O (by omega)<|D6<|C8<|C7<|B4 O<|Q4 (j:=i) O hil<|U6 (vs:=c6 x) O (λw' ho=>(hx.K6 ho.plain).agg)<|E3 IE O λgz0=>E6 O<|q8 (i:=0) (cs:=LK) (vs:=(c6 x).toArray) (by kernel_rfl) O O (KB x) O O<|A6<|C7<|A3<|G6 0 O O<|F3 202 (A7 O) (λw ho=>Sg x w (ho.Q8 hG id)) O<|J7 O<|A5 O<|k8 O (by simp[*])<|B4 O<|E6 O<|A5 O<|D4<|DO<|U3<|K0<|U3<|V6 O O O O λw9 ho9=>⟨_,rfl,ho9.plain,1,i,rfl,(hno1 hm).symm⟩
  by_cases h0:i=0
  ·subst h0;refine A3<|H9 O<|A6<|C8<|E7 O (by omega)<|D6<|C8<|C7<|B4 O<|Q4 (j:=0) O hil<|U6 (vs:=c6 x) O (λw' ho=>(hx.K6 ho.plain).agg)<|E3 IE O λgz0=>E6 O<|q8 (i:=0) (cs:=LK) (vs:=(c6 x).toArray) (by kernel_rfl) O O (KB x) O O<|A6<|C7<|A3<|G6 0 O O<|F3 202 (A7 O) (λw ho=>Sg x w (ho.Q8 hG id)) O<|J7 O<|A5 O<|Y7 O (by simp[*])<|C8<|R2 (by kernel_rfl)<|G3 O<|NL O<|G3 O<|Aw (t:=24) (d:=false) O (decide_eq_false (by omega))<|P1 O<|P1 O<|P1 O<|P1 O<|P1 O<|P1 O<|P1 O<|P1 O<|P1 O<|Jw O<|o6 O<|R4 ?_;refine E2<|M8 O<|P5<|F4<|F4<|E2<|C5<|N6 O (by omega)<|A4 O<|A6 ?_;rotate_left;refine W5 λw ho=>⟨1,⟨by omega,hstep hm (by rw[hbe];rfl)⟩,by omega,⟨rfl,rfl,rfl,rfl,trivial⟩,rfl,ho.sublist (Ea _)⟩
  ·have hy:=hce (i-1) (by omega);rw[<-Ue xs (i-1) (by omega)] at hy;generalize xs.getD (i-1) default=y at hy hbe;have hi1:(i:Int)-1=((i-1:Nat):Int):=by omega
   have hbe2:Fz xs i=Op.bytesLess y.key x.key:=by rw[hbe,decide_eq_false h0];rfl
   have hle:(Op.bytesLess x.key y.key||decide (x.key=y.key))= !Op.bytesLess y.key x.key:=by rw[Qe y.key x.key];simp
   cases hl:Op.bytesLess y.key x.key
   ·refine A3<|H9 O<|A6<|C8<|E7 O (by omega)<|D6<|C8<|C7<|B4 O<|Q4 (j:=i) O hil<|U6 (vs:=c6 x) O (λw' ho=>(hx.K6 ho.plain).agg)<|E3 IE O λgz0=>E6 O<|q8 (i:=0) (cs:=LK) (vs:=(c6 x).toArray) (by kernel_rfl) O O (KB x) O O<|A6<|C7<|A3<|G6 0 O O<|F3 202 (A7 O) (λw ho=>Sg x w (ho.Q8 hG id)) O<|J7 O<|A5 O<|Y7 O (by simp[*])<|C8<|R2 (by kernel_rfl)<|G3 O<|NL O<|G3 O<|Aw (t:=24) (d:=true) O (decide_eq_true (by omega))<|I5 O<|I1 O<|I5 O<|J4 0 O<|I5 O<|G3 O<|I5 O<|G3 O<|I5 O<|r5 (hi1▸DA rfl rfl (by omega)) O<|I5 O<|LS (j:=i-1) O (by omega) ?_;exact I5 O<|I1 O<|I5 O<|r5 (AI O (λw' ho=>(hy.K6 ho.plain).key)) O<|I5 O<|r5 (jF O O) O<|Ek O<|o6 O<|R4<|E2<|k8 O (by(rw[hle,hl];rfl))<|B4 O<|E6 O<|A5 O<|D4<|DO<|U3<|K0<|U3<|V6 O O O O λw9 ho9=>⟨_,rfl,ho9.plain,3,i,rfl,(hno2 (hbe2.trans hl)).symm⟩
   ·refine A3<|H9 O<|A6<|C8<|E7 O (by omega)<|D6<|C8<|C7<|B4 O<|Q4 (j:=i) O hil<|U6 (vs:=c6 x) O (λw' ho=>(hx.K6 ho.plain).agg)<|E3 IE O λgz0=>E6 O<|q8 (i:=0) (cs:=LK) (vs:=(c6 x).toArray) (by kernel_rfl) O O (KB x) O O<|A6<|C7<|A3<|G6 0 O O<|F3 202 (A7 O) (λw ho=>Sg x w (ho.Q8 hG id)) O<|J7 O<|A5 O<|Y7 O (by simp[*])<|C8<|R2 (by kernel_rfl)<|G3 O<|NL O<|G3 O<|Aw (t:=24) (d:=true) O (decide_eq_true (by omega))<|I5 O<|I1 O<|I5 O<|J4 0 O<|I5 O<|G3 O<|I5 O<|G3 O<|I5 O<|r5 (hi1▸DA rfl rfl (by omega)) O<|I5 O<|LS (j:=i-1) O (by omega) ?_;refine I5 O<|I1 O<|I5 O<|r5 (AI O (λw' ho=>(hy.K6 ho.plain).key)) O<|I5 O<|r5 (jF O O) O<|Ek O<|o6 O<|R4<|E2<|Y7 O (by(rw[hle,hl];rfl))<|P5<|F4<|F4<|E2<|C5<|N6 O (by omega)<|A4 O<|A6 ?_;rotate_left;refine W5 λw ho=>⟨i+1,⟨by omega,hstep hm (hbe2.trans hl)⟩,by omega,⟨rfl,rfl,rfl,rfl,trivial⟩,rfl,ho.sublist (Ea _)⟩
 ·obtain rfl:i=xs.length:=by omega
  refine A3<|H9 O<|A6<|C8<|E0 O (by omega)<|S4<|J0<|J0<|S5<|E2<|A3<|E6 O<|A5 O<|D4<|V6 O O O O λw9 ho9=>?_;exact⟨_,rfl,ho9.plain,0,0,rfl,(ad0 (by omega) λj hj=>hI j hj hj).symm⟩
def Iu(b:Nat)(F6:Int)(x:F5):Bool:=decide (OX x.key=(b:Int))&&decide (x.F6<=F6)
def Ec(b:Nat)(xs:List F5)(F6:Int):Bool:=DS xs&&decide (0<=F6)&&decide (F6<=2147483647)&&xs.all (Iu b F6)
theorem ab2{b:Nat}{xs:List F5}{F6:Int}{i:Nat}(h:i<xs.length)(hm:Iu b F6 xs[i]=false):Ec b xs F6=false:=by
 have:xs.all (Iu b F6)=false:=Ni.2 ⟨xs[i],Fd h,by simp[hm]⟩;rw[Ec,this];simp
theorem mZ{xs:List F5}{p:F5->Bool}(h:∀j (hj:j<xs.length),p xs[j]=true):xs.all p=true:=f5.2 λx hx=>by
 obtain⟨j,hj,rfl⟩:=ML hx;exact h j hj
theorem FF.F6{w:B6}{gb o:Nat}{x:F5}(h:FF w gb o x):w.cell? ⟨gb,o+4,none⟩=some (.int .i64 x.F6):=h 4 _ rfl
theorem yG(b:Nat)(arg:Value)(xs:List F5)(F6:Int)(w:B6)(hG:j0 w)(hV:BQ w arg xs)(hn:xs.length<=1000):
  I6 119 #[.int .i64 (b:Int),arg,.int .i64 F6] w (.bool (Ec b xs F6)):=by
 obtain⟨A0,c0,rfl⟩:=hV.len;refine J5 func119 O ntmps119 O<|A3<|A5 O<|B5<|A4 O<|JP (f:=150) (Φ:=XI xs) (A7 O) (λw ho=>ZZ _ xs w (ho.Q8 hG id) (ho.Ln hV) hn) O O λv w1 hw1 hv=>A4 O ?_;obtain⟨e,k,rfl,he⟩:=hv;cases hlo:DS xs
 ·rw[hlo] at he;have he':e≠0:=of_decide_eq_false he;exact G1 O<|G1 O<|E6 O<|A5 O<|B4 O<|J3 O<|A4 O<|F9 18 true O (decide_eq_true (by exact he'))<|D2 O<|D2 O<|K8 O<|A4 O<|D2 O<|D2 O<|K8 O<|A6<|R1 O<|A3<|A5 O<|D4<|K0<|E4 O λw9 ho9=>⟨d8 (by simp[Ec,hlo]),ho9.plain⟩
 rw[hlo] at he;obtain rfl:e=0:=of_decide_eq_true he;by_cases h0:F6<0
 ·refine G1 O<|G1 O<|E6 O<|A5 O<|B4 O<|J3 O<|A4 O<|F9 18 false O (decide_eq_false (by decide))<|B3 O<|A4 O<|B3 O<|H9 O<|G4 O<|A4 O<|F9 22 true O (decide_eq_true (by exact h0))<|D2 O<|D2 O<|K8 O<|A6<|R1 O<|A3<|A5 O<|D4<|K0<|E4 O λw9 ho9=>?_;exact⟨d8 (by rw[Ec,decide_eq_false (show¬0<=F6 by omega)];simp),ho9.plain⟩
 by_cases h1:F6>2147483647
 ·refine G1 O<|G1 O<|E6 O<|A5 O<|B4 O<|J3 O<|A4 O<|F9 18 false O (decide_eq_false (by decide))<|B3 O<|A4 O<|B3 O<|H9 O<|G4 O<|A4 O<|F9 22 false O (decide_eq_false (by exact h0))<|B3 O<|A4 O<|B3 O<|Q7 O<|G4 O<|A6<|E7 O (by exact h1)<|A3<|A5 O<|D4<|K0<|E4 O λw9 ho9=>?_;exact⟨d8 (by rw[Ec,decide_eq_false (show¬F6<=2147483647 by omega)];simp),ho9.plain⟩
 refine G1 O<|G1 O<|E6 O<|A5 O<|B4 O<|J3 O<|A4 O<|F9 18 false O (decide_eq_false (by decide))<|B3 O<|A4 O<|B3 O<|H9 O<|G4 O<|A4 O<|F9 22 false O (decide_eq_false (by exact h0))<|B3 O<|A4 O<|B3 O<|Q7 O<|G4 O<|A6<|E0 O (by exact h1)<|D6<|B5<|A4 O<|d1 O<|A4 O<|A6<|C7 ?_;rotate_left;refine DG (λi:Nat=>i<=xs.length/\∀j (hj:j<xs.length),j<i->Iu b F6 xs[j]=true) (λi=>[(0,.int .i64 (b:Int)),(2,.int .i64 F6),(26,.slice A0 xs.length c0),(27,.int .i64 xs.length),(28,.int .i64 i)]) (λi=>xs.length-i) 0 ⟨R5 _,λj _ h=>absurd h (by omega)⟩ ⟨rfl,rfl,rfl,rfl,rfl,trivial⟩ ?_;rintro i ⟨hi,hI⟩;by_cases hil:i<xs.length
 ·obtain⟨gb,o,c1,hv,hc,hlt,hce⟩:=hV.form (by omega);simp only[Value.slice.injEq,true_and] at hv;obtain⟨rfl,rfl⟩:=hv;have hx:=hce i hil;have hno:=ab2 (b:=b) (F6:=F6) hil;have hstep:Iu b F6 xs[i]=true->∀j (hj:j<xs.length),j<i+1->Iu b F6 xs[j]=true:=λh1 j hj hji=>by
   by_cases e:j=i
   ·subst e;exact h1
   ·exact hI j hj (by omega)
  generalize xs[i]=x at hx hno hstep;by_cases hbk:OX x.key=(b:Int)
  ·by_cases hvr:x.F6<=F6
   ·refine A3<|H9 O<|A6<|C8<|E7 O (by omega)<|D6<|C8<|C7<|A3<|Q4 (j:=i) O hil<|U6 (vs:=c6 x) O (λw' ho=>(hx.K6 ho.plain).agg)<|E3 IE O λgz0=>q8 (i:=0) (cs:=LK) (vs:=(c6 x).toArray) (by kernel_rfl) O O (KB x) O O<|I0<|B2 0 O<|F3 151 (A7 O) (λw ho=>VL x.key w (ho.Q8 hG id)) O<|A4 O<|J3 O<|A4 O<|F9 37 false O (decide_eq_false (by omega))<|B3 O<|D9 O<|B3 O<|N3 0 O<|B3 O<|A4 O<|B3 O<|Q7 O<|G4 O<|A6<|E0 O (by omega)<|P5<|F4<|E2<|C5<|N6 O (by omega)<|A4 O<|A6 ?_;rotate_left;refine W5 λw ho=>⟨i+1,⟨by omega,hstep (by rw[Iu,decide_eq_true hbk,decide_eq_true hvr];rfl)⟩,by omega,⟨rfl,rfl,rfl,rfl,rfl,trivial⟩,rfl,ho.sublist (Ea _)⟩
   ·exact A3<|H9 O<|A6<|C8<|E7 O (by omega)<|D6<|C8<|C7<|A3<|Q4 (j:=i) O hil<|U6 (vs:=c6 x) O (λw' ho=>(hx.K6 ho.plain).agg)<|E3 IE O λgz0=>q8 (i:=0) (cs:=LK) (vs:=(c6 x).toArray) (by kernel_rfl) O O (KB x) O O<|I0<|B2 0 O<|F3 151 (A7 O) (λw ho=>VL x.key w (ho.Q8 hG id)) O<|A4 O<|J3 O<|A4 O<|F9 37 false O (decide_eq_false (by omega))<|B3 O<|D9 O<|B3 O<|N3 0 O<|B3 O<|A4 O<|B3 O<|Q7 O<|G4 O<|A6<|E7 O (by omega)<|A3<|A5 O<|K3<|K0<|U3<|E4 O λw9 ho9=>⟨d8 (hno (by rw[Iu,decide_eq_false hvr];simp)).symm,ho9.plain⟩
  ·exact A3<|H9 O<|A6<|C8<|E7 O (by omega)<|D6<|C8<|C7<|A3<|Q4 (j:=i) O hil<|U6 (vs:=c6 x) O (λw' ho=>(hx.K6 ho.plain).agg)<|E3 IE O λgz0=>q8 (i:=0) (cs:=LK) (vs:=(c6 x).toArray) (by kernel_rfl) O O (KB x) O O<|I0<|B2 0 O<|F3 151 (A7 O) (λw ho=>VL x.key w (ho.Q8 hG id)) O<|A4 O<|J3 O<|A4 O<|F9 37 true O (decide_eq_true (by omega))<|D2 O<|D2 O<|D2 O<|D2 O<|K8 O<|A6<|R1 O<|A3<|A5 O<|K3<|K0<|U3<|E4 O λw9 ho9=>⟨d8 (hno (by rw[Iu,decide_eq_false hbk];rfl)).symm,ho9.plain⟩
 ·obtain rfl:i=xs.length:=by omega
  refine A3<|H9 O<|A6<|C8<|E0 O (by omega)<|S4<|J0<|J0<|S5<|E2<|A3<|A5 O<|D4<|E4 O λw9 ho9=>?_;exact⟨d8 (by rw[Ec,hlo,decide_eq_true (show 0<=F6 by omega),decide_eq_true (show F6<=2147483647 by omega),mZ λj hj=>hI j hj hj];rfl),ho9.plain⟩
def y8(fs:List (List F5))(vs:List Int):Bool:=(List.range 16).all λb=>Ec b (fs.getD b []) (vs.getD b 0)
theorem vT{fs:List (List F5)}{vs:List Int}{b:Nat}(h:b<16)(hm:Ec b (fs.getD b []) (vs.getD b 0)=false):y8 fs vs=false:=
 Ni.2 ⟨b,j9.2 h,by rw[hm];simp⟩
theorem nK{fs:List (List F5)}{vs:List Int}(h:∀b,b<16->Ec b (fs.getD b []) (vs.getD b 0)=true):y8 fs vs=true:=
 f5.2 λb hb=>h b (j9.1 hb)
def Ou(fs:List (List F5)):Prop:=∀b,(fs.getD b []).length<=66/\∀x∈fs.getD b [],x.key.length<=60
theorem B7.XQ{w0 w b:B6}{M F:Nat->Prop}{D:List Mk}{H:List C2}{ls:H2}{fs:List (List F5)}(h:B7 ⟨w0,λ_=>False,M,b,F,D⟩ H w)(hB:Z6 w0 ES ls fs):Z6 w ES ls fs:=hB.K6 h.plain
theorem Rw(ls:H2)(vs:List Int)(fs:List (List F5))(w:B6)(hG:j0 w)(hT:Z6 w ES ls fs)(hvs:vs.length=16)(hS:Ou fs):
  I6 67 #[GN ls vs] w (.bool (y8 fs vs)):=by
 have hl1:=hT.l1;have h32:=Md hl1 hvs;have hpart:((Z8 ls vs).toList.drop (0+0)).take 16=ls:=by
  simp only[Z8,CR,Bs,IF];rw[<-hl1,Po]
 refine J5 func67 O ntmps67 O<|A3<|F0 O λgz0=>A5 O<|B5<|D9 O<|B9 (o4 0 (0+0) ls (by rw[hl1];kernel_rfl) O (by rw[hl1];exact hpart)) O<|A4 O<|A6<|C7 ?_;rotate_left;refine DG (λb:Nat=>b<=16/\∀j,j<b->Ec j (fs.getD j []) (vs.getD j 0)=true) (λb=>[(1,.pointer (some ⟨gz0,0,none⟩)),(6,.agg ls.toArray),(7,.int .i64 b)]) (λb=>16-b) 0 ⟨R5 _,λj h=>absurd h (by omega)⟩ ⟨rfl,rfl,rfl,trivial⟩ ?_;rintro b ⟨hb,hI⟩;by_cases hb16:b<16
 ·obtain⟨v,hv,hvi⟩:=hT.at' b hb16;have hsb:=hS b;have hver:=oC (vs:=vs) hl1 hvs hb16;have cM:∀{w'},j0 w'->BQ w' v (fs.getD b [])->I6 119 #[.int .i64 (b:Int),v,.int .i64 (vs.getD b 0)] w' (.bool (Ec b (fs.getD b []) (vs.getD b 0))):=λg h=>yG b v _ _ _ g h (by omega);cases hm:Ec b (fs.getD b []) (vs.getD b 0)
  ·rw[hm] at cM;exact A3<|H9 O<|A6<|C8<|E7 O (by omega)<|D6<|C8<|C7<|B4 O<|B9 (BZ (l:=16) (q:=b) (by kernel_rfl) O O hb16 (by simpa using hv)) O<|E6 O<|A5 O<|B4 O<|A4 O<|A4 O<|D9 O<|B9 (KZ (len:=16) (j:=b) (by kernel_rfl) O O hb16) O<|B9 (c7 0 (j:=0+16+b) O (by rw[Y3];exact hver)) O<|F3 119 (A7 O) (λw ho=>cM (ho.Q8 hG id) (ho.Ln hvi.1)) O<|J7 O<|A6<|R1 O<|A3<|A5 O<|K3<|K0<|U3<|E4 O λw9 ho9=>⟨d8 (vT hb16 hm).symm,ho9.plain⟩
  ·rw[hm] at cM;refine A3<|H9 O<|A6<|C8<|E7 O (by omega)<|D6<|C8<|C7<|B4 O<|B9 (BZ (l:=16) (q:=b) (by kernel_rfl) O O hb16 (by simpa using hv)) O<|E6 O<|A5 O<|B4 O<|A4 O<|A4 O<|D9 O<|B9 (KZ (len:=16) (j:=b) (by kernel_rfl) O O hb16) O<|B9 (c7 0 (j:=0+16+b) O (by rw[Y3];exact hver)) O<|F3 119 (A7 O) (λw ho=>cM (ho.Q8 hG id) (ho.Ln hvi.1)) O<|J7 O<|A6<|M8 O<|P5<|F4<|E2<|C5<|N6 O (by omega)<|A4 O<|A6 ?_;rotate_left;refine DB (b+1) ⟨by omega,λj hj=>?_⟩ (by omega) ⟨rfl,rfl,rfl,trivial⟩;by_cases e:j=b
   ·subst e;exact hm
   ·exact hI j (by omega)
 ·obtain rfl:b=16:=by omega
  exact A3<|H9 O<|A6<|C8<|E0 O (by omega)<|S4<|J0<|J0<|S5<|E2<|A3<|A5 O<|D4<|E4 O λw9 ho9=>⟨d8 (nK hI).symm,ho9.plain⟩
end
def kK(P:Program)(gf:FuncId)(lb:List Value)(xs:List (Value×Value))(G B0:Nat->Prop)(w:World):Prop:=
 ∀(l:Nat) (J:Nat->(Nat->Prop)->World->Prop) (Jx:(Nat->Prop)->World->Prop),(∀i B W,J i B W->M0 w G W/\∀k,B k->k<W.heap.size)->(∀B W,Jx B W->M0 w G W)->
  (∀i B W W',J i B W->M0 W (λk=>w.heap.size<=k/\¬B k) W'->J i B W')->(∀B W W',Jx B W->M0 W (λk=>w.heap.size<=k/\¬B k) W'->Jx B W')->
  (∀i B x W,xs[i]?=some x->J i B W->YieldAt (fe none) 0 P l #[x.1,x.2] W (λe W'=>∃B',M0 W B W'/\(∀k,B' k->B k\/W.heap.size<=k)/\((e=.returned (.bool true)/\J (i+1) B' W')\/(e=.returned (.bool false)/\Jx B' W'))))->
  J 0 B0 w->Calls P gf (yv l::lb).toArray w (λe w'=>(∃v,e=.returned v)/\∃B,J xs.length B w'\/Jx B w')
def GF(w0:World)(G:Nat->Prop)(W:World)(H:List C2):I3:=⟨w0,G,λ_=>False,W,λk=>k∈F1 H,[]⟩
theorem Qh{w0 W w:B6}{G B:Nat->Prop}{H0 H:List C2}(h:B7 (GF w0 G W H0) H w)(h0:∀k∈F1 H0,w0.heap.size<=k/\¬B k):M0 W (λk=>w0.heap.size<=k/\¬B k) w:=h.base.mono λk _ hk=>h0 k hk
theorem B7.bU{w0 W w:B6}{G:Nat->Prop}{H0 H:List C2}(h:B7 (GF w0 G W H0) H w):B7 (GF w0 G w H) H w:=
 ⟨h.X4,M0.refl _ _,h.ok,h.nodup,λk hk=>⟨(h.X8 k hk).1,.inr hk⟩,h.sub,by simp[GF]⟩
section
variable{P:Program}{r:Option Nat}{n:Nat}{E E':List (Nat×Value)}{C:I3}{H:List C2}{Q:Exit->Act->World->Prop}{K:Act->World->Prop}{ops:Array Oper}{rest:List Oper}
theorem vA{w0 W:B6}{G B:Nat->Prop}{J:Nat->(Nat->Prop)->B6->Prop}{Jx:(Nat->Prop)->B6->Prop}{i d l:Nat}{c y1 y2:Operand}{x1 x2:Value}{ty:TypeId}{pos:String}{after:Array Edge}{aT:Array TypeId}
  (hc:ev E c=some (yv l))(hx1:ev E y1=some x1)(hx2:ev E y2=some x2)(hd:Nat.blt d n=true)(hJf:∀i B W,J i B W->M0 w0 G W)(hxf:∀B W,Jx B W->M0 w0 G W)
  (hst:∀i B W W',J i B W->M0 W (λk=>w0.heap.size<=k/\¬B k) W'->J i B W')(hJ:J i B W)(hB:∀k∈F1 H,w0.heap.size<=k/\¬B k)
  (hY:∀W,J i B W->YieldAt (fe none) 0 P l #[x1,x2] W (λe W'=>∃B',M0 W B W'/\(∀k,B' k->B k\/W.heap.size<=k)/\((e=.returned (.bool true)/\J (i+1) B' W')\/(e=.returned (.bool false)/\Jx B' W'))))
  (on:∀B' W',J (i+1) B' W'->(∀k∈F1 H,w0.heap.size<=k/\¬B' k)->At n ((d,.bool true)::E) (GF w0 G W' H) H (D3 none P ops Q rest))
  (off:∀B' W',Jx B' W'->(∀k∈F1 H,w0.heap.size<=k/\¬B' k)->At n ((d,.bool false)::E) (GF w0 G W' H) H (D3 none P ops Q rest)):
  At n E (GF w0 G W H) H (D3 none P ops Q (⟨some d,.call ⟨.value c,#[y1,y2],aT⟩,ty,pos,after,none⟩::rest)):=by
 intro a w hf hdf ho;refine KN rfl rfl ?_;have hj:J i B w:=hst i B W w hJ (Qh ho hB);obtain⟨fn,tmps,assign,body,hrun,hround⟩:=hY w hj;have hexec:(execOp a.eval ⟨some d,.call ⟨.value c,#[y1,y2],aT⟩,ty,pos,after,none⟩).run P w=.ok (.round l fn tmps assign body) w:=by
  have hm:(#[y1,y2]:Array Operand).map a.eval= #[x1,x2]:=by simp[hf.eval hx1,hf.eval hx2]
  simp only[execOp,resolve,hm,hf.eval hc];simp[Deferred.ofValue,invoke,go_sem,hrun]
 rw[hexec,Oper.uponIn_round];refine⟨λh=>by simp[fe,Fence.wide] at h,hround.mono ?_⟩;have key:∀{W':B6} {B':Nat->Prop},M0 w B W'->(∀k,B' k->B k\/w.heap.size<=k)->M0 w0 G W'->B7 (GF w0 G W' H) H W'/\∀k∈F1 H,w0.heap.size<=k/\¬B' k:=λ{W' B'} h1 h2 h3=>
  ⟨⟨h3,M0.refl _ _,λq hq=>Ge (ho.ok q hq) h1.size λk hk=>h1.old k (OO (ho.ok q hq) k hk) (hB k (Bm.2 ⟨q,hq,hk⟩)).2,ho.nodup,λk hk=>⟨(ho.X8 k hk).1,.inr hk⟩,λ_ h=>h.elim,by simp[GF]⟩,
   λk hk=>⟨(hB k hk).1,λhb=>by
   rcases h2 k hb with h|h
   ·exact(hB k hk).2 h
   ·have:=ho.lt k hk;omega⟩⟩
 rintro e W' ⟨B',h1,h2,(⟨rfl,hj'⟩|⟨rfl,hx'⟩)⟩
 ·obtain⟨k1,k2⟩:=key h1 h2 (hJf _ _ _ hj');exact on B' W' hj' k2 _ _ (hf.put (d:=some d) hd) (hdf.put _ _) k1
 ·obtain⟨k1,k2⟩:=key h1 h2 (hxf _ _ hx');exact off B' W' hx' k2 _ _ (hf.put (d:=some d) hd) (hdf.put _ _) k1
theorem uW{σ:Type}{w0 W:B6}{G B:Nat->Prop}{J:Nat->(Nat->Prop)->B6->Prop}{c:Code}(hst:∀i B W W',J i B W->M0 W (λk=>w0.heap.size<=k/\¬B k) W'->J i B W')
  (ix:σ->Nat)(I:σ->Prop)(E':σ->List (Nat×Value))(H':σ->List C2)(μ:σ->Nat)(s0:σ)(hi:I s0)(hJ:J (ix s0) B W)(hB:∀k∈F1 H,w0.heap.size<=k/\¬B k)(hH:H' s0=H)(he:Eu (E' s0) E)
  (round:∀s B W,I s->J (ix s) B W->(∀k∈F1 (H' s),w0.heap.size<=k/\¬B k)->At n (E' s) (GF w0 G W (H' s)) (H' s) (F8 none P c (Exit.then (L3 n (λp:σ×(Nat->Prop)×B6=>I p.1/\J (ix p.1) p.2.1 p.2.2/\∀k∈F1 (H' p.1),w0.heap.size<=k/\¬p.2.1 k) (λp=>E' p.1) (λp=>GF w0 G p.2.2 (H' p.1)) (λp=>H' p.1) (λp=>μ p.1) (μ s)) Q))):
  At n E (GF w0 G W H) H (F8 none P (Code.loop c) Q):=by
 subst hH;exact UV (λp:σ×(Nat->Prop)×B6=>I p.1/\J (ix p.1) p.2.1 p.2.2/\∀k∈F1 (H' p.1),w0.heap.size<=k/\¬p.2.1 k) (λp=>E' p.1) (λp=>GF w0 G p.2.2 (H' p.1)) (λp=>H' p.1) (λp=>μ p.1)
  (λw ho=>⟨(s0,B,w),⟨hi,hst _ _ _ _ hJ (Qh ho hB),hB⟩,he,rfl,ho.bU⟩) (λp hp=>round p.1 p.2.1 p.2.2 hp.1 hp.2.1 hp.2.2)
def AQ{ι:Type}(n:Nat)(W:World)(B:Nat->Prop)(E1:ι->List (Nat×Value))(H1:ι->List C2):Exit->Act->World->Prop
 |.normal,a,w=>a.defers=[]/\∃i,U2 n (E1 i) a/\O0 W B (H1 i) w
 |_,_,_=>False
theorem al6{ι:Type}{W b:B6}{B F:Nat->Prop}{E1:ι->List (Nat×Value)}{H1:ι->List C2}(i:ι)(he:Eu (E1 i) E)(hH:H1 i=H):At n E ⟨W,B,B,b,F,[]⟩ H (AQ n W B E1 H1 .normal):=λa w hf hd ho=>⟨hd,i,hf.Jv he,b,F,hH▸ho⟩
theorem nA{σ ι:Type}{g:Operand}{p1 p2:Nat}{assign body:Code}{gf:FuncId}{lb:H2}{xs:List (Value×Value)}
  (I:Nat->σ->Prop)(H':Nat->σ->List C2)(E1:Value×Value->σ->ι->List (Nat×Value))(H1:Nat->Value×Value->σ->ι->List C2)(Ix:Code->σ->Prop)(Hx:Code->σ->List C2)(s0:σ)(h0:I 0 s0)(hH:H' 0 s0=H)
  (hg:ev E g=some (.func (.func gf) #[] lb.toArray))(he:GB P gf=true)(hp1:Nat.blt p1 n=true)(hp2:Nat.blt p2 n=true)
  (hseq:∀(W1:B6) (G B0:Nat->Prop),(∀k,G k->k∈F1 H\/∃q,W1.heap[k]?=some (.loop q))->B7 C H W1->kK P gf lb xs G B0 W1)
  (asg:∀(l i:Nat) (x:Value×Value) (s:σ) (W:B6),xs[i]?=some x->I i s->B7 C (H' i s) W->At n ((p2,x.2)::(p1,x.1)::E) (J1 W (H' i s)) (H' i s) (F8 (some l) P assign (AQ n W (λk=>k∈F1 (H' i s)) (E1 x s) (H1 i x s))))
  (round:∀(l i:Nat) (x:Value×Value) (s:σ) (j:ι) (W:B6),xs[i]?=some x->I i s->B7 C (H1 i x s j) W->
   At n (E1 x s j) (J1 W (H1 i x s j)) (H1 i x s j) (F8 (some l) P body (RQ W (λk=>k∈F1 (H1 i x s j)) (I (i+1)) (H' (i+1)) Ix Hx)))
  (done:∀(D:Nat) (s:σ),I xs.length s->At n E (C.mk' D) (H' xs.length s) (Q .normal))
  (stop:∀(D:Nat) (c:Code) (s:σ),Ix c s->At n E (C.mk' D) (Hx c s) (F8 none P c Q)):
  At n E C H (F8 none P (Code.rangeFunc g #[p1,p2] assign body) Q):=by
 intro a w hf hdf ho;subst hH;refine wpIn_rangeFunc ?_;intro fn hfn;rw[show(fe none).round=none from rfl];obtain⟨rec,hrec⟩:∃rec:LoopState->Option Code->Loop,rec=λst pe=>{state:=st,pending:=pe,fn,tmps:=a.tmps,params:= #[p1,p2],assign:=assign,body,defers:=w.heap.size}:=⟨_,rfl⟩
 obtain⟨D,hD⟩:∃D,D=w.heap.size:=⟨_,rfl⟩
 obtain⟨l,hl⟩:∃l,l=w.heap.size+1:=⟨_,rfl⟩
 obtain⟨W1,hW1⟩:∃W1,(w.alloc (.deferred (some []))).alloc (.loop (rec .ready none))=W1:=⟨_,rfl⟩
 have hb1:Below w.heap.size w W1:=by
  rw[<-hW1];exact((Below.refl _ w).alloc (L6 _) _).alloc (by simp) _
 have hL1:W1.heap[l]?=some (.loop (rec .ready none)):=by
  rw[<-hW1,hl];have:=World.alloc_heap_new (w.alloc (.deferred (some []))) (.loop (rec .ready none));rwa[World.size_alloc] at this
 have hK1:W1.heap[D]?=some (.deferred (some [])):=by
  rw[<-hW1,hD];exact(Below.heap_alloc _ _ _ (by simp)).trans (World.alloc_heap_new w _)
 have ho1:B7 C (H' 0 s0) W1:=ho.below hb1;have hCW:=ho.X4.size;have hCw:=ho.base.size;have hDm:D∉Iy C.marks:=λhm=>by
  have:=(T1.1 (ho.mark.2 D hm).2).1;omega
 have hlW:l<W1.heap.size:=(T1.1 hL1).1;have hDW:D<W1.heap.size:=(T1.1 hK1).1;obtain⟨G,hG⟩:∃G:Nat->Prop,G=λk=>k∈F1 (H' 0 s0)\/k=l:=⟨_,rfl⟩
 have hold:∀{H:List C2},B7 C H W1->True:=λ_=>trivial
 let J:Nat->(Nat->Prop)->B6->Prop:=λi B W=>∃s,I i s/\(B=λk=>k∈F1 (H' i s)\/k=l)/\B7 C (H' i s) W/\(∀k∈F1 (H' i s),W1.heap.size<=k\/k∈F1 (H' 0 s0))/\M0 W1 G W/\W.heap[l]?=some (.loop (rec .ready none))/\W.heap[D]?=some (.deferred (some []))
 let Jx:(Nat->Prop)->B6->Prop:=λB W=>∃c s,Ix c s/\(B=λk=>k∈F1 (Hx c s)\/k=l)/\B7 C (Hx c s) W/\M0 W1 G W/\W.heap[l]?=some (.loop (rec .done (some c)))/\W.heap[D]?=some (.deferred (some []))
 have ownF:∀{H:List C2} {W W':B6},B7 C H W->W1.heap.size<=W.heap.size->M0 W (λk=>W1.heap.size<=k/\¬(k∈F1 H\/k=l)) W'->B7 C H W':=λ{H W W'} h hs hF=>by
  have hsz:=hb1.size;refine⟨h.X4.trans hF (λk hk hk'=>absurd hk'.1 (by omega)),h.base.trans hF (λk hk hk'=>absurd hk'.1 (by omega)),λq hq=>Ge (h.ok q hq) hF.size λk hk=>hF.old k (OO (h.ok q hq) k hk) (λhk'=>hk'.2 (.inl (Bm.2 ⟨q,hq,hk⟩))),h.nodup,h.X8,h.sub,h.mark.1,λD' hD'=>⟨(h.mark.2 D' hD').1,?_⟩⟩;have hlt:D'<w.heap.size:=(T1.1 (ho.mark.2 D' hD').2).1;exact(hF.old D' (T1.1 (h.mark.2 D' hD').2).1 (λhk'=>absurd hk'.1 (by omega))).trans (h.mark.2 D' hD').2
 have frmF:∀{W W':B6} {B:Nat->Prop},M0 W1 G W->M0 W (λk=>W1.heap.size<=k/\¬B k) W'->M0 W1 G W':=λh hF=>h.trans hF (λk hk hk'=>absurd hk'.1 (by omega));have keepH:∀{W W':B6} {B:Nat->Prop} {k:Nat} {o:Obj},M0 W (λk=>W1.heap.size<=k/\¬B k) W'->k<W1.heap.size->W.heap[k]?=some o->W'.heap[k]?=some o:=λhF hk hko=>(hF.old _ (T1.1 hko).1 (λhk'=>absurd hk'.1 (by omega))).trans hko;have hJst:∀i B W W',J i B W->M0 W (λk=>W1.heap.size<=k/\¬B k) W'->J i B W':=by
  rintro i B W W' ⟨s,h1,hBe,h2,h3,h4,h5,h6⟩ hF;exact⟨s,h1,hBe,ownF h2 h4.size (by rw[hBe] at hF;exact hF),h3,frmF h4 hF,keepH hF hlW h5,keepH hF hDW h6⟩
 have hxst:∀B W W',Jx B W->M0 W (λk=>W1.heap.size<=k/\¬B k) W'->Jx B W':=by
  rintro B W W' ⟨c,s,h1,hBe,h2,h4,h5,h6⟩ hF;exact⟨c,s,h1,hBe,ownF h2 h4.size (by rw[hBe] at hF;exact hF),frmF h4 hF,keepH hF hlW h5,keepH hF hDW h6⟩
 have hcall:=hseq W1 G (λk=>k∈F1 (H' 0 s0)\/k=l) (by rintro k hk;rw[hG] at hk;rcases hk with hk|rfl;exact .inl hk;exact .inr ⟨_,hL1⟩) ho1 l J Jx
  (λi B W ⟨s,_,hBe,h2,_,h4,h5,_⟩=>⟨h4,λk hk=>by
   rw[hBe] at hk;rcases hk with hk|rfl
   ·exact h2.lt k hk
   ·exact(T1.1 h5).1⟩) (λB W ⟨c,s,_,_,_,h4,_⟩=>h4) hJst hxst ?_ ⟨s0,h0,rfl,ho1,λk hk=>.inr hk,M0.refl _ _,hL1,hK1⟩
 ·refine⟨l,[{target:=.collected D,args:= #[]}],W1,{target:=.fn (.func gf) lb.toArray,args:= #[.func (.yield l) #[] #[]]},W1,gf,(yv l::lb).toArray,W1,?_,?_,?_,?_,λh=>by simp[fe,Fence.wide] at h,?_⟩
  ·rw[<-hW1,hrec,hl,hD];exact run_enterLoop_outer _ _ _ _ _
  ·simp only[resolve,hf.eval hg];simp[go_sem,Deferred.ofValue]
  ·intro f' hf';trivial
  ·simp[invoke,go_sem,Ud he]
  ·refine QE.2 (hcall.mono ?_);have hdf':DF (C.mk' D) {a with defers:={target:=.collected D,args:= #[]}::a.defers}:=by
    unfold DF at hdf⊢;simp[I3.mk',OD,hdf]
   rintro e W2 ⟨⟨v,rfl⟩,B,(⟨s,h1,_,h2,h3,h4,h5,h6⟩|⟨c,s,h1,_,h2,h4,h5,h6⟩)⟩
   ·refine⟨none,_,by have:=run_endLoop (P:=P) h5 (by rw[hrec];simp);rw[hrec] at this;exact this,?_⟩;exact done D s h1 _ _ ⟨hf.size,hf.get⟩ hdf' (B7.mk' (h2.UU h5 (by omega) (by omega) _) ((World.putObj_heap_other (by omega)).trans h6) (by omega) hDm)
   ·refine⟨some c,_,by have:=run_endLoop (P:=P) h5 (by rw[hrec];simp);rw[hrec] at this;exact this,?_⟩;exact stop D c s h1 _ _ ⟨hf.size,hf.get⟩ hdf' (B7.mk' (h2.UU h5 (by omega) (by omega) _) ((World.putObj_heap_other (by omega)).trans h6) (by omega) hDm)
 ·
  rintro i B x W hx ⟨s,h1,hBe,h2,h3,h4,h5,h6⟩;have hy:=run_yield (P:=P) (args:= #[x.1,x.2]) h5 (by rw[hrec];rfl);rw[hrec] at hy;refine⟨fn,_,_,body,hy,roundIn_of_wpIn trivial ?_⟩;have hE1:U2 n ((p1,x.1)::E) {tmps:=a.tmps.setIfInBounds p1 x.1,defers:=[]}:=U2.put (d:=some p1) (a:={a with defers:=[]}) ⟨hf.size,hf.get⟩ (by simpa[FQ] using hp1);have hE2:U2 n ((p2,x.2)::(p1,x.1)::E) {tmps:=(a.tmps.setIfInBounds p1 x.1).setIfInBounds p2 x.2,defers:=[]}:=U2.put (d:=some p2) hE1 (by simpa[FQ] using hp2);have hfold:(#[p1,p2].zip #[x.1,x.2]).foldl (λtmps (t,a)=>tmps.setIfInBounds t a) a.tmps=(a.tmps.setIfInBounds p1 x.1).setIfInBounds p2 x.2:=by simp
  show assign.wpIn (fe (some l)) 0 P _ {tmps:=(#[p1,p2].zip #[x.1,x.2]).foldl (λtmps (t,a)=>tmps.setIfInBounds t a) a.tmps,defers:=[]} W;rw[hfold];refine wpIn_mono (asg l i x s W hx h1 h2 _ _ hE2 rfl h2.Gl) ?_;rintro e1 a1 w1 hq1;cases e1 with
  |normal=>
   obtain⟨hd1,j,hf1,hin1⟩:=hq1;have ho2:=h2.Qc hin1;have hfr1:M0 W (λk=>k∈F1 (H' i s)) w1:=by obtain⟨b,F,hin1⟩:=hin1;exact hin1.X4
   have hm1:∀k∈F1 (H1 i x s j),W.heap.size<=k\/k∈F1 (H' i s):=λk hk=>by obtain⟨b,F,hin1⟩:=hin1;exact(hin1.X8 k hk).1
   have h5':w1.heap[l]?=some (.loop (rec .ready none)):=(hfr1.old l (T1.1 h5).1 (h2.Ql h5 rfl)).trans h5;have h6':w1.heap[D]?=some (.deferred (some [])):=(hfr1.old D (T1.1 h6).1 (h2.Ql h6 rfl)).trans h6;refine⟨_,run_beginRound h5' (by rw[hrec]),?_⟩;have hlt:l<w1.heap.size:=(T1.1 h5').1;obtain⟨Wb,hWb⟩:∃Wb,Wb=w1.putObj l (.loop {rec .ready none with state:=.busy}):=⟨_,rfl⟩
   have hlb:Wb.heap[l]?=some (.loop (rec .busy none)):=by rw[hWb,World.putObj_heap_same hlt,hrec]
   have hDb:Wb.heap[D]?=some (.deferred (some [])):=by rw[hWb,World.putObj_heap_other (by omega)];exact h6'
   have hob:B7 C (H1 i x s j) Wb:=by rw[hWb];exact ho2.UU h5' (by omega) (by omega) _
   have hfW:M0 W (λk=>k∈F1 (H' i s)\/k=l) Wb:=by
    rw[hWb];exact(hfr1.mono (λk _ h=>.inl h)).trans (Sq w1 l _) (λk hk e=>.inr e)
   have hfb:M0 W1 G Wb:=h4.trans hfW (λk hk e=>by
    rw[hG];rcases e with e|e
    ·exact .inl ((h3 k e).resolve_left (by omega))
    ·exact .inr e)
   have hlW':l<W.heap.size:=(T1.1 h5).1;have hsz1:=h4.size;have hsz2:=hfr1.size;have hsz3:=hfW.size;rw[<-hWb];refine wpIn_mono (round l i x s j Wb hx h1 hob _ _ hf1 (by simp[DF,hd1]) hob.Gl) ?_;have fin:∀(jump:Option Code) (H3:List C2) (W3:B6),O0 Wb (λk=>k∈F1 (H1 i x s j)) H3 W3->∃W4,(Instr.endRound l jump).run P W3=.ok (.bool jump.isNone) W4/\B7 C H3 W4/\(∀k∈F1 H3,W1.heap.size<=k\/k∈F1 (H' 0 s0))/\M0 W1 G W4/\
     W4.heap[l]?=some (.loop (rec (if jump.isNone then .ready else .done) jump))/\W4.heap[D]?=some (.deferred (some []))/\M0 W B W4/\∀k,(k∈F1 H3\/k=l)->B k\/W.heap.size<=k:=by
    intro jump H3 W3 hin;have ho3:=hob.Qc hin;obtain⟨b,F,hin⟩:=hin;have hl3:W3.heap[l]?=some (.loop (rec .busy none)):=(hin.X4.old l (T1.1 hlb).1 (hob.Ql hlb rfl)).trans hlb;have hD3:W3.heap[D]?=some (.deferred (some [])):=(hin.X4.old D (T1.1 hDb).1 (hob.Ql hDb rfl)).trans hDb;have hW3:M0 W (λk=>k∈F1 (H' i s)\/k=l) W3:=hfW.trans hin.X4 (λk hk hB=>.inl ((hm1 k hB).resolve_left (by omega)));have hf3:M0 W1 G W3:=h4.trans hW3 (λk hk e=>by
     rw[hG];rcases e with e|e
     ·exact .inl ((h3 k e).resolve_left (by omega))
     ·exact .inr e)
    have he3:=run_endRound (P:=P) jump hl3;rw[hrec] at he3;have hm3:∀k∈F1 H3,W.heap.size<=k\/k∈F1 (H' i s):=λk hk=>by
     rcases(hin.X8 k hk).1 with h|h
     ·have h:Wb.heap.size<=k:=h;exact .inl (by omega)
     ·exact hm1 k h
    refine⟨_,he3,ho3.UU hl3 (by omega) (by omega) _,λk hk=>?_,hf3.trans (Sq W3 l _) (λk hk e=>by rw[hG];exact .inr e),by rw[World.putObj_heap_same (T1.1 hl3).1,hrec],(World.putObj_heap_other (by omega)).trans hD3,?_,λk hk=>?_⟩
    ·rcases hm3 k hk with h|h
     ·exact .inl (by omega)
     ·exact h3 k h
    ·rw[hBe];exact hW3.trans (Sq W3 l _) (λk hk e=>.inr e)
    ·rw[hBe];rcases hk with hk|rfl
     ·rcases hm3 k hk with h|h
      ·exact .inr h
      ·exact .inl (.inl h)
     ·exact .inl (.inr rfl)
   rintro e a3 W3 hq;cases e with
   |normal=>
    obtain⟨s',hi',hin⟩:=hq;obtain⟨W4,hr,q1,q2,q3,q4,q5,q6,q7⟩:=fin none _ W3 hin;exact⟨_,W4,hr,_,q6,q7,.inl ⟨rfl,s',hi',rfl,q1,q2,q3,q4,q5⟩⟩
   |ret=>
    obtain⟨s',hi',hin⟩:=hq;obtain⟨W4,hr,q1,q2,q3,q4,q5,q6,q7⟩:=fin (some .ret) _ W3 hin;exact⟨_,W4,hr,_,q6,q7,.inr ⟨rfl,.ret,s',hi',rfl,q1,q3,q4,q5⟩⟩
   |exit id=>
    obtain⟨s',hi',hin⟩:=hq;obtain⟨W4,hr,q1,q2,q3,q4,q5,q6,q7⟩:=fin (some (.exit id)) _ W3 hin;exact⟨_,W4,hr,_,q6,q7,.inr ⟨rfl,.exit id,s',hi',rfl,q1,q3,q4,q5⟩⟩
   |goto t=>
    obtain⟨s',hi',hin⟩:=hq;obtain⟨W4,hr,q1,q2,q3,q4,q5,q6,q7⟩:=fin (some (.goto t)) _ W3 hin;exact⟨_,W4,hr,_,q6,q7,.inr ⟨rfl,.goto t,s',hi',rfl,q1,q3,q4,q5⟩⟩
   |panic ch=>exact hq.elim
   |outgrown=>exact hq.elim
  |ret=>exact hq1.elim
  |exit id=>exact hq1.elim
  |goto t=>exact hq1.elim
  |panic ch=>exact hq1.elim
  |outgrown=>exact hq1.elim
end
section
attribute [local irreducible] F8 D3 Exit.then Exit.inBlock Exit.noGoto wpQuiet Calls fin At G9 L3 L7 RQ
theorem kQ:∀(l:List F5) (h:0<l.length),hd l=l[0].key
 |x::r,_=>rfl
def Bq(fs:List (List F5))(n:Nat):Int:=match Bn fs n with
 |none=> -1
 |some c=>(c:Int)
theorem uX{fs:List (List F5)}{b:Nat}(h:fs.getD b []=[]):Bn fs (b+1)=Bn fs b:=by
 conv=>lhs;unfold Bn
 split
 ·rename_i hn;rw[if_pos h,hn]
 ·rename_i c hn;rw[if_neg (λh'=>h'.1 h),hn]
theorem an3{fs:List (List F5)}{b:Nat}(h:fs.getD b []≠[])(hn:Bn fs b=none):Bn fs (b+1)=some b:=by
 conv=>lhs;unfold Bn
 rw[hn];simp only[h,if_false]
theorem au4{fs:List (List F5)}{b c:Nat}(h:fs.getD b []≠[])(hn:Bn fs b=some c):Bn fs (b+1)=if Op.bytesLess (hd (fs.getD b [])) (hd (fs.getD c []))=true then some b else some c:=by
 conv=>lhs;unfold Bn
 rw[hn];simp only[h,ne_eq,not_false_eq_true,true_and]
theorem ae5(ls:H2)(fs:List (List F5))(w:B6)(hT:Z6 w ES ls fs):
  I6 122 #[.agg ls.toArray] w (.int .i64 (Bq fs 16)):=by
 have hl1:=hT.l1;have h16:ls.toArray.size=16:=by simp[hl1]
 refine J5 func122 O ntmps122 O<|A3<|F0 O λgz0=>A5 O<|A3<|A5 O<|B5<|G6 0 O h16<|A4 O<|A6<|C7 ?_;rotate_left;refine DG (λb:Nat=>b<=16) (λb=>[(1,.pointer (some ⟨gz0,0,none⟩)),(3,.int .i64 (Bq fs b)),(6,.agg ls.toArray),(7,.int .i64 b)]) (λb=>16-b) 0 (R5 _) ⟨rfl,rfl,rfl,rfl,trivial⟩ ?_;rintro b hb;by_cases hb16:b<16
 ·obtain⟨v,hv,hvi⟩:=hT.at' b hb16;have hva:ls.toArray[b]?=some v:=by simpa using hv
  obtain⟨A1,c1,rfl⟩:=hvi.1.len;by_cases hf:fs.getD b []=[]
  ·have e:Bq fs (b+1)=Bq fs b:=by rw[Bq,uX hf];rfl
   have hlen:(fs.getD b []).length=0:=by rw[hf];rfl
   refine A3<|H9 O<|A6<|C8<|E7 O (by omega)<|D6<|C8<|C7<|B4 O<|B9 (BZ (l:=16) (q:=b) (by kernel_rfl) O O hb16 hva) O<|E6 O<|A5 O<|C8<|R2 (by kernel_rfl)<|G3 O<|Sn O<|NL O<|G3 O<|Aw (t:=14) (d:=false) O (decide_eq_false (by omega))<|P1 O<|P1 O<|P1 O<|P1 O<|P1 O<|P1 O<|P1 O<|P1 O<|P1 O<|P1 O<|P1 O<|P1 O<|P1 O<|P1 O<|P1 O<|Jw O<|R4<|E2<|M8 O<|P5<|F4 ?_;refine E2<|C5<|N6 O (by omega)<|A4 O<|A6 ?_;rotate_left;refine DB (b+1) (by omega) (by omega) ⟨rfl,?_,rfl,rfl,trivial⟩;rw[e];rfl
  ·have hpos:0<(fs.getD b []).length:=List.length_pos_iff.2 hf;obtain⟨gb,o,c2,hve,hcc,hlt,hce⟩:=hvi.1.form hpos;simp only[Value.slice.injEq,true_and] at hve;obtain⟨rfl,rfl⟩:=hve;have hx:=hce 0 hpos;have hhd:hd (fs.getD b [])=(fs.getD b [])[0].key:=kQ _ hpos;cases hl:Bn fs b with
   |none=>
    have e0:Bq fs b= -1:=by rw[Bq,hl]
    have e1:Bq fs (b+1)=b:=by rw[Bq,an3 hf hl]
    rw[e0];refine A3<|H9 O<|A6<|C8<|E7 O (by omega)<|D6<|C8<|C7<|B4 O<|B9 (BZ (l:=16) (q:=b) (by kernel_rfl) O O hb16 hva) O<|E6 O<|A5 O<|C8<|R2 (by kernel_rfl)<|G3 O<|Sn O<|NL O<|G3 O<|Aw (t:=14) (d:=true) O (decide_eq_true (by omega))<|I5 O<|G3 O<|I5 O<|AD O<|I5 O<|G3 O<|Aw (t:=17) (d:=true) O (decide_eq_true (by omega))<|P1 O<|P1 O<|P1 O<|P1 O<|P1 O<|P1 O<|P1 O<|P1 O<|P1 O<|P1 O<|P1 O<|I5 O<|Ek O<|Ek O ?_;refine R4<|E2<|R1 O<|C5<|A4 O<|E6 O<|H6<|F4<|E2<|C5<|N6 O (by omega)<|A4 O<|A6 ?_;rotate_left;refine DB (b+1) (by omega) (by omega) ⟨rfl,?_,rfl,rfl,trivial⟩;rw[e1];rfl
   |some c=>
    obtain⟨hcb,hcne,_⟩:=Uf fs b c hl;obtain⟨vc,hvc,hvci⟩:=hT.at' c (by omega);have hvca:ls.toArray[0+c]?=some vc:=by rw[Y3];simpa using hvc
    have hposc:0<(fs.getD c []).length:=List.length_pos_iff.2 hcne;obtain⟨gc,oc,cc,rfl,hccc,hltc,hcec⟩:=hvci.1.form hposc;have hy:=hcec 0 hposc;have hhdc:hd (fs.getD c [])=(fs.getD c [])[0].key:=kQ _ hposc;have e0:Bq fs b=c:=by rw[Bq,hl]
    have hnx:=au4 hf hl;rw[hhd,hhdc] at hnx;rw[e0];generalize (fs.getD b [])[0]=x at hx hnx;generalize (fs.getD c [])[0]=y at hy hnx;cases hless:Op.bytesLess x.key y.key
    ·rw[hless,if_neg (by simp)] at hnx;have e1:Bq fs (b+1)=c:=by rw[Bq,hnx]
     refine A3<|H9 O<|A6<|C8<|E7 O (by omega)<|D6<|C8<|C7<|B4 O<|B9 (BZ (l:=16) (q:=b) (by kernel_rfl) O O hb16 hva) O<|E6 O<|A5 O<|C8<|R2 (by kernel_rfl)<|G3 O<|Sn O<|NL O<|G3 O<|Aw (t:=14) (d:=true) O (decide_eq_true (by omega))<|I5 O<|G3 O<|I5 O<|AD O<|I5 O<|G3 O<|Aw (t:=17) (d:=false) O (decide_eq_false (by omega))<|I5 O<|G3 O<|I5 O<|LS (j:=0) O hpos<|I5 O<|I1 O<|I5 O<|r5 (AI O (λw' ho=>(hx.K6 ho.plain).key)) O<|I5 O<|G3 O<|I5 O<|r5 (KZ (len:=16) (j:=c) (by kernel_rfl) O O (by omega)) O<|I5 O<|r5 (c7 0 O hvca) O ?_;refine I5 O<|LS (j:=0) O hposc<|I5 O<|I1 O<|I5 O<|r5 (AI O (λw' ho=>(hy.K6 ho.plain).key)) O<|I5 O<|r5 (dT O O) O<|I5 O<|Jw O<|Ek O<|R4<|E2<|Y7 O (by exact hless)<|P5<|F4<|E2<|C5<|N6 O (by omega)<|A4 O<|A6 ?_;rotate_left;refine DB (b+1) (by omega) (by omega) ⟨rfl,?_,rfl,rfl,trivial⟩;rw[e1];rfl
    ·rw[hless,if_pos rfl] at hnx;have e1:Bq fs (b+1)=b:=by rw[Bq,hnx]
     refine A3<|H9 O<|A6<|C8<|E7 O (by omega)<|D6<|C8<|C7<|B4 O<|B9 (BZ (l:=16) (q:=b) (by kernel_rfl) O O hb16 hva) O<|E6 O<|A5 O<|C8<|R2 (by kernel_rfl)<|G3 O<|Sn O<|NL O<|G3 O<|Aw (t:=14) (d:=true) O (decide_eq_true (by omega))<|I5 O<|G3 O<|I5 O<|AD O<|I5 O<|G3 O<|Aw (t:=17) (d:=false) O (decide_eq_false (by omega))<|I5 O<|G3 O<|I5 O<|LS (j:=0) O hpos<|I5 O<|I1 O<|I5 O<|r5 (AI O (λw' ho=>(hx.K6 ho.plain).key)) O<|I5 O<|G3 O<|I5 O<|r5 (KZ (len:=16) (j:=c) (by kernel_rfl) O O (by omega)) O<|I5 O<|r5 (c7 0 O hvca) O ?_;refine I5 O<|LS (j:=0) O hposc<|I5 O<|I1 O<|I5 O<|r5 (AI O (λw' ho=>(hy.K6 ho.plain).key)) O<|I5 O<|r5 (dT O O) O<|I5 O<|Jw O<|Ek O<|R4<|E2<|k8 O (by exact hless)<|C5<|A4 O<|E6 O<|H6<|F4<|E2<|C5<|N6 O (by omega)<|A4 O<|A6 ?_;rotate_left;refine DB (b+1) (by omega) (by omega) ⟨rfl,?_,rfl,rfl,trivial⟩;rw[e1];rfl
 ·obtain rfl:b=16:=by omega
  exact A3<|H9 O<|A6<|C8<|E0 O (by omega)<|S4<|J0<|J0<|S5<|E2<|B4 O<|A5 O<|D4<|E4 O λw9 ho9=>⟨rfl,ho9.plain⟩
theorem sU(ls:H2)(vs:List Int)(w:B6):Calls prog 73 #[GN ls vs] w λe w'=>∃h,e=.returned (.func (.func 121) #[] #[.pointer (some ⟨h,0,none⟩)])/\Below w.heap.size w w'/\w.heap.size<=h/\w'.heap[h]?=some (.cells (Z8 ls vs) 26):=by
 refine J5 func73 O ntmps73 O<|A3<|F0 O λgz0=>A5 O<|A3<|B9 (Gx O) O<|A5 O<|D4<|E4 O λw9 ho9=>?_;exact⟨_,rfl,ho9.plain,(ho9.Yr (j8 ..)).1,(ho9.Yr (j8 ..)).2⟩
def MZ(xs:List F5):List (Value×Value):=(List.range xs.length).map λ(i:Nat)=>(.int .i64 (i:Int),Gr (xs.getD i default))
theorem TZ(xs:List F5):(MZ xs).length=xs.length:=by simp[MZ]
theorem WC{xs:List F5}{i:Nat}(h:i<xs.length):(MZ xs)[i]?=some (.int .i64 (i:Int),Gr xs[i]):=by simp[MZ,h,W6]
theorem FF.move{w w':B6}{G:Nat->Prop}{gb o:Nat}{x:F5}(h:FF w gb o x)(hG:¬G gb)(hf:M0 w G w'):FF w' gb o x:=λj u hu=>by
 have:=h j u hu;exact(World.cell?_of_block (hf.old gb (World.block_lt_of_cell? _ _ this) hG)).trans this
theorem ar2{w:B6}{B:Nat->Prop}{gb o c:Nat}{x:F5}{r:List F5}(h:IL w B (.slice (some ⟨gb,o,none⟩) (x::r).length c) (x::r)):
  IL w B (.slice (some (if c=1 then⟨gb,o,none⟩ else(⟨gb,o,none⟩:Addr).add (1*5))) ((x::r).length-1) (c-1)) r:=by
 have hB:=h.2 (by simp) gb (by simp[Value.ownBlock]);have hlen:(x::r).length-1=r.length:=by simp
 rcases h.1 with⟨e,_⟩|⟨A,c',e,hc,h2⟩
 ·cases e
 ·simp only[Value.slice.injEq,Ck,true_and] at e;obtain⟨rfl,rfl⟩:=e;have hc:r.length+1<=c:=by simpa using hc
  rw[hlen];refine⟨.inr ⟨if c=1 then⟨gb,o,none⟩ else(⟨gb,o,none⟩:Addr).add (1*5),c-1,rfl,by omega,λj u hu=>?_⟩,λhl g hg=>?_⟩
  ·have hj:j<r.length*5:=by have:=(N5.1 hu).1;rwa[TH] at this
   rw[if_neg (by omega),pP];refine h2 (1*5+j) u ?_;simp only[Ah,DL];rw[j4 (by rw[JK];omega),JK,show 1*5+j-5=j by omega];exact hu
  ·have hc1:¬c=1:=by omega
   rw[if_neg hc1,Fi] at hg;have:g=gb:=by simpa[Value.ownBlock] using hg.symm
   subst this;exact hB
theorem Z6.setAt{w:B6}{B:Nat->Prop}{ls:H2}{fs:List (List F5)}(h:Z6 w B ls fs){c:Nat}(hc:c<16){v:Value}{r:List F5}(hv:IL w B v r):Z6 w B (ls.set c v) (fs.set c r):=
 ⟨by rw[Kg];exact h.l1,by rw[Kg];exact h.l2,λi hi=>by
  have h1:=h.l1;have h2:=h.l2;by_cases e:c=i
  ·subst e;exact⟨v,Pf (by omega),by rw[W6,Pf (by omega)];exact hv⟩
  ·obtain⟨u,q1,q2⟩:=h.at' i hi;exact⟨u,by rw[Ux e];exact q1,by rw[W6,Ux e,<-W6];exact q2⟩⟩
theorem af0{n:Nat}{gs:List (List F5)}(hl:gs.length=16)(h:Bn gs 16=none):w4 n gs=[]:=by
 cases n with
 |zero=>rfl
 |succ n=>unfold w4;rw[hl,h]
theorem aA8{n c:Nat}{gs:List (List F5)}{x:F5}{r:List F5}(hl:gs.length=16)(h:Bn gs 16=some c)(hc:gs.getD c []=x::r)(hn:gs.flatten.length<=n):
  0<n/\w4 n gs=x::w4 (n-1) (gs.set c r)/\(gs.set c r).flatten.length<=n-1:=by
 have hg:gs[c]?=some (x::r):=by
  rw[W6] at hc;cases h1:gs[c]? with
  |none=>rw[h1] at hc;simp at hc
  |some l=>rw[h1] at hc;simp at hc;rw[hc]
 have hp:=(Wz gs c x r hg).length_eq;simp only[T3] at hp;cases n with
 |zero=>omega
 |succ n=>
  refine⟨by omega,?_,by omega⟩
  conv=>lhs;unfold w4
  rw[hl,h];simp only[hc,QG,List.tail_cons];rfl
theorem SE:∀(n:Nat) (gs:List (List F5)),(w4 n gs).length<=n
 |0,gs=>by simp[w4]
 |n+1,gs=>by
  unfold w4;split
  ·simp
  ·split
   ·simp only[T3];have:=SE n (QG gs ‹Nat›);omega
   ·simp
def zG:Array Value:=(List.replicate 16 (Value.slice none 0 0)).toArray
theorem uK(ls:H2)(vs:List Int)(fs:List (List F5))(N:Nat){h tb:Nat}(w:B6)(G B0:Nat->Prop)(hc:w.heap[h]?=some (.cells (Z8 ls vs) tb))(hGh:¬G h)(hT:Z6 w G ls fs)(hN:N<=100000)(hfl:fs.flatten.length<=N):
  kK prog 121 [.pointer (some ⟨h,0,none⟩)] (MZ (w4 N fs)) G B0 w:=by
 intro l J Jx hJf hxf hst hxst hY h0;have hl1:=hT.l1;have hhlt:h<w.heap.size:=(T1.1 hc).1;have hcell:∀{w':B6},M0 w G w'->∀j v,ls[j]?=some v->w'.cell? ((⟨h,0+0,none⟩:Addr).add j)=some v:=λ{w'} hf j v hv=>by
  rw[Fi,show 0+0+j=j by omega];have h1:=(cell_of_row w h j _ tb (0,0) hc).trans (fK hl1 hv);exact(World.cell?_of_block (a:=⟨h,j,none⟩) (hf.old h hhlt hGh)).trans h1
 have hJf':∀i B W,J i B W->M0 w G W:=λi B W hj=>(hJf i B W hj).1;have cL:∀{us:H2} {gs:List (List F5)} {w':B6},Z6 w G us gs->M0 w G w'->I6 122 #[.agg us.toArray] w' (.int .i64 (Bq gs 16)):=λht hf=>ae5 _ _ _ (ht.move hf (λ_ _ h=>h.elim));have hone:∀{us:H2} {gs:List (List F5)},Z6 w G us gs->(us.toArray.toList.all (·.oneCell'))=true:=λ{us gs} ht=>by
  rw[f5];intro u hu;obtain⟨i,hi,rfl⟩:=ML (by simpa using hu:u∈us);obtain⟨v,q1,q2⟩:=ht.at' i (by have:=ht.l1;omega);rw[T8 hi] at q1;cases q1;exact q2.1.one
 have h16:ls.toArray.size=16:=by simp[hl1]
 refine tT G func121 O ntmps121 O<|A3<|D9 O<|B9 (Ip (vs:=ls) (by rw[hl1];kernel_rfl) O (λw' ho=>hcell ho.X4)) O<|E3 Tryz.zeroValue23 O λgz0=>q8 (i:=0) (cs:=zG) (vs:=ls.toArray) (by rw[h16];kernel_rfl) O O (hone hT) O (by rw[h16];rfl)<|I0<|A5 O<|A3<|G6 0 O h16<|F3 122 (A7 O) (λw ho=>cL hT ho.X4) O<|A5 O<|C7 ?_;rotate_left;refine aZ λw1 ho1=>?_;have hJ1:J 0 B0 w1:=hst 0 B0 w w1 h0 (ho1.base.mono λk _ hk=>by simp[OI,F1] at hk);refine uW (G:=G) (B:=B0) (J:=J) hst (λs:List Value×List (List F5)×Nat=>s.2.2) (λs=>Z6 w G s.1 s.2.1/\w4 (N-s.2.2) s.2.1=(w4 N fs).drop s.2.2/\s.2.1.flatten.length<=N-s.2.2/\s.2.2<=(w4 N fs).length)
  (λs=>[(0,yv l),(3,.pointer (some ⟨gz0,0,none⟩)),(4,.int .i64 s.2.2),(5,.int .i64 (Bq s.2.1 16))]) (λs=>[.B1 gz0 23 s.1.toArray]) (λs=>N-s.2.2) (ls,fs,0)
  ⟨hT,rfl,by simpa using hfl,R5 _⟩ hJ1 (λk hk=>⟨((ho1.X8 k hk).1.resolve_right id),λhb=>by
   have h1:=(hJf 0 B0 w h0).2 k hb;have h2:=(ho1.X8 k hk).1.resolve_right id;have h2:w.heap.size<=k:=h2;omega⟩) rfl ⟨rfl,rfl,rfl,rfl,trivial⟩ ?_
 rintro⟨us,gs,i⟩ B W ⟨hTu,hm,hlen,hiL⟩ hJ hB;simp only at hTu hm hlen hiL hJ hB;have hgl:=hTu.l2;have hmlen:=SE N fs;have hul:=hTu.l1;cases hl:Bn gs 16 with
 |none=>
  have hx0:Bq gs 16= -1:=by rw[Bq,hl]
  rw[af0 hgl hl] at hm;have hxi:(w4 N fs).length<=i:=List.drop_eq_nil_iff.1 hm.symm;simp only[hx0];refine B5<|A4 O<|O1 O<|A6<|E0 O (by decide)<|S4<|J0<|J0<|S5<|K7 O λw9 ho9=>?_;refine⟨⟨_,rfl⟩,B,.inl ?_⟩;rw[TZ];have hij:i<=(w4 N fs).length:=hiL;obtain rfl:i=(w4 N fs).length:=by omega
  exact hst _ _ _ _ hJ (Qh ho9 hB)
 |some c=>
  obtain⟨hc16,hcne,_⟩:=Uf gs 16 c hl;obtain⟨x,r,e1,e2⟩:=getD_some hcne;obtain⟨hn0,hm1,hlen1⟩:=aA8 hgl hl e2 hlen;rw[hm1] at hm;have hilt:i<(w4 N fs).length:=by
   refine Classical.byContradiction λhx=>?_;rw[JE (by omega)] at hm;cases hm
  rw[MG hilt] at hm;injection hm with hxe hm
  have hxi:(MZ (w4 N fs))[i]?=some (.int .i64 (i:Int),Gr x):=by rw[WC hilt,hxe]
  have hx0:Bq gs 16=c:=by rw[Bq,hl]
  obtain⟨vc,hvc,hvci⟩:=hTu.at' c hc16;rw[e2] at hvci;obtain⟨gc,oc,cc,rfl,hccc,hltc,hcec⟩:=hvci.1.form (by simp);have hnG:¬G gc:=hvci.2 (by simp) gc (by simp[Value.ownBlock]);have hx1:FF w gc (oc+0*5) x:=hcec 0 (by simp);have hvca:us.toArray[0+0+c]?=some (.slice (some ⟨gc,oc,none⟩) (x::r).length cc):=by rw[show 0+0+c=c by omega];simpa using hvc
  have hpos:0<(x::r).length:=by simp
  have htail:=ar2 hvci;have hT2:=hTu.setAt hc16 htail;obtain⟨vt,hvt⟩:∃vt,vt=(Value.slice (some (if cc=1 then⟨gc,oc,none⟩ else(⟨gc,oc,none⟩:Addr).add (1*5))) ((x::r).length-1) (cc-1)):=⟨_,rfl⟩
  rw[<-hvt] at hT2 htail;have hlt:Nat.blt (0+0+c) us.toArray.size=true:=by simp;omega
  have hset:us.toArray.setIfInBounds (0+0+c) vt=(us.set c vt).toArray:=by rw[show 0+0+c=c by omega];simp
  have hs16:(us.toArray.setIfInBounds (0+0+c) vt).size=16:=by simp[hul]
  have cL2:∀{w':B6},M0 w G w'->I6 122 #[.agg (us.toArray.setIfInBounds (0+0+c) vt)] w' (.int .i64 (Bq (gs.set c r) 16)):=λhf=>by rw[hset];exact cL hT2 hf
  have hone2:=htail.1.one;subst hvt;simp only[hx0];refine B5<|A4 O<|O1 O<|A6<|E7 O (by omega)<|D6<|C8<|C7<|B5<|A4 O<|A4 O<|A4 O<|B9 (KZ (len:=16) (j:=c) (by kernel_rfl) O O hc16) O<|B9 (c7 0 O hvca) O<|Q4 (j:=0) O hpos<|U6 (vs:=c6 x) O (λw' ho=>(hx1.move hnG ho.X4).agg) ?_;rotate_left;refine vA (i:=i) (x1:=.int .i64 (i:Int)) (x2:=Gr x) O O O O hJf' hxf hst hJ hB (λW hj=>hY i B _ W hxi hj) (λB' W' hj hB'=>?_) (λB' W' hj hB'=>?_)
  ·refine J7 O<|A6<|M8 O<|D6<|B4 O<|A4 O<|B9 (KZ (len:=16) (j:=c) (by kernel_rfl) O O hc16) O<|B9 (c7 0 O hvca) O<|B9 (iI (sz:=5) (q:=1) (by kernel_rfl) O O ⟨by omega,hccc⟩) O<|B9 (KZ (len:=16) (j:=c) (by kernel_rfl) O O hc16) O<|Ce (i:=0) (by kernel_rfl) O O hone2 O hlt<|A6<|C5<|A4 O<|N6 O (by(first|omega|(simp only;omega)))<|E6 O<|H6<|F4<|E2<|C5<|G6 0 O hs16<|F3 122 (A7 O) (λw ho=>cL2 ho.X4) O<|A5 O ?_;have hdl:(w4 N fs).drop (i+1)=w4 (N-(i+1)) (gs.set c r):=by rw[<-hm,Nat.sub_sub]
   refine W5 λw9 ho9=>⟨((us.set c _,gs.set c r,i+1),B',w9),⟨⟨hT2,hdl.symm,by rw[<-Nat.sub_sub];exact hlen1,hilt⟩,hst _ _ _ _ hj (Qh ho9 hB'),hB'⟩,?_,⟨rfl,rfl,rfl,rfl,trivial⟩,rfl,?_⟩
   ·show N-(i+1)<N-i;omega
   ·have:=ho9.bU;simp only[List.set_cons_zero] at this;rw[hset] at this;exact this
  ·exact J7 O<|A6<|R1 O<|D4<|K0<|U3<|K0<|DO<|Ct O O λw9 ho9=>⟨⟨_,rfl⟩,B',.inr (hxst _ _ _ hj (Qh ho9 hB'))⟩
theorem ak2(L:List (List UInt8)):(D1 L).length=L.length:=by simp[D1]
theorem ae8{L:List (List UInt8)}{i:Nat}(h:i<L.length):(D1 L)[i]?=some (.string (bs L[i])):=by simp[D1,h]
theorem ao3{α:Type}{p:α->Bool}{L:List α}{i:Nat}(h:i<L.length):(L.take (i+1)).all p=((L.take i).all p&&p L[i]):=by
 rw[Rj h,YE,Pe,List.all_nil,Bool.and_true]
theorem zS{α:Type}{p:α->Bool}{L:List α}{i:Nat}(h:i<L.length)(hp:p L[i]=false):L.all p=false:=
 Ni.2 ⟨L[i],Fd h,by simp[hp]⟩
def Nf(fs:List (List F5))(vs:List Int)(L:List (List UInt8)):Int:=if y8 fs vs=false then 1 else if L.all w6 then 0 else 3
theorem aA0(ls:H2)(vs:List Int)(fs:List (List F5))(arg:Value)(L:List (List UInt8))(w:B6)(hG:j0 w)(hT:Z6 w ES ls fs)(hvs:vs.length=16)(hS:Ou fs)(hV:T7 w arg (D1 L))(hL:L.length<=1000):
  I6 72 #[GN ls vs,arg] w (.int .i64 (Nf fs vs L)):=by
 have hl:=ak2 L;have h32:=Md hT.l1 hvs;have cM:∀{w'},j0 w'->Z6 w' ES ls fs->I6 67 #[GN ls vs] w' (.bool (y8 fs vs)):=λg h=>Rw ls vs fs _ g h hvs hS;refine J5 func72 O ntmps72 O ?_;cases hm:y8 fs vs
 ·rw[hm] at cM;have hr:Nf fs vs L=1:=by rw[Nf,if_pos hm]
  rw[hr];exact A3<|F0 O λgz0=>A5 O<|B5<|G6 0 O h32<|F3 67 (A7 O) (λw ho=>cM (ho.Q8 hG id) (ho.XQ hT)) O<|J7 O<|A6<|R1 O<|A3<|A5 O<|D4<|K0<|E4 O λw9 ho9=>⟨rfl,ho9.plain⟩
 ·rw[hm] at cM;refine A3<|F0 O λgz0=>A5 O<|B5<|G6 0 O h32<|F3 67 (A7 O) (λw ho=>cM (ho.Q8 hG id) (ho.XQ hT)) O<|J7 O<|A6<|M8 O<|D6<|B5<|A4 O<|B9 (Ot (vs:=D1 L) (by kernel_rfl) O (λw ho=>ho.DT hV)) O<|A4 O<|A6<|C7 ?_;have hr:Nf fs vs L=if L.all w6 then 0 else 3:=by rw[Nf,hm,if_neg (by simp)]
  refine DG (λi:Nat=>i<=L.length/\(L.take i).all w6=true) (λi=>[(10,arg),(11,.int .i64 L.length),(12,.int .i64 i),(4,.int .i64 0)]) (λi=>L.length-i) 0 ⟨R5 _,rfl⟩ ⟨rfl,by rw[hl];rfl,rfl,rfl,trivial⟩ ?_;rintro i ⟨hi,hI⟩;by_cases hil:i<L.length
  ·obtain⟨gb,o,c,rfl,hc,hlt,hcell⟩:=hV.form (by omega);have hci:=hcell i _ (ae8 hil);have hI2:=ao3 (p:=w6) hil;have hF:=zS (p:=w6) hil;generalize L[i]=x at hci hI2 hF;cases hk:w6 x
   ·exact A3<|H9 O<|A6<|C8<|E7 O (by omega)<|D6<|C8<|C7<|A3<|B9 (AW _ O (by omega)) O<|B9 (AI O (λw' ho=>Below.o8 ho.plain hci)) O<|A5 O<|B4 O<|F3 33 (A7 O) (λw ho=>Ma x w (ho.Q8 hG id)) O<|J7 O<|A6<|k8 O (by(rw[hk];rfl))<|A3<|A5 O<|K3<|K0<|U3<|E4 O λw9 ho9=>⟨by rw[hr,hF hk];rfl,ho9.plain⟩
   ·refine A3<|H9 O<|A6<|C8<|E7 O (by omega)<|D6<|C8<|C7<|A3<|B9 (AW _ O (by omega)) O<|B9 (AI O (λw' ho=>Below.o8 ho.plain hci)) O<|A5 O<|B4 O<|F3 33 (A7 O) (λw ho=>Ma x w (ho.Q8 hG id)) O<|J7 O<|A6<|Y7 O (by(rw[hk];rfl))<|P5<|F4<|E2<|C5<|N6 O (by omega)<|A4 O<|A6 ?_;rotate_left;refine DB (i+1) ⟨by omega,by rw[hI2,hI,hk];rfl⟩ (by omega) ⟨rfl,rfl,rfl,rfl,trivial⟩
  ·obtain rfl:i=L.length:=by omega
   exact A3<|H9 O<|A6<|C8<|E0 O (by omega)<|S4<|J0<|J0<|S5<|E2<|A3<|A5 O<|D4<|E4 O λw9 ho9=>⟨by rw[hr,<-GQ (l:=L),hI];rfl,ho9.plain⟩
def Kw(fs:List (List F5))(vs:List Int)(a b:List UInt8):Int:=if y8 fs vs=false then 1 else if w6 a&&w6 b then 0 else 3
theorem pO(fs:List (List F5))(vs:List Int)(a:C9):Nf fs vs [a]=Kw fs vs a a:=by simp[Nf,Kw]
end
section
section
variable{P:Program}{n:Nat}{E:List (Nat×Value)}{C:I3}{H:List C2}{K:Act->World->Prop}
theorem aq2{h e:Nat}{cs:J2}(k:∀w1,h<w1.heap.size->w1.heap[h]?=some (.cells cs e)->h∉F1 H->C.W.heap.size<=w1.heap.size->At n E (C.re w1 H) H K):At n E C (.B1 h e cs::H) K:=λa w hf hd ho=>by
 have h1:w.heap[h]?=some (.cells cs e):=ho.get (i:=0) rfl;have h2:=ho.nodup;simp only[F1,DL,C2.blocks,GP,DM,Pb] at h2;exact k w (T1.1 h1).1 h1 h2.1 ho.X4.size a w hf hd (ho.sublist (L9 ..)).re
end
attribute [local irreducible] F8 D3 Exit.then Exit.inBlock Exit.noGoto wpQuiet Calls fin At G9 L3 L7 RQ
theorem B7.xE{W1 w1:B6}{C:I3}{H:List C2}{G:Nat->Prop}{b:Nat}{cs:J2}{e:Nat}(h:B7 (C.re w1 H) H W1)(hG:∀k,G k->k∈F1 H\/∃q,W1.heap[k]?=some (.loop q))(hb:b∉F1 H)(ho:w1.heap[b]?=some (.cells cs e)):W1.heap[b]?=some (.cells cs e)/\¬G b:=by
 have h1:W1.heap[b]?=some (.cells cs e):=(h.base.old b (T1.1 ho).1 hb).trans ho;refine⟨h1,λhg=>?_⟩;rcases hG b hg with h2|⟨q,h2⟩
 ·exact hb h2
 ·rw[h1] at h2;cases h2
theorem Z6.XV{W1 w:B6}{b:B6}{F:Nat->Prop}{D:List Mk}{H:List C2}{G:Nat->Prop}{ls:H2}{fs:List (List F5)}(h:Z6 w ES ls fs)(ho:B7 ⟨w,λ_=>False,λ_=>False,b,F,D⟩ H W1)(hG:∀k,G k->k∈F1 H\/∃q,W1.heap[k]?=some (.loop q)):Z6 W1 G ls fs:=
 ⟨h.l1,h.l2,λi hi=>by
  obtain⟨v,q1,q2⟩:=h.at' i hi;refine⟨v,q1,q2.1.K6 ho.plain,λhl g hg=>?_⟩;obtain⟨gb,o,c,rfl,hc,hlt,hce⟩:=q2.1.form hl;have hg':g=gb:=by simpa[Value.ownBlock] using hg.symm
  subst hg';obtain⟨ob,h1,h2⟩:=zH (Below.o8 ho.plain (hce 0 hl).key);exact ho.XV hG hlt id h1 h2⟩
def LG(fs:List (List F5))(vs:List Int)(f t:List UInt8)(xs:List F5):List F5:=if Kw fs vs f t=0 then xs else[]
abbrev NN:Nat:=2000
theorem Xy:∀{fs:List (List F5)} (m:Nat),(∀b,(fs.getD b []).length<=m)->fs.flatten.length<=fs.length*m
 |[],m,_=>by simp
 |f::fs,m,h=>by
  have h0:=h 0;have ih:=Xy (fs:=fs) m λb=>by simpa using h (b+1)
  simp only[YP,J8,T3,MD,Nat.one_mul];have h0:f.length<=m:=by simpa using h0
  omega
theorem Ou.flat{fs:List (List F5)}(h:Ou fs)(hl:fs.length=16):fs.flatten.length<=NN:=by
 have:=Xy 66 λb=>(h b).1;rw[hl] at this;show fs.flatten.length<=2000;omega
end
section
section
variable{P:Program}{r:Option Nat}{n:Nat}{E:List (Nat×Value)}{C:I3}{H:List C2}{Q:Exit->Act->World->Prop}{ops:Array Oper}{rest:List Oper}
end
attribute [local irreducible] F8 D3 Exit.then Exit.inBlock Exit.noGoto wpQuiet Calls fin At G9 L3 L7 RQ
structure Tr(w:World)(ls:List Value)(vs:List Int)(fs:List (List F5)):Prop where
 Q8:j0 w
 t:Z6 w ES ls fs
 l:vs.length=16
 s:Ou fs
theorem B7.tr{w0 w b:B6}{F:Nat->Prop}{D:List Mk}{H:List C2}{ls:H2}{vs:List Int}{fs:List (List F5)}(h:B7 ⟨w0,λ_=>False,λ_=>False,b,F,D⟩ H w)(ht:Tr w0 ls vs fs):Tr w ls vs fs:=⟨h.Q8 ht.Q8 id,h.XQ ht.t,ht.l,ht.s⟩
theorem Tr.size{w:B6}{ls:H2}{vs:List Int}{fs:List (List F5)}(h:Tr w ls vs fs):(Z8 ls vs).size=32:=Md h.t.l1 h.l
abbrev IT:Nat:=118
theorem nD{fs:List (List F5)}{vs:List Int}{f t:C9}{xs:List F5}:(LG fs vs f t xs).length<=xs.length:=by
 unfold LG;split<;>simp
def Dh(fs:List (List F5))(vs:List Int)(p:List UInt8):List F5:=LG fs vs p p ((w4 NN fs).filter λx=>V0 x.key p)
theorem iZ(fs:List (List F5))(vs:List Int)(p:C9):(Dh fs vs p).length<=2000:=by
 have h1:=nD (fs:=fs) (vs:=vs) (f:=p) (t:=p) (xs:=(w4 NN fs).filter λx=>V0 x.key p);have h2:=List.length_filter_le (λx:F5=>V0 x.key p) (w4 NN fs);have h3:=SE NN fs;have h4:NN=2000:=rfl;unfold Dh;omega
theorem rG(ls:H2)(vs:List Int)(fs:List (List F5))(p:C9)(w:B6)(hT:Tr w ls vs fs):
  Calls prog 37 #[GN ls vs,.string (bs p)] w λe w'=>∃v,e=.returned (.tuple #[v,.int .i64 (Kw fs vs p p)])/\Below w.heap.size w w'/\w'.ownsRow w.heap.size IT 5 v (Dh fs vs p).length (Ah (Dh fs vs p)):=by
 have h32:=hT.size;have cR:∀{w' arg},Tr w' ls vs fs->T7 w' arg (D1 [p])->I6 72 #[GN ls vs,arg] w' (.int .i64 (Kw fs vs p p)):=λg hv=>by
  rw[<-pO];exact aA0 ls vs fs _ [p] _ g.Q8 g.t g.l g.s hv (by simp)
 refine J5 func37 O ntmps37 O<|A3<|F0 O λgz0=>KP O O O λgz1=>E6 O<|A5 O<|B5<|G6 1 O h32<|N3 0 O<|N7 (D1 [p]) (D1 [p]) O λhlit=>?_;have hv2:∀w',B7 ⟨w,λ_=>False,λ_=>False,w,λ_=>False,[]⟩ [C2.B1 hlit 9 (D1 [p]).toArray,C2.B1 gz1 9 #[Value.string (bs p)],C2.B1 gz0 26 (Z8 ls vs)] w'->T7 w' (.slice (some ⟨hlit,0,none⟩) 1 1) (D1 [p]):=λw' ho=>.inr ⟨_,1,rfl,L6 _,λj u hu=>BI ho (i:=0) rfl j u hu⟩;by_cases he:Kw fs vs p p=0
 ·rw[he] at cR⊢;have hN:∀xs,LG fs vs p p xs=xs:=λxs=>by rw[LG,if_pos he]
  rw[Dh,hN];refine F3 72 (A7 O) (λw ho=>cR (ho.tr hT) (hv2 _ ho)) O<|A5 O<|B4 O<|J3 O<|A6<|E0 O (by decide)<|D6<|A3<|Jl O Tryz.zeroValue22 O λgz0=>A6<|B5<|G6 3 O h32<|ar6 (f:=73) (A7 O) (λw ho=>sU ls vs w) O O λhb=>A6<|C7 ?_;rotate_left;refine Ol (H':=[.B1 hb 26 (Z8 ls vs),.B1 gz0 22 #[.slice none 0 0],.B1 gz1 9 #[.string (bs p)]]) (.cons_cons _ (.cons_cons _ (.cons _ (.cons_cons _ (.cons _ .slnil)))))<|aq2 λw1 hb1 hb2 hb3 hb4=>BY 118 5 ?_;have hmlen:=SE NN fs;have hfl:=hT.s.flat hT.t.l2;obtain⟨xs,hxs⟩:∃xs,xs=w4 NN fs:=⟨_,rfl⟩
  rw[<-hxs] at hmlen⊢;have hNN:xs.length<=2000:=hmlen;refine nA (σ:=Value×List F5) (ι:=Nat) (gf:=121) (lb:=[.pointer (some ⟨hb,0,none⟩)]) (xs:=MZ xs) (λi s=>s.2=(xs.take i).filter (λx=>V0 x.key p)/\s.2.length<=i) (λ_ s=>[.row s.1 118 5 s.2.length (Ah s.2),.B1 gz0 22 #[s.1],.B1 gz1 9 #[.string (bs p)]])
   (λ_ s j=>[(9,.pointer (some ⟨j,0,none⟩)),(3,.pointer (some ⟨gz1,0,none⟩)),(7,.pointer (some ⟨gz0,0,none⟩))])
   (λ_ x s j=>[.B1 j 118 x.2.cells,.row s.1 118 5 s.2.length (Ah s.2),.B1 gz0 22 #[s.1],.B1 gz1 9 #[.string (bs p)]])
   (λc s=>False) (λ_ s=>[])
   (.slice none 0 0,[]) ⟨rfl,L6 _⟩ rfl rfl (by kernel_rfl) rfl rfl ?_ ?_ ?_ ?_ ?_
  ·intro W1 G B0 hGG hW1;have h0:hb∉F1 ([.row (.slice none 0 0) 118 5 ([]:List F5).length (Ah []),.B1 gz0 22 #[.slice none 0 0],.B1 gz1 9 #[.string (bs p)]]):=λhm=>hb3 (by simpa[F1,C2.blocks,Value.ownBlock] using hm);obtain⟨q1,q2⟩:=B7.xE (C:=⟨w,λ_=>False,λ_=>False,w,λ_=>False,[]⟩) (w1:=w1) hW1 hGG h0 hb2;rw[hxs];exact uK ls vs fs NN W1 G B0 q1 q2 (hT.t.XV hW1 hGG) (by decide) hfl
  ·intro l i x s W hx hI hW;obtain⟨y,hy,rfl⟩:∃y,xs[i]?=some y/\x=(.int .i64 (i:Int),Gr y):=by
    have hi:i<xs.length:=by have:=(N5.1 hx).1;rwa[TZ] at this
    rw[WC hi] at hx;exact⟨xs[i],T8 hi,(Fc hx).symm⟩
   refine C5<|E3 IE O λgz0=>E8 0 ((c6 y).toArray) O<|H6 ?_;rotate_left;exact al6 gz0 ⟨rfl,rfl,rfl,trivial⟩ O
  ·intro l i x s j W hx hI hW;obtain⟨y,hy,rfl⟩:∃y,xs[i]?=some y/\x=(.int .i64 (i:Int),Gr y):=by
    have hi:i<xs.length:=by have:=(N5.1 hx).1;rwa[TZ] at this
    rw[WC hi] at hx;exact⟨xs[i],T8 hi,(Fc hx).symm⟩
   obtain⟨v,out⟩:=s;obtain⟨hI1,hI2⟩:=hI;simp only at hI1 hI2;have hil:i<xs.length:=(N5.1 hy).1;have htk:(xs.take (i+1)).filter (λx=>V0 x.key p)=out++(if V0 y.key p then[y] else[]):=by
    rw[JG,hy,List.filter_append,<-hI1];simp[YU]
   cases hf:V0 y.key p
   ·rw[hf] at htk;refine C7<|A3<|B2 0 O<|N3 3 O<|F3 74 (A7 O) (λw ho=>Ij _ _ w) O<|A6<|Y7 O (by exact hf)<|P5<|F4 ?_;rotate_left;exact Ol (L9 ..) (fJ (v,out) ⟨by rw[htk];simp,by show out.length<=i+1;omega⟩ O)
   ·rw[hf] at htk;refine C7<|A3<|B2 0 O<|N3 3 O<|F3 74 (A7 O) (λw ho=>Ij _ _ w) O<|A6<|k8 O (by exact hf)<|C5<|N3 2 O<|G6 0 O O<|N7 [Gr y] (c6 y) O λhl=>CT 2 118 5 56 (out.length) 1 (c6 y) (by kernel_rfl) O (λw ho=>BI ho (i:=0) rfl) (Ug y) (by simp only[maxLen];omega) O λv4 hv4=>Ce (i:=3) (by kernel_rfl) O O (by assumption) O O<|H6<|F4 ?_;rotate_left;refine Ol (H':=[.row v4 118 5 (out.length+1) (Ah out++c6 y),.B1 gz0 22 #[v4],.B1 gz1 9 #[.string (bs p)]]) (.cons _ (.cons _ (Q5 _))) ?_;exact fJ (v4,out++[y]) ⟨by rw[htk];rfl,by simp;omega⟩ (by simp[WG])
  ·rintro D ⟨v,out⟩ ⟨hI,_⟩;rw[TZ,GQ] at hI;have hI:out=xs.filter (λx=>V0 x.key p):=hI;refine F4<|E2<|A3<|N3 1 O<|E6 O<|A5 O<|D4<|pA O O O λw9 ho9=>?_;rw[<-hI];exact⟨_,rfl,ho9.plain,ho9.GY (j8 ..)⟩
  ·rintro D c ⟨v,out⟩ hI;exact hI.elim
 ·have hN:∀xs,LG fs vs p p xs=[]:=λxs=>by rw[LG,if_neg he]
  rw[Dh,hN];exact F3 72 (A7 O) (λw ho=>cR (ho.tr hT) (hv2 _ ho)) O<|A5 O<|B4 O<|J3 O<|A6<|E7 O (by simpa using he)<|B4 O<|E6 O<|A5 O<|D4<|K0<|V6 O O O O λw9 ho9=>⟨_,rfl,ho9.plain,World.ownsRow_nil _ _ _ _⟩
end
section
attribute [local irreducible] F8 D3 Exit.then Exit.inBlock Exit.noGoto wpQuiet Calls fin At G9 L3 L7 RQ R9
def r7(n:Int):Prop:= -9223372036854775808<=n/\n<=9223372036854775807
structure N2(v:Vl):Prop where
 may:Fs v.kind v.num v.K4=true
 PN:r7 v.num
def H4:Vl:=⟨0,0,[]⟩
def Hj(b:Bool):Vl:=⟨1,if b then 1 else 0,[]⟩
def Mp(n:Int):Vl:=⟨2,n,[]⟩
def Fy(s:List UInt8):Vl:=⟨3,0,s⟩
theorem KJ{v:Vl}(h:N2 v)(w:B6):I6 203 #[O6 v] w (.bool true):=by
 have:=RK v.kind v.num v.K4 w;rw[h.may] at this;exact this
theorem Wf(n:Int)(w:B6):I6 215 #[.int .i64 n] w (O6 (Mp n)):=zM n w
theorem Ua(b:Bool)(w:B6):I6 167 #[.bool b] w (O6 (Hj b)):=by
 refine J5 func167 O ntmps167 O ?_;cases b
 ·exact A3<|E3 P7 O λgz0=>A6<|B5<|A4 O<|A6<|M8 O<|D6<|A3<|B9 (O7 (D8 (Hj false)) Bc O) O<|E8 0 ((D8 (Hj false)).toArray) O<|A6<|D4<|EK (i:=0) (k:=3) O O O O (by kernel_rfl) O λw9 ho9=>⟨rfl,ho9.plain⟩
 ·exact A3<|E3 P7 O λgz0=>A6<|B5<|A4 O<|A6<|R1 O<|A3<|B9 (O7 (D8 (Hj true)) Bc O) O<|E8 0 ((D8 (Hj true)).toArray) O<|A6<|D4<|K0<|EK (i:=0) (k:=3) O O O O (by kernel_rfl) O λw9 ho9=>⟨rfl,ho9.plain⟩
abbrev VE:Type:=Vl×Int
def El(r:VE):Value:=.tuple #[O6 r.1,.int .i64 r.2]
def GX(s:List UInt8):VE:=if 64<s.length then(H4,5) else(Fy s,0)
theorem Ub(s:C9)(w:B6):I6 213 #[.string (bs s)] w (El (GX s)):=by
 refine J5 func213 O ntmps213 O ?_;unfold GX;by_cases h:64<s.length
 ·rw[if_pos h];exact A3<|E3 P7 O λgz0=>A5 O<|B5<|A4 O<|n4 O<|Q7 O<|A6<|E7 O (by omega)<|A3<|B9 (O7 (D8 H4) Bc O) O<|E8 0 ((D8 H4).toArray) O<|A5 O<|D4<|K0<|O5 0 O λw9 ho9=>⟨rfl,ho9.plain⟩
 ·rw[if_neg h];exact A3<|E3 P7 O λgz0=>A5 O<|B5<|A4 O<|n4 O<|Q7 O<|A6<|E0 O (by omega)<|D6<|B4 O<|B9 (O7 (D8 (Fy s)) Bc O) O<|E8 0 ((D8 (Fy s)).toArray) O<|A5 O<|D4<|O5 0 O λw9 ho9=>⟨rfl,ho9.plain⟩
theorem gV{v:Vl}(h:N2 v)(k:Int)(w:B6):I6 214 #[O6 v,.int .i64 k] w (.int .i64 (if v.kind=k then 0 else 10)):=by
 refine J5 func214 O ntmps214 O ?_;by_cases hk:v.kind=k
 ·exact A3<|F0 O λgz0=>A5 O<|C8<|C7<|A3<|G6 0 (cs:=(D8 v).toArray) O O<|F3 203 (A7 O) (λw ho=>KJ h w) O<|J7 O<|A5 O<|M8 O<|A3<|B2 0 O<|A4 O<|J3 O<|A5 O<|E0 O (by omega)<|P5<|F4<|E2<|A3<|A5 O<|D4<|E4 O λw9 ho9=>⟨by rw[if_pos hk],ho9.plain⟩
 ·exact A3<|F0 O λgz0=>A5 O<|C8<|C7<|A3<|G6 0 (cs:=(D8 v).toArray) O O<|F3 203 (A7 O) (λw ho=>KJ h w) O<|J7 O<|A5 O<|M8 O<|A3<|B2 0 O<|A4 O<|J3 O<|A5 O<|E7 O (by exact hk)<|A3<|A5 O<|K3<|E4 O λw9 ho9=>⟨by rw[if_neg hk],ho9.plain⟩
def Of(v:Vl):VE:=if v.kind=1 then(Hj (decide (v.num=0)),0) else(H4,10)
def PG(v:Vl):VE:=if v.kind=3 then(Mp v.K4.length,0) else(H4,10)
theorem aa9{v:Vl}(h:N2 v)(w:B6):I6 163 #[O6 v] w (El (Of v)):=by
 refine J5 func163 O ntmps163 O ?_;have cO:=λw=>gV h 1 w;unfold Of;by_cases hk:v.kind=1
 ·rw[if_pos hk];simp only[if_pos hk] at cO;exact A3<|F0 O λgz0=>E3 P7 O λgz1=>A5 O<|B5<|G6 1 (cs:=(D8 v).toArray) O O<|F3 214 (A7 O) (λw ho=>cO w) O<|A5 O<|B4 O<|J3 O<|A6<|E0 O (by decide)<|D6<|A3<|B2 1 O<|H5 O<|F3 167 (A7 O) (λw ho=>Ua _ w) O<|E8 0 ((D8 _).toArray) O<|A5 O<|D4<|O5 0 O λw9 ho9=>⟨rfl,ho9.plain⟩
 ·rw[if_neg hk];simp only[if_neg hk] at cO;exact A3<|F0 O λgz0=>E3 P7 O λgz1=>A5 O<|B5<|G6 1 (cs:=(D8 v).toArray) O O<|F3 214 (A7 O) (λw ho=>cO w) O<|A5 O<|B4 O<|J3 O<|A6<|E7 O (by decide)<|A3<|B9 (O7 (D8 H4) Bc O) O<|A4 O<|E8 0 ((D8 H4).toArray) O<|A5 O<|D4<|K0<|O5 0 O λw9 ho9=>⟨rfl,ho9.plain⟩
theorem ay6{v:Vl}(h:N2 v)(w:B6):I6 161 #[O6 v] w (El (PG v)):=by
 refine J5 func161 O ntmps161 O ?_;have cO:=λw=>gV h 3 w;unfold PG;by_cases hk:v.kind=3
 ·rw[if_pos hk];simp only[if_pos hk] at cO;exact A3<|F0 O λgz0=>E3 P7 O λgz1=>A5 O<|B5<|G6 1 (cs:=(D8 v).toArray) O O<|F3 214 (A7 O) (λw ho=>cO w) O<|A5 O<|B4 O<|J3 O<|A6<|E0 O (by decide)<|D6<|A3<|B2 1 O<|n4 O<|F3 215 (A7 O) (λw ho=>Wf _ w) O<|E8 0 ((D8 _).toArray) O<|A5 O<|D4<|O5 0 O λw9 ho9=>⟨rfl,ho9.plain⟩
 ·rw[if_neg hk];simp only[if_neg hk] at cO;exact A3<|F0 O λgz0=>E3 P7 O λgz1=>A5 O<|B5<|G6 1 (cs:=(D8 v).toArray) O O<|F3 214 (A7 O) (λw ho=>cO w) O<|A5 O<|B4 O<|J3 O<|A6<|E7 O (by decide)<|A3<|B9 (O7 (D8 H4) Bc O) O<|A4 O<|E8 0 ((D8 H4).toArray) O<|A5 O<|D4<|K0<|O5 0 O λw9 ho9=>⟨rfl,ho9.plain⟩
def II(a b:Int):Int×Int:=if(decide (0<=a)==decide (0<=b))&&(decide (0<=IntKind.i64.wrap (a+b)) !=decide (0<=a)) then(0,8) else(IntKind.i64.wrap (a+b),0)
theorem av1(a b:Int)(w:B6):I6 208 #[.int .i64 a,.int .i64 b] w (.tuple #[.int .i64 (II a b).1,.int .i64 (II a b).2]):=by
 refine J5 func208 O ntmps208 O ?_;unfold II;have key:∀x y z:Bool,decide (0<=a)=x->decide (0<=b)=y->decide (0<=IntKind.i64.wrap (a+b))=z->True:=λ_ _ _ _ _ _=>trivial;by_cases ha:0<=a
 ·by_cases hb:0<=b
  ·by_cases hc:0<=IntKind.i64.wrap (a+b)
   ·exact A3<|E6 O<|A5 O<|B4 O<|A4 O<|B9 (Hz O O) O<|A5 O<|B5<|A4 O<|O1 O<|A4 O<|O1 O<|B9 (Lk (by kernel_rfl) O O) O<|A4 O<|F9 15 true O (by simp[ha,hb,hc])<|B3 O<|A4 O<|B3 O<|O1 O<|B3 O<|A4 O<|B3 O<|O1 O<|B3 O<|B9 (AS (by kernel_rfl) O O) O<|K8 O<|A6<|Y7 O (by simp[ha,hb,hc])<|D6<|B4 O<|E6 O<|A5 O<|D4<|V6 O O O O λw9 ho9=>⟨by simp[ha,hb,hc],ho9.plain⟩
   ·exact A3<|E6 O<|A5 O<|B4 O<|A4 O<|B9 (Hz O O) O<|A5 O<|B5<|A4 O<|O1 O<|A4 O<|O1 O<|B9 (Lk (by kernel_rfl) O O) O<|A4 O<|F9 15 true O (by simp[ha,hb,hc])<|B3 O<|A4 O<|B3 O<|O1 O<|B3 O<|A4 O<|B3 O<|O1 O<|B3 O<|B9 (AS (by kernel_rfl) O O) O<|K8 O<|A6<|k8 O (by simp[ha,hb,hc])<|A3<|E6 O<|A5 O<|D4<|K0<|V6 O O O O λw9 ho9=>⟨by simp[ha,hb,hc],ho9.plain⟩
  ·by_cases hc:0<=IntKind.i64.wrap (a+b)
   ·exact A3<|E6 O<|A5 O<|B4 O<|A4 O<|B9 (Hz O O) O<|A5 O<|B5<|A4 O<|O1 O<|A4 O<|O1 O<|B9 (Lk (by kernel_rfl) O O) O<|A4 O<|F9 15 false O (by simp[ha,hb,hc])<|D2 O<|D2 O<|D2 O<|D2 O<|D2 O<|G4 O<|A6<|M8 O<|D6<|B4 O<|E6 O<|A5 O<|D4<|V6 O O O O λw9 ho9=>⟨by simp[ha,hb,hc],ho9.plain⟩
   ·exact A3<|E6 O<|A5 O<|B4 O<|A4 O<|B9 (Hz O O) O<|A5 O<|B5<|A4 O<|O1 O<|A4 O<|O1 O<|B9 (Lk (by kernel_rfl) O O) O<|A4 O<|F9 15 false O (by simp[ha,hb,hc])<|D2 O<|D2 O<|D2 O<|D2 O<|D2 O<|G4 O<|A6<|M8 O<|D6<|B4 O<|E6 O<|A5 O<|D4<|V6 O O O O λw9 ho9=>⟨by simp[ha,hb,hc],ho9.plain⟩
 ·by_cases hb:0<=b
  ·by_cases hc:0<=IntKind.i64.wrap (a+b)
   ·exact A3<|E6 O<|A5 O<|B4 O<|A4 O<|B9 (Hz O O) O<|A5 O<|B5<|A4 O<|O1 O<|A4 O<|O1 O<|B9 (Lk (by kernel_rfl) O O) O<|A4 O<|F9 15 false O (by simp[ha,hb,hc])<|D2 O<|D2 O<|D2 O<|D2 O<|D2 O<|G4 O<|A6<|M8 O<|D6<|B4 O<|E6 O<|A5 O<|D4<|V6 O O O O λw9 ho9=>⟨by simp[ha,hb,hc],ho9.plain⟩
   ·exact A3<|E6 O<|A5 O<|B4 O<|A4 O<|B9 (Hz O O) O<|A5 O<|B5<|A4 O<|O1 O<|A4 O<|O1 O<|B9 (Lk (by kernel_rfl) O O) O<|A4 O<|F9 15 false O (by simp[ha,hb,hc])<|D2 O<|D2 O<|D2 O<|D2 O<|D2 O<|G4 O<|A6<|M8 O<|D6<|B4 O<|E6 O<|A5 O<|D4<|V6 O O O O λw9 ho9=>⟨by simp[ha,hb,hc],ho9.plain⟩
  ·by_cases hc:0<=IntKind.i64.wrap (a+b)
   ·exact A3<|E6 O<|A5 O<|B4 O<|A4 O<|B9 (Hz O O) O<|A5 O<|B5<|A4 O<|O1 O<|A4 O<|O1 O<|B9 (Lk (by kernel_rfl) O O) O<|A4 O<|F9 15 true O (by simp[ha,hb,hc])<|B3 O<|A4 O<|B3 O<|O1 O<|B3 O<|A4 O<|B3 O<|O1 O<|B3 O<|B9 (AS (by kernel_rfl) O O) O<|K8 O<|A6<|k8 O (by simp[ha,hb,hc])<|A3<|E6 O<|A5 O<|D4<|K0<|V6 O O O O λw9 ho9=>⟨by simp[ha,hb,hc],ho9.plain⟩
   ·exact A3<|E6 O<|A5 O<|B4 O<|A4 O<|B9 (Hz O O) O<|A5 O<|B5<|A4 O<|O1 O<|A4 O<|O1 O<|B9 (Lk (by kernel_rfl) O O) O<|A4 O<|F9 15 true O (by simp[ha,hb,hc])<|B3 O<|A4 O<|B3 O<|O1 O<|B3 O<|A4 O<|B3 O<|O1 O<|B3 O<|B9 (AS (by kernel_rfl) O O) O<|K8 O<|A6<|Y7 O (by simp[ha,hb,hc])<|D6<|B4 O<|E6 O<|A5 O<|D4<|V6 O O O O λw9 ho9=>⟨by simp[ha,hb,hc],ho9.plain⟩
def Ad(F:Int->Int->Int×Int)(a b:Vl):VE:=if a.kind=2/\b.kind=2 then(if(F a.num b.num).2=0 then(Mp (F a.num b.num).1,0) else(H4,(F a.num b.num).2)) else(H4,10)
def Pa(f:Nat)(F:Int->Int->Int×Int):Prop:=∀(a b:Int) (w:World),r7 a->r7 b->Calls prog f #[.int .i64 a,.int .i64 b] w λe w'=>e=.returned (.tuple #[.int .i64 (F a b).1,.int .i64 (F a b).2])/\Below w.heap.size w w'
theorem Qr{f:Nat}{F:Int->Int->Int×Int}(hent:GB prog f=true)(hc:Pa f F){a b:Vl}(ha:N2 a)(hb:N2 b)(w:B6):
  I6 207 #[O6 a,O6 b,.func (.func f) #[] #[]] w (El (Ad F a b)):=by
 refine J5 func207 O ntmps207 O ?_;have cC:=λw=>hc a.num b.num w ha.PN hb.PN;have cM:∀v w,N2 v->I6 203 #[O6 v] w (.bool true):=λv w h=>KJ h w;unfold Ad;by_cases hk:a.kind=2/\b.kind=2
 ·obtain⟨h1,h2⟩:=hk;rw[if_pos ⟨h1,h2⟩];by_cases h0:(F a.num b.num).2=0
  ·rw[if_pos h0];refine A3<|F0 O λgz0=>F0 O λgz1=>E3 P7 O λgz2=>A5 O<|B5<|G6 2 (cs:=(D8 a).toArray) O O<|o7 (A7 O) (λw ho=>cM a w ha) O O O<|J7 O<|A4 O<|B3 O<|G6 1 (cs:=(D8 b).toArray) O O<|B3 O<|o7 (A7 O) (λw ho=>cM b w hb) O O O<|B3 O<|J7 O<|G4 O<|A6<|M8 O<|D6<|B5<|B2 2 O<|J3 O<|A4 O<|F9 22 false O (decide_eq_false (by omega))<|B3 O<|D9 O<|B3 O<|N3 1 O<|B3 O<|J3 O<|G4 O<|A6<|E0 O (by omega)<|D6<|B4 O<|B2 2 O<|B2 1 O<|o7 (IN (first:=[]) (vs:=[.int .i64 a.num,.int .i64 b.num]) (cap:=[]) O hent O) (λw ho=>cC w) O O O<|A4 O ?_;exact G1 O<|G1 O<|E6 O<|A5 O<|B5<|A4 O<|J3 O<|A6<|E0 O (by omega)<|D6<|B4 O<|F3 215 (A7 O) (λw ho=>Wf _ w) O<|E8 0 ((D8 _).toArray) O<|A5 O<|D4<|O5 0 O λw9 ho9=>⟨rfl,ho9.plain⟩
  ·rw[if_neg h0];refine A3<|F0 O λgz0=>F0 O λgz1=>E3 P7 O λgz2=>A5 O<|B5<|G6 2 (cs:=(D8 a).toArray) O O<|o7 (A7 O) (λw ho=>cM a w ha) O O O<|J7 O<|A4 O<|B3 O<|G6 1 (cs:=(D8 b).toArray) O O<|B3 O<|o7 (A7 O) (λw ho=>cM b w hb) O O O<|B3 O<|J7 O<|G4 O<|A6<|M8 O<|D6<|B5<|B2 2 O<|J3 O<|A4 O<|F9 22 false O (decide_eq_false (by omega))<|B3 O<|D9 O<|B3 O<|N3 1 O<|B3 O<|J3 O<|G4 O<|A6<|E0 O (by omega)<|D6<|B4 O<|B2 2 O<|B2 1 O<|o7 (IN (first:=[]) (vs:=[.int .i64 a.num,.int .i64 b.num]) (cap:=[]) O hent O) (λw ho=>cC w) O O O<|A4 O ?_;exact G1 O<|G1 O<|E6 O<|A5 O<|B5<|A4 O<|J3 O<|A6<|E7 O (by exact h0)<|A3<|B9 (O7 (D8 H4) Bc O) O<|A4 O<|E8 0 ((D8 H4).toArray) O<|A5 O<|D4<|K0<|O5 0 O λw9 ho9=>⟨rfl,ho9.plain⟩
 ·rw[if_neg hk];by_cases h1:a.kind=2
  ·have h2:¬b.kind=2:=λh=>hk ⟨h1,h⟩;refine A3<|F0 O λgz0=>F0 O λgz1=>E3 P7 O λgz2=>A5 O<|B5<|G6 2 (cs:=(D8 a).toArray) O O<|o7 (A7 O) (λw ho=>cM a w ha) O O O<|J7 O<|A4 O<|B3 O<|G6 1 (cs:=(D8 b).toArray) O O<|B3 O<|o7 (A7 O) (λw ho=>cM b w hb) O O O<|B3 O<|J7 O<|G4 O<|A6<|M8 O<|D6<|B5<|B2 2 O<|J3 O<|A4 O<|F9 22 false O (decide_eq_false (by omega))<|B3 O<|D9 O<|B3 O<|N3 1 O<|B3 O<|J3 O<|G4 O<|A6<|E7 O (by exact h2)<|A3<|B9 (O7 (D8 H4) Bc O) O<|E8 0 ((D8 H4).toArray) O<|A5 O<|D4<|K0 ?_;exact O5 0 O λw9 ho9=>⟨rfl,ho9.plain⟩
  ·exact A3<|F0 O λgz0=>F0 O λgz1=>E3 P7 O λgz2=>A5 O<|B5<|G6 2 (cs:=(D8 a).toArray) O O<|o7 (A7 O) (λw ho=>cM a w ha) O O O<|J7 O<|A4 O<|B3 O<|G6 1 (cs:=(D8 b).toArray) O O<|B3 O<|o7 (A7 O) (λw ho=>cM b w hb) O O O<|B3 O<|J7 O<|G4 O<|A6<|M8 O<|D6<|B5<|B2 2 O<|J3 O<|A4 O<|F9 22 true O (decide_eq_true (by exact h1))<|D2 O<|D2 O<|D2 O<|K8 O<|A6<|R1 O<|A3<|B9 (O7 (D8 H4) Bc O) O<|E8 0 ((D8 H4).toArray) O<|A5 O<|D4<|K0<|O5 0 O λw9 ho9=>⟨rfl,ho9.plain⟩
theorem pE:Pa 208 II:=λa b w _ _=>av1 a b w
def KX(a b:Int):Int×Int:=if(decide (0<=a) !=decide (0<=b))&&(decide (0<=IntKind.i64.wrap (a-b)) !=decide (0<=a)) then(0,8) else(IntKind.i64.wrap (a-b),0)
theorem av3:Pa 209 KX:=by
 intro a b w _ _;refine J5 func209 O ntmps209 O ?_;unfold KX;by_cases ha:0<=a
 ·by_cases hb:0<=b
  ·by_cases hc:0<=IntKind.i64.wrap (a-b)
   ·exact A3<|E6 O<|A5 O<|B4 O<|A4 O<|GD O<|A5 O<|B5<|A4 O<|O1 O<|A4 O<|O1 O<|B9 (AS (by kernel_rfl) O O) O<|A4 O<|F9 15 false O (by simp[ha,hb,hc])<|D2 O<|D2 O<|D2 O<|D2 O<|D2 O<|G4 O<|A6<|M8 O<|D6<|B4 O<|E6 O<|A5 O<|D4<|V6 O O O O λw9 ho9=>⟨by simp[ha,hb,hc],ho9.plain⟩
   ·exact A3<|E6 O<|A5 O<|B4 O<|A4 O<|GD O<|A5 O<|B5<|A4 O<|O1 O<|A4 O<|O1 O<|B9 (AS (by kernel_rfl) O O) O<|A4 O<|F9 15 false O (by simp[ha,hb,hc])<|D2 O<|D2 O<|D2 O<|D2 O<|D2 O<|G4 O<|A6<|M8 O<|D6<|B4 O<|E6 O<|A5 O<|D4<|V6 O O O O λw9 ho9=>⟨by simp[ha,hb,hc],ho9.plain⟩
  ·by_cases hc:0<=IntKind.i64.wrap (a-b)
   ·exact A3<|E6 O<|A5 O<|B4 O<|A4 O<|GD O<|A5 O<|B5<|A4 O<|O1 O<|A4 O<|O1 O<|B9 (AS (by kernel_rfl) O O) O<|A4 O<|F9 15 true O (by simp[ha,hb,hc])<|B3 O<|A4 O<|B3 O<|O1 O<|B3 O<|A4 O<|B3 O<|O1 O<|B3 O<|B9 (AS (by kernel_rfl) O O) O<|K8 O<|A6<|Y7 O (by simp[ha,hb,hc])<|D6<|B4 O<|E6 O<|A5 O<|D4<|V6 O O O O λw9 ho9=>⟨by simp[ha,hb,hc],ho9.plain⟩
   ·exact A3<|E6 O<|A5 O<|B4 O<|A4 O<|GD O<|A5 O<|B5<|A4 O<|O1 O<|A4 O<|O1 O<|B9 (AS (by kernel_rfl) O O) O<|A4 O<|F9 15 true O (by simp[ha,hb,hc])<|B3 O<|A4 O<|B3 O<|O1 O<|B3 O<|A4 O<|B3 O<|O1 O<|B3 O<|B9 (AS (by kernel_rfl) O O) O<|K8 O<|A6<|k8 O (by simp[ha,hb,hc])<|A3<|E6 O<|A5 O<|D4<|K0<|V6 O O O O λw9 ho9=>⟨by simp[ha,hb,hc],ho9.plain⟩
 ·by_cases hb:0<=b
  ·by_cases hc:0<=IntKind.i64.wrap (a-b)
   ·exact A3<|E6 O<|A5 O<|B4 O<|A4 O<|GD O<|A5 O<|B5<|A4 O<|O1 O<|A4 O<|O1 O<|B9 (AS (by kernel_rfl) O O) O<|A4 O<|F9 15 true O (by simp[ha,hb,hc])<|B3 O<|A4 O<|B3 O<|O1 O<|B3 O<|A4 O<|B3 O<|O1 O<|B3 O<|B9 (AS (by kernel_rfl) O O) O<|K8 O<|A6<|k8 O (by simp[ha,hb,hc])<|A3<|E6 O<|A5 O<|D4<|K0<|V6 O O O O λw9 ho9=>⟨by simp[ha,hb,hc],ho9.plain⟩
   ·exact A3<|E6 O<|A5 O<|B4 O<|A4 O<|GD O<|A5 O<|B5<|A4 O<|O1 O<|A4 O<|O1 O<|B9 (AS (by kernel_rfl) O O) O<|A4 O<|F9 15 true O (by simp[ha,hb,hc])<|B3 O<|A4 O<|B3 O<|O1 O<|B3 O<|A4 O<|B3 O<|O1 O<|B3 O<|B9 (AS (by kernel_rfl) O O) O<|K8 O<|A6<|Y7 O (by simp[ha,hb,hc])<|D6<|B4 O<|E6 O<|A5 O<|D4<|V6 O O O O λw9 ho9=>⟨by simp[ha,hb,hc],ho9.plain⟩
  ·by_cases hc:0<=IntKind.i64.wrap (a-b)
   ·exact A3<|E6 O<|A5 O<|B4 O<|A4 O<|GD O<|A5 O<|B5<|A4 O<|O1 O<|A4 O<|O1 O<|B9 (AS (by kernel_rfl) O O) O<|A4 O<|F9 15 false O (by simp[ha,hb,hc])<|D2 O<|D2 O<|D2 O<|D2 O<|D2 O<|G4 O<|A6<|M8 O<|D6<|B4 O<|E6 O<|A5 O<|D4<|V6 O O O O λw9 ho9=>⟨by simp[ha,hb,hc],ho9.plain⟩
   ·exact A3<|E6 O<|A5 O<|B4 O<|A4 O<|GD O<|A5 O<|B5<|A4 O<|O1 O<|A4 O<|O1 O<|B9 (AS (by kernel_rfl) O O) O<|A4 O<|F9 15 false O (by simp[ha,hb,hc])<|D2 O<|D2 O<|D2 O<|D2 O<|D2 O<|G4 O<|A6<|M8 O<|D6<|B4 O<|E6 O<|A5 O<|D4<|V6 O O O O λw9 ho9=>⟨by simp[ha,hb,hc],ho9.plain⟩
def LR(a b:Int):Int×Int:=if b=0 then(0,9) else if b= -1/\a= -9223372036854775808 then(0,8) else(IntKind.i64.wrap (a.tdiv b),0)
theorem qL:Pa 211 LR:=by
 intro a b w ha hb;refine J5 func211 O ntmps211 O ?_;unfold LR;by_cases h0:b=0
 ·rw[if_pos h0];exact A3<|E6 O<|A5 O<|C8<|C7<|B4 O<|Q9 O (by exact h0)<|A3<|E6 O<|A5 O<|K3<|V6 O O O O λw9 ho9=>⟨rfl,ho9.plain⟩
 rw[if_neg h0];by_cases h1:b= -1
 ·by_cases h2:a= -9223372036854775808
  ·rw[if_pos ⟨h1,h2⟩];exact A3<|E6 O<|A5 O<|C8<|C7<|B4 O<|C3 O (by exact h0)<|B4 O<|H5 O<|A4 O<|F9 12 true O (decide_eq_true (by exact h1))<|B3 O<|A4 O<|B3 O<|H5 O<|K8 O<|A5 O<|E7 O (by exact h2)<|A3<|E6 O<|A5 O<|K3<|V6 O O O O λw9 ho9=>⟨rfl,ho9.plain⟩
  ·rw[if_neg (λh=>h2 h.2)];exact A3<|E6 O<|A5 O<|C8<|C7<|B4 O<|C3 O (by exact h0)<|B4 O<|H5 O<|A4 O<|F9 12 true O (decide_eq_true (by exact h1))<|B3 O<|A4 O<|B3 O<|H5 O<|K8 O<|A5 O<|E0 O (by exact h2)<|P5<|F4<|E2<|B4 O<|A4 O<|B9 (IQ O O (by omega)) O<|E6 O<|A5 O<|D4<|V6 O O O O λw9 ho9=>⟨rfl,ho9.plain⟩
 ·rw[if_neg (λh=>h1 h.1)];exact A3<|E6 O<|A5 O<|C8<|C7<|B4 O<|C3 O (by exact h0)<|B4 O<|H5 O<|A4 O<|F9 12 false O (decide_eq_false (by exact h1))<|D2 O<|D2 O<|G4 O<|A5 O<|M8 O<|P5<|F4<|E2<|B4 O<|A4 O<|B9 (IQ O O (by omega)) O<|E6 O<|A5 O<|D4<|V6 O O O O λw9 ho9=>⟨rfl,ho9.plain⟩
def Lo(a b:Int):Int×Int:=if b=0 then(0,9) else if b= -1 then(0,0) else(a.tmod b,0)
theorem ah2:Pa 212 Lo:=by
 intro a b w ha hb;refine J5 func212 O ntmps212 O ?_;unfold Lo;by_cases h0:b=0
 ·rw[if_pos h0];exact A3<|E6 O<|A5 O<|B5<|A4 O<|A6<|C7<|A3<|Q9 O (by exact h0)<|A3<|E6 O<|A5 O<|K3<|V6 O O O O λw9 ho9=>⟨rfl,ho9.plain⟩
 rw[if_neg h0];by_cases h1:b= -1
 ·rw[if_pos h1];exact A3<|E6 O<|A5 O<|B5<|A4 O<|A6<|C7<|A3<|C3 O (by exact h0)<|A3<|Q9 O (by exact h1)<|A3<|E6 O<|A5 O<|K3<|V6 O O O O λw9 ho9=>⟨rfl,ho9.plain⟩
 ·rw[if_neg h1];exact A3<|E6 O<|A5 O<|B5<|A4 O<|A6<|C7<|A3<|C3 O (by exact h0)<|A3<|C3 O (by exact h1)<|P5<|F4<|E2<|B4 O<|A4 O<|B9 (Yc O O (by omega)) O<|E6 O<|A5 O<|D4<|V6 O O O O λw9 ho9=>⟨rfl,ho9.plain⟩
def Kt(a b:Int):Int×Int:=if a=0\/b=0 then(0,0) else if(a= -1/\b= -9223372036854775808)\/(b= -1/\a= -9223372036854775808)\/IntKind.i64.wrap ((IntKind.i64.wrap (a*b)).tdiv b)≠a then(0,8) else(IntKind.i64.wrap (a*b),0)
theorem ab7:Pa 210 Kt:=by
 intro a b w _ _;refine J5 func210 O ntmps210 O ?_;unfold Kt;by_cases ha:a=0
 ·rw[if_pos (.inl ha)];exact A3<|E6 O<|A5 O<|B5<|A4 O<|H5 O<|A4 O<|F9 9 true O (decide_eq_true (by exact ha))<|D2 O<|D2 O<|K8 O<|A6<|R1 O<|A3<|E6 O<|A5 O<|D4<|K0<|V6 O O O O λw9 ho9=>⟨rfl,ho9.plain⟩
 by_cases hb:b=0
 ·rw[if_pos (.inr hb)];exact A3<|E6 O<|A5 O<|B5<|A4 O<|H5 O<|A4 O<|F9 9 false O (decide_eq_false (by exact ha))<|B3 O<|A4 O<|B3 O<|H5 O<|G4 O<|A6<|E7 O (by simp[ha,hb])<|A3<|E6 O<|A5 O<|D4<|K0<|V6 O O O O λw9 ho9=>⟨rfl,ho9.plain⟩
 rw[if_neg (λh=>h.elim ha hb)];by_cases h1:a= -1
 ·by_cases h2:b= -9223372036854775808
  ·rw[if_pos (.inl ⟨h1,h2⟩)];refine A3<|E6 O<|A5 O<|B5<|A4 O<|H5 O<|A4 O<|F9 9 false O (decide_eq_false (by exact ha))<|B3 O<|A4 O<|B3 O<|H5 O<|G4 O<|A6<|E0 O (by simp[ha,hb])<|D6<|B4 O<|A4 O<|B9 (Hm O O) O<|A5 O<|B5<|A4 O<|H5 O<|A4 O<|F9 18 true O (decide_eq_true (by exact h1))<|B3 O<|A4 O<|B3 O<|H5 O<|K8 O<|A4 O<|F9 22 true O (decide_eq_true (by simp[h1,h2]))<|D2 O<|D2 O<|D2 O<|D2 O<|D2 O<|D2 O<|K8 O<|A4 O ?_;exact D2 O<|D2 O<|D2 O<|D2 O<|D2 O<|K8 O<|A6<|R1 O<|A3<|E6 O<|A5 O<|D4<|K0<|V6 O O O O λw9 ho9=>⟨rfl,ho9.plain⟩
  ·by_cases h3:b= -1
   ·have h4:¬a= -9223372036854775808:=by omega
    by_cases h5:IntKind.i64.wrap ((IntKind.i64.wrap (a*b)).tdiv b)=a
    ·rw[if_neg (λh=>by rcases h with h|h|h;exact h2 h.2;exact h4 h.2;exact h h5)];refine A3<|E6 O<|A5 O<|B5<|A4 O<|H5 O<|A4 O<|F9 9 false O (decide_eq_false (by exact ha))<|B3 O<|A4 O<|B3 O<|H5 O<|G4 O<|A6<|E0 O (by exact hb)<|D6<|B4 O<|A4 O<|B9 (Hm O O) O<|A5 O<|B5<|A4 O<|H5 O<|A4 O<|F9 18 true O (decide_eq_true (by exact h1))<|B3 O<|A4 O<|B3 O<|H5 O<|K8 O<|A4 O<|F9 22 false O (decide_eq_false (by simp[h1,h2]))<|B3 O<|A4 O<|B3 O<|H5 O<|B3 O<|A4 O<|F9 25 true O (decide_eq_true (by exact h3))<|B3 O ?_;exact A4 O<|B3 O<|H5 O<|B3 O<|K8 O<|G4 O<|A4 O<|F9 30 false O (decide_eq_false (by simp[h1,h2]))<|B3 O<|A4 O<|B3 O<|A4 O<|B3 O<|B9 (IQ O O (by omega)) O<|B3 O<|A4 O<|B3 O<|J3 O<|G4 O<|A6<|E0 O (by omega)<|D6<|B4 O<|E6 O<|A5 O<|D4<|V6 O O O O λw9 ho9=>⟨rfl,ho9.plain⟩
    ·rw[if_pos (.inr (.inr h5))];refine A3<|E6 O<|A5 O<|B5<|A4 O<|H5 O<|A4 O<|F9 9 false O (decide_eq_false (by exact ha))<|B3 O<|A4 O<|B3 O<|H5 O<|G4 O<|A6<|E0 O (by exact hb)<|D6<|B4 O<|A4 O<|B9 (Hm O O) O<|A5 O<|B5<|A4 O<|H5 O<|A4 O<|F9 18 true O (decide_eq_true (by exact h1))<|B3 O<|A4 O<|B3 O<|H5 O<|K8 O<|A4 O<|F9 22 false O (decide_eq_false (by simp[h1,h2]))<|B3 O<|A4 O<|B3 O<|H5 O<|B3 O<|A4 O<|F9 25 true O (decide_eq_true (by exact h3))<|B3 O ?_;exact A4 O<|B3 O<|H5 O<|B3 O<|K8 O<|G4 O<|A4 O<|F9 30 false O (decide_eq_false (by simp[h1,h2]))<|B3 O<|A4 O<|B3 O<|A4 O<|B3 O<|B9 (IQ O O (by omega)) O<|B3 O<|A4 O<|B3 O<|J3 O<|G4 O<|A6<|E7 O (by assumption)<|A3<|E6 O<|A5 O<|D4<|K0<|V6 O O O O λw9 ho9=>⟨rfl,ho9.plain⟩
   ·by_cases h5:IntKind.i64.wrap ((IntKind.i64.wrap (a*b)).tdiv b)=a
    ·rw[if_neg (λh=>by rcases h with h|h|h;exact h2 h.2;exact h3 h.1;exact h h5)];refine A3<|E6 O<|A5 O<|B5<|A4 O<|H5 O<|A4 O<|F9 9 false O (decide_eq_false (by exact ha))<|B3 O<|A4 O<|B3 O<|H5 O<|G4 O<|A6<|E0 O (by exact hb)<|D6<|B4 O<|A4 O<|B9 (Hm O O) O<|A5 O<|B5<|A4 O<|H5 O<|A4 O<|F9 18 true O (decide_eq_true (by exact h1))<|B3 O<|A4 O<|B3 O<|H5 O<|K8 O<|A4 O<|F9 22 false O (decide_eq_false (by simp[h1,h2]))<|B3 O<|A4 O<|B3 O<|H5 O<|B3 O<|A4 O<|F9 25 false O (decide_eq_false (by exact h3))<|D2 O ?_;exact D2 O<|B3 O<|G4 O<|G4 O<|A4 O<|B3 O<|A4 O<|B3 O<|A4 O<|B3 O<|B9 (IQ O O (by omega)) O<|B3 O<|A4 O<|B3 O<|J3 O<|G4 O<|A6<|E0 O (by simp[h2,h3,h5])<|D6<|B4 O<|E6 O<|A5 O<|D4<|V6 O O O O λw9 ho9=>⟨rfl,ho9.plain⟩
    ·rw[if_pos (.inr (.inr h5))];refine A3<|E6 O<|A5 O<|B5<|A4 O<|H5 O<|A4 O<|F9 9 false O (decide_eq_false (by exact ha))<|B3 O<|A4 O<|B3 O<|H5 O<|G4 O<|A6<|E0 O (by exact hb)<|D6<|B4 O<|A4 O<|B9 (Hm O O) O<|A5 O<|B5<|A4 O<|H5 O<|A4 O<|F9 18 true O (decide_eq_true (by exact h1))<|B3 O<|A4 O<|B3 O<|H5 O<|K8 O<|A4 O<|F9 22 false O (decide_eq_false (by simp[h1,h2]))<|B3 O<|A4 O<|B3 O<|H5 O<|B3 O<|A4 O<|F9 25 false O (decide_eq_false (by exact h3))<|D2 O ?_;exact D2 O<|B3 O<|G4 O<|G4 O<|A4 O<|B3 O<|A4 O<|B3 O<|A4 O<|B3 O<|B9 (IQ O O (by omega)) O<|B3 O<|A4 O<|B3 O<|J3 O<|G4 O<|A6<|E7 O (by simp[h2,h3,h5])<|A3<|E6 O<|A5 O<|D4<|K0<|V6 O O O O λw9 ho9=>⟨rfl,ho9.plain⟩
 ·by_cases h3:b= -1
  ·by_cases h4:a= -9223372036854775808
   ·rw[if_pos (.inr (.inl ⟨h3,h4⟩))];refine A3<|E6 O<|A5 O<|B5<|A4 O<|H5 O<|A4 O<|F9 9 false O (decide_eq_false (by exact ha))<|B3 O<|A4 O<|B3 O<|H5 O<|G4 O<|A6<|E0 O (by exact hb)<|D6<|B4 O<|A4 O<|B9 (Hm O O) O<|A5 O<|B5<|A4 O<|H5 O<|A4 O<|F9 18 false O (decide_eq_false (by exact h1))<|D2 O<|D2 O<|G4 O<|A4 O<|B3 O<|A4 O<|B3 O<|H5 O<|B3 O<|A4 O<|F9 25 true O (decide_eq_true (by exact h3))<|B3 O<|A4 O<|B3 O<|H5 O ?_;exact B3 O<|K8 O<|G4 O<|A4 O<|F9 30 true O (decide_eq_true (by simp[h1,h3,h4]))<|D2 O<|D2 O<|D2 O<|D2 O<|D2 O<|K8 O<|A6<|R1 O<|A3<|E6 O<|A5 O<|D4<|K0<|V6 O O O O λw9 ho9=>⟨rfl,ho9.plain⟩
   ·by_cases h5:IntKind.i64.wrap ((IntKind.i64.wrap (a*b)).tdiv b)=a
    ·rw[if_neg (λh=>by rcases h with h|h|h;exact h1 h.1;exact h4 h.2;exact h h5)];refine A3<|E6 O<|A5 O<|B5<|A4 O<|H5 O<|A4 O<|F9 9 false O (decide_eq_false (by exact ha))<|B3 O<|A4 O<|B3 O<|H5 O<|G4 O<|A6<|E0 O (by exact hb)<|D6<|B4 O<|A4 O<|B9 (Hm O O) O<|A5 O<|B5<|A4 O<|H5 O<|A4 O<|F9 18 false O (decide_eq_false (by exact h1))<|D2 O<|D2 O<|G4 O<|A4 O<|B3 O<|A4 O<|B3 O<|H5 O<|B3 O<|A4 O<|F9 25 true O (decide_eq_true (by exact h3))<|B3 O<|A4 O<|B3 O<|H5 O ?_;exact B3 O<|K8 O<|G4 O<|A4 O<|F9 30 false O (decide_eq_false (by exact h4))<|B3 O<|A4 O<|B3 O<|A4 O<|B3 O<|B9 (IQ O O (by omega)) O<|B3 O<|A4 O<|B3 O<|J3 O<|G4 O<|A6<|E0 O (by omega)<|D6<|B4 O<|E6 O<|A5 O<|D4<|V6 O O O O λw9 ho9=>⟨rfl,ho9.plain⟩
    ·rw[if_pos (.inr (.inr h5))];refine A3<|E6 O<|A5 O<|B5<|A4 O<|H5 O<|A4 O<|F9 9 false O (decide_eq_false (by exact ha))<|B3 O<|A4 O<|B3 O<|H5 O<|G4 O<|A6<|E0 O (by exact hb)<|D6<|B4 O<|A4 O<|B9 (Hm O O) O<|A5 O<|B5<|A4 O<|H5 O<|A4 O<|F9 18 false O (decide_eq_false (by exact h1))<|D2 O<|D2 O<|G4 O<|A4 O<|B3 O<|A4 O<|B3 O<|H5 O<|B3 O<|A4 O<|F9 25 true O (decide_eq_true (by exact h3))<|B3 O<|A4 O<|B3 O<|H5 O ?_;exact B3 O<|K8 O<|G4 O<|A4 O<|F9 30 false O (decide_eq_false (by exact h4))<|B3 O<|A4 O<|B3 O<|A4 O<|B3 O<|B9 (IQ O O (by omega)) O<|B3 O<|A4 O<|B3 O<|J3 O<|G4 O<|A6<|E7 O (by assumption)<|A3<|E6 O<|A5 O<|D4<|K0<|V6 O O O O λw9 ho9=>⟨rfl,ho9.plain⟩
  ·by_cases h5:IntKind.i64.wrap ((IntKind.i64.wrap (a*b)).tdiv b)=a
   ·rw[if_neg (λh=>by rcases h with h|h|h;exact h1 h.1;exact h3 h.1;exact h h5)];refine A3<|E6 O<|A5 O<|B5<|A4 O<|H5 O<|A4 O<|F9 9 false O (decide_eq_false (by exact ha))<|B3 O<|A4 O<|B3 O<|H5 O<|G4 O<|A6<|E0 O (by exact hb)<|D6<|B4 O<|A4 O<|B9 (Hm O O) O<|A5 O<|B5<|A4 O<|H5 O<|A4 O<|F9 18 false O (decide_eq_false (by exact h1))<|D2 O<|D2 O<|G4 O<|A4 O<|B3 O<|A4 O<|B3 O<|H5 O<|B3 O<|A4 O<|F9 25 false O (decide_eq_false (by exact h3))<|D2 O<|D2 O<|B3 O<|G4 O ?_;exact G4 O<|A4 O<|B3 O<|A4 O<|B3 O<|A4 O<|B3 O<|B9 (IQ O O (by omega)) O<|B3 O<|A4 O<|B3 O<|J3 O<|G4 O<|A6<|E0 O (by simp[h1,h3,h5])<|D6<|B4 O<|E6 O<|A5 O<|D4<|V6 O O O O λw9 ho9=>⟨rfl,ho9.plain⟩
   ·rw[if_pos (.inr (.inr h5))];refine A3<|E6 O<|A5 O<|B5<|A4 O<|H5 O<|A4 O<|F9 9 false O (decide_eq_false (by exact ha))<|B3 O<|A4 O<|B3 O<|H5 O<|G4 O<|A6<|E0 O (by exact hb)<|D6<|B4 O<|A4 O<|B9 (Hm O O) O<|A5 O<|B5<|A4 O<|H5 O<|A4 O<|F9 18 false O (decide_eq_false (by exact h1))<|D2 O<|D2 O<|G4 O<|A4 O<|B3 O<|A4 O<|B3 O<|H5 O<|B3 O<|A4 O<|F9 25 false O (decide_eq_false (by exact h3))<|D2 O<|D2 O<|B3 O<|G4 O ?_;exact G4 O<|A4 O<|B3 O<|A4 O<|B3 O<|A4 O<|B3 O<|B9 (IQ O O (by omega)) O<|B3 O<|A4 O<|B3 O<|J3 O<|G4 O<|A6<|E7 O (by simp[h1,h3,h5])<|A3<|E6 O<|A5 O<|D4<|K0<|V6 O O O O λw9 ho9=>⟨rfl,ho9.plain⟩
theorem am6{a b:Vl}(ha:N2 a)(hb:N2 b)(w:B6):I6 155 #[O6 a,O6 b] w (El (Ad II a b)):=by
 refine J5 func155 O ntmps155 O<|A3<|F0 O λgz0=>F0 O λgz1=>E3 P7 O λgz2=>A5 O<|A3<|G6 2 (cs:=(D8 a).toArray) O O<|G6 1 (cs:=(D8 b).toArray) O O<|F3 207 (A7 O) (λw ho=>Qr (by kernel_rfl) pE ha hb w) O<|G1 O<|G1 O<|E8 0 ((D8 (Ad II a b).1).toArray) O<|A5 O<|D4<|O5 0 O λw9 ho9=>?_;exact⟨rfl,ho9.plain⟩
theorem gG{a b:Vl}(ha:N2 a)(hb:N2 b)(w:B6):I6 156 #[O6 a,O6 b] w (El (Ad KX a b)):=by
 refine J5 func156 O ntmps156 O<|A3<|F0 O λgz0=>F0 O λgz1=>E3 P7 O λgz2=>A5 O<|A3<|G6 2 (cs:=(D8 a).toArray) O O<|G6 1 (cs:=(D8 b).toArray) O O<|F3 207 (A7 O) (λw ho=>Qr (by kernel_rfl) av3 ha hb w) O<|G1 O<|G1 O<|E8 0 ((D8 (Ad KX a b).1).toArray) O<|A5 O<|D4<|O5 0 O λw9 ho9=>?_;exact⟨rfl,ho9.plain⟩
theorem uJ{a b:Vl}(ha:N2 a)(hb:N2 b)(w:B6):I6 158 #[O6 a,O6 b] w (El (Ad LR a b)):=by
 refine J5 func158 O ntmps158 O<|A3<|F0 O λgz0=>F0 O λgz1=>E3 P7 O λgz2=>A5 O<|A3<|G6 2 (cs:=(D8 a).toArray) O O<|G6 1 (cs:=(D8 b).toArray) O O<|F3 207 (A7 O) (λw ho=>Qr (by kernel_rfl) qL ha hb w) O<|G1 O<|G1 O<|E8 0 ((D8 (Ad LR a b).1).toArray) O<|A5 O<|D4<|O5 0 O λw9 ho9=>?_;exact⟨rfl,ho9.plain⟩
theorem aa6{a b:Vl}(ha:N2 a)(hb:N2 b)(w:B6):I6 159 #[O6 a,O6 b] w (El (Ad Lo a b)):=by
 refine J5 func159 O ntmps159 O<|A3<|F0 O λgz0=>F0 O λgz1=>E3 P7 O λgz2=>A5 O<|A3<|G6 2 (cs:=(D8 a).toArray) O O<|G6 1 (cs:=(D8 b).toArray) O O<|F3 207 (A7 O) (λw ho=>Qr (by kernel_rfl) ah2 ha hb w) O<|G1 O<|G1 O<|E8 0 ((D8 (Ad Lo a b).1).toArray) O<|A5 O<|D4<|O5 0 O λw9 ho9=>?_;exact⟨rfl,ho9.plain⟩
theorem rV{a b:Vl}(ha:N2 a)(hb:N2 b)(w:B6):I6 157 #[O6 a,O6 b] w (El (Ad Kt a b)):=by
 refine J5 func157 O ntmps157 O<|A3<|F0 O λgz0=>F0 O λgz1=>E3 P7 O λgz2=>A5 O<|A3<|G6 2 (cs:=(D8 a).toArray) O O<|G6 1 (cs:=(D8 b).toArray) O O<|F3 207 (A7 O) (λw ho=>Qr (by kernel_rfl) ab7 ha hb w) O<|G1 O<|G1 O<|E8 0 ((D8 (Ad Kt a b).1).toArray) O<|A5 O<|D4<|O5 0 O λw9 ho9=>?_;exact⟨rfl,ho9.plain⟩
theorem N2.K4{v:Vl}(h:N2 v):v.K4.length<=64:=by
 have:=h.may;unfold Fs at this;simp only[Kf,j1,decide_eq_true_eq] at this;rcases this with((h|h)|h)|h<;>first|omega|(have:=h.2;simp[this])
def OG(a b:Vl):VE:=if a.kind=3/\b.kind=3 then GX (a.K4++b.K4) else(H4,10)
theorem vE{a b:Vl}(ha:N2 a)(hb:N2 b)(w:B6):I6 160 #[O6 a,O6 b] w (El (OG a b)):=by
 refine J5 func160 O ntmps160 O ?_;have cM:∀v w,N2 v->I6 203 #[O6 v] w (.bool true):=λv w h=>KJ h w;unfold OG;by_cases h1:a.kind=3
 ·by_cases h2:b.kind=3
  ·rw[if_pos ⟨h1,h2⟩];have hla:=ha.K4;have hlb:=hb.K4;refine A3<|F0 O λgz0=>F0 O λgz1=>E3 P7 O λgz2=>A5 O<|B5<|G6 2 (cs:=(D8 a).toArray) O O<|o7 (A7 O) (λw ho=>cM a w ha) O O O<|J7 O<|A4 O<|B3 O<|G6 1 (cs:=(D8 b).toArray) O O<|B3 O<|o7 (A7 O) (λw ho=>cM b w hb) O O O<|B3 O<|J7 O<|G4 O<|A6<|M8 O<|D6<|B5<|B2 2 O<|J3 O<|A4 O<|F9 18 false O (decide_eq_false (by omega))<|B3 O<|D9 O<|B3 O<|N3 1 O<|B3 O<|J3 O<|G4 O<|A6<|E0 O (by omega)<|D6<|A3<|B2 2 O<|B2 1 O<|B9 (wE O O (by omega)) O<|o7 (A7 O) (λw ho=>Ub (a.K4++b.K4) w) O O O ?_;exact G1 O<|G1 O<|E8 0 ((D8 (GX (a.K4++b.K4)).1).toArray) O<|A5 O<|D4<|O5 0 O λw9 ho9=>⟨rfl,ho9.plain⟩
  ·rw[if_neg (λh=>h2 h.2)];refine A3<|F0 O λgz0=>F0 O λgz1=>E3 P7 O λgz2=>A5 O<|B5<|G6 2 (cs:=(D8 a).toArray) O O<|o7 (A7 O) (λw ho=>cM a w ha) O O O<|J7 O<|A4 O<|B3 O<|G6 1 (cs:=(D8 b).toArray) O O<|B3 O<|o7 (A7 O) (λw ho=>cM b w hb) O O O<|B3 O<|J7 O<|G4 O<|A6<|M8 O<|D6<|B5<|B2 2 O<|J3 O<|A4 O<|F9 18 false O (decide_eq_false (by omega))<|B3 O<|D9 O<|B3 O<|N3 1 O<|B3 O<|J3 O<|G4 O<|A6<|E7 O (by exact h2)<|A3<|B9 (O7 (D8 H4) Bc O) O<|E8 0 ((D8 H4).toArray) O<|A5 O<|D4<|K0 ?_;exact O5 0 O λw9 ho9=>⟨rfl,ho9.plain⟩
 ·rw[if_neg (λh=>h1 h.1)];exact A3<|F0 O λgz0=>F0 O λgz1=>E3 P7 O λgz2=>A5 O<|B5<|G6 2 (cs:=(D8 a).toArray) O O<|o7 (A7 O) (λw ho=>cM a w ha) O O O<|J7 O<|A4 O<|B3 O<|G6 1 (cs:=(D8 b).toArray) O O<|B3 O<|o7 (A7 O) (λw ho=>cM b w hb) O O O<|B3 O<|J7 O<|G4 O<|A6<|M8 O<|D6<|B5<|B2 2 O<|J3 O<|A4 O<|F9 18 true O (decide_eq_true (by exact h1))<|D2 O<|D2 O<|D2 O<|K8 O<|A6<|R1 O<|A3<|B9 (O7 (D8 H4) Bc O) O<|E8 0 ((D8 H4).toArray) O<|A5 O<|D4<|K0<|O5 0 O λw9 ho9=>⟨rfl,ho9.plain⟩
def Ig(a b:Vl):Int:=if a.kind≠b.kind then IntKind.i64.wrap (a.kind-b.kind) else if a.num<b.num then-1 else if b.num<a.num then 1 else Lib.compareBytes a.K4 b.K4
theorem al8(a b:Vl)(w:B6):I6 206 #[O6 a,O6 b] w (.int .i64 (Ig a b)):=by
 refine J5 func206 O ntmps206 O ?_;have cC:∀w,I6 91 #[.string (bs a.K4),.string (bs b.K4)] w (.int .i64 (Lib.compareBytes a.K4 b.K4)):=λw=>(ag1 a.K4 b.K4 w).mono λe w' ⟨h1,h2⟩=>⟨h1,h2▸Below.refl _ _⟩
 unfold Ig;by_cases h1:a.kind=b.kind
 ·rw[if_neg (λh=>h h1)];by_cases h2:a.num<b.num
  ·rw[if_pos h2];exact A3<|F0 O λgz0=>F0 O λgz1=>A5 O<|C8<|C7<|A3<|B2 1 O<|B2 0 O<|J3 O<|A5 O<|E0 O (by omega)<|A3<|B2 1 O<|B2 0 O<|H9 O<|A5 O<|E7 O (by exact h2)<|A3<|A5 O<|K3<|E4 O λw9 ho9=>⟨rfl,ho9.plain⟩
  ·rw[if_neg h2];by_cases h3:b.num<a.num
   ·rw[if_pos h3];exact A3<|F0 O λgz0=>F0 O λgz1=>A5 O<|C8<|C7<|A3<|B2 1 O<|B2 0 O<|J3 O<|A5 O<|E0 O (by omega)<|A3<|B2 1 O<|B2 0 O<|H9 O<|A5 O<|E0 O (by exact h2)<|A3<|B2 1 O<|B2 0 O<|Q7 O<|A5 O<|E7 O (by exact h3)<|A3<|A5 O<|K3<|E4 O λw9 ho9=>⟨rfl,ho9.plain⟩
   ·rw[if_neg h3];exact A3<|F0 O λgz0=>F0 O λgz1=>A5 O<|C8<|C7<|A3<|B2 1 O<|B2 0 O<|J3 O<|A5 O<|E0 O (by omega)<|A3<|B2 1 O<|B2 0 O<|H9 O<|A5 O<|E0 O (by exact h2)<|A3<|B2 1 O<|B2 0 O<|Q7 O<|A5 O<|E0 O (by exact h3)<|P5<|F4<|E2<|A3<|B2 1 O<|B2 0 O<|F3 91 (A7 O) (λw ho=>cC w) O<|A5 O<|D4<|E4 O λw9 ho9=>⟨rfl,ho9.plain⟩
 ·rw[if_pos h1];exact A3<|F0 O λgz0=>F0 O λgz1=>A5 O<|C8<|C7<|A3<|B2 1 O<|B2 0 O<|J3 O<|A5 O<|E7 O (by exact h1)<|A3<|B2 1 O<|B2 0 O<|GD O<|A5 O<|K3<|E4 O λw9 ho9=>⟨rfl,ho9.plain⟩
def Od(v:Vl):VE:=if v.kind=0 then GX [110,105,108] else if v.kind=1 then GX (if decide (v.num=1) then Ep else EG) else if v.kind=2 then GX (Lib.itoa v.num) else(v,0)
theorem ae3{v:Vl}(h:N2 v)(w:B6)(hT:FU w):I6 162 #[O6 v] w (El (Od v)):=by
 refine J5 func162 O ntmps162 O ?_;unfold Od;by_cases h0:v.kind=0
 ·rw[if_pos h0];exact A3<|F0 O λgz0=>E3 P7 O λgz1=>A5 O<|B5<|G6 1 (cs:=(D8 v).toArray) O O<|F3 203 (A7 O) (λw ho=>KJ h w) O<|J7 O<|A6<|M8 O<|D6<|B5<|B2 1 O<|A6<|C7<|A3<|Q9 O (by exact h0)<|A3<|F3 213 (A7 O) (λw ho=>Ub [110,105,108] w) O<|G1 O<|G1 O<|E8 0 ((D8 (GX [110,105,108]).1).toArray) O<|A5 O<|K3<|O5 0 O λw9 ho9=>⟨rfl,ho9.plain⟩
 rw[if_neg h0];by_cases h1:v.kind=1
 ·rw[if_pos h1];exact A3<|F0 O λgz0=>E3 P7 O λgz1=>A5 O<|B5<|G6 1 (cs:=(D8 v).toArray) O O<|F3 203 (A7 O) (λw ho=>KJ h w) O<|J7 O<|A6<|M8 O<|D6<|B5<|B2 1 O<|A6<|C7<|A3<|C3 O (by exact h0)<|A3<|Q9 O (by exact h1)<|A3<|B2 1 O<|H5 O<|F3 112 (A7 O) (λw ho=>VR _ w) O<|F3 213 (A7 O) (λw ho=>Ub _ w) O<|G1 O<|G1 O<|E8 0 ((D8 (GX _).1).toArray) O<|A5 O<|K3<|O5 0 O λw9 ho9=>⟨rfl,ho9.plain⟩
 rw[if_neg h1];by_cases h2:v.kind=2
 ·rw[if_pos h2];exact A3<|F0 O λgz0=>E3 P7 O λgz1=>A5 O<|B5<|G6 1 (cs:=(D8 v).toArray) O O<|F3 203 (A7 O) (λw ho=>KJ h w) O<|J7 O<|A6<|M8 O<|D6<|B5<|B2 1 O<|A6<|C7<|A3<|C3 O (by exact h0)<|A3<|C3 O (by exact h1)<|A3<|Q9 O (by exact h2)<|A3<|B2 1 O<|F3 58 (A7 O) (λw ho=>Gq v.num w h.PN.1 h.PN.2 (ho.AB hT id)) O<|F3 213 (A7 O) (λw ho=>Ub _ w) O<|G1 O<|G1 O<|E8 0 ((D8 (GX _).1).toArray) O<|A5 O<|K3<|O5 0 O λw9 ho9=>⟨rfl,ho9.plain⟩
 rw[if_neg h2];exact A3<|F0 O λgz0=>E3 P7 O λgz1=>A5 O<|B5<|G6 1 (cs:=(D8 v).toArray) O O<|F3 203 (A7 O) (λw ho=>KJ h w) O<|J7 O<|A6<|M8 O<|D6<|B5<|B2 1 O<|A6<|C7<|A3<|C3 O (by exact h0)<|A3<|C3 O (by exact h1)<|A3<|C3 O (by exact h2)<|P5<|F4<|E2<|A3<|G6 1 (cs:=(D8 v).toArray) O O<|E8 0 ((D8 v).toArray) O<|A5 O<|D4<|O5 0 O λw9 ho9=>⟨rfl,ho9.plain⟩
theorem ZC:Mq prog 258=some (List.replicate 6 (.bool false),1):=by kernel_rfl
def Kd(o:Int):List Bool:=[decide (o=0),decide (o≠0),decide (o<0),decide (o<=0),decide (0<o),decide (0<=o)]
def PA(op:Nat)(a b:Vl):VE:=if 1<op/\a.kind≠b.kind then(H4,10) else(Hj ((Kd (Ig a b)).getD op false),0)
theorem ar5(op:Nat)(hop:op<=5){a b:Vl}(ha:N2 a)(hb:N2 b)(w:B6):I6 154 #[.int .i64 op,O6 a,O6 b] w (El (PA op a b)):=by
 refine J5 func154 O ntmps154 O ?_;have cM:∀v w,N2 v->I6 203 #[O6 v] w (.bool true):=λv w h=>KJ h w;have cO:=λw=>al8 a b w;unfold PA;have hget:(Kd (Ig a b))[op]?=some ((Kd (Ig a b)).getD op false):=by
  rw[W6,T8 (by simp[Kd];omega)];rfl
 have hget2:((Kd (Ig a b)).map Value.bool).toArray[op]?=some (.bool ((Kd (Ig a b)).getD op false)):=by
  simp only[Rf,Kj,hget];rfl
 generalize (Kd (Ig a b)).getD op false=r at hget2⊢;by_cases h1:1<op
 ·by_cases h2:a.kind=b.kind
  ·rw[if_neg (λh=>h.2 h2)];refine A3<|F0 O λgz0=>F0 O λgz1=>E3 P7 O λgz2=>A5 O<|C8<|C7<|A3<|G6 2 (cs:=(D8 a).toArray) O O<|o7 (A7 O) (λw ho=>cM a w ha) O O O<|J7 O<|A4 O<|B3 O<|G6 1 (cs:=(D8 b).toArray) O O<|B3 O<|o7 (A7 O) (λw ho=>cM b w hb) O O O<|B3 O<|J7 O<|G4 O<|A5 O<|M8 O<|B4 O<|H9 O<|A4 O<|F9 22 false O (decide_eq_false (by omega))<|B3 O<|A4 O<|B3 O<|Q7 O<|G4 O<|A5 O<|E0 O (by omega)<|B4 O<|Q7 O<|A4 O<|F9 30 true O (decide_eq_true (by omega))<|B3 O<|D9 O<|B3 O<|N3 2 O ?_;exact B3 O<|D9 O<|B3 O<|N3 1 O<|B3 O<|J3 O<|K8 O<|A5 O<|E0 O (by omega)<|P5<|F4<|E2<|A3<|G6 2 (cs:=(D8 a).toArray) O O<|G6 1 (cs:=(D8 b).toArray) O O<|F3 206 (A7 O) (λw ho=>cO w) O<|A5 O<|B4 O<|H5 O<|A4 O<|J3 O<|A4 O<|H9 O<|A4 O<|Hp O<|A4 O<|Q7 O<|A4 O<|O1 O<|B9 (JI (cs:=(Kd (Ig a b)).map Value.bool) ZC O O) O<|A4 O<|B9 (BZ (l:=6) (q:=op) (by kernel_rfl) O O (by omega) hget2) O<|F3 167 (A7 O) (λw ho=>Ua r w) O<|E8 0 ((D8 (Hj r)).toArray) O<|A5 O<|D4<|O5 0 O λw9 ho9=>⟨rfl,ho9.plain⟩
  ·rw[if_pos ⟨h1,h2⟩];refine A3<|F0 O λgz0=>F0 O λgz1=>E3 P7 O λgz2=>A5 O<|C8<|C7<|A3<|G6 2 (cs:=(D8 a).toArray) O O<|o7 (A7 O) (λw ho=>cM a w ha) O O O<|J7 O<|A4 O<|B3 O<|G6 1 (cs:=(D8 b).toArray) O O<|B3 O<|o7 (A7 O) (λw ho=>cM b w hb) O O O<|B3 O<|J7 O<|G4 O<|A5 O<|M8 O<|B4 O<|H9 O<|A4 O<|F9 22 false O (decide_eq_false (by omega))<|B3 O<|A4 O<|B3 O<|Q7 O<|G4 O<|A5 O<|E0 O (by omega)<|B4 O<|Q7 O<|A4 O<|F9 30 true O (decide_eq_true (by omega))<|B3 O<|D9 O<|B3 O<|N3 2 O ?_;exact B3 O<|D9 O<|B3 O<|N3 1 O<|B3 O<|J3 O<|K8 O<|A5 O<|E7 O (by omega)<|A3<|B9 (O7 (D8 H4) Bc O) O<|E8 0 ((D8 H4).toArray) O<|A5 O<|K3<|O5 0 O λw9 ho9=>⟨rfl,ho9.plain⟩
 ·rw[if_neg (λh=>h1 h.1)];refine A3<|F0 O λgz0=>F0 O λgz1=>E3 P7 O λgz2=>A5 O<|C8<|C7<|A3<|G6 2 (cs:=(D8 a).toArray) O O<|o7 (A7 O) (λw ho=>cM a w ha) O O O<|J7 O<|A4 O<|B3 O<|G6 1 (cs:=(D8 b).toArray) O O<|B3 O<|o7 (A7 O) (λw ho=>cM b w hb) O O O<|B3 O<|J7 O<|G4 O<|A5 O<|M8 O<|B4 O<|H9 O<|A4 O<|F9 22 false O (decide_eq_false (by omega))<|B3 O<|A4 O<|B3 O<|Q7 O<|G4 O<|A5 O<|E0 O (by omega)<|B4 O<|Q7 O<|A4 O<|F9 30 false O (decide_eq_false (by omega))<|D2 O<|D2 O<|D2 O<|D2 O ?_;exact D2 O<|G4 O<|A5 O<|M8 O<|P5<|F4<|E2<|A3<|G6 2 (cs:=(D8 a).toArray) O O<|G6 1 (cs:=(D8 b).toArray) O O<|F3 206 (A7 O) (λw ho=>cO w) O<|A5 O<|B4 O<|H5 O<|A4 O<|J3 O<|A4 O<|H9 O<|A4 O<|Hp O<|A4 O<|Q7 O<|A4 O<|O1 O<|B9 (JI (cs:=(Kd (Ig a b)).map Value.bool) ZC O O) O<|A4 O<|B9 (BZ (l:=6) (q:=op) (by kernel_rfl) O O (by omega) hget2) O<|F3 167 (A7 O) (λw ho=>Ua r w) O<|E8 0 ((D8 (Hj r)).toArray) O<|A5 O<|D4<|O5 0 O λw9 ho9=>⟨rfl,ho9.plain⟩
def Py(v:Vl):VE:=Ad KX (Mp 0) v
theorem eC:N2 (Mp 0):=⟨rfl,by decide,by decide⟩
theorem oY{v:Vl}(h:N2 v)(w:B6):I6 164 #[O6 v] w (El (Py v)):=by
 refine J5 func164 O ntmps164 O<|A3<|F0 O λgz0=>E3 P7 O λgz1=>A5 O<|C8 ?_;apply BL 5 [_,_,_,_,_] (by kernel_rfl) (by kernel_rfl) (by kernel_rfl)
 ·refine Ld O (λvs=>IZ (A7 O) (λw ho _=>Wf 0 w))<|D5 O (λvs=>FY 1 (cs:=(D8 v).toArray) O)<|Ld O (λvs=>IZ (A7 O) (λw ho _=>gG eC h w))<|D5 O (λvs=>HO O O)<|D5 O (λvs=>HO O O) ?_;exact l6
 ·(repeat(first|exact trivial|exact(λ_ _ _ h=>h)|refine⟨trivial,?_⟩|refine⟨λ_ _ _ h=>h,?_⟩))
 ·intro vs;refine E8 0 ((D8 (Py v).1).toArray) O<|A5 O<|D4<|O5 0 O λw9 ho9=>?_;exact⟨rfl,ho9.plain⟩
end
theorem UX(z:Int):r7 (IntKind.i64.wrap z):=by
 unfold r7;simp[IntKind.wrap,IntKind.signed,IntKind.bits];split<;>omega
theorem IJ:r7 0:=by unfold r7;omega
theorem Fh:N2 H4:=⟨rfl,IJ⟩
theorem TB(b:Bool):N2 (Hj b):=by cases b<;>exact⟨rfl,by decide,by decide⟩
theorem WT{n:Int}(h:r7 n):N2 (Mp n):=⟨by simp[Fs,Mp],h⟩
theorem Vr{s:C9}(h:s.length<=64):N2 (Fy s):=⟨by simp[Fs,Fy,h],IJ⟩
theorem Sp(s:C9):N2 (GX s).1:=by
 unfold GX;split
 ·exact Fh
 ·exact Vr (by omega)
theorem nQ(v:Vl):N2 (Of v).1:=by unfold Of;split;exact TB _;exact Fh
theorem tY{v:Vl}(h:N2 v):N2 (PG v).1:=by
 unfold PG;split
 ·have:=h.K4;exact WT (by unfold r7;omega)
 ·exact Fh
def Oq(F:Int->Int->Int×Int):Prop:=∀a b,r7 a->r7 b->r7 (F a b).1
theorem aA3:Oq II:=λa b _ _=>by unfold II;split;exact IJ;exact UX _
theorem jG:Oq KX:=λa b _ _=>by unfold KX;split;exact IJ;exact UX _
theorem af7:Oq Kt:=λa b _ _=>by
 unfold Kt;split
 ·exact IJ
 ·split
  ·exact IJ
  ·exact UX _
theorem qY:Oq LR:=λa b _ _=>by
 unfold LR;split
 ·exact IJ
 ·split
  ·exact IJ
  ·exact UX _
theorem zR:Oq Lo:=λa b ha hb=>by
 unfold Lo;split
 ·exact IJ
 ·split
  ·exact IJ
  ·have h1:(a.tmod b).natAbs<=a.natAbs:=by rw[Int.natAbs_tmod];exact Nat.mod_le _ _
   have h2:0<=a->0<=a.tmod b:=λh=>Int.tmod_nonneg _ h;have h3:0<= -a->0<=(-a).tmod b:=λh=>Int.tmod_nonneg _ h;rw[Int.neg_tmod] at h3;unfold r7 at*;dsimp only;omega
theorem Oz{F:Int->Int->Int×Int}(hF:Oq F){a b:Vl}(ha:N2 a)(hb:N2 b):N2 (Ad F a b).1:=by
 unfold Ad;split
 ·split
  ·exact WT (hF _ _ ha.PN hb.PN)
  ·exact Fh
 ·exact Fh
theorem vK{v:Vl}(h:N2 v):N2 (Py v).1:=Oz jG eC h
theorem rC(a b:Vl):N2 (OG a b).1:=by unfold OG;split;exact Sp _;exact Fh
theorem aq5(op:Nat)(a b:Vl):N2 (PA op a b).1:=by unfold PA;split;exact Fh;exact TB _
theorem zI{v:Vl}(h:N2 v):N2 (Od v).1:=by
 unfold Od;split
 ·exact Sp _
 ·split
  ·exact Sp _
  ·split
   ·exact Sp _
   ·exact h
def Jb(sl:List Int)(B8 q j:Nat):Prop:=∃k:Nat,sl.getD j 0=(k:Int)/\k+q<B8
def Fv(sl:List Int)(B8:Nat):Ex->Nat->Prop
 |.no,_=>True
 |.nd k i s a b,n=>Fv sl B8 a n/\Fv sl B8 b (n+a.size)/\(k=4->Jb sl B8 0 (n+a.size+b.size))
def Et(sl:List Int)(B8:Nat):Bl->Nat->Prop
 |.no,_=>True
 |.st k i s t a b B C r,n=>Fv sl B8 a n/\Fv sl B8 b (n+a.size)/\Et sl B8 B (n+a.size+b.size)/\Et sl B8 C (n+a.size+b.size+B.size)/\
   (k=20\/k=21->Jb sl B8 0 (n+a.size+b.size+B.size+C.size))/\(k=25->Jb sl B8 1 (n+a.size+b.size+B.size+C.size))/\
   Et sl B8 r (n+a.size+b.size+B.size+C.size+1)
theorem Jb.K6{sl sl':List Int}{B8 most' q j:Nat}(h:Jb sl B8 q j)(hs:sl'.getD j 0=sl.getD j 0)(hm:B8<=most'):Jb sl' most' q j:=by
 obtain⟨k,h1,h2⟩:=h;exact⟨k,by rw[hs,h1],by omega⟩
theorem Fv.K6{sl sl':List Int}{B8 most':Nat}(hm:B8<=most'):∀{e:Ex} {n:Nat},Fv sl B8 e n->(∀j,n<=j->j<n+e.size->sl'.getD j 0=sl.getD j 0)->Fv sl' most' e n
 |.no,_,_,_=>trivial
 |.nd k i s a b,n,h,hs=>by
  obtain⟨h1,h2,h3⟩:=h;simp only[Ex.size] at hs;exact⟨Fv.K6 hm h1 (λj q1 q2=>hs j (by omega) (by omega)),Fv.K6 hm h2 (λj q1 q2=>hs j (by omega) (by omega)),λhk=>(h3 hk).K6 (hs _ (by omega) (by omega)) hm⟩
theorem Et.K6{sl sl':List Int}{B8 most':Nat}(hm:B8<=most'):∀{B:Bl} {n:Nat},Et sl B8 B n->(∀j,n<=j->j<n+B.size->sl'.getD j 0=sl.getD j 0)->Et sl' most' B n
 |.no,_,_,_=>trivial
 |.st k i s t a b B C r,n,h,hs=>by
  obtain⟨h1,h2,h3,h4,h5,h6,h7⟩:=h;simp only[Bl.size] at hs;exact⟨h1.K6 hm (λj q1 q2=>hs j (by omega) (by omega)),h2.K6 hm (λj q1 q2=>hs j (by omega) (by omega)),Et.K6 hm h3 (λj q1 q2=>hs j (by omega) (by omega)),Et.K6 hm h4 (λj q1 q2=>hs j (by omega) (by omega)),
   λhk=>(h5 hk).K6 (hs _ (by omega) (by omega)) hm,λhk=>(h6 hk).K6 (hs _ (by omega) (by omega)) hm,Et.K6 hm h7 (λj q1 q2=>hs j (by omega) (by omega))⟩
structure CY(S S':Sc)(n m:Nat):Prop where
 e:S'.e=0->S.e=0
 B8:S.B8<=S'.B8
 len:S'.C0.length=S.C0.length
 p7:∀j,¬(n<=j/\j<n+m)->S'.C0.getD j 0=S.C0.getD j 0
theorem CY.refl(S:Sc)(n:Nat):CY S S n 0:=⟨id,L6 _,rfl,λ_ _=>rfl⟩
theorem CY.trans{S S1 S2:Sc}{n m n1 m1 k l:Nat}(h:CY S S1 n m)(h':CY S1 S2 n1 m1)(h1:k<=n)(h2:n+m<=k+l)(h3:k<=n1)(h4:n1+m1<=k+l):CY S S2 k l:=
 ⟨λhe=>h.e (h'.e he),j7 h.B8 h'.B8,h'.len.trans h.len,λj hj=>(h'.p7 j (by omega)).trans (h.p7 j (by omega))⟩
theorem CY.wide{S S1:Sc}{n m k l:Nat}(h:CY S S1 n m)(h1:k<=n)(h2:n+m<=k+l):CY S S1 k l:=⟨h.e,h.B8,h.len,λj hj=>h.p7 j (by omega)⟩
theorem Mf(S:Sc)(c p:Int)(hc:c≠0):(Cu S c p).e≠0:=by
 unfold Cu;split
 ·exact hc
 ·assumption
theorem kW{l:List Int}{i j:Nat}{x d:Int}(h:j≠i):(l.set i x).getD j d=l.getD j d:=by
 simp only[W6];rw[Ux (by omega)]
theorem Vg{l:List Int}{i:Nat}{x d:Int}(h:i<l.length):(l.set i x).getD i d=x:=by
 simp only[W6];rw[Pf h];rfl
theorem QA(s:C9)(i:Nat)(S:Sc):CY S (EP s i S) i 1:=by
 unfold EP;dsimp only;have hk:=HU S 15 i;have p7:∀j,¬(i<=j/\j<i+1)->(S.C0.set i (Fl s S.seen 0 (-1))).getD j 0=S.C0.getD j 0:=λj hj=>kW (by omega);split
 ·exact⟨λh=>absurd h (Mf S 15 i (by decide)),by rw[hk.2.1];exact L6 _,by rw[hk.2.2];simp,λj hj=>by rw[hk.2.2];exact p7 j hj⟩
 ·exact⟨id,L6 _,by simp,p7⟩
theorem lA(s:C9)(i:Nat)(S:Sc)(he:(EP s i S).e=0)(hs:S.seen.length<=S.B8)(hi:i<S.C0.length):Jb (EP s i S).C0 (EP s i S).B8 0 i:=by
 unfold EP at he⊢;dsimp only at he⊢;split
 ·rename_i h;rw[if_pos h] at he;exact absurd he (Mf S 15 i (by decide))
 ·rename_i h;have h2:=Xx s S.seen 0 (-1) (by omega);refine⟨(Fl s S.seen 0 (-1)).toNat,?_,?_⟩
  ·rw[Vg hi];omega
  ·omega
theorem Vy(s:C9)(i:Int)(S:Sc)(n:Nat):CY S (DE s i S) n 0:=by
 unfold DE;dsimp only;have hk:=HU S 16 i;have hk2:=HU S 5 i;split
 ·exact⟨λh=>absurd h (Mf S 16 i (by decide)),by rw[hk.2.1];exact Nat.le_max_left _ _,by rw[hk.2.2],λj hj=>by rw[hk.2.2]⟩
 split
 ·exact⟨λh=>absurd h (Mf S 5 i (by decide)),by rw[hk2.2.1];exact Nat.le_max_left _ _,by rw[hk2.2.2],λj hj=>by rw[hk2.2.2]⟩
 ·exact⟨id,Nat.le_max_left _ _,rfl,λj hj=>rfl⟩
theorem Vo(s:C9)(i:Int)(S:Sc):S.seen.length+1<=(DE s i S).B8:=by
 unfold DE;dsimp only;split
 ·rw[(HU S 16 i).1];exact Nat.le_max_right _ _
 split
 ·rw[(HU S 5 i).1];exact Nat.le_max_right _ _
 ·exact Nat.le_max_right _ _
theorem RG(i:Nat)(S:Sc):CY S (AU i S) i 1:=⟨id,L6 _,by simp[AU],λj hj=>kW (by omega)⟩
theorem Hc:∀(e:Ex) (n:Nat) (S:Sc),CY S (M5 e n S) n e.size
 |.no,n,S=>CY.refl S n
 |.nd k i s a b,n,S=>by
  have h1:=Hc a n S;have h2:=Hc b (n+a.size) (M5 a n S);have h12:=h1.trans h2 (k:=n) (l:=(Ex.nd k i s a b).size) (by omega) (by simp only[Ex.size];omega) (by omega) (by simp only[Ex.size];omega);simp only[M5];split
  ·exact h12.trans (QA s _ _) (by omega) (by omega) (by omega) (by simp only[Ex.size];omega)
  ·exact h12
theorem Ga:∀(e:Ex) (n:Nat) (S:Sc),(M5 e n S).e=0->S.seen.length<=S.B8->n+e.size<=S.C0.length->Fv (M5 e n S).C0 (M5 e n S).B8 e n
 |.no,n,S,_,_,_=>trivial
 |.nd k i s a b,n,S,he,hs,hl=>by
  simp only[Ex.size] at hl;have t1:=Hc a n S;have t2:=Hc b (n+a.size) (M5 a n S);have sn1:(M5 a n S).seen=S.seen:=HH a n S;have sn2:(M5 b (n+a.size) (M5 a n S)).seen=S.seen:=(HH b _ _).trans sn1;have m1:=t1.B8;have m2:=t2.B8;simp only[M5] at he⊢;split at he
  ·rename_i h4;rw[if_pos h4];have t3:=QA s (n+a.size+b.size) (M5 b (n+a.size) (M5 a n S));have e2:=t3.e he;have i1:=Ga a n S (t2.e e2) hs (by omega);have i2:=Ga b (n+a.size) (M5 a n S) e2 (by rw[sn1];omega) (by rw[t1.len];omega);have i3:=lA s (n+a.size+b.size) (M5 b (n+a.size) (M5 a n S)) he (by rw[sn2];omega) (by rw[t2.len,t1.len];omega);have m3:=t3.B8;exact⟨i1.K6 (by omega) (λj q1 q2=>(t3.p7 j (by omega)).trans (t2.p7 j (by omega))),i2.K6 m3 (λj q1 q2=>t3.p7 j (by omega)),λ_=>i3⟩
  ·rename_i h4;rw[if_neg h4];have i1:=Ga a n S (t2.e he) hs (by omega);have i2:=Ga b (n+a.size) (M5 a n S) he (by rw[sn1];omega) (by rw[t1.len];omega);exact⟨i1.K6 m2 (λj q1 q2=>t2.p7 j (by omega)),i2,λh=>absurd h h4⟩
theorem Xz(p:Int)(n:Nat):∀(l:List (List UInt8)) (S:Sc),CY S (AT l p S) n 0
 |[],S=>CY.refl S n
 |s::l,S=>(Vy s p S n).trans (Xz p n l (DE s p S)) (L6 _) (L6 _) (L6 _) (L6 _)
theorem Xu(p:Int):∀(l:List (List UInt8)) (S:Sc),S.seen.length<=S.B8->S.seen.length+l.length<=(AT l p S).B8
 |[],S,h=>h
 |s::l,S,h=>by
  have h1:=Vo s p S;have h2:=Xu p l (DE s p S) (by rw[QY,J8];exact h1);rw[QY,J8] at h2;simp only[T3,Y4] at h2⊢;show _<=(AT l p (DE s p S)).B8;omega
structure Lt(f:Sc->Sc)(n m:Nat):Prop where
 to:∀S,CY S (f S) n m
 seen:∀S,S.seen.length<=(f S).seen.length
 B8:∀S,S.seen.length<=S.B8->(f S).seen.length<=(f S).B8
theorem Gf{f:Sc->Sc}{n m:Nat}(h:Lt f n m)(l:List (List UInt8))(p:Int)(S:Sc):CY S (Aj f l p S) n m:=by
 have t:=(Xz p n l S).trans (h.to (AT l p S)) (k:=n) (l:=m) (by omega) (by omega) (by omega) (by omega);exact⟨t.e,t.B8,t.len,t.p7⟩
theorem QC{f:Sc->Sc}{n m:Nat}(h:Lt f n m)(l:List (List UInt8))(p:Int)(S:Sc):(Aj f l p S).seen.length=S.seen.length:=by
 have h1:=RN h.seen l p S;have h2:(Aj f l p S).seen.length<=S.seen.length:=by unfold Aj;simp only[ED];omega
 omega
theorem Zj(k:Int)(s t:C9)(a b:Ex){fB fC:Sc->Sc}{n x y:Nat}(hB:Lt fB (n+a.size+b.size) x)(hC:Lt fC (n+a.size+b.size+x) y)(j:Nat)(hj:j=n+a.size+b.size+x+y)(S:Sc):CY S (Eh k s t a b fB fC n j S) n (a.size+b.size+x+y+1):=by
 have h1:=Hc a n S;unfold Eh;split
 ·exact h1.trans (Hc b (n+a.size) _) (by omega) (by omega) (by omega) (by omega)
 split
 ·exact(h1.trans (RG j _) (k:=n) (l:=a.size+b.size+x+y+1) (by omega) (by omega) (by omega) (by omega)).trans (Vy s j _ n) (by omega) (by omega) (by omega) (by omega)
 split
 ·exact h1.trans (QA s j _) (by omega) (by omega) (by omega) (by omega)
 split
 ·exact(h1.trans (Gf hB [] j _) (k:=n) (l:=a.size+b.size+x+y+1) (by omega) (by omega) (by omega) (by omega)).trans (Gf hC [] j _) (by omega) (by omega) (by omega) (by omega)
 split
 ·exact(h1.trans (RG j _) (k:=n) (l:=a.size+b.size+x+y+1) (by omega) (by omega) (by omega) (by omega)).trans (Gf hB [s,t] j _) (by omega) (by omega) (by omega) (by omega)
 split
 ·exact h1.trans (Gf hB [] j _) (by omega) (by omega) (by omega) (by omega)
 ·exact h1.wide (by omega) (by omega)
theorem lZ(k:Int)(s t:C9)(a b:Ex){fB fC:Sc->Sc}{n x y:Nat}(hB:Lt fB (n+a.size+b.size) x)(hC:Lt fC (n+a.size+b.size+x) y)(j:Nat)(hj:j=n+a.size+b.size+x+y)(S:Sc)(hS:S.seen.length<=S.B8):(Eh k s t a b fB fC n j S).seen.length<=(Eh k s t a b fB fC n j S).B8:=by
 have m1:=(Hc a n S).B8;have s1:(M5 a n S).seen.length=S.seen.length:=by rw[HH]
 unfold Eh;split
 ·have m2:=(Hc b (n+a.size) (M5 a n S)).B8;rw[HH,s1];omega
 split
 ·rw[QY,J8];exact Vo s j _
 split
 ·have m2:=(QA s j (M5 a n S)).B8;rw[Vn,s1];omega
 split
 ·have m2:=(Gf hB [] j (M5 a n S)).B8;have m3:=(Gf hC [] j (Aj fB [] j (M5 a n S))).B8;rw[QC hC,QC hB,s1];omega
 split
 ·have m2:=(RG j (M5 a n S)).B8;have m3:=(Gf hB [s,t] j (AU j (M5 a n S))).B8;rw[QC hB];show(M5 a n S).seen.length<=_;rw[s1];omega
 split
 ·have m2:=(Gf hB [] j (M5 a n S)).B8;rw[QC hB,s1];omega
 ·rw[s1];omega
theorem NX:∀(B:Bl) (n:Nat),Lt (k9 B n) n B.size
 |.no,n=>⟨λS=>CY.refl S n,λS=>L6 _,λS h=>h⟩
 |.st k i s t a b B C r,n=>by
  have hB:=NX B (n+a.size+b.size);have hC:=NX C (n+a.size+b.size+B.size);have hr:=NX r (n+a.size+b.size+B.size+C.size+1);refine⟨λS=>?_,Nt _ n,λS hS=>?_⟩
  ·simp only[k9,Bl.size];exact(Zj k s t a b hB hC _ rfl S).trans (hr.to _) (by omega) (by omega) (by omega) (by omega)
  ·simp only[k9];exact hr.B8 _ (lZ k s t a b hB hC _ rfl S hS)
structure bT(f:Sc->Sc)(B:Bl)(n:Nat):Prop where
 ok:∀S,(f S).e=0->S.seen.length<=S.B8->n+B.size<=S.C0.length->Et (f S).C0 (f S).B8 B n
theorem RM{f:Sc->Sc}{B:Bl}{n m:Nat}(h:Lt f n m)(hi:bT f B n)(l:List (List UInt8))(p:Int)(S:Sc)(he:(Aj f l p S).e=0)(hs:S.seen.length<=S.B8)(hl:n+B.size<=S.C0.length):Et (Aj f l p S).C0 (Aj f l p S).B8 B n:=by
 have h1:(AT l p S).seen.length<=(AT l p S).B8:=by rw[TW,J8];exact Xu p l S hs
 exact hi.ok (AT l p S) he h1 (by rw[(Xz p n l S).len];exact hl)
theorem aw2{k i:Int}{s t:C9}{a b:Ex}{B C r:Bl}(h:WB (.st k i s t a b B C r))(hk:k≠24/\k≠25/\k≠26):B=.no:=by
 cases h<;>first|rfl|(exfalso;omega)
theorem qP{k i:Int}{s t:C9}{a b:Ex}{B C r:Bl}(h:WB (.st k i s t a b B C r))(hk:k≠24):C=.no:=by
 cases h<;>first|rfl|(exfalso;omega)
theorem aB4{k i:Int}{s t:C9}{a b:Ex}{B C r:Bl}(h:WB (.st k i s t a b B C r))(hk:k≠22):b=.no:=by
 cases h<;>first|rfl|(exfalso;omega)
theorem SW:∀{B:Bl} (hW:WB B) (n:Nat),bT (k9 B n) B n
 |.no,_,n=>⟨λS _ _ _=>trivial⟩
 |.st k i s t a b B C r,hW,n=>by
  have wB:WB B:=by cases hW<;>first|exact WB.no|assumption
  have wC:WB C:=by cases hW<;>first|exact WB.no|assumption
  have wr:WB r:=by cases hW<;>assumption
  have hB:=NX B (n+a.size+b.size);have hC:=NX C (n+a.size+b.size+B.size);have hr:=NX r (n+a.size+b.size+B.size+C.size+1);have iB:=SW wB (n+a.size+b.size);have iC:=SW wC (n+a.size+b.size+B.size);have ir:=SW wr (n+a.size+b.size+B.size+C.size+1);have hno:=λh=>aw2 hW h;have hnoC:=λh=>qP hW h;have hnob:=λh=>aB4 hW h;refine⟨λS he hs hl=>?_⟩;simp only[k9] at he⊢;simp only[Bl.size] at hl;have tst:=Zj k s t a b hB hC (n+a.size+b.size+B.size+C.size) rfl S;have tr:=hr.to (Eh k s t a b (k9 B (n+a.size+b.size)) (k9 C (n+a.size+b.size+B.size)) n (n+a.size+b.size+B.size+C.size) S);have est:=tr.e he;have mst:=lZ k s t a b hB hC (n+a.size+b.size+B.size+C.size) rfl S hs;have i7:=ir.ok _ he mst (by rw[tst.len];omega);have m1:=(Hc a n S).B8;have s1:(M5 a n S).seen.length=S.seen.length:=by rw[HH]
  have l1:=(Hc a n S).len
  suffices hmain:∀S2,S2=Eh k s t a b (k9 B (n+a.size+b.size)) (k9 C (n+a.size+b.size+B.size)) n (n+a.size+b.size+B.size+C.size) S->Fv S2.C0 S2.B8 a n/\Fv S2.C0 S2.B8 b (n+a.size)/\Et S2.C0 S2.B8 B (n+a.size+b.size)/\Et S2.C0 S2.B8 C (n+a.size+b.size+B.size)/\
    (k=20\/k=21->Jb S2.C0 S2.B8 0 (n+a.size+b.size+B.size+C.size))/\(k=25->Jb S2.C0 S2.B8 1 (n+a.size+b.size+B.size+C.size)) by
   obtain⟨h1,h2,h3,h4,h5,h6⟩:=hmain _ rfl;have p7:∀j,j<n+a.size+b.size+B.size+C.size+1->_:=λj hj=>tr.p7 j (by omega);exact⟨h1.K6 tr.B8 (λj _ q=>p7 j (by omega)),h2.K6 tr.B8 (λj _ q=>p7 j (by omega)),h3.K6 tr.B8 (λj _ q=>p7 j (by omega)),h4.K6 tr.B8 (λj _ q=>p7 j (by omega)),λh=>(h5 h).K6 (p7 _ (by omega)) tr.B8,λh=>(h6 h).K6 (p7 _ (by omega)) tr.B8,i7⟩
  intro S2 hS2;generalize hj:n+a.size+b.size+B.size+C.size=j at*;rw[<-hS2] at est;unfold Eh at hS2;by_cases k22:k=22
  ·rw[if_pos k22] at hS2;have t2:=Hc b (n+a.size) (M5 a n S);rw[hS2] at est⊢;have i1:=Ga a n S (t2.e est) hs (by omega);have i2:=Ga b (n+a.size) (M5 a n S) est (by omega) (by omega);rw[hno (by omega),hnoC (by omega)];exact⟨i1.K6 t2.B8 (λq q1 q2=>t2.p7 q (by omega)),i2,trivial,trivial,λh=>by omega,λh=>by omega⟩
  rw[if_neg k22] at hS2;obtain rfl:b=.no:=hnob k22;clear hnob;simp only[Ex.size,Bs] at*;by_cases k20:k=20
  ·rw[if_pos k20] at hS2;rw[hno (by omega),hnoC (by omega)] at*;simp only[Bl.size,Bs] at hj;have t2:=RG j (M5 a n S);have t3:=Vy s j (AU j (M5 a n S)) n;have m3:=Vo s j (AU j (M5 a n S));have hm2:=t2.B8;have hm3:=t3.B8;have i1:=Ga a n S (t2.e (t3.e (hS2▸est))) hs (by omega);rw[hS2];refine⟨i1.K6 (by omega) (λq q1 q2=>(t3.p7 q (by omega)).trans (t2.p7 q (by omega))),trivial,trivial,trivial,λ_=>⟨(M5 a n S).seen.length,?_,m3⟩,λh=>by omega⟩;rw[t3.p7 j (by omega)];exact Vg (by omega)
  rw[if_neg k20] at hS2;by_cases k21:k=21
  ·rw[if_pos k21] at hS2;rw[hno (by omega),hnoC (by omega)] at*;simp only[Bl.size,Bs] at hj;have t2:=QA s j (M5 a n S);have i1:=Ga a n S (t2.e (hS2▸est)) hs (by omega);have i2:=lA s j (M5 a n S) (hS2▸est) (by omega) (by omega);rw[hS2];exact⟨i1.K6 t2.B8 (λq q1 q2=>t2.p7 q (by omega)),trivial,trivial,trivial,λ_=>i2,λh=>by omega⟩
  rw[if_neg k21] at hS2;by_cases k24:k=24
  ·rw[if_pos k24] at hS2;have t2:=Gf hB [] (j:Int) (M5 a n S);have t3:=Gf hC [] (j:Int) (Aj (k9 B (n+a.size)) [] j (M5 a n S));have s2:=QC hB [] (j:Int) (M5 a n S);have m2:=t2.B8;have m3:=t3.B8;have e2:=t3.e (hS2▸est);have i1:=Ga a n S (t2.e e2) hs (by omega);have i3:=RM hB iB [] (j:Int) (M5 a n S) e2 (by omega) (by omega);have i4:=RM hC iC [] (j:Int) _ (hS2▸est) (by omega) (by rw[t2.len];omega);rw[hS2];exact⟨i1.K6 (by omega) (λq q1 q2=>(t3.p7 q (by omega)).trans (t2.p7 q (by omega))),trivial,i3.K6 m3 (λq q1 q2=>t3.p7 q (by omega)),i4,λh=>by omega,λh=>by omega⟩
  rw[if_neg k24] at hS2;obtain rfl:C=.no:=hnoC k24;clear hnoC;simp only[Bl.size,Bs] at*;by_cases k25:k=25
  ·rw[if_pos k25] at hS2;have t2:=RG j (M5 a n S);have t3:=Gf hB [s,t] (j:Int) (AU j (M5 a n S));have m2:=t2.B8;have m3:=t3.B8;have e2:=t3.e (hS2▸est);have i1:=Ga a n S (t2.e e2) hs (by omega);have hsn:(AU j (M5 a n S)).seen.length=S.seen.length:=s1;have hmo:(AU j (M5 a n S)).B8=(M5 a n S).B8:=rfl;have i3:=RM hB iB [s,t] (j:Int) (AU j (M5 a n S)) (hS2▸est) (by omega) (by rw[t2.len];omega);have m4:=Xu (j:Int) [s,t] (AU j (M5 a n S)) (by omega);have m5:=(hB.to (AT [s,t] (j:Int) (AU j (M5 a n S)))).B8;rw[hS2];refine⟨i1.K6 (by omega) (λq q1 q2=>(t3.p7 q (by omega)).trans (t2.p7 q (by omega))),trivial,i3,trivial,λh=>by omega,λ_=>⟨S.seen.length,?_,?_⟩⟩
   ·rw[t3.p7 j (by omega)];rw[<-s1];exact Vg (by omega)
   ·simp only[T3,Y4] at m4;show S.seen.length+1<(k9 B (n+a.size) (AT [s,t] (j:Int) (AU j (M5 a n S)))).B8;omega
  rw[if_neg k25] at hS2;by_cases k26:k=26
  ·rw[if_pos k26] at hS2;have t2:=Gf hB [] (j:Int) (M5 a n S);have i1:=Ga a n S (t2.e (hS2▸est)) hs (by omega);have i3:=RM hB iB [] (j:Int) (M5 a n S) (hS2▸est) (by omega) (by omega);rw[hS2];exact⟨i1.K6 t2.B8 (λq q1 q2=>t2.p7 q (by omega)),trivial,i3,trivial,λh=>by omega,λh=>by omega⟩
  rw[if_neg k26] at hS2;have hb1:B=.no:=hno (by omega);subst hb1;rw[hS2];exact⟨Ga a n S (hS2▸est) hs (by omega),trivial,trivial,trivial,λh=>by omega,λh=>by omega⟩
theorem uQ{B:Bl}(hW:WB B)(he:(R3 B).e=0):Et (R3 B).C0 (R3 B).B8 B 0:=
 RM (NX B 0) (SW hW 0) [] (-1) (Kr B.size) he (L6 _) (by simp[Kr])
structure Ty where
 h:Nat
 d:Nat
 c:Nat
inductive r4 (B8 nv N:Nat) (I:List f9) (T:Nat->Ty) (p:Nat):f9->Prop
 |const (a h d c:Nat) (b j:Int) (ha:a<nv) (h0:T p=⟨h,d,c⟩) (h1:T (p+1)=⟨h+1,d,c⟩):r4 B8 nv N I T p ⟨0,a,b,j⟩
 |load (a h d c:Nat) (b j:Int) (ha:a<B8) (h0:T p=⟨h,d,c⟩) (h1:T (p+1)=⟨h+1,d,c⟩):r4 B8 nv N I T p ⟨1,a,b,j⟩
 |store (a h d c:Nat) (b j:Int) (ha:a<B8) (h0:T p=⟨h+1,d,c⟩) (h1:T (p+1)=⟨h,d,c⟩):r4 B8 nv N I T p ⟨2,a,b,j⟩
 |call (k h d c:Nat) (b j:Int) (hk:5<=k/\k<=10) (h0:T p=⟨h+1,d,c⟩) (h1:T (p+1)=⟨h+1,d,c⟩):r4 B8 nv N I T p ⟨3,k,b,j⟩
 |two (a h d c:Nat) (b j:Int) (ha:a<12) (h0:T p=⟨h+2,d,c⟩) (h1:T (p+1)=⟨h+1,d,c⟩):r4 B8 nv N I T p ⟨4,a,b,j⟩
 |both (q h d c:Nat) (b j:Int) (hq:p<q/\q<=N) (h0:T p=⟨h+1,d,c⟩) (h1:T (p+1)=⟨h,d,c⟩) (h2:T q=⟨h+1,d,c⟩):r4 B8 nv N I T p ⟨5,q,b,j⟩
 |XU (h d c:Nat) (a b j:Int) (h0:T p=⟨h+1,d,c⟩) (h1:T (p+1)=⟨h+1,d,c⟩):r4 B8 nv N I T p ⟨6,a,b,j⟩
 |step (h d c:Nat) (a b j:Int) (h0:T p=⟨h,d,c⟩) (h1:T (p+1)=⟨h,d,c⟩):r4 B8 nv N I T p ⟨7,a,b,j⟩
 |UW (q h d c:Nat) (b j:Int) (hq:p<q/\q<=N) (h0:T p=⟨h+1,d,c⟩) (h1:T (p+1)=⟨h,d,c⟩) (h2:T q=⟨h,d,c⟩):r4 B8 nv N I T p ⟨8,q,b,j⟩
 |jump (q h d c:Nat) (b j:Int) (hq:(p<q\/∃x,I[q]?=some x/\(x.op=13\/x.op=15)/\x.b=((p+1:Nat):Int))/\q<=N) (h0:T p=⟨h,d,c⟩) (h2:T q=⟨h,d,c⟩):r4 B8 nv N I T p ⟨9,q,b,j⟩
 |put (h d c:Nat) (a b j:Int) (h0:T p=⟨h+2,d,c⟩) (h1:T (p+1)=⟨h,d,c⟩):r4 B8 nv N I T p ⟨10,a,b,j⟩
 |del (h d c:Nat) (a b j:Int) (h0:T p=⟨h+1,d,c⟩) (h1:T (p+1)=⟨h,d,c⟩):r4 B8 nv N I T p ⟨11,a,b,j⟩
 |scan (n h d c:Nat) (a j:Int) (hn:n<=64) (h0:T p=⟨h+1,d,c⟩) (h1:T (p+1)=⟨h,d+1,c⟩):r4 B8 nv N I T p ⟨12,a,n,j⟩
 |each (a q h d c:Nat) (j:Int) (ha:a+1<B8) (hq:p<q/\q<=N) (h0:T p=⟨h,d+1,c⟩) (h1:T (p+1)=⟨h,d+1,c⟩) (h2:T q=⟨h,d,c⟩):r4 B8 nv N I T p ⟨13,a,q,j⟩
 |turns (n h d c:Nat) (b j:Int) (hn:n<=64) (h0:T p=⟨h,d,c⟩) (h1:T (p+1)=⟨h,d,c+1⟩):r4 B8 nv N I T p ⟨14,n,b,j⟩
 |again (q h d c:Nat) (a j:Int) (hq:p<q/\q<=N) (h0:T p=⟨h,d,c+1⟩) (h1:T (p+1)=⟨h,d,c+1⟩) (h2:T q=⟨h,d,c⟩):r4 B8 nv N I T p ⟨15,a,q,j⟩
 |abort (h d c:Nat) (a b j:Int) (h0:T p=⟨h+1,d,c⟩):r4 B8 nv N I T p ⟨16,a,b,j⟩
 |ret (h d c:Nat) (a b j:Int) (h0:T p=⟨h+1,d,c⟩):r4 B8 nv N I T p ⟨17,a,b,j⟩
 |fin (a b j:Int) (hp:p=N):r4 B8 nv N I T p ⟨18,a,b,j⟩
def Tb(t:Ty)(p:Nat):Prop:=t.h<=p/\t.d<=p/\t.c<=p
def GL{α:Type}(I:List α)(a:Nat)(l:List α):Prop:=∀i x,l[i]?=some x->I[a+i]?=some x
def Bo(T:Nat->Ty)(a:Nat)(l:List Ty):Prop:=∀i x,l[i]?=some x->T (a+i)=x
structure o5(B8 nv0 a:Nat)(l:List f9)(tl:List Ty)(t t':Ty):Prop where
 len:tl.length=l.length
 head:(tl++[t'])[0]?=some t
 ok:∀I T nv N,nv0<=nv->a+l.length<=N->GL I a l->Bo T a (tl++[t'])->Tb t a->(∀i x,l[i]?=some x->r4 B8 nv N I T (a+i) x)/\∀i,i<=l.length->Tb (T (a+i)) (a+i)
theorem GL.left{α:Type}{I:List α}{a:Nat}{l m:List α}(h:GL I a (l++m)):GL I a l:=λi x hx=>h i x (by
 rw[Fe (N5.1 hx).1];exact hx)
theorem GL.right{α:Type}{I:List α}{a:Nat}{l m:List α}(h:GL I a (l++m)):GL I (a+l.length) m:=λi x hx=>by
 have:=h (l.length+i) x (by rw[j4 (by omega)];simpa using hx);rwa[<-EZ] at this
theorem Bo.left{T:Nat->Ty}{a:Nat}{l m:List Ty}(h:Bo T a (l++m)):Bo T a l:=λi x hx=>h i x (by
 rw[Fe (N5.1 hx).1];exact hx)
theorem Bo.right{T:Nat->Ty}{a:Nat}{l m:List Ty}(h:Bo T a (l++m)):Bo T (a+l.length) m:=λi x hx=>by
 have:=h (l.length+i) x (by rw[j4 (by omega)];simpa using hx);rwa[<-EZ] at this
theorem Bo.join{T:Nat->Ty}{a:Nat}{l m:List Ty}{x:Ty}(h1:Bo T a l)(h2:T (a+l.length)=x):Bo T a (l++[x]):=λi y hy=>by
 rcases w7 i l.length with hi|hi
 ·rw[Fe hi] at hy;exact h1 i y hy
 ·rw[j4 hi] at hy;have hi2:i=l.length:=by have:=(N5.1 hy).1;simp at this;omega
  subst hi2;simp at hy;rw[h2,hy]
theorem o5.nil(B8 nv a:Nat)(t:Ty):o5 B8 nv a [] [] t t:=⟨rfl,rfl,λI T nv N _ _ _ hT hb=>⟨λi x hx=>by simp at hx,λi hi=>by
 obtain rfl:i=0:=by simpa using hi
 rw[hT 0 t rfl];exact hb⟩⟩
theorem o5.app{B8 nv1 nv2 a:Nat}{l1 l2:List f9}{tl1 tl2:List Ty}{t t1 t2:Ty}(h1:o5 B8 nv1 a l1 tl1 t t1)(h2:o5 B8 nv2 (a+l1.length) l2 tl2 t1 t2)(hn:nv1<=nv2):o5 B8 nv2 a (l1++l2) (tl1++tl2) t t2:=by
 have e1:∀T:Nat->Ty,Bo T a (tl1++tl2++[t2])->Bo T a (tl1++[t1])/\Bo T (a+l1.length) (tl2++[t2]):=λT hT=>by
  rw[Q2] at hT;have hr:Bo T (a+l1.length) (tl2++[t2]):=by rw[<-h1.len];exact hT.right
  exact⟨Bo.join (m:=[]) hT.left (by rw[h1.len];exact hr 0 t1 h2.head),hr⟩
 refine⟨by simp[h1.len,h2.len],?_,λI T nv N hv hN hI hT hb=>?_⟩
 ·rw[Q2];cases tl1 with
  |nil=>
   have:=h1.head;simp only[DM,YS,Ck] at this;rw[<-this];exact h2.head
  |cons x tl1=>exact h1.head
 ·obtain⟨ht1,ht2⟩:=e1 T hT;rw[J8] at hN;obtain⟨o1,b1⟩:=h1.ok I T nv N (by omega) (by omega) hI.left ht1 hb;have hb2:=b1 l1.length (L6 _);rw[show T (a+l1.length)=t1 from by have:=ht2 0 t1 h2.head;exact this] at hb2;obtain⟨o2,b2⟩:=h2.ok I T nv N hv (by omega) hI.right ht2 hb2;refine⟨λi x hx=>?_,λi hi=>?_⟩
  ·rcases w7 i l1.length with hi|hi
   ·rw[Fe hi] at hx;exact o1 i x hx
   ·rw[j4 hi] at hx;have:=o2 _ x hx;rwa[show a+l1.length+(i-l1.length)=a+i by omega] at this
  ·rw[J8] at hi;rcases w7 i l1.length with h|h
   ·exact b1 i (by omega)
   ·have:=b2 (i-l1.length) (by omega);rwa[show a+l1.length+(i-l1.length)=a+i by omega] at this
theorem o5.cons{B8 nv0 a:Nat}{x:f9}{l:List f9}{tl:List Ty}{t u t':Ty}(h:o5 B8 nv0 (a+1) l tl u t')(hu:Tb t a->Tb u (a+1))
  (hx:∀I T nv N,nv0<=nv->a+(l.length+1)<=N->GL I a (x::l)->Bo T a (t::(tl++[t']))->T a=t->T (a+1)=u->T (a+1+l.length)=t'->r4 B8 nv N I T a x):o5 B8 nv0 a (x::l) (t::tl) t t':=by
 refine⟨by simp[h.len],rfl,λI T nv N hv hN hI hT hb=>?_⟩;have hT2:Bo T (a+1) (tl++[t']):=Bo.right (l:=[t]) hT;have hI2:GL I (a+1) l:=GL.right (l:=[x]) hI;have h0:T a=t:=hT 0 t rfl;have h1:T (a+1)=u:=hT2 0 u h.head;have h2:T (a+1+l.length)=t':=hT2 l.length t' (by rw[<-h.len];simp);rw[T3] at hN;obtain⟨o,b⟩:=h.ok I T nv N hv (by omega) hI2 hT2 (hu hb);refine⟨λi y hy=>?_,λi hi=>?_⟩
 ·cases i with
  |zero=>simp at hy;subst hy;exact hx I T nv N hv hN hI hT h0 h1 h2
  |succ i=>
   have:=o i y (by simpa using hy);rwa[show a+1+i=a+(i+1) by omega] at this
 ·cases i with
  |zero=>rw[Bs,h0];exact hb
  |succ i=>
   rw[T3] at hi;have:=b i (by omega);rwa[show a+1+i=a+(i+1) by omega] at this
theorem o5.one{B8 nv0 a:Nat}{x:f9}{t t':Ty}(hu:Tb t a->Tb t' (a+1))(hx:∀I T nv N,nv0<=nv->a+1<=N->T a=t->T (a+1)=t'->r4 B8 nv N I T a x):o5 B8 nv0 a [x] [t] t t':=
 o5.cons (o5.nil B8 nv0 (a+1) t') hu λI T nv N hv hN _ _ h0 h1 _=>hx I T nv N hv hN h0 h1
theorem o5.wrap{B8 nv0 a:Nat}{x y:f9}{l:List f9}{tl:List Ty}{t u v t':Ty}(h:o5 B8 nv0 (a+1) l tl u v)(hu:Tb t a->Tb u (a+1))(hv':Tb v (a+1+l.length)->Tb t' (a+1+l.length+1))
  (hxy:∀I T nv N,nv0<=nv->a+1+l.length+1<=N->I[a]?=some x->T a=t->T (a+1)=u->T (a+1+l.length)=v->T (a+1+l.length+1)=t'->r4 B8 nv N I T a x/\r4 B8 nv N I T (a+1+l.length) y):o5 B8 nv0 a (x::(l++[y])) (t::(tl++[v])) t t':=by
 refine⟨by simp[h.len],rfl,λI T nv N hv hN hI hT hb=>?_⟩;have hT2:Bo T (a+1) (tl++[v]):=Bo.left (m:=[t']) (Bo.right (l:=[t]) hT);have hI2:GL I (a+1) l:=GL.left (m:=[y]) (GL.right (l:=[x]) hI);have h0:T a=t:=hT 0 t rfl;have h1:T (a+1)=u:=hT2 0 u h.head;have h2:T (a+1+l.length)=v:=hT2 l.length v (by rw[<-h.len];simp);have h3:T (a+1+l.length+1)=t':=by
  have:=hT (l.length+2) t' (by rw[<-h.len];simp);rwa[show a+(l.length+2)=a+1+l.length+1 by omega] at this
 simp only[T3,J8,Y4] at hN;obtain⟨o,b⟩:=h.ok I T nv N hv (by omega) hI2 hT2 (hu hb);obtain⟨hx,hy⟩:=hxy I T nv N hv (by omega) (hI 0 x rfl) h0 h1 h2 h3;refine⟨λi z hz=>?_,λi hi=>?_⟩
 ·cases i with
  |zero=>simp at hz;subst hz;exact hx
  |succ i=>
   rw[JC] at hz;rw[show a+(i+1)=a+1+i by omega];rcases w7 i l.length with hi|hi
   ·rw[Fe hi] at hz;exact o i z hz
   ·rw[j4 hi] at hz;have hi2:i=l.length:=by have:=(N5.1 hz).1;simp at this;omega
    subst hi2;simp at hz;subst hz;exact hy
 ·simp only[T3,J8,Y4] at hi;cases i with
  |zero=>rw[Bs,h0];exact hb
  |succ i=>
   rw[show a+(i+1)=a+1+i by omega];rcases w7 l.length i with h|h
   ·obtain rfl:i=l.length+1:=by omega
    rw[show a+1+(l.length+1)=a+1+l.length+1 by omega,h3];have:=b l.length (L6 _);rw[h2] at this;exact hv' this
   ·exact b i h
def Z4(B8:Nat)(M M':Cd)(t t':Ty):Prop:=∃l tl,M'.ins=M.ins++l/\M.G5.length<=M'.G5.length/\((∀v∈M.G5,N2 v)->∀v∈M'.G5,N2 v)/\o5 B8 M'.G5.length M.ins.length l tl t t'
theorem Z4.refl(B8:Nat)(M:Cd)(t:Ty):Z4 B8 M M t t:=⟨[],[],by simp,L6 _,id,o5.nil _ _ _ _⟩
theorem Z4.trans{B8:Nat}{M M1 M2:Cd}{t t1 t2:Ty}(h1:Z4 B8 M M1 t t1)(h2:Z4 B8 M1 M2 t1 t2):Z4 B8 M M2 t t2:=by
 obtain⟨l,tl,e,v,o,s⟩:=h1;obtain⟨l',tl',e',v',o',s'⟩:=h2;rw[e,J8] at s';exact⟨l++l',tl++tl',by rw[e',e,Q2],j7 v v',λh=>o' (o h),s.app s' v'⟩
theorem Z4.add{B8:Nat}{M:Cd}{op a b j:Int}{t t':Ty}(hu:Tb t M.ins.length->Tb t' (M.ins.length+1))(hx:∀I T nv N p,M.G5.length<=nv->T p=t->T (p+1)=t'->r4 B8 nv N I T p ⟨op,a,b,j⟩):Z4 B8 M (G2 M op a b j) t t':=
 ⟨[⟨op,a,b,j⟩],[t],rfl,L6 _,id,o5.one hu λI T nv N hv hN h0 h1=>hx I T nv N _ hv h0 h1⟩
theorem Z4.le{B8:Nat}{M M':Cd}{t t':Ty}(h:Z4 B8 M M' t t'):M.ins.length<=M'.ins.length:=by
 obtain⟨l,tl,e,_⟩:=h;rw[e,J8];omega
theorem uM{α:Type}(A B:List α)(x y:α):(A++x::B).set A.length y=A++y::B:=by
 rw[Rn _ _ (L6 _),JH];rfl
theorem ab9{α:Type}(A B:List α)(x:α):(A++x::B)[A.length]?=some x:=by
 rw[j4 (L6 _),JH];rfl
theorem Qv{M:Cd}{A B:List f9}{op a b j:Int}(h:M.ins=A++⟨op,a,b,j⟩::B)(o:Int):(l7 M A.length o).ins=A++(if LN o then⟨op,a,((A.length+1+B.length:Nat):Int),j⟩ else⟨op,((A.length+1+B.length:Nat):Int),b,j⟩)::B/\(l7 M A.length o).G5=M.G5:=by
 refine⟨?_,rfl⟩;unfold l7;simp only[h,ab9,uM];have e:(A++⟨op,a,b,j⟩::B).length=A.length+1+B.length:=by simp;omega
 rw[e]
theorem as4(M:Cd)(x:Vl):∃k:Nat,BV M x=(k:Int)/\k<(y4 M x).G5.length:=by
 unfold BV y4;cases h:M.G5.idxOf? x with
 |none=>exact⟨M.G5.length,rfl,by simp⟩
 |some k=>
  refine⟨k,rfl,?_⟩;rw[List.idxOf?] at h;exact(YW.1 h).1
theorem zC(M:Cd)(x:Vl)(hx:N2 x)(h:∀v∈M.G5,N2 v):∀v∈(y4 M x).G5,N2 v:=by
 unfold y4;split
 ·exact h
 ·intro v hv;rcases q0.1 hv with hv|hv
  ·exact h v hv
  ·rw[Bt.1 hv];exact hx
theorem az6{s:C9}{c:Nat}(h:r0 s=some c)(hn:¬(s=Sl\/s=Gc)):∃k:Nat,Hl s=(k:Int)/\k<12:=by
 have hm:s∈Ag:=by
  unfold r0 at h;split at h
  ·rename_i h1;exact absurd (.inr (by simpa[HR,Gc] using h1)) hn
  split at h
  ·rename_i h1;exact absurd (.inl (by simpa[Hv,Sl] using h1)) hn
  split at h
  ·rename_i h1;simp[Fu] at h1;simp[Ag];rcases h1 with h1|h1|h1|h1|h1|h1<;>simp[h1]
  split at h
  ·rename_i h1;simp[Hq] at h1;simp[Ag,h1]
  split at h
  ·rename_i h1;simp[HS] at h1;simp[Ag];rcases h1 with h1|h1<;>simp[h1]
  split at h
  ·rename_i h1;simp[HP] at h1;simp[Ag];rcases h1 with h1|h1|h1<;>simp[h1]
  ·cases h
 unfold Hl;cases h:Ag.idxOf? s with
 |none=>
  rw[List.idxOf?,mO] at h;have:=h s hm;simp at this
 |some k=>
  refine⟨k,rfl,?_⟩;rw[List.idxOf?] at h;have:=(YW.1 h).1;simpa[Ag] using this
theorem xH{e:Ex}(h:WE e){k i:Int}{s:C9}{a b:Ex}(he:e=.nd k i s a b)(hk:k<=3):N2 ⟨k,i,s⟩:=by
 cases h with
 |nil=>cases he;exact Fh
 |bool b=>cases he;exact TB b
 |int i h=>cases he;exact WT (n:=i) (by unfold HF at h;unfold r7;omega)
 |text s h=>cases he;exact Vr h.1
 |name=>cases he;omega
 |call=>cases he;omega
 |pre=>cases he;omega
 |two=>cases he;omega
theorem OR(sl:List Int)(B8:Nat):∀{e:Ex} (hW:WE e) (n:Nat) (M:Cd) (h d c:Nat),Fv sl B8 e n->Z4 B8 M (L8 sl e n M) ⟨h,d,c⟩ ⟨h+1,d,c⟩
 |.no,hW,_,_,_,_,_,_=>by cases hW
 |.nd k i s a b,hW,n,M,h,d,c,hs=>by
  obtain⟨hs1,hs2,hs3⟩:=hs;generalize hj:((n+a.size+b.size:Nat):Int)=j at*;have hv:=λhk=>xH hW rfl hk (k:=k) (i:=i) (s:=s);simp only[L8];by_cases k3:k<=3
  ·rw[if_pos k3];have hin:=(NM M ⟨k,i,s⟩).1;obtain⟨q,hq1,hq2⟩:=as4 M ⟨k,i,s⟩;refine⟨[⟨0,BV M ⟨k,i,s⟩,0,j⟩],[⟨h,d,c⟩],by rw[<-hin,<-hj];rfl,?_,zC M _ (hv k3),?_⟩
   ·show _<=(y4 M ⟨k,i,s⟩).G5.length;unfold y4;split<;>simp
   ·refine o5.one (λhb=>by unfold Tb at*;dsimp only at*;omega) λI T nv N hv hN h0 h1=>?_;rw[hq1];exact .const q h d c 0 j (ID hq2 hv) h0 h1
  rw[if_neg k3];by_cases k4:k=4
  ·rw[if_pos k4];obtain⟨q,hq1,hq2⟩:=hs3 k4;rw[hq1];exact Z4.add (λhb=>by unfold Tb at*;dsimp only at*;omega) λI T nv N p _ h0 h1=>.load q h d c 0 _ hq2 h0 h1
  rw[if_neg k4];by_cases k11:k=11
  ·rw[if_pos k11];subst k11;cases hW with
   |call k hk=>omega
   |pre k hk=>omega
   |two s c0 hc a b ha hb=>
    have i1:=OR sl B8 ha n M h d c hs1;unfold Ht;split
    ·rename_i hand;have i2:=OR sl B8 hb (n+a.size) (G2 (L8 sl a n M) 5 0 (if s=Gc then 1 else 0) ((n+a.size+b.size:Nat):Int)) h d c hs2;refine i1.trans ?_;generalize L8 sl a n M=M1 at i2⊢;generalize (if s=Gc then(1:Int) else 0)=bb at i2⊢;generalize ((n+a.size+b.size:Nat):Int)=jj at i2⊢;obtain⟨l,tl,e,v,o,sg⟩:=i2;have e2:(G2 (L8 sl b (n+a.size) (G2 M1 5 0 bb jj)) 6 0 0 jj).ins=M1.ins++⟨5,0,bb,jj⟩::(l++[⟨6,0,0,jj⟩]):=by
      simp only[G2] at e⊢;rw[e];simp
     obtain⟨p1,p2⟩:=Qv e2 5;refine⟨⟨5,((M1.ins.length+1+(l++[(⟨6,0,0,jj⟩:f9)]).length:Nat):Int),bb,jj⟩::(l++[⟨6,0,0,jj⟩]),⟨h+1,d,c⟩::(tl++[⟨h+1,d,c⟩]),?_,?_,?_,?_⟩
     ·rw[p1];rfl
     ·rw[p2];exact v
     ·rw[p2];exact o
     ·rw[p2];have sg':o5 B8 (L8 sl b (n+a.size) (G2 M1 5 0 bb jj)).G5.length (M1.ins.length+1) l tl ⟨h,d,c⟩ ⟨h+1,d,c⟩:=by
       have:(G2 M1 5 0 bb jj).ins.length=M1.ins.length+1:=by simp[G2]
       rw[this] at sg;exact sg
      refine o5.wrap sg' (λhb=>by unfold Tb at*;dsimp only at*;omega) (λhb=>by unfold Tb at*;dsimp only at*;omega) λI T nv N _ hN _ h0 h1 h2 h3=>⟨?_,?_⟩
      ·refine .both _ h d c bb jj ⟨by simp;omega,by simp;omega⟩ h0 h1 ?_;rw[<-h3];congr 1;simp;omega
      ·exact .XU h d c 0 0 jj h2 h3
    ·rename_i hand;obtain⟨q,hq1,hq2⟩:=az6 hc hand;have i2:=OR sl B8 hb (n+a.size) (L8 sl a n M) (h+1) d c hs2;rw[hq1];exact(i1.trans i2).trans (Z4.add (λhb=>by unfold Tb at*;dsimp only at*;omega) λI T nv N p _ h0 h1=>.two q h d c 0 _ hq2 h0 h1)
  ·rw[if_neg k11];have key:∀(ha:WE a) (q:Nat),k=(q:Int)->5<=q/\q<=10->Z4 B8 M (G2 (L8 sl a n M) 3 k 0 ((n+a.size+b.size:Nat):Int)) ⟨h,d,c⟩ ⟨h+1,d,c⟩:=λha q hq hq2=>by
    rw[hq];exact(OR sl B8 ha n M h d c hs1).trans (Z4.add (λhb=>by unfold Tb at*;dsimp only at*;omega) λI T nv N p _ h0 h1=>.call q h d c 0 _ hq2 h0 h1)
   cases hW with
   |nil=>omega
   |bool=>omega
   |int=>omega
   |text=>omega
   |name=>omega
   |call k hk a ha=>exact key ha k.toNat (by omega) (by omega)
   |pre k hk a ha=>exact key ha k.toNat (by omega) (by omega)
   |two=>omega
theorem Z4.loop{B8:Nat}{M:Cd}{op a j:Int}{fB:Cd->Cd}{t t':Ty}(hB:Z4 B8 (G2 M op a 0 j) (fB (G2 M op a 0 j)) t t)(hop:op=13\/op=15)(hu:∀p,Tb t p->Tb t' p)
  (hx:∀I T nv N (p q:Nat),p<q->q<=N->T p=t->T (p+1)=t->T q=t'->r4 B8 nv N I T p ⟨op,a,q,j⟩):Z4 B8 M (Hi op a j fB M) t t':=by
 obtain⟨l,tl,e,v,o,sg⟩:=hB;have e2:(G2 (fB (G2 M op a 0 j)) 9 M.ins.length 0 j).ins=M.ins++⟨op,a,0,j⟩::(l++[⟨9,M.ins.length,0,j⟩]):=by
  simp only[G2] at e⊢;rw[e];simp
 obtain⟨p1,p2⟩:=Qv e2 op;have hlp:LN op=true:=by rcases hop with rfl|rfl<;>rfl
 rw[if_pos hlp] at p1;have sg':o5 B8 (fB (G2 M op a 0 j)).G5.length (M.ins.length+1) l tl t t:=by
  have:(G2 M op a 0 j).ins.length=M.ins.length+1:=by simp[G2]
  rw[this] at sg;exact sg
 have hlen:M.ins.length+1+(l++[(⟨9,M.ins.length,0,j⟩:f9)]).length=M.ins.length+1+l.length+1:=by simp;omega
 rw[hlen] at p1;refine⟨⟨op,a,((M.ins.length+1+l.length+1:Nat):Int),j⟩::(l++[(⟨9,((M.ins.length:Nat):Int),0,j⟩:f9)]),t::(tl++[t]),p1,?_,?_,?_⟩
 ·show _<=(l7 _ _ _).G5.length;rw[p2];exact v
 ·show _->∀v∈(l7 _ _ _).G5,_;rw[p2];exact o
 ·show o5 B8 (l7 _ _ _).G5.length _ _ _ _ _;rw[p2];refine o5.wrap sg' (λhb=>by unfold Tb at*;omega) (λhb=>hu _ (by unfold Tb at*;omega)) λI T nv N _ hN hI h0 h1 h2 h3=>⟨?_,?_⟩
  ·exact hx I T nv N _ _ (by omega) hN h0 h1 h3
  ·cases ht:t with
   |mk h d c=>
    rw[ht] at h0 h2;exact .jump _ h d c 0 j ⟨.inr ⟨_,hI,hop,rfl⟩,by omega⟩ h2 h0
theorem Z4.mA{B8:Nat}{M:Cd}{j:Int}{fB fC:Cd->Cd}{h d c:Nat}(hB:Z4 B8 (G2 M 8 0 0 j) (fB (G2 M 8 0 0 j)) ⟨h,d,c⟩ ⟨h,d,c⟩):Z4 B8 M (Ff j fB fC true M) ⟨h+1,d,c⟩ ⟨h,d,c⟩:=by
 obtain⟨l,tl,e,v,o,sg⟩:=hB;have e2:(fB (G2 M 8 0 0 j)).ins=M.ins++⟨8,0,0,j⟩::l:=by
  simp only[G2] at e⊢;rw[e];simp
 obtain⟨p1,p2⟩:=Qv e2 8;have sg':o5 B8 (fB (G2 M 8 0 0 j)).G5.length (M.ins.length+1) l tl ⟨h,d,c⟩ ⟨h,d,c⟩:=by
  have:(G2 M 8 0 0 j).ins.length=M.ins.length+1:=by simp[G2]
  rw[this] at sg;exact sg
 unfold Ff;rw[if_pos rfl];refine⟨⟨8,((M.ins.length+1+l.length:Nat):Int),0,j⟩::l,⟨h+1,d,c⟩::tl,p1,?_,?_,?_⟩
 ·rw[p2];exact v
 ·rw[p2];exact o
 ·rw[p2];exact o5.cons sg' (λhb=>by unfold Tb at*;dsimp only at*;omega) λI T nv N _ hN _ _ h0 h1 h2=>.UW _ h d c 0 j ⟨by omega,by omega⟩ h0 h1 h2
theorem Z4.ae0{B8:Nat}{M:Cd}{j:Int}{fB fC:Cd->Cd}{h d c:Nat}(hB:Z4 B8 (G2 M 8 0 0 j) (fB (G2 M 8 0 0 j)) ⟨h,d,c⟩ ⟨h,d,c⟩)(hC:∀M,Z4 B8 M (fC M) ⟨h,d,c⟩ ⟨h,d,c⟩):Z4 B8 M (Ff j fB fC false M) ⟨h+1,d,c⟩ ⟨h,d,c⟩:=by
 obtain⟨l,tl,e,v,o,sg⟩:=hB;have e2:(G2 (fB (G2 M 8 0 0 j)) 9 0 0 j).ins=M.ins++⟨8,0,0,j⟩::(l++[⟨9,0,0,j⟩]):=by
  simp only[G2] at e⊢;rw[e];simp
 have eB:(fB (G2 M 8 0 0 j)).ins.length=M.ins.length+1+l.length:=by
  have h1:(G2 M 8 0 0 j).ins.length=M.ins.length+1:=by simp[G2]
  rw[e,J8,h1]
 obtain⟨p1,p2⟩:=Qv e2 8;have sg':o5 B8 (fB (G2 M 8 0 0 j)).G5.length (M.ins.length+1) l tl ⟨h,d,c⟩ ⟨h,d,c⟩:=by
  have:(G2 M 8 0 0 j).ins.length=M.ins.length+1:=by simp[G2]
  rw[this] at sg;exact sg
 unfold Ff;rw[if_neg (by decide),eB];have hsl:LN 8=false:=rfl;rw[hsl] at p1;have hlen:M.ins.length+1+(l++[(⟨9,0,0,j⟩:f9)]).length=M.ins.length+1+l.length+1:=by simp;omega
 rw[hlen] at p1;simp only[Fb,if_false] at p1;generalize l7 (G2 (fB (G2 M 8 0 0 j)) 9 0 0 j) M.ins.length 8=M2 at p1 p2⊢;have p2:M2.G5=(fB (G2 M 8 0 0 j)).G5:=p2;obtain⟨l',tl',e',v',o',sc⟩:=hC M2;have e3:(fC M2).ins=(M.ins++⟨8,((M.ins.length+1+l.length+1:Nat):Int),0,j⟩::l)++⟨9,0,0,j⟩::l':=by
  rw[e',p1];simp
 have hl3:(M.ins++(⟨8,((M.ins.length+1+l.length+1:Nat):Int),0,j⟩:f9)::l).length=M.ins.length+1+l.length:=by simp;omega
 obtain⟨p3,p4⟩:=Qv e3 9;rw[hl3] at p3 p4;have hsl9:LN 9=false:=rfl;rw[hsl9] at p3;simp only[Fb,if_false] at p3;have hM2:M2.ins.length=M.ins.length+1+l.length+1:=by rw[p1];simp;omega
 rw[hM2] at sc;have s9:o5 B8 (fC M2).G5.length (M.ins.length+1+l.length) (⟨9,((M.ins.length+1+l.length+1+l'.length:Nat):Int),0,j⟩::l') (⟨h,d,c⟩::tl') ⟨h,d,c⟩ ⟨h,d,c⟩:=
  o5.cons sc (λhb=>by unfold Tb at*;dsimp only at*;omega) λI T nv N _ hN _ _ h0 h1 h2=>.jump _ h d c 0 j ⟨.inl (by omega),by omega⟩ h0 h2
 have sB:=sg'.app s9 (by rw[<-p2];exact v');refine⟨⟨8,((M.ins.length+1+l.length+1:Nat):Int),0,j⟩::(l++⟨9,((M.ins.length+1+l.length+1+l'.length:Nat):Int),0,j⟩::l'),⟨h+1,d,c⟩::(tl++⟨h,d,c⟩::tl'),?_,?_,?_,?_⟩
 ·rw[p3];simp
 ·rw[p4];exact j7 v (by rw[<-p2];exact v')
 ·rw[p4];exact λhv=>o' (by rw[p2];exact o hv)
 ·rw[p4];refine o5.cons sB (λhb=>by unfold Tb at*;dsimp only at*;omega) λI T nv N _ hN _ hT h0 h1 h2=>.UW _ h d c 0 j ⟨by omega,by simp at hN;omega⟩ h0 h1 ?_;have:=hT (l.length+2) ⟨h,d,c⟩ (by
   rw[<-sg'.len];have hh:=sc.head;simp only[JC,Q2,GP];rw[j4 (by omega),show tl.length+1-tl.length=0+1 by omega,JC];exact hh)
  rwa[show M.ins.length+(l.length+2)=M.ins.length+1+l.length+1 by omega] at this
theorem SN(sl:List Int)(B8:Nat):∀{B:Bl} (hW:WB B) (n:Nat) (M:Cd) (h d c:Nat),Et sl B8 B n->Z4 B8 M (T0 sl B n M) ⟨h,d,c⟩ ⟨h,d,c⟩
 |.no,_,_,M,h,d,c,_=>Z4.refl B8 M ⟨h,d,c⟩
 |.st k i s t a b B C r,hW,n,M,h,d,c,hs=>by
  obtain⟨hs1,hs2,hs3,hs4,hs5,hs6,hs7⟩:=hs;have wB:WB B:=by cases hW<;>first|exact WB.no|assumption
  have wC:WB C:=by cases hW<;>first|exact WB.no|assumption
  have wr:WB r:=by cases hW<;>assumption
  have iB:=λM d c=>SN sl B8 wB (n+a.size+b.size) M h d c hs3;have iC:=λM=>SN sl B8 wC (n+a.size+b.size+B.size) M h d c hs4;have ir:=λM=>SN sl B8 wr (n+a.size+b.size+B.size+C.size+1) M h d c hs7;simp only[T0];refine Z4.trans ?_ (ir _);generalize n+a.size+b.size+B.size+C.size=j at hs5 hs6⊢;have st7:Z4 B8 M (G2 M 7 0 0 (j:Int)) ⟨h,d,c⟩ ⟨h,d,c⟩:=Z4.add (λhb=>by unfold Tb at*;dsimp only at*;omega) λI T nv N p _ h0 h1=>.step h d c 0 0 j h0 h1;refine st7.trans ?_;generalize G2 M 7 0 0 (j:Int)=M;have ia:=λ(ha:WE a)=>OR sl B8 ha n M h d c hs1;unfold Cv;cases hW with
  |names k hk s hs a ha r hr=>
   obtain⟨q,hq1,hq2⟩:=hs5 hk;rw[if_pos hk,hq1];exact(ia ha).trans (Z4.add (λhb=>by unfold Tb at*;dsimp only at*;omega) λI T nv N p _ h0 h1=>.store q h d c 0 j hq2 h0 h1)
  |put a b ha hb r hr=>
   rw[if_neg (by decide),if_pos rfl];exact((ia ha).trans (OR sl B8 hb (n+a.size) _ (h+1) d c hs2)).trans (Z4.add (λhb=>by unfold Tb at*;dsimp only at*;omega) λI T nv N p _ h0 h1=>.put h d c 0 0 j h0 h1)
  |one k hk a ha r hr=>
   rcases hk with rfl|rfl|rfl
   ·rw[if_neg (by decide),if_neg (by decide),if_pos rfl];exact(ia ha).trans (Z4.add (λhb=>by unfold Tb at*;dsimp only at*;omega) λI T nv N p _ h0 h1=>.del h d c 0 0 j h0 h1)
   ·rw[if_neg (by decide),if_neg (by decide),if_neg (by decide),if_pos rfl];exact(ia ha).trans (Z4.add (λhb=>by unfold Tb at*;dsimp only at*;omega) λI T nv N p _ h0 h1=>.abort h d c 0 0 j h0)
   ·rw[if_neg (by decide),if_neg (by decide),if_neg (by decide),if_neg (by decide),if_pos rfl];exact(ia ha).trans (Z4.add (λhb=>by unfold Tb at*;dsimp only at*;omega) λI T nv N p _ h0 h1=>.ret h d c 0 0 j h0)
  |iff a ha B hB r hr=>
   rw[if_neg (by decide),if_neg (by decide),if_neg (by decide),if_neg (by decide),if_neg (by decide),if_pos rfl];exact(ia ha).trans (Z4.mA (iB _ d c))
  |Hk a ha B C hB hC r hr=>
   rw[if_neg (by decide),if_neg (by decide),if_neg (by decide),if_neg (by decide),if_neg (by decide),if_pos rfl];cases hc:C.DU with
   |true=>exact(ia ha).trans (Z4.mA (iB _ d c))
   |false=>exact(ia ha).trans (Z4.ae0 (iB _ d c) iC)
  |each s t hs ht a ha i hi B hB r hr=>
   rw[if_neg (by decide),if_neg (by decide),if_neg (by decide),if_neg (by decide),if_neg (by decide),if_neg (by decide),if_pos rfl];obtain⟨q,hq1,hq2⟩:=hs6 rfl;rw[hq1];obtain⟨m,rfl⟩:∃m:Nat,i=(m:Int):=⟨i.toNat,by omega⟩
   refine((ia ha).trans (Z4.add (t':=⟨h,d+1,c⟩) (λhb=>by unfold Tb at*;dsimp only at*;omega) λI T nv N p _ h0 h1=>.scan m h d c 0 j (by omega) h0 h1)).trans ?_;exact Z4.loop (iB _ (d+1) c) (.inl rfl) (λp hb=>by unfold Tb at*;dsimp only at*;omega) λI T nv N p r hp hr h0 h1 h2=>.each q r h d c j hq2 ⟨hp,hr⟩ h0 h1 h2
  |rep i hi B hB r hr=>
   rw[if_neg (by decide),if_neg (by decide),if_neg (by decide),if_neg (by decide),if_neg (by decide),if_neg (by decide),if_neg (by decide)];obtain⟨m,rfl⟩:∃m:Nat,i=(m:Int):=⟨i.toNat,by omega⟩
   refine(Z4.add (t':=⟨h,d,c+1⟩) (λhb=>by unfold Tb at*;dsimp only at*;omega) λI T nv N p _ h0 h1=>.turns m h d c 0 j (by omega) h0 h1).trans ?_;exact Z4.loop (iB _ d (c+1)) (.inr rfl) (λp hb=>by unfold Tb at*;dsimp only at*;omega) λI T nv N p r hp hr h0 h1 h2=>.again r h d c 0 j ⟨hp,hr⟩ h0 h1 h2
structure Jh(B8:Nat)(M:Cd)(T:Nat->Ty):Prop where
 z:T 0=⟨0,0,0⟩
 ok:∀p x,M.ins[p]?=some x->r4 B8 M.G5.length (M.ins.length-1) M.ins T p x
 tb:∀p,p<M.ins.length->Tb (T p) p
 last:∃x,M.ins[M.ins.length-1]?=some x/\x.op=18
 G5:∀v∈M.G5,N2 v
theorem fG{B:Bl}(hW:WB B)(he:(R3 B).e=0):∃T,Jh (R3 B).B8 (Cw B) T:=by
 obtain⟨l,tl,e,v,o,sg⟩:=SN (R3 B).C0 (R3 B).B8 hW 0 ⟨[],[]⟩ 0 0 0 (uQ hW he);have ei:(Cw B).ins=l++[⟨18,0,0,-1⟩]:=by
  show(T0 (R3 B).C0 B 0 ⟨[],[]⟩).ins++_=_;rw[e];rfl
 have sg:o5 (R3 B).B8 (Cw B).G5.length 0 l tl ⟨0,0,0⟩ ⟨0,0,0⟩:=sg;have hlen:(Cw B).ins.length=l.length+1:=by rw[ei];simp
 have hT:Bo (λp=>(tl++[(⟨0,0,0⟩:Ty)]).getD p ⟨0,0,0⟩) 0 (tl++[⟨0,0,0⟩]):=λi x hx=>by simp[W6,hx]
 have hz:(λp=>(tl++[(⟨0,0,0⟩:Ty)]).getD p ⟨0,0,0⟩) 0=⟨0,0,0⟩:=hT 0 _ sg.head;refine⟨λp=>(tl++[(⟨0,0,0⟩:Ty)]).getD p ⟨0,0,0⟩,?_⟩;generalize (λp=>(tl++[(⟨0,0,0⟩:Ty)]).getD p ⟨0,0,0⟩)=T at hT hz⊢;obtain⟨h1,h2⟩:=sg.ok (Cw B).ins T (Cw B).G5.length l.length (L6 _) (by omega) (λi x hx=>by
  rw[ei,Y3,Fe (N5.1 hx).1];exact hx) hT (by unfold Tb;exact⟨L6 _,L6 _,L6 _⟩)
 refine⟨hz,λp x hx=>?_,λp hp=>?_,⟨⟨18,0,0,-1⟩,?_,rfl⟩,o (λv hv=>by cases hv)⟩
 ·rw[hlen,Nat.add_sub_cancel];rw[ei] at hx;rcases w7 p l.length with hp|hp
  ·rw[Fe hp] at hx;have:=h1 p x hx;rwa[Y3] at this
  ·rw[j4 hp] at hx;have hp2:p=l.length:=by have:=(N5.1 hx).1;simp at this;omega
   subst hp2;simp at hx;subst hx;exact .fin 0 0 (-1) rfl
 ·rw[hlen] at hp;have:=h2 p (by omega);rwa[Y3] at this
 ·rw[hlen,Nat.add_sub_cancel,ei,j4 (L6 _),JH];rfl
end Go.Proofs.YtjkhokkdgfbhcaaGreatDoor
