/-
  Part 3 of what the proof of PlenumPrinted stands on: laws of walks, contracts of functions, plain laws. No condition of its own.
-/
import Derived.Shelf.Sort.Plain
import Derived.Shelf.Slices.In.SortNone
import Derived.Shelf.Strconv.Itoa4
import Derived.Shelf.SlSortCmp.WholeK
import Derived.Shelf.SlSortCmp.NoneTotal
import Derived.Shelf.Small.Strs
import Derived.Lib.ItoaLen
import Derived.Test.YtjkhokkdgfbhcaaGreatDoorPb
set_option linter.defProp false
set_option linter.unusedSectionVars false
set_option linter.unusedSimpArgs false
set_option linter.unusedVariables false
set_option linter.deprecated false
set_option maxHeartbeats 16000000
namespace Go.Proofs.YtjkhokkdgfbhcaaGreatDoor
def KK(l:Nat):List (List UInt8):=if l=0 then HR else if l=1 then Hv else if l=2 then Fu else if l=3 then Hq else if l=4 then HS else HP
theorem gK:∀l∈List.range 6,∀s∈KK l,r0 s=some l:=by decide
theorem gC{s:C9}{c:Nat}(h:r0 s=some c):s∈KK c/\c<=5:=by
 unfold r0 at h;split at h
 ·cases h;exact⟨by assumption,by omega⟩
 split at h
 ·cases h;exact⟨by assumption,by omega⟩
 split at h
 ·cases h;exact⟨by assumption,by omega⟩
 split at h
 ·cases h;exact⟨by assumption,by omega⟩
 split at h
 ·cases h;exact⟨by assumption,by omega⟩
 split at h
 ·cases h;exact⟨by assumption,by omega⟩
 ·cases h
def Cc(L:List G8)(X:PX Int)(l:Nat):PX Int:=if l=0 then dB L X else if l=1 then XD L X else if l=2 then Ej L X else if l=3 then LO L X else if l=4 then Xt L X else if l=5 then VG L X else X
theorem VZ(L:List G8)(X:PX Int){l:Nat}(h:l<=5)(h2:l≠2):Cc L X l=FX L (Cc L X (l+1)) (KK l):=by
 have:l=0\/l=1\/l=3\/l=4\/l=5:=by omega
 rcases this with rfl|rfl|rfl|rfl|rfl<;>rfl
theorem T9{α β:Type}{X:PX α}{f:α->PX β}{i i':Nat}{ns ns':List F2}{x:α}(h:X i ns=some (x,i',ns')):I2 X f i ns=f x i' ns':=by
 unfold I2;rw[h]
theorem V9{α β:Type}{X:PX α}{f:α->PX β}{i j:Nat}{ns ms:List F2}{y:β}(h:I2 X f i ns=some (y,j,ms)):∃x i' ns',X i ns=some (x,i',ns')/\f x i' ns'=some (y,j,ms):=by
 unfold I2 at h;cases hX:X i ns with
 |none=>rw[hX] at h;cases h
 |some q=>obtain⟨x,i',ns'⟩:=q;rw[hX] at h;exact⟨x,i',ns',rfl,h⟩
section
variable{L:List G8}
theorem XN{s:C9}{i:Nat}{ns:List F2}(h:S9 (tk L i)=L5 s):∀signs,s∈signs->AO L signs i ns=some ((s,true),i+1,ns)
 |[],hs=>by simp at hs
 |u::l,hs=>by
  rw[AO];by_cases hu:s=u
  ·subst hu;dsimp only;rw[if_pos (Jg h)]
  ·dsimp only;rw[if_neg (by rw[JW h hu];simp)];exact XN h l ((BD.1 hs).resolve_left hu)
theorem fQ{i:Nat}{ns:List F2}:∀signs,(∀s∈signs,V5 s (tk L i)=false)->AO L signs i ns=some (([],false),i,ns)
 |[],_=>rfl
 |u::l,h=>by
  rw[AO];dsimp only;rw[if_neg (by rw[h u (j8 ..)];simp)];exact fQ l λs hs=>h s (Cj _ hs)
def An(L:List G8)(l j:Nat):Prop:=∀s c,r0 s=some c->l<=c->V5 s (tk L j)=false
theorem An.mono{l l' j:Nat}(h:An L l j)(hl:l<=l'):An L l' j:=λs c hs hc=>h s c hs (by omega)
theorem An.JR{j:Nat}:An L 6 j:=λs c hs hc=>by have:=(gC hs).2;omega
theorem An.sign{s:C9}{c j:Nat}(h:S9 (tk L j)=L5 s)(hs:r0 s=some c):An L (c+1) j:=λs' c' hs' hc'=>JW h λe=>by subst e;rw[hs] at hs';cases hs';omega
theorem An.none{s:C9}{l j:Nat}(h:S9 (tk L j)=L5 s)(hs:r0 s=none):An L l j:=λs' c' hs' hc'=>JW h λe=>by subst e;rw[hs] at hs';cases hs'
theorem gH{l j:Nat}{ns:List F2}(h:An L l j)(hl:l<=5):AO L (KK l) j ns=some (([],false),j,ns):=
 fQ _ λs hs=>h s l (gK l (j9.2 (by omega)) s hs) (L6 _)
theorem eX{X:PX Int}{l f j:Nat}{a:Int}{ns:List F2}(h:An L l j)(hl:l<=5)(hf:0<f):twoL L X (KK l) f a j ns=some (a,j,ns):=by
 obtain⟨f,rfl⟩:∃g,f=g+1:=⟨f-1,by omega⟩
 rw[twoL,T9 (gH h hl)];rfl
theorem zD{X:PX Int}{l i j:Nat}{x:Int}{ns ms:List F2}(hl:l<=5)(h:Cc L X (l+1) i ns=some (x,j,ms))(hf:An L l j):Cc L X l i ns=some (x,j,ms):=by
 by_cases h2:l=2
 ·subst h2;show Ej L X i ns=_;have h':LO L X i ns=some (x,j,ms):=h;unfold Ej;have h1:AO L Fu j ms=some (([],false),j,ms):=gH (l:=2) hf (by omega);rw[T9 h',T9 h1];rfl
 ·rw[VZ L X hl h2];unfold FX;rw[T9 h];exact eX hf hl (by omega)
theorem Tz{X:PX Int}{i j:Nat}{x:Int}{ns ms:List F2}:∀(n l:Nat),l+n<=6->Cc L X (l+n) i ns=some (x,j,ms)->An L l j->Cc L X l i ns=some (x,j,ms)
 |0,l,_,h,_=>h
 |n+1,l,hl,h,hf=>zD (by omega) (Tz n (l+1) (by omega) (by rwa[show l+1+n=l+(n+1) by omega]) (hf.mono (by omega))) hf
def XX(L:List G8)(d:Nat):PX Int:=PB L (17-d)
theorem PC{d:Nat}(h:d<=16):XX L d=Es L (XX L (d+1)) d:=by
 unfold XX;rw[show 17-d=(16-d)+1 by omega,PB,show 16-(16-d)=d by omega,show 17-(d+1)=16-d by omega]
theorem Sa{d i:Nat}{ns:List F2}(h:d<=16):Am d i ns=some ((),i,ns):=by
 unfold Am;rw[if_neg (by omega)]
theorem Wi{X:PX Int}{d i:Nat}{ns:List F2}(h:d<=16):FL L X d i ns=Cc L X 0 i ns:=by
 unfold FL;rw[T9 (Sa h)];rfl
theorem DR{s:C9}{i:Nat}{ns:List F2}(h:S9 (tk L i)=L5 s):f7 L [s] i ns=some ((),i+1,ns):=by
 rw[f7];dsimp only;rw[if_pos (Jg h)];rfl
theorem eH{s:C9}{l:List (List UInt8)}{i:Nat}{ns:List F2}(h:S9 (tk L i)=L5 s):f7 L (s::l) i ns=f7 L l (i+1) ns:=by
 rw[f7];dsimp only;rw[if_pos (Jg h)]
theorem Ds{m:F2}{i:Nat}{ns:List F2}(h:ns.length<512):l4 m i ns=some ((ns.length:Int),i,ns++[m]):=by
 unfold l4;rw[if_neg (by omega)]
theorem Ca{t:G8}{k:BJ}(h:S9 t=k):t.kind=k.1/\t.s=k.2.1/\t.num=k.2.2:=by subst h;exact⟨rfl,rfl,rfl⟩
theorem zE{d i j:Nat}{x:Int}{ns ms:List F2}(hd:d+1<=16)(h1:S9 (tk L i)=L5 Z2)(h2:Cc L (XX L (d+1)) 0 (i+1) ns=some (x,j,ms))(h3:S9 (tk L j)=L5 Y1):XX L d i ns=some (x,j+1,ms):=by
 rw[PC (by omega)];obtain⟨k1,k2,k3⟩:=Ca h1;have e1:(tk L i).kind=4:=k1;unfold Es;rw[if_neg (by omega),if_neg (by omega),if_neg (by omega),if_pos e1];unfold Gs;rw[if_neg (by rw[JW h1 (by decide)];simp),if_pos (Jg h1),T9 (by rw[Wi hd];exact h2),T9 (DR h3)];rfl
def Vh(L:List G8)(e:Ex):Prop:=∀(d l i:Nat) (ns:List F2),l<=6->d+l3 l e<=16->AR L i (U4 l e)->An L l (i+(U4 l e).length)->ns.length+e.size<=512->
 Cc L (XX L d) l i ns=some (e.ix ns.length,i+(U4 l e).length,ns++Q0 e ns.length)
def UY(L:List G8)(e:Ex):Prop:=∀(d i:Nat) (ns:List F2),d+V8 e<=16->AR L i (N9 e)->An L (P6 e) (i+(N9 e).length)->ns.length+e.size<=512->
 Cc L (XX L d) (P6 e) i ns=some (e.ix ns.length,i+(N9 e).length,ns++Q0 e ns.length)
theorem XC{e:Ex}(hc:P6 e<=6)(h:UY L e):Vh L e:=by
 intro d l i ns hl hd hH hf hn;by_cases hle:l<=P6 e
 ·have e1:U4 l e=N9 e:=if_pos hle;have e2:l3 l e=V8 e:=if_pos hle;rw[e1] at hH hf⊢;rw[e2] at hd;obtain⟨n,hn'⟩:∃n,P6 e=l+n:=⟨P6 e-l,by omega⟩
  have:=h d i ns hd hH (hf.mono hle) hn;rw[hn'] at this;exact Tz n l (by omega) this hf
 ·have e1:U4 l e=L5 Z2::(N9 e++[L5 Y1]):=if_neg hle;have e2:l3 l e=V8 e+1:=if_neg hle;rw[e1] at hH hf⊢;rw[e2] at hd;have hlen:(L5 Z2::(N9 e++[L5 Y1])).length=(N9 e).length+2:=by simp
  rw[hlen] at hf⊢;have hcl:S9 (tk L (i+1+(N9 e).length))=L5 Y1:=(hH.tail.right).head.1;have hb:=h (d+1) (i+1) ns (by omega) hH.tail.left (An.none hcl (by decide)) hn;obtain⟨n,hn'⟩:∃n,P6 e=0+n:=⟨P6 e,by omega⟩
  rw[hn'] at hb;have h0:=Tz n 0 (by omega) hb (An.none hcl (by decide));have h6:=zE (by omega) hH.head.1 h0 hcl;obtain⟨m,hm⟩:∃m,6=l+m:=⟨6-l,by omega⟩
  have:=Tz m l (by omega) (show Cc L (XX L d) (l+m) i ns=some (Ex.ix ns.length e,i+1+(N9 e).length+1,ns++Q0 e ns.length) by rw[<-hm];exact h6) (by rwa[show i+1+(N9 e).length+1=i+((N9 e).length+2) by omega]);rw[this,show i+1+(N9 e).length+1=i+((N9 e).length+2) by omega]
def Se(L:List G8)(e:Ex):Prop:=P6 e<=5->P6 e≠2->∀(d i:Nat) (ns:List F2),d+V8 e<=16->AR L i (N9 e)->An L (P6 e+1) (i+(N9 e).length)->ns.length+e.size<=512->
 ∃f,2001<=f+(N9 e).length/\Cc L (XX L d) (P6 e) i ns=twoL L (Cc L (XX L d) (P6 e+1)) (KK (P6 e)) f (e.ix ns.length) (i+(N9 e).length) (ns++Q0 e ns.length)
theorem al7{e:Ex}(hl2:L.length<=2000)(hc:P6 e<=5)(h2:P6 e≠2)(h:Se L e)(hne:0<(N9 e).length):UY L e:=by
 intro d i ns hd hH hf hn;obtain⟨f,h3,h4⟩:=h hc h2 d i ns hd hH (hf.mono (by omega)) hn;rw[h4];refine eX hf hc ?_;have:=(hH ((N9 e).length-1) _ (T8 (by omega))).2;omega
theorem RD{d i:Nat}{ns:List F2}{m:F2}(hd:d<=16)(hn:ns.length<512)
  (h:(S9 (tk L i)=L5 EJ/\m=m8 0)\/(∃b:Bool,S9 (tk L i)=L5 (if b then Ep else EG)/\m=LP b)\/(∃n,S9 (tk L i)=(2,[],n)/\m=Wa n)\/(∃s,S9 (tk L i)=(3,s,0)/\m=Om 3 s)\/(∃s,S9 (tk L i)=(1,s,0)/\m=Om 4 s)):
  XX L d i ns=some ((ns.length:Int),i+1,ns++[m]):=by
 rw[PC hd];unfold Es;rcases h with⟨h,rfl⟩|⟨b,h,rfl⟩|⟨n,h,rfl⟩|⟨s,h,rfl⟩|⟨s,h,rfl⟩
 ·obtain⟨k1,k2,k3⟩:=Ca h;have e1:(tk L i).kind=5:=k1;have e2:(tk L i).s=EJ:=k2;rw[if_neg (by omega),if_neg (by omega),if_neg (by omega),if_neg (by omega),if_pos e1];unfold CJ;rw[if_neg (by rw[e2];decide),if_neg (by rw[JW h (by decide)];simp),if_pos (Jg h)];exact Ds hn
 ·obtain⟨k1,k2,k3⟩:=Ca h;have e1:(tk L i).kind=5:=by rw[k1];cases b<;>decide
  have e2:(tk L i).s=if b then Ep else EG:=k2
  rw[if_neg (by omega),if_neg (by omega),if_neg (by omega),if_neg (by omega),if_pos e1];unfold CJ;rw[if_neg (by rw[e2];cases b<;>decide),if_neg (by rw[JW h (by cases b<;>decide)];simp),if_neg (by rw[JW h (by cases b<;>decide)];simp),e2];cases b
  ·rw[if_neg (by decide),if_pos (by decide)];exact Ds hn
  ·rw[if_pos (by decide)];exact Ds hn
 ·obtain⟨k1,k2,k3⟩:=Ca h;rw[if_pos k1,k3];exact Ds hn
 ·obtain⟨k1,k2,k3⟩:=Ca h;have e1:(tk L i).kind=3:=k1;rw[if_neg (by omega),if_pos e1,k2];exact Ds hn
 ·obtain⟨k1,k2,k3⟩:=Ca h;have e1:(tk L i).kind=1:=k1;rw[if_neg (by omega),if_neg (by omega),if_pos e1,k2];exact Ds hn
theorem zB{e:Ex}(h:WE e):0<(N9 e).length:=by
 cases h with
 |nil=>simp[N9]
 |bool b=>simp[N9]
 |int i h=>simp[N9]
 |text s h=>simp[N9]
 |name s h=>simp[N9]
 |call k h a ha=>rw[N9,if_neg (by omega),if_neg (by omega),if_neg (by omega),if_neg (by omega),if_neg (by omega),if_neg (by omega),if_neg (by omega),if_neg (by omega)];simp
 |pre k h a ha=>rcases h with rfl|rfl<;>simp[N9]
 |two s c h a b ha hb=>simp[N9];omega
theorem bI{k:Int}(h:5<=k/\k<=8)(a:Ex):N9 (.nd k 0 [] a .no)=L5 (EV k)::L5 Z2::(N9 a++[L5 Y1])/\V8 (.nd k 0 [] a .no)=V8 a+1/\P6 (.nd k 0 [] a .no)=6:=by
 refine⟨?_,?_,?_⟩
 ·rw[N9,if_neg (by omega),if_neg (by omega),if_neg (by omega),if_neg (by omega),if_neg (by omega),if_neg (by omega),if_neg (by omega),if_neg (by omega)]
 ·rw[V8,if_neg (by omega),if_neg (by omega),if_pos h.1]
 ·rw[P6,if_neg (by omega)]
theorem yM{k:Int}(h:5<=k/\k<=8):Dc (EV k)=k/\BS (EV k)=true:=by
 have:k=5\/k=6\/k=7\/k=8:=by omega
 rcases this with rfl|rfl|rfl|rfl<;>decide
theorem SA(ns:List F2)(k i:Int)(s:C9)(a:Ex):(ns++Q0 a ns.length)++[⟨k,a.ix ns.length,-1,-1,-1,i,s,[]⟩]=ns++Q0 (.nd k i s a .no) ns.length:=by
 simp only[Q0,DM,Q2,Ex.ix]
theorem tW(hl2:L.length<=2000){e:Ex}(he:WE e):Vh L e/\Se L e:=by
 have JR:∀{e:Ex},P6 e=6->UY L e->Vh L e/\Se L e:=λh6 hb=>⟨XC (by omega) hb,λh5=>by omega⟩
 induction he with
 |nil=>
  refine JR rfl λd i ns hd hH hf hn=>?_;exact RD (by simp[V8] at hd;omega) (by simp[Ex.size] at hn;omega) (.inl ⟨hH.head.1,rfl⟩)
 |bool b=>
  refine JR rfl λd i ns hd hH hf hn=>?_;have h1:S9 (tk L i)=L5 (if b then Ep else EG):=by
   have:=hH.head.1;cases b<;>exact this
  have:=RD (d:=d) (i:=i) (ns:=ns) (m:=LP b) (by simp[V8] at hd;omega) (by simp[Ex.size] at hn;omega) (.inr (.inl ⟨b,h1,rfl⟩));cases b<;>exact this
 |int n h=>
  refine JR rfl λd i ns hd hH hf hn=>?_;exact RD (by simp[V8] at hd;omega) (by simp[Ex.size] at hn;omega) (.inr (.inr (.inl ⟨n,hH.head.1,rfl⟩)))
 |text s h=>
  refine JR rfl λd i ns hd hH hf hn=>?_;exact RD (by simp[V8] at hd;omega) (by simp[Ex.size] at hn;omega) (.inr (.inr (.inr (.inl ⟨s,hH.head.1,rfl⟩))))
 |name s h=>
  refine JR rfl λd i ns hd hH hf hn=>?_;exact RD (by simp[V8] at hd;omega) (by simp[Ex.size] at hn;omega) (.inr (.inr (.inr (.inr ⟨s,hH.head.1,rfl⟩))))
 |call k h a ha ih=>
  obtain⟨t1,t2,t3⟩:=bI h a;refine JR t3 λd i ns hd hH hf hn=>?_;rw[t1] at hH hf⊢;rw[t2] at hd;rw[t3];simp only[Ex.size] at hn;obtain⟨c1,c2⟩:=yM h;have k1:=Ca hH.head.1;have e1:(tk L i).kind=5:=by rw[k1.1,L5,c2];rfl
  have e2:(tk L i).s=EV k:=k1.2.1;have hop:S9 (tk L (i+1))=L5 Z2:=hH.tail.head.1;have hcl:S9 (tk L (i+1+1+(N9 a).length))=L5 Y1:=hH.tail.tail.right.head.1;have hp0:U4 0 a=N9 a:=by unfold U4 EQ;rw[if_pos (R5 _)]
  have hd0:l3 0 a=V8 a:=by unfold l3 Gt;rw[if_pos (R5 _)]
  have h0:=ih.1 (d+1) 0 (i+1+1) ns (by omega) (by rw[hd0];omega) (by rw[hp0];exact hH.tail.tail.left) (by rw[hp0];exact An.none hcl (by decide)) (by omega);rw[hp0] at h0;show XX L d i ns=_;rw[PC (by omega)];unfold Es;rw[if_neg (by omega),if_neg (by omega),if_neg (by omega),if_neg (by omega),if_pos e1];unfold CJ;rw[e2,c1,if_pos (by omega),T9 (DR hop),T9 (by rw[Wi (by omega)];exact h0),T9 (DR hcl),Ds (by simp[S6];omega)];simp only[Ck,Cl];refine⟨by simp[S6,Ex.ix,Ex.size],by simp;omega,?_⟩;exact SA ns k 0 [] a
 |pre k h a ha ih=>
  have t2:V8 (.nd k 0 [] a .no)=l3 6 a+1:=by rw[V8,if_pos h];rfl
  have t3:P6 (.nd k 0 [] a .no)=6:=by rw[P6,if_neg (by omega)]
  refine JR t3 λd i ns hd hH hf hn=>?_;rw[t2] at hd;rw[t3];simp only[Ex.size] at hn;have fin:∀(w:C9),N9 (.nd k 0 [] a .no)=L5 w::U4 6 a->(∀ms,XX L d i ms=Fq L (XX L (d+1)) k d (i+1) ms)->Cc L (XX L d) 6 i ns=some (Ex.ix ns.length (.nd k 0 [] a .no),i+(N9 (.nd k 0 [] a .no)).length,ns++Q0 (.nd k 0 [] a .no) ns.length):=λw ht hw=>by
   rw[ht] at hH;have h6:=ih.1 (d+1) 6 (i+1) ns (by omega) (by omega) hH.tail An.JR (by omega);show XX L d i ns=_;rw[hw,ht];unfold Fq;have h6':XX L (d+1) (i+1) ns=some (a.ix ns.length,i+1+(U4 6 a).length,ns++Q0 a ns.length):=h6;rw[T9 (Sa (by omega)),T9 h6',Ds (by simp[S6];omega)];simp only[Ck,Cl];refine⟨by simp[S6,Ex.ix,Ex.size],by simp;omega,?_⟩;exact SA ns k 0 [] a
  rcases h with rfl|rfl
  ·refine fin Dw rfl λms=>?_;have hk:=hH.head.1;have k1:=Ca hk;have e1:(tk L i).kind=5:=k1.1;have e2:(tk L i).s=Dw:=k1.2.1;rw[PC (by omega)];unfold Es;rw[if_neg (by omega),if_neg (by omega),if_neg (by omega),if_neg (by omega),if_pos e1];unfold CJ;rw[if_neg (by rw[e2];decide),if_pos (Jg hk)]
  ·refine fin KO rfl λms=>?_;have hk:=hH.head.1;have k1:=Ca hk;have e1:(tk L i).kind=4:=k1.1;rw[PC (by omega)];unfold Es;rw[if_neg (by omega),if_neg (by omega),if_neg (by omega),if_pos e1];unfold Gs;rw[if_pos (Jg hk)]
 |two s c h a b ha hb iha ihb=>
  have hc:=gC h;have t3:P6 (.nd 11 0 s a b)=c:=by rw[P6,if_pos rfl,h];rfl
  have t1:N9 (.nd 11 0 s a b)=U4 (Az c) a++(L5 s::U4 (c+1) b):=by
   show EQ _ (Az ((r0 s).getD 0)) _++(L5 s::EQ _ ((r0 s).getD 0+1) _)=_;rw[h];rfl
  have t2:V8 (.nd 11 0 s a b)=max (l3 (Az c) a) (l3 (c+1) b):=by
   rw[V8,if_neg (by omega),if_pos rfl,h];rfl
  have lay2:∀ns:List F2,((ns++Q0 a ns.length)++Q0 b (ns.length+a.size))++[Kq (a.ix ns.length) s (b.ix (ns.length+a.size))]=ns++Q0 (.nd 11 0 s a b) ns.length:=λns=>by
   simp only[Q0,Q2,Kq]
  have hpos:=zB (.two s c h a b ha hb);by_cases h2:c=2
  ·subst h2;have hlc:Az 2=3:=rfl;rw[hlc,show 2+1=3 from rfl] at t1 t2;have base:UY L (.nd 11 0 s a b):=by
    intro d i ns hd hH hf hn;rw[t1] at hH;rw[t2] at hd;rw[t3] at hf⊢;rw[t1] at hf⊢;simp only[Ex.size] at hn;have hs:S9 (tk L (i+(U4 3 a).length))=L5 s:=hH.right.head.1;have ga:=iha.1 d 3 i ns (by omega) (by omega) hH.left ((An.sign hs h)) (by omega);have hlen:i+(U4 3 a++L5 s::U4 3 b).length=i+(U4 3 a).length+1+(U4 3 b).length:=by simp;omega
    have gb:=ihb.1 d 3 (i+(U4 3 a).length+1) (ns++Q0 a ns.length) (by omega) (by omega) hH.right.tail (by rw[<-hlen];exact hf.mono (by omega)) (by simp[S6];omega);have ga':LO L (XX L d) i ns=some (a.ix ns.length,i+(U4 3 a).length,ns++Q0 a ns.length):=ga;have gb':LO L (XX L d) (i+(U4 3 a).length+1) (ns++Q0 a ns.length)=some (b.ix (ns++Q0 a ns.length).length,i+(U4 3 a).length+1+(U4 3 b).length,(ns++Q0 a ns.length)++Q0 b (ns++Q0 a ns.length).length):=gb;show Ej L (XX L d) i ns=_;unfold Ej;rw[T9 ga',T9 (show AO L Fu (i+(U4 3 a).length) (ns++Q0 a ns.length)=some ((s,true),i+(U4 3 a).length+1,ns++Q0 a ns.length) from XN hs _ hc.1),if_neg (by simp),T9 gb',Ds (by simp[S6];omega)];simp only[Ck,Cl];refine⟨by simp[S6,Ex.ix];omega,hlen.symm,?_⟩;have:=lay2 ns;simp only[J8,S6] at this⊢;exact this
   exact⟨XC (by omega) base,λ_ h2=>absurd t3 h2⟩
  ·have hlc:Az c=c:=if_neg h2;rw[hlc] at t1 t2;have chain:Se L (.nd 11 0 s a b):=by
    intro _ _ d i ns hd hH hf hn;rw[t1] at hH;rw[t2] at hd;rw[t3] at hf⊢;rw[t1] at hf⊢;simp only[Ex.size] at hn;have hs:S9 (tk L (i+(U4 c a).length))=L5 s:=hH.right.head.1;have hlen:i+(U4 c a++L5 s::U4 (c+1) b).length=i+(U4 c a).length+1+(U4 (c+1) b).length:=by simp;omega
    have hleft:∃f,2001<=f+(U4 c a).length/\Cc L (XX L d) c i ns=twoL L (Cc L (XX L d) (c+1)) (KK c) f (a.ix ns.length) (i+(U4 c a).length) (ns++Q0 a ns.length):=by
     by_cases hca:P6 a=c
     ·have e1:U4 c a=N9 a:=if_pos (by omega);have e2:l3 c a=V8 a:=if_pos (by omega);have:=iha.2 (by omega) (by omega) d i ns (by omega) (by rw[<-e1];exact hH.left) (by rw[hca,<-e1];exact An.sign hs h) (by omega);rw[hca,<-e1] at this;exact this
     ·have e1:U4 c a=U4 (c+1) a:=by
       unfold U4 EQ;by_cases hx:c<=P6 a
       ·rw[if_pos hx,if_pos (by omega)]
       ·rw[if_neg hx,if_neg (by omega)]
      have e2:l3 c a=l3 (c+1) a:=by
       unfold l3 Gt;by_cases hx:c<=P6 a
       ·rw[if_pos hx,if_pos (by omega)]
       ·rw[if_neg hx,if_neg (by omega)]
      have:=iha.1 d (c+1) i ns (by omega) (by omega) (by rw[<-e1];exact hH.left) (by rw[<-e1];exact An.sign hs h) (by omega);refine⟨2001,by omega,?_⟩;rw[VZ L (XX L d) hc.2 h2];unfold FX;rw[T9 this,e1]
    obtain⟨f,hf1,hf2⟩:=hleft;have hi:=(hH.right.head).2;obtain⟨g,rfl⟩:∃g,f=g+1:=⟨f-1,by omega⟩
    have gb:=ihb.1 d (c+1) (i+(U4 c a).length+1) (ns++Q0 a ns.length) (by omega) (by omega) hH.right.tail (by rw[<-hlen];exact hf) (by simp[S6];omega);refine⟨g,by simp;omega,?_⟩;rw[hf2,twoL,T9 (XN hs _ hc.1),if_neg (by simp),T9 gb,T9 (Ds (by simp[S6];omega))];have:=lay2 ns;simp only[J8,S6] at this⊢;rw[this];congr 1;simp;omega
   exact⟨XC (by omega) (al7 hl2 (by omega) (by omega) chain hpos),chain⟩
end
end Go.Proofs.YtjkhokkdgfbhcaaGreatDoor
namespace Go.Proofs.YtjkhokkdgfbhcaaGreatDoor
theorem cG{α:Type}(f:α->α)(B:List α):∀(A:List α) (j:Nat),j<A.length->(A++B).modify j f=A.modify j f++B
 |[],j,h=>by simp at h
 |a::A,0,h=>rfl
 |a::A,j+1,h=>by
  have:=cG f B A j (by simpa using h);simp[this]
theorem dK{α:Type}(f:α->α)(m:α)(B:List α):∀(A:List α),(A++(m::B)).modify A.length f=A++(f m::B)
 |[]=>rfl
 |a::A=>by
  have:=dK f m B A;simp[this]
theorem Tq{A B:List F2}{j:Nat}{x:Int}(h:j<A.length):DQ (A++B) (j:Int) x=DQ A (j:Int) x++B:=cG _ B A j h
theorem SU{A B:List F2}{m:F2}{j:Nat}{x:Int}(h:j=A.length):DQ (A++(m::B)) (j:Int) x=A++(SL m x::B):=by
 subst h;exact dK _ m B A
theorem Yj{ns:List F2}{j:Nat}{m:F2}(h:ns[j]?=some m)(hn:m.next= -1):DQ ns (j:Int) (-1)=ns:=by
 unfold DQ;apply Nk;intro i;rw[List.getElem?_modify];by_cases hi:j=i
 ·subst hi;rw[Cm,h];cases m;simp only at hn;subst hn;simp
 ·simp[hi]
def r8(a b:Ex)(B C:Bl)(n:Nat):List F2:=Q0 a n++(Q0 b (n+a.size)++(N0 B (n+a.size+b.size)++N0 C (n+a.size+b.size+B.size)))
def o3(k i:Int)(s t:List UInt8)(a b:Ex)(B C:Bl)(n:Nat)(x:Int):F2:=⟨k,a.ix n,K5 (n+a.size) (n+a.size+b.size) B b,C.ix (n+a.size+b.size+B.size),x,i,s,t⟩
def X3(a b:Ex)(B C:Bl):Nat:=a.size+b.size+B.size+C.size
theorem Dd(a b:Ex)(B C:Bl)(n:Nat):(r8 a b B C n).length=X3 a b B C:=by
 simp only[r8,J8,S6,j3,X3];omega
theorem UE(k i:Int)(s t:C9)(a b:Ex)(B C r:Bl)(n:Nat):N0 (.st k i s t a b B C r) n=r8 a b B C n++(o3 k i s t a b B C n (r.ix (n+X3 a b B C+1))::N0 r (n+X3 a b B C+1)):=by
 have e:n+a.size+b.size+B.size+C.size+1=n+X3 a b B C+1:=by unfold X3;omega
 simp only[N0,r8,o3,Q2,Uo,e]
theorem Tn(k i:Int)(s t:C9)(a b:Ex)(B C r:Bl)(n:Nat):(Bl.st k i s t a b B C r).ix n=((n+X3 a b B C:Nat):Int):=by
 simp only[Bl.ix,X3];congr 1;omega
theorem bF(k i:Int)(s t:C9)(a b:Ex)(B C r:Bl):(Bl.st k i s t a b B C r).size=X3 a b B C+1+r.size:=by
 simp only[Bl.size,X3]
theorem Th(k i:Int)(s t:C9)(a b:Ex)(B C r:Bl):N8 (.st k i s t a b B C r)=N8 (.st k i s t a b B C .no)++N8 r:=by
 simp[N8]
def SS(L:List G8)(k:Nat):PX Int:=GM L (16-k) (Ei L (CX L k))
def Ju(L:List G8)(kd i:Int)(s t:List UInt8)(a b:Ex)(B C:Bl):Prop:=∀(k j:Nat) (ns:List F2),k<=16->16-k+Y9 (.st kd i s t a b B C .no)<=16->AR L j (N8 (.st kd i s t a b B C .no))->
 V5 Ba (tk L (j+(N8 (.st kd i s t a b B C .no)).length))=false->ns.length+X3 a b B C+1<=512->
 SS L k j ns=some (((ns.length+X3 a b B C:Nat):Int),j+(N8 (.st kd i s t a b B C .no)).length,ns++(r8 a b B C ns.length++[o3 kd i s t a b B C ns.length (-1)]))
def JL(L:List G8)(B:Bl):Prop:=∀(k d i:Nat) (ns:List F2),d+k=17->d+Y9 B<=16->AR L i (N8 B)->(tk L (i+(N8 B).length)).kind≠5->ns.length+B.size<=512->
 CX L k i ns=some (B.ix ns.length,i+(N8 B).length,ns++N0 B ns.length)
def Qb(L:List G8)(r:Bl):Prop:=∀(k f last i:Nat) (first:Int) (ns:List F2) (m:F2),k<=16->16-k+Y9 r<=16->AR L i (N8 r)->(tk L (i+(N8 r).length)).kind≠5->ns.length+r.size<=512->first≠-1->ns[last]?=some m->m.next= -1->r.size<f->
 blockL (SS L k) f first last i ns=some (first,i+(N8 r).length,DQ ns last (r.ix ns.length)++N0 r ns.length)
section
variable{L:List G8}
theorem uH{j:Nat}(h:(tk L j).kind≠5):V5 Ba (tk L j)=false:=by
 unfold V5;rw[if_pos (by decide)];simp[h]
theorem bQ{k j:Nat}{ns:List F2}(h:(tk L j).kind≠5):SS L k j ns=some (-1,j,ns):=by
 unfold SS GM;rw[if_pos h]
theorem mY{kd i:Int}{s t:C9}{a b:Ex}{B C r:Bl}(h:WB (.st kd i s t a b B C r)):∃w l,N8 (.st kd i s t a b B C r)=L5 w::l/\w≠Ba:=by
 cases h with
 |names k h s hs a ha r hr=>rcases h with rfl|rfl<;>exact⟨_,_,rfl,by decide⟩
 |put a b ha hb r hr=>exact⟨_,_,rfl,by decide⟩
 |one k h a ha r hr=>rcases h with rfl|rfl|rfl<;>exact⟨_,_,rfl,by decide⟩
 |iff a ha B hB r hr=>exact⟨_,_,rfl,by decide⟩
 |Hk a ha B C hB hC r hr=>exact⟨_,_,rfl,by decide⟩
 |each s t hs ht a ha i hi B hB r hr=>exact⟨_,_,rfl,by decide⟩
 |rep i hi B hB r hr=>exact⟨_,_,rfl,by decide⟩
theorem YX{r:Bl}{j:Nat}(hr:WB r)(hH:AR L j (N8 r))(he:(tk L (j+(N8 r).length)).kind≠5):V5 Ba (tk L j)=false:=by
 cases r with
 |no=>exact uH he
 |st kd i s t a b B C r=>
  obtain⟨w,l,h1,h2⟩:=mY hr;rw[h1] at hH;exact JW hH.head.1 h2
theorem cZ(kd i:Int)(s t:C9)(a b:Ex)(B C r:Bl):Y9 (.st kd i s t a b B C .no)<=Y9 (.st kd i s t a b B C r)/\Y9 r<=Y9 (.st kd i s t a b B C r):=by
 simp only[Y9];omega
theorem oS:Qb L .no:=by
 intro k f last i first ns m hk hd hH he hn h1 h2 h3 h4
 obtain⟨f,rfl⟩:∃g,f=g+1:=⟨f-1,by omega⟩
 have he':(tk L i).kind≠5:=he;rw[blockL,T9 (bQ he'),if_pos rfl,show(Bl.no).ix ns.length= -1 from rfl,Yj h2 h3];simp[p5,N8,N0]
theorem NZ{kd i0:Int}{s t:C9}{a b:Ex}{B C r:Bl}(hw:WB r)(hS:Ju L kd i0 s t a b B C)(hL:Qb L r):Qb L (.st kd i0 s t a b B C r):=by
 intro k f last i first ns m hk hd hH he hn h1 h2 h3 h4
 obtain⟨f,rfl⟩:∃g,f=g+1:=⟨f-1,by omega⟩
 have hdl:=cZ kd i0 s t a b B C r;rw[Th] at hH he⊢;rw[bF] at hn h4;rw[J8,<-EZ] at he;have hSS:=hS k i ns hk (by omega) hH.left (YX hw hH.right he) (by omega);have hll:last<ns.length:=(N5.1 h2).1;rw[blockL,T9 hSS,if_neg (by omega),if_neg h1];have hLL:=hL k f (ns.length+X3 a b B C) (i+(N8 (.st kd i0 s t a b B C .no)).length) first (DQ (ns++(r8 a b B C ns.length++[o3 kd i0 s t a b B C ns.length (-1)])) last ((ns.length+X3 a b B C:Nat):Int)) (o3 kd i0 s t a b B C ns.length (-1)) hk (by omega) hH.right he
  (by rw[Ev];simp[Dd];omega) h1 (by
   rw[Tq hll,j4 (by rw[Ev];omega),Ev,j4 (by rw[Dd];omega),Dd];simp) rfl (by omega)
 rw[hLL];have hlen:(DQ (ns++(r8 a b B C ns.length++[o3 kd i0 s t a b B C ns.length (-1)])) last ((ns.length+X3 a b B C:Nat):Int)).length=ns.length+X3 a b B C+1:=by
  rw[Ev];simp[Dd];omega
 rw[hlen,Tq hll,<-Q2,SU (by rw[J8,Ev,Dd]),Tn,UE];simp only[Ck,Cl,true_and];refine⟨by rw[J8];omega,?_⟩;simp only[Q2,GP,DM];rfl
theorem am1:JL L .no:=by
 intro k d i ns hk hd hH he hn;obtain⟨k,rfl⟩:∃g,k=g+1:=⟨k-1,by simp[Y9] at hd;omega⟩
 have he':GM L (16-k) (Ei L (CX L k)) i ns=some (-1,i,ns):=bQ he;rw[CX];unfold Iq;rw[T9 (Sa (by omega)),blockL,T9 he',if_pos rfl];simp[p5,N8,N0,Bl.ix]
theorem MQ{kd i0:Int}{s t:C9}{a b:Ex}{B C r:Bl}(hw:WB r)(hS:Ju L kd i0 s t a b B C)(hL:Qb L r):JL L (.st kd i0 s t a b B C r):=by
 intro k d i ns hk hd hH he hn;obtain⟨k,rfl⟩:∃g,k=g+1:=⟨k-1,by omega⟩
 have hdl:=cZ kd i0 s t a b B C r;rw[Th] at hH he⊢;rw[bF] at hn;rw[J8,<-EZ] at he;have hSS:=hS k i ns (by omega) (by omega) hH.left (YX hw hH.right he) (by omega);rw[CX];unfold Iq;rw[T9 (Sa (by omega)),blockL,T9 (show GM L (16-k) (Ei L (CX L k)) i ns=_ from hSS),if_neg (by omega),if_pos rfl];have hLL:=hL k 599 (ns.length+X3 a b B C) (i+(N8 (.st kd i0 s t a b B C .no)).length) ((ns.length+X3 a b B C:Nat):Int) (ns++(r8 a b B C ns.length++[o3 kd i0 s t a b B C ns.length (-1)])) (o3 kd i0 s t a b B C ns.length (-1)) (by omega) (by omega) hH.right he
  (by simp[Dd];omega) (by omega) (by
   rw[j4 (by omega),j4 (by rw[Dd];omega),Dd];simp) rfl (by omega)
 rw[show blockL (GM L (16-k) (Ei L (CX L k))) 599=blockL (SS L k) 599 from rfl,hLL];have hlen:(ns++(r8 a b B C ns.length++[o3 kd i0 s t a b B C ns.length (-1)])).length=ns.length+X3 a b B C+1:=by
  simp[Dd];omega
 rw[hlen,<-Q2,SU (by rw[J8,Dd]),Tn,UE];simp only[Ck,Cl,true_and];refine⟨by rw[J8];omega,?_⟩;simp only[Q2,GP,DM];rfl
theorem Ps{B:Bl}{k i:Nat}{ns:List F2}(hB:JL L B)(hk:k<=16)(hd:17-k+Y9 B<=16)(hH:AR L i (x5 (N8 B)))(hn:ns.length+B.size<=512):
  Ei L (CX L k) i ns=some (B.ix ns.length,i+(x5 (N8 B)).length,ns++N0 B ns.length):=by
 unfold x5 at hH⊢;have hcl:S9 (tk L (i+1+(N8 B).length))=L5 LL:=hH.tail.right.head.1;have hb:=hB k (17-k) (i+1) ns (by omega) hd hH.tail.left (by rw[(Ca hcl).1];decide) hn;unfold Ei;rw[T9 (DR hH.head.1),T9 hb,T9 (DR hcl)];simp[p5];omega
theorem Mm(hl2:L.length<=2000){a:Ex}(ha:WE a){d i:Nat}{ns:List F2}(hd:d+V8 a<=16)(hH:AR L i (N9 a)){w:C9}(hw:S9 (tk L (i+(N9 a).length))=L5 w)(hc:r0 w=none)(hn:ns.length+a.size<=512):
  Dr L d i ns=some (a.ix ns.length,i+(N9 a).length,ns++Q0 a ns.length):=by
 have hp0:U4 0 a=N9 a:=by unfold U4 EQ;rw[if_pos (R5 _)]
 have hd0:l3 0 a=V8 a:=by unfold l3 Gt;rw[if_pos (R5 _)]
 have h:=(tW hl2 ha).1 d 0 i ns (by omega) (by rw[hd0];exact hd) (by rw[hp0];exact hH) (by rw[hp0];exact An.none hw hc) hn;rw[hp0] at h;unfold Dr;rw[Wi (by omega)];exact h
theorem Vi{i:Nat}{ns:List F2}{s:C9}(h:S9 (tk L i)=(1,s,0)):EF L 1 i ns=some (tk L i,i+1,ns):=by
 unfold EF;rw[if_pos (Ca h).1]
theorem iX{i:Nat}{ns:List F2}{z:Int}(h:S9 (tk L i)=(2,[],z))(hz:z<=64):GT L i ns=some (z,i+1,ns):=by
 obtain⟨h1,h2,h3⟩:=Ca h;have h3':(tk L i).num=z:=h3;unfold GT;rw[if_neg (by rw[h3'];omega),if_pos h1,h3']
theorem uI{s:C9}{i:Nat}{ns:List F2}(h:V5 s (tk L i)=false):AK L s i ns=some (false,i,ns):=by
 unfold AK;rw[if_neg (by rw[h];simp)]
theorem an2{s:C9}{i:Nat}{ns:List F2}(h:S9 (tk L i)=L5 s):AK L s i ns=some (true,i+1,ns):=by
 unfold AK;rw[if_pos (Jg h)]
theorem IM{k j:Nat}{ns:List F2}{w:C9}(h:S9 (tk L j)=L5 w)(hw:BS w=true):SS L k j ns=
  (if w=Ay\/w=AL then Jj L (16-k) j ns else if w=BF\/w=Bv\/w=CO\/w=DH then FR L (16-k) j ns else if w=w8 then Lx L (16-k) (Ei L (CX L k)) j ns else if w=BR then Mj L (16-k) (Ei L (CX L k)) j ns else if w=DC then Ka L (Ei L (CX L k)) j ns else some (-1,j,ns)):=by
 obtain⟨h1,h2,h3⟩:=Ca h;have e1:(tk L j).kind=5:=by rw[h1,L5,hw];rfl
 have e2:(tk L j).s=w:=h2;unfold SS GM;rw[if_neg (λh=>h e1),e2]
theorem aD(hl2:L.length<=2000){kd:Int}(hk:kd=20\/kd=21){s:C9}{a:Ex}(ha:WE a):Ju L kd 0 s [] a .no .no .no:=by
 intro k j ns hk16 hd hH he hn;have hsz:X3 a .no .no .no=a.size:=by simp[X3,Ex.size,Bl.size]
 rw[hsz] at hn⊢;have hda:16-k+V8 a<=16:=by simp only[Y9] at hd;omega
 have fin:∀w,N8 (.st kd 0 s [] a .no .no .no .no)=L5 w::(1,s,0)::L5 Aq::(N9 a++[L5 W8])->BS w=true->SS L k j ns=CM L (16-k) kd (j+1) ns->
   SS L k j ns=some (((ns.length+a.size:Nat):Int),j+(N8 (.st kd 0 s [] a .no .no .no .no)).length,ns++(r8 a .no .no .no ns.length++[o3 kd 0 s [] a .no .no .no ns.length (-1)])):=λw ht hw hs=>by
  rw[ht] at hH⊢;rw[hs];have h2:S9 (tk L (j+1))=(1,s,0):=hH.tail.head.1;have h3:S9 (tk L (j+1+1))=L5 Aq:=hH.tail.tail.head.1;have h4:S9 (tk L (j+1+1+1+(N9 a).length))=L5 W8:=hH.tail.tail.tail.right.head.1;unfold CM;rw[T9 (Vi h2),T9 (DR h3),T9 (Mm hl2 ha hda hH.tail.tail.tail.left h4 (by decide) (by omega)),T9 (DR h4),Ds (by simp[S6];omega)];have h5:(tk L (j+1)).s=s:=(Ca h2).2.1;simp only[Ck,Cl];refine⟨by simp[S6],by simp;omega,?_⟩;simp[r8,o3,Q0,N0,h5,K5,Bl.ix]
 rcases hk with rfl|rfl
 ·refine fin Ay (by simp[N8,CD]) (by decide) ?_;have h1:S9 (tk L j)=L5 Ay:=hH.head.1;rw[IM h1 (by decide),if_pos (.inl rfl)];unfold Jj;rw[if_neg (by rw[JW h1 (by decide)];simp),T9 (DR h1)]
 ·refine fin AL (by simp[N8,CD]) (by decide) ?_;have h1:S9 (tk L j)=L5 AL:=hH.head.1;rw[IM h1 (by decide),if_pos (.inr rfl)];unfold Jj;rw[if_pos (Jg h1)]
theorem cH(hl2:L.length<=2000){a b:Ex}(ha:WE a)(hb:WE b):Ju L 22 0 [] [] a b .no .no:=by
 intro k j ns hk16 hd hH he hn;have hsz:X3 a b .no .no=a.size+b.size:=by simp[X3,Bl.size]
 rw[hsz] at hn⊢;have hda:16-k+V8 a<=16/\16-k+V8 b<=16:=by simp only[Y9] at hd;omega
 have ht:N8 (.st 22 0 [] [] a b .no .no .no)=L5 BF::(N9 a++((L5 d5::N9 b)++[L5 W8])):=by simp[N8,CD]
 rw[ht] at hH⊢;have h1:S9 (tk L j)=L5 BF:=hH.head.1;have h2:S9 (tk L (j+1+(N9 a).length))=L5 d5:=hH.tail.right.head.1;have h3:S9 (tk L (j+1+(N9 a).length+1+(N9 b).length))=L5 W8:=hH.tail.right.tail.right.head.1;have e2:(tk L j).s=BF:=(Ca h1).2.1;obtain⟨kb,ib,sb,b1,b2,rfl⟩:=hb.ne;rw[IM h1 (by decide),if_neg (by decide),if_pos (by decide)];unfold FR;rw[e2,show Gk BF=22 by decide];unfold Af;rw[T9 (Mm hl2 ha hda.1 hH.tail.left h2 (by decide) (by omega)),if_pos rfl,T9 (DR h2),T9 (Mm hl2 hb hda.2 hH.tail.right.tail.left h3 (by decide) (by simp[S6];omega)),T9 (DR h3),Ds (by simp[S6];omega)];simp only[Ck,Cl];refine⟨by simp[S6],by simp;omega,?_⟩;simp only[J8,S6,r8,o3,N0,k5,Q2,K5,Bl.ix]
theorem aP(hl2:L.length<=2000){kd:Int}(hk:kd=23\/kd=27\/kd=28){a:Ex}(ha:WE a):Ju L kd 0 [] [] a .no .no .no:=by
 intro k j ns hk16 hd hH he hn;have hsz:X3 a .no .no .no=a.size:=by simp[X3,Ex.size,Bl.size]
 rw[hsz] at hn⊢;have hda:16-k+V8 a<=16:=by simp only[Y9] at hd;omega
 have fin:∀w,N8 (.st kd 0 [] [] a .no .no .no .no)=L5 w::(N9 a++[L5 W8])->(∀ms,S9 (tk L j)=L5 w->SS L k j ms=Af L (16-k) kd (j+1) ms)->
   SS L k j ns=some (((ns.length+a.size:Nat):Int),j+(N8 (.st kd 0 [] [] a .no .no .no .no)).length,ns++(r8 a .no .no .no ns.length++[o3 kd 0 [] [] a .no .no .no ns.length (-1)])):=λw ht hs=>by
  rw[ht] at hH⊢;rw[hs ns hH.head.1];have h4:S9 (tk L (j+1+(N9 a).length))=L5 W8:=hH.tail.right.head.1;unfold Af;rw[T9 (Mm hl2 ha hda hH.tail.left h4 (by decide) (by omega)),if_neg (by omega),T9 (DR h4),Ds (by simp[S6];omega)];simp only[Ck,Cl];refine⟨by simp[S6],by simp;omega,?_⟩;simp[r8,o3,Q0,N0,K5,Bl.ix]
 rcases hk with rfl|rfl|rfl
 ·refine fin Bv (by simp[N8,CD]) λms h1=>?_;rw[IM h1 (by decide),if_neg (by decide),if_pos (by decide)];unfold FR;rw[show(tk L j).s=Bv from(Ca h1).2.1];rfl
 ·refine fin CO (by simp[N8,CD]) λms h1=>?_;rw[IM h1 (by decide),if_neg (by decide),if_pos (by decide)];unfold FR;rw[show(tk L j).s=CO from(Ca h1).2.1];rfl
 ·refine fin DH (by simp[N8,CD]) λms h1=>?_;rw[IM h1 (by decide),if_neg (by decide),if_pos (by decide)];unfold FR;rw[show(tk L j).s=DH from(Ca h1).2.1];rfl
theorem Zq(hl2:L.length<=2000){a:Ex}(ha:WE a){B:Bl}(hB:JL L B):Ju L 24 0 [] [] a .no B .no:=by
 intro k j ns hk16 hd hH he hn;have hsz:X3 a .no B .no=a.size+B.size:=by simp[X3,Ex.size,Bl.size]
 rw[hsz] at hn⊢;have hda:16-k+V8 a<=16/\17-k+Y9 B<=16:=by simp only[Y9,if_pos] at hd;simp at hd;omega
 have ht:N8 (.st 24 0 [] [] a .no B .no .no)=L5 w8::(N9 a++x5 (N8 B)):=by simp[N8]
 rw[ht] at hH he⊢;have h1:S9 (tk L j)=L5 w8:=hH.head.1;have hbr:AR L (j+1+(N9 a).length) (x5 (N8 B)):=hH.tail.right;have h2:S9 (tk L (j+1+(N9 a).length))=L5 JX:=hbr.head.1;have hlen:j+(L5 w8::(N9 a++x5 (N8 B))).length=j+1+(N9 a).length+(x5 (N8 B)).length:=by simp;omega
 rw[hlen] at he⊢;rw[IM h1 (by decide),if_neg (by decide),if_neg (by decide),if_pos rfl];unfold Lx;rw[T9 (DR h1),T9 (Mm hl2 ha hda.1 hH.tail.left h2 (by decide) (by omega)),T9 (Ps hB hk16 hda.2 hbr (by simp[S6];omega)),T9 (uI he),if_neg (by simp),Ds (by simp[S6,j3];omega)];simp only[Ck,Cl,true_and];refine⟨by simp[S6,j3]<;>omega,?_⟩;simp only[J8,S6,j3,r8,o3,N0,Q0,k5,DM,Q2,K5,Bl.ix,Ex.size,Bs]
theorem lX(hl2:L.length<=2000){a:Ex}(ha:WE a){B C:Bl}(hB:JL L B)(hC:JL L C):Ju L 24 1 [] [] a .no B C:=by
 intro k j ns hk16 hd hH he hn;have hsz:X3 a .no B C=a.size+B.size+C.size:=by simp[X3,Ex.size,Bl.size]
 rw[hsz] at hn⊢;have hda:16-k+V8 a<=16/\17-k+Y9 B<=16/\17-k+Y9 C<=16:=by simp only[Y9,if_pos] at hd;simp at hd;omega
 have ht:N8 (.st 24 1 [] [] a .no B C .no)=L5 w8::(N9 a++(x5 (N8 B)++(L5 Ba::x5 (N8 C)))):=by simp[N8]
 rw[ht] at hH⊢;have h1:S9 (tk L j)=L5 w8:=hH.head.1;have hbr:AR L (j+1+(N9 a).length) (x5 (N8 B)):=hH.tail.right.left;have h2:S9 (tk L (j+1+(N9 a).length))=L5 JX:=hbr.head.1;have h3:S9 (tk L (j+1+(N9 a).length+(x5 (N8 B)).length))=L5 Ba:=hH.tail.right.right.head.1;have hbr2:AR L (j+1+(N9 a).length+(x5 (N8 B)).length+1) (x5 (N8 C)):=hH.tail.right.right.tail;rw[IM h1 (by decide),if_neg (by decide),if_neg (by decide),if_pos rfl];unfold Lx;rw[T9 (DR h1),T9 (Mm hl2 ha hda.1 hH.tail.left h2 (by decide) (by omega)),T9 (Ps hB hk16 hda.2.1 hbr (by simp[S6];omega)),T9 (an2 h3),if_pos rfl,T9 (Ps hC hk16 hda.2.2 hbr2 (by simp[S6,j3];omega)),Ds (by simp[S6,j3];omega)];simp only[Ck,Cl];refine⟨by simp[S6,j3]<;>omega,by simp;omega,?_⟩;simp only[J8,S6,j3,r8,o3,Q0,k5,DM,Q2,K5,Ex.size,Bs,<-EZ]
theorem aM(hl2:L.length<=2000){s t:C9}{a:Ex}(ha:WE a){z:Int}(hz:0<=z/\z<=64){B:Bl}(hB:JL L B):Ju L 25 z s t a .no B .no:=by
 intro k j ns hk16 hd hH he hn;have hsz:X3 a .no B .no=a.size+B.size:=by simp[X3,Ex.size,Bl.size]
 rw[hsz] at hn⊢;have hda:16-k+V8 a<=16/\17-k+Y9 B<=16:=by simp only[Y9,if_pos] at hd;simp at hd;omega
 have ht:N8 (.st 25 z s t a .no B .no .no)=L5 BR::(1,s,0)::L5 d5::(1,t,0)::L5 CI::L5 Bw::L5 Z2::(N9 a++(L5 d5::(2,[],z)::L5 Y1::x5 (N8 B))):=by simp[N8]
 rw[ht] at hH⊢;have h1:S9 (tk L j)=L5 BR:=hH.head.1;have h2:S9 (tk L (j+1))=(1,s,0):=hH.tail.head.1;have h3:S9 (tk L (j+1+1))=L5 d5:=hH.tail.tail.head.1;have h4:S9 (tk L (j+1+1+1))=(1,t,0):=hH.tail.tail.tail.head.1;have h5:S9 (tk L (j+1+1+1+1))=L5 CI:=hH.tail.tail.tail.tail.head.1;have h6:S9 (tk L (j+1+1+1+1+1))=L5 Bw:=hH.tail.tail.tail.tail.tail.head.1;have h7:S9 (tk L (j+1+1+1+1+1+1))=L5 Z2:=hH.tail.tail.tail.tail.tail.tail.head.1;have hE:=hH.tail.tail.tail.tail.tail.tail.tail;have h8:S9 (tk L (j+1+1+1+1+1+1+1+(N9 a).length))=L5 d5:=hE.right.head.1;have h9:S9 (tk L (j+1+1+1+1+1+1+1+(N9 a).length+1))=(2,[],z):=hE.right.tail.head.1;have h10:S9 (tk L (j+1+1+1+1+1+1+1+(N9 a).length+1+1))=L5 Y1:=hE.right.tail.tail.head.1;have hbr:=hE.right.tail.tail.tail;rw[IM h1 (by decide),if_neg (by decide),if_neg (by decide),if_neg (by decide),if_pos rfl];unfold Mj;rw[T9 (DR h1),T9 (Vi h2),T9 (DR h3),T9 (Vi h4),T9 (show f7 L [CI,Bw,Z2] (j+1+1+1+1) ns=some ((),j+1+1+1+1+1+1+1,ns) by rw[eH h5,eH h6,DR h7]),
  T9 (Mm hl2 ha hda.1 hE.left h8 (by decide) (by omega)),T9 (DR h8),T9 (iX h9 hz.2),T9 (DR h10),T9 (Ps hB hk16 hda.2 hbr (by simp[S6];omega)),Ds (by simp[S6,j3];omega)]
 have e1:(tk L (j+1)).s=s:=(Ca h2).2.1;have e2:(tk L (j+1+1+1)).s=t:=(Ca h4).2.1;simp only[Ck,Cl];refine⟨by simp[S6,j3]<;>omega,by simp;omega,?_⟩;simp only[J8,S6,j3,r8,o3,N0,Q0,k5,DM,Q2,K5,Bl.ix,Ex.size,Bs,e1,e2]
theorem gF{z:Int}(hz:0<=z/\z<=64){B:Bl}(hB:JL L B):Ju L 26 z [] [] .no .no B .no:=by
 intro k j ns hk16 hd hH he hn;have hsz:X3 .no .no B .no=B.size:=by simp[X3,Ex.size,Bl.size]
 rw[hsz] at hn⊢;have hda:17-k+Y9 B<=16:=by simp only[Y9,if_pos] at hd;simp at hd;omega
 have ht:N8 (.st 26 z [] [] .no .no B .no .no)=L5 DC::(2,[],z)::x5 (N8 B):=by simp[N8]
 rw[ht] at hH⊢;have h1:S9 (tk L j)=L5 DC:=hH.head.1;have h9:S9 (tk L (j+1))=(2,[],z):=hH.tail.head.1;have hbr:=hH.tail.tail;rw[IM h1 (by decide),if_neg (by decide),if_neg (by decide),if_neg (by decide),if_neg (by decide),if_pos rfl];unfold Ka;rw[T9 (iX h9 hz.2),T9 (Ps hB hk16 hda hbr (by omega)),Ds (by simp[j3];omega)];simp only[Ck,Cl];refine⟨by simp[j3],by simp;try omega,?_⟩;simp only[J8,S6,j3,r8,o3,N0,Q0,k5,DM,Q2,K5,Bl.ix,Ex.size,Ex.ix,Bs]
theorem aj8(hl2:L.length<=2000){B:Bl}(hB:WB B):JL L B/\Qb L B:=by
 induction hB with
 |no=>exact⟨am1,oS⟩
 |names k h s hs a ha r hr ih=>exact⟨MQ hr (aD hl2 h ha) ih.2,NZ hr (aD hl2 h ha) ih.2⟩
 |put a b ha hb r hr ih=>exact⟨MQ hr (cH hl2 ha hb) ih.2,NZ hr (cH hl2 ha hb) ih.2⟩
 |one k h a ha r hr ih=>exact⟨MQ hr (aP hl2 h ha) ih.2,NZ hr (aP hl2 h ha) ih.2⟩
 |iff a ha B hB r hr ihB ih=>exact⟨MQ hr (Zq hl2 ha ihB.1) ih.2,NZ hr (Zq hl2 ha ihB.1) ih.2⟩
 |Hk a ha B C hB hC r hr ihB ihC ih=>exact⟨MQ hr (lX hl2 ha ihB.1 ihC.1) ih.2,NZ hr (lX hl2 ha ihB.1 ihC.1) ih.2⟩
 |each s t hs ht a ha i hi B hB r hr ihB ih=>exact⟨MQ hr (aM hl2 ha hi ihB.1) ih.2,NZ hr (aM hl2 ha hi ihB.1) ih.2⟩
 |rep i hi B hB r hr ihB ih=>exact⟨MQ hr (gF hi ihB.1) ih.2,NZ hr (gF hi ihB.1) ih.2⟩
end
end Go.Proofs.YtjkhokkdgfbhcaaGreatDoor
namespace Go.Proofs.YtjkhokkdgfbhcaaGreatDoor
section
variable{L:List G8}
def EI(L:List G8):Prop:=∀i,i<L.length->(tk L i).kind≠0->FI (tk L i)
theorem ad7{i:Nat}(h:(tk L i).kind≠0):i<L.length:=by
 refine Nat.lt_of_not_le λhle=>h ?_;unfold tk;rw[W6,Fa hle];rfl
theorem EI.get(h:EI L){i:Nat}(hk:(tk L i).kind≠0):FI (tk L i):=h i (ad7 hk) hk
theorem EI.name(h:EI L){i:Nat}(hk:(tk L i).kind=1):Gv (tk L i).s:=by
 rcases h.get (i:=i) (by omega) with h|h|h|h|h
 ·exact h.2.1
 all_goals omega
theorem EI.num(h:EI L){i:Nat}(hk:(tk L i).kind=2):HF (tk L i).num:=by
 rcases h.get (i:=i) (by omega) with h|h|h|h|h
 ·omega
 ·exact h.2.2
 all_goals omega
theorem EI.text(h:EI L){i:Nat}(hk:(tk L i).kind=3):OM (tk L i).s:=by
 rcases h.get (i:=i) (by omega) with h|h|h|h|h
 ·omega
 ·omega
 ·exact h.2.1
 all_goals omega
def PQ(X:PX Int)(l d:Nat):Prop:=∀(i:Nat) (ns:List F2) (x:Int) (j:Nat) (ms:List F2),X i ns=some (x,j,ms)->
 ∃e,WE e/\x=e.ix ns.length/\ms=ns++Q0 e ns.length/\i+(U4 l e).length<=j/\d+l3 l e<=16
theorem RT(l:Nat)(e:Ex):(U4 l e).length=if l<=P6 e then(N9 e).length else(N9 e).length+2:=by
 unfold U4 EQ;split<;>simp
theorem eY(e:Ex){l l':Nat}(h:l<=l'):(U4 l e).length<=(U4 l' e).length:=by
 rw[RT,RT];split<;>split<;>omega
theorem eG(e:Ex){l l':Nat}(h:l<=l'):l3 l e<=l3 l' e:=by
 unfold l3 Gt;split<;>split<;>omega
theorem Gi{m:F2}{i:Nat}{ns:List F2}{x:Int}{j:Nat}{ms:List F2}(h:l4 m i ns=some (x,j,ms)):x=(ns.length:Int)/\j=i/\ms=ns++[m]:=by
 unfold l4 at h;split at h
 ·cases h
 ·cases h;exact⟨rfl,rfl,rfl⟩
theorem SY{d i:Nat}{ns:List F2}{x:Unit}{j:Nat}{ms:List F2}(h:Am d i ns=some (x,j,ms)):d<=16/\j=i/\ms=ns:=by
 unfold Am at h;split at h
 ·cases h
 ·cases h;exact⟨by omega,rfl,rfl⟩
theorem De:∀{l:List (List UInt8)} {i:Nat} {ns:List F2} {x:Unit} {j:Nat} {ms:List F2},f7 L l i ns=some (x,j,ms)->j=i+l.length/\ms=ns
 |[],i,ns,x,j,ms,h=>by cases h;exact⟨rfl,rfl⟩
 |s::l,i,ns,x,j,ms,h=>by
  rw[f7] at h;dsimp only at h;split at h
  ·replace h:=De h;obtain⟨h1,h2⟩:=h;exact⟨by rw[h1,T3];omega,h2⟩
  ·cases h
theorem aJ{signs:List (List UInt8)}{i:Nat}{ns:List F2}{q:List UInt8×Bool}{j:Nat}{ms:List F2}(h:AO L signs i ns=some (q,j,ms)):ms=ns/\((q.2=false/\j=i)\/(q.2=true/\q.1∈signs/\j=i+1)):=by
 rcases XY L i ns signs with h1|⟨s,hs,hT,h1⟩
 ·rw[h1] at h;cases h;exact⟨rfl,.inl ⟨rfl,rfl⟩⟩
 ·rw[h1] at h;cases h;exact⟨rfl,.inr ⟨rfl,hs,rfl⟩⟩
theorem jZ{l d:Nat}(hl:l<=5){s:C9}(hs:s∈KK l){a b:Ex}(ha:WE a)(hb:WE b){ns:List F2}{i k j:Nat}(h1:i+(U4 (Az l) a).length<=k)(h2:d+l3 (Az l) a<=16)(h3:k+1+(U4 (l+1) b).length<=j)(h4:d+l3 (l+1) b<=16):
  WE (.nd 11 0 s a b)/\(ns++Q0 a ns.length)++Q0 b (ns++Q0 a ns.length).length++[Kq (a.ix ns.length) s (b.ix (ns++Q0 a ns.length).length)]=ns++Q0 (.nd 11 0 s a b) ns.length/\
   i+(U4 l (.nd 11 0 s a b)).length<=j/\d+l3 l (.nd 11 0 s a b)<=16:=by
 have hc:=gK l (j9.2 (by omega)) s hs;have t3:P6 (.nd 11 0 s a b)=l:=by rw[P6,if_pos rfl,hc];rfl
 have t1:N9 (.nd 11 0 s a b)=U4 (Az l) a++(L5 s::U4 (l+1) b):=by
  show EQ _ (Az ((r0 s).getD 0)) _++(L5 s::EQ _ ((r0 s).getD 0+1) _)=_;rw[hc];rfl
 have t2:V8 (.nd 11 0 s a b)=max (l3 (Az l) a) (l3 (l+1) b):=by
  rw[V8,if_neg (by omega),if_pos rfl,hc];rfl
 refine⟨.two s l hc a b ha hb,?_,?_,?_⟩
 ·simp only[Q0,Q2,Kq,J8,S6]
 ·rw[RT,t3,if_pos (L6 _),t1];simp;omega
 ·unfold l3 Gt;rw[t3,if_pos (L6 _),t2];omega
theorem cJ{X:PX Int}{l d:Nat}(hl:l<=5)(h2:l≠2)(hX:PQ X (l+1) d):∀(f:Nat) (e:Ex) (i0 i:Nat) (ns:List F2) (x:Int) (j:Nat) (ms:List F2),WE e->i0+(U4 l e).length<=i->d+l3 l e<=16->
  twoL L X (KK l) f (e.ix ns.length) i (ns++Q0 e ns.length)=some (x,j,ms)->∃e,WE e/\x=e.ix ns.length/\ms=ns++Q0 e ns.length/\i0+(U4 l e).length<=j/\d+l3 l e<=16
 |0,e,i0,i,ns,x,j,ms,_,_,_,h=>by cases h
 |f+1,e,i0,i,ns,x,j,ms,he,h1,h3,h=>by
  rw[twoL] at h;replace h:=V9 h;obtain⟨q,i1,ns1,hq,h⟩:=h;replace hq:=aJ hq;obtain⟨rfl,hq⟩:=hq;rcases hq with⟨hf,rfl⟩|⟨ht,hs,rfl⟩
  ·rw[if_pos hf] at h;cases h;exact⟨e,he,rfl,rfl,h1,h3⟩
  ·rw[if_neg (by rw[ht];simp)] at h;replace h:=V9 h;obtain⟨y,i2,ns2,hb,h⟩:=h;obtain⟨b,wb,rfl,rfl,h5,h6⟩:=hX _ _ _ _ _ hb;replace h:=V9 h;obtain⟨z,i3,ns3,hz,h⟩:=h;replace hz:=Gi hz;obtain⟨rfl,rfl,rfl⟩:=hz;have hlc:Az l=l:=if_neg h2;obtain⟨g1,g2,g3,g4⟩:=jZ (ns:=ns) hl hs he wb (i:=i0) (k:=i) (j:=i3) (d:=d) (by rw[hlc];exact h1) (by rw[hlc];exact h3) h5 h6;have e1:((ns++Q0 e ns.length++Q0 b (ns++Q0 e ns.length).length).length:Int)=(Ex.nd 11 0 q.1 e b).ix ns.length:=by
    simp only[J8,S6,Ex.ix]
   rw[e1,g2] at h;exact cJ hl h2 hX f _ i0 i3 ns x j ms g1 g3 g4 h
theorem lQ{X:PX Int}{d:Nat}(hX:PQ X 6 d):∀(n l:Nat),l+n=6->PQ (Cc L X l) l d
 |0,l,h=>by
  obtain rfl:l=6:=by omega
  exact hX
 |n+1,l,h=>by
  have ih:=lQ hX n (l+1) (by omega);intro i ns x j ms h1;by_cases h2:l=2
  ·subst h2;have h1':Ej L X i ns=some (x,j,ms):=h1;unfold Ej at h1';replace h1':=V9 h1';obtain⟨y,i1,ns1,ha,h1'⟩:=h1';obtain⟨a,wa,rfl,rfl,h5,h6⟩:=ih _ _ _ _ _ (show Cc L X 3 i ns=some (y,i1,ns1) from ha);replace h1':=V9 h1';obtain⟨q,i2,ns2,hq,h1'⟩:=h1';replace hq:=aJ hq;obtain⟨rfl,hq⟩:=hq;rcases hq with⟨hf,rfl⟩|⟨ht,hs,rfl⟩
   ·rw[if_pos hf] at h1';cases h1';exact⟨a,wa,rfl,rfl,j7 (YJ (eY a (by omega)) _) h5,j7 (YJ (eG a (by omega)) _) h6⟩
   ·rw[if_neg (by rw[ht];simp)] at h1';replace h1':=V9 h1';obtain⟨y,i3,ns3,hb,h1'⟩:=h1';obtain⟨b,wb,rfl,rfl,h7,h8⟩:=ih _ _ _ _ _ (show Cc L X 3 _ _=some (y,i3,ns3) from hb);replace h1':=Gi h1';obtain⟨rfl,rfl,rfl⟩:=h1';obtain⟨g1,g2,g3,g4⟩:=jZ (l:=2) (ns:=ns) (by omega) hs wa wb (i:=i) (k:=i1) (j:=j) (d:=d) h5 h6 h7 h8;refine⟨_,g1,?_,g2,g3,g4⟩;simp only[J8,S6,Ex.ix]
  ·rw[VZ L X (by omega) h2] at h1;unfold FX at h1;replace h1:=V9 h1;obtain⟨y,i1,ns1,ha,h1⟩:=h1;obtain⟨a,wa,rfl,rfl,h5,h6⟩:=ih _ _ _ _ _ ha;exact cJ (by omega) h2 ih _ a i i1 ns x j ms wa (j7 (YJ (eY a (by omega)) _) h5) (j7 (YJ (eG a (by omega)) _) h6) h1
theorem XK{e:Ex}(h:P6 e=6):(U4 6 e).length=(N9 e).length/\l3 6 e=V8 e:=by
 rw[RT,h,if_pos (L6 _)];refine⟨rfl,?_⟩;unfold l3 Gt;rw[h,if_pos (L6 _)]
theorem mG{ns:List F2}{a:Ex}{k i:Int}{s:C9}(ha:WE a):((ns++Q0 a ns.length).length:Int)=(Ex.nd k i s a .no).ix ns.length:=by
 simp only[J8,S6,Ex.ix,Ex.size,Bs]
theorem gL{k:Int}(hk:k=9\/k=10){d:Nat}(hX:PQ (XX L (d+1)) 6 (d+1)){i:Nat}{ns:List F2}{x:Int}{j:Nat}{ms:List F2}(h:Fq L (XX L (d+1)) k d (i+1) ns=some (x,j,ms)):
  ∃e,WE e/\x=e.ix ns.length/\ms=ns++Q0 e ns.length/\i+(U4 6 e).length<=j/\d+l3 6 e<=16:=by
 unfold Fq at h;replace h:=V9 h;obtain⟨u,i1,ns1,hd,h⟩:=h;replace hd:=SY hd;obtain⟨hd,rfl,rfl⟩:=hd;replace h:=V9 h;obtain⟨y,i2,ns2,ha,h⟩:=h;obtain⟨a,wa,rfl,rfl,h5,h6⟩:=hX _ _ _ _ _ ha;replace h:=Gi h;obtain⟨rfl,rfl,rfl⟩:=h;have t3:P6 (.nd k 0 [] a .no)=6:=by rw[P6,if_neg (by omega)]
 have t2:V8 (.nd k 0 [] a .no)=l3 6 a+1:=by rw[V8,if_pos hk];rfl
 have t1:(N9 (.nd k 0 [] a .no)).length=(U4 6 a).length+1:=by rcases hk with rfl|rfl<;>simp[N9,U4]
 obtain⟨p1,p2⟩:=XK t3;refine⟨.nd k 0 [] a .no,.pre k hk a wa,mG wa,?_,by omega,by omega⟩;exact SA ns1 k 0 [] a
theorem rM(s:C9)(h:Dc s≠-1):5<=Dc s/\Dc s<=8:=by
 unfold Dc at h⊢;split
 ·omega
 split
 ·omega
 split
 ·omega
 split
 ·omega
 ·rename_i h1 h2 h3 h4;rw[if_neg h1,if_neg h2,if_neg h3,if_neg h4] at h;exact absurd rfl h
theorem Xa{d:Nat}(hX:PQ (XX L d) 6 d){i:Nat}{ns:List F2}{x:Int}{j:Nat}{ms:List F2}(h:FL L (XX L d) d i ns=some (x,j,ms)):d<=16/\∃e,WE e/\x=e.ix ns.length/\ms=ns++Q0 e ns.length/\i+(N9 e).length<=j/\d+V8 e<=16:=by
 unfold FL at h;replace h:=V9 h;obtain⟨u,i1,ns1,hd,h⟩:=h;replace hd:=SY hd;obtain⟨hd,rfl,rfl⟩:=hd;obtain⟨e,we,h1,h2,h3,h4⟩:=lQ hX 6 0 rfl _ _ _ _ _ (show Cc L (XX L d) 0 _ _=some (x,j,ms) from h);have hp0:U4 0 e=N9 e:=by unfold U4 EQ;rw[if_pos (R5 _)]
 have hd0:l3 0 e=V8 e:=by unfold l3 Gt;rw[if_pos (R5 _)]
 rw[hp0] at h3;rw[hd0] at h4;exact⟨hd,e,we,h1,h2,h3,h4⟩
theorem eJ(hW:EI L):∀(n d:Nat),d+n=17->PQ (XX L d) 6 d
 |0,d,hd=>by
  obtain rfl:d=17:=by omega
  intro i ns x j ms h;cases h
 |n+1,d,hd=>by
  have ih:=eJ hW n (d+1) (by omega);intro i ns x j ms h;rw[PC (by omega)] at h;have atom:∀(e:Ex) (m:F2),WE e->P6 e=6->(N9 e).length=1->V8 e=0->(∀n,e.ix n=(n:Int))->(∀n,Q0 e n=[m])->l4 m (i+1) ns=some (x,j,ms)->∃e,WE e/\x=e.ix ns.length/\ms=ns++Q0 e ns.length/\i+(U4 6 e).length<=j/\d+l3 6 e<=16:=λe m we hc ht hdp hix hl h=>by
   replace h:=Gi h;obtain⟨rfl,rfl,rfl⟩:=h;obtain⟨p1,p2⟩:=XK hc;exact⟨e,we,(hix _).symm,by rw[hl],by omega,by omega⟩
  unfold Es at h;split at h
  ·rename_i h2;exact atom (.nd 2 (tk L i).num [] .no .no) _ (.int _ (hW.num h2)) rfl rfl rfl (λn=>by simp[Ex.ix,Ex.size]) (λn=>rfl) h
  split at h
  ·rename_i h3;exact atom (.nd 3 0 (tk L i).s .no .no) _ (.text _ (hW.text h3)) rfl rfl rfl (λn=>by simp[Ex.ix,Ex.size]) (λn=>rfl) h
  split at h
  ·rename_i h1;exact atom (.nd 4 0 (tk L i).s .no .no) _ (.name _ (hW.name h1)) rfl rfl rfl (λn=>by simp[Ex.ix,Ex.size]) (λn=>rfl) h
  split at h
  ·unfold Gs at h;split at h
   ·exact gL (.inr rfl) ih h
   split at h
   ·replace h:=V9 h;obtain⟨y,i1,ns1,ha,h⟩:=h;replace ha:=Xa ih ha;obtain⟨hd1,e,we,rfl,rfl,h5,h6⟩:=ha;replace h:=V9 h;obtain⟨u,i2,ns2,hm,h⟩:=h;replace hm:=De hm;obtain⟨rfl,rfl⟩:=hm;cases h;refine⟨e,we,rfl,rfl,?_,?_⟩
    ·rw[RT];simp only[T3,Y4];split<;>omega
    ·unfold l3 Gt;split<;>omega
   ·cases h
  split at h
  ·unfold CJ at h;split at h
   ·rename_i hc;have hr:=rM _ hc;replace h:=V9 h;obtain⟨u,i1,ns1,hm1,h⟩:=h;replace hm1:=De hm1;obtain⟨rfl,rfl⟩:=hm1;replace h:=V9 h;obtain⟨y,i2,ns2,ha,h⟩:=h;replace ha:=Xa ih ha;obtain⟨hd1,a,wa,rfl,rfl,h5,h6⟩:=ha;replace h:=V9 h;obtain⟨u2,i3,ns3,hm2,h⟩:=h;replace hm2:=De hm2;obtain⟨rfl,rfl⟩:=hm2;replace h:=Gi h;obtain⟨rfl,rfl,rfl⟩:=h;obtain⟨t1,t2,t3⟩:=bI hr a;obtain⟨p1,p2⟩:=XK t3;refine⟨.nd (Dc (tk L i).s) 0 [] a .no,.call _ hr a wa,mG wa,SA _ _ 0 [] a,?_,by omega⟩;rw[p1,t1];simp only[T3,Y4,J8] at h5⊢;omega
   split at h
   ·exact gL (.inl rfl) ih h
   split at h
   ·exact atom (.nd 0 0 [] .no .no) _ .nil rfl rfl rfl (λn=>by simp[Ex.ix,Ex.size]) (λn=>rfl) h
   split at h
   ·exact atom (.nd 1 1 [] .no .no) _ (.bool true) rfl rfl rfl (λn=>by simp[Ex.ix,Ex.size]) (λn=>rfl) h
   split at h
   ·exact atom (.nd 1 0 [] .no .no) _ (.bool false) rfl rfl rfl (λn=>by simp[Ex.ix,Ex.size]) (λn=>rfl) h
   ·cases h
  ·cases h
theorem QM(hW:EI L){d i:Nat}{ns:List F2}{x:Int}{j:Nat}{ms:List F2}(h:Dr L d i ns=some (x,j,ms)):∃e,WE e/\x=e.ix ns.length/\ms=ns++Q0 e ns.length/\i+(N9 e).length<=j/\d+V8 e<=16:=by
 unfold Dr at h;by_cases hd:d<=17
 ·exact(Xa (eJ hW (17-d) d (by omega)) h).2
 ·unfold FL at h;replace h:=V9 h;obtain⟨u,i1,ns1,hd',h⟩:=h;replace hd':=SY hd';obtain⟨hd',_,_⟩:=hd';omega
def VS(L:List G8)(k:Nat):Prop:=∀(i:Nat) (ns:List F2) (x:Int) (j:Nat) (ms:List F2),CX L k i ns=some (x,j,ms)->
 ∃B,WB B/\x=B.ix ns.length/\ms=ns++N0 B ns.length/\i+(N8 B).length<=j/\17-k+Y9 B<=16
def aF(L:List G8)(k:Nat):Prop:=∀(i:Nat) (ns:List F2) (x:Int) (j:Nat) (ms:List F2),SS L k i ns=some (x,j,ms)->(x= -1/\j=i/\ms=ns)\/
 ∃kd i0 s t a b B C,(∀r,WB r->WB (.st kd i0 s t a b B C r))/\x=((ns.length+X3 a b B C:Nat):Int)/\ms=ns++(r8 a b B C ns.length++[o3 kd i0 s t a b B C ns.length (-1)])/\i+(N8 (.st kd i0 s t a b B C .no)).length<=j/\16-k+Y9 (.st kd i0 s t a b B C .no)<=16
theorem Xb{k:Int}{i:Nat}{ns:List F2}{x:G8}{j:Nat}{ms:List F2}(h:EF L k i ns=some (x,j,ms)):(tk L i).kind=k/\x=tk L i/\j=i+1/\ms=ns:=by
 unfold EF at h;split at h
 ·cases h;exact⟨by assumption,rfl,rfl,rfl⟩
 ·cases h
theorem jC(hW:EI L){i:Nat}{ns:List F2}{x:Int}{j:Nat}{ms:List F2}(h:GT L i ns=some (x,j,ms)):0<=x/\x<=64/\j=i+1/\ms=ns:=by
 unfold GT at h;split at h
 ·cases h
 ·rename_i h1;split at h
  ·rename_i h2;cases h;have:=(hW.num h2).1;exact⟨this,by
    refine Int.le_of_not_gt λhlt=>h1 ⟨h2,by omega⟩,rfl,rfl⟩
  ·cases h
theorem nU{s:C9}{i:Nat}{ns:List F2}{x:Bool}{j:Nat}{ms:List F2}(h:AK L s i ns=some (x,j,ms)):ms=ns/\((x=true/\j=i+1)\/(x=false/\j=i)):=by
 unfold AK at h;split at h
 ·cases h;exact⟨rfl,.inl ⟨rfl,rfl⟩⟩
 ·cases h;exact⟨rfl,.inr ⟨rfl,rfl⟩⟩
theorem SQ{k i:Nat}{ns:List F2}{x:Int}{j:Nat}{ms:List F2}(hB:VS L k)(h:Ei L (CX L k) i ns=some (x,j,ms)):∃B,WB B/\x=B.ix ns.length/\ms=ns++N0 B ns.length/\i+(x5 (N8 B)).length<=j/\17-k+Y9 B<=16:=by
 unfold Ei at h;replace h:=V9 h;obtain⟨u,i1,ns1,hm,h⟩:=h;replace hm:=De hm;obtain⟨rfl,rfl⟩:=hm;replace h:=V9 h;obtain⟨y,i2,ns2,hb,h⟩:=h;obtain⟨B,wB,rfl,rfl,h1,h2⟩:=hB _ _ _ _ _ hb;replace h:=V9 h;obtain⟨u2,i3,ns3,hm2,h⟩:=h;replace hm2:=De hm2;obtain⟨rfl,rfl⟩:=hm2;cases h;refine⟨B,wB,rfl,rfl,?_,h2⟩;simp only[x5,T3,J8,Y4] at h1⊢;omega
theorem kI(hW:EI L){d:Nat}{kd:Int}(hk:kd=20\/kd=21){i:Nat}{ns:List F2}{x:Int}{j:Nat}{ms:List F2}(h:CM L d kd (i+1) ns=some (x,j,ms)):∃kd i0 s t a b B C,(∀r,WB r->WB (.st kd i0 s t a b B C r))/\x=((ns.length+X3 a b B C:Nat):Int)/\ms=ns++(r8 a b B C ns.length++[o3 kd i0 s t a b B C ns.length (-1)])/\i+(N8 (.st kd i0 s t a b B C .no)).length<=j/\d+Y9 (.st kd i0 s t a b B C .no)<=16:=by
 unfold CM at h;replace h:=V9 h;obtain⟨t,i1,ns1,h1,h⟩:=h;replace h1:=Xb h1;obtain⟨h1,rfl,rfl,rfl⟩:=h1;replace h:=V9 h;obtain⟨u,i2,ns2,h2,h⟩:=h;replace h2:=De h2;obtain⟨rfl,rfl⟩:=h2;replace h:=V9 h;obtain⟨y,i3,ns3,h3,h⟩:=h;replace h3:=QM hW h3;obtain⟨a,wa,rfl,rfl,h5,h6⟩:=h3;replace h:=V9 h;obtain⟨u2,i4,ns4,h4,h⟩:=h;replace h4:=De h4;obtain⟨rfl,rfl⟩:=h4;replace h:=Gi h;obtain⟨rfl,rfl,rfl⟩:=h;refine⟨kd,0,(tk L (i+1)).s,[],a,.no,.no,.no,λr hr=>.names kd hk _ (hW.name h1) a wa r hr,?_,?_,?_,?_⟩
 ·simp[S6,X3,Ex.size,Bl.size]
 ·simp[r8,o3,Q0,N0,K5,Bl.ix]
 ·have e:(N8 (.st kd 0 (tk L (i+1)).s [] a .no .no .no .no)).length=(N9 a).length+4:=by
   rcases hk with rfl|rfl<;>simp[N8]
  rw[e];simp only[T3,Y4] at h5⊢;omega
 ·have:kd≠24/\kd≠25/\kd≠26:=by omega
  simp only[Y9,V8,this.1,this.2.1,this.2.2,or_self,if_false];omega
theorem ac0(hW:EI L){d:Nat}{kd:Int}(hk:kd=22\/kd=23\/kd=27\/kd=28){i:Nat}{ns:List F2}{x:Int}{j:Nat}{ms:List F2}(h:Af L d kd (i+1) ns=some (x,j,ms)):∃kd i0 s t a b B C,(∀r,WB r->WB (.st kd i0 s t a b B C r))/\x=((ns.length+X3 a b B C:Nat):Int)/\ms=ns++(r8 a b B C ns.length++[o3 kd i0 s t a b B C ns.length (-1)])/\i+(N8 (.st kd i0 s t a b B C .no)).length<=j/\d+Y9 (.st kd i0 s t a b B C .no)<=16:=by
 unfold Af at h;replace h:=V9 h;obtain⟨y,i3,ns3,h3,h⟩:=h;replace h3:=QM hW h3;obtain⟨a,wa,rfl,rfl,h5,h6⟩:=h3;split at h
 ·rename_i hk2;subst hk2;replace h:=V9 h;obtain⟨u,i4,ns4,h4,h⟩:=h;replace h4:=De h4;obtain⟨rfl,rfl⟩:=h4;replace h:=V9 h;obtain⟨y,i5,ns5,h7,h⟩:=h;replace h7:=QM hW h7;obtain⟨b,wb,rfl,rfl,h8,h9⟩:=h7;replace h:=V9 h;obtain⟨u2,i6,ns6,h10,h⟩:=h;replace h10:=De h10;obtain⟨rfl,rfl⟩:=h10;replace h:=Gi h;obtain⟨rfl,rfl,rfl⟩:=h;obtain⟨kb,ib,sb,b1,b2,rfl⟩:=wb.ne;refine⟨22,0,[],[],a,_,.no,.no,λr hr=>.put a _ wa wb r hr,?_,?_,?_,?_⟩
  ·simp[S6,X3,Bl.size];try omega
  ·simp only[J8,S6,r8,o3,N0,k5,Q2,K5,Bl.ix]
  ·simp only[T3,Y4] at h8⊢;simp[N8];omega
  ·simp only[Y9];simp;omega
 ·rename_i hk2;replace h:=V9 h;obtain⟨u,i4,ns4,h4,h⟩:=h;replace h4:=De h4;obtain⟨rfl,rfl⟩:=h4;replace h:=Gi h;obtain⟨rfl,rfl,rfl⟩:=h;refine⟨kd,0,[],[],a,.no,.no,.no,λr hr=>.one kd (by omega) a wa r hr,?_,?_,?_,?_⟩
  ·simp[S6,X3,Ex.size,Bl.size]
  ·simp[r8,o3,Q0,N0,K5,Bl.ix]
  ·have e:(N8 (.st kd 0 [] [] a .no .no .no .no)).length=(N9 a).length+2:=by
    have:kd=23\/kd=27\/kd=28:=by omega
    rcases this with rfl|rfl|rfl<;>simp[N8]
   rw[e];simp only[T3,Y4] at h5⊢;omega
  ·have:kd≠24/\kd≠25/\kd≠26:=by omega
   simp only[Y9,V8,this.1,this.2.1,this.2.2,or_self,if_false];omega
theorem wQ(hW:EI L){k:Nat}(hk:k<=16)(hB:VS L k):aF L k:=by
 intro i ns x j ms h;unfold SS GM at h;split at h
 ·cases h;exact .inl ⟨rfl,rfl,rfl⟩
 refine Classical.or_iff_not_imp_left.2 λhno=>?_;split at h
 ·unfold Jj at h;split at h
  ·exact kI hW (.inr rfl) h
  ·replace h:=V9 h;obtain⟨u,i1,ns1,h1,h⟩:=h;replace h1:=De h1;obtain⟨rfl,rfl⟩:=h1;exact kI hW (.inl rfl) h
 split at h
 ·unfold FR at h;refine ac0 hW ?_ h;unfold Gk;split
  ·exact .inl rfl
  split
  ·exact .inr (.inl rfl)
  split
  ·exact .inr (.inr (.inl rfl))
  ·exact .inr (.inr (.inr rfl))
 split at h
 ·unfold Lx at h;replace h:=V9 h;obtain⟨u,i1,ns1,h1,h⟩:=h;replace h1:=De h1;obtain⟨rfl,rfl⟩:=h1;replace h:=V9 h;obtain⟨y,i3,ns3,h3,h⟩:=h;replace h3:=QM hW h3;obtain⟨a,wa,rfl,rfl,h5,h6⟩:=h3;replace h:=V9 h;obtain⟨y2,i4,ns4,h4,h⟩:=h;replace h4:=SQ hB h4;obtain⟨B,wB,rfl,rfl,h7,h8⟩:=h4;replace h:=V9 h;obtain⟨q,i5,ns5,h9,h⟩:=h;replace h9:=nU h9;obtain⟨rfl,h9⟩:=h9;simp only[T3,Y4] at h5;rcases h9 with⟨rfl,rfl⟩|⟨rfl,rfl⟩
  ·rw[if_pos rfl] at h;replace h:=V9 h;obtain⟨y3,i6,ns6,h10,h⟩:=h;replace h10:=SQ hB h10;obtain⟨C,wC,rfl,rfl,h11,h12⟩:=h10;replace h:=Gi h;obtain⟨rfl,rfl,rfl⟩:=h;refine⟨24,1,[],[],a,.no,B,C,λr hr=>.Hk a wa B C wB wC r hr,?_,?_,?_,?_⟩
   ·simp[S6,j3,X3,Ex.size]<;>omega
   ·simp only[J8,S6,j3,r8,o3,Q0,k5,DM,Q2,K5,Ex.size,Bs,<-EZ]
   ·have e:(N8 (.st 24 1 [] [] a .no B C .no)).length=(N9 a).length+(x5 (N8 B)).length+(x5 (N8 C)).length+2:=by simp[N8];omega
    rw[e];omega
   ·simp only[Y9,V8];simp;omega
  ·rw[if_neg (by simp)] at h;replace h:=Gi h;obtain⟨rfl,rfl,rfl⟩:=h;refine⟨24,0,[],[],a,.no,B,.no,λr hr=>.iff a wa B wB r hr,?_,?_,?_,?_⟩
   ·simp[S6,j3,X3,Ex.size,Bl.size]<;>omega
   ·simp only[J8,S6,j3,r8,o3,Q0,N0,k5,DM,Q2,K5,Ex.size,Bs,Bl.ix,<-EZ]
   ·have e:(N8 (.st 24 0 [] [] a .no B .no .no)).length=(N9 a).length+(x5 (N8 B)).length+1:=by simp[N8]
    rw[e];omega
   ·simp only[Y9,V8];simp;omega
 split at h
 ·unfold Mj at h;replace h:=V9 h;obtain⟨u,i1,ns1,h1,h⟩:=h;replace h1:=De h1;obtain⟨rfl,rfl⟩:=h1;replace h:=V9 h;obtain⟨s,i2,ns2,h2,h⟩:=h;replace h2:=Xb h2;obtain⟨h2,rfl,rfl,rfl⟩:=h2;replace h:=V9 h;obtain⟨u3,i3,ns3,h3,h⟩:=h;replace h3:=De h3;obtain⟨rfl,rfl⟩:=h3;replace h:=V9 h;obtain⟨t,i4,ns4,h4,h⟩:=h;replace h4:=Xb h4;obtain⟨h4,rfl,rfl,rfl⟩:=h4;replace h:=V9 h;obtain⟨u5,i5,ns5,h5,h⟩:=h;replace h5:=De h5;obtain⟨rfl,rfl⟩:=h5;replace h:=V9 h;obtain⟨y,i6,ns6,h6,h⟩:=h;replace h6:=QM hW h6;obtain⟨a,wa,rfl,rfl,h7,h8⟩:=h6;replace h:=V9 h;obtain⟨u7,i7,ns7,h9,h⟩:=h;replace h9:=De h9;obtain⟨rfl,rfl⟩:=h9;replace h:=V9 h;obtain⟨z,i8,ns8,h10,h⟩:=h;replace h10:=jC hW h10;obtain⟨hz0,hz1,rfl,rfl⟩:=h10;replace h:=V9 h;obtain⟨u9,i9,ns9,h11,h⟩:=h;replace h11:=De h11;obtain⟨rfl,rfl⟩:=h11;replace h:=V9 h;obtain⟨y2,i10,ns10,h12,h⟩:=h;replace h12:=SQ hB h12;obtain⟨B,wB,rfl,rfl,h13,h14⟩:=h12;replace h:=Gi h;obtain⟨rfl,rfl,rfl⟩:=h;simp only[T3,Y4] at h2 h4 h7 h13;refine⟨25,z,_,_,a,.no,B,.no,λr hr=>.each _ _ (hW.name h2) (hW.name h4) a wa z ⟨hz0,hz1⟩ B wB r hr,?_,?_,?_,?_⟩
  ·simp[S6,j3,X3,Ex.size,Bl.size]<;>omega
  ·simp only[J8,S6,j3,r8,o3,Q0,N0,k5,DM,Q2,K5,Ex.size,Bs,Bl.ix,<-EZ,T3,Y4,Y3]
  ·have e:∀s t,(N8 (.st 25 z s t a .no B .no .no)).length=(N9 a).length+(x5 (N8 B)).length+10:=λs t=>by simp[N8];omega
   rw[e];omega
  ·simp only[Y9,V8];simp;omega
 split at h
 ·unfold Ka at h;replace h:=V9 h;obtain⟨z,i8,ns8,h10,h⟩:=h;replace h10:=jC hW h10;obtain⟨hz0,hz1,rfl,rfl⟩:=h10;replace h:=V9 h;obtain⟨y2,i10,ns10,h12,h⟩:=h;replace h12:=SQ hB h12;obtain⟨B,wB,rfl,rfl,h13,h14⟩:=h12;replace h:=Gi h;obtain⟨rfl,rfl,rfl⟩:=h;refine⟨26,z,[],[],.no,.no,B,.no,λr hr=>.rep z ⟨hz0,hz1⟩ B wB r hr,?_,?_,?_,?_⟩
  ·simp[S6,j3,X3,Ex.size,Bl.size]<;>omega
  ·simp only[J8,S6,j3,r8,o3,Q0,N0,k5,DM,Q2,K5,Ex.size,Ex.ix,Bs,Bl.ix,<-EZ]
  ·have e:(N8 (.st 26 z [] [] .no .no B .no .no)).length=(x5 (N8 B)).length+2:=by simp[N8]
   rw[e];omega
  ·simp only[Y9,V8];simp;omega
 ·cases h;exact absurd ⟨rfl,rfl,rfl⟩ hno
end
end Go.Proofs.YtjkhokkdgfbhcaaGreatDoor
namespace Go.Proofs.YtjkhokkdgfbhcaaGreatDoor
section
variable{L:List G8}
theorem Yw{k:Nat}(hS:aF L k):∀(f last i:Nat) (first:Int) (ns:List F2) (m:F2) (x:Int) (j:Nat) (ms:List F2),first≠-1->ns[last]?=some m->m.next= -1->blockL (SS L k) f first last i ns=some (x,j,ms)->
  ∃r,WB r/\x=first/\ms=DQ ns last (r.ix ns.length)++N0 r ns.length/\i+(N8 r).length<=j/\16-k+Y9 r<=16
 |0,last,i,first,ns,m,x,j,ms,_,_,_,h=>by cases h
 |f+1,last,i,first,ns,m,x,j,ms,h1,h2,h3,h=>by
  rw[blockL] at h;replace h:=V9 h;obtain⟨n,i1,ns1,hs,h⟩:=h;rcases hS _ _ _ _ _ hs with⟨rfl,rfl,rfl⟩|⟨kd,i0,s,t,a,b,B,C,hw,rfl,rfl,h5,h6⟩
  ·rw[if_pos rfl] at h;cases h;refine⟨.no,.no,rfl,?_,by simp[N8],by simp[Y9]⟩;rw[show(Bl.no).ix _= -1 from rfl,Yj h2 h3];simp[N0]
  ·rw[if_neg (by omega),if_neg h1] at h;have hll:last<ns.length:=(N5.1 h2).1;have hlen:(DQ (ns++(r8 a b B C ns.length++[o3 kd i0 s t a b B C ns.length (-1)])) last ((ns.length+X3 a b B C:Nat):Int)).length=ns.length+X3 a b B C+1:=by
    rw[Ev];simp[Dd];omega
   obtain⟨r,wr,rfl,rfl,h7,h8⟩:=Yw hS f _ _ first _ (o3 kd i0 s t a b B C ns.length (-1)) x j ms h1 (by
    rw[Tq hll,j4 (by rw[Ev];omega),Ev,j4 (by rw[Dd];omega),Dd];simp) rfl h
   refine⟨_,hw r wr,rfl,?_,?_,?_⟩
   ·rw[hlen,Tq hll,<-Q2,SU (by rw[J8,Ev,Dd]),Tn,UE];simp only[Q2,GP,DM];rfl
   ·rw[Th,J8];omega
   ·simp only[Y9] at h6 h8⊢;omega
theorem gE(hW:EI L):∀k,k<=17->VS L k
 |0,_=>λi ns x j ms h=>by cases h
 |k+1,hk=>by
  have hS:=wQ hW (by omega) (gE hW k (by omega));intro i ns x j ms h;rw[CX] at h;unfold Iq at h;replace h:=V9 h;obtain⟨u,i1,ns1,hd,h⟩:=h;replace hd:=SY hd;obtain⟨hd,rfl,rfl⟩:=hd;rw[blockL] at h;replace h:=V9 h;obtain⟨n,i2,ns2,hs,h⟩:=h;rw[show 17-(k+1)=16-k by omega];rcases hS _ _ _ _ _ hs with⟨rfl,rfl,rfl⟩|⟨kd,i0,s,t,a,b,B,C,hw,rfl,rfl,h5,h6⟩
  ·rw[if_pos rfl] at h;cases h;exact⟨.no,.no,rfl,by simp[N0],by simp[N8],by simp[Y9]⟩
  ·rw[if_neg (by omega),if_pos rfl] at h;have hlen:(ns1++(r8 a b B C ns1.length++[o3 kd i0 s t a b B C ns1.length (-1)])).length=ns1.length+X3 a b B C+1:=by
    simp[Dd];omega
   obtain⟨r,wr,rfl,rfl,h7,h8⟩:=Yw hS 599 (ns1.length+X3 a b B C) _ _ _ (o3 kd i0 s t a b B C ns1.length (-1)) x j ms (by omega) (by
    rw[j4 (by omega),j4 (by rw[Dd];omega),Dd];simp) rfl h
   refine⟨_,hw r wr,?_,?_,?_,?_⟩
   ·rw[Tn]
   ·rw[hlen,<-Q2,SU (by rw[J8,Dd]),UE];simp only[Q2,GP,DM];rfl
   ·rw[Th,J8];omega
   ·simp only[Y9] at h6 h8⊢;omega
end
structure ah6(first:Int)(ns:List F2)(B:Bl):Prop where
 wf:WB B
 root:first=B.ix 0
 nodes:ns=N0 B 0
 deep:1+Y9 B<=16
 aB7:(N8 B).length<=1024
theorem ay4{n:Nat}{L:List G8}(h:MP n L):EI L:=λi hi hk=>h.wf hk hi
theorem xL{s:C9}{first:Int}{ns:List F2}(h:Vd s first ns):∃B,ah6 first ns B/\B.size<=512:=by
 obtain⟨L,hL,⟨i,hb,hi,hn⟩,hp⟩:=h;have hA:=WH hL;obtain⟨B,wB,rfl,h2,h3,h4⟩:=gE (ay4 hA) 16 (by omega) _ _ _ _ _ hb;have h2':ns=N0 B 0:=by simpa using h2
 refine⟨B,⟨wB,rfl,h2',h4,?_⟩,?_⟩
 ·obtain⟨A,rfl,ha,hl⟩:=hA;simp at hi;omega
 ·rw[h2',j3] at hn;exact hn
theorem as1{B:Bl}(wB:WB B)(hd:1+Y9 B<=16)(hs:B.size<=512)(ht:(N8 B).length<=1024)(h:(S3 (CV B)).length<=4096):EO (S3 (CV B))=some (B.ix 0,N0 B 0):=by
 obtain⟨L,h1,h2,h3⟩:=Zh (CV B) (yX wB []) h (by rw[Px];exact ht);rw[Px] at h2 h3;have hA:=WH h1;have hok:=hA.ok;have hl2:=hok.DW;have hH:AR L 0 (N8 B):=λj k hj=>by
  have:=(N5.1 hj).1;rw[Y3];exact⟨h3 j k hj,by omega⟩
 have hend:(tk L (0+(N8 B).length)).kind=0:=by
  have:=(hok.last (N8 B).length (by omega)).2 (by omega);rw[Y3];exact this
 unfold EO;rw[h1];dsimp only;unfold MO;rw[(aj8 hl2 wB).1 16 1 0 [] rfl hd hH (by rw[hend];decide) (by simpa using hs)];dsimp only;rw[if_pos hend];rfl
end Go.Proofs.YtjkhokkdgfbhcaaGreatDoor
namespace Go.Proofs
open Go.Shelf
def Tryz.lays173_ren:Go.Shelf.Ren:=⟨λ|173=>58|246=>111|283=>140|284=>141|285=>142|286=>143|129=>181|317=>192|318=>193|319=>194|320=>195|337=>227|338=>228|n=>n,λ|2=>2|3=>3|9=>9|4=>4|171=>214|0=>0|53=>175|37=>62|5=>5|173=>217|212=>249|51=>244|20=>20|213=>250|46=>206|232=>286|233=>287|n=>n,λ|17=>2|18=>3|19=>4|n=>n⟩
theorem Tryz.lays173:Go.Proofs.LaysM.n173 Tryz.prog Tryz.lays173_ren:={
 mixed:=by kernel_rfl,
 f129:=Tryz.func181.trans (congrArg some (by kernel_rfl)),
 f173:=Tryz.func58.trans (congrArg some (by kernel_rfl)),
 f246:=Tryz.func111.trans (congrArg some (by kernel_rfl)),
 f283:=Tryz.func140.trans (congrArg some (by kernel_rfl)),
 f284:=Tryz.func141.trans (congrArg some (by kernel_rfl)),
 f285:=Tryz.func142.trans (congrArg some (by kernel_rfl)),
 f286:=Tryz.func143.trans (congrArg some (by kernel_rfl)),
 f317:=Tryz.func192.trans (congrArg some (by kernel_rfl)),
 f318:=Tryz.func193.trans (congrArg some (by kernel_rfl)),
 f319:=Tryz.func194.trans (congrArg some (by kernel_rfl)),
 f320:=Tryz.func195.trans (congrArg some (by kernel_rfl)),
 f337:=Tryz.func227.trans (congrArg some (by kernel_rfl)),
 f338:=Tryz.func228.trans (congrArg some (by kernel_rfl)),
 t0:=Tryz.underlying0,
 a0:=Tryz.isAgg0,
 z0:=Tryz.sizeOf0,
 v0:=Tryz.zeroValue0,
 t2:=Tryz.underlying2,
 a2:=Tryz.isAgg2,
 z2:=Tryz.sizeOf2,
 v2:=Tryz.zeroValue2,
 t3:=Tryz.underlying3,
 a3:=Tryz.isAgg3,
 z3:=Tryz.sizeOf3,
 v3:=Tryz.zeroValue3,
 t4:=Tryz.underlying4,
 a4:=Tryz.isAgg4,
 z4:=Tryz.sizeOf4,
 v4:=Tryz.zeroValue4,
 t5:=Tryz.underlying5,
 a5:=Tryz.isAgg5,
 z5:=Tryz.sizeOf5,
 v5:=Tryz.zeroValue5,
 t9:=Tryz.underlying9,
 a9:=Tryz.isAgg9,
 z9:=Tryz.sizeOf9,
 v9:=Tryz.zeroValue9,
 t20:=Tryz.underlying20,
 a20:=Tryz.isAgg20,
 z20:=Tryz.sizeOf20,
 v20:=Tryz.zeroValue20,
 t37:=Tryz.underlying62,
 a37:=Tryz.isAgg62,
 z37:=Tryz.sizeOf62,
 v37:=Tryz.zeroValue62,
 t46:=Tryz.underlying206,
 a46:=Tryz.isAgg206,
 z46:=Tryz.sizeOf206,
 v46:=Tryz.zeroValue206,
 t51:=Tryz.underlying244,
 a51:=Tryz.isAgg244,
 z51:=Tryz.sizeOf244,
 v51:=Tryz.zeroValue244,
 t53:=Tryz.underlying175,
 a53:=Tryz.isAgg175,
 z53:=Tryz.sizeOf175,
 v53:=Tryz.zeroValue175,
 t171:=Tryz.underlying214,
 a171:=Tryz.isAgg214,
 z171:=Tryz.sizeOf214,
 v171:=Tryz.zeroValue214,
 t173:=Tryz.underlying217,
 a173:=Tryz.isAgg217,
 z173:=Tryz.sizeOf217,
 v173:=Tryz.zeroValue217,
 t212:=Tryz.underlying249,
 a212:=Tryz.isAgg249,
 z212:=Tryz.sizeOf249,
 v212:=Tryz.zeroValue249,
 t213:=Tryz.underlying250,
 a213:=Tryz.isAgg250,
 z213:=Tryz.sizeOf250,
 t232:=Tryz.underlying286,
 a232:=Tryz.isAgg286,
 z232:=Tryz.sizeOf286,
 v232:=Tryz.zeroValue286,
 t233:=Tryz.underlying287,
 a233:=Tryz.isAgg287,
 z233:=Tryz.sizeOf287,
 v233:=Tryz.zeroValue287,
 g17:=by kernel_rfl,
 g18:=by kernel_rfl,
 g19:=by kernel_rfl,
 i0:=by kernel_rfl,
 i2:=by kernel_rfl,
 i3:=by kernel_rfl,
 i4:=by kernel_rfl,
 i5:=by kernel_rfl,
 i9:=by kernel_rfl,
 i20:=by kernel_rfl,
 i37:=by kernel_rfl,
 i46:=by kernel_rfl,
 i51:=by kernel_rfl,
 i53:=by kernel_rfl,
 i171:=by kernel_rfl,
 i173:=by kernel_rfl,
 i212:=by kernel_rfl,
 i232:=by kernel_rfl,
 i233:=by kernel_rfl,
 m17:=by kernel_rfl,
 m18:=by kernel_rfl,
 m19:=by kernel_rfl}
def Tryz.lays190_ren:Go.Shelf.Ren:=⟨λ|190=>171|125=>132|258=>219|128=>180|129=>181|302=>238|303=>239|304=>240|305=>241|306=>242|307=>243|308=>244|309=>245|310=>246|333=>252|329=>221|330=>222|334=>253|335=>254|336=>255|344=>256|n=>n,λ|31=>29|9=>9|3=>3|46=>206|0=>0|51=>244|53=>175|4=>4|183=>238|182=>237|131=>210|5=>5|218=>265|222=>269|228=>282|229=>283|n=>n,λ|n=>n⟩
theorem Tryz.lays190:Go.Proofs.Lays.n190 Tryz.prog Tryz.lays190_ren:={
 mixed:=by kernel_rfl,
 f125:=Tryz.func132.trans (congrArg some (by kernel_rfl)),
 f128:=Tryz.func180.trans (congrArg some (by kernel_rfl)),
 f129:=Tryz.func181.trans (congrArg some (by kernel_rfl)),
 f190:=Tryz.func171.trans (congrArg some (by kernel_rfl)),
 f258:=Tryz.func219.trans (congrArg some (by kernel_rfl)),
 f302:=Tryz.func238.trans (congrArg some (by kernel_rfl)),
 f303:=Tryz.func239.trans (congrArg some (by kernel_rfl)),
 f304:=Tryz.func240.trans (congrArg some (by kernel_rfl)),
 f305:=Tryz.func241.trans (congrArg some (by kernel_rfl)),
 f306:=Tryz.func242.trans (congrArg some (by kernel_rfl)),
 f307:=Tryz.func243.trans (congrArg some (by kernel_rfl)),
 f308:=Tryz.func244.trans (congrArg some (by kernel_rfl)),
 f309:=Tryz.func245.trans (congrArg some (by kernel_rfl)),
 f310:=Tryz.func246.trans (congrArg some (by kernel_rfl)),
 f329:=Tryz.func221.trans (congrArg some (by kernel_rfl)),
 f330:=Tryz.func222.trans (congrArg some (by kernel_rfl)),
 f333:=Tryz.func252.trans (congrArg some (by kernel_rfl)),
 f334:=Tryz.func253.trans (congrArg some (by kernel_rfl)),
 f335:=Tryz.func254.trans (congrArg some (by kernel_rfl)),
 f336:=Tryz.func255.trans (congrArg some (by kernel_rfl)),
 f344:=Tryz.func256.trans (congrArg some (by kernel_rfl)),
 t0:=Tryz.underlying0,
 a0:=Tryz.isAgg0,
 z0:=Tryz.sizeOf0,
 v0:=Tryz.zeroValue0,
 t3:=Tryz.underlying3,
 a3:=Tryz.isAgg3,
 z3:=Tryz.sizeOf3,
 v3:=Tryz.zeroValue3,
 t4:=Tryz.underlying4,
 a4:=Tryz.isAgg4,
 z4:=Tryz.sizeOf4,
 v4:=Tryz.zeroValue4,
 t5:=Tryz.underlying5,
 a5:=Tryz.isAgg5,
 z5:=Tryz.sizeOf5,
 v5:=Tryz.zeroValue5,
 t9:=Tryz.underlying9,
 a9:=Tryz.isAgg9,
 z9:=Tryz.sizeOf9,
 v9:=Tryz.zeroValue9,
 t31:=Tryz.underlying29,
 a31:=Tryz.isAgg29,
 z31:=Tryz.sizeOf29,
 v31:=Tryz.zeroValue29,
 t46:=Tryz.underlying206,
 a46:=Tryz.isAgg206,
 z46:=Tryz.sizeOf206,
 v46:=Tryz.zeroValue206,
 t51:=Tryz.underlying244,
 a51:=Tryz.isAgg244,
 z51:=Tryz.sizeOf244,
 v51:=Tryz.zeroValue244,
 t53:=Tryz.underlying175,
 a53:=Tryz.isAgg175,
 z53:=Tryz.sizeOf175,
 v53:=Tryz.zeroValue175,
 t131:=Tryz.underlying210,
 a131:=Tryz.isAgg210,
 z131:=Tryz.sizeOf210,
 v131:=Tryz.zeroValue210,
 t182:=Tryz.underlying237,
 a182:=Tryz.isAgg237,
 z182:=Tryz.sizeOf237,
 v182:=Tryz.zeroValue237,
 t183:=Tryz.underlying238,
 a183:=Tryz.isAgg238,
 z183:=Tryz.sizeOf238,
 v183:=Tryz.zeroValue238,
 t218:=Tryz.underlying265,
 a218:=Tryz.isAgg265,
 z218:=Tryz.sizeOf265,
 v218:=Tryz.zeroValue265,
 t222:=Tryz.underlying269,
 a222:=Tryz.isAgg269,
 z222:=Tryz.sizeOf269,
 v222:=Tryz.zeroValue269,
 t228:=Tryz.underlying282,
 a228:=Tryz.isAgg282,
 z228:=Tryz.sizeOf282,
 v228:=Tryz.zeroValue282,
 t229:=Tryz.underlying283,
 a229:=Tryz.isAgg283,
 z229:=Tryz.sizeOf283,
 v229:=Tryz.zeroValue283}
def Tryz.laysSortF_ren:Go.Shelf.Ren:=⟨λ|6=>89|15=>132|14=>131|28=>180|29=>181|20=>172|21=>173|22=>174|23=>175|24=>176|25=>177|26=>178|27=>179|46=>220|47=>221|48=>222|49=>223|50=>224|57=>247|n=>n,λ|22=>46|24=>75|25=>171|3=>3|39=>206|0=>0|53=>244|55=>175|4=>4|46=>238|45=>237|50=>210|5=>5|9=>9|66=>265|70=>269|76=>282|77=>283|n=>n,λ|n=>n⟩
theorem Tryz.laysSortF:Go.Proofs.SlLaysF0.n6 Tryz.prog Tryz.laysSortF_ren:={
 mixed:=by kernel_rfl,
 f6:=⟨ "slices.SortFunc[[]plenum/api.Edit,plenum/api.Edit]",by decide,Tryz.func89.trans (congrArg some (by kernel_rfl))⟩,
 f14:=⟨ "slices.pdqsortCmpFunc[plenum/api.Edit]",by decide,Tryz.func131.trans (congrArg some (by kernel_rfl))⟩,
 f15:=Tryz.func132.trans (congrArg some (by kernel_rfl)),
 f20:=⟨ "slices.insertionSortCmpFunc[plenum/api.Edit]",by decide,Tryz.func172.trans (congrArg some (by kernel_rfl))⟩,
 f21:=⟨ "slices.heapSortCmpFunc[plenum/api.Edit]",by decide,Tryz.func173.trans (congrArg some (by kernel_rfl))⟩,
 f22:=⟨ "slices.breakPatternsCmpFunc[plenum/api.Edit]",by decide,Tryz.func174.trans (congrArg some (by kernel_rfl))⟩,
 f23:=⟨ "slices.choosePivotCmpFunc[plenum/api.Edit]",by decide,Tryz.func175.trans (congrArg some (by kernel_rfl))⟩,
 f24:=⟨ "slices.reverseRangeCmpFunc[plenum/api.Edit]",by decide,Tryz.func176.trans (congrArg some (by kernel_rfl))⟩,
 f25:=⟨ "slices.partialInsertionSortCmpFunc[plenum/api.Edit]",by decide,Tryz.func177.trans (congrArg some (by kernel_rfl))⟩,
 f26:=⟨ "slices.partitionEqualCmpFunc[plenum/api.Edit]",by decide,Tryz.func178.trans (congrArg some (by kernel_rfl))⟩,
 f27:=⟨ "slices.partitionCmpFunc[plenum/api.Edit]",by decide,Tryz.func179.trans (congrArg some (by kernel_rfl))⟩,
 f28:=Tryz.func180.trans (congrArg some (by kernel_rfl)),
 f29:=Tryz.func181.trans (congrArg some (by kernel_rfl)),
 f46:=⟨ "slices.siftDownCmpFunc[plenum/api.Edit]",by decide,Tryz.func220.trans (congrArg some (by kernel_rfl))⟩,
 f47:=Tryz.func221.trans (congrArg some (by kernel_rfl)),
 f48:=Tryz.func222.trans (congrArg some (by kernel_rfl)),
 f49:=⟨ "slices.medianAdjacentCmpFunc[plenum/api.Edit]",by decide,Tryz.func223.trans (congrArg some (by kernel_rfl))⟩,
 f50:=⟨ "slices.medianCmpFunc[plenum/api.Edit]",by decide,Tryz.func224.trans (congrArg some (by kernel_rfl))⟩,
 f57:=⟨ "slices.order2CmpFunc[plenum/api.Edit]",by decide,Tryz.func247.trans (congrArg some (by kernel_rfl))⟩,
 t0:=Tryz.underlying0,
 a0:=Tryz.isAgg0,
 z0:=Tryz.sizeOf0,
 v0:=Tryz.zeroValue0,
 t3:=Tryz.underlying3,
 a3:=Tryz.isAgg3,
 z3:=Tryz.sizeOf3,
 v3:=Tryz.zeroValue3,
 t4:=Tryz.underlying4,
 a4:=Tryz.isAgg4,
 z4:=Tryz.sizeOf4,
 v4:=Tryz.zeroValue4,
 t5:=Tryz.underlying5,
 a5:=Tryz.isAgg5,
 z5:=Tryz.sizeOf5,
 v5:=Tryz.zeroValue5,
 t9:=Tryz.underlying9,
 a9:=Tryz.isAgg9,
 z9:=Tryz.sizeOf9,
 v9:=Tryz.zeroValue9,
 t22:=Tryz.underlying46,
 a22:=Tryz.isAgg46,
 z22:=Tryz.sizeOf46,
 v22:=Tryz.zeroValue46,
 t25:=Tryz.underlying171,
 a25:=Tryz.isAgg171,
 z25:=Tryz.sizeOf171,
 v25:=Tryz.zeroValue171,
 t39:=Tryz.underlying206,
 a39:=Tryz.isAgg206,
 z39:=Tryz.sizeOf206,
 v39:=Tryz.zeroValue206,
 t45:=Tryz.underlying237,
 a45:=Tryz.isAgg237,
 z45:=Tryz.sizeOf237,
 v45:=Tryz.zeroValue237,
 t46:=Tryz.underlying238,
 a46:=Tryz.isAgg238,
 z46:=Tryz.sizeOf238,
 v46:=Tryz.zeroValue238,
 t50:=Tryz.underlying210,
 a50:=Tryz.isAgg210,
 z50:=Tryz.sizeOf210,
 v50:=Tryz.zeroValue210,
 t53:=Tryz.underlying244,
 a53:=Tryz.isAgg244,
 z53:=Tryz.sizeOf244,
 v53:=Tryz.zeroValue244,
 t55:=Tryz.underlying175,
 a55:=Tryz.isAgg175,
 z55:=Tryz.sizeOf175,
 v55:=Tryz.zeroValue175,
 t66:=Tryz.underlying265,
 a66:=Tryz.isAgg265,
 z66:=Tryz.sizeOf265,
 v66:=Tryz.zeroValue265,
 t70:=Tryz.underlying269,
 a70:=Tryz.isAgg269,
 z70:=Tryz.sizeOf269,
 v70:=Tryz.zeroValue269,
 t76:=Tryz.underlying282,
 a76:=Tryz.isAgg282,
 z76:=Tryz.sizeOf282,
 v76:=Tryz.zeroValue282,
 t77:=Tryz.underlying283,
 a77:=Tryz.isAgg283,
 z77:=Tryz.sizeOf283,
 v77:=Tryz.zeroValue283}
end Go.Proofs
namespace Go.Proofs.YtjkhokkdgfbhcaaGreatDoor
open Go.RowKit Go.Shelf Go.Lib Go.Sort
attribute [local irreducible] F8 D3 Exit.then Exit.inBlock Exit.noGoto wpQuiet Calls fin At G9 L3 L7 RQ
def FU(w:World):Prop:=Lib.TabIs Tryz.prog w "internal/strconv.uint64pow10" .u64 Lib.pow10Tab
theorem B7.AB{C:I3}{H:List C2}{w:B6}(ho:B7 C H w)(h:FU C.W)(hL:¬C.L 2):FU w:=by
 have hg:Tryz.prog.globalNamed "internal/strconv.uint64pow10" =some 2:=by kernel_rfl
 unfold FU Lib.TabIs World.var? at h⊢;rw[hg,RZ] at h⊢;have h2:2<C.W.heap.size:=by
  cases e:C.W.heap[2]? with
  |none=>rw[e] at h;cases h
  |some o=>exact(T1.1 e).1
 rw[ho.X4.old 2 h2 hL];exact h
theorem Gq(i:Int)(w:B6)(h0: -9223372036854775808<=i)(h1:i<=9223372036854775807)(hT:FU w):I6 58 #[.int .i64 i,.int .i64 10] w (.string (bs (Lib.itoa i))):=
 (Any.strconv_FormatInt_10 Tryz.lays173 i h0 h1 w hT).mono λe w' ⟨q1,k,os,q2⟩=>⟨q1,by
  subst q2;refine⟨rfl,rfl,rfl,?_,λb hb=>?_⟩
  ·simp[grow,World.drewN]
  ·simp only[grow,World.drewN];rw[Uq (by simpa using hb)]⟩
theorem yA(w:B6)(n g:Nat)(d:Array (List UInt8))(os:Array Obj):M0 w (λk=>k=g) (grow (putRow encStr (Sort.ahead w n) g 0 d) os):=by
 refine⟨rfl,rfl,rfl,?_,λk hk hg=>?_⟩
 ·simp[grow,putRow,mapBlock,Sort.ahead]
 ·simp only[grow,putRow,mapBlock,Sort.ahead];rw[Uq (by simpa using hk),Ke];rw[if_neg (λe=>hg e.symm)]
theorem ac3{w:B6}{n g e:Nat}{d:Array (List UInt8)}{cur:J2}{os:Array Obj}(h:w.heap[g]?=some (.cells cur e)):(grow (putRow encStr (Sort.ahead w n) g 0 d) os).heap[g]?=some (.cells (putCells encStr 0 d cur) e):=by
 have hlt:g<w.heap.size:=(T1.1 h).1;simp only[grow,putRow,mapBlock,Sort.ahead];rw[Uq (by simpa using hlt),Ke];simp only[if_true];rw[h];rfl
theorem sP(d:Array (List UInt8))(cur:J2)(h:d.size<=cur.size):(putCells encStr 0 d cur).toList.take d.size=D1 d.toList:=by
 apply Nk;intro j;rw[MC];split
 ·rename_i hj;simp only[putCells,Ur,Array.getElem?_mapIdx];rw[s4 (show j<cur.size by omega)];simp only[Rh];rw[if_pos ⟨by omega,by omega⟩];simp[D1,getElem!_pos,hj,encStr,bs]
 ·rename_i hj;rw[Fa (by simp[D1];omega)]
theorem pS{w:B6}{b e g cap m:Nat}{L:List (List UInt8)}{cur:J2}(hr:w.ownsRow b e 1 (.slice (some ⟨g,0,none⟩) m cap) m (D1 L))(hm:m=L.length)(hg:w.heap[g]?=some (.cells cur e))(h4:L.length<=cur.size)(h5:cur.toList.take (m*1)=D1 L):Holds encStr w g 0 L.toArray:=by
 intro j hj;have hj:j<L.length:=by simpa using hj
 have hc:cur[j]?=some (.string (bs L[j])):=by
  have:=congrArg (λl=>l[j]?) h5;simp only[MC] at this;rw[if_pos (by omega)] at this;simpa[D1,hj] using this
 rw[Y3];refine⟨?_,hr.frozenAt j⟩;rw[cell_of_row w g j cur e (0,0) hg,hc];simp[getElem!_pos,hj,encStr,bs]
abbrev ST:Nat:=9
abbrev BP(x y:List UInt8):Bool:=decide (x<=y)
theorem aq1(v:Value)(L:List (List UInt8))(w:B6)(hl:L.length<=100000)(ho:B7 (J1 w [.row v ST 1 L.length (D1 L)]) [.row v ST 1 L.length (D1 L)] w):
  Calls Tryz.prog 171 #[v] w λe w'=>e=.returned (.tuple #[])/\O0 w (λk=>k∈F1 [.row v ST 1 L.length (D1 L)]) [.row v ST 1 L.length (D1 (L.mergeSort BP))] w':=by
 have hr:=ho.rowAt (i:=0) rfl;rcases hr.2 with⟨rfl,h0⟩|⟨g,cap,cur,rfl,h1,hg,h2,h3,h4,h5⟩
 ·obtain rfl:L=[]:=Kh h0;refine(Any.slices_Sort_string_none Tryz.lays190 none 0 w).mono λe w' ⟨q1,q2⟩=>⟨q1,?_⟩
  subst q2;rw[List.mergeSort_nil];exact⟨_,_,ho⟩
 ·have hlt:g<w.heap.size:=(T1.1 hg).1;have hH:Holds encStr w g 0 L.toArray:=pS hr rfl hg (by omega) h5;refine(Any.slices_Sort_string Tryz.lays190 g 0 cap L w hH hlt (by omega)).mono λe w' ⟨q1,n,os,q2⟩=>⟨q1,?_⟩
  subst q2;have hsz2:(L.mergeSort BP).length=L.length:=YM _;have hfr:M0 w (λk=>k∈F1 [.row (.slice (some ⟨g,0,none⟩) L.length cap) ST 1 L.length (D1 L)]) (grow (putRow encStr (Sort.ahead w n) g 0 (L.mergeSort BP).toArray) os):=
   (yA w n g _ os).mono λk _ hk=>by simp[F1,C2.blocks,Value.ownBlock,hk]
  refine⟨w,_,hfr,hfr,?_,ho.nodup,λk hk=>⟨.inr hk,.inr hk⟩,λ_ h=>h,No,by simp⟩;intro r hr2;obtain rfl:=Bt.1 hr2;refine⟨by simp[D1,hsz2],.inr ⟨g,cap,_,rfl,R5 _,ac3 hg,h2,h3,by simp[putCells,h4],?_⟩⟩;have:=sP (L.mergeSort BP).toArray cur (by simp only[Ul];omega);simpa[hsz2] using this
end Go.Proofs.YtjkhokkdgfbhcaaGreatDoor
namespace Go.Proofs
open Go.Shelf
def Tryz.lays106_ren:Go.Shelf.Ren:=⟨λ|106=>91|213=>133|265=>182|n=>n,λ|9=>9|3=>3|n=>n,λ|n=>n⟩
theorem Tryz.lays106:Go.Proofs.Lays.n106 Tryz.prog Tryz.lays106_ren:={
 mixed:=by kernel_rfl,
 f106:=Tryz.func91.trans (congrArg some (by kernel_rfl)),
 f213:=Tryz.func133.trans (congrArg some (by kernel_rfl)),
 f265:=Tryz.func182.trans (congrArg some (by kernel_rfl)),
 t3:=Tryz.underlying3,
 a3:=Tryz.isAgg3,
 z3:=Tryz.sizeOf3,
 v3:=Tryz.zeroValue3,
 t9:=Tryz.underlying9,
 a9:=Tryz.isAgg9,
 z9:=Tryz.sizeOf9,
 v9:=Tryz.zeroValue9}
end Go.Proofs
namespace Go.Proofs.YtjkhokkdgfbhcaaGreatDoor
open Go.RowKit Go.Shelf Go.Lib Go.Sort
theorem ag7(a b:ByteArray)(w:B6):Calls Tryz.prog 91 #[.string a,.string b] w λe w'=>e=.returned (.int .i64 (Lib.compareBytes a.data.toList b.data.toList))/\w'=w:=
 Any.strings_Compare Tryz.lays106 a b w
theorem ag1(a b:C9)(w:B6):Calls Tryz.prog 91 #[.string (bs a),.string (bs b)] w λe w'=>e=.returned (.int .i64 (Lib.compareBytes a b))/\w'=w:=
 (Any.strings_Compare Tryz.lays106 (bs a) (bs b) w).mono λe w' ⟨q1,q2⟩=>⟨by rw[q1];rfl,q2⟩
theorem ZN:∀a b:List UInt8,Lib.compareBytes a b=if a<b then-1 else if a=b then 0 else 1
 |[],[]=>by simp[Lib.compareBytes]
 |[],_::_=>by simp[Lib.compareBytes]
 |_::_,[]=>by simp[Lib.compareBytes]
 |x::a,y::b=>by
  have ih:=ZN a b;unfold Lib.compareBytes;rw[ih];simp only[List.cons_lt_cons_iff,Ki];by_cases h1:x<y
  ·simp[h1]
  ·by_cases h2:y<x
   ·have h3:¬x=y:=λe=>by subst e;exact h1 h2
    simp[h1,h2,h3]
   ·have h3:x=y:=UInt8.le_antisymm (UInt8.not_lt.1 h2) (UInt8.not_lt.1 h1);subst h3;simp
theorem pY(a b:C9):decide (Lib.compareBytes a b<0)=decide (a<b):=by
 rw[ZN];by_cases h:a<b
 ·simp[h]
 ·have h':(if a=b then(0:Int) else 1)>=0:=by split<;>decide
  simp only[h,if_false];exact decide_eq_decide.2 ⟨λh1=>absurd h1 (by omega),λh1=>h1.elim⟩
structure Vl where
 kind:Int
 num:Int
 K4:List UInt8
 deriving DecidableEq
instance:Inhabited Vl:=⟨⟨0,0,[]⟩⟩
def D8(v:Vl):List Value:=[.int .i64 v.kind,.int .i64 v.num,.string (bs v.K4)]
def O6(v:Vl):Value:=.agg (D8 v).toArray
abbrev Ed:=List UInt8×Vl
def g9(x:Ed):List Value:=.string (bs x.1)::D8 x.2
def d3(L:List Ed):List Value:=L.flatMap g9
abbrev ET:Nat:=75
abbrev EN(x y:Ed):Bool:=decide (x.1<=y.1)
theorem oM(k l s t:ByteArray)(a b c d:Int)(w:B6):Calls Tryz.prog 90 #[.agg #[.string k,.int .i64 a,.int .i64 b,.string s],.agg #[.string l,.int .i64 c,.int .i64 d,.string t]] w λe w'=>e=.returned (.int .i64 (Lib.compareBytes k.data.toList l.data.toList))/\∃q os,w'=grow (w.drewN q) os:=by
 go_enter Tryz.func90,Tryz.ntmps90
 go_wp2_with (refine(ag7 _ _ _).mono ?_;rintro e w' ⟨rfl,rfl⟩)
 go_ret
 refine⟨rfl,0,#[.cells #[.string k,.int .i64 a,.int .i64 b,.string s] 75,.cells #[.string l,.int .i64 c,.int .i64 d,.string t] 75],?_⟩;rw[alloc_eq_grow,alloc_eq_grow,grow_grow];rfl
theorem am4(x y:Ed)(w:B6):Calls Tryz.prog 90 #[.agg (g9 x).toArray,.agg (g9 y).toArray] w λe w'=>e=.returned (.int .i64 (Lib.compareBytes x.1 y.1))/\∃q os,w'=grow (w.drewN q) os:=
 oM (bs x.1) (bs y.1) (bs x.2.K4) (bs y.2.K4) x.2.kind x.2.num y.2.kind y.2.num w
theorem SK{α:Type}{enc:α->List Value}{k:Nat}(hk:∀x,(enc x).length=k):∀(L:List α) (t:Nat),(L.flatMap enc)[t]?=if h:t<L.length*k then(enc (L[t/k]'(Nat.div_lt_of_lt_mul (by rw[Rp];exact h))))[t%k]? else none
 |[],t=>by simp
 |x::L,t=>by
  rw[DL,List.getElem?_append,hk];have hs:(x::L).length*k=L.length*k+k:=by rw[T3,Np]
  split
  ·rename_i h;rw[dif_pos (by omega)];simp[Nat.div_eq_of_lt h,YH h]
  ·rename_i h;rw[SK hk L (t-k)];by_cases h2:t-k<L.length*k
   ·have hk0:0<k:=by rcases Nat.eq_zero_or_pos k with rfl|h<;>first|exact h|simp at h2
    rw[dif_pos h2,dif_pos (by omega)];have e1:t/k=(t-k)/k+1:=Nat.div_eq_sub_div hk0 (by omega);have e2:t%k=(t-k)%k:=Nat.mod_eq_sub_mod (by omega);simp[e1,e2]
   ·rw[dif_neg h2,dif_neg (by omega)]
theorem Qu{α:Type}{enc:α->List Value}{k:Nat}(hk:∀x,(enc x).length=k)(L:List α):(L.flatMap enc).length=L.length*k:=by
 induction L with
 |nil=>simp
 |cons x L ih=>rw[DL,J8,ih,hk,T3,Np];omega
theorem jI{α:Type}[Inhabited α]{enc:α->List Value}{k:Nat}(hk:∀x,(enc x).length=k)(d:Array α):(flatK enc k d).toList=d.toList.flatMap enc:=by
 apply Nk;intro t;rw[SK hk];by_cases h:t<d.size*k
 ·rw[dif_pos (by simpa using h)];have hk0:0<k:=by rcases Nat.eq_zero_or_pos k with rfl|h0<;>first|exact h0|simp at h
  have h1:=get_flatK enc k d t h;have h3:t/k<d.size:=Nat.div_lt_of_lt_mul (by rwa[Rp] at h);have h4:t%k<(enc (d[t/k])).length:=by rw[hk];exact Rg _ hk0
  rw[getElem!_pos (flatK enc k d) t (by simpa using h),getElem!_pos d _ h3,getElem!_pos (enc d[t/k]) (t%k) h4] at h1;rw[Ur,s4 (by simpa using h),h1];simp
 ·rw[dif_neg (by simpa using h),Fa (by simpa using h)]
theorem PF(x:Ed):(g9 x).length=4:=rfl
def Cp(L:List Ed):List Ed:=L.mergeSort EN
theorem jS:∀a b c:Ed,EN a b=true->EN b c=true->EN a c=true:=λa b c h1 h2=>by simp only[EN,decide_eq_true_eq] at*;exact List.le_trans h1 h2
theorem jL:∀a b:Ed,(EN a b||EN b a)=true:=λa b=>by simp only[EN,Kf,decide_eq_true_eq];exact List.le_total a.1 b.1
theorem eQ{β:Type}:∀{L:List (List UInt8×β)},(L.map (·.1)).Nodup->∀{a b},a∈L->b∈L->a.1=b.1->a=b
 |[],_,_,_,h,_,_=>by cases h
 |x::L,hn,a,b,ha,hb,e=>by
  have hn:x.1∉L.map (·.1)/\(L.map (·.1)).Nodup:=by simpa using hn
  rcases BD.1 ha with h1|h1
  ·rcases BD.1 hb with h2|h2
   ·exact h1.trans h2.symm
   ·exact absurd (FC (f:=(·.1)).2 ⟨b,h2,by rw[<-e,h1]⟩) hn.1
  ·rcases BD.1 hb with h2|h2
   ·exact absurd (FC (f:=(·.1)).2 ⟨a,h1,by rw[e,h2]⟩) hn.1
   ·exact eQ hn.2 h1 h2 e
theorem kP{L M:List Ed}(hp:M.Perm L)(hs:M.Pairwise λa b=>EN a b=true)(hn:(L.map (·.1)).Nodup):M=Cp L:=by
 have hp2:M.Perm (Cp L):=hp.trans (Rq L EN).symm;refine hp2.eq_of_pairwise (le:=λa b=>EN a b=true) (λa b ha hb h1 h2=>?_) hs (YN jS jL L);have ek:a.1=b.1:=List.le_antisymm (by simpa[EN] using h1) (by simpa[EN] using h2);have ha':a∈L:=hp.mem_iff.1 ha;have hb':b∈L:=(Rq L EN).mem_iff.1 hb;exact eQ hn ha' hb' ek
theorem af6(w:B6)(n g:Nat)(d:Array Ed)(os:Array Obj):M0 w (λk=>k=g) (sortWorldK g9 4 w g 0 n d os):=by
 unfold sortWorldK putRowK;refine⟨rfl,rfl,rfl,?_,λk hk hg=>?_⟩
 ·simp[grow,putRow,mapBlock,Sort.ahead]
 ·simp only[grow,putRow,mapBlock,Sort.ahead];rw[Uq (by simpa using hk),Ke];rw[if_neg (λe=>hg e.symm)]
theorem wG{w:B6}{n g e:Nat}{d:Array Ed}{cur:J2}{os:Array Obj}(h:w.heap[g]?=some (.cells cur e)):(sortWorldK g9 4 w g 0 n d os).heap[g]?=some (.cells (putCells id 0 (flatK g9 4 d) cur) e):=by
 have hlt:g<w.heap.size:=(T1.1 h).1;unfold sortWorldK putRowK;simp only[grow,putRow,mapBlock,Sort.ahead];rw[Uq (by simpa using hlt),Ke];simp only[if_true];rw[h];rfl
theorem zO(F:J2)(cur:J2)(h:F.size<=cur.size):(putCells id 0 F cur).toList.take F.size=F.toList:=by
 apply Nk;intro j;rw[MC];split
 ·rename_i hj;simp only[putCells,Ur,Array.getElem?_mapIdx];rw[s4 (show j<cur.size by omega),s4 hj];simp only[Rh];rw[if_pos ⟨by omega,by omega⟩];simp[getElem!_pos,hj]
 ·rename_i hj;rw[Fa (by simp;omega)]
abbrev Xi(a b:Ed):Int:=Lib.compareBytes a.1 b.1
theorem Tu(a b:Ed):ltOf Xi a b=decide (a.1<b.1):=pY a.1 b.1
theorem ah1:SWO (ltOf Xi):=by
 constructor
 ·intro x;rw[Tu];simp
 ·intro x y z;simp only[Tu,decide_eq_true_eq];exact List.lt_trans
 ·intro x y z;simp only[Tu,decide_eq_false_iff_not,List.not_lt];exact λh1 h2=>List.le_trans h2 h1
theorem az5(v:Value)(L:List Ed)(w:B6)(hl:L.length<=100000)(hn:(L.map (·.1)).Nodup)(ho:B7 (J1 w [.row v ET 4 L.length (d3 L)]) [.row v ET 4 L.length (d3 L)] w):
  Calls Tryz.prog 89 #[v,.func (.func 90) #[] #[]] w λe w'=>e=.returned (.tuple #[])/\O0 w (λk=>k∈F1 [.row v ET 4 L.length (d3 L)]) [.row v ET 4 L.length (d3 (Cp L))] w':=by
 have hr:=ho.rowAt (i:=0) rfl;rcases hr.2 with⟨rfl,h0⟩|⟨g,cap,cur,rfl,h1,hg,h2,h3,h4,h5⟩
 ·obtain rfl:L=[]:=Kh h0;refine(AnyF.slices_SortFunc_none Tryz.laysSortF none 0 _ w).mono λe w' ⟨q1,q2⟩=>⟨q1,?_⟩
  subst q2;simp only[Cp,List.mergeSort_nil];exact⟨_,_,ho⟩
 ·have hlt:g<w.heap.size:=(T1.1 hg).1;have hH:HoldsK g9 4 w g 0 L.toArray:=by
   intro j hj;have hj:j<L.length*4:=by simpa using hj
   rw[Y3];refine⟨?_,hr.frozenAt j⟩;rw[cell_of_row w g j cur ET (0,0) hg];have hf:(flatK g9 4 L.toArray).toList=d3 L:=jI PF _;have hc:=congrArg (λl=>l[j]?) h5;simp only[MC] at hc;rw[if_pos (by omega),<-hf,Ur,Ur,s4 (xs:=flatK g9 4 L.toArray) (by simpa using hj)] at hc;rw[hc,getElem!_pos _ j (by simpa using hj)];rfl
  have hK:=AnyQ.slices_SortFunc Tryz.laysSortF 4 Tryz.isAgg75 Tryz.sizeOf75 g9 PF (by intro x v hv;simp[g9,D8] at hv;rcases hv with rfl|rfl|rfl|rfl<;>rfl) Xi ah1 90 #[] g 0 cap L.toArray w (enters_of Tryz.func90 (by kernel_rfl) rfl) (λm os dk hs x y=>(am4 x y _).mono λe w' h=>h) hH hlt (by simp;omega);refine hK.mono λe w' ⟨q1,d',n,os,hp,hs,q2⟩=>⟨q1,?_⟩
  have hd:d'.toList=Cp L:=by
   have hsz:d'.size=L.length:=by simpa using hp.1
   refine kP ?_ ?_ hn
   ·have:=hp.2.2;simpa[Array.extract_eq_self_of_le,hsz] using this
   ·rw[List.pairwise_iff_getElem];intro i j hi hj hij;have hi:i<d'.size:=by simpa using hi
    have hj:j<d'.size:=by simpa using hj
    have:=hs i j (R5 _) hij (by simp;omega);rw[Tu,getElem!_pos d' j hj,getElem!_pos d' i hi] at this;simpa[EN] using this
  have hz:d'.size=L.length:=by simpa using hp.1
  subst q2;have hsl:(Cp L).length=L.length:=YM _;have hfr:M0 w (λk=>k∈F1 [.row (.slice (some ⟨g,0,none⟩) L.length cap) ET 4 L.length (d3 L)]) (sortWorldK g9 4 w g 0 n d' os):=
   (af6 w n g _ os).mono λk _ hk=>by simp[F1,C2.blocks,Value.ownBlock,hk]
  refine⟨w,_,hfr,hfr,?_,ho.nodup,λk hk=>⟨.inr hk,.inr hk⟩,λ_ h=>h,No,by simp⟩;intro r hr2;obtain rfl:=Bt.1 hr2;have hel:(d3 (Cp L)).length=L.length*4:=(Qu PF _).trans (by rw[hsl]);refine⟨hel,.inr ⟨g,cap,_,rfl,R5 _,wG hg,h2,h3,by simp[putCells,h4],?_⟩⟩;have hF:(flatK g9 4 d').toList=d3 (Cp L):=(jI PF d').trans (by rw[hd];rfl);have hFs:(flatK g9 4 d').size=L.length*4:=by simp[hz]
  have:=zO (flatK g9 4 d') cur (by rw[hFs];omega);rw[hFs,hF] at this;exact this
end Go.Proofs.YtjkhokkdgfbhcaaGreatDoor
namespace Go.Proofs.YtjkhokkdgfbhcaaGreatDoor
open Go.RowKit Tryz
section
variable{P:Program}{r:Option Nat}{n:Nat}{E:List (Nat×Value)}{C:I3}{H:List C2}{Q:Exit->Act->World->Prop}{ops:Array Oper}{rest:List Oper}
def R9{ι:Type}(n:Nat)(φ:ι->Prop)(E':ι->List (Nat×Value))(C:I3)(H':ι->List C2)(a:Act)(w:World):Prop:=∃i,φ i/\U2 n (E' i) a/\DF C a/\B7 C (H' i) w
theorem Yt{ι:Type}{φ:ι->Prop}{E':ι->List (Nat×Value)}{H':ι->List C2}(k:∀i,φ i->At n (E' i) C (H' i) (Q .normal))(e:Exit)(a:Act)(w:B6)(h:Exit.then (R9 n φ E' C H') Q e a w):Q e a w:=by
 cases e with
 |normal=>
  obtain⟨i,h1,h2,h3,h4⟩:=h;exact k i h1 a w h2 h3 h4
 |_=>exact h
theorem XA{c1 c2:Code}{ι:Type}(φ:ι->Prop)(E':ι->List (Nat×Value))(H':ι->List C2)
  (h:At n E C H (F8 r P c1 (Exit.then (F8 r P c2 (Exit.then (R9 n φ E' C H') Q)) (Exit.then (R9 n φ E' C H') Q))))(k:∀i,φ i->At n (E' i) C (H' i) (Q .normal)):
  At n E C H (F8 r P c1 (Exit.then (F8 r P c2 Q) Q)):=λa w hf hd ho=>wpIn_mono (h a w hf hd ho) λe a w hq=>by
 cases e with
 |normal=>exact wpIn_mono (show c2.wpIn (fe r) 0 P _ a w from hq) (Yt k)
 |_=>exact hq
theorem Wv{c:Code}{ι:Type}(φ:ι->Prop)(E':ι->List (Nat×Value))(H':ι->List C2)
  (h:At n E C H (F8 r P c (Exit.then (R9 n φ E' C H') Q)))(k:∀i,φ i->At n (E' i) C (H' i) (Q .normal)):
  At n E C H (F8 r P c Q):=λa w hf hd ho=>wpIn_mono (h a w hf hd ho) (Yt k)
theorem FK{ι:Type}{φ:ι->Prop}{E':ι->List (Nat×Value)}{H':ι->List C2}(i:ι)(hi:φ i)(he:Eu (E' i) E)(hH:H' i=H):At n E C H (R9 n φ E' C H'):=λa w hf hd ho=>⟨i,hi,hf.Jv he,hd,hH▸ho⟩
end
section
variable{P:Program}{n:Nat}{E:List (Nat×Value)}{C:I3}{Hs:(Nat->Bool)->(Nat->Value)->List C2}{ops:Array Oper}
theorem lP{S:List L0}{j:Nat}{o:Oper}{f:FuncId}{args:J2}{v:Value}(R H0 H0':List C2)(hd:o.dst.isSome=true)(hS:M9 S j=.val v)(hH:∀lst vs,lst j=false->Hs lst vs=R++H0)(hH':∀lst vs u,Hs (Q3 lst j) (U9 vs j u)=R++H0')
  (he:∀vs,f0 P n (U1 ops S vs (M4 o) E) C (H0++R) o f args)(hc:∀w,B7 C (H0++R) w->B7 (J1 w H0) H0 w->Calls P f args w λe w'=>e=.returned v/\O0 w (λk=>k∈F1 H0) H0' w'):
  Bx P n E C Hs ops S j o/\(o.dst=none->M9 S j=j2):=
 CZ hd λlst vs hl _ a w hf ho _=>by
  rw[hH lst vs hl] at ho;have ho2:B7 C (H0++R) w:=ho.perm EC;refine .inr ⟨f,args,he vs a w hf ho2,(hc w ho2 (B7.Gl (ho2.sublist (HB _ _)))).mono λe w' ⟨h1,h2⟩=>⟨v,h1,?_,by rw[hS];rfl⟩⟩;rw[hH' lst vs v];exact(ho2.Lc h2).perm EC
end
section
variable{P:Program}{n:Nat}{E:List (Nat×Value)}{C:I3}{Hs:(Nat->Bool)->(Nat->Value)->List C2}{ops:Array Oper}
theorem kU{S:List L0}{j:Nat}{o:Oper}(hd:o.dst.isSome=true)(h:∀lst vs,lst j=false->(∀e∈M4 o,lst e=true)->∀w,X5 S vs (M4 o) w->∃(u:Nat->Value) (q:Nat->C2),(∀a w,U2 n (U1 ops S vs (M4 o) E) a->B7 C (Hs lst vs) w->∃g w',(execOp a.eval o).run P w=.ok (.value (u g)) w'/\B7 C (q g::Hs lst vs) w')/\
   ∀g,(Hs (Q3 lst j) (U9 vs j (u g))).Perm (q g::Hs lst vs)/\∀w',(M9 S j).ok (u g) w'):
  Bx P n E C Hs ops S j o/\(o.dst=none->M9 S j=j2):=
 CZ hd λlst vs hl he a w hf ho hx=>by
  obtain⟨u,q,h1,h2⟩:=h lst vs hl he w hx;obtain⟨g,w',h3,h4⟩:=h1 a w hf ho;exact .inl ⟨u g,w',h3,h4.perm (h2 g).1,(h2 g).2 w'⟩
variable{H:List C2}{t ty:TypeId}{pos:String}{after:Array Edge}{x y:Operand}{g:Option (Nat×Bool)}
theorem aB{dst:Option Tmp}{e sz by' m:Nat}{kl kc:IntKind}(zv:H2)(hT:HG P t e sz by'=true)(hz:∀i z,P.info? e=some i->i.zero=some z->(madeCells z.cells (m*sz)).toList=zv)(hx:ev E x=some (.int kl (m:Int)))(hy:ev E y=some (.int kc (m:Int)))(hb:by'*m<=281474976710656/\m<=maxLen):
  ∀a w,U2 n E a->B7 C H w->∃g w',(execOp a.eval ⟨dst,.makeSlice t x y,ty,pos,after,none⟩).run P w=.ok (.value (.slice (some ⟨g,0,none⟩) m m)) w'/\B7 C (.row (.slice (some ⟨g,0,none⟩) m m) e sz m zv::H) w':=by
 intro a w hf ho;obtain⟨hu,i',z,q1,q2,q3,q4,q5,q6⟩:=QI hT;obtain⟨w',hr,h2,h3⟩:=run_make_full (P:=P) w 0 t e i' z sz hu q1 q5 q2 kl kc m (by rw[q3];exact hb.1) hb.2 (R5 _);rw[hz i' z q1 q5] at h2;refine⟨w.heap.size,w',?_,ho.Ml ⟨h3.os,h3.tape,h3.output,h3.size,λk hk=>h3.block k hk (by simp)⟩ h2 (by simp[C2.blocks,Value.ownBlock])⟩;simp only[execOp,hf.eval hx,hf.eval hy,Sem.run_bind,hr,Result.andThen];rfl
end
theorem X7{α:Type}[Inhabited α]{enc:α->List Value}{k:Nat}(hk:∀x,(enc x).length=k){w:B6}{C:I3}{H:List C2}{q gt c e:Nat}{L:List α}(ho:B7 C H w)(hq:H[q]?=some (.row (.slice (some ⟨gt,0,none⟩) L.length c) e k L.length (L.flatMap enc))){i:Nat}{x:α}(hi:L[i]?=some x):
  ∀j u,(enc x)[j]?=some u->w.cell? ((⟨gt,0+i*k,none⟩:Addr).add j)=some u:=by
 intro j u hu;have hil:i<L.length:=(N5.1 hi).1;have hj:j<k:=by have:=(N5.1 hu).1;rwa[hk] at this
 have h1:=(ho.rowAt hq).cells (g:=gt) rfl (i*k+j) u ?_
 ·have e1:(⟨gt,0,none⟩:Addr).add (i*k+j)=⟨gt,i*k+j,none⟩:=by unfold Addr.add;split<;>simp_all
  have e2:(⟨gt,0+i*k,none⟩:Addr).add j=⟨gt,i*k+j,none⟩:=by unfold Addr.add;split<;>simp_all
  rw[e2,<-e1];exact h1
 ·have hm:i*k+j<L.length*k:=by
   have h2:(i+1)*k<=L.length*k:=Us k hil;have h3:(i+1)*k=i*k+k:=Np i k;omega
  rw[SK hk,dif_pos hm];have e1:(i*k+j)/k=i:=by rw[Rp,Nat.mul_add_div (by omega),Nat.div_eq_of_lt hj];rfl
  have e2:(i*k+j)%k=j:=by rw[Rp,Nat.mul_add_mod,YH hj]
  simp only[e1,e2];rw[(N5.1 hi).2];exact hu
theorem QV{α:Type}{enc:α->List Value}{k:Nat}(hk:∀x,(enc x).length=k){L:List α}{i j:Nat}{x:α}(hi:L[i]?=some x)(hj:j<k):(L.flatMap enc)[0+i*k+j]?=(enc x)[j]?:=by
 have hil:i<L.length:=(N5.1 hi).1;have hm:0+i*k+j<L.length*k:=by
  have h2:(i+1)*k<=L.length*k:=Us k hil;have h3:(i+1)*k=i*k+k:=Np i k;omega
 rw[SK hk,dif_pos hm];have e1:(0+i*k+j)/k=i:=by rw[Y3,Rp,Nat.mul_add_div (by omega),Nat.div_eq_of_lt hj];rfl
 have e2:(0+i*k+j)%k=j:=by rw[Y3,Rp,Nat.mul_add_mod,YH hj]
 simp only[e1,e2];rw[(N5.1 hi).2]
theorem Mt{L k i j:Nat}(hi:i<L)(hj:j<k):0+i*k+j<L*k:=by
 have h2:(i+1)*k<=L*k:=Us k hi;have h3:(i+1)*k=i*k+k:=Np i k;omega
section
attribute [local irreducible] F8 D3 Exit.then Exit.inBlock Exit.noGoto wpQuiet Calls fin At G9 L3 L7 RQ
theorem uY{s:C9}(h:Gv s):∃t u,Aq0 s=some [t,u]/\S9 t=(1,s,0):=by
 have hg:p9 [AP s] []:=Ny h ad8 trivial;have ht:S3 [AP s]=s:=by simp[S3,AP,Pc.text]
 have hk:AV [AP s]=[(1,s,0)]:=rfl;obtain⟨L,h1,h2,h3⟩:=Zh [AP s] hg (by rw[ht];have:=h.2.2.2.1;omega) (by rw[hk];simp);rw[ht] at h1;rw[hk] at h2 h3
 match L,h2 with
 |[t,u],_=>exact⟨t,u,h1,h3 0 _ rfl⟩
theorem PR(s:C9)(hs:Gv s)(w:B6):I6 108 #[.string (bs s)] w (.bool true):=by
 refine J5 func108 O ntmps108 O ?_;obtain⟨t,u,hX,hk⟩:=uY hs;obtain⟨t1,t2⟩:t.kind=1/\t.s=s:=⟨congrArg (·.1) hk,congrArg (·.2.1) hk⟩
 refine A3<|A5 O<|B4 O<|Ib (f:=12) (ι:=Int) (e:=TK) (sz:=4) (m:=2) (xs:=y5 [t,u]) (λi v=>.tuple #[v,.int .i64 0,.int .i64 i]) (A7 O) (λw ho=>(Xj s w).mono ?_) O O (λp10 v10=>?_);rotate_left;refine A4 O ?_;rotate_left
 ·rintro e w' ⟨v,c,p,rfl,h1,h2⟩;rw[hX] at h2;obtain⟨rfl,h3⟩:=h2;exact⟨p,v,rfl,h1,h3⟩
 refine R7 0 O ?_;rintro⟨_,⟨_,h0⟩|⟨gt,c,rfl⟩⟩
 ·omega
 refine G1 O<|G1 O<|G1 O<|E6 O<|E6 O<|A5 O<|B4 O<|H5 O<|A4 O<|F9 14 true O (decide_eq_true (by omega))<|B3 O<|A4 O<|B3 O<|BA 0 O<|B3 O<|H5 O<|K8 O<|A4 O<|F9 19 true O (decide_eq_true (by omega))<|B3 O<|A4 O<|B3 O<|Q4 (j:=0) O (by omega)<|B3 O<|D9 O<|B3 O<|B9 (Av 0 (j:=0) O (by omega) O) O<|B3 O<|H5 O<|K8 O<|A4 O<|F9 26 true O (decide_eq_true (by assumption))<|B3 O<|A4 O<|B3 O<|Q4 (j:=0) O (by omega)<|B3 O<|D9 O<|B3 O<|B9 (Av 0 (j:=2) O (by omega) O) O ?_;exact B3 O<|A4 O<|B3 O<|L4 O<|K8 O<|A5 O<|D4<|E4 O λw9 ho9=>⟨by simp[t1,t2],ho9.plain⟩
theorem kD(s:C9)(hs:OM s)(w:B6):I6 109 #[.string (bs s)] w (.bool true):=by
 refine J5 func109 O ntmps109 O ?_;have h0:(DZ s).2=0:=by
  unfold DZ;rw[if_neg (by have:=hs.1;omega)];obtain⟨b,h1,h2⟩:=UG s [34] hs.2;rw[h1]
 exact A3<|A5 O<|B4 O<|F3 113 (A7 O) (λw ho=>eK s w) O<|A4 O<|G1 O<|G1 O<|E6 O<|A5 O<|B4 O<|C6 O<|D4<|E4 O λw9 ho9=>⟨by rw[h0];rfl,ho9.plain⟩
theorem CG:Ae prog 132=some (List.replicate 6 (.bool false),[(0,1),(1,1),(2,1),(3,1),(4,1),(5,1)]):=by kernel_rfl
def O8(l:List Bool):List Value:=l.map .bool
theorem yR(w:B6):I6 53 #[.int .i64 0] w (.tuple #[.agg (O8 [false,false,false,false,false,false]).toArray,.bool true]):=by
 refine J5 Cn O Co O<|A3<|E3 CS O λgz0=>A5 O<|B5<|A4 O<|A6<|C7<|B5<|Q9 O (by omega)<|D6<|E7 O (by omega)<|A3<|B9 (O7 (O8 [false,false,false,false,false,false]) CG O) O<|E8 0 ((O8 [false,false,false,false,false,false]).toArray) O<|A5 O<|K3<|O5 0 O λw9 ho9=>?_;exact⟨rfl,ho9.plain⟩
theorem ag0(w:B6):I6 53 #[.int .i64 1] w (.tuple #[.agg (O8 [false,false,false,false,false,false]).toArray,.bool true]):=by
 refine J5 Cn O Co O<|A3<|E3 CS O λgz0=>A5 O<|B5<|A4 O<|A6<|C7<|B5<|C3 O (by omega)<|A3<|Q9 O (by omega)<|D6<|E7 O (by omega)<|A3<|B9 (O7 (O8 [false,false,false,false,false,false]) CG O) O<|E8 0 ((O8 [false,false,false,false,false,false]).toArray) O<|A5 O<|K3<|O5 0 O λw9 ho9=>?_;exact⟨rfl,ho9.plain⟩
theorem ao6(w:B6):I6 53 #[.int .i64 2] w (.tuple #[.agg (O8 [false,false,false,false,false,false]).toArray,.bool true]):=by
 refine J5 Cn O Co O<|A3<|E3 CS O λgz0=>A5 O<|B5<|A4 O<|A6<|C7<|B5<|C3 O (by omega)<|A3<|C3 O (by omega)<|A3<|Q9 O (by omega)<|D6<|E7 O (by omega)<|A3<|B9 (O7 (O8 [false,false,false,false,false,false]) CG O) O<|E8 0 ((O8 [false,false,false,false,false,false]).toArray) O<|A5 O<|K3<|O5 0 O λw9 ho9=>?_;exact⟨rfl,ho9.plain⟩
theorem ai1(w:B6):I6 53 #[.int .i64 3] w (.tuple #[.agg (O8 [false,false,false,false,false,false]).toArray,.bool true]):=by
 refine J5 Cn O Co O<|A3<|E3 CS O λgz0=>A5 O<|B5<|A4 O<|A6<|C7<|B5<|C3 O (by omega)<|A3<|C3 O (by omega)<|A3<|C3 O (by omega)<|C5<|Q9 O (by omega)<|A3<|B9 (O7 (O8 [false,false,false,false,false,false]) CG O) O<|E8 0 ((O8 [false,false,false,false,false,false]).toArray) O<|A5 O<|K3<|O5 0 O λw9 ho9=>?_;exact⟨rfl,ho9.plain⟩
theorem ae2(w:B6):I6 53 #[.int .i64 4] w (.tuple #[.agg (O8 [false,false,false,false,true,false]).toArray,.bool true]):=by
 refine J5 Cn O Co O<|A3<|E3 CS O λgz0=>A5 O<|B5<|A4 O<|A6<|C7<|B5<|C3 O (by omega)<|A3<|C3 O (by omega)<|A3<|C3 O (by omega)<|C5<|C3 O (by omega)<|A3<|Q9 O (by omega)<|A3<|B9 (O7 (O8 [false,false,false,false,true,false]) CG O) O<|E8 0 ((O8 [false,false,false,false,true,false]).toArray) O<|A5 O<|K3<|O5 0 O λw9 ho9=>?_;exact⟨rfl,ho9.plain⟩
theorem au8(w:B6):I6 53 #[.int .i64 5] w (.tuple #[.agg (O8 [true,false,false,false,false,false]).toArray,.bool true]):=by
 refine J5 Cn O Co O<|A3<|E3 CS O λgz0=>A5 O<|B5<|A4 O<|A6<|C7<|B5<|C3 O (by omega)<|A3<|C3 O (by omega)<|A3<|C3 O (by omega)<|C5<|C3 O (by omega)<|A3<|C3 O (by omega)<|B5<|Q9 O (by omega)<|D6<|E7 O (by omega)<|A3<|B9 (O7 (O8 [true,false,false,false,false,false]) CG O) O<|E8 0 ((O8 [true,false,false,false,false,false]).toArray) O<|A5 O<|K3<|O5 0 O λw9 ho9=>?_;exact⟨rfl,ho9.plain⟩
theorem oA(w:B6):I6 53 #[.int .i64 6] w (.tuple #[.agg (O8 [true,false,false,false,false,false]).toArray,.bool true]):=by
 refine J5 Cn O Co O<|A3<|E3 CS O λgz0=>A5 O<|B5<|A4 O<|A6<|C7<|B5<|C3 O (by omega)<|A3<|C3 O (by omega)<|A3<|C3 O (by omega)<|C5<|C3 O (by omega)<|A3<|C3 O (by omega)<|B5<|C3 O (by omega)<|A3<|Q9 O (by omega)<|D6<|E7 O (by omega)<|A3<|B9 (O7 (O8 [true,false,false,false,false,false]) CG O) O<|E8 0 ((O8 [true,false,false,false,false,false]).toArray) O<|A5 O<|K3<|O5 0 O λw9 ho9=>?_;exact⟨rfl,ho9.plain⟩
theorem vF(w:B6):I6 53 #[.int .i64 7] w (.tuple #[.agg (O8 [true,false,false,false,false,false]).toArray,.bool true]):=by
 refine J5 Cn O Co O<|A3<|E3 CS O λgz0=>A5 O<|B5<|A4 O<|A6<|C7<|B5<|C3 O (by omega)<|A3<|C3 O (by omega)<|A3<|C3 O (by omega)<|C5<|C3 O (by omega)<|A3<|C3 O (by omega)<|B5<|C3 O (by omega)<|A3<|C3 O (by omega)<|A3<|Q9 O (by omega)<|D6<|E7 O (by omega)<|A3<|B9 (O7 (O8 [true,false,false,false,false,false]) CG O) O<|E8 0 ((O8 [true,false,false,false,false,false]).toArray) O<|A5 O<|K3<|O5 0 O λw9 ho9=>?_;exact⟨rfl,ho9.plain⟩
theorem vZ(w:B6):I6 53 #[.int .i64 8] w (.tuple #[.agg (O8 [true,false,false,false,false,false]).toArray,.bool true]):=by
 refine J5 Cn O Co O<|A3<|E3 CS O λgz0=>A5 O<|B5<|A4 O<|A6<|C7<|B5<|C3 O (by omega)<|A3<|C3 O (by omega)<|A3<|C3 O (by omega)<|C5<|C3 O (by omega)<|A3<|C3 O (by omega)<|B5<|C3 O (by omega)<|A3<|C3 O (by omega)<|A3<|C3 O (by omega)<|A3<|Q9 O (by omega)<|D6<|E7 O (by omega)<|A3<|B9 (O7 (O8 [true,false,false,false,false,false]) CG O) O<|E8 0 ((O8 [true,false,false,false,false,false]).toArray) O<|A5 O<|K3<|O5 0 O λw9 ho9=>?_;exact⟨rfl,ho9.plain⟩
theorem nO(w:B6):I6 53 #[.int .i64 9] w (.tuple #[.agg (O8 [true,false,false,false,false,false]).toArray,.bool true]):=by
 refine J5 Cn O Co O<|A3<|E3 CS O λgz0=>A5 O<|B5<|A4 O<|A6<|C7<|B5<|C3 O (by omega)<|A3<|C3 O (by omega)<|A3<|C3 O (by omega)<|C5<|C3 O (by omega)<|A3<|C3 O (by omega)<|B5<|C3 O (by omega)<|A3<|C3 O (by omega)<|A3<|C3 O (by omega)<|A3<|C3 O (by omega)<|A3<|Q9 O (by omega)<|D6<|E7 O (by omega)<|A3<|B9 (O7 (O8 [true,false,false,false,false,false]) CG O) O<|E8 0 ((O8 [true,false,false,false,false,false]).toArray) O<|A5 O<|K3<|O5 0 O λw9 ho9=>?_;exact⟨rfl,ho9.plain⟩
theorem uD(w:B6):I6 53 #[.int .i64 10] w (.tuple #[.agg (O8 [true,false,false,false,false,false]).toArray,.bool true]):=by
 refine J5 Cn O Co O<|A3<|E3 CS O λgz0=>A5 O<|B5<|A4 O<|A6<|C7<|B5<|C3 O (by omega)<|A3<|C3 O (by omega)<|A3<|C3 O (by omega)<|C5<|C3 O (by omega)<|A3<|C3 O (by omega)<|B5<|C3 O (by omega)<|A3<|C3 O (by omega)<|A3<|C3 O (by omega)<|A3<|C3 O (by omega)<|A3<|C3 O (by omega)<|A3<|Q9 O (by omega)<|D6<|E7 O (by omega)<|A3<|B9 (O7 (O8 [true,false,false,false,false,false]) CG O) O<|E8 0 ((O8 [true,false,false,false,false,false]).toArray) O<|A5 O<|K3<|O5 0 O λw9 ho9=>?_;exact⟨rfl,ho9.plain⟩
theorem pV(w:B6):I6 53 #[.int .i64 11] w (.tuple #[.agg (O8 [true,true,false,false,false,false]).toArray,.bool true]):=by
 refine J5 Cn O Co O<|A3<|E3 CS O λgz0=>A5 O<|B5<|A4 O<|A6<|C7<|B5<|C3 O (by omega)<|A3<|C3 O (by omega)<|A3<|C3 O (by omega)<|C5<|C3 O (by omega)<|A3<|C3 O (by omega)<|B5<|C3 O (by omega)<|A3<|C3 O (by omega)<|A3<|C3 O (by omega)<|A3<|C3 O (by omega)<|A3<|C3 O (by omega)<|A3<|C3 O (by omega)<|A3<|C3 O (by omega)<|A3<|C3 O (by omega)<|C5<|C3 O (by omega)<|B5<|Q9 O (by omega)<|D6<|E7 O (by omega) ?_;exact A3<|B9 (O7 (O8 [true,true,false,false,false,false]) CG O) O<|E8 0 ((O8 [true,true,false,false,false,false]).toArray) O<|A5 O<|K3<|O5 0 O λw9 ho9=>⟨rfl,ho9.plain⟩
theorem oV(w:B6):I6 53 #[.int .i64 20] w (.tuple #[.agg (O8 [true,false,false,false,true,false]).toArray,.bool true]):=by
 refine J5 Cn O Co O<|A3<|E3 CS O λgz0=>A5 O<|B5<|A4 O<|A6<|C7<|B5<|C3 O (by omega)<|A3<|C3 O (by omega)<|A3<|C3 O (by omega)<|C5<|C3 O (by omega)<|A3<|C3 O (by omega)<|B5<|C3 O (by omega)<|A3<|C3 O (by omega)<|A3<|C3 O (by omega)<|A3<|C3 O (by omega)<|A3<|C3 O (by omega)<|A3<|C3 O (by omega)<|A3<|C3 O (by omega)<|A3<|C3 O (by omega)<|C5<|C3 O (by omega)<|B5<|C3 O (by omega)<|C5<|C3 O (by omega) ?_;exact B5<|Q9 O (by omega)<|D6<|E7 O (by omega)<|A3<|B9 (O7 (O8 [true,false,false,false,true,false]) CG O) O<|E8 0 ((O8 [true,false,false,false,true,false]).toArray) O<|A5 O<|K3<|O5 0 O λw9 ho9=>⟨rfl,ho9.plain⟩
theorem zA(w:B6):I6 53 #[.int .i64 21] w (.tuple #[.agg (O8 [true,false,false,false,true,false]).toArray,.bool true]):=by
 refine J5 Cn O Co O<|A3<|E3 CS O λgz0=>A5 O<|B5<|A4 O<|A6<|C7<|B5<|C3 O (by omega)<|A3<|C3 O (by omega)<|A3<|C3 O (by omega)<|C5<|C3 O (by omega)<|A3<|C3 O (by omega)<|B5<|C3 O (by omega)<|A3<|C3 O (by omega)<|A3<|C3 O (by omega)<|A3<|C3 O (by omega)<|A3<|C3 O (by omega)<|A3<|C3 O (by omega)<|A3<|C3 O (by omega)<|A3<|C3 O (by omega)<|C5<|C3 O (by omega)<|B5<|C3 O (by omega)<|C5<|C3 O (by omega) ?_;exact B5<|C3 O (by omega)<|C5<|Q9 O (by omega)<|A3<|B9 (O7 (O8 [true,false,false,false,true,false]) CG O) O<|E8 0 ((O8 [true,false,false,false,true,false]).toArray) O<|A5 O<|K3<|O5 0 O λw9 ho9=>⟨rfl,ho9.plain⟩
theorem ai9(w:B6):I6 53 #[.int .i64 22] w (.tuple #[.agg (O8 [true,true,false,false,false,false]).toArray,.bool true]):=by
 refine J5 Cn O Co O<|A3<|E3 CS O λgz0=>A5 O<|B5<|A4 O<|A6<|C7<|B5<|C3 O (by omega)<|A3<|C3 O (by omega)<|A3<|C3 O (by omega)<|C5<|C3 O (by omega)<|A3<|C3 O (by omega)<|B5<|C3 O (by omega)<|A3<|C3 O (by omega)<|A3<|C3 O (by omega)<|A3<|C3 O (by omega)<|A3<|C3 O (by omega)<|A3<|C3 O (by omega)<|A3<|C3 O (by omega)<|A3<|C3 O (by omega)<|C5<|C3 O (by omega)<|B5<|C3 O (by omega)<|C5<|Q9 O (by omega) ?_;exact A3<|B9 (O7 (O8 [true,true,false,false,false,false]) CG O) O<|E8 0 ((O8 [true,true,false,false,false,false]).toArray) O<|A5 O<|K3<|O5 0 O λw9 ho9=>⟨rfl,ho9.plain⟩
theorem ar9(w:B6):I6 53 #[.int .i64 23] w (.tuple #[.agg (O8 [true,false,false,false,false,false]).toArray,.bool true]):=by
 refine J5 Cn O Co O<|A3<|E3 CS O λgz0=>A5 O<|B5<|A4 O<|A6<|C7<|B5<|C3 O (by omega)<|A3<|C3 O (by omega)<|A3<|C3 O (by omega)<|C5<|C3 O (by omega)<|A3<|C3 O (by omega)<|B5<|C3 O (by omega)<|A3<|C3 O (by omega)<|A3<|C3 O (by omega)<|A3<|C3 O (by omega)<|A3<|C3 O (by omega)<|A3<|C3 O (by omega)<|A3<|Q9 O (by omega)<|D6<|E7 O (by omega)<|A3<|B9 (O7 (O8 [true,false,false,false,false,false]) CG O) O<|E8 0 ((O8 [true,false,false,false,false,false]).toArray) O<|A5 O<|K3<|O5 0 O λw9 ho9=>?_;exact⟨rfl,ho9.plain⟩
theorem qF(w:B6):I6 53 #[.int .i64 24] w (.tuple #[.agg (O8 [true,false,true,true,false,false]).toArray,.bool true]):=by
 refine J5 Cn O Co O<|A3<|E3 CS O λgz0=>A5 O<|B5<|A4 O<|A6<|C7<|B5<|C3 O (by omega)<|A3<|C3 O (by omega)<|A3<|C3 O (by omega)<|C5<|C3 O (by omega)<|A3<|C3 O (by omega)<|B5<|C3 O (by omega)<|A3<|C3 O (by omega)<|A3<|C3 O (by omega)<|A3<|C3 O (by omega)<|A3<|C3 O (by omega)<|A3<|C3 O (by omega)<|A3<|C3 O (by omega)<|A3<|C3 O (by omega)<|C5<|C3 O (by omega)<|B5<|C3 O (by omega)<|C5<|C3 O (by omega) ?_;exact B5<|C3 O (by omega)<|C5<|C3 O (by omega)<|A3<|Q9 O (by omega)<|A3<|B9 (O7 (O8 [true,false,true,true,false,false]) CG O) O<|E8 0 ((O8 [true,false,true,true,false,false]).toArray) O<|A5 O<|K3<|O5 0 O λw9 ho9=>⟨rfl,ho9.plain⟩
theorem ax7(w:B6):I6 53 #[.int .i64 25] w (.tuple #[.agg (O8 [true,false,true,false,true,true]).toArray,.bool true]):=by
 refine J5 Cn O Co O<|A3<|E3 CS O λgz0=>A5 O<|B5<|A4 O<|A6<|C7<|B5<|C3 O (by omega)<|A3<|C3 O (by omega)<|A3<|C3 O (by omega)<|C5<|C3 O (by omega)<|A3<|C3 O (by omega)<|B5<|C3 O (by omega)<|A3<|C3 O (by omega)<|A3<|C3 O (by omega)<|A3<|C3 O (by omega)<|A3<|C3 O (by omega)<|A3<|C3 O (by omega)<|A3<|C3 O (by omega)<|A3<|C3 O (by omega)<|C5<|C3 O (by omega)<|B5<|C3 O (by omega)<|C5<|C3 O (by omega) ?_;exact B5<|C3 O (by omega)<|C5<|C3 O (by omega)<|A3<|C3 O (by omega)<|A3<|Q9 O (by omega)<|A3<|B9 (O7 (O8 [true,false,true,false,true,true]) CG O) O<|E8 0 ((O8 [true,false,true,false,true,true]).toArray) O<|A5 O<|K3<|O5 0 O λw9 ho9=>⟨rfl,ho9.plain⟩
theorem wA(w:B6):I6 53 #[.int .i64 26] w (.tuple #[.agg (O8 [false,false,true,false,false,false]).toArray,.bool true]):=by
 refine J5 Cn O Co O<|A3<|E3 CS O λgz0=>A5 O<|B5<|A4 O<|A6<|C7<|B5<|C3 O (by omega)<|A3<|C3 O (by omega)<|A3<|C3 O (by omega)<|C5<|C3 O (by omega)<|A3<|C3 O (by omega)<|B5<|C3 O (by omega)<|A3<|C3 O (by omega)<|A3<|C3 O (by omega)<|A3<|C3 O (by omega)<|A3<|C3 O (by omega)<|A3<|C3 O (by omega)<|A3<|C3 O (by omega)<|A3<|C3 O (by omega)<|C5<|C3 O (by omega)<|B5<|C3 O (by omega)<|C5<|C3 O (by omega) ?_;exact B5<|C3 O (by omega)<|C5<|C3 O (by omega)<|A3<|C3 O (by omega)<|A3<|C3 O (by omega)<|A3<|Q9 O (by omega)<|A3<|B9 (O7 (O8 [false,false,true,false,false,false]) CG O) O<|E8 0 ((O8 [false,false,true,false,false,false]).toArray) O<|A5 O<|K3<|O5 0 O λw9 ho9=>⟨rfl,ho9.plain⟩
theorem av7(w:B6):I6 53 #[.int .i64 27] w (.tuple #[.agg (O8 [true,false,false,false,false,false]).toArray,.bool true]):=by
 refine J5 Cn O Co O<|A3<|E3 CS O λgz0=>A5 O<|B5<|A4 O<|A6<|C7<|B5<|C3 O (by omega)<|A3<|C3 O (by omega)<|A3<|C3 O (by omega)<|C5<|C3 O (by omega)<|A3<|C3 O (by omega)<|B5<|C3 O (by omega)<|A3<|C3 O (by omega)<|A3<|C3 O (by omega)<|A3<|C3 O (by omega)<|A3<|C3 O (by omega)<|A3<|C3 O (by omega)<|A3<|C3 O (by omega)<|A3<|Q9 O (by omega)<|D6<|E7 O (by omega)<|A3<|B9 (O7 (O8 [true,false,false,false,false,false]) CG O) O<|E8 0 ((O8 [true,false,false,false,false,false]).toArray) O<|A5 O ?_;exact K3<|O5 0 O λw9 ho9=>⟨rfl,ho9.plain⟩
theorem uF(w:B6):I6 53 #[.int .i64 28] w (.tuple #[.agg (O8 [true,false,false,false,false,false]).toArray,.bool true]):=by
 refine J5 Cn O Co O<|A3<|E3 CS O λgz0=>A5 O<|B5<|A4 O<|A6<|C7<|B5<|C3 O (by omega)<|A3<|C3 O (by omega)<|A3<|C3 O (by omega)<|C5<|C3 O (by omega)<|A3<|C3 O (by omega)<|B5<|C3 O (by omega)<|A3<|C3 O (by omega)<|A3<|C3 O (by omega)<|A3<|C3 O (by omega)<|A3<|C3 O (by omega)<|A3<|C3 O (by omega)<|A3<|C3 O (by omega)<|A3<|C3 O (by omega)<|C5<|Q9 O (by omega)<|A3<|B9 (O7 (O8 [true,false,false,false,false,false]) CG O) O<|E8 0 ((O8 [true,false,false,false,false,false]).toArray) O<|A5 O ?_;exact K3<|O5 0 O λw9 ho9=>⟨rfl,ho9.plain⟩
def LF(k:Int):List Bool:=if k<4 then[false,false,false,false,false,false] else if k=4 then[false,false,false,false,true,false] else if k=11\/k=22 then[true,true,false,false,false,false] else if k=20\/k=21 then[true,false,false,false,true,false] else if k=24 then[true,false,true,true,false,false] else if k=25 then[true,false,true,false,true,true] else if k=26 then[false,false,true,false,false,false] else[true,false,false,false,false,false]
theorem xN(k:Int)(hk:(0<=k/\k<=11)\/(20<=k/\k<=28))(w:B6):I6 53 #[.int .i64 k] w (.tuple #[.agg (O8 (LF k)).toArray,.bool true]):=by
 have h:k=0\/k=1\/k=2\/k=3\/k=4\/k=5\/k=6\/k=7\/k=8\/k=9\/k=10\/k=11\/k=20\/k=21\/k=22\/k=23\/k=24\/k=25\/k=26\/k=27\/k=28:=by omega
 rcases h with rfl|rfl|rfl|rfl|rfl|rfl|rfl|rfl|rfl|rfl|rfl|rfl|rfl|rfl|rfl|rfl|rfl|rfl|rfl|rfl|rfl
 ·exact yR w
 ·exact ag0 w
 ·exact ao6 w
 ·exact ai1 w
 ·exact ae2 w
 ·exact au8 w
 ·exact oA w
 ·exact vF w
 ·exact vZ w
 ·exact nO w
 ·exact uD w
 ·exact pV w
 ·exact oV w
 ·exact zA w
 ·exact ai9 w
 ·exact ar9 w
 ·exact qF w
 ·exact ax7 w
 ·exact wA w
 ·exact av7 w
 ·exact uF w
def KM(m:F2):Prop:=
 if m.kind=2 then 0<=m.i else if m.kind=1 then m.i=0\/m.i=1 else if m.kind=24 then m.i=1\/(m.i=0/\m.c= -1) else if m.kind=25\/m.kind=26 then 0<=m.i/\m.i<=64 else m.i=0
theorem aa5(m:F2)(hm:KM m)(w:B6):I6 54 #[Hr m] w (.bool true):=by
 refine J5 func54 O ntmps54 O ?_;unfold KM at hm;by_cases h2:m.kind=2
 ·rw[if_pos h2] at hm;exact A3<|F0 (cs:=(D7 m).toArray) O λgm=>A5 O<|B5<|B2 0 O<|A6<|C7<|A3<|Q9 O (by omega)<|A3<|B2 0 O<|O1 O<|A5 O<|K3<|E4 O λw9 ho9=>⟨by rw[decide_eq_true hm],ho9.plain⟩
 rw[if_neg h2] at hm;by_cases h1:m.kind=1
 ·rw[if_pos h1] at hm;by_cases hi:m.i=0
  ·exact A3<|F0 (cs:=(D7 m).toArray) O λgm=>A5 O<|B5<|B2 0 O<|A6<|C7<|A3<|C3 O (by omega)<|A3<|Q9 O (by omega)<|A3<|B2 0 O<|H5 O<|A4 O<|F9 15 true O (decide_eq_true (by omega))<|D2 O<|D2 O<|D2 O<|K8 O<|A5 O<|K3<|E4 O λw9 ho9=>⟨by simp[hi],ho9.plain⟩
  ·exact A3<|F0 (cs:=(D7 m).toArray) O λgm=>A5 O<|B5<|B2 0 O<|A6<|C7<|A3<|C3 O (by omega)<|A3<|Q9 O (by omega)<|A3<|B2 0 O<|H5 O<|A4 O<|F9 15 false O (decide_eq_false (by omega))<|B3 O<|D9 O<|B3 O<|N3 0 O<|B3 O<|H5 O<|G4 O<|A5 O<|K3<|E4 O λw9 ho9=>⟨by rw[decide_eq_true (hm.resolve_left hi)],ho9.plain⟩
 rw[if_neg h1] at hm;by_cases h3:m.kind=24
 ·rw[if_pos h3] at hm;by_cases hi:m.i=1
  ·exact A3<|F0 (cs:=(D7 m).toArray) O λgm=>A5 O<|B5<|B2 0 O<|A6<|C7<|A3<|C3 O (by omega)<|A3<|C3 O (by omega)<|A3<|Q9 O (by omega)<|A3<|B2 0 O<|H5 O<|A4 O<|F9 25 true O (decide_eq_true (by omega))<|D2 O<|D2 O<|D2 O<|D2 O<|D2 O<|D2 O<|D2 O<|D2 O<|K8 O<|A5 O<|K3<|E4 O λw9 ho9=>⟨by simp[hi],ho9.plain⟩
  ·obtain⟨h5,h6⟩:=hm.resolve_left hi;exact A3<|F0 (cs:=(D7 m).toArray) O λgm=>A5 O<|B5<|B2 0 O<|A6<|C7<|A3<|C3 O (by omega)<|A3<|C3 O (by omega)<|A3<|Q9 O (by omega)<|A3<|B2 0 O<|H5 O<|A4 O<|F9 25 false O (decide_eq_false (by omega))<|B3 O<|D9 O<|B3 O<|N3 0 O<|B3 O<|H5 O<|B3 O<|A4 O<|F9 29 true O (decide_eq_true (by omega))<|B3 O<|D9 O<|B3 O<|N3 0 O<|B3 O<|H5 O<|B3 O<|K8 O<|G4 O<|A5 O<|K3<|E4 O λw9 ho9=>⟨by simp[h6],ho9.plain⟩
 rw[if_neg h3] at hm;by_cases h4:m.kind=25
 ·rw[if_pos (.inl h4)] at hm;exact A3<|F0 (cs:=(D7 m).toArray) O λgm=>A5 O<|B5<|B2 0 O<|A6<|C7<|A3<|C3 O (by omega)<|A3<|C3 O (by omega)<|A3<|C3 O (by omega)<|B5<|Q9 O (by omega)<|D6<|E7 O (by omega)<|A3<|B2 0 O<|O1 O<|A4 O<|F9 41 true O (decide_eq_true (by omega))<|B3 O<|D9 O<|B3 O<|N3 0 O<|B3 O<|Hp O<|K8 O<|A5 O<|K3<|E4 O λw9 ho9=>⟨by simp[hm.2],ho9.plain⟩
 by_cases h5:m.kind=26
 ·rw[if_pos (.inr h5)] at hm;exact A3<|F0 (cs:=(D7 m).toArray) O λgm=>A5 O<|B5<|B2 0 O<|A6<|C7<|A3<|C3 O (by omega)<|A3<|C3 O (by omega)<|A3<|C3 O (by omega)<|B5<|C3 O (by omega)<|C5<|Q9 O (by omega)<|A3<|B2 0 O<|O1 O<|A4 O<|F9 41 true O (decide_eq_true (by omega))<|B3 O<|D9 O<|B3 O<|N3 0 O<|B3 O<|Hp O<|K8 O<|A5 O<|K3<|E4 O λw9 ho9=>⟨by simp[hm.2],ho9.plain⟩
 rw[if_neg (by omega)] at hm;exact A3<|F0 (cs:=(D7 m).toArray) O λgm=>A5 O<|B5<|B2 0 O<|A6<|C7<|A3<|C3 O (by omega)<|A3<|C3 O (by omega)<|A3<|C3 O (by omega)<|B5<|C3 O (by omega)<|C5<|C3 O (by omega)<|P5<|F4<|E2<|A3<|B2 0 O<|C6 O<|D4<|E4 O λw9 ho9=>⟨by simp[hm],ho9.plain⟩
def kF(m:F2)(s t:Bool):Prop:=
 ((t=true/\Gv m.t)\/(t=false/\m.t=[]))/\
 (if m.kind=3 then OM m.s else if m.kind=11 then 0<=Mg m else if s=true then Gv m.s else m.s=[])
theorem nW(m:F2)(a b B C s t:Bool)(hm:kF m s t)(w:B6):I6 55 #[Hr m,.agg (O8 [a,b,B,C,s,t]).toArray] w (.bool true):=by
 refine J5 func55 O ntmps55 O ?_;obtain⟨ht,hs⟩:=hm;by_cases h3:m.kind=3
 ·rw[if_pos h3] at hs;rcases ht with⟨rfl,hN⟩|⟨rfl,hN⟩
  ·have hne:=hN.2.1;refine A3<|F0 (cs:=(D7 m).toArray) O λgm=>F0 (cs:=(O8 [a,b,B,C,s,true]).toArray) O λgs=>A5 O<|B5<|B2 0 O<|B2 1 O<|JS O<|B9 (AS (by kernel_rfl) O O) O<|A4 O<|F9 11 false O (by simp[hne,h3])<|B3 O<|D9 O<|B3 O<|N3 0 O<|B3 O<|A4 O<|B3 O<|D9 O<|B3 O<|N3 1 O<|B3 O<|F3 108 (A7 O) (λw ho=>PR _ hN w) O<|B3 O<|J7 O<|B3 O<|K8 O<|G4 O<|A6<|M8 O<|D6<|C8<|C7<|A3<|B2 1 O<|Q9 O (by simp[hne,h3])<|A3<|B2 1 O<|F3 109 (A7 O) (λw ho=>kD _ hs w) O<|A5 O ?_;exact K3<|E4 O λw9 ho9=>⟨rfl,ho9.plain⟩
  ·exact A3<|F0 (cs:=(D7 m).toArray) O λgm=>F0 (cs:=(O8 [a,b,B,C,s,false]).toArray) O λgs=>A5 O<|B5<|B2 0 O<|B2 1 O<|JS O<|B9 (AS (by kernel_rfl) O O) O<|A4 O<|F9 11 false O (by simp[hN,h3])<|B3 O<|D9 O<|B3 O<|N3 0 O<|B3 O<|A4 O<|D2 O<|D2 O<|D2 O<|D2 O<|B3 O<|G4 O<|G4 O<|A6<|M8 O<|D6<|C8<|C7<|A3<|B2 1 O<|Q9 O (by simp[hN,h3])<|A3<|B2 1 O<|F3 109 (A7 O) (λw ho=>kD _ hs w) O<|A5 O<|K3<|E4 O λw9 ho9=>⟨rfl,ho9.plain⟩
 rw[if_neg h3] at hs;by_cases h11:m.kind=11
 ·rw[if_pos h11] at hs;rcases ht with⟨rfl,hN⟩|⟨rfl,hN⟩
  ·have hne:=hN.2.1;refine A3<|F0 (cs:=(D7 m).toArray) O λgm=>F0 (cs:=(O8 [a,b,B,C,s,true]).toArray) O λgs=>A5 O<|B5<|B2 0 O<|B2 1 O<|JS O<|B9 (AS (by kernel_rfl) O O) O<|A4 O<|F9 11 false O (by simp[hne,h3,h11])<|B3 O<|D9 O<|B3 O<|N3 0 O<|B3 O<|A4 O<|B3 O<|D9 O<|B3 O<|N3 1 O<|B3 O<|F3 108 (A7 O) (λw ho=>PR _ hN w) O<|B3 O<|J7 O<|B3 O<|K8 O<|G4 O<|A6<|M8 O<|D6<|C8<|C7<|A3<|B2 1 O<|C3 O (by simp[hne,h3,h11])<|A3<|B2 1 O<|Q9 O (by simp[hne,h3,h11])<|A3 ?_;exact G6 1 (cs:=(D7 m).toArray) O O<|F3 110 (A7 O) (λw ho=>Qq m w) O<|O1 O<|A5 O<|K3<|E4 O λw9 ho9=>⟨by rw[decide_eq_true hs],ho9.plain⟩
  ·refine A3<|F0 (cs:=(D7 m).toArray) O λgm=>F0 (cs:=(O8 [a,b,B,C,s,false]).toArray) O λgs=>A5 O<|B5<|B2 0 O<|B2 1 O<|JS O<|B9 (AS (by kernel_rfl) O O) O<|A4 O<|F9 11 false O (by simp[hN,h3,h11])<|B3 O<|D9 O<|B3 O<|N3 0 O<|B3 O<|A4 O<|D2 O<|D2 O<|D2 O<|D2 O<|B3 O<|G4 O<|G4 O<|A6<|M8 O<|D6<|C8<|C7<|A3<|B2 1 O<|C3 O (by simp[hN,h3,h11])<|A3<|B2 1 O<|Q9 O (by simp[hN,h3,h11])<|A3<|G6 1 (cs:=(D7 m).toArray) O O<|F3 110 (A7 O) (λw ho=>Qq m w) O<|O1 O<|A5 O ?_;exact K3<|E4 O λw9 ho9=>⟨by rw[decide_eq_true hs],ho9.plain⟩
 rw[if_neg h11] at hs;cases s with
 |true=>
  rw[if_pos rfl] at hs;rcases ht with⟨rfl,hN⟩|⟨rfl,hN⟩
  ·have hne:=hN.2.1;refine A3<|F0 (cs:=(D7 m).toArray) O λgm=>F0 (cs:=(O8 [a,b,B,C,true,true]).toArray) O λgs=>A5 O<|B5<|B2 0 O<|B2 1 O<|JS O<|B9 (AS (by kernel_rfl) O O) O<|A4 O<|F9 11 false O (by simp[hne,h3,h11])<|B3 O<|D9 O<|B3 O<|N3 0 O<|B3 O<|A4 O<|B3 O<|D9 O<|B3 O<|N3 1 O<|B3 O<|F3 108 (A7 O) (λw ho=>PR _ (by assumption) w) O<|B3 O<|J7 O<|B3 O<|K8 O<|G4 O<|A6<|M8 O<|D6<|C8<|C7<|A3<|B2 1 O<|C3 O (by simp[hne,h3,h11])<|A3<|B2 1 O<|C3 O (by simp[hne,h3,h11])<|A3 ?_;exact B2 0 O<|A5 O<|R1 O<|A3<|B2 1 O<|F3 108 (A7 O) (λw ho=>PR _ (by assumption) w) O<|A5 O<|K3<|E4 O λw9 ho9=>⟨rfl,ho9.plain⟩
  ·refine A3<|F0 (cs:=(D7 m).toArray) O λgm=>F0 (cs:=(O8 [a,b,B,C,true,false]).toArray) O λgs=>A5 O<|B5<|B2 0 O<|B2 1 O<|JS O<|B9 (AS (by kernel_rfl) O O) O<|A4 O<|F9 11 false O (by simp[hN,h3,h11])<|B3 O<|D9 O<|B3 O<|N3 0 O<|B3 O<|A4 O<|D2 O<|D2 O<|D2 O<|D2 O<|B3 O<|G4 O<|G4 O<|A6<|M8 O<|D6<|C8<|C7<|A3<|B2 1 O<|C3 O (by simp[hN,h3,h11])<|A3<|B2 1 O<|C3 O (by simp[hN,h3,h11])<|A3<|B2 0 O<|A5 O<|R1 O<|A3 ?_;exact B2 1 O<|F3 108 (A7 O) (λw ho=>PR _ (by assumption) w) O<|A5 O<|K3<|E4 O λw9 ho9=>⟨rfl,ho9.plain⟩
 |false=>
  rw[if_neg (by simp)] at hs;rcases ht with⟨rfl,hN⟩|⟨rfl,hN⟩
  ·have hne:=hN.2.1;refine A3<|F0 (cs:=(D7 m).toArray) O λgm=>F0 (cs:=(O8 [a,b,B,C,false,true]).toArray) O λgs=>A5 O<|B5<|B2 0 O<|B2 1 O<|JS O<|B9 (AS (by kernel_rfl) O O) O<|A4 O<|F9 11 false O (by simp[hne,h3,h11])<|B3 O<|D9 O<|B3 O<|N3 0 O<|B3 O<|A4 O<|B3 O<|D9 O<|B3 O<|N3 1 O<|B3 O<|F3 108 (A7 O) (λw ho=>PR _ hN w) O<|B3 O<|J7 O<|B3 O<|K8 O<|G4 O<|A6<|M8 O<|D6<|C8<|C7<|A3<|B2 1 O<|C3 O (by simp[hne,h3,h11])<|A3<|B2 1 O<|C3 O (by simp[hne,h3,h11])<|A3 ?_;exact B2 0 O<|A5 O<|M8 O<|P5<|F4<|E2<|A3<|B2 1 O<|L4 O<|A5 O<|D4<|E4 O λw9 ho9=>⟨by simp[hs],ho9.plain⟩
  ·refine A3<|F0 (cs:=(D7 m).toArray) O λgm=>F0 (cs:=(O8 [a,b,B,C,false,false]).toArray) O λgs=>A5 O<|B5<|B2 0 O<|B2 1 O<|JS O<|B9 (AS (by kernel_rfl) O O) O<|A4 O<|F9 11 false O (by simp[hN,h3,h11])<|B3 O<|D9 O<|B3 O<|N3 0 O<|B3 O<|A4 O<|D2 O<|D2 O<|D2 O<|D2 O<|B3 O<|G4 O<|G4 O<|A6<|M8 O<|D6<|C8<|C7<|A3<|B2 1 O<|C3 O (by simp[hN,h3,h11])<|A3<|B2 1 O<|C3 O (by simp[hN,h3,h11])<|A3<|B2 0 O<|A5 O<|M8 O<|P5 ?_;exact F4<|E2<|A3<|B2 1 O<|L4 O<|A5 O<|D4<|E4 O λw9 ho9=>⟨by simp[hs],ho9.plain⟩
abbrev lI:Nat:=95
abbrev S7:Nat:=3
def AY(l:List Nat):List Value:=l.map λ(x:Nat)=>.int .i64 (x:Int)
def Y6(g:Nat)(v:Value)(f:Int)(hv:Value)(ns:List F2)(had:List Nat):List C2:=
 [.B1 g lI #[v,.int .i64 f,hv],.row v ND 8 ns.length (L2 ns),.row hv S7 1 ns.length (AY had)]
def GK(had:List Nat)(k:Nat):List Nat:=had.modify k (·+1)
theorem ad5(had:List Nat)(k:Nat):(GK had k).length=had.length:=by simp[GK]
theorem ax4{had:List Nat}{k x:Nat}(h:had[k]?=some x):(AY had).set k (.int .i64 ((x:Int)+1))=AY (GK had k):=by
 apply Nk;intro j;simp only[AY,GK,List.getElem?_set,Kj,List.getElem?_modify,Nq];have hk:k<had.length:=(N5.1 h).1;by_cases e:k=j
 ·subst e;rw[if_pos rfl,if_pos hk,h];simp
 ·rw[if_neg e];simp[e]
theorem jY{had:List Nat}{k x:Nat}(hx:had[k]?=some x):(AY had)[0+k*1]?=some (.int .i64 (x:Int)):=by
 rw[Y3,Pm,AY,Kj,hx];rfl
theorem fN(g:Nat)(v:Value)(f:Int)(hv:Value)(ns:List F2)(had:List Nat)(k x:Nat)(lo hi:Int)(st:Bool)(m:F2)(w:B6)
  (hk:ns[k]?=some m)(hx:had[k]?=some x)(hb:x<=100000)(h1:lo<=k)(h2:(k:Int)<hi)(hs:st=decide (20<=m.kind))(ho:B7 (J1 w (Y6 g v f hv ns had)) (Y6 g v f hv ns had) w):
  Calls prog 56 #[.pointer (some ⟨g,0,none⟩),.int .i64 k,.int .i64 lo,.int .i64 hi,.bool st] w λe w'=>e=.returned (.bool true)/\O0 w (λb=>b∈F1 (Y6 g v f hv ns had)) (Y6 g v f hv ns (GK had k)) w':=by
 refine G7 ho func56 O ntmps56 O ?_;have hkl:k<ns.length:=(N5.1 hk).1;unfold Y6 at*;refine R7 1 O ?_;rintro⟨_,⟨_,h0⟩|⟨gn,c,rfl⟩⟩
 ·omega
 refine R7 2 O ?_;rintro⟨hl,⟨_,h0⟩|⟨gh,c2,rfl⟩⟩
 ·omega
 have hhl:k<had.length:=(N5.1 hx).1;refine A3<|A5 O<|B5<|A4 O<|A4 O<|H9 O<|A4 O<|F9 14 false O (decide_eq_false (by omega))<|B3 O<|A4 O<|B3 O<|A4 O<|B3 O<|O1 O<|G4 O<|A4 O<|F9 19 false O (decide_eq_false (by omega))<|B3 O<|A4 O<|B3 O<|A4 O<|B3 O<|E5 O<|B3 O<|D9 O<|B3 O<|D9 O<|B3 O<|N3 0 O<|B3 O<|A4 O<|B3 O<|Q4 (j:=k) O hkl<|B3 O<|D9 O<|B3 O<|B9 (Av 1 (j:=0+k*8+0) (u:=.int .i64 m.kind) O (Mt hkl (by decide)) (QV Y0 hk (by decide))) O<|B3 O<|O1 O<|B3 O ?_;refine B9 (AS (by kernel_rfl) O O) O<|G4 O<|A6<|Y7 O (by simp[hs])<|D6<|B4 O<|E5 O<|B2 0 O<|A4 O<|Q4 (j:=k) O hkl<|B9 (Av 2 (j:=0+k*1) (u:=.int .i64 x) O (by omega) (jY hx)) O<|N6 O (by omega)<|Q4 (j:=k) O hkl<|GR (i:=2) (j:=0+k*1) (u:=.int .i64 ((x:Int)+1)) (by kernel_rfl) O O O O (by omega)<|I0<|A5 O<|D4<|E4 O λw9 ho9=>?_;refine⟨rfl,?_⟩;have e3:(AY had).set (0+k*1) (.int .i64 ((x:Int)+1))=AY (GK had k):=by rw[show 0+k*1=k by omega,ax4 hx]
 rw[<-e3];exact⟨_,_,ho9⟩
def UT(ns:List F2)(i:Nat)(x:Int):Prop:=∃k m,x=((k:Nat):Int)/\k<i/\ns[k]?=some m/\m.kind<20
def LZ(ns:List F2)(lo hi:Nat)(x:Int):Prop:=∃k m,x=((k:Nat):Int)/\lo<=k/\k<hi/\ns[k]?=some m/\20<=m.kind
def rf(x:Int):List Nat:=if x= -1 then[] else[x.toNat]
def V1(had:List Nat)(l:List Nat):List Nat:=l.foldl GK had
theorem Qd(l:List Nat):∀had:List Nat,(V1 had l).length=had.length:=by
 induction l with
 |nil=>intro had;rfl
 |cons a l ih=>intro had;exact(ih _).trans (ad5 had a)
def Ha(b:Nat)(had:List Nat):Prop:=∀x∈had,x<=b
theorem cX{b:Nat}{had:List Nat}(h:Ha b had)(k:Nat):Ha (b+1) (GK had k):=by
 intro x hx;unfold GK at hx;obtain⟨j,hj,rfl⟩:=List.mem_iff_getElem.1 hx;rw[List.getElem_modify];have hj':j<had.length:=by simpa using hj
 have:=h _ (Fd hj');split<;>omega
theorem ZI{g:Nat}{v:Value}{f:Int}{hv:Value}{ns:List F2}{had:List Nat}{i:Nat}{x:Int}{b:Nat}{w:B6}(hl:had.length=ns.length)(hb:Ha b had)(hb2:b<=100000)(h:UT ns i x)(ho:B7 (J1 w (Y6 g v f hv ns had)) (Y6 g v f hv ns had) w):
  Calls prog 56 #[.pointer (some ⟨g,0,none⟩),.int .i64 x,.int .i64 0,.int .i64 i,.bool false] w λe w'=>e=.returned (.bool true)/\O0 w (λb=>b∈F1 (Y6 g v f hv ns had)) (Y6 g v f hv ns (V1 had (rf x))) w':=by
 obtain⟨k,m,rfl,h1,h2,h3⟩:=h;have hk:k<had.length:=by rw[hl];exact(N5.1 h2).1
 have e:V1 had (rf k)=GK had k:=by unfold rf;rw[if_neg (by omega)];rfl
 rw[e];exact fN g v f hv ns had k had[k] 0 i false m w h2 (T8 hk) (j7 (hb _ (Fd hk)) hb2) (by omega) (by omega) (by rw[decide_eq_false (by omega)]) ho
theorem fM{g:Nat}{v:Value}{f:Int}{hv:Value}{ns:List F2}{had:List Nat}{lo hi:Nat}{x:Int}{b:Nat}{w:B6}(hl:had.length=ns.length)(hb:Ha b had)(hb2:b<=100000)(h:LZ ns lo hi x)(ho:B7 (J1 w (Y6 g v f hv ns had)) (Y6 g v f hv ns had) w):
  Calls prog 56 #[.pointer (some ⟨g,0,none⟩),.int .i64 x,.int .i64 lo,.int .i64 hi,.bool true] w λe w'=>e=.returned (.bool true)/\O0 w (λb=>b∈F1 (Y6 g v f hv ns had)) (Y6 g v f hv ns (V1 had (rf x))) w':=by
 obtain⟨k,m,rfl,h0,h1,h2,h3⟩:=h;have hk:k<had.length:=by rw[hl];exact(N5.1 h2).1
 have e:V1 had (rf k)=GK had k:=by unfold rf;rw[if_neg (by omega)];rfl
 rw[e];exact fN g v f hv ns had k had[k] lo hi true m w h2 (T8 hk) (j7 (hb _ (Fd hk)) hb2) (by omega) (by omega) (by rw[decide_eq_true h3]) ho
theorem XB{g:Nat}{v:Value}{f:Int}{hv:Value}{ns:List F2}{had:List Nat}{i:Nat}{x:Int}{b:Nat}{w:B6}(hl:had.length=ns.length)(hb:Ha b had)(hb2:b<=100000)(h:x= -1\/LZ ns 0 i x)(ho:B7 (J1 w (Y6 g v f hv ns had)) (Y6 g v f hv ns had) w):
  Calls prog 26 #[.pointer (some ⟨g,0,none⟩),.int .i64 x,.int .i64 i] w λe w'=>e=.returned (.bool true)/\O0 w (λb=>b∈F1 (Y6 g v f hv ns had)) (Y6 g v f hv ns (V1 had (rf x))) w':=by
 refine G7 ho func26 O ntmps26 O ?_;rcases h with rfl|h
 ·exact A3<|A5 O<|B4 O<|H5 O<|A4 O<|F9 9 true O (decide_eq_true (by omega))<|D2 O<|D2 O<|D2 O<|D2 O<|K8 O<|A5 O<|D4<|E4 O λw9 ho9=>⟨rfl,_,_,ho9⟩
 ·have hx:x≠-1:=by obtain⟨k,m,rfl,_⟩:=h;omega
  exact A3<|A5 O<|B4 O<|H5 O<|A4 O<|F9 9 false O (decide_eq_false (by exact hx))<|B3 O<|A4 O<|B3 O<|A4 O<|B3 O<|A4 O<|B3 O<|W7 (ι:=Unit) [] (Y6 g v f hv ns had) (λ_=>.bool true) (λ_=>Y6 g v f hv ns (V1 had (rf x))) O (A7 O) (λw _ ho=>(fM (lo:=0) hl hb hb2 h ho).mono λe w' h=>⟨(),h⟩) O O λ_=>G4 O<|A5 O<|D4<|E4 O λw9 ho9=>⟨rfl,_,_,ho9⟩
end
section
attribute [local irreducible] F8 D3 Exit.then Exit.inBlock Exit.noGoto wpQuiet Calls fin At G9 L3 L7 RQ R9
structure JY(ns:List F2)(i:Nat)(m:F2)(a b B C s t:Bool):Prop where
 kind:(0<=m.kind/\m.kind<=11)\/(20<=m.kind/\m.kind<=28)
 wK:LF m.kind=[a,b,B,C,s,t]
 num:KM m
 K4:kF m s t
 ra:if a then UT ns i m.a else m.a= -1
 rb:if b then UT ns i m.b else if B then m.b= -1\/LZ ns 0 i m.b else m.b= -1
 rc:m.c= -1\/C=true/\LZ ns 0 i m.c
 rn:m.next= -1\/20<=m.kind/\LZ ns (i+1) ns.length m.next
def AE(m:F2):List Nat:=rf m.a++(rf m.b++(rf m.c++rf m.next))
theorem Tc(had l k:List Nat):V1 had (l++k)=V1 (V1 had l) k:=List.foldl_append
theorem Tv(x:Int):(rf x).length<=1:=by unfold rf;split<;>simp
theorem Xm{b:Nat}{had:List Nat}(h:Ha b had)(x:Int):Ha (b+1) (V1 had (rf x)):=by
 unfold rf;split
 ·exact λy hy=>Nat.le_succ_of_le (h y hy)
 ·exact cX h _
theorem Wh:rf (-1)=[]:=rfl
abbrev In:Nat:=132
theorem xO(g:Nat)(v:Value)(f:Int)(hv:Value)(ns:List F2)(had:List Nat)(i:Nat)(m:F2)(a b B C s t:Bool)(bd:Nat)(w:B6)(h512:ns.length<=512)(hm:ns[i]?=some m)(hN:JY ns i m a b B C s t)(hl:had.length=ns.length)(hb:Ha bd had)(hb2:bd<=50000)
  (ho:B7 (J1 w (Y6 g v f hv ns had)) (Y6 g v f hv ns had) w):
  Calls prog 25 #[.pointer (some ⟨g,0,none⟩),.int .i64 i] w λe w'=>e=.returned (.bool true)/\O0 w (λb=>b∈F1 (Y6 g v f hv ns had)) (Y6 g v f hv ns (V1 had (AE m))) w':=by
 refine G7 ho func25 O ntmps25 O ?_;have hil:i<ns.length:=(N5.1 hm).1;refine R7 1 O ?_;rintro⟨_,⟨_,h0⟩|⟨gn,c,rfl⟩⟩
 ·omega
 have cS:∀w,I6 53 #[.int .i64 m.kind] w (.tuple #[.agg (O8 [a,b,B,C,s,t]).toArray,.bool true]):=λw=>by
  have:=xN m.kind hN.kind w;rwa[hN.wK] at this
 refine A3<|A5 O<|B4 O<|E5 O<|D9 O<|B2 0 O<|A4 O<|Q4 (j:=i) O hil<|U6 (vs:=D7 m) O (λw' ho=>X7 Y0 ho (q:=1) rfl hm)<|E3 V2 O λgz0=>E8 0 ((D7 m).toArray) O<|I0<|B2 0 O<|F3 53 (A7 O) (λw ho=>cS w) O<|A4 O<|G1 O<|G1 O<|E3 CS O λgz1=>E8 0 ((O8 [a,b,B,C,s,t]).toArray) O<|A5 O<|B5<|A4 O<|J7 O<|A4 O<|B3 O<|G6 1 (cs:=(D7 m).toArray) O O<|B3 O<|F3 54 (A7 O) (λw ho=>aa5 m hN.num w) O<|B3 O<|J7 O<|G4 O<|A4 O<|B3 O<|G6 1 (cs:=(D7 m).toArray) O O<|B3 O<|G6 0 (cs:=(O8 [a,b,B,C,s,t]).toArray) O O<|B3 O<|F3 55 (A7 O) (λw ho=>nW m a b B C s t hN.K4 w) O<|B3 O<|J7 O ?_;refine G4 O<|A6<|M8 O<|D6<|A3<|B2 1 O<|C6 O<|C8<|C8 ?_;rotate_left;refine XA (ι:=Unit) (λ_=>True) (λ_=>[(0,.pointer (some ⟨g,0,none⟩)),(1,.int .i64 i),(5,.pointer (some ⟨gz0,0,none⟩)),(6,.pointer (some ⟨gz1,0,none⟩)),(8,.bool true)]) (λ_=>[.B1 gz1 In (O8 [a,b,B,C,s,t]).toArray,.B1 gz0 ND (D7 m).toArray]++Y6 g (.slice (some ⟨gn,0,none⟩) ns.length c) f hv ns (V1 had (rf m.a))) ?_ (λ_ _=>?_)
 ·have ra:=hN.ra;cases a with
  |true=>
   refine C5<|B2 0 O<|A6<|R1 O<|C5<|A4 O<|B2 1 O<|A4 O<|W7 (ι:=Unit) [.B1 gz1 In (O8 [true,b,B,C,s,t]).toArray,.B1 gz0 ND (D7 m).toArray] (Y6 g (.slice (some ⟨gn,0,none⟩) ns.length c) f hv ns had) (λ_=>.bool true) (λ_=>Y6 g (.slice (some ⟨gn,0,none⟩) ns.length c) f hv ns (V1 had (rf m.a))) O (A7 O) (λw _ ho=>(ZI hl hb (by omega) ra ho).mono λe w' h=>⟨(),h⟩) O O λ_=>A5 O ?_;rotate_left;exact FK () trivial ⟨rfl,rfl,rfl,rfl,rfl,trivial⟩ O
  |false=>
   have ra:m.a= -1:=ra;refine C5<|B2 0 O<|A6<|M8 O<|D6 ?_;rotate_left;exact FK () trivial ⟨rfl,rfl,rfl,rfl,by rw[ra];rfl,trivial⟩ (by rw[ra];rfl)
 have hb3:=Xm hb m.a;have hl3:(V1 had (rf m.a)).length=ns.length:=by rw[Qd];exact hl
 have e1:V1 had (AE m)=V1 (V1 (V1 (V1 had (rf m.a)) (rf m.b)) (rf m.c)) (rf m.next):=by simp only[AE,Tc]
 rw[e1];generalize V1 had (rf m.a)=had1 at hb3 hl3⊢;refine E2<|A3<|B2 1 O<|C6 O<|C8<|CN ?_;rotate_left;refine XA (ι:=Unit) (λ_=>True) (λ_=>[(0,.pointer (some ⟨g,0,none⟩)),(1,.int .i64 i),(5,.pointer (some ⟨gz0,0,none⟩)),(6,.pointer (some ⟨gz1,0,none⟩)),(8,.bool true),(9,.bool true)]) (λ_=>[.B1 gz1 In (O8 [a,b,B,C,s,t]).toArray,.B1 gz0 ND (D7 m).toArray]++Y6 g (.slice (some ⟨gn,0,none⟩) ns.length c) f hv ns (V1 had1 (rf m.b))) ?_ (λ_ _=>?_)
 ·have rb:=hN.rb;cases b with
  |true=>
   refine C5<|B2 0 O<|A5 O<|R1 O<|C5<|A4 O<|B2 1 O<|A4 O<|W7 (ι:=Unit) [.B1 gz1 In (O8 [a,true,B,C,s,t]).toArray,.B1 gz0 ND (D7 m).toArray] (Y6 g (.slice (some ⟨gn,0,none⟩) ns.length c) f hv ns had1) (λ_=>.bool true) (λ_=>Y6 g (.slice (some ⟨gn,0,none⟩) ns.length c) f hv ns (V1 had1 (rf m.b))) O (A7 O) (λw _ ho=>(ZI hl3 hb3 (by omega) rb ho).mono λe w' h=>⟨(),h⟩) O O λ_=>A5 O ?_;rotate_left;exact FK () trivial ⟨rfl,rfl,rfl,rfl,rfl,rfl,trivial⟩ O
  |false=>
   cases B with
   |true=>
    refine C5<|B2 0 O<|A5 O<|M8 O<|A3<|B2 0 O<|A5 O<|R1 O<|C5<|A4 O<|B2 1 O<|A4 O<|W7 (ι:=Unit) [.B1 gz1 In (O8 [a,false,true,C,s,t]).toArray,.B1 gz0 ND (D7 m).toArray] (Y6 g (.slice (some ⟨gn,0,none⟩) ns.length c) f hv ns had1) (λ_=>.bool true) (λ_=>Y6 g (.slice (some ⟨gn,0,none⟩) ns.length c) f hv ns (V1 had1 (rf m.b))) O (A7 O) (λw _ ho=>(XB hl3 hb3 (by omega) rb ho).mono λe w' h=>⟨(),h⟩) O O λ_=>A5 O ?_;rotate_left;exact FK () trivial ⟨rfl,rfl,rfl,rfl,rfl,rfl,trivial⟩ O
   |false=>
    have rb:m.b= -1:=rb;refine C5<|B2 0 O<|A5 O<|M8 O<|A3<|B2 0 O<|A5 O<|M8 O<|D6 ?_;rotate_left;exact FK () trivial ⟨rfl,rfl,rfl,rfl,rfl,by rw[rb];rfl,trivial⟩ (by rw[rb];rfl)
 have hb4:=Xm hb3 m.b;have hl4:(V1 had1 (rf m.b)).length=ns.length:=by rw[Qd];exact hl3
 generalize V1 had1 (rf m.b)=had2 at hb4 hl4⊢;refine F4<|E2<|C8 ?_;rotate_left;refine Wv (ι:=Unit) (λ_=>True) (λ_=>[(0,.pointer (some ⟨g,0,none⟩)),(1,.int .i64 i),(5,.pointer (some ⟨gz0,0,none⟩)),(6,.pointer (some ⟨gz1,0,none⟩)),(8,.bool true),(9,.bool true),(10,.bool true)]) (λ_=>[.B1 gz1 In (O8 [a,b,B,C,s,t]).toArray,.B1 gz0 ND (D7 m).toArray]++Y6 g (.slice (some ⟨gn,0,none⟩) ns.length c) f hv ns (V1 had2 (rf m.c))) ?_ (λ_ _=>?_)
 ·by_cases hc1:m.c= -1
  ·refine C5<|B2 1 O<|H5 O<|A4 O<|F9 71 true O (decide_eq_true (by exact hc1))<|D2 O<|D2 O<|D2 O<|D2 O<|D2 O<|D2 O<|D2 O<|D2 O<|D2 O<|K8 O<|A5 O ?_;rotate_left;exact FK () trivial ⟨rfl,rfl,rfl,rfl,rfl,rfl,by simp[hc1,R6],trivial⟩ (by rw[hc1];rfl)
  ·obtain⟨rfl,rc⟩:=hN.rc.resolve_left hc1;refine C5<|B2 1 O<|H5 O<|A4 O<|F9 71 false O (decide_eq_false (by exact hc1))<|B3 O<|D9 O<|B3 O<|N3 0 O<|B3 O<|A4 O<|B3 O<|A4 O<|B3 O<|D9 O<|B3 O<|N3 1 O<|B3 O<|A4 O<|B3 O<|W7 (ι:=Unit) [.B1 gz1 In (O8 [a,b,B,true,s,t]).toArray,.B1 gz0 ND (D7 m).toArray] (Y6 g (.slice (some ⟨gn,0,none⟩) ns.length c) f hv ns had2) (λ_=>.bool true) (λ_=>Y6 g (.slice (some ⟨gn,0,none⟩) ns.length c) f hv ns (V1 had2 (rf m.c))) O (A7 O) (λw _ ho=>(XB hl4 hb4 (by omega) (.inr rc) ho).mono λe w' h=>⟨(),h⟩) O O λ_=>B3 O<|K8 O<|G4 O<|A5 O ?_;rotate_left;exact FK () trivial ⟨rfl,rfl,rfl,rfl,rfl,rfl,rfl,trivial⟩ O
 have hb5:=Xm hb4 m.c;have hl5:(V1 had2 (rf m.c)).length=ns.length:=by rw[Qd];exact hl4
 generalize V1 had2 (rf m.c)=had3 at hb5 hl5⊢;refine E2<|C8 ?_;by_cases hn1:m.next= -1
 ·apply Bh 22 [_,_,_,_,_,_,_,_,_,_,_,_,_,_,_,_,_,_,_,_,_,_] (λ_ _=>[.B1 gz1 In (O8 [a,b,B,C,s,t]).toArray,.B1 gz0 ND (D7 m).toArray]++Y6 g (.slice (some ⟨gn,0,none⟩) ns.length c) f hv ns had3) (by kernel_rfl) (by kernel_rfl) (by kernel_rfl) (λ_=>rfl)
  ·refine E9 O (F7 O (λlst vs hl he=>D0 (I8 4 O)) (λ_ _ _=>rfl))<|E9 O (F7 O (λlst vs hl he=>D0 (K1 1 O)) (λ_ _ _=>rfl))<|E9 O (F7 O (λlst vs hl he=>D0 (JU O O)) (λ_ _ _=>rfl))<|E9 O (F7 O (λlst vs hl he=>D0 (H8 O)) (λ_ _ _=>rfl))<|Du O O (λvs=>rfl) (Qn (by exact hn1)) O (λ_ _=>rfl)<|Du O O (λvs=>rfl) (Qn (by exact hn1)) O (λ_ _=>rfl)<|Du O O (λvs=>rfl) (Qn (by exact hn1)) O (λ_ _=>rfl)<|Du O O (λvs=>rfl) (Qn (by exact hn1)) O (λ_ _=>rfl)<|Du O O (λvs=>rfl) O O (λ_ _=>rfl)<|Du O O (λvs=>rfl) O O (λ_ _=>rfl)<|Du O O (λvs=>rfl) O O (λ_ _=>rfl)<|Du O O (λvs=>rfl) O O (λ_ _=>rfl)<|Du O O (λvs=>rfl) O O (λ_ _=>rfl)<|Du O O (λvs=>rfl) O O (λ_ _=>rfl)<|Du O O (λvs=>rfl) O O (λ_ _=>rfl)<|Du O O (λvs=>rfl) O O (λ_ _=>rfl)<|Du O O (λvs=>rfl) O O (λ_ _=>rfl)<|Du O O (λvs=>rfl) O O (λ_ _=>rfl)<|Du O O (λvs=>rfl) O O (λ_ _=>rfl)<|Du O O (λvs=>rfl) O O (λ_ _=>rfl)<|Du O O (λvs=>rfl) (Qn (by exact hn1)) O (λ_ _=>rfl)<|E9 O (F7 O (λlst vs hl he=>D0 (zZ O O O)) (λ_ _ _=>rfl)) ?_;exact Bf
  ·(repeat(first|exact trivial|exact(λ_ _ _ h=>h)|refine⟨trivial,?_⟩|refine⟨λ_ _ _ h=>h,?_⟩))
  ·intro vs w1 hx;refine A5 O<|B4 O<|A4 O<|B3 O<|A4 O<|K8 O<|A4 O<|B3 O<|A4 O<|K8 O<|A4 O<|B3 O<|A4 O<|K8 O<|A5 O<|D4<|E4 O λw9 ho9=>?_;exact⟨by simp[hn1],by rw[hn1];exact⟨_,_,ho9.sublist ((L9 _ _).trans (L9 _ _))⟩⟩
 ·obtain⟨hk20,rn⟩:=hN.rn.resolve_left hn1;apply Bh 22 [_,_,_,_,_,_,_,_,_,_,_,_,_,_,_,_,_,_,_,_,_,_] (λlst _=>[.B1 gz1 In (O8 [a,b,B,C,s,t]).toArray,.B1 gz0 ND (D7 m).toArray]++Y6 g (.slice (some ⟨gn,0,none⟩) ns.length c) f hv ns (if lst 19 then V1 had3 (rf m.next) else had3)) (by kernel_rfl) (by kernel_rfl) (by kernel_rfl) (λ_=>rfl)
  ·refine E9 O (F7 O (λlst vs hl he=>D0 (I8 4 O)) (λ_ _ _=>rfl))<|E9 O (F7 O (λlst vs hl he=>D0 (K1 1 O)) (λ_ _ _=>rfl))<|E9 O (F7 O (λlst vs hl he=>D0 (JU O O)) (λ_ _ _=>rfl))<|E9 O (F7 O (λlst vs hl he=>D0 (H8 O)) (λ_ _ _=>rfl))<|Dz O O (λvs=>rfl) (RP (by exact hn1)) (F7 O (λlst vs hl he=>D0 (I8 0 O)) (λ_ _ _=>rfl))<|Dz O O (λvs=>rfl) (RP (by exact hn1)) (F7 O (λlst vs hl he=>D0 (K1 1 O)) (λ_ _ _=>rfl))<|Dz O O (λvs=>rfl) (RP (by exact hn1)) (F7 O (λlst vs hl he=>D0 (dX O O)) (λ_ _ _=>rfl))<|Dz O O (λvs=>rfl) (RP (by exact hn1)) (F7 O (λlst vs hl he=>D0 (H8 O)) (λ_ _ _=>rfl))<|Dz O O (λvs=>rfl) (Gw (by exact hk20)) (F7 O (λlst vs hl he=>D0 (H8 O)) (λ_ _ _=>rfl))<|Dz O O (λvs=>rfl) (Gw (by exact hk20)) (F7 O (λlst vs hl he=>D0 (I8 4 O)) (λ_ _ _=>rfl))<|Dz O O (λvs=>rfl) (Gw (by exact hk20)) (F7 O (λlst vs hl he=>D0 (K1 1 O)) (λ_ _ _=>rfl))<|Dz O O (λvs=>rfl) (Gw (by exact hk20)) (F7 O (λlst vs hl he=>D0 (H8 O)) (λ_ _ _=>rfl))<|Dz O O (λvs=>rfl) (Gw (by exact hk20)) (F7 O (λlst vs hl he=>D0 (Nc O O (by omega))) (λ_ _ _=>rfl))<|Dz O O (λvs=>rfl) (Gw (by exact hk20)) (F7 O (λlst vs hl he=>D0 (H8 O)) (λ_ _ _=>rfl))<|Dz O O (λvs=>rfl) (Gw (by exact hk20)) (F7 O (λlst vs hl he=>D0 (N1 O)) (λ_ _ _=>rfl))<|Dz O O (λvs=>rfl) (Gw (by exact hk20)) (F7 O (λlst vs hl he=>D0 (I8 0 O)) (λ_ _ _=>rfl))<|Dz O O (λvs=>rfl) (Gw (by exact hk20)) (F7 O (λlst vs hl he=>D0 (I8 0 O)) (λ_ _ _=>rfl))<|Dz O O (λvs=>rfl) (Gw (by exact hk20)) (F7 O (λlst vs hl he=>D0 (K1 2 O)) (λ_ _ _=>rfl))<|Dz O O (λvs=>rfl) (Gw (by exact hk20)) (F7 O (λlst vs hl he=>D0 (KG (by kernel_rfl) O)) (λ_ _ _=>rfl))<|Dz O O (λvs=>rfl) (Gw (by exact hk20)) (lP [.B1 gz1 In (O8 [a,b,B,C,s,t]).toArray,.B1 gz0 ND (D7 m).toArray] (Y6 g (.slice (some ⟨gn,0,none⟩) ns.length c) f hv ns had3) (Y6 g (.slice (some ⟨gn,0,none⟩) ns.length c) f hv ns (V1 had3 (rf m.next))) O O (λlst vs hl=>by simp only[hl];rfl) (λlst vs u=>rfl) (λvs=>A7 O) (λw _ ho=>fM hl5 hb5 (by omega) rn ho))<|Dz O O (λvs=>rfl) (RP (by exact hn1)) (F7 O (λlst vs hl he=>D0 (iY O O O)) (λ_ _ _=>rfl))<|E9 O (F7 O (λlst vs hl he=>D0 (iY O O O)) (λ_ _ _=>rfl)) ?_;exact Bf
  ·(repeat(first|exact trivial|exact(λ_ _ _ h=>h)|refine⟨trivial,?_⟩|refine⟨λ_ _ _ h=>h,?_⟩))
  ·intro vs w1 hx;refine A5 O<|B4 O<|A4 O<|B3 O<|A4 O<|K8 O<|A4 O<|B3 O<|A4 O<|K8 O<|A4 O<|B3 O<|A4 O<|K8 O<|A5 O<|D4<|E4 O λw9 ho9=>?_;exact⟨by simp[hk20],_,_,ho9.sublist ((L9 _ _).trans (L9 _ _))⟩
theorem sK(x:Int)(w:B6):I6 28 #[.int .i64 x] w (.bool (decide (x≠1))):=by
 refine J5 func28 O ntmps28 O<|A3<|A5 O<|B4 O<|J3 O<|A5 O<|D4<|E4 O λw9 ho9=>?_;exact⟨rfl,ho9.plain⟩
theorem rJ(hv:Value)(had:List Nat)(n:Nat)(w:B6)(hn:had.length=n)(h1:∀x∈had,x=1)(hb:n<=512)(ho:B7 (J1 w [.row hv S7 1 n (AY had)]) [.row hv S7 1 n (AY had)] w):
  Calls prog 57 #[hv,.func (.func 28) #[] #[]] w λe w'=>e=.returned (.int .i64 (-1))/\O0 w (λb=>b∈F1 [.row hv S7 1 n (AY had)]) [.row hv S7 1 n (AY had)] w':=by
 refine G7 ho func57 O ntmps57 O<|A3<|A5 O<|B5<|A4 O<|BA 0 O<|A4 O<|A6<|C7 ?_;rotate_left;refine DG (λi:Nat=>i<=n) (λi=>[(0,hv),(1,.func (.func 28) #[] #[]),(7,.int .i64 n),(8,.int .i64 i)]) (λi=>n-i) 0 (R5 _) ⟨rfl,rfl,rfl,rfl,trivial⟩ ?_;intro i hi;by_cases hil:i<n
 ·refine R7 0 O ?_;rintro⟨_,⟨_,h0⟩|⟨gh,c,rfl⟩⟩
  ·omega
  have hx:had[i]?=some 1:=by
   have:=h1 had[i] (Fd _);rw[T8 (by omega),this]
  refine A3<|H9 O<|A6<|C8<|E7 O (by omega)<|D6<|C8<|C7<|B4 O<|A5 O<|B4 O<|A4 O<|A4 O<|Q4 (j:=i) O hil<|B9 (Av 0 (j:=0+i*1) (u:=.int .i64 ((1:Nat):Int)) O (by omega) (jY hx)) O<|F3 28 (CB O) (λw ho=>sK _ w) O<|A6<|E0 O (by omega)<|P5<|F4<|E2<|C5<|N6 O (by omega)<|A4 O<|A6 ?_;rotate_left;exact DB (i+1) (by omega) (by omega) ⟨rfl,rfl,rfl,rfl,trivial⟩
 ·obtain rfl:i=n:=by omega
  exact A3<|H9 O<|A6<|C8<|E0 O (by omega)<|S4<|J0<|J0<|S5<|E2<|A3<|A5 O<|D4<|E4 O λw9 ho9=>⟨rfl,_,_,ho9⟩
theorem vB(hv:Value)(had:List Nat)(n:Nat)(w:B6)(hn:had.length=n)(h1:∀x∈had,x=1)(hb:n<=512)(ho:B7 (J1 w [.row hv S7 1 n (AY had)]) [.row hv S7 1 n (AY had)] w):
  Calls prog 27 #[hv,.func (.func 28) #[] #[]] w λe w'=>e=.returned (.bool false)/\O0 w (λb=>b∈F1 [.row hv S7 1 n (AY had)]) [.row hv S7 1 n (AY had)] w':=by
 refine G7 ho func27 O ntmps27 O<|A3<|A5 O<|B4 O<|A4 O<|W7 (ι:=Unit) [] [.row hv S7 1 n (AY had)] (λ_=>.int .i64 (-1)) (λ_=>[.row hv S7 1 n (AY had)]) O (A7 O) (λw _ ho=>(rJ hv had n w hn h1 hb ho).mono λe w' h=>⟨(),h⟩) O O λ_=>O1 O<|A5 O<|D4<|E4 O λw9 ho9=>?_;exact⟨rfl,_,_,ho9⟩
theorem pQ(l:List Nat):∀{b:Nat} {had:List Nat},Ha b had->Ha (b+l.length) (V1 had l):=by
 induction l with
 |nil=>intro b had h;exact h
 |cons a l ih=>
  intro b had h;have:=ih (cX h a);intro x hx;have:=this x hx;simp only[T3];omega
theorem zK(m:F2):(AE m).length<=4:=by
 unfold AE;simp only[J8];have:=Tv m.a;have:=Tv m.b;have:=Tv m.c;have:=Tv m.next;omega
theorem kV:∀l:List F2,(l.flatMap AE).length<=4*l.length
 |[]=>by simp
 |m::l=>by
  have:=kV l;have:=zK m;simp only[DL,J8,T3];omega
abbrev p8:Nat:=37
def BE(n:Nat):List Nat:=List.replicate n 0
theorem nS(n:Nat):(madeCells #[Value.int .i64 0] (n*1)).toList=AY (BE n):=by
 apply Nk;intro k;simp only[madeCells,AY,BE,List.map_replicate,Array.toList_map,Array.toList_range,Kj,List.getElem?_range',YO];by_cases h:k<n
 ·rw[List.getElem?_range (by omega),if_pos h];simp[Nat.mod_one]
 ·rw[Fa (by simpa using h),if_neg h];rfl
theorem ai3:Ae prog 95=some ([.slice none 0 0,.int .i64 0,.slice none 0 0],[(0,2),(2,1)]):=by kernel_rfl
structure iF(f:Int)(ns:List F2):Prop where
 short:ns.length<=512
 nodes:∀i m,ns[i]?=some m->∃a b B C s t,JY ns i m a b B C s t
 first:f= -1\/LZ ns 0 ns.length f
 once:∀x∈V1 (BE ns.length) (ns.flatMap AE++rf f),x=1
abbrev e6(g n:Nat):Value:=.slice (some ⟨g,0,none⟩) n n
theorem gY(v:Value)(f:Int)(ns:List F2)(hM:iF f ns)(w:B6)(ho:B7 (J1 w [.row v ND 8 ns.length (L2 ns)]) [.row v ND 8 ns.length (L2 ns)] w):
  Calls prog 14 #[.agg #[v,.int .i64 f]] w λe w'=>e=.returned (.bool true)/\O0 w (λb=>b∈F1 [.row v ND 8 ns.length (L2 ns)]) [.row v ND 8 ns.length (L2 ns)] w':=by
 refine G7 ho func14 O ntmps14 O ?_;have h512:=hM.short;refine A3<|F0 (cs:= #[v,.int .i64 f]) O λgp=>A5 O<|B5<|B2 0 O<|BA 1 O<|Q7 O<|A6<|E0 O (by omega)<|D6<|C8 ?_;apply Bh 5 [_,_,_,_,.rel λu _=>∃gh,u=e6 gh ns.length] (λlst vs=>.B1 gp p8 #[v,.int .i64 f]::.row v ND 8 ns.length (L2 ns)::(if lst 4 then[.row (vs 4) S7 1 ns.length (AY (BE ns.length))] else[])) (by kernel_rfl) (by kernel_rfl) (by kernel_rfl) (λ_=>rfl)
 ·refine E9 O (F7 O (λlst vs hl he=>D0 (FY 0 (cs:= #[v,.int .i64 f]) O)) (λ_ _ _=>rfl))<|E9 O (F7 O (λlst vs hl he=>D0 (I8 0 O)) (λ_ _ _=>rfl))<|E9 O (F7 O (λlst vs hl he=>D0 (K1 0 O)) (λ_ _ _=>rfl))<|E9 O (F7 O (λlst vs hl he=>D0 (Im (i:=1) (by kernel_rfl) O O)) (λ_ _ _=>rfl))<|E9 O (kU O λlst vs hl he w hx=>⟨λgh=>e6 gh ns.length,λgh=>.row (e6 gh ns.length) S7 1 ns.length (AY (BE ns.length)),aB (by':=8) (AY (BE ns.length)) (by kernel_rfl) (λi z q1 q2=>?_) rfl rfl (by simp only[maxLen];omega),λgh=>⟨?_,λ_=>⟨gh,rfl⟩⟩⟩) ?_;rotate_left;rotate_left;exact Bf
  ·have hz:(prog.info? S7).bind (·.zero)=some (.int .i64 0):=by kernel_rfl
   rw[q1] at hz;simp only[RZ] at hz;rw[q2] at hz;cases hz;exact nS _
  ·have hl:lst 4=false:=hl;rw[hl];exact EC (l₁:=[_,_]) (l₂:=[_])
 ·(repeat(first|exact trivial|exact(λ_ _ _ h=>h)|refine⟨trivial,?_⟩|refine⟨λ_ _ _ h=>h,?_⟩))
 ·intro vs w1 hx;obtain⟨⟨gh,hgh⟩,-⟩:=hx;refine x4 (H':=[.B1 gp p8 #[v,.int .i64 f],.row v ND 8 ns.length (L2 ns),.row (e6 gh ns.length) S7 1 ns.length (AY (BE ns.length))]) O (λw ho=>by rw[<-hgh];exact ho)<|Ai (E':=[(1,.pointer (some ⟨gp,0,none⟩)),(9,.agg #[v,.int .i64 f]),(13,e6 gh ns.length)]) ⟨rfl,rfl,by rw[<-hgh];rfl,trivial⟩<|B9 (O7 [v,.int .i64 f,e6 gh ns.length] ai3 O) O<|F0 (cs:= #[v,.int .i64 f,e6 gh ns.length]) O λgk=>A5 O<|B5<|B2 1 O<|BA 2 O<|A4 O<|A6<|C7 ?_;rotate_left;refine CE (H':=[.B1 gp p8 #[v,.int .i64 f]]++Y6 gk v f (e6 gh ns.length) ns (BE ns.length)) (List.Perm.swap ..) ?_;refine l9 (σ:=Nat) (λi=>i<=ns.length) (λi=>[(1,.pointer (some ⟨gp,0,none⟩)),(3,.pointer (some ⟨gk,0,none⟩)),(18,.int .i64 ns.length),(19,.int .i64 i)]) (λi=>[.B1 gp p8 #[v,.int .i64 f]]++Y6 gk v f (e6 gh ns.length) ns (V1 (BE ns.length) ((ns.take i).flatMap AE))) (λi=>ns.length-i)
   (λw ho=>⟨0,R5 _,⟨rfl,rfl,rfl,rfl,trivial⟩,ho⟩) ?_
  intro i hi;have hlz:∀l,(V1 (BE ns.length) l).length=ns.length:=λl=>by rw[Qd];simp[BE]
  have hbz:Ha ((ns.take i).flatMap AE).length (V1 (BE ns.length) ((ns.take i).flatMap AE)):=by
   have:=pQ ((ns.take i).flatMap AE) (b:=0) (had:=BE ns.length) (λx hx=>by simp[BE] at hx;omega);rwa[Y3] at this
  have hlen:((ns.take i).flatMap AE).length<=2048:=by
   have:=kV (ns.take i);rw[ED] at this;omega
  by_cases hil:i<ns.length
  ·obtain⟨m,hm⟩:∃m,ns[i]?=some m:=⟨_,T8 hil⟩
   obtain⟨a,b,B,C,s,t,hN⟩:=hM.nodes i m hm;have hs:V1 (BE ns.length) ((ns.take (i+1)).flatMap AE)=V1 (V1 (BE ns.length) ((ns.take i).flatMap AE)) (AE m):=by
    rw[List.take_succ,hm,Ut,Tc];simp
   refine A3<|H9 O<|A6<|C8<|E7 O (by omega)<|D6<|C8<|C7<|B4 O<|A5 O<|B4 O<|A4 O<|W7 (ι:=Unit) [.B1 gp p8 #[v,.int .i64 f]] (Y6 gk v f (e6 gh ns.length) ns (V1 (BE ns.length) ((ns.take i).flatMap AE))) (λ_=>.bool true) (λ_=>Y6 gk v f (e6 gh ns.length) ns (V1 (V1 (BE ns.length) ((ns.take i).flatMap AE)) (AE m))) O (A7 O) (λw _ ho=>(xO gk v f (e6 gh ns.length) ns _ i m a b B C s t _ w h512 hm hN (hlz _) hbz (by omega) ho).mono λe w' h=>⟨(),h⟩) O O λ_=>J7 O<|A6<|M8 O<|P5<|F4<|E2<|C5<|N6 O (by omega)<|A4 O<|A6 ?_;rotate_left;exact W5 λw ho=>⟨i+1,by omega,by omega,⟨rfl,rfl,rfl,rfl,trivial⟩,rfl,hs▸ho⟩
  ·obtain rfl:i=ns.length:=by omega
   rw[GQ] at*;have h1:=hM.once;rw[Tc] at h1;have hl2:=hlz (ns.flatMap AE++rf f);rw[Tc] at hl2;have hl0:=hlz (ns.flatMap AE);generalize V1 (BE ns.length) (ns.flatMap AE)=had at*;refine A3<|H9 O<|A6<|C8<|E0 O (by omega)<|S4<|J0<|J0<|S5<|E2<|B5<|A4 O<|B2 0 O<|B2 0 O<|BA 2 O<|W7 (ι:=Unit) [.B1 gp p8 #[v,.int .i64 f]] (Y6 gk v f (e6 gh ns.length) ns had) (λ_=>.bool true) (λ_=>Y6 gk v f (e6 gh ns.length) ns (V1 had (rf f))) O (A7 O) (λw _ ho=>(XB hl0 hbz (by omega) hM.first ho).mono λe w' h=>⟨(),h⟩) O O λ_=>J7 O<|A6<|M8 O<|D6<|B4 O<|E5 O<|B2 1 O<|W7 (ι:=Unit) [.B1 gp p8 #[v,.int .i64 f],.B1 gk lI #[v,.int .i64 f,e6 gh ns.length],.row v ND 8 ns.length (L2 ns)] [.row (e6 gh ns.length) S7 1 ns.length (AY (V1 had (rf f)))] (λ_=>.bool false) (λ_=>[.row (e6 gh ns.length) S7 1 ns.length (AY (V1 had (rf f)))]) O (A7 O) (λw _ ho=>(vB _ _ _ w hl2 h1 h512 ho).mono λe w' h=>⟨(),h⟩) O O λ_=>J7 O<|A5 O<|D4<|E4 O λw9 ho9=>?_;refine⟨rfl,_,_,ho9.sublist ?_⟩;exact .cons _ (.cons _ (.cons_cons _ (Ea _)))
end
end Go.Proofs.YtjkhokkdgfbhcaaGreatDoor
namespace Go.Proofs.YtjkhokkdgfbhcaaGreatDoor
theorem aA5(l:List Nat):∀(had:List Nat) (k:Nat),(V1 had l)[k]?=(had[k]?).map λx=>x+l.count k:=by
 induction l with
 |nil=>intro had k;simp[V1]
 |cons a l ih=>
  intro had k;rw[show V1 had (a::l)=V1 (GK had a) l from rfl,ih,GK,List.getElem?_modify,Rb];cases had[k]? with
  |none=>simp
  |some x=>
   by_cases e:a=k
   ·subst e;simp;omega
   ·simp[e]
theorem cQ(k:Nat):rf (k:Int)=[k]:=by unfold rf;rw[if_neg (by omega)];rfl
theorem uT(e:Ex)(n:Nat):rf (e.ix n)=match e with|.no=>[]|.nd _ _ _ a b=>[n+a.size+b.size]:=by
 cases e with
 |no=>rfl
 |nd k i s a b=>exact cQ _
theorem ah7(e:Bl)(n:Nat):rf (e.ix n)=match e with|.no=>[]|.st _ _ _ _ a b B C _=>[n+a.size+b.size+B.size+C.size]:=by
 cases e with
 |no=>rfl
 |st=>exact cQ _
def XR(e:Ex)(n x:Nat):Nat:=((Q0 e n).flatMap AE).count x+(rf (e.ix n)).count x
def Lw(B:Bl)(n x:Nat):Nat:=((N0 B n).flatMap AE).count x+(rf (B.ix n)).count x
def DN(n s x:Nat):Nat:=if n<=x/\x<n+s then 1 else 0
theorem NB(n s t x:Nat):DN n s x+DN (n+s) t x=DN n (s+t) x:=by
 unfold DN;split<;>split<;>split<;>omega
theorem jQ(n x:Nat):[n].count x=DN n 1 x:=by
 unfold DN;rw[List.count_singleton];by_cases h:n=x
 ·subst h;simp
 ·rw[if_neg (by simpa using h),if_neg (by omega)]
theorem UK:∀(e:Ex) (n x:Nat),XR e n x=DN n e.size x
 |.no,n,x=>by show 0+0=DN n 0 x;unfold DN;rw[if_neg (by omega)]
 |.nd k i s a b,n,x=>by
  have ha:=UK a n x;have hb:=UK b (n+a.size) x;unfold XR at*;rw[uT (.nd k i s a b)];simp only[Q0,Ut,Uu,DL,List.flatMap_nil,k5,AE,Wh,List.count_nil,Ex.size];rw[jQ,<-NB n _ 1,<-NB n a.size b.size,<-ha,<-hb,<-EZ n];omega
theorem wJ{n1 n2:Nat}{B:Bl}{b:Ex}(h:b=.no\/B=.no):rf (K5 n1 n2 B b)=rf (b.ix n1)++rf (B.ix n2):=by
 rcases h with rfl|rfl
 ·show rf (B.ix n2)=rf (-1)++rf (B.ix n2);rw[Wh];rfl
 ·show _=_++rf (-1);rw[Wh,k5];cases b<;>rfl
theorem pM{B:Bl}(h:WB B):∀(n x:Nat),Lw B n x=DN n B.size x:=by
 have key:∀(k i:Int) (s t:C9) (a b:Ex) (B C r:Bl),(b=.no\/B=.no)->(∀n x,Lw B n x=DN n B.size x)->(∀n x,Lw C n x=DN n C.size x)->(∀n x,Lw r n x=DN n r.size x)->∀n x,Lw (.st k i s t a b B C r) n x=DN n (Bl.st k i s t a b B C r).size x:=by
  intro k i s t a b B C r hbB hB hC hr n x;have ha:=UK a n x;have hb:=UK b (n+a.size) x;have hB:=hB (n+a.size+b.size) x;have hC:=hC (n+a.size+b.size+B.size) x;have hr:=hr (n+a.size+b.size+B.size+C.size+1) x;unfold XR at ha hb;unfold Lw at*;rw[ah7 (.st k i s t a b B C r)];simp only[N0,Ut,Uu,DL,List.flatMap_nil,k5,AE,wJ hbB,List.count_nil,Bl.size];rw[jQ,<-NB n _ r.size,<-NB n _ 1,<-NB n _ C.size,<-NB n _ B.size,<-NB n a.size b.size];simp only[<-EZ];rw[<-ha,<-hb,<-hB,<-hC,<-hr];omega
 have kno:∀n x,Lw .no n x=DN n Bl.no.size x:=λn x=>by show 0+0=DN n 0 x;unfold DN;rw[if_neg (by omega)]
 induction h with
 |no=>exact kno
 |names k h s hs a ha r hr ih=>exact key _ _ _ _ _ _ _ _ _ (.inl rfl) kno kno ih
 |put a b ha hb r hr ih=>exact key _ _ _ _ _ _ _ _ _ (.inr rfl) kno kno ih
 |one k h a ha r hr ih=>exact key _ _ _ _ _ _ _ _ _ (.inl rfl) kno kno ih
 |iff a ha B hB r hr ihB ih=>exact key _ _ _ _ _ _ _ _ _ (.inl rfl) ihB kno ih
 |Hk a ha B C hB hC r hr ihB ihC ih=>exact key _ _ _ _ _ _ _ _ _ (.inl rfl) ihB ihC ih
 |each s t hs ht a ha i hi B hB r hr ihB ih=>exact key _ _ _ _ _ _ _ _ _ (.inl rfl) ihB kno ih
 |rep i hi B hB r hr ihB ih=>exact key _ _ _ _ _ _ _ _ _ (.inl rfl) ihB kno ih
theorem ap4{B:Bl}(h:WB B):∀x∈V1 (BE B.size) ((N0 B 0).flatMap AE++rf (B.ix 0)),x=1:=by
 intro x hx;obtain⟨k,hk,rfl⟩:=List.mem_iff_getElem.1 hx;have h1:=aA5 ((N0 B 0).flatMap AE++rf (B.ix 0)) (BE B.size) k;rw[T8 hk] at h1;have hk':k<B.size:=by rw[Qd] at hk;simpa[BE] using hk
 have h2:=pM h 0 k;unfold Lw DN at h2;rw[if_pos (by omega)] at h2;rw[Uu,h2] at h1;simp[BE,hk'] at h1;exact h1
theorem Hy{ns:List F2}{n i:Nat}{e:Ex}(h:WE e)(hs:AA ns n e)(hi:n+e.size<=i):UT ns i (e.ix n):=by
 have hk:∃k i s a b,e=.nd k i s a b/\k<20:=by
  cases h with
  |call k h a ha=>exact⟨_,_,_,_,_,rfl,by omega⟩
  |pre k h a ha=>exact⟨_,_,_,_,_,rfl,by omega⟩
  |_=>exact⟨_,_,_,_,_,rfl,by decide⟩
 obtain⟨k,i',s,a,b,rfl,h20⟩:=hk;exact⟨_,_,rfl,by simp only[Ex.size] at hi;omega,hs.root,h20⟩
theorem Mi{ns:List F2}{n lo hi:Nat}{B:Bl}(h:WB B)(hs:f4 ns n B)(hl:lo<=n)(hh:n+B.size<=hi):B.ix n= -1\/LZ ns lo hi (B.ix n):=by
 have hk:B=.no\/∃k i s t a b C D r,B=.st k i s t a b C D r/\20<=k:=by
  cases h with
  |no=>exact .inl rfl
  |names k h=>exact .inr ⟨_,_,_,_,_,_,_,_,_,rfl,by omega⟩
  |one k h=>exact .inr ⟨_,_,_,_,_,_,_,_,_,rfl,by omega⟩
  |_=>exact .inr ⟨_,_,_,_,_,_,_,_,_,rfl,by decide⟩
 rcases hk with rfl|⟨k,i',s,t,a,b,C,D,r,rfl,h20⟩
 ·exact .inl rfl
 ·exact .inr ⟨_,_,rfl,by omega,by simp only[Bl.size] at hh;omega,hs.root,h20⟩
theorem NE{ns:List F2}{e:Ex}(h:WE e):∀n,AA ns n e->∀i m,n<=i->i<n+e.size->ns[i]?=some m->∃a b B C s t,JY ns i m a b B C s t:=by
 have leaf:∀(k i:Int) (s:C9) (n:Nat) (P:F2->Prop),AA ns n (.nd k i s .no .no)->P ⟨k,-1,-1,-1,-1,i,s,[]⟩->∀j m,n<=j->j<n+(Ex.nd k i s .no .no).size->ns[j]?=some m->P m:=by
  intro k i s n P hs hP j m h1 h2 hm;have hr:ns[n]?=some ⟨k,-1,-1,-1,-1,i,s,[]⟩:=hs.root;simp only[Ex.size] at h2;obtain rfl:j=n:=by omega
  rw[hm] at hr;exact Fc hr▸hP
 induction h with
 |nil=>
  intro n hs i m h1 h2 hm;refine leaf _ _ _ n (λm=>∃a b B C s t,JY ns i m a b B C s t) hs ⟨false,false,false,false,false,false,⟨.inl (by dsimp only;decide),rfl,(rfl:(0:Int)=0),?_,rfl,rfl,.inl rfl,.inl rfl⟩⟩ i m h1 h2 hm;exact⟨.inr ⟨rfl,rfl⟩,rfl⟩
 |bool b=>
  intro n hs i m h1 h2 hm;refine leaf _ _ _ n (λm=>∃a b B C s t,JY ns i m a b B C s t) hs ⟨false,false,false,false,false,false,⟨.inl (by dsimp only;decide),rfl,?_,?_,rfl,rfl,.inl rfl,.inl rfl⟩⟩ i m h1 h2 hm
  ·cases b
   ·exact(.inl rfl:(0:Int)=0\/(0:Int)=1)
   ·exact(.inr rfl:(1:Int)=0\/(1:Int)=1)
  ·exact⟨.inr ⟨rfl,rfl⟩,rfl⟩
 |int j hj=>
  intro n hs i m h1 h2 hm;refine leaf _ _ _ n (λm=>∃a b B C s t,JY ns i m a b B C s t) hs ⟨false,false,false,false,false,false,⟨.inl (by dsimp only;decide),rfl,?_,?_,rfl,rfl,.inl rfl,.inl rfl⟩⟩ i m h1 h2 hm
  ·exact hj.1
  ·exact⟨.inr ⟨rfl,rfl⟩,rfl⟩
 |text s h=>
  intro n hs i m h1 h2 hm;refine leaf _ _ _ n (λm=>∃a b B C s t,JY ns i m a b B C s t) hs ⟨false,false,false,false,false,false,⟨.inl (by dsimp only;decide),rfl,rfl,?_,rfl,rfl,.inl rfl,.inl rfl⟩⟩ i m h1 h2 hm;exact⟨.inr ⟨rfl,rfl⟩,h⟩
 |name s h=>
  intro n hs i m h1 h2 hm;refine leaf _ _ _ n (λm=>∃a b B C s t,JY ns i m a b B C s t) hs ⟨false,false,false,false,true,false,⟨.inl (by dsimp only;decide),rfl,rfl,?_,rfl,rfl,.inl rfl,.inl rfl⟩⟩ i m h1 h2 hm;exact⟨.inr ⟨rfl,rfl⟩,h⟩
 |call k h a ha ih=>
  intro n hs i m h1 h2 hm;have hr:=hs.root;simp only[Ex.size] at h2 hr;by_cases hi:i<n+a.size
  ·exact ih n hs.left i m h1 hi hm
  ·obtain rfl:i=n+a.size+0:=by omega
   rw[hm] at hr;obtain rfl:=Fc hr;have e:LF k=[true,false,false,false,false,false]:=by
    unfold LF;rw[if_neg (by omega),if_neg (by omega),if_neg (by omega),if_neg (by omega),if_neg (by omega),if_neg (by omega),if_neg (by omega)]
   refine⟨true,false,false,false,false,false,⟨.inl ⟨by simp only;omega,by simp only;omega⟩,e,?_,?_,Hy ha hs.left (by omega),rfl,.inl rfl,.inl rfl⟩⟩
   ·unfold KM;rw[if_neg (by simp only;omega),if_neg (by simp only;omega),if_neg (by simp only;omega),if_neg (by simp only;omega)]
   ·refine⟨.inr ⟨rfl,rfl⟩,?_⟩;rw[if_neg (by simp only;omega),if_neg (by simp only;omega)];rfl
 |pre k h a ha ih=>
  intro n hs i m h1 h2 hm;have hr:=hs.root;simp only[Ex.size] at h2 hr;by_cases hi:i<n+a.size
  ·exact ih n hs.left i m h1 hi hm
  ·obtain rfl:i=n+a.size+0:=by omega
   rw[hm] at hr;obtain rfl:=Fc hr;have e:LF k=[true,false,false,false,false,false]:=by
    unfold LF;rw[if_neg (by omega),if_neg (by omega),if_neg (by omega),if_neg (by omega),if_neg (by omega),if_neg (by omega),if_neg (by omega)]
   refine⟨true,false,false,false,false,false,⟨.inl ⟨by simp only;omega,by simp only;omega⟩,e,?_,?_,Hy ha hs.left (by omega),rfl,.inl rfl,.inl rfl⟩⟩
   ·unfold KM;rw[if_neg (by simp only;omega),if_neg (by simp only;omega),if_neg (by simp only;omega),if_neg (by simp only;omega)]
   ·refine⟨.inr ⟨rfl,rfl⟩,?_⟩;rw[if_neg (by simp only;omega),if_neg (by simp only;omega)];rfl
 |two s c h a b ha hb iha ihb=>
  intro n hs i m h1 h2 hm;have hr:=hs.root;simp only[Ex.size] at h2;by_cases hi:i<n+a.size
  ·exact iha n hs.left i m h1 hi hm
  by_cases hi2:i<n+a.size+b.size
  ·exact ihb _ hs.right i m (by omega) hi2 hm
  ·obtain rfl:i=n+a.size+b.size:=by omega
   rw[hm] at hr;obtain rfl:=Fc hr;refine⟨true,true,false,false,false,false,⟨.inl (by dsimp only;decide),rfl,rfl,⟨.inr ⟨rfl,rfl⟩,?_⟩,Hy ha hs.left (by omega),Hy hb hs.right (by omega),.inl rfl,.inl rfl⟩⟩;show 0<=Mg _;unfold Mg;rw[if_neg (by dsimp only;omega),if_neg (by dsimp only;omega)];simp only[h];omega
def Jy(ns:List F2)(i:Nat)(m:F2):Prop:=∃a b B C s t,JY ns i m a b B C s t
theorem MN{ns:List F2}{n:Nat}{k i:Int}{s t:C9}{a b:Ex}{B C r:Bl}(hs:f4 ns n (.st k i s t a b B C r))
  (pa:∀i m,n<=i->i<n+a.size->ns[i]?=some m->Jy ns i m)(pb:∀i m,n+a.size<=i->i<n+a.size+b.size->ns[i]?=some m->Jy ns i m)
  (pB:∀i m,n+a.size+b.size<=i->i<n+a.size+b.size+B.size->ns[i]?=some m->Jy ns i m)(pC:∀i m,n+a.size+b.size+B.size<=i->i<n+a.size+b.size+B.size+C.size->ns[i]?=some m->Jy ns i m)
  (pr:∀i m,n+a.size+b.size+B.size+C.size+1<=i->i<n+a.size+b.size+B.size+C.size+1+r.size->ns[i]?=some m->Jy ns i m)
  (root:Jy ns (n+a.size+b.size+B.size+C.size) ⟨k,a.ix n,K5 (n+a.size) (n+a.size+b.size) B b,C.ix (n+a.size+b.size+B.size),r.ix (n+a.size+b.size+B.size+C.size+1),i,s,t⟩):
  ∀i m,n<=i->i<n+(Bl.st k i s t a b B C r).size->ns[i]?=some m->Jy ns i m:=by
 intro j m h1 h2 hm;simp only[Bl.size] at h2;by_cases c1:j<n+a.size
 ·exact pa j m h1 c1 hm
 by_cases c2:j<n+a.size+b.size
 ·exact pb j m (by omega) c2 hm
 by_cases c3:j<n+a.size+b.size+B.size
 ·exact pB j m (by omega) c3 hm
 by_cases c4:j<n+a.size+b.size+B.size+C.size
 ·exact pC j m (by omega) c4 hm
 by_cases c5:j=n+a.size+b.size+B.size+C.size
 ·subst c5;have hr:=hs.root;rw[hm] at hr;exact Fc hr▸root
 ·exact pr j m (by omega) (by omega) hm
theorem EA{ns:List F2}{n:Nat}:∀i m,n<=i->i<n+0->ns[i]?=some m->Jy ns i m:=λi m h1 h2=>by omega
theorem Mn{ns:List F2}{n:Nat}{k:Int}{r:Bl}(hk:20<=k)(hr:WB r)(hs:f4 ns (n+1) r):r.ix (n+1)= -1\/20<=k/\LZ ns (n+1) ns.length (r.ix (n+1)):=
 (Mi hr hs (L6 _) hs.le).imp id λh=>⟨hk,h⟩
theorem nY{ns:List F2}{B:Bl}(h:WB B):∀n,f4 ns n B->∀i m,n<=i->i<n+B.size->ns[i]?=some m->Jy ns i m:=by
 induction h with
 |no=>intro n hs;exact EA
 |names k h s hs a ha r hr ih=>
  intro n hS;refine MN hS (NE ha n hS.sa) EA EA EA (ih _ hS.sr) ?_;have ra:=Hy (i:=n+a.size+0+0+0) ha hS.sa (by omega);have e:LF k=[true,false,false,false,true,false]:=by rcases h with rfl|rfl<;>rfl
  have e2:∀m:F2,m.kind=k->m.i=0->KM m:=λm h1 h2=>by
   unfold KM;rw[if_neg (by omega),if_neg (by omega),if_neg (by omega),if_neg (by omega)];exact h2
  refine⟨true,false,false,false,true,false,⟨.inr ⟨by dsimp only;omega,by dsimp only;omega⟩,e,e2 _ rfl rfl,⟨.inr ⟨rfl,rfl⟩,?_⟩,ra,rfl,.inl rfl,Mn (by dsimp only;omega) hr hS.sr⟩⟩;rw[if_neg (by dsimp only;omega),if_neg (by dsimp only;omega),if_pos rfl];exact hs
 |put a b ha hb r hr ih=>
  intro n hS;refine MN hS (NE ha n hS.sa) (NE hb _ hS.sb) EA EA (ih _ hS.sr) ?_;obtain⟨k1,i1,s1,a1,b1,rfl⟩:=hb.ne;exact⟨true,true,false,false,false,false,⟨.inr (by dsimp only;decide),rfl,(rfl:(0:Int)=0),⟨.inr ⟨rfl,rfl⟩,rfl⟩,Hy ha hS.sa (by omega),Hy hb hS.sb (by omega),.inl rfl,Mn (by dsimp only;decide) hr hS.sr⟩⟩
 |one k h a ha r hr ih=>
  intro n hS;refine MN hS (NE ha n hS.sa) EA EA EA (ih _ hS.sr) ?_;have ra:=Hy (i:=n+a.size+0+0+0) ha hS.sa (by omega);have e:LF k=[true,false,false,false,false,false]:=by rcases h with rfl|rfl|rfl<;>rfl
  have e2:∀m:F2,m.kind=k->m.i=0->KM m:=λm h1 h2=>by
   unfold KM;rw[if_neg (by omega),if_neg (by omega),if_neg (by omega),if_neg (by omega)];exact h2
  refine⟨true,false,false,false,false,false,⟨.inr ⟨by dsimp only;omega,by dsimp only;omega⟩,e,e2 _ rfl rfl,⟨.inr ⟨rfl,rfl⟩,?_⟩,ra,rfl,.inl rfl,Mn (by dsimp only;omega) hr hS.sr⟩⟩;rw[if_neg (by dsimp only;omega),if_neg (by dsimp only;omega)];rfl
 |iff a ha B hB r hr ihB ih=>
  intro n hS;refine MN hS (NE ha n hS.sa) EA (ihB _ hS.sB) EA (ih _ hS.sr) ?_;exact⟨true,false,true,true,false,false,⟨.inr (by dsimp only;decide),rfl,(.inr ⟨rfl,rfl⟩:(0:Int)=1\/(0:Int)=0/\(-1:Int)= -1),⟨.inr ⟨rfl,rfl⟩,rfl⟩,Hy ha hS.sa (by omega),Mi hB hS.sB (by omega) (by omega),.inl rfl,Mn (by dsimp only;decide) hr hS.sr⟩⟩
 |Hk a ha B C hB hC r hr ihB ihC ih=>
  intro n hS;refine MN hS (NE ha n hS.sa) EA (ihB _ hS.sB) (ihC _ hS.sC) (ih _ hS.sr) ?_;exact⟨true,false,true,true,false,false,⟨.inr (by dsimp only;decide),rfl,(.inl rfl:(1:Int)=1\/(1:Int)=0/\_=(-1:Int)),⟨.inr ⟨rfl,rfl⟩,rfl⟩,Hy ha hS.sa (by omega),Mi hB hS.sB (by omega) (by omega),(Mi hC hS.sC (by omega) (by omega)).imp id λh=>⟨rfl,h⟩,Mn (by dsimp only;decide) hr hS.sr⟩⟩
 |each s t hs ht a ha i hi B hB r hr ihB ih=>
  intro n hS;refine MN hS (NE ha n hS.sa) EA (ihB _ hS.sB) EA (ih _ hS.sr) ?_;exact⟨true,false,true,false,true,true,⟨.inr (by dsimp only;decide),rfl,hi,⟨.inl ⟨rfl,ht⟩,hs⟩,Hy ha hS.sa (by omega),Mi hB hS.sB (by omega) (by omega),.inl rfl,Mn (by dsimp only;decide) hr hS.sr⟩⟩
 |rep i hi B hB r hr ihB ih=>
  intro n hS;refine MN hS EA EA (ihB _ hS.sB) EA (ih _ hS.sr) ?_;exact⟨false,false,true,false,false,false,⟨.inr (by dsimp only;decide),rfl,hi,⟨.inr ⟨rfl,rfl⟩,rfl⟩,rfl,Mi hB hS.sB (by omega) (by omega),.inl rfl,Mn (by dsimp only;decide) hr hS.sr⟩⟩
theorem sub_self(B:Bl):f4 (N0 B 0) 0 B:=⟨[],[],by simp,rfl⟩
theorem fS{B:Bl}(h:WB B)(hs:B.size<=512):iF (B.ix 0) (N0 B 0) where
 short:=by rw[j3];exact hs
 nodes:=λi m hm=>nY h 0 (sub_self B) i m (R5 _) (by have:=(N5.1 hm).1;rw[j3] at this;omega) hm
 first:=by have:=Mi h (sub_self B) (L6 0) (L6 _);rwa[Y3,<-j3 B 0] at this
 once:=by rw[j3];exact ap4 h
end Go.Proofs.YtjkhokkdgfbhcaaGreatDoor
namespace Go.Proofs.YtjkhokkdgfbhcaaGreatDoor
open Go.RowKit Tryz
section
attribute [local irreducible] F8 D3 Exit.then Exit.inBlock Exit.noGoto wpQuiet Calls fin At G9 L3 L7 RQ R9
theorem ak9(b:Bool)(w:B6):I6 144 #[.bool b] w (.string (bs (if b then Ep else EG))):=by
 refine J5 func144 O ntmps144 O ?_;cases b
 ·exact A3<|A5 O<|B5<|A4 O<|A6<|M8 O<|D6<|A3<|A5 O<|D4<|E4 O λw9 ho9=>⟨rfl,ho9.plain⟩
 ·exact A3<|A5 O<|B5<|A4 O<|A6<|R1 O<|A3<|A5 O<|D4<|K0<|E4 O λw9 ho9=>⟨rfl,ho9.plain⟩
theorem VR(b:Bool)(w:B6):I6 112 #[.bool b] w (.string (bs (if b then Ep else EG))):=by
 refine J5 func112 O ntmps112 O<|A3<|A5 O<|B4 O<|F3 144 (A7 O) (λw ho=>ak9 b w) O<|A5 O<|D4<|E4 O λw9 ho9=>?_;exact⟨rfl,ho9.plain⟩
abbrev Fk:Nat:=66
def IX(g:Nat)(v:Value)(f:Int)(b:Bool)(bv:Value):Array Value:= #[v,.int .i64 f,.pointer (if b then some ⟨g,2,none⟩ else none),bv]
def wr(g:Nat)(v:Value)(f:Int)(ns:List F2)(q:Bool×Value)(l:List UInt8):List C2:=
 [.B1 g Fk (IX g v f q.1 q.2),.row v ND 8 ns.length (L2 ns),.row q.2 U8 1 l.length (Z3 l)]
theorem Xw(g:Nat)(v:Value)(f:Int)(b:Bool)(bv:Value):Dx (IX g v f b bv) g 2 bv:=⟨by cases b;exact .inl rfl;exact .inr rfl,rfl⟩
theorem ak8:Pr Fk 4 2:=⟨by kernel_rfl⟩
def Lu(w:World)(g:Nat)(v:Value)(f:Int)(ns:List F2)(H:List C2)(l':List UInt8)(e:Ending)(w':World):Prop:=∃q,e=.returned (.tuple #[])/\O0 w (λk=>k∈F1 H) (wr g v f ns q l') w'
theorem xC(g:Nat)(v:Value)(f:Int)(ns:List F2)(q:Bool×Value)(l:C9)(gl:Nat)(ts:List (List UInt8))(w:B6)(ht:ts.length<=100)(hb:l.length+ts.flatten.length<=1000000)
  (ho:B7 (J1 w (.B1 gl S0 (D1 ts).toArray::wr g v f ns q l)) (.B1 gl S0 (D1 ts).toArray::wr g v f ns q l) w):
  Calls prog 30 #[.pointer (some ⟨g,0,none⟩),.slice (some ⟨gl,0,none⟩) ts.length ts.length] w (Lu w g v f ns (.B1 gl S0 (D1 ts).toArray::wr g v f ns q l) (l++ts.flatten)):=by
 refine G7 ho func30 O ntmps30 O<|B4 O<|d1 O<|A4 O<|A6<|C7 ?_;rotate_left;refine l9 (σ:=Nat×(Bool×Value)) (λs=>s.1<=ts.length) (λs=>[(0,.pointer (some ⟨g,0,none⟩)),(6,.slice (some ⟨gl,0,none⟩) ts.length ts.length),(7,.int .i64 ts.length),(8,.int .i64 s.1)]) (λs=>.B1 gl S0 (D1 ts).toArray::wr g v f ns s.2 (l++(ts.take s.1).flatten)) (λs=>ts.length-s.1)
  (λw ho=>⟨(0,q),R5 _,⟨rfl,rfl,rfl,rfl,trivial⟩,by rw[Rr,List.flatten_nil,k5];exact ho⟩) ?_
 rintro⟨i,q⟩ hi;dsimp only at hi⊢;by_cases hil:i<ts.length
 ·have hx:ts[i]?=some ts[i]:=T8 hil;have hs:(l++(ts.take i).flatten)++ts[i]=l++(ts.take (i+1)).flatten:=by
   rw[List.take_succ,hx,List.flatten_append,Q2];simp
  have hlen:(l++(ts.take i).flatten).length+ts[i].length<=1000000:=by
   rw[<-J8,hs,J8];have h2:=congrArg (λl=>(List.flatten l).length) (FZ (i+1) ts);simp only[List.flatten_append,J8] at h2;omega
  generalize l++(ts.take i).flatten=l1 at hs hlen⊢;have hv:(D1 ts).toArray[0+i*1]?=some (.string (bs ts[i])):=by simp[D1,hx]
  generalize ts[i]=t at*;refine A3<|H9 O<|A6<|C8<|E7 O (by omega)<|D6<|C8<|C7<|A3<|Q4 (j:=i) O hil<|B9 (c7 0 (j:=0+i*1) O hv) O<|A5 O<|C5<|A4 O<|E5 O<|D9 O<|A4 O ?_;rotate_left;refine CE (List.Perm.cons _ (List.Perm.swap ..))<|W7 (ι:=Value) [.B1 gl S0 (D1 ts).toArray,.row v ND 8 ns.length (L2 ns)] [.B1 g Fk (IX g v f q.1 q.2),.row q.2 U8 1 l1.length (Z3 l1)] (λ_=>.tuple #[.int .i64 t.length,.nilIface]) (λv'=>[.B1 g Fk (IX g v f true v'),.row v' U8 1 (l1++t).length (Z3 (l1++t))]) O (A7 O) (λw _ ho=>eA g 2 Fk _ _ l1 t w (Xw g v f q.1 q.2) ak8 hlen ho) O O λv16=>H6<|F4<|E2<|C5<|N6 O (by omega)<|A4 O<|A6 ?_;rotate_left;exact W5 λw ho=>⟨(i+1,(true,v16)),by dsimp only;omega,by dsimp only;omega,⟨rfl,rfl,rfl,rfl,trivial⟩,rfl,hs▸ho.perm (List.Perm.cons _ (List.Perm.swap ..))⟩
 ·obtain rfl:i=ts.length:=by omega
  refine A3<|H9 O<|A6<|C8<|E0 O (by omega)<|S4<|J0<|J0<|S5<|K7 O λw9 ho9=>?_;rw[GQ] at ho9;exact⟨q,rfl,_,_,ho9.sublist (L9 ..)⟩
structure Cr(w:World):Prop where
 Q8:j0 w
 AB:FU w
def Gm(H:List C2):Prop:=∀k∈F1 H,3<=k
structure GW(C:I3):Prop where
 p6:Cr C.W
 low:∀k,C.L k->3<=k
theorem FU.lt{w:B6}(h:FU w):2<w.heap.size:=by
 have hg:prog.globalNamed "internal/strconv.uint64pow10" =some 2:=by kernel_rfl
 unfold FU Lib.TabIs World.var? at h;rw[hg,RZ] at h;cases e:w.heap[2]? with
 |none=>rw[e] at h;cases h
 |some o=>exact(T1.1 e).1
theorem B7.p6{C:I3}{H:List C2}{w:B6}(ho:B7 C H w)(hG:GW C):Cr w:=
 ⟨ho.Q8 hG.p6.Q8 (λh=>by have:=hG.low 0 h;omega),ho.AB hG.p6.AB (λh=>by have:=hG.low 2 h;omega)⟩
theorem B7.up{C:I3}{H:List C2}{w:B6}(ho:B7 C H w)(hG:GW C):Gm H:=λk hk=>by
 rcases(ho.X8 k hk).1 with h|h
 ·have:=hG.p6.AB.lt;omega
 ·exact hG.low k (ho.sub k h)
theorem Gm.left{A B:List C2}(h:Gm (A++B)):Gm A:=λk hk=>h k (by rw[DY];exact Lz _ hk)
theorem AG{w:B6}{H:List C2}(hG:Cr w)(hU:Gm H):GW (J1 w H):=⟨hG,hU⟩
theorem x6{w w':B6}{g:Nat}{v:Value}{f:Int}{ns:List F2}{H:List C2}{q:Bool×Value}{l1 l':C9}(R:List C2)(h:O0 w (λk=>k∈F1 H) (R++wr g v f ns q l1) w')(e:l1=l'):Lu w g v f ns H l' (.returned (.tuple #[])) w':=by
 subst e;obtain⟨b,F,h⟩:=h;exact⟨q,rfl,b,F,h.sublist (Pd _ _)⟩
section
variable{C:I3}{H:List C2}{E:List (Nat×Value)}{n:Nat}{r:Option Nat}{Q:Exit->Act->World->Prop}{ops:Array Oper}{rest:List Oper}
theorem Z5{d:Nat}{op:Op}{ty:TypeId}{pos:String}{after:Array Edge}{g:Nat}{v:Value}{f:Int}{ns:List F2}{q:Bool×Value}{gl:Nat}(ts:List (List UInt8))(R:List C2)(l:C9)(hH:H=.B1 gl S0 (D1 ts).toArray::(R++wr g v f ns q l))(hb:l.length+ts.flatten.length<=1000000)
  (he:f0 prog n E C ((.B1 gl S0 (D1 ts).toArray::wr g v f ns q l)++R) ⟨some d,op,ty,pos,after,none⟩ 30 #[.pointer (some ⟨g,0,none⟩),.slice (some ⟨gl,0,none⟩) ts.length ts.length])(ht:Nat.ble ts.length 100=true)(hn:Op.X9 op=false)(hd:Nat.blt d n=true)
  (k:∀q',At n ((d,.tuple #[])::E) C (R++wr g v f ns q' (l++ts.flatten)) (D3 r prog ops Q rest)):At n E C H (D3 r prog ops Q (⟨some d,op,ty,pos,after,none⟩::rest)):=by
 subst hH;refine CE (H':=R++(.B1 gl S0 (D1 ts).toArray::wr g v f ns q l)) Nr ?_;exact W7 R _ (λ_=>.tuple #[]) (λq'=>wr g v f ns q' (l++ts.flatten)) O he (λw _ ho=>(xC g v f ns q l gl ts w (Nat.le_of_ble_eq_true ht) hb ho).mono λe w' ⟨q',h1,h2⟩=>⟨q',h1,h2⟩) hn hd k
theorem r6{d:Nat}{op:Op}{ty:TypeId}{pos:String}{after:Array Edge}{fn:FuncId}{args:J2}{g:Nat}{v:Value}{f:Int}{ns:List F2}{q:Bool×Value}(R:List C2)(l l':C9)(hH:H=R++wr g v f ns q l)
  (he:f0 prog n E C (wr g v f ns q l++R) ⟨some d,op,ty,pos,after,none⟩ fn args)(hG:GW C)(hc:∀w,Cr w->Gm (wr g v f ns q l)->B7 (J1 w (wr g v f ns q l)) (wr g v f ns q l) w->Calls prog fn args w (Lu w g v f ns (wr g v f ns q l) l'))(hn:Op.X9 op=false)(hd:Nat.blt d n=true)
  (k:∀q',At n ((d,.tuple #[])::E) C (R++wr g v f ns q' l') (D3 r prog ops Q rest)):At n E C H (D3 r prog ops Q (⟨some d,op,ty,pos,after,none⟩::rest)):=
 W7 R _ (λ_=>.tuple #[]) (λq'=>wr g v f ns q' l') hH he (λw ho1 ho=>(hc w (ho1.p6 hG) (ho1.up hG).left ho).mono λe w' ⟨q',h1,h2⟩=>⟨q',h1,h2⟩) hn hd k
end
abbrev tE(e:Ex):List UInt8:=S3 (Y8 e)
def Uc(e:Ex):Prop:=∀(n:Nat) (ns:List F2),AA ns n e->∀(g:Nat) (v:Value) (f:Int) (q:Bool×Value) (l:List UInt8) (w:World),Cr w->Gm (wr g v f ns q l)->l.length+(tE e).length<=1000000->B7 (J1 w (wr g v f ns q l)) (wr g v f ns q l) w->
 Calls prog 59 #[.pointer (some ⟨g,0,none⟩),.int .i64 (e.ix n)] w (Lu w g v f ns (wr g v f ns q l) (l++tE e))
theorem mB{k i:Int}{s:C9}{a b:Ex}(h:WE (.nd k i s a b))(m:F2)(h1:m.kind=k)(h2:m.s=s):Mg m=P6 (.nd k i s a b):=by
 unfold Mg;rw[h1,h2];cases h with
 |call k h a ha=>
  rw[if_neg (by omega),if_pos (by omega)];simp only[P6];rw[if_neg (by omega)];rfl
 |pre k h a ha=>
  rw[if_neg (by omega),if_pos (by omega)];simp only[P6];rw[if_neg (by omega)];rfl
 |two s c h a b ha hb=>
  rw[if_neg (by omega),if_neg (by omega),h];simp only[P6,if_true,h];rfl
 |_=>rfl
abbrev tP(c least:Nat)(e:Ex):List UInt8:=S3 (GG c least (Y8 e))
theorem lB{c least:Nat}{e:Ex}(h:¬least<=c):tP c least e=[40]++(tE e++[41]):=by
 unfold tP tE GG;rw[if_neg h,o9,Ap];rfl
theorem bO{c least:Nat}{e:Ex}(h:least<=c):tP c least e=tE e:=by
 unfold tP tE GG;rw[if_pos h]
theorem OQ{e:Ex}(he:WE e)(hC:Uc e)(n:Nat)(ns:List F2)(hs:AA ns n e)(least:Nat)(g:Nat)(v:Value)(f:Int)(q:Bool×Value)(l:C9)(w:B6)(hG:Cr w)(hU:Gm (wr g v f ns q l))(hb:l.length+(tP (P6 e) least e).length<=1000000)(ho:B7 (J1 w (wr g v f ns q l)) (wr g v f ns q l) w):
  Calls prog 114 #[.pointer (some ⟨g,0,none⟩),.int .i64 (e.ix n),.int .i64 least] w (Lu w g v f ns (wr g v f ns q l) (l++tP (P6 e) least e)):=by
 have hE:=hC n ns hs;have hC:GW (J1 w (wr g v f ns q l)):=AG hG hU;refine G7 ho func114 O ntmps114 O ?_;obtain⟨k,i,s,a,b,rfl⟩:=he.ne;have hr:=hs.root;have hcl:=mB he (m:=⟨k,a.ix n,b.ix (n+a.size),-1,-1,i,s,[]⟩) rfl rfl;generalize hm:(⟨k,a.ix n,b.ix (n+a.size),-1,-1,i,s,[]⟩:F2)=m at hr hcl;have hx:(Ex.nd k i s a b).ix n=((n+a.size+b.size:Nat):Int):=rfl;rw[hx];rw[hx] at hE;generalize n+a.size+b.size=j at hr hE hx⊢;have hjl:j<ns.length:=(N5.1 hr).1;generalize Ex.nd k i s a b=e at*;refine R7 1 O ?_;rintro⟨_,⟨_,h0⟩|⟨gn,c,rfl⟩⟩
 ·omega
 by_cases hle:least<=P6 e
 ·rw[bO hle] at hb⊢;exact B5<|A4 O<|E5 O<|D9 O<|B2 0 O<|A4 O<|Q4 (j:=j) O hjl<|U6 (vs:=D7 m) O (λw' ho=>X7 Y0 ho (q:=1) rfl hr)<|F3 110 (A7 O) (λw ho=>Qq m w) O<|A4 O<|O1 O<|A6<|E7 O (by omega)<|B4 O<|A4 O<|r6 [] (l:=l) (l++tE e) O (A7 O) hC (λw hG hU ho=>hE g _ f q l w hG hU hb ho) O O λq19=>A6<|D4<|K0<|Ct O O λw9 ho9=>x6 [] ⟨_,_,ho9⟩ rfl
 ·rw[lB hle] at hb⊢;exact B5<|A4 O<|E5 O<|D9 O<|B2 0 O<|A4 O<|Q4 (j:=j) O hjl<|U6 (vs:=D7 m) O (λw' ho=>X7 Y0 ho (q:=1) rfl hr)<|F3 110 (A7 O) (λw ho=>Qq m w) O<|A4 O<|O1 O<|A6<|E0 O (by omega)<|D6<|B4 O<|N7 (D1 [[40]]) (D1 [[40]]) O λgl=>Z5 [[40]] [] (l:=l) O (by(simp at hb⊢;omega)) (A7 O) O O O λq22=>I9 O<|A4 O<|r6 [] (l:=l++[40]) (l++[40]++tE e) O (A7 O) hC (λw hG hU ho=>hE g _ f q22 (l++[40]) w hG hU (by(simp at hb⊢;omega)) ho) O O λq25=>A6<|C5<|A4 O<|N7 (D1 [[41]]) (D1 [[41]]) O λgl=>Z5 [[41]] [] (l:=l++[40]++tE e) O (by(simp at hb⊢;omega)) (A7 O) O O O λq28=>H6<|K7 O λw9 ho9=>x6 [] ⟨_,_,ho9⟩ (by simp[Q2])
theorem BO{ns:List F2}{n:Nat}{k i:Int}{s:C9}{a b:Ex}(h:AA ns n (.nd k i s a b)):n+a.size+b.size<ns.length:=(N5.1 h.root).1
theorem SC:Mq prog 183=some (List.replicate 4 (.string (bs [])),1):=by kernel_rfl
def SF:List (List UInt8):=[[103,101,116],[104,97,115],[108,101,110],[115,104,111,119]]
theorem IU{e:Ex}(he:WE e):Uc e:=by
 induction he with
 |nil=>
  intro n ns hs g v f q l w hG hU hb ho;have hC:GW (J1 w (wr g v f ns q l)):=AG hG hU;have hr:=hs.root;have hjl:=BO hs;have e1:tE (.nd 0 0 [] .no .no)=EJ:=rfl;rw[e1] at hb⊢;refine G7 ho HC O HD O<|R7 1 O ?_;rintro⟨_,⟨_,h0⟩|⟨gn,cp,rfl⟩⟩
  ·omega
  obtain⟨j,hj⟩:∃j,j=n+Ex.size .no+Ex.size .no:=⟨_,rfl⟩
  rw[<-hj] at hr hjl;have hx:(Ex.nd 0 0 [] .no .no).ix n=((j:Nat):Int):=by rw[hj];rfl
  rw[hx];refine B4 O<|E5 O<|D9 O<|B2 0 O<|A4 O<|Q4 (j:=j) O hjl<|U6 (vs:=D7 _) O (λw' ho=>X7 Y0 ho (q:=1) rfl hr)<|E3 V2 O λgz0=>E8 0 _ O<|I0<|B2 0 O<|A6<|C7<|A3<|C6 O<|C4 O (λz1=>?_) (λz1=>?_);refine C5<|A4 O<|N7 (D1 [EJ]) (D1 [EJ]) O λgl=>Z5 [EJ] [.B1 gz0 ND (D7 ⟨0,Ex.ix n .no,Ex.ix (n+Ex.size .no) .no,-1,-1,0,[],[]⟩).toArray] (l:=l) O (by(simp at hb⊢;omega)) (A7 O) O O O λq38=>H6<|F4<|K7 O λw9 ho9=>?_;rotate_left;contradiction;exact x6 [.B1 gz0 ND (D7 ⟨0,Ex.ix n .no,Ex.ix (n+Ex.size .no) .no,-1,-1,0,[],[]⟩).toArray] ⟨_,_,ho9⟩ (by simp)
 |bool b=>
  cases b
  ·show Uc (.nd 1 0 [] .no .no);intro n ns hs g v f q l w hG hU hb ho;have hC:GW (J1 w (wr g v f ns q l)):=AG hG hU;have hr:=hs.root;have hjl:=BO hs;have e1:tE (.nd 1 0 [] .no .no)=EG:=rfl;rw[e1] at hb⊢;refine G7 ho HC O HD O<|R7 1 O ?_;rintro⟨_,⟨_,h0⟩|⟨gn,cp,rfl⟩⟩
   ·omega
   obtain⟨j,hj⟩:∃j,j=n+Ex.size .no+Ex.size .no:=⟨_,rfl⟩
   rw[<-hj] at hr hjl;have hx:(Ex.nd 1 0 [] .no .no).ix n=((j:Nat):Int):=by rw[hj];rfl
   rw[hx];refine B4 O<|E5 O<|D9 O<|B2 0 O<|A4 O<|Q4 (j:=j) O hjl<|U6 (vs:=D7 _) O (λw' ho=>X7 Y0 ho (q:=1) rfl hr)<|E3 V2 O λgz0=>E8 0 _ O<|I0<|B2 0 O<|A6<|C7<|A3<|C6 O<|C4 O (λz1=>absurd z1 (by simp[*])) λz1=>A3<|C6 O<|C4 O (λz2=>?_) (λz2=>?_);refine C5<|A4 O<|B2 0 O<|H5 O<|F3 112 (A7 O) (λw ho=>VR _ w) O<|N7 (D1 [EG]) (D1 [EG]) O λgl=>Z5 [EG] [.B1 gz0 ND (D7 ⟨1,Ex.ix n .no,Ex.ix (n+Ex.size .no) .no,-1,-1,0,[],[]⟩).toArray] (l:=l) O (by(simp at hb⊢;omega)) (A7 O) O O O λq47=>H6<|F4<|K7 O λw9 ho9=>?_;rotate_left;contradiction;exact x6 [.B1 gz0 ND (D7 ⟨1,Ex.ix n .no,Ex.ix (n+Ex.size .no) .no,-1,-1,0,[],[]⟩).toArray] ⟨_,_,ho9⟩ (by simp)
  ·show Uc (.nd 1 1 [] .no .no);intro n ns hs g v f q l w hG hU hb ho;have hC:GW (J1 w (wr g v f ns q l)):=AG hG hU;have hr:=hs.root;have hjl:=BO hs;have e1:tE (.nd 1 1 [] .no .no)=Ep:=rfl;rw[e1] at hb⊢;refine G7 ho HC O HD O<|R7 1 O ?_;rintro⟨_,⟨_,h0⟩|⟨gn,cp,rfl⟩⟩
   ·omega
   obtain⟨j,hj⟩:∃j,j=n+Ex.size .no+Ex.size .no:=⟨_,rfl⟩
   rw[<-hj] at hr hjl;have hx:(Ex.nd 1 1 [] .no .no).ix n=((j:Nat):Int):=by rw[hj];rfl
   rw[hx];refine B4 O<|E5 O<|D9 O<|B2 0 O<|A4 O<|Q4 (j:=j) O hjl<|U6 (vs:=D7 _) O (λw' ho=>X7 Y0 ho (q:=1) rfl hr)<|E3 V2 O λgz0=>E8 0 _ O<|I0<|B2 0 O<|A6<|C7<|A3<|C6 O<|C4 O (λz1=>absurd z1 (by simp[*])) λz1=>A3<|C6 O<|C4 O (λz2=>?_) (λz2=>?_);refine C5<|A4 O<|B2 0 O<|H5 O<|F3 112 (A7 O) (λw ho=>VR _ w) O<|N7 (D1 [Ep]) (D1 [Ep]) O λgl=>Z5 [Ep] [.B1 gz0 ND (D7 ⟨1,Ex.ix n .no,Ex.ix (n+Ex.size .no) .no,-1,-1,1,[],[]⟩).toArray] (l:=l) O (by(simp at hb⊢;omega)) (A7 O) O O O λq47=>H6<|F4<|K7 O λw9 ho9=>?_;rotate_left;contradiction;exact x6 [.B1 gz0 ND (D7 ⟨1,Ex.ix n .no,Ex.ix (n+Ex.size .no) .no,-1,-1,1,[],[]⟩).toArray] ⟨_,_,ho9⟩ (by simp)
 |int i h=>
  intro n ns hs g v f q l w hG hU hb ho;have hC:GW (J1 w (wr g v f ns q l)):=AG hG hU;have hr:=hs.root;have hjl:=BO hs;have e1:tE (.nd 2 i [] .no .no)=Lib.decDigits i.toNat:=by simp[tE,Y8,S3,Da,Pc.text]
  rw[e1] at hb⊢;have hit:Lib.itoa i=Lib.decDigits i.toNat:=by obtain⟨u,rfl⟩:=Ri h.1;rw[Lib.itoa_nonneg];rfl
  refine G7 ho HC O HD O<|R7 1 O ?_;rintro⟨_,⟨_,h0⟩|⟨gn,cp,rfl⟩⟩
  ·omega
  obtain⟨j,hj⟩:∃j,j=n+Ex.size .no+Ex.size .no:=⟨_,rfl⟩
  rw[<-hj] at hr hjl;have hx:(Ex.nd 2 i [] .no .no).ix n=((j:Nat):Int):=by rw[hj];rfl
  rw[hx];refine B4 O<|E5 O<|D9 O<|B2 0 O<|A4 O<|Q4 (j:=j) O hjl<|U6 (vs:=D7 _) O (λw' ho=>X7 Y0 ho (q:=1) rfl hr)<|E3 V2 O λgz0=>E8 0 _ O<|I0<|B2 0 O<|A6<|C7<|A3<|C6 O<|C4 O (λz1=>absurd z1 (by simp[*])) λz1=>A3<|C6 O<|C4 O (λz2=>absurd z2 (by simp[*])) λz2=>A3<|C6 O<|C4 O (λz3=>?_) (λz3=>?_);refine C5<|A4 O<|B2 0 O<|F3 58 (A7 O) (λw ho=>Gq i w (by have:=h.1;omega) h.2 (ho.p6 hC).AB) O<|N7 (D1 [Lib.itoa i]) (D1 [Lib.itoa i]) O λgl=>Z5 [Lib.itoa i] [.B1 gz0 ND (D7 ⟨2,Ex.ix n .no,Ex.ix (n+Ex.size .no) .no,-1,-1,i,[],[]⟩).toArray] (l:=l) O (by rw[hit];(simp at hb⊢;omega)) (A7 O) O O O λq55=>H6<|F4<|K7 O λw9 ho9=>?_;rotate_left;contradiction;exact x6 [.B1 gz0 ND (D7 ⟨2,Ex.ix n .no,Ex.ix (n+Ex.size .no) .no,-1,-1,i,[],[]⟩).toArray] ⟨_,_,ho9⟩ (by rw[hit];simp)
 |text s h=>
  intro n ns hs g v f q l w hG hU hb ho;have hC:GW (J1 w (wr g v f ns q l)):=AG hG hU;have hr:=hs.root;have hjl:=BO hs;have e1:tE (.nd 3 0 s .no .no)=(DZ s).1:=by simp[tE,Y8,S3,Pc.text]
  rw[e1] at hb⊢;refine G7 ho HC O HD O<|R7 1 O ?_;rintro⟨_,⟨_,h0⟩|⟨gn,cp,rfl⟩⟩
  ·omega
  obtain⟨j,hj⟩:∃j,j=n+Ex.size .no+Ex.size .no:=⟨_,rfl⟩
  rw[<-hj] at hr hjl;have hx:(Ex.nd 3 0 s .no .no).ix n=((j:Nat):Int):=by rw[hj];rfl
  rw[hx];refine B4 O<|E5 O<|D9 O<|B2 0 O<|A4 O<|Q4 (j:=j) O hjl<|U6 (vs:=D7 _) O (λw' ho=>X7 Y0 ho (q:=1) rfl hr)<|E3 V2 O λgz0=>E8 0 _ O<|I0<|B2 0 O<|A6<|C7<|A3<|C6 O<|C4 O (λz1=>absurd z1 (by simp[*])) λz1=>A3<|C6 O<|C4 O (λz2=>absurd z2 (by simp[*])) λz2=>A3<|C6 O<|C4 O (λz3=>absurd z3 (by simp[*])) λz3=>A3<|C6 O<|C4 O (λz4=>?_) (λz4=>?_);refine A3<|B2 0 O<|F3 113 (A7 O) (λw ho=>eK s w) O<|A4 O<|G1 O<|G1 O<|E6 O<|A5 O<|C5<|A4 O<|A4 O<|N7 (D1 [(DZ s).1]) (D1 [(DZ s).1]) O λgl=>Z5 [(DZ s).1] [.B1 gz0 ND (D7 ⟨3,Ex.ix n .no,Ex.ix (n+Ex.size .no) .no,-1,-1,0,s,[]⟩).toArray] (l:=l) O (by(simp at hb⊢;omega)) (A7 O) O O O λq67=>H6<|F4<|K7 O λw9 ho9=>?_;rotate_left;contradiction;exact x6 [.B1 gz0 ND (D7 ⟨3,Ex.ix n .no,Ex.ix (n+Ex.size .no) .no,-1,-1,0,s,[]⟩).toArray] ⟨_,_,ho9⟩ (by simp)
 |name s h=>
  intro n ns hs g v f q l w hG hU hb ho;have hC:GW (J1 w (wr g v f ns q l)):=AG hG hU;have hr:=hs.root;have hjl:=BO hs;have e1:tE (.nd 4 0 s .no .no)=s:=by simp[tE,Y8,S3,AP,Pc.text]
  rw[e1] at hb⊢;refine G7 ho HC O HD O<|R7 1 O ?_;rintro⟨_,⟨_,h0⟩|⟨gn,cp,rfl⟩⟩
  ·omega
  obtain⟨j,hj⟩:∃j,j=n+Ex.size .no+Ex.size .no:=⟨_,rfl⟩
  rw[<-hj] at hr hjl;have hx:(Ex.nd 4 0 s .no .no).ix n=((j:Nat):Int):=by rw[hj];rfl
  rw[hx];refine B4 O<|E5 O<|D9 O<|B2 0 O<|A4 O<|Q4 (j:=j) O hjl<|U6 (vs:=D7 _) O (λw' ho=>X7 Y0 ho (q:=1) rfl hr)<|E3 V2 O λgz0=>E8 0 _ O<|I0<|B2 0 O<|A6<|C7<|A3<|C6 O<|C4 O (λz1=>absurd z1 (by simp[*])) λz1=>A3<|C6 O<|C4 O (λz2=>absurd z2 (by simp[*])) λz2=>A3<|C6 O<|C4 O (λz3=>absurd z3 (by simp[*])) λz3=>A3<|C6 O<|C4 O (λz4=>absurd z4 (by simp[*])) λz4=>A3<|C6 O<|C4 O (λz5=>?_) (λz5=>?_);refine C5<|A4 O<|B2 0 O<|N7 (D1 [s]) (D1 [s]) O λgl=>Z5 [s] [.B1 gz0 ND (D7 ⟨4,Ex.ix n .no,Ex.ix (n+Ex.size .no) .no,-1,-1,0,s,[]⟩).toArray] (l:=l) O (by(simp at hb⊢;omega)) (A7 O) O O O λq74=>H6<|F4<|K7 O λw9 ho9=>?_;rotate_left;contradiction;exact x6 [.B1 gz0 ND (D7 ⟨4,Ex.ix n .no,Ex.ix (n+Ex.size .no) .no,-1,-1,0,s,[]⟩).toArray] ⟨_,_,ho9⟩ (by simp)
 |call k h a ha ih=>
  obtain rfl|rfl|rfl|rfl:k=5\/k=6\/k=7\/k=8:=by omega
  ·intro n ns hs g v f q l w hG hU hb ho;have hC:GW (J1 w (wr g v f ns q l)):=AG hG hU;have hr:=hs.root;have hjl:=BO hs;have e1:tE (.nd 5 0 [] a .no)=[103,101,116]++([40]++(tE a++[41])):=by simp[tE,Y8,S3,P9,Pc.text,EV,Z2,Y1]
   rw[e1] at hb⊢;refine G7 ho HC O HD O<|R7 1 O ?_;rintro⟨_,⟨_,h0⟩|⟨gn,cp,rfl⟩⟩
   ·omega
   obtain⟨j,hj⟩:∃j,j=n+Ex.size a+Ex.size .no:=⟨_,rfl⟩
   rw[<-hj] at hr hjl;have hx:(Ex.nd 5 0 [] a .no).ix n=((j:Nat):Int):=by rw[hj];rfl
   rw[hx];refine B4 O<|E5 O<|D9 O<|B2 0 O<|A4 O<|Q4 (j:=j) O hjl<|U6 (vs:=D7 _) O (λw' ho=>X7 Y0 ho (q:=1) rfl hr)<|E3 V2 O λgz0=>E8 0 _ O<|I0<|B2 0 O<|A6<|C7<|A3<|C6 O<|C4 O (λz1=>absurd z1 (by simp[*])) λz1=>A3<|C6 O<|C4 O (λz2=>absurd z2 (by simp[*])) λz2=>A3<|C6 O<|C4 O (λz3=>absurd z3 (by simp[*])) λz3=>A3<|C6 O<|C4 O (λz4=>absurd z4 (by simp[*])) λz4=>A3<|C6 O<|C4 O (λz5=>absurd z5 (by simp[*])) λz5=>A3<|C6 O<|C4 O (λz6=>absurd z6 (by simp[*])) λz6=>A3<|C6 O<|C4 O (λz7=>absurd z7 (by simp[*])) λz7=>A3<|C6 O<|C4 O (λz8=>absurd z8 (by simp[*])) λz8=>B4 O<|B9 (JI (cs:=D1 SF) SC O O) O<|B2 0 O ?_;refine GD O<|B9 (BZ (l:=4) (q:=0) (by kernel_rfl) O O (by decide) O) O<|N7 (D1 [[103,101,116],[40]]) (D1 [[103,101,116],[40]]) O λgl=>Z5 [[103,101,116],[40]] [.B1 gz0 ND (D7 ⟨5,Ex.ix n a,Ex.ix (n+Ex.size a) .no,-1,-1,0,[],[]⟩).toArray] (l:=l) O (by(simp at hb⊢;omega)) (A7 O) O O O λq26=>I9 O<|B2 0 O<|r6 [.B1 gz0 ND (D7 ⟨5,Ex.ix n a,Ex.ix (n+Ex.size a) .no,-1,-1,0,[],[]⟩).toArray] (l:=l++[[103,101,116],[40]].flatten) (l++[[103,101,116],[40]].flatten++tE a) O (A7 O) hC (λw hG hU ho=>ih n ns hs.left g _ f q26 _ w hG hU (by(simp at hb⊢;omega)) ho) O O λq30=>A6<|C5<|A4 O<|N7 (D1 [[41]]) (D1 [[41]]) O λgl=>Z5 [[41]] [.B1 gz0 ND (D7 ⟨5,Ex.ix n a,Ex.ix (n+Ex.size a) .no,-1,-1,0,[],[]⟩).toArray] (l:=l++[[103,101,116],[40]].flatten++tE a) O (by(simp at hb⊢;omega)) (A7 O) O O O λq33=>H6<|F4<|K7 O λw9 ho9=>?_;rotate_left;exact x6 [.B1 gz0 ND (D7 ⟨5,Ex.ix n a,Ex.ix (n+Ex.size a) .no,-1,-1,0,[],[]⟩).toArray] ⟨_,_,ho9⟩ (by simp[Q2])
  ·intro n ns hs g v f q l w hG hU hb ho;have hC:GW (J1 w (wr g v f ns q l)):=AG hG hU;have hr:=hs.root;have hjl:=BO hs;have e1:tE (.nd 6 0 [] a .no)=[104,97,115]++([40]++(tE a++[41])):=by simp[tE,Y8,S3,P9,Pc.text,EV,Z2,Y1]
   rw[e1] at hb⊢;refine G7 ho HC O HD O<|R7 1 O ?_;rintro⟨_,⟨_,h0⟩|⟨gn,cp,rfl⟩⟩
   ·omega
   obtain⟨j,hj⟩:∃j,j=n+Ex.size a+Ex.size .no:=⟨_,rfl⟩
   rw[<-hj] at hr hjl;have hx:(Ex.nd 6 0 [] a .no).ix n=((j:Nat):Int):=by rw[hj];rfl
   rw[hx];refine B4 O<|E5 O<|D9 O<|B2 0 O<|A4 O<|Q4 (j:=j) O hjl<|U6 (vs:=D7 _) O (λw' ho=>X7 Y0 ho (q:=1) rfl hr)<|E3 V2 O λgz0=>E8 0 _ O<|I0<|B2 0 O<|A6<|C7<|A3<|C6 O<|C4 O (λz1=>absurd z1 (by simp[*])) λz1=>A3<|C6 O<|C4 O (λz2=>absurd z2 (by simp[*])) λz2=>A3<|C6 O<|C4 O (λz3=>absurd z3 (by simp[*])) λz3=>A3<|C6 O<|C4 O (λz4=>absurd z4 (by simp[*])) λz4=>A3<|C6 O<|C4 O (λz5=>absurd z5 (by simp[*])) λz5=>A3<|C6 O<|C4 O (λz6=>absurd z6 (by simp[*])) λz6=>A3<|C6 O<|C4 O (λz7=>absurd z7 (by simp[*])) λz7=>A3<|C6 O<|C4 O (λz8=>absurd z8 (by simp[*])) λz8=>B4 O<|B9 (JI (cs:=D1 SF) SC O O) O<|B2 0 O ?_;refine GD O<|B9 (BZ (l:=4) (q:=1) (by kernel_rfl) O O (by decide) O) O<|N7 (D1 [[104,97,115],[40]]) (D1 [[104,97,115],[40]]) O λgl=>Z5 [[104,97,115],[40]] [.B1 gz0 ND (D7 ⟨6,Ex.ix n a,Ex.ix (n+Ex.size a) .no,-1,-1,0,[],[]⟩).toArray] (l:=l) O (by(simp at hb⊢;omega)) (A7 O) O O O λq26=>I9 O<|B2 0 O<|r6 [.B1 gz0 ND (D7 ⟨6,Ex.ix n a,Ex.ix (n+Ex.size a) .no,-1,-1,0,[],[]⟩).toArray] (l:=l++[[104,97,115],[40]].flatten) (l++[[104,97,115],[40]].flatten++tE a) O (A7 O) hC (λw hG hU ho=>ih n ns hs.left g _ f q26 _ w hG hU (by(simp at hb⊢;omega)) ho) O O λq30=>A6<|C5<|A4 O<|N7 (D1 [[41]]) (D1 [[41]]) O λgl=>Z5 [[41]] [.B1 gz0 ND (D7 ⟨6,Ex.ix n a,Ex.ix (n+Ex.size a) .no,-1,-1,0,[],[]⟩).toArray] (l:=l++[[104,97,115],[40]].flatten++tE a) O (by(simp at hb⊢;omega)) (A7 O) O O O λq33=>H6<|F4<|K7 O λw9 ho9=>?_;rotate_left;exact x6 [.B1 gz0 ND (D7 ⟨6,Ex.ix n a,Ex.ix (n+Ex.size a) .no,-1,-1,0,[],[]⟩).toArray] ⟨_,_,ho9⟩ (by simp[Q2])
  ·intro n ns hs g v f q l w hG hU hb ho;have hC:GW (J1 w (wr g v f ns q l)):=AG hG hU;have hr:=hs.root;have hjl:=BO hs;have e1:tE (.nd 7 0 [] a .no)=[108,101,110]++([40]++(tE a++[41])):=by simp[tE,Y8,S3,P9,Pc.text,EV,Z2,Y1]
   rw[e1] at hb⊢;refine G7 ho HC O HD O<|R7 1 O ?_;rintro⟨_,⟨_,h0⟩|⟨gn,cp,rfl⟩⟩
   ·omega
   obtain⟨j,hj⟩:∃j,j=n+Ex.size a+Ex.size .no:=⟨_,rfl⟩
   rw[<-hj] at hr hjl;have hx:(Ex.nd 7 0 [] a .no).ix n=((j:Nat):Int):=by rw[hj];rfl
   rw[hx];refine B4 O<|E5 O<|D9 O<|B2 0 O<|A4 O<|Q4 (j:=j) O hjl<|U6 (vs:=D7 _) O (λw' ho=>X7 Y0 ho (q:=1) rfl hr)<|E3 V2 O λgz0=>E8 0 _ O<|I0<|B2 0 O<|A6<|C7<|A3<|C6 O<|C4 O (λz1=>absurd z1 (by simp[*])) λz1=>A3<|C6 O<|C4 O (λz2=>absurd z2 (by simp[*])) λz2=>A3<|C6 O<|C4 O (λz3=>absurd z3 (by simp[*])) λz3=>A3<|C6 O<|C4 O (λz4=>absurd z4 (by simp[*])) λz4=>A3<|C6 O<|C4 O (λz5=>absurd z5 (by simp[*])) λz5=>A3<|C6 O<|C4 O (λz6=>absurd z6 (by simp[*])) λz6=>A3<|C6 O<|C4 O (λz7=>absurd z7 (by simp[*])) λz7=>A3<|C6 O<|C4 O (λz8=>absurd z8 (by simp[*])) λz8=>B4 O<|B9 (JI (cs:=D1 SF) SC O O) O<|B2 0 O ?_;refine GD O<|B9 (BZ (l:=4) (q:=2) (by kernel_rfl) O O (by decide) O) O<|N7 (D1 [[108,101,110],[40]]) (D1 [[108,101,110],[40]]) O λgl=>Z5 [[108,101,110],[40]] [.B1 gz0 ND (D7 ⟨7,Ex.ix n a,Ex.ix (n+Ex.size a) .no,-1,-1,0,[],[]⟩).toArray] (l:=l) O (by(simp at hb⊢;omega)) (A7 O) O O O λq26=>I9 O<|B2 0 O<|r6 [.B1 gz0 ND (D7 ⟨7,Ex.ix n a,Ex.ix (n+Ex.size a) .no,-1,-1,0,[],[]⟩).toArray] (l:=l++[[108,101,110],[40]].flatten) (l++[[108,101,110],[40]].flatten++tE a) O (A7 O) hC (λw hG hU ho=>ih n ns hs.left g _ f q26 _ w hG hU (by(simp at hb⊢;omega)) ho) O O λq30=>A6<|C5<|A4 O<|N7 (D1 [[41]]) (D1 [[41]]) O λgl=>Z5 [[41]] [.B1 gz0 ND (D7 ⟨7,Ex.ix n a,Ex.ix (n+Ex.size a) .no,-1,-1,0,[],[]⟩).toArray] (l:=l++[[108,101,110],[40]].flatten++tE a) O (by(simp at hb⊢;omega)) (A7 O) O O O λq33=>H6<|F4<|K7 O λw9 ho9=>?_;rotate_left;exact x6 [.B1 gz0 ND (D7 ⟨7,Ex.ix n a,Ex.ix (n+Ex.size a) .no,-1,-1,0,[],[]⟩).toArray] ⟨_,_,ho9⟩ (by simp[Q2])
  ·intro n ns hs g v f q l w hG hU hb ho;have hC:GW (J1 w (wr g v f ns q l)):=AG hG hU;have hr:=hs.root;have hjl:=BO hs;have e1:tE (.nd 8 0 [] a .no)=[115,104,111,119]++([40]++(tE a++[41])):=by simp[tE,Y8,S3,P9,Pc.text,EV,Z2,Y1]
   rw[e1] at hb⊢;refine G7 ho HC O HD O<|R7 1 O ?_;rintro⟨_,⟨_,h0⟩|⟨gn,cp,rfl⟩⟩
   ·omega
   obtain⟨j,hj⟩:∃j,j=n+Ex.size a+Ex.size .no:=⟨_,rfl⟩
   rw[<-hj] at hr hjl;have hx:(Ex.nd 8 0 [] a .no).ix n=((j:Nat):Int):=by rw[hj];rfl
   rw[hx];refine B4 O<|E5 O<|D9 O<|B2 0 O<|A4 O<|Q4 (j:=j) O hjl<|U6 (vs:=D7 _) O (λw' ho=>X7 Y0 ho (q:=1) rfl hr)<|E3 V2 O λgz0=>E8 0 _ O<|I0<|B2 0 O<|A6<|C7<|A3<|C6 O<|C4 O (λz1=>absurd z1 (by simp[*])) λz1=>A3<|C6 O<|C4 O (λz2=>absurd z2 (by simp[*])) λz2=>A3<|C6 O<|C4 O (λz3=>absurd z3 (by simp[*])) λz3=>A3<|C6 O<|C4 O (λz4=>absurd z4 (by simp[*])) λz4=>A3<|C6 O<|C4 O (λz5=>absurd z5 (by simp[*])) λz5=>A3<|C6 O<|C4 O (λz6=>absurd z6 (by simp[*])) λz6=>A3<|C6 O<|C4 O (λz7=>absurd z7 (by simp[*])) λz7=>A3<|C6 O<|C4 O (λz8=>absurd z8 (by simp[*])) λz8=>B4 O<|B9 (JI (cs:=D1 SF) SC O O) O<|B2 0 O ?_;refine GD O<|B9 (BZ (l:=4) (q:=3) (by kernel_rfl) O O (by decide) O) O<|N7 (D1 [[115,104,111,119],[40]]) (D1 [[115,104,111,119],[40]]) O λgl=>Z5 [[115,104,111,119],[40]] [.B1 gz0 ND (D7 ⟨8,Ex.ix n a,Ex.ix (n+Ex.size a) .no,-1,-1,0,[],[]⟩).toArray] (l:=l) O (by(simp at hb⊢;omega)) (A7 O) O O O λq26=>I9 O<|B2 0 O<|r6 [.B1 gz0 ND (D7 ⟨8,Ex.ix n a,Ex.ix (n+Ex.size a) .no,-1,-1,0,[],[]⟩).toArray] (l:=l++[[115,104,111,119],[40]].flatten) (l++[[115,104,111,119],[40]].flatten++tE a) O (A7 O) hC (λw hG hU ho=>ih n ns hs.left g _ f q26 _ w hG hU (by(simp at hb⊢;omega)) ho) O O λq30=>A6<|C5<|A4 O<|N7 (D1 [[41]]) (D1 [[41]]) O λgl=>Z5 [[41]] [.B1 gz0 ND (D7 ⟨8,Ex.ix n a,Ex.ix (n+Ex.size a) .no,-1,-1,0,[],[]⟩).toArray] (l:=l++[[115,104,111,119],[40]].flatten++tE a) O (by(simp at hb⊢;omega)) (A7 O) O O O λq33=>H6<|F4<|K7 O λw9 ho9=>?_;rotate_left;exact x6 [.B1 gz0 ND (D7 ⟨8,Ex.ix n a,Ex.ix (n+Ex.size a) .no,-1,-1,0,[],[]⟩).toArray] ⟨_,_,ho9⟩ (by simp[Q2])
 |pre k h a ha ih=>
  rcases h with rfl|rfl
  ·intro n ns hs g v f q l w hG hU hb ho;have hC:GW (J1 w (wr g v f ns q l)):=AG hG hU;have hr:=hs.root;have hjl:=BO hs;have e1:tE (.nd 9 0 [] a .no)=[110,111,116,32]++tP (P6 a) 6 a:=by simp[tE,Y8,o9,P9,U0,Pc.text,Dw,KO,tP]
   rw[e1] at hb⊢;refine G7 ho HC O HD O<|R7 1 O ?_;rintro⟨_,⟨_,h0⟩|⟨gn,cp,rfl⟩⟩
   ·omega
   obtain⟨j,hj⟩:∃j,j=n+Ex.size a+Ex.size .no:=⟨_,rfl⟩
   rw[<-hj] at hr hjl;have hx:(Ex.nd 9 0 [] a .no).ix n=((j:Nat):Int):=by rw[hj];rfl
   rw[hx];refine B4 O<|E5 O<|D9 O<|B2 0 O<|A4 O<|Q4 (j:=j) O hjl<|U6 (vs:=D7 _) O (λw' ho=>X7 Y0 ho (q:=1) rfl hr)<|E3 V2 O λgz0=>E8 0 _ O<|I0<|B2 0 O<|A6<|C7<|A3<|C6 O<|C4 O (λz1=>absurd z1 (by simp[*])) λz1=>A3<|C6 O<|C4 O (λz2=>absurd z2 (by simp[*])) λz2=>A3<|C6 O<|C4 O (λz3=>absurd z3 (by simp[*])) λz3=>A3<|C6 O<|C4 O (λz4=>absurd z4 (by simp[*])) λz4=>A3<|C6 O<|C4 O (λz5=>absurd z5 (by simp[*])) λz5=>A3<|C6 O<|C4 O (λz6=>?_) (λz6=>?_);refine B4 O<|N7 (D1 [[110,111,116,32]]) (D1 [[110,111,116,32]]) O λgl=>Z5 [[110,111,116,32]] [.B1 gz0 ND (D7 ⟨9,Ex.ix n a,Ex.ix (n+Ex.size a) .no,-1,-1,0,[],[]⟩).toArray] (l:=l) O (by(simp at hb⊢;omega)) (A7 O) O O O λq79=>A6<|C5<|A4 O<|B2 0 O<|r6 [.B1 gz0 ND (D7 ⟨9,Ex.ix n a,Ex.ix (n+Ex.size a) .no,-1,-1,0,[],[]⟩).toArray] (l:=l++[[110,111,116,32]].flatten) (l++[[110,111,116,32]].flatten++tP (P6 a) 6 a) O (A7 O) hC (λw hG hU ho=>OQ ha ih n ns hs.left 6 g _ f q79 _ w hG hU (by(simp at hb⊢;omega)) ho) O O λq83=>H6<|F4<|K7 O λw9 ho9=>?_;rotate_left;contradiction;exact x6 [.B1 gz0 ND (D7 ⟨9,Ex.ix n a,Ex.ix (n+Ex.size a) .no,-1,-1,0,[],[]⟩).toArray] ⟨_,_,ho9⟩ (by simp[Q2])
  ·intro n ns hs g v f q l w hG hU hb ho;have hC:GW (J1 w (wr g v f ns q l)):=AG hG hU;have hr:=hs.root;have hjl:=BO hs;have e1:tE (.nd 10 0 [] a .no)=[45]++tP (P6 a) 6 a:=by simp[tE,Y8,o9,P9,U0,Pc.text,Dw,KO,tP]
   rw[e1] at hb⊢;refine G7 ho HC O HD O<|R7 1 O ?_;rintro⟨_,⟨_,h0⟩|⟨gn,cp,rfl⟩⟩
   ·omega
   obtain⟨j,hj⟩:∃j,j=n+Ex.size a+Ex.size .no:=⟨_,rfl⟩
   rw[<-hj] at hr hjl;have hx:(Ex.nd 10 0 [] a .no).ix n=((j:Nat):Int):=by rw[hj];rfl
   rw[hx];refine B4 O<|E5 O<|D9 O<|B2 0 O<|A4 O<|Q4 (j:=j) O hjl<|U6 (vs:=D7 _) O (λw' ho=>X7 Y0 ho (q:=1) rfl hr)<|E3 V2 O λgz0=>E8 0 _ O<|I0<|B2 0 O<|A6<|C7<|A3<|C6 O<|C4 O (λz1=>absurd z1 (by simp[*])) λz1=>A3<|C6 O<|C4 O (λz2=>absurd z2 (by simp[*])) λz2=>A3<|C6 O<|C4 O (λz3=>absurd z3 (by simp[*])) λz3=>A3<|C6 O<|C4 O (λz4=>absurd z4 (by simp[*])) λz4=>A3<|C6 O<|C4 O (λz5=>absurd z5 (by simp[*])) λz5=>A3<|C6 O<|C4 O (λz6=>absurd z6 (by simp[*])) λz6=>A3<|C6 O<|C4 O (λz7=>?_) (λz7=>?_);refine B4 O<|N7 (D1 [[45]]) (D1 [[45]]) O λgl=>Z5 [[45]] [.B1 gz0 ND (D7 ⟨10,Ex.ix n a,Ex.ix (n+Ex.size a) .no,-1,-1,0,[],[]⟩).toArray] (l:=l) O (by(simp at hb⊢;omega)) (A7 O) O O O λq88=>A6<|C5<|A4 O<|B2 0 O<|r6 [.B1 gz0 ND (D7 ⟨10,Ex.ix n a,Ex.ix (n+Ex.size a) .no,-1,-1,0,[],[]⟩).toArray] (l:=l++[[45]].flatten) (l++[[45]].flatten++tP (P6 a) 6 a) O (A7 O) hC (λw hG hU ho=>OQ ha ih n ns hs.left 6 g _ f q88 _ w hG hU (by(simp at hb⊢;omega)) ho) O O λq92=>H6<|F4<|K7 O λw9 ho9=>?_;rotate_left;contradiction;exact x6 [.B1 gz0 ND (D7 ⟨10,Ex.ix n a,Ex.ix (n+Ex.size a) .no,-1,-1,0,[],[]⟩).toArray] ⟨_,_,ho9⟩ (by simp[Q2])
 |two s c h a b ha hb2 iha ihb=>
  intro n ns hs g v f q l w hG hU hb ho;have hC:GW (J1 w (wr g v f ns q l)):=AG hG hU;have hr:=hs.root;have hjl:=BO hs;have e1:tE (.nd 11 0 s a b)=tP (P6 a) (Az c) a++([32]++(s++([32]++tP (P6 b) (c+1) b))):=by simp[tE,Y8,o9,Ap,P9,U0,Pc.text,h,tP]
  rw[e1] at hb⊢;refine G7 ho HC O HD O<|R7 1 O ?_;rintro⟨_,⟨_,h0⟩|⟨gn,cp,rfl⟩⟩
  ·omega
  obtain⟨j,hj⟩:∃j,j=n+Ex.size a+Ex.size b:=⟨_,rfl⟩
  rw[<-hj] at hr hjl;have hx:(Ex.nd 11 0 s a b).ix n=((j:Nat):Int):=by rw[hj];rfl
  rw[hx];have hcl:=mB (.two s c h a b ha hb2) (m:=⟨11,Ex.ix n a,Ex.ix (n+Ex.size a) b,-1,-1,0,s,[]⟩) rfl rfl;have hce:P6 (.nd 11 0 s a b)=c:=by simp[P6,h]
  rw[hce] at hcl;have cC:∀w,I6 110 #[Hr ⟨11,Ex.ix n a,Ex.ix (n+Ex.size a) b,-1,-1,0,s,[]⟩] w (.int .i64 c):=λw=>by have:=Qq ⟨11,Ex.ix n a,Ex.ix (n+Ex.size a) b,-1,-1,0,s,[]⟩ w;rwa[hcl] at this
  have hc5:=(Va h).2;by_cases hc2:c=2
  ·subst hc2;refine B4 O<|E5 O<|D9 O<|B2 0 O<|A4 O<|Q4 (j:=j) O hjl<|U6 (vs:=D7 _) O (λw' ho=>X7 Y0 ho (q:=1) rfl hr)<|E3 V2 O λgz0=>E8 0 _ O<|I0<|B2 0 O<|A6<|C7<|A3<|C6 O<|C4 O (λz1=>absurd z1 (by simp[*])) λz1=>A3<|C6 O<|C4 O (λz2=>absurd z2 (by simp[*])) λz2=>A3<|C6 O<|C4 O (λz3=>absurd z3 (by simp[*])) λz3=>A3<|C6 O<|C4 O (λz4=>absurd z4 (by simp[*])) λz4=>A3<|C6 O<|C4 O (λz5=>absurd z5 (by simp[*])) λz5=>A3<|C6 O<|C4 O (λz6=>absurd z6 (by simp[*])) λz6=>A3<|C6 O<|C4 O (λz7=>absurd z7 (by simp[*])) λz7=>A3<|C6 O<|C4 O (λz8=>?_) (λz8=>?_);refine A3<|G6 0 O O<|F3 110 (A7 O) (λw ho=>cC w) O<|A5 O<|B4 O<|A5 O<|B5<|A4 O<|H5 O<|A6<|E7 O (by omega)<|C5<|A5 O<|B4 O<|B2 0 O<|A4 O<|r6 [.B1 gz0 ND (D7 ⟨11,Ex.ix n a,Ex.ix (n+Ex.size a) b,-1,-1,0,s,[]⟩).toArray] (l:=l) (l++tP (P6 a) (Az 2) a) O (A7 O) hC (λw hG hU ho=>OQ ha iha n ns hs.left (Az 2) g _ f q _ w hG hU (by(simp at hb⊢;omega)) ho) O O λq104=>I9 O<|B2 0 O<|N7 (D1 [[32],s,[32]]) (D1 [[32],s,[32]]) O λgl=>Z5 [[32],s,[32]] [.B1 gz0 ND (D7 ⟨11,Ex.ix n a,Ex.ix (n+Ex.size a) b,-1,-1,0,s,[]⟩).toArray] (l:=l++tP (P6 a) (Az 2) a) O (by(simp at hb⊢;omega)) (A7 O) O O O λq109=>A6<|C5<|A4 O<|B2 0 O<|A4 O<|N6 O (by omega)<|r6 [.B1 gz0 ND (D7 ⟨11,Ex.ix n a,Ex.ix (n+Ex.size a) b,-1,-1,0,s,[]⟩).toArray] (l:=l++tP (P6 a) (Az 2) a++[[32],s,[32]].flatten) (l++tP (P6 a) (Az 2) a++[[32],s,[32]].flatten++tP (P6 b) (2+1) b) O (A7 O) hC (λw hG hU ho=>OQ hb2 ihb _ ns hs.right (2+1) g _ f q109 _ w hG hU (by(simp at hb⊢;omega)) ho) O O λq115=>H6<|F4<|K7 O λw9 ho9=>?_;rotate_left;contradiction;exact x6 [.B1 gz0 ND (D7 ⟨11,Ex.ix n a,Ex.ix (n+Ex.size a) b,-1,-1,0,s,[]⟩).toArray] ⟨_,_,ho9⟩ (by simp[Q2])
  ·have hlc:Az c=c:=if_neg hc2;rw[hlc] at hb⊢;refine B4 O<|E5 O<|D9 O<|B2 0 O<|A4 O<|Q4 (j:=j) O hjl<|U6 (vs:=D7 _) O (λw' ho=>X7 Y0 ho (q:=1) rfl hr)<|E3 V2 O λgz0=>E8 0 _ O<|I0<|B2 0 O<|A6<|C7<|A3<|C6 O<|C4 O (λz1=>absurd z1 (by simp[*])) λz1=>A3<|C6 O<|C4 O (λz2=>absurd z2 (by simp[*])) λz2=>A3<|C6 O<|C4 O (λz3=>absurd z3 (by simp[*])) λz3=>A3<|C6 O<|C4 O (λz4=>absurd z4 (by simp[*])) λz4=>A3<|C6 O<|C4 O (λz5=>absurd z5 (by simp[*])) λz5=>A3<|C6 O<|C4 O (λz6=>absurd z6 (by simp[*])) λz6=>A3<|C6 O<|C4 O (λz7=>absurd z7 (by simp[*])) λz7=>A3<|C6 O<|C4 O (λz8=>?_) (λz8=>?_);refine A3<|G6 0 O O<|F3 110 (A7 O) (λw ho=>cC w) O<|A5 O<|B4 O<|A5 O<|B5<|A4 O<|H5 O<|A6<|E0 O (by omega)<|D6<|B4 O<|B2 0 O<|A4 O<|r6 [.B1 gz0 ND (D7 ⟨11,Ex.ix n a,Ex.ix (n+Ex.size a) b,-1,-1,0,s,[]⟩).toArray] (l:=l) (l++tP (P6 a) c a) O (A7 O) hC (λw hG hU ho=>OQ ha iha n ns hs.left c g _ f q _ w hG hU (by(simp at hb⊢;omega)) ho) O O λq104=>I9 O<|B2 0 O<|N7 (D1 [[32],s,[32]]) (D1 [[32],s,[32]]) O λgl=>Z5 [[32],s,[32]] [.B1 gz0 ND (D7 ⟨11,Ex.ix n a,Ex.ix (n+Ex.size a) b,-1,-1,0,s,[]⟩).toArray] (l:=l++tP (P6 a) c a) O (by(simp at hb⊢;omega)) (A7 O) O O O λq109=>A6<|C5<|A4 O<|B2 0 O<|A4 O<|N6 O (by omega)<|r6 [.B1 gz0 ND (D7 ⟨11,Ex.ix n a,Ex.ix (n+Ex.size a) b,-1,-1,0,s,[]⟩).toArray] (l:=l++tP (P6 a) c a++[[32],s,[32]].flatten) (l++tP (P6 a) c a++[[32],s,[32]].flatten++tP (P6 b) (c+1) b) O (A7 O) hC (λw hG hU ho=>OQ hb2 ihb _ ns hs.right (c+1) g _ f q109 _ w hG hU (by(simp at hb⊢;omega)) ho) O O λq115=>H6<|F4<|K7 O λw9 ho9=>?_;rotate_left;contradiction;exact x6 [.B1 gz0 ND (D7 ⟨11,Ex.ix n a,Ex.ix (n+Ex.size a) b,-1,-1,0,s,[]⟩).toArray] ⟨_,_,ho9⟩ (by simp[Q2])
abbrev tB(B:Bl):List UInt8:=S3 (CV B)
def NC(B:Bl):Prop:=∀(n:Nat) (ns:List F2),f4 ns n B->∀(g:Nat) (v:Value) (f:Int) (q:Bool×Value) (l:List UInt8) (w:World),Cr w->Gm (wr g v f ns q l)->l.length+(tB B).length<=1000000->B7 (J1 w (wr g v f ns q l)) (wr g v f ns q l) w->
 Calls prog 15 #[.pointer (some ⟨g,0,none⟩),.int .i64 (B.ix n)] w (Lu w g v f ns (wr g v f ns q l) (l++tB B))
abbrev tR(B:Bl):List UInt8:=S3 (Jc (CV B))
theorem dU(B:Bl):tR B=[32,123,32]++(tB B++[125]):=by
 simp[tR,Jc,o9,Ap,P9,U0,Pc.text,JX,LL,S3]
theorem QT{B:Bl}(hB:NC B)(n:Nat)(ns:List F2)(hs:f4 ns n B)(g:Nat)(v:Value)(f:Int)(q:Bool×Value)(l:C9)(w:B6)(hG:Cr w)(hU:Gm (wr g v f ns q l))(hb:l.length+(tR B).length<=1000000)(ho:B7 (J1 w (wr g v f ns q l)) (wr g v f ns q l) w):
  Calls prog 60 #[.pointer (some ⟨g,0,none⟩),.int .i64 (B.ix n)] w (Lu w g v f ns (wr g v f ns q l) (l++tR B)):=by
 have hC:GW (J1 w (wr g v f ns q l)):=AG hG hU;refine G7 ho func60 O ntmps60 O ?_;rw[dU] at hb⊢;exact B4 O<|N7 (D1 [[32,123,32]]) (D1 [[32,123,32]]) O λgl=>Z5 [[32,123,32]] [] (l:=l) O (by(simp at hb⊢;omega)) (A7 O) O O O λq6=>I9 O<|A4 O<|r6 [] (l:=l++[[32,123,32]].flatten) (l++[[32,123,32]].flatten++tB B) O (A7 O) hC (λw hG hU ho=>hB n ns hs g v f q6 _ w hG hU (by(simp at hb⊢;omega)) ho) O O λq9=>A6<|C5<|A4 O<|N7 (D1 [[125]]) (D1 [[125]]) O λgl=>Z5 [[125]] [] (l:=l++[[32,123,32]].flatten++tB B) O (by(simp at hb⊢;omega)) (A7 O) O O O λq12=>H6<|K7 O λw9 ho9=>x6 [] ⟨_,_,ho9⟩ (by simp[Q2])
abbrev tS(k i:Int)(s t:List UInt8)(a b:Ex)(B C:Bl):List UInt8:=S3 (Cf k i s t (Y8 a) (Y8 b) (CV B) (CV C))
def HZ(k i:Int)(s t:List UInt8)(a b:Ex)(B C r:Bl):Prop:=∀(n:Nat) (ns:List F2),f4 ns n (.st k i s t a b B C r)->∀(g:Nat) (v:Value) (f:Int) (q:Bool×Value) (l:List UInt8) (w:World),Cr w->Gm (wr g v f ns q l)->l.length+(tS k i s t a b B C).length<=1000000->B7 (J1 w (wr g v f ns q l)) (wr g v f ns q l) w->
 Calls prog 29 #[.pointer (some ⟨g,0,none⟩),Hr ⟨k,a.ix n,K5 (n+a.size) (n+a.size+b.size) B b,C.ix (n+a.size+b.size+B.size),r.ix (n+a.size+b.size+B.size+C.size+1),i,s,t⟩] w (Lu w g v f ns (wr g v f ns q l) (l++tS k i s t a b B C))
def Ss:Bl->Prop
 |.no=>True
 |.st k i s t a b B C r=>HZ k i s t a b B C r/\Ss r
theorem Je(k i:Int)(s t:C9)(a b:Ex)(B C r:Bl):tB (.st k i s t a b B C r)=tS k i s t a b B C++([10]++tB r):=by
 simp only[tB,CV,Ap,o9];rfl
theorem OK{B:Bl}(hA:Ss B):NC B:=by
 intro n ns hs g v f q l w hG hU hb ho;have hC:GW (J1 w (wr g v f ns q l)):=AG hG hU;refine G7 ho func15 O ntmps15 O<|C7 ?_;rotate_left;refine l9 (σ:=Bl×Nat×(Bool×Value)×List UInt8) (λs=>Ss s.1/\f4 ns s.2.1 s.1/\s.2.2.2++tB s.1=l++tB B) (λs=>[(0,.pointer (some ⟨g,0,none⟩)),(1,.int .i64 (s.1.ix s.2.1))]) (λs=>wr g v f ns s.2.2.1 s.2.2.2) (λs=>s.1.size)
  (λw ho=>⟨(B,n,q,l),⟨hA,hs,rfl⟩,⟨rfl,rfl,trivial⟩,ho⟩) ?_
 rintro⟨D,m,q,l1⟩ ⟨hA,hs,hl⟩;dsimp only at hA hs hl⊢;cases D with
 |no=>
  have hl:l1=l++tB B:=by rw[<-hl];exact(k5 l1).symm
  refine B5<|A4 O<|O1 O<|A6<|C4 O (λz0=>?_) (λz0=>?_);contradiction;exact S4<|J0<|J0<|S5<|K7 O λw9 ho9=>x6 [] ⟨_,_,ho9⟩ hl
 |st k i s t a b X Y r=>
  obtain⟨hS,hA⟩:=hA;have hr:=hs.root;rw[Je] at hl;have hb1:l1.length+(tS k i s t a b X Y).length+1<=1000000:=by
   have h2:=congrArg List.length hl;simp only[J8,T3,Y4] at h2;omega
  have hS:=hS m ns hs;generalize hnod:(⟨k,a.ix m,K5 (m+a.size) (m+a.size+b.size) X b,Y.ix (m+a.size+b.size+X.size),r.ix (m+a.size+b.size+X.size+Y.size+1),i,s,t⟩:F2)=nod at hr hS;have hnx:nod.next=r.ix (m+a.size+b.size+X.size+Y.size+1):=by rw[<-hnod]
  have hx:(Bl.st k i s t a b X Y r).ix m=((m+a.size+b.size+X.size+Y.size:Nat):Int):=rfl;rw[hx];have hsr:=hs.sr;have hsz:r.size<(Bl.st k i s t a b X Y r).size:=by simp only[Bl.size];omega
  generalize m+a.size+b.size+X.size+Y.size=j at hr hnx hsr⊢;have hjl:j<ns.length:=(N5.1 hr).1;generalize tS k i s t a b X Y=T at*;refine R7 1 O ?_;rintro⟨_,⟨_,h0⟩|⟨gn,cp,rfl⟩⟩
  ·omega
  refine B5<|A4 O<|O1 O<|A6<|E7 O (by omega)<|D6<|C8<|C7<|B4 O<|A4 O<|E5 O<|D9 O<|B2 0 O<|A4 O<|Q4 (j:=j) O hjl<|U6 (vs:=D7 nod) O (λw' ho=>X7 Y0 ho (q:=1) rfl hr)<|r6 [] (l:=l1) (l1++T) O (A7 O) hC (λw hG hU ho=>hS g _ f q l1 w hG hU (by omega) ho) O O λq24=>A6<|C5<|A4 O<|N7 (D1 [[10]]) (D1 [[10]]) O λgl=>Z5 [[10]] [] (l:=l1++T) O (by simp only[J8,YP,List.flatten_nil,T3,Y4];omega) (A7 O) O O O λq27=>H6<|F4<|E2<|C5<|A4 O<|E5 O<|D9 O<|B2 0 O<|A4 O<|Q4 (j:=j) O hjl<|D9 O<|B9 (Av 1 (j:=0+j*8+4) (u:=.int .i64 nod.next) O (Mt hjl (by decide)) (QV Y0 hr (by decide))) O<|A5 O ?_;rotate_left;refine RR (r,j+1,q27,l1++T++[[10]].flatten) ⟨hA,hsr,?_⟩ hsz ⟨rfl,?_,trivial⟩ O (λw ho=>ho)
  ·rw[<-hl];simp[Q2]
  ·rw[<-hnx];rfl
theorem WI{i:Int}(h:0<=i):Lib.itoa i=Lib.decDigits i.toNat:=by
 obtain⟨u,rfl⟩:=Ri h;rw[Lib.itoa_nonneg];rfl
theorem ad4(s:C9)(a:Ex)(r:Bl)(ha:WE a):HZ 20 0 s [] a .no .no .no r:=by
 intro n ns hs g v f q l w hG hU hb ho;have hC:GW (J1 w (wr g v f ns q l)):=AG hG hU;have e1:tS 20 0 s [] a .no .no .no=[108,101,116,32]++(s++([32,61,32]++(tE a++[59]))):=by simp[tS,Cf,o9,Ap,P9,U0,AP,Da,Pc.text,CD,S3,Ay,AL,BF,Bv,CO,DH,w8,Ba,BR,CI,Bw,DC,Aq,d5,W8,Z2,Y1,tR,tE]
 rw[e1] at hb⊢;refine G7 ho Kk O Kl O<|A3<|F0 (cs:=(D7 ⟨20,Ex.ix n a,K5 (n+Ex.size a) (n+Ex.size a+Ex.size .no) .no .no,Bl.ix (n+Ex.size a+Ex.size .no+Bl.size .no) .no,Bl.ix (n+Ex.size a+Ex.size .no+Bl.size .no+Bl.size .no+1) r,0,s,[]⟩).toArray) O λgb=>I0<|B2 0 O<|F3 58 (A7 O) (λw ho=>Gq 0 w (by omega) (by omega) (ho.p6 hC).AB) O<|A5 O<|B5<|B2 0 O<|A6<|C7<|A3<|C6 O<|C4 O (λz0=>absurd z0 (by simp[*])) λz0=>A3<|C6 O<|C4 O (λz1=>absurd z1 (by simp[*])) λz1=>A3<|C6 O<|C4 O (λz2=>absurd z2 (by simp[*])) λz2=>A3<|C6 O<|C4 O (λz3=>?_) (λz3=>?_);refine C5<|A4 O<|B2 0 O<|N7 (D1 [[108,101,116,32],s,[32,61,32]]) (D1 [[108,101,116,32],s,[32,61,32]]) O λgl=>Z5 [[108,101,116,32],s,[32,61,32]] [.B1 gb ND (D7 ⟨20,Ex.ix n a,K5 (n+Ex.size a) (n+Ex.size a+Ex.size .no) .no .no,Bl.ix (n+Ex.size a+Ex.size .no+Bl.size .no) .no,Bl.ix (n+Ex.size a+Ex.size .no+Bl.size .no+Bl.size .no+1) r,0,s,[]⟩).toArray] (l:=l) O (by(simp at hb⊢;omega)) (A7 O) O O O λq70=>H6<|F4<|E2<|B4 O<|B2 0 O<|r6 [.B1 gb ND (D7 ⟨20,Ex.ix n a,K5 (n+Ex.size a) (n+Ex.size a+Ex.size .no) .no .no,Bl.ix (n+Ex.size a+Ex.size .no+Bl.size .no) .no,Bl.ix (n+Ex.size a+Ex.size .no+Bl.size .no+Bl.size .no+1) r,0,s,[]⟩).toArray] (l:=l++[[108,101,116,32],s,[32,61,32]].flatten) (l++[[108,101,116,32],s,[32,61,32]].flatten++tE a) O (A7 O) hC (λw hG hU ho=>IU ha _ ns hs.sa g v f q70 _ w hG hU (by(simp at hb⊢;omega)) ho) O O λq101=>A6<|B5<|B2 0 O<|H5 O<|A6<|E0 O (by omega)<|D6<|C5<|A4 O<|N7 (D1 [[59]]) (D1 [[59]]) O λgl=>Z5 [[59]] [.B1 gb ND (D7 ⟨20,Ex.ix n a,K5 (n+Ex.size a) (n+Ex.size a+Ex.size .no) .no .no,Bl.ix (n+Ex.size a+Ex.size .no+Bl.size .no) .no,Bl.ix (n+Ex.size a+Ex.size .no+Bl.size .no+Bl.size .no+1) r,0,s,[]⟩).toArray] (l:=l++[[108,101,116,32],s,[32,61,32]].flatten++tE a) O (by(simp at hb⊢;omega)) (A7 O) O O O λq114=>H6<|K7 O λw9 ho9=>?_;rotate_left;contradiction;exact x6 [.B1 gb ND (D7 ⟨20,Ex.ix n a,K5 (n+Ex.size a) (n+Ex.size a+Ex.size .no) .no .no,Bl.ix (n+Ex.size a+Ex.size .no+Bl.size .no) .no,Bl.ix (n+Ex.size a+Ex.size .no+Bl.size .no+Bl.size .no+1) r,0,s,[]⟩).toArray] ⟨_,_,ho9⟩ (by simp[Q2])
theorem qW(s:C9)(a:Ex)(r:Bl)(ha:WE a):HZ 21 0 s [] a .no .no .no r:=by
 intro n ns hs g v f q l w hG hU hb ho;have hC:GW (J1 w (wr g v f ns q l)):=AG hG hU;have e1:tS 21 0 s [] a .no .no .no=[115,101,116,32]++(s++([32,61,32]++(tE a++[59]))):=by simp[tS,Cf,o9,Ap,P9,U0,AP,Da,Pc.text,CD,S3,Ay,AL,BF,Bv,CO,DH,w8,Ba,BR,CI,Bw,DC,Aq,d5,W8,Z2,Y1,tR,tE]
 rw[e1] at hb⊢;refine G7 ho Kk O Kl O<|A3<|F0 (cs:=(D7 ⟨21,Ex.ix n a,K5 (n+Ex.size a) (n+Ex.size a+Ex.size .no) .no .no,Bl.ix (n+Ex.size a+Ex.size .no+Bl.size .no) .no,Bl.ix (n+Ex.size a+Ex.size .no+Bl.size .no+Bl.size .no+1) r,0,s,[]⟩).toArray) O λgb=>I0<|B2 0 O<|F3 58 (A7 O) (λw ho=>Gq 0 w (by omega) (by omega) (ho.p6 hC).AB) O<|A5 O<|B5<|B2 0 O<|A6<|C7<|A3<|C6 O<|C4 O (λz0=>absurd z0 (by simp[*])) λz0=>A3<|C6 O<|C4 O (λz1=>absurd z1 (by simp[*])) λz1=>A3<|C6 O<|C4 O (λz2=>absurd z2 (by simp[*])) λz2=>A3<|C6 O<|C4 O (λz3=>absurd z3 (by simp[*])) λz3=>A3<|C6 O<|C4 O (λz4=>?_) (λz4=>?_);refine C5<|A4 O<|B2 0 O<|N7 (D1 [[115,101,116,32],s,[32,61,32]]) (D1 [[115,101,116,32],s,[32,61,32]]) O λgl=>Z5 [[115,101,116,32],s,[32,61,32]] [.B1 gb ND (D7 ⟨21,Ex.ix n a,K5 (n+Ex.size a) (n+Ex.size a+Ex.size .no) .no .no,Bl.ix (n+Ex.size a+Ex.size .no+Bl.size .no) .no,Bl.ix (n+Ex.size a+Ex.size .no+Bl.size .no+Bl.size .no+1) r,0,s,[]⟩).toArray] (l:=l) O (by(simp at hb⊢;omega)) (A7 O) O O O λq77=>H6<|F4<|E2<|B4 O<|B2 0 O<|r6 [.B1 gb ND (D7 ⟨21,Ex.ix n a,K5 (n+Ex.size a) (n+Ex.size a+Ex.size .no) .no .no,Bl.ix (n+Ex.size a+Ex.size .no+Bl.size .no) .no,Bl.ix (n+Ex.size a+Ex.size .no+Bl.size .no+Bl.size .no+1) r,0,s,[]⟩).toArray] (l:=l++[[115,101,116,32],s,[32,61,32]].flatten) (l++[[115,101,116,32],s,[32,61,32]].flatten++tE a) O (A7 O) hC (λw hG hU ho=>IU ha _ ns hs.sa g v f q77 _ w hG hU (by(simp at hb⊢;omega)) ho) O O λq101=>A6<|B5<|B2 0 O<|H5 O<|A6<|E0 O (by omega)<|D6<|C5<|A4 O<|N7 (D1 [[59]]) (D1 [[59]]) O λgl=>Z5 [[59]] [.B1 gb ND (D7 ⟨21,Ex.ix n a,K5 (n+Ex.size a) (n+Ex.size a+Ex.size .no) .no .no,Bl.ix (n+Ex.size a+Ex.size .no+Bl.size .no) .no,Bl.ix (n+Ex.size a+Ex.size .no+Bl.size .no+Bl.size .no+1) r,0,s,[]⟩).toArray] (l:=l++[[115,101,116,32],s,[32,61,32]].flatten++tE a) O (by(simp at hb⊢;omega)) (A7 O) O O O λq114=>H6<|K7 O λw9 ho9=>?_;rotate_left;contradiction;exact x6 [.B1 gb ND (D7 ⟨21,Ex.ix n a,K5 (n+Ex.size a) (n+Ex.size a+Ex.size .no) .no .no,Bl.ix (n+Ex.size a+Ex.size .no+Bl.size .no) .no,Bl.ix (n+Ex.size a+Ex.size .no+Bl.size .no+Bl.size .no+1) r,0,s,[]⟩).toArray] ⟨_,_,ho9⟩ (by simp[Q2])
theorem aj3(a b:Ex)(r:Bl)(ha:WE a)(hb0:WE b):HZ 22 0 [] [] a b .no .no r:=by
 intro n ns hs g v f q l w hG hU hb ho;have hC:GW (J1 w (wr g v f ns q l)):=AG hG hU;have e1:tS 22 0 [] [] a b .no .no=[112,117,116,32]++(tE a++([44,32]++(tE b++[59]))):=by simp[tS,Cf,o9,Ap,P9,U0,AP,Da,Pc.text,CD,S3,Ay,AL,BF,Bv,CO,DH,w8,Ba,BR,CI,Bw,DC,Aq,d5,W8,Z2,Y1,tR,tE]
 rw[e1] at hb⊢;have hbx:K5 (n+Ex.size a) (n+Ex.size a+Ex.size b) .no b=b.ix (n+a.size):=by obtain⟨k1,i1,s1,a1,b1,rfl⟩:=hb0.ne;rfl
 refine G7 ho Kk O Kl O<|A3<|F0 (cs:=(D7 ⟨22,Ex.ix n a,K5 (n+Ex.size a) (n+Ex.size a+Ex.size b) .no b,Bl.ix (n+Ex.size a+Ex.size b+Bl.size .no) .no,Bl.ix (n+Ex.size a+Ex.size b+Bl.size .no+Bl.size .no+1) r,0,[],[]⟩).toArray) O λgb=>I0<|B2 0 O<|F3 58 (A7 O) (λw ho=>Gq 0 w (by omega) (by omega) (ho.p6 hC).AB) O<|A5 O<|B5<|B2 0 O<|A6<|C7<|A3<|C6 O<|C4 O (λz0=>absurd z0 (by simp[*])) λz0=>A3<|C6 O<|C4 O (λz1=>absurd z1 (by simp[*])) λz1=>A3<|C6 O<|C4 O (λz2=>absurd z2 (by simp[*])) λz2=>A3<|C6 O<|C4 O (λz3=>absurd z3 (by simp[*])) λz3=>A3<|C6 O<|C4 O (λz4=>absurd z4 (by simp[*])) λz4=>A3<|C6 O<|C4 O (λz5=>?_) (λz5=>?_);refine C5<|A4 O<|N7 (D1 [[112,117,116,32]]) (D1 [[112,117,116,32]]) O λgl=>Z5 [[112,117,116,32]] [.B1 gb ND (D7 ⟨22,Ex.ix n a,K5 (n+Ex.size a) (n+Ex.size a+Ex.size b) .no b,Bl.ix (n+Ex.size a+Ex.size b+Bl.size .no) .no,Bl.ix (n+Ex.size a+Ex.size b+Bl.size .no+Bl.size .no+1) r,0,[],[]⟩).toArray] (l:=l) O (by(simp at hb⊢;omega)) (A7 O) O O O λq82=>H6<|F4<|E2<|B4 O<|B2 0 O<|r6 [.B1 gb ND (D7 ⟨22,Ex.ix n a,K5 (n+Ex.size a) (n+Ex.size a+Ex.size b) .no b,Bl.ix (n+Ex.size a+Ex.size b+Bl.size .no) .no,Bl.ix (n+Ex.size a+Ex.size b+Bl.size .no+Bl.size .no+1) r,0,[],[]⟩).toArray] (l:=l++[[112,117,116,32]].flatten) (l++[[112,117,116,32]].flatten++tE a) O (A7 O) hC (λw hG hU ho=>IU ha _ ns hs.sa g v f q82 _ w hG hU (by(simp at hb⊢;omega)) ho) O O λq101=>A6<|B5<|B2 0 O<|H5 O<|A6<|E7 O (by omega)<|B4 O<|N7 (D1 [[44,32]]) (D1 [[44,32]]) O λgl=>Z5 [[44,32]] [.B1 gb ND (D7 ⟨22,Ex.ix n a,K5 (n+Ex.size a) (n+Ex.size a+Ex.size b) .no b,Bl.ix (n+Ex.size a+Ex.size b+Bl.size .no) .no,Bl.ix (n+Ex.size a+Ex.size b+Bl.size .no+Bl.size .no+1) r,0,[],[]⟩).toArray] (l:=l++[[112,117,116,32]].flatten++tE a) O (by(simp at hb⊢;omega)) (A7 O) O O O λq107=>A6<|C5<|A4 O<|B2 0 O<|r6 [.B1 gb ND (D7 ⟨22,Ex.ix n a,K5 (n+Ex.size a) (n+Ex.size a+Ex.size b) .no b,Bl.ix (n+Ex.size a+Ex.size b+Bl.size .no) .no,Bl.ix (n+Ex.size a+Ex.size b+Bl.size .no+Bl.size .no+1) r,0,[],[]⟩).toArray] (l:=l++[[112,117,116,32]].flatten++tE a++[[44,32]].flatten) (l++[[112,117,116,32]].flatten++tE a++[[44,32]].flatten++tE b) O (A7 O) hC (λw hG hU ho=>(by have hq:=IU hb0 _ ns hs.sb g v f q107 _ w hG hU (by(simp at hb⊢;omega)) ho;rwa[<-hbx] at hq)) O O λq111=>A6<|C5<|A4 O<|N7 (D1 [[59]]) (D1 [[59]]) O λgl=>Z5 [[59]] [.B1 gb ND (D7 ⟨22,Ex.ix n a,K5 (n+Ex.size a) (n+Ex.size a+Ex.size b) .no b,Bl.ix (n+Ex.size a+Ex.size b+Bl.size .no) .no,Bl.ix (n+Ex.size a+Ex.size b+Bl.size .no+Bl.size .no+1) r,0,[],[]⟩).toArray] (l:=l++[[112,117,116,32]].flatten++tE a++[[44,32]].flatten++tE b) O (by(simp at hb⊢;omega)) (A7 O) O O O λq114=>H6<|K7 O λw9 ho9=>?_;rotate_left;contradiction;exact x6 [.B1 gb ND (D7 ⟨22,Ex.ix n a,K5 (n+Ex.size a) (n+Ex.size a+Ex.size b) .no b,Bl.ix (n+Ex.size a+Ex.size b+Bl.size .no) .no,Bl.ix (n+Ex.size a+Ex.size b+Bl.size .no+Bl.size .no+1) r,0,[],[]⟩).toArray] ⟨_,_,ho9⟩ (by simp[Q2])
theorem tU(a:Ex)(r:Bl)(ha:WE a):HZ 23 0 [] [] a .no .no .no r:=by
 intro n ns hs g v f q l w hG hU hb ho;have hC:GW (J1 w (wr g v f ns q l)):=AG hG hU;have e1:tS 23 0 [] [] a .no .no .no=[100,101,108,101,116,101,32]++(tE a++[59]):=by simp[tS,Cf,o9,Ap,P9,U0,AP,Da,Pc.text,CD,S3,Ay,AL,BF,Bv,CO,DH,w8,Ba,BR,CI,Bw,DC,Aq,d5,W8,Z2,Y1,tR,tE]
 rw[e1] at hb⊢;refine G7 ho Kk O Kl O<|A3<|F0 (cs:=(D7 ⟨23,Ex.ix n a,K5 (n+Ex.size a) (n+Ex.size a+Ex.size .no) .no .no,Bl.ix (n+Ex.size a+Ex.size .no+Bl.size .no) .no,Bl.ix (n+Ex.size a+Ex.size .no+Bl.size .no+Bl.size .no+1) r,0,[],[]⟩).toArray) O λgb=>I0<|B2 0 O<|F3 58 (A7 O) (λw ho=>Gq 0 w (by omega) (by omega) (ho.p6 hC).AB) O<|A5 O<|B5<|B2 0 O<|A6<|C7<|A3<|C6 O<|C4 O (λz0=>absurd z0 (by simp[*])) λz0=>A3<|C6 O<|C4 O (λz1=>absurd z1 (by simp[*])) λz1=>A3<|C6 O<|C4 O (λz2=>absurd z2 (by simp[*])) λz2=>A3<|C6 O<|C4 O (λz3=>absurd z3 (by simp[*])) λz3=>A3<|C6 O<|C4 O (λz4=>absurd z4 (by simp[*])) λz4=>A3<|C6 O<|C4 O (λz5=>absurd z5 (by simp[*])) λz5=>A3<|C6 O<|C4 O (λz6=>?_) (λz6=>?_);refine C5<|A4 O<|N7 (D1 [[100,101,108,101,116,101,32]]) (D1 [[100,101,108,101,116,101,32]]) O λgl=>Z5 [[100,101,108,101,116,101,32]] [.B1 gb ND (D7 ⟨23,Ex.ix n a,K5 (n+Ex.size a) (n+Ex.size a+Ex.size .no) .no .no,Bl.ix (n+Ex.size a+Ex.size .no+Bl.size .no) .no,Bl.ix (n+Ex.size a+Ex.size .no+Bl.size .no+Bl.size .no+1) r,0,[],[]⟩).toArray] (l:=l) O (by(simp at hb⊢;omega)) (A7 O) O O O λq87=>H6<|F4<|E2<|B4 O<|B2 0 O<|r6 [.B1 gb ND (D7 ⟨23,Ex.ix n a,K5 (n+Ex.size a) (n+Ex.size a+Ex.size .no) .no .no,Bl.ix (n+Ex.size a+Ex.size .no+Bl.size .no) .no,Bl.ix (n+Ex.size a+Ex.size .no+Bl.size .no+Bl.size .no+1) r,0,[],[]⟩).toArray] (l:=l++[[100,101,108,101,116,101,32]].flatten) (l++[[100,101,108,101,116,101,32]].flatten++tE a) O (A7 O) hC (λw hG hU ho=>IU ha _ ns hs.sa g v f q87 _ w hG hU (by(simp at hb⊢;omega)) ho) O O λq101=>A6<|B5<|B2 0 O<|H5 O<|A6<|E0 O (by omega)<|D6<|C5<|A4 O<|N7 (D1 [[59]]) (D1 [[59]]) O λgl=>Z5 [[59]] [.B1 gb ND (D7 ⟨23,Ex.ix n a,K5 (n+Ex.size a) (n+Ex.size a+Ex.size .no) .no .no,Bl.ix (n+Ex.size a+Ex.size .no+Bl.size .no) .no,Bl.ix (n+Ex.size a+Ex.size .no+Bl.size .no+Bl.size .no+1) r,0,[],[]⟩).toArray] (l:=l++[[100,101,108,101,116,101,32]].flatten++tE a) O (by(simp at hb⊢;omega)) (A7 O) O O O λq114=>H6<|K7 O λw9 ho9=>?_;rotate_left;contradiction;exact x6 [.B1 gb ND (D7 ⟨23,Ex.ix n a,K5 (n+Ex.size a) (n+Ex.size a+Ex.size .no) .no .no,Bl.ix (n+Ex.size a+Ex.size .no+Bl.size .no) .no,Bl.ix (n+Ex.size a+Ex.size .no+Bl.size .no+Bl.size .no+1) r,0,[],[]⟩).toArray] ⟨_,_,ho9⟩ (by simp[Q2])
theorem tD(a:Ex)(r:Bl)(ha:WE a):HZ 27 0 [] [] a .no .no .no r:=by
 intro n ns hs g v f q l w hG hU hb ho;have hC:GW (J1 w (wr g v f ns q l)):=AG hG hU;have e1:tS 27 0 [] [] a .no .no .no=[97,98,111,114,116,32]++(tE a++[59]):=by simp[tS,Cf,o9,Ap,P9,U0,AP,Da,Pc.text,CD,S3,Ay,AL,BF,Bv,CO,DH,w8,Ba,BR,CI,Bw,DC,Aq,d5,W8,Z2,Y1,tR,tE]
 rw[e1] at hb⊢;refine G7 ho Kk O Kl O<|A3<|F0 (cs:=(D7 ⟨27,Ex.ix n a,K5 (n+Ex.size a) (n+Ex.size a+Ex.size .no) .no .no,Bl.ix (n+Ex.size a+Ex.size .no+Bl.size .no) .no,Bl.ix (n+Ex.size a+Ex.size .no+Bl.size .no+Bl.size .no+1) r,0,[],[]⟩).toArray) O λgb=>I0<|B2 0 O<|F3 58 (A7 O) (λw ho=>Gq 0 w (by omega) (by omega) (ho.p6 hC).AB) O<|A5 O<|B5<|B2 0 O<|A6<|C7<|A3<|C6 O<|C4 O (λz0=>absurd z0 (by simp[*])) λz0=>A3<|C6 O<|C4 O (λz1=>absurd z1 (by simp[*])) λz1=>A3<|C6 O<|C4 O (λz2=>absurd z2 (by simp[*])) λz2=>A3<|C6 O<|C4 O (λz3=>absurd z3 (by simp[*])) λz3=>A3<|C6 O<|C4 O (λz4=>absurd z4 (by simp[*])) λz4=>A3<|C6 O<|C4 O (λz5=>absurd z5 (by simp[*])) λz5=>A3<|C6 O<|C4 O (λz6=>absurd z6 (by simp[*])) λz6=>A3<|C6 O<|C4 O (λz7=>?_) (λz7=>?_);refine C5<|A4 O<|N7 (D1 [[97,98,111,114,116,32]]) (D1 [[97,98,111,114,116,32]]) O λgl=>Z5 [[97,98,111,114,116,32]] [.B1 gb ND (D7 ⟨27,Ex.ix n a,K5 (n+Ex.size a) (n+Ex.size a+Ex.size .no) .no .no,Bl.ix (n+Ex.size a+Ex.size .no+Bl.size .no) .no,Bl.ix (n+Ex.size a+Ex.size .no+Bl.size .no+Bl.size .no+1) r,0,[],[]⟩).toArray] (l:=l) O (by(simp at hb⊢;omega)) (A7 O) O O O λq92=>H6<|F4<|E2<|B4 O<|B2 0 O<|r6 [.B1 gb ND (D7 ⟨27,Ex.ix n a,K5 (n+Ex.size a) (n+Ex.size a+Ex.size .no) .no .no,Bl.ix (n+Ex.size a+Ex.size .no+Bl.size .no) .no,Bl.ix (n+Ex.size a+Ex.size .no+Bl.size .no+Bl.size .no+1) r,0,[],[]⟩).toArray] (l:=l++[[97,98,111,114,116,32]].flatten) (l++[[97,98,111,114,116,32]].flatten++tE a) O (A7 O) hC (λw hG hU ho=>IU ha _ ns hs.sa g v f q92 _ w hG hU (by(simp at hb⊢;omega)) ho) O O λq101=>A6<|B5<|B2 0 O<|H5 O<|A6<|E0 O (by omega)<|D6<|C5<|A4 O<|N7 (D1 [[59]]) (D1 [[59]]) O λgl=>Z5 [[59]] [.B1 gb ND (D7 ⟨27,Ex.ix n a,K5 (n+Ex.size a) (n+Ex.size a+Ex.size .no) .no .no,Bl.ix (n+Ex.size a+Ex.size .no+Bl.size .no) .no,Bl.ix (n+Ex.size a+Ex.size .no+Bl.size .no+Bl.size .no+1) r,0,[],[]⟩).toArray] (l:=l++[[97,98,111,114,116,32]].flatten++tE a) O (by(simp at hb⊢;omega)) (A7 O) O O O λq114=>H6<|K7 O λw9 ho9=>?_;rotate_left;contradiction;exact x6 [.B1 gb ND (D7 ⟨27,Ex.ix n a,K5 (n+Ex.size a) (n+Ex.size a+Ex.size .no) .no .no,Bl.ix (n+Ex.size a+Ex.size .no+Bl.size .no) .no,Bl.ix (n+Ex.size a+Ex.size .no+Bl.size .no+Bl.size .no+1) r,0,[],[]⟩).toArray] ⟨_,_,ho9⟩ (by simp[Q2])
theorem ao0(a:Ex)(r:Bl)(ha:WE a):HZ 28 0 [] [] a .no .no .no r:=by
 intro n ns hs g v f q l w hG hU hb ho;have hC:GW (J1 w (wr g v f ns q l)):=AG hG hU;have e1:tS 28 0 [] [] a .no .no .no=[114,101,116,117,114,110,32]++(tE a++[59]):=by simp[tS,Cf,o9,Ap,P9,U0,AP,Da,Pc.text,CD,S3,Ay,AL,BF,Bv,CO,DH,w8,Ba,BR,CI,Bw,DC,Aq,d5,W8,Z2,Y1,tR,tE]
 rw[e1] at hb⊢;refine G7 ho Kk O Kl O<|A3<|F0 (cs:=(D7 ⟨28,Ex.ix n a,K5 (n+Ex.size a) (n+Ex.size a+Ex.size .no) .no .no,Bl.ix (n+Ex.size a+Ex.size .no+Bl.size .no) .no,Bl.ix (n+Ex.size a+Ex.size .no+Bl.size .no+Bl.size .no+1) r,0,[],[]⟩).toArray) O λgb=>I0<|B2 0 O<|F3 58 (A7 O) (λw ho=>Gq 0 w (by omega) (by omega) (ho.p6 hC).AB) O<|A5 O<|B5<|B2 0 O<|A6<|C7<|A3<|C6 O<|C4 O (λz0=>absurd z0 (by simp[*])) λz0=>A3<|C6 O<|C4 O (λz1=>absurd z1 (by simp[*])) λz1=>A3<|C6 O<|C4 O (λz2=>absurd z2 (by simp[*])) λz2=>A3<|C6 O<|C4 O (λz3=>absurd z3 (by simp[*])) λz3=>A3<|C6 O<|C4 O (λz4=>absurd z4 (by simp[*])) λz4=>A3<|C6 O<|C4 O (λz5=>absurd z5 (by simp[*])) λz5=>A3<|C6 O<|C4 O (λz6=>absurd z6 (by simp[*])) λz6=>A3<|C6 O<|C4 O (λz7=>absurd z7 (by simp[*])) λz7=>A3<|C6 O<|C4 O (λz8=>?_) (λz8=>?_);refine C5<|A4 O<|N7 (D1 [[114,101,116,117,114,110,32]]) (D1 [[114,101,116,117,114,110,32]]) O λgl=>Z5 [[114,101,116,117,114,110,32]] [.B1 gb ND (D7 ⟨28,Ex.ix n a,K5 (n+Ex.size a) (n+Ex.size a+Ex.size .no) .no .no,Bl.ix (n+Ex.size a+Ex.size .no+Bl.size .no) .no,Bl.ix (n+Ex.size a+Ex.size .no+Bl.size .no+Bl.size .no+1) r,0,[],[]⟩).toArray] (l:=l) O (by(simp at hb⊢;omega)) (A7 O) O O O λq97=>H6<|F4<|E2<|B4 O<|B2 0 O<|r6 [.B1 gb ND (D7 ⟨28,Ex.ix n a,K5 (n+Ex.size a) (n+Ex.size a+Ex.size .no) .no .no,Bl.ix (n+Ex.size a+Ex.size .no+Bl.size .no) .no,Bl.ix (n+Ex.size a+Ex.size .no+Bl.size .no+Bl.size .no+1) r,0,[],[]⟩).toArray] (l:=l++[[114,101,116,117,114,110,32]].flatten) (l++[[114,101,116,117,114,110,32]].flatten++tE a) O (A7 O) hC (λw hG hU ho=>IU ha _ ns hs.sa g v f q97 _ w hG hU (by(simp at hb⊢;omega)) ho) O O λq101=>A6<|B5<|B2 0 O<|H5 O<|A6<|E0 O (by omega)<|D6<|C5<|A4 O<|N7 (D1 [[59]]) (D1 [[59]]) O λgl=>Z5 [[59]] [.B1 gb ND (D7 ⟨28,Ex.ix n a,K5 (n+Ex.size a) (n+Ex.size a+Ex.size .no) .no .no,Bl.ix (n+Ex.size a+Ex.size .no+Bl.size .no) .no,Bl.ix (n+Ex.size a+Ex.size .no+Bl.size .no+Bl.size .no+1) r,0,[],[]⟩).toArray] (l:=l++[[114,101,116,117,114,110,32]].flatten++tE a) O (by(simp at hb⊢;omega)) (A7 O) O O O λq114=>H6<|K7 O λw9 ho9=>?_;rotate_left;contradiction;exact x6 [.B1 gb ND (D7 ⟨28,Ex.ix n a,K5 (n+Ex.size a) (n+Ex.size a+Ex.size .no) .no .no,Bl.ix (n+Ex.size a+Ex.size .no+Bl.size .no) .no,Bl.ix (n+Ex.size a+Ex.size .no+Bl.size .no+Bl.size .no+1) r,0,[],[]⟩).toArray] ⟨_,_,ho9⟩ (by simp[Q2])
theorem oN(a:Ex)(B:Bl)(r:Bl)(ha:WE a)(hB:NC B):HZ 24 0 [] [] a .no B .no r:=by
 intro n ns hs g v f q l w hG hU hb ho;have hC:GW (J1 w (wr g v f ns q l)):=AG hG hU;have e1:tS 24 0 [] [] a .no B .no=[105,102,32]++(tE a++tR B):=by simp[tS,Cf,o9,Ap,P9,U0,AP,Da,Pc.text,CD,S3,Ay,AL,BF,Bv,CO,DH,w8,Ba,BR,CI,Bw,DC,Aq,d5,W8,Z2,Y1,tR,tE]
 rw[e1] at hb⊢;refine G7 ho Kk O Kl O<|A3<|F0 (cs:=(D7 ⟨24,Ex.ix n a,K5 (n+Ex.size a) (n+Ex.size a+Ex.size .no) B .no,Bl.ix (n+Ex.size a+Ex.size .no+Bl.size B) .no,Bl.ix (n+Ex.size a+Ex.size .no+Bl.size B+Bl.size .no+1) r,0,[],[]⟩).toArray) O λgb=>I0<|B2 0 O<|F3 58 (A7 O) (λw ho=>Gq 0 w (by omega) (by omega) (ho.p6 hC).AB) O<|A5 O<|B5<|B2 0 O<|A6<|C7<|A3<|C6 O<|C4 O (λz0=>?_) (λz0=>?_);refine B4 O<|N7 (D1 [[105,102,32]]) (D1 [[105,102,32]]) O λgl=>Z5 [[105,102,32]] [.B1 gb ND (D7 ⟨24,Ex.ix n a,K5 (n+Ex.size a) (n+Ex.size a+Ex.size .no) B .no,Bl.ix (n+Ex.size a+Ex.size .no+Bl.size B) .no,Bl.ix (n+Ex.size a+Ex.size .no+Bl.size B+Bl.size .no+1) r,0,[],[]⟩).toArray] (l:=l) O (by(simp at hb⊢;omega)) (A7 O) O O O λq14=>I9 O<|B2 0 O<|r6 [.B1 gb ND (D7 ⟨24,Ex.ix n a,K5 (n+Ex.size a) (n+Ex.size a+Ex.size .no) B .no,Bl.ix (n+Ex.size a+Ex.size .no+Bl.size B) .no,Bl.ix (n+Ex.size a+Ex.size .no+Bl.size B+Bl.size .no+1) r,0,[],[]⟩).toArray] (l:=l++[[105,102,32]].flatten) (l++[[105,102,32]].flatten++tE a) O (A7 O) hC (λw hG hU ho=>IU ha _ ns hs.sa g v f q14 _ w hG hU (by(simp at hb⊢;omega)) ho) O O λq18=>I9 O<|B2 0 O<|r6 [.B1 gb ND (D7 ⟨24,Ex.ix n a,K5 (n+Ex.size a) (n+Ex.size a+Ex.size .no) B .no,Bl.ix (n+Ex.size a+Ex.size .no+Bl.size B) .no,Bl.ix (n+Ex.size a+Ex.size .no+Bl.size B+Bl.size .no+1) r,0,[],[]⟩).toArray] (l:=l++[[105,102,32]].flatten++tE a) (l++[[105,102,32]].flatten++tE a++tR B) O (A7 O) hC (λw hG hU ho=>QT hB _ ns hs.sB g v f q18 _ w hG hU (by(simp at hb⊢;omega)) ho) O O λq22=>A6<|B5<|B2 0 O<|H5 O<|A6<|C4 O (λz1=>absurd z1 (by simp[*])) λz1=>D6<|K3<|Ct O O λw9 ho9=>?_;rotate_left;contradiction;exact x6 [.B1 gb ND (D7 ⟨24,Ex.ix n a,K5 (n+Ex.size a) (n+Ex.size a+Ex.size .no) B .no,Bl.ix (n+Ex.size a+Ex.size .no+Bl.size B) .no,Bl.ix (n+Ex.size a+Ex.size .no+Bl.size B+Bl.size .no+1) r,0,[],[]⟩).toArray] ⟨_,_,ho9⟩ (by simp[Q2])
theorem ab4(a:Ex)(B C:Bl)(r:Bl)(ha:WE a)(hB:NC B)(hC0:NC C):HZ 24 1 [] [] a .no B C r:=by
 intro n ns hs g v f q l w hG hU hb ho;have hC:GW (J1 w (wr g v f ns q l)):=AG hG hU;have e1:tS 24 1 [] [] a .no B C=[105,102,32]++(tE a++(tR B++([32,101,108,115,101]++tR C))):=by simp[tS,Cf,o9,Ap,P9,U0,AP,Da,Pc.text,CD,S3,Ay,AL,BF,Bv,CO,DH,w8,Ba,BR,CI,Bw,DC,Aq,d5,W8,Z2,Y1,tR,tE]
 rw[e1] at hb⊢;refine G7 ho Kk O Kl O<|A3<|F0 (cs:=(D7 ⟨24,Ex.ix n a,K5 (n+Ex.size a) (n+Ex.size a+Ex.size .no) B .no,Bl.ix (n+Ex.size a+Ex.size .no+Bl.size B) C,Bl.ix (n+Ex.size a+Ex.size .no+Bl.size B+Bl.size C+1) r,1,[],[]⟩).toArray) O λgb=>I0<|B2 0 O<|F3 58 (A7 O) (λw ho=>Gq 1 w (by omega) (by omega) (ho.p6 hC).AB) O<|A5 O<|B5<|B2 0 O<|A6<|C7<|A3<|C6 O<|C4 O (λz0=>?_) (λz0=>?_);refine B4 O<|N7 (D1 [[105,102,32]]) (D1 [[105,102,32]]) O λgl=>Z5 [[105,102,32]] [.B1 gb ND (D7 ⟨24,Ex.ix n a,K5 (n+Ex.size a) (n+Ex.size a+Ex.size .no) B .no,Bl.ix (n+Ex.size a+Ex.size .no+Bl.size B) C,Bl.ix (n+Ex.size a+Ex.size .no+Bl.size B+Bl.size C+1) r,1,[],[]⟩).toArray] (l:=l) O (by(simp at hb⊢;omega)) (A7 O) O O O λq14=>I9 O<|B2 0 O<|r6 [.B1 gb ND (D7 ⟨24,Ex.ix n a,K5 (n+Ex.size a) (n+Ex.size a+Ex.size .no) B .no,Bl.ix (n+Ex.size a+Ex.size .no+Bl.size B) C,Bl.ix (n+Ex.size a+Ex.size .no+Bl.size B+Bl.size C+1) r,1,[],[]⟩).toArray] (l:=l++[[105,102,32]].flatten) (l++[[105,102,32]].flatten++tE a) O (A7 O) hC (λw hG hU ho=>IU ha _ ns hs.sa g v f q14 _ w hG hU (by(simp at hb⊢;omega)) ho) O O λq18=>I9 O<|B2 0 O<|r6 [.B1 gb ND (D7 ⟨24,Ex.ix n a,K5 (n+Ex.size a) (n+Ex.size a+Ex.size .no) B .no,Bl.ix (n+Ex.size a+Ex.size .no+Bl.size B) C,Bl.ix (n+Ex.size a+Ex.size .no+Bl.size B+Bl.size C+1) r,1,[],[]⟩).toArray] (l:=l++[[105,102,32]].flatten++tE a) (l++[[105,102,32]].flatten++tE a++tR B) O (A7 O) hC (λw hG hU ho=>QT hB _ ns hs.sB g v f q18 _ w hG hU (by(simp at hb⊢;omega)) ho) O O λq22=>A6<|B5<|B2 0 O<|H5 O<|A6<|C4 O (λz1=>?_) (λz1=>?_);refine B4 O<|N7 (D1 [[32,101,108,115,101]]) (D1 [[32,101,108,115,101]]) O λgl=>Z5 [[32,101,108,115,101]] [.B1 gb ND (D7 ⟨24,Ex.ix n a,K5 (n+Ex.size a) (n+Ex.size a+Ex.size .no) B .no,Bl.ix (n+Ex.size a+Ex.size .no+Bl.size B) C,Bl.ix (n+Ex.size a+Ex.size .no+Bl.size B+Bl.size C+1) r,1,[],[]⟩).toArray] (l:=l++[[105,102,32]].flatten++tE a++tR B) O (by(simp at hb⊢;omega)) (A7 O) O O O λq28=>A6<|C5<|A4 O<|B2 0 O<|r6 [.B1 gb ND (D7 ⟨24,Ex.ix n a,K5 (n+Ex.size a) (n+Ex.size a+Ex.size .no) B .no,Bl.ix (n+Ex.size a+Ex.size .no+Bl.size B) C,Bl.ix (n+Ex.size a+Ex.size .no+Bl.size B+Bl.size C+1) r,1,[],[]⟩).toArray] (l:=l++[[105,102,32]].flatten++tE a++tR B++[[32,101,108,115,101]].flatten) (l++[[105,102,32]].flatten++tE a++tR B++[[32,101,108,115,101]].flatten++tR C) O (A7 O) hC (λw hG hU ho=>QT hC0 _ ns hs.sC g v f q28 _ w hG hU (by(simp at hb⊢;omega)) ho) O O λq32=>A6<|K3<|Ct O O λw9 ho9=>?_;rotate_left;contradiction;contradiction;exact x6 [.B1 gb ND (D7 ⟨24,Ex.ix n a,K5 (n+Ex.size a) (n+Ex.size a+Ex.size .no) B .no,Bl.ix (n+Ex.size a+Ex.size .no+Bl.size B) C,Bl.ix (n+Ex.size a+Ex.size .no+Bl.size B+Bl.size C+1) r,1,[],[]⟩).toArray] ⟨_,_,ho9⟩ (by simp[Q2])
theorem ab0(s t:C9)(a:Ex)(i:Int)(B:Bl)(r:Bl)(ha:WE a)(hi:0<=i/\i<=64)(hB:NC B):HZ 25 i s t a .no B .no r:=by
 intro n ns hs g v f q l w hG hU hb ho;have hC:GW (J1 w (wr g v f ns q l)):=AG hG hU;have e1:tS 25 i s t a .no B .no=[102,111,114,32]++(s++([44,32]++(t++([32,105,110,32,115,99,97,110,40]++(tE a++([44,32]++(Lib.itoa i++([41]++tR B)))))))):=by rw[WI hi.1];simp[tS,Cf,o9,Ap,P9,U0,AP,Da,Pc.text,CD,S3,Ay,AL,BF,Bv,CO,DH,w8,Ba,BR,CI,Bw,DC,Aq,d5,W8,Z2,Y1,tR,tE]
 rw[e1] at hb⊢;refine G7 ho Kk O Kl O<|A3<|F0 (cs:=(D7 ⟨25,Ex.ix n a,K5 (n+Ex.size a) (n+Ex.size a+Ex.size .no) B .no,Bl.ix (n+Ex.size a+Ex.size .no+Bl.size B) .no,Bl.ix (n+Ex.size a+Ex.size .no+Bl.size B+Bl.size .no+1) r,i,s,t⟩).toArray) O λgb=>I0<|B2 0 O<|F3 58 (A7 O) (λw ho=>Gq i w (by omega) (by omega) (ho.p6 hC).AB) O<|A5 O<|B5<|B2 0 O<|A6<|C7<|A3<|C6 O<|C4 O (λz0=>absurd z0 (by simp[*])) λz0=>A3<|C6 O<|C4 O (λz1=>?_) (λz1=>?_);refine B4 O<|B2 0 O<|B2 0 O<|N7 (D1 [[102,111,114,32],s,[44,32],t,[32,105,110,32,115,99,97,110,40]]) (D1 [[102,111,114,32],s,[44,32],t,[32,105,110,32,115,99,97,110,40]]) O λgl=>Z5 [[102,111,114,32],s,[44,32],t,[32,105,110,32,115,99,97,110,40]] [.B1 gb ND (D7 ⟨25,Ex.ix n a,K5 (n+Ex.size a) (n+Ex.size a+Ex.size .no) B .no,Bl.ix (n+Ex.size a+Ex.size .no+Bl.size B) .no,Bl.ix (n+Ex.size a+Ex.size .no+Bl.size B+Bl.size .no+1) r,i,s,t⟩).toArray] (l:=l) O (by(simp at hb⊢;omega)) (A7 O) O O O λq41=>I9 O<|B2 0 O<|r6 [.B1 gb ND (D7 ⟨25,Ex.ix n a,K5 (n+Ex.size a) (n+Ex.size a+Ex.size .no) B .no,Bl.ix (n+Ex.size a+Ex.size .no+Bl.size B) .no,Bl.ix (n+Ex.size a+Ex.size .no+Bl.size B+Bl.size .no+1) r,i,s,t⟩).toArray] (l:=l++[[102,111,114,32],s,[44,32],t,[32,105,110,32,115,99,97,110,40]].flatten) (l++[[102,111,114,32],s,[44,32],t,[32,105,110,32,115,99,97,110,40]].flatten++tE a) O (A7 O) hC (λw hG hU ho=>IU ha _ ns hs.sa g v f q41 _ w hG hU (by(simp at hb⊢;omega)) ho) O O λq45=>I9 O<|A4 O<|N7 (D1 [[44,32],Lib.itoa i,[41]]) (D1 [[44,32],Lib.itoa i,[41]]) O λgl=>Z5 [[44,32],Lib.itoa i,[41]] [.B1 gb ND (D7 ⟨25,Ex.ix n a,K5 (n+Ex.size a) (n+Ex.size a+Ex.size .no) B .no,Bl.ix (n+Ex.size a+Ex.size .no+Bl.size B) .no,Bl.ix (n+Ex.size a+Ex.size .no+Bl.size B+Bl.size .no+1) r,i,s,t⟩).toArray] (l:=l++[[102,111,114,32],s,[44,32],t,[32,105,110,32,115,99,97,110,40]].flatten++tE a) O (by(simp at hb⊢;omega)) (A7 O) O O O λq49=>I9 O<|B2 0 O<|r6 [.B1 gb ND (D7 ⟨25,Ex.ix n a,K5 (n+Ex.size a) (n+Ex.size a+Ex.size .no) B .no,Bl.ix (n+Ex.size a+Ex.size .no+Bl.size B) .no,Bl.ix (n+Ex.size a+Ex.size .no+Bl.size B+Bl.size .no+1) r,i,s,t⟩).toArray] (l:=l++[[102,111,114,32],s,[44,32],t,[32,105,110,32,115,99,97,110,40]].flatten++tE a++[[44,32],Lib.itoa i,[41]].flatten) (l++[[102,111,114,32],s,[44,32],t,[32,105,110,32,115,99,97,110,40]].flatten++tE a++[[44,32],Lib.itoa i,[41]].flatten++tR B) O (A7 O) hC (λw hG hU ho=>QT hB _ ns hs.sB g v f q49 _ w hG hU (by(simp at hb⊢;omega)) ho) O O λq53=>A6<|K3<|Ct O O λw9 ho9=>?_;rotate_left;contradiction;exact x6 [.B1 gb ND (D7 ⟨25,Ex.ix n a,K5 (n+Ex.size a) (n+Ex.size a+Ex.size .no) B .no,Bl.ix (n+Ex.size a+Ex.size .no+Bl.size B) .no,Bl.ix (n+Ex.size a+Ex.size .no+Bl.size B+Bl.size .no+1) r,i,s,t⟩).toArray] ⟨_,_,ho9⟩ (by simp[Q2])
theorem af3(i:Int)(B:Bl)(r:Bl)(hi:0<=i/\i<=64)(hB:NC B):HZ 26 i [] [] .no .no B .no r:=by
 intro n ns hs g v f q l w hG hU hb ho;have hC:GW (J1 w (wr g v f ns q l)):=AG hG hU;have e1:tS 26 i [] [] .no .no B .no=[114,101,112,101,97,116,32]++(Lib.itoa i++tR B):=by rw[WI hi.1];simp[tS,Cf,o9,Ap,P9,U0,AP,Da,Pc.text,CD,S3,Ay,AL,BF,Bv,CO,DH,w8,Ba,BR,CI,Bw,DC,Aq,d5,W8,Z2,Y1,tR,tE]
 rw[e1] at hb⊢;refine G7 ho Kk O Kl O<|A3<|F0 (cs:=(D7 ⟨26,Ex.ix n .no,K5 (n+Ex.size .no) (n+Ex.size .no+Ex.size .no) B .no,Bl.ix (n+Ex.size .no+Ex.size .no+Bl.size B) .no,Bl.ix (n+Ex.size .no+Ex.size .no+Bl.size B+Bl.size .no+1) r,i,[],[]⟩).toArray) O λgb=>I0<|B2 0 O<|F3 58 (A7 O) (λw ho=>Gq i w (by omega) (by omega) (ho.p6 hC).AB) O<|A5 O<|B5<|B2 0 O<|A6<|C7<|A3<|C6 O<|C4 O (λz0=>absurd z0 (by simp[*])) λz0=>A3<|C6 O<|C4 O (λz1=>absurd z1 (by simp[*])) λz1=>A3<|C6 O<|C4 O (λz2=>?_) (λz2=>?_);refine B4 O<|A4 O<|N7 (D1 [[114,101,112,101,97,116,32],Lib.itoa i]) (D1 [[114,101,112,101,97,116,32],Lib.itoa i]) O λgl=>Z5 [[114,101,112,101,97,116,32],Lib.itoa i] [.B1 gb ND (D7 ⟨26,Ex.ix n .no,K5 (n+Ex.size .no) (n+Ex.size .no+Ex.size .no) B .no,Bl.ix (n+Ex.size .no+Ex.size .no+Bl.size B) .no,Bl.ix (n+Ex.size .no+Ex.size .no+Bl.size B+Bl.size .no+1) r,i,[],[]⟩).toArray] (l:=l) O (by(simp at hb⊢;omega)) (A7 O) O O O λq59=>I9 O<|B2 0 O<|r6 [.B1 gb ND (D7 ⟨26,Ex.ix n .no,K5 (n+Ex.size .no) (n+Ex.size .no+Ex.size .no) B .no,Bl.ix (n+Ex.size .no+Ex.size .no+Bl.size B) .no,Bl.ix (n+Ex.size .no+Ex.size .no+Bl.size B+Bl.size .no+1) r,i,[],[]⟩).toArray] (l:=l++[[114,101,112,101,97,116,32],Lib.itoa i].flatten) (l++[[114,101,112,101,97,116,32],Lib.itoa i].flatten++tR B) O (A7 O) hC (λw hG hU ho=>QT hB _ ns hs.sB g v f q59 _ w hG hU (by(simp at hb⊢;omega)) ho) O O λq63=>A6<|K3<|Ct O O λw9 ho9=>?_;rotate_left;contradiction;exact x6 [.B1 gb ND (D7 ⟨26,Ex.ix n .no,K5 (n+Ex.size .no) (n+Ex.size .no+Ex.size .no) B .no,Bl.ix (n+Ex.size .no+Ex.size .no+Bl.size B) .no,Bl.ix (n+Ex.size .no+Ex.size .no+Bl.size B+Bl.size .no+1) r,i,[],[]⟩).toArray] ⟨_,_,ho9⟩ (by simp[Q2])
theorem zN{B:Bl}(h:WB B):Ss B:=by
 induction h with
 |no=>trivial
 |names k h s hs a ha r hr ih=>
  rcases h with rfl|rfl
  ·exact⟨ad4 s a r ha,ih⟩
  ·exact⟨qW s a r ha,ih⟩
 |put a b ha hb r hr ih=>exact⟨aj3 a b r ha hb,ih⟩
 |one k h a ha r hr ih=>
  rcases h with rfl|rfl|rfl
  ·exact⟨tU a r ha,ih⟩
  ·exact⟨tD a r ha,ih⟩
  ·exact⟨ao0 a r ha,ih⟩
 |iff a ha B hB r hr ihB ih=>exact⟨oN a B r ha (OK ihB),ih⟩
 |Hk a ha B C hB hC r hr ihB ihC ih=>exact⟨ab4 a B C r ha (OK ihB) (OK ihC),ih⟩
 |each s t hs ht a ha i hi B hB r hr ihB ih=>exact⟨ab0 s t a i B r ha hi (OK ihB),ih⟩
 |rep i hi B hB r hr ihB ih=>exact⟨af3 i B r hi (OK ihB),ih⟩
theorem iA:∀(s acc:C9),(Gj s acc).1.length<=acc.length+2*s.length+1
 |[],acc=>by simp[Gj]
 |b::r,acc=>by
  unfold Gj;split
  ·simp
  ·rename_i t h;have h1:=ap3 h;have h2:=iA r (acc++t);simp only[J8,T3] at h2⊢;omega
theorem Xe(c least:Nat)(e:Ex):(tP c least e).length<=(tE e).length+2:=by
 by_cases h:least<=c
 ·rw[bO h];omega
 ·rw[lB h];simp only[J8,T3,Y4];omega
theorem as5{s:C9}{c:Nat}(h:r0 s=some c):s.length<=3:=by
 have:=(Va h).1;have h2:∀x∈HR++Hv++Fu++Hq++HS++HP,x.length<=3:=by decide
 exact h2 s this
theorem Wy(i:Int)(h:HF i):(Lib.decDigits i.toNat).length<=21:=by
 rw[<-WI h.1];exact Lib.itoa_length_le i (by have:=h.1;omega) h.2
theorem Ms{e:Ex}(h:WE e):(tE e).length<=150*e.size:=by
 induction h with
 |nil=>decide
 |bool b=>cases b<;>decide
 |int i h=>
  have:=Wy i h;simp only[tE,Y8,S3,Da,Ex.size];simp[Pc.text];omega
 |text s h=>
  have h1:=iA s [34];have e:tE (.nd 3 0 s .no .no)=(DZ s).1:=by simp[tE,Y8,S3,Pc.text]
  rw[e];unfold DZ;rw[if_neg (by have:=h.1;omega)];have:=h.1;simp only[Ex.size,T3,Y4] at h1⊢;omega
 |name s h=>
  have e:tE (.nd 4 0 s .no .no)=s:=by simp[tE,Y8,S3,AP,Pc.text]
  rw[e];have:=h.2.2.2.1;simp only[Ex.size];omega
 |call k h a ha ih=>
  have e:(tE (.nd k 0 [] a .no)).length=(EV k).length+2+(tE a).length:=by
   rw[tE,Y8];rw[if_neg (by omega),if_neg (by omega),if_neg (by omega),if_neg (by omega),if_neg (by omega),if_neg (by omega),if_neg (by omega),if_neg (by omega)];simp[o9,Ap,P9,Pc.text,Z2,Y1,S3,tE];omega
  have h4:(EV k).length<=4:=by
   unfold EV;split
   ·decide
   split
   ·decide
   split<;>decide
  rw[e];simp only[Ex.size];omega
 |pre k h a ha ih=>
  have h2:=Xe (P6 a) 6 a;rcases h with rfl|rfl
  ·have e:(tE (.nd 9 0 [] a .no)).length=4+(tP (P6 a) 6 a).length:=by
    simp[tE,Y8,o9,P9,U0,Pc.text,Dw,tP];omega
   rw[e];simp only[Ex.size];omega
  ·have e:(tE (.nd 10 0 [] a .no)).length=1+(tP (P6 a) 6 a).length:=by
    simp[tE,Y8,o9,P9,U0,Pc.text,KO,tP];omega
   rw[e];simp only[Ex.size];omega
 |two s c h a b ha hb iha ihb=>
  have h1:=Xe (P6 a) (Az c) a;have h2:=Xe (P6 b) (c+1) b;have h3:=as5 h;have e:(tE (.nd 11 0 s a b)).length=(tP (P6 a) (Az c) a).length+2+s.length+(tP (P6 b) (c+1) b).length:=by
   simp[tE,Y8,o9,Ap,P9,U0,Pc.text,h,tP];omega
  rw[e];simp only[Ex.size];omega
theorem QR(B:Bl):(tR B).length=(tB B).length+4:=by
 rw[dU];simp only[J8,T3,Y4];omega
theorem tZ{B:Bl}(h:WB B):(tB B).length<=150*B.size:=by
 induction h with
 |no=>decide
 |names k h s hs a ha r hr ih=>
  have h1:=Ms ha;have h2:=hs.2.2.2.1;rw[Je];have e:(tS k 0 s [] a .no .no .no).length=8+s.length+(tE a).length:=by
   rcases h with rfl|rfl<;>(simp[tS,Cf,o9,Ap,P9,U0,AP,Pc.text,CD,S3,Ay,AL,Aq,W8,tE];omega)
  rw[J8,e];simp only[Bl.size,Ex.size,J8,T3,Y4];omega
 |put a b ha hb r hr ih=>
  have h1:=Ms ha;have h2:=Ms hb;rw[Je];have e:(tS 22 0 [] [] a b .no .no).length=7+(tE a).length+(tE b).length:=by
   simp[tS,Cf,o9,Ap,P9,U0,Pc.text,CD,S3,BF,Ay,AL,d5,W8,tE];omega
  rw[J8,e];simp only[Bl.size,Ex.size,J8,T3,Y4];omega
 |one k h a ha r hr ih=>
  have h1:=Ms ha;rw[Je];have e:(tS k 0 [] [] a .no .no .no).length<=8+(tE a).length:=by
   rcases h with rfl|rfl|rfl<;>(simp[tS,Cf,o9,Ap,P9,U0,Pc.text,CD,S3,Bv,CO,DH,W8,tE];try omega)
  rw[J8];simp only[Bl.size,Ex.size,J8,T3,Y4];omega
 |iff a ha B hB r hr ihB ih=>
  have h1:=Ms ha;have h2:=QR B;rw[Je];have e:(tS 24 0 [] [] a .no B .no).length=3+(tE a).length+(tR B).length:=by
   simp[tS,Cf,o9,Ap,P9,U0,Pc.text,S3,w8,tE,tR];omega
  rw[J8,e];simp only[Bl.size,Ex.size,J8,T3,Y4];omega
 |Hk a ha B C hB hC r hr ihB ihC ih=>
  have h1:=Ms ha;have h2:=QR B;have h3:=QR C;rw[Je];have e:(tS 24 1 [] [] a .no B C).length=8+(tE a).length+(tR B).length+(tR C).length:=by
   simp[tS,Cf,o9,Ap,P9,U0,Pc.text,S3,w8,Ba,tE,tR];omega
  rw[J8,e];simp only[Bl.size,Ex.size,J8,T3,Y4];omega
 |each s t hs ht a ha i hi B hB r hr ihB ih=>
  have h1:=Ms ha;have h2:=QR B;have h3:=hs.2.2.2.1;have h4:=ht.2.2.2.1;have h5:=Wy i ⟨hi.1,by omega⟩;rw[Je];have e:(tS 25 i s t a .no B .no).length=18+s.length+t.length+(Lib.decDigits i.toNat).length+(tE a).length+(tR B).length:=by
   simp[tS,Cf,o9,Ap,P9,U0,AP,Da,Pc.text,S3,BR,d5,CI,Bw,Z2,Y1,tE,tR];omega
  rw[J8,e];simp only[Bl.size,Ex.size,J8,T3,Y4];omega
 |rep i hi B hB r hr ihB ih=>
  have h2:=QR B;have h5:=Wy i ⟨hi.1,by omega⟩;rw[Je];have e:(tS 26 i [] [] .no .no B .no).length=7+(Lib.decDigits i.toNat).length+(tR B).length:=by
   simp[tS,Cf,o9,Ap,P9,U0,Da,Pc.text,S3,DC,tE,tR];omega
  rw[J8,e];simp only[Bl.size,Ex.size,J8,T3,Y4];omega
theorem al2:Ae prog 66=some ([.slice none 0 0,.int .i64 0,.pointer none,.slice none 0 0],[(0,2),(2,2)]):=by kernel_rfl
theorem am9{B:Bl}(h:WB B)(hn:B≠.no):tB B≠[]:=by
 cases B with
 |no=>exact absurd rfl hn
 |st k i s t a b B C r=>
  rw[Je];intro e;have:=congrArg List.length e;simp only[J8,T3,Y4] at this;omega
theorem nV(g:Nat)(v:Value)(f:Int)(ns:List F2)(q:Bool×Value)(l:C9)(w:B6)(ho:B7 (J1 w (wr g v f ns q l)) (wr g v f ns q l) w):
  Calls prog 15 #[.pointer (some ⟨g,0,none⟩),.int .i64 (-1)] w λe w'=>e=.returned (.tuple #[])/\O0 w (λk=>k∈F1 (wr g v f ns q l)) (wr g v f ns q l) w':=by
 refine G7 ho func15 O ntmps15 O<|C7 ?_;rotate_left;refine DG (λ_:Unit=>True) (λ_=>[(0,.pointer (some ⟨g,0,none⟩)),(1,.int .i64 (-1))]) (λ_=>0) () trivial ⟨rfl,rfl,trivial⟩ ?_;intro _ _;exact B5<|A4 O<|O1 O<|A6<|E0 O (by decide)<|S4<|J0<|J0<|S5<|K7 O λw9 ho9=>⟨rfl,_,_,ho9⟩
theorem iE{a b c d:C2}:[c,b,d,a].Perm [a,b,c,d]:=(EC (l₁:=[c,b,d]) (l₂:=[a])).trans (.cons _ (.swap ..))
theorem yB{B:Bl}(hW:WB B)(hs:B.size<=512)(v:Value)(w:B6)(hG:Cr w)(hU:Gm [.row v ND 8 (N0 B 0).length (L2 (N0 B 0))])(ho:B7 (J1 w [.row v ND 8 (N0 B 0).length (L2 (N0 B 0))]) [.row v ND 8 (N0 B 0).length (L2 (N0 B 0))] w):
  Calls prog 7 #[.agg #[v,.int .i64 (B.ix 0)]] w λe w'=>e=.returned (.tuple #[.string (bs (tB B)),.int .i64 0])/\O0 w (λb=>b∈F1 [.row v ND 8 (N0 B 0).length (L2 (N0 B 0))]) [.row v ND 8 (N0 B 0).length (L2 (N0 B 0))] w':=by
 have hC:GW (J1 w [.row v ND 8 (N0 B 0).length (L2 (N0 B 0))]):=AG hG hU;refine G7 ho func7 O ntmps7 O ?_;have hM:=fS hW hs;have hlen:=tZ hW;have hblk:=OK (zN hW) 0 (N0 B 0) (sub_self B);generalize N0 B 0=ns at*;refine A3<|F0 (cs:= #[v,.int .i64 (B.ix 0)]) O λgp=>E6 O<|A5 O<|B5<|G6 0 O O<|W7 (ι:=Unit) [.B1 gp p8 #[v,.int .i64 (B.ix 0)]] [.row v ND 8 ns.length (L2 ns)] (λ_=>.bool true) (λ_=>[.row v ND 8 ns.length (L2 ns)]) O (A7 O) (λw _ ho=>(gY v _ ns hM w ho).mono λe w' h=>⟨(),h⟩) O O λ_=>J7 O<|A6<|M8 O<|D6<|A3<|G6 0 O O<|B9 (O7 [v,.int .i64 (B.ix 0),.pointer none,.slice none 0 0] al2 O) O<|F0 (cs:= #[v,.int .i64 (B.ix 0),.pointer none,.slice none 0 0]) O λgw=>A5 O<|C8 ?_;rotate_left;refine BY U8 1<|CE (H':=[.B1 gp p8 #[v,.int .i64 (B.ix 0)]]++wr gw v (B.ix 0) ns (false,.slice none 0 0) []) iE ?_;by_cases hB:B=.no
 ·have ht:tB B=[]:=by rw[hB];rfl
  have hix:B.ix 0= -1:=by rw[hB];rfl
  refine C5<|A4 O<|B2 0 O<|W7 (ι:=Unit) [.B1 gp p8 #[v,.int .i64 (B.ix 0)]] (wr gw v (B.ix 0) ns (false,.slice none 0 0) []) (λ_=>.tuple #[]) (λ_=>wr gw v (B.ix 0) ns (false,.slice none 0 0) []) O (A7 O) (λw _ ho=>(by have hq:=(nV gw v (B.ix 0) ns _ _ w ho).mono (λe w' h=>(⟨(),h⟩:∃_:Unit,_));rwa[<-hix] at hq)) O O λ_=>A6<|C8 ?_;rotate_left;refine CE (H':=[.B1 gp p8 #[v,.int .i64 (B.ix 0)],.row v ND 8 ns.length (L2 ns),.B1 gw Fk (IX gw v (B.ix 0) false (.slice none 0 0)),.row (.slice none 0 0) U8 1 (tB B).length (Z3 (tB B))]) (by rw[ht];exact .cons _ (.swap ..))<|C5<|A4 O<|E5 O<|D9 O<|W7 (ι:=Unit) [.B1 gp p8 #[v,.int .i64 (B.ix 0)],.row v ND 8 ns.length (L2 ns)] [.B1 gw Fk (IX gw v (B.ix 0) false (.slice none 0 0)),.row (.slice none 0 0) U8 1 (tB B).length (Z3 (tB B))] (λ_=>.string (bs (tB B))) (λ_=>[.B1 gw Fk (IX gw v (B.ix 0) false (.slice none 0 0))]) O (A7 O) (λw _ ho=>(SV gw 2 Fk _ _ (tB B) w (Xw _ _ _ _ _) (by omega) (.inr rfl) ho).mono λe w' h=>⟨(),h⟩) O O λ_=>E6 O<|A5 O<|D4<|V6 O O O O λw9 ho9=>?_;rotate_left;exact⟨rfl,_,_,ho9.sublist (.cons _ (.cons_cons _ (Ea _)))⟩
 ·have hne:=am9 hW hB;refine C5<|A4 O<|B2 0 O<|r6 [.B1 gp p8 #[v,.int .i64 (B.ix 0)]] (l:=[]) ([]++tB B) O (A7 O) hC (λw hG hU ho=>hblk gw v _ _ [] w hG hU (by simp only[Y4];omega) ho) O O λq14=>A6<|C8 ?_;rotate_left;refine CE (H':=[.B1 gp p8 #[v,.int .i64 (B.ix 0)],.row v ND 8 ns.length (L2 ns),.B1 gw Fk (IX gw v (B.ix 0) q14.1 q14.2),.row q14.2 U8 1 (tB B).length (Z3 (tB B))]) (.cons _ (.swap ..))<|C5<|A4 O<|E5 O<|D9 O<|W7 (ι:=Unit) [.B1 gp p8 #[v,.int .i64 (B.ix 0)],.row v ND 8 ns.length (L2 ns)] [.B1 gw Fk (IX gw v (B.ix 0) q14.1 q14.2),.row q14.2 U8 1 (tB B).length (Z3 (tB B))] (λ_=>.string (bs (tB B))) (λ_=>[.B1 gw Fk (IX gw v (B.ix 0) q14.1 q14.2)]) O (A7 O) (λw _ ho=>(SV gw 2 Fk _ _ (tB B) w (Xw _ _ _ _ _) (by omega) (.inl hne) ho).mono λe w' h=>⟨(),h⟩) O O λ_=>E6 O<|A5 O<|D4<|V6 O O O O λw9 ho9=>?_;rotate_left;exact⟨rfl,_,_,ho9.sublist (.cons _ (.cons_cons _ (Ea _)))⟩
end
theorem Fi(gb o j:Nat):(⟨gb,o,none⟩:Addr).add j=⟨gb,o+j,none⟩:=by unfold Addr.add;split<;>simp_all
theorem Below.o8{w0 w:B6}{p:Addr}{v:Value}(hb:Below w0.heap.size w0 w)(hc:w0.cell? p=some v):w.cell? p=some v:=
 (World.cell?_of_block (hb.block _ (World.block_lt_of_cell? _ _ hc))).trans hc
def T7(w:World)(arg:Value)(vs:List Value):Prop:=(arg=.slice none 0 0/\vs=[])\/
 ∃A c,arg=.slice (some A) vs.length c/\vs.length<=c/\∀j u,vs[j]?=some u->w.cell? (A.add j)=some u
theorem T7.K6{w w':B6}{arg:Value}{vs:H2}(h:T7 w arg vs)(hb:Below w.heap.size w w'):T7 w' arg vs:=
 h.imp id λ⟨A,c,h1,h0,h2⟩=>⟨A,c,h1,h0,λj u hu=>Below.o8 hb (h2 j u hu)⟩
theorem T7.len{w:B6}{arg:Value}{vs:H2}(h:T7 w arg vs):∃A c,arg=.slice A vs.length c:=by
 rcases h with⟨rfl,rfl⟩|⟨A,c,rfl,_,_⟩
 ·exact⟨none,0,rfl⟩
 ·exact⟨_,c,rfl⟩
theorem T7.form{w:B6}{arg:Value}{vs:H2}(h:T7 w arg vs)(hne:0<vs.length):∃gb o c,arg=.slice (some ⟨gb,o,none⟩) vs.length c/\vs.length<=c/\gb<w.heap.size/\∀j u,vs[j]?=some u->w.cell? ⟨gb,o+j,none⟩=some u:=by
 rcases h with⟨_,rfl⟩|⟨⟨gb,o,sp⟩,c,rfl,hc,h2⟩
 ·simp at hne
 ·have h0:=h2 0 _ (T8 hne);have hsp:sp=none:=by
   cases sp with
   |none=>rfl
   |some s=>simp[Addr.add,World.cell?] at h0;split at h0<;>simp at h0
  subst hsp;exact⟨gb,o,c,rfl,hc,World.block_lt_of_cell? _ _ h0,λj u hu=>by rw[<-Fi];exact h2 j u hu⟩
theorem OF{w:B6}{b e m:Nat}{v:Value}{vs:H2}(h:w.ownsRow b e 1 v m vs):T7 w v vs:=by
 have hl:vs.length=m:=by simpa using h.1
 rcases h.2 with⟨rfl,h0⟩|⟨g,cap,cur,rfl,h1,hg,h2,h3,h4,h5⟩
 ·exact .inl ⟨rfl,Kh (by omega)⟩
 ·refine .inr ⟨⟨g,0,none⟩,cap,by rw[hl],by omega,λj u hu=>?_⟩;have hj:j<vs.length:=(N5.1 hu).1;rw[Fi,Y3,cell_of_row w g j cur e (0,0) hg];rw[<-h5,MC] at hu;split at hu
  ·simpa using hu
  ·cases hu
theorem B7.DT{w0 w b:B6}{M F:Nat->Prop}{D:List Mk}{H:List C2}{arg:Value}{vs:H2}(h:B7 ⟨w0,λ_=>False,M,b,F,D⟩ H w)(hB:T7 w0 arg vs):T7 w arg vs:=hB.K6 h.plain
def AZ(q:Nat):Value->Value
 |.slice A m c=>.slice A q c
 |v=>v
theorem sG{w:B6}{v:Value}{vs:H2}{q:Nat}(h:T7 w v vs)(hq:q<=vs.length):T7 w (AZ q v) (vs.take q):=by
 rcases h with⟨rfl,rfl⟩|⟨A,c,rfl,hc,hcell⟩
 ·obtain rfl:q=0:=by simpa using hq
  exact .inl ⟨rfl,rfl⟩
 ·refine .inr ⟨A,c,?_,?_,λj u hu=>hcell j u ?_⟩
  ·rw[ED,Pj hq];rfl
  ·rw[ED];omega
  ·rw[MC] at hu;split at hu
   ·exact hu
   ·cases hu
section
variable{P:Program}{r:Option Nat}{n:Nat}{E:List (Nat×Value)}{C:I3}{H:List C2}{Q:Exit->Act->World->Prop}{ops:Array Oper}{rest:List Oper}
variable{dst:Option Tmp}{ty:TypeId}{pos:String}{after:Array Edge}{g:Option (Nat×Bool)}{x y:Operand}{xT:TypeId}
theorem Ot{v:Value}{vs:H2}{t:TypeId}(hT:PS P t=true)(hx:ev E x=some v)(hB:∀w,B7 C H w->T7 w v vs):L1 P n E C H ⟨dst,.call ⟨.builtin .len,#[x],#[t]⟩,ty,pos,after,g⟩ (.int .i64 (vs.length:Int)):=λa w hf ho=>by
 obtain⟨A,c,rfl⟩:=(hB w ho).len;exact KG hT hx a w hf ho
end
theorem Gy{v:Value}(h:v.oneCell'=true):∀u∈[v],u.oneCell'=true:=by
 intro u hu;obtain rfl:u=v:=by simpa using hu
 exact h
structure kO(w:World)(e g cap m:Nat)(w':World):Prop where
 zU:M0 w (λk=>k=g) w'
 cells:∃cur cur':Array Value,w.heap[g]?=some (.cells cur e)/\w'.heap[g]?=some (.cells cur' e)/\cur.size=cap/\cur'.size=cap/\cur'.toList.take m=cur.toList.take m
theorem kO.row{w w':B6}{e g cap m q b:Nat}{v:Value}{xs:H2}(h:kO w e g cap m w')(hq:q<=m)(ho:w.ownsRow b e 1 v q xs):w'.ownsRow b e 1 v q xs:=by
 obtain⟨cur,cur',h1,h2,h3,h4,h5⟩:=h.cells;refine⟨ho.1,ho.2.imp id ?_⟩;rintro⟨g',cap',c',rfl,hb,hg,hn,hm,hs,ht⟩;by_cases he:g'=g
 ·subst he;rw[hg] at h1;cases h1;refine⟨g',cap',cur',rfl,hb,h2,hn,hm,by omega,?_⟩;rw[Pm] at ht⊢;have:=congrArg (List.take q) h5;rw[Rm,Rm,Pj hq] at this;rw[this];exact ht
 ·exact⟨g',cap',c',rfl,hb,(h.zU.old g' (T1.1 hg).1 he).trans hg,hn,hm,hs,ht⟩
section
attribute [local irreducible] F8 D3 Exit.then Exit.inBlock Exit.noGoto wpQuiet Calls fin At G9 L3 L7 RQ R9
structure Sc where
 seen:List (List UInt8)
 B8:Nat
 C0:List Int
 e:Int
 at_:Int
def Fl(s:List UInt8):List (List UInt8)->Nat->Int->Int
 |[],_,r=>r
 |x::l,k,r=>Fl s l (k+1) (if x=s then(k:Int) else r)
def Cu(S:Sc)(c p:Int):Sc:=if S.e=0 then{S with e:=c,at_:=p} else S
def EP(s:List UInt8)(i:Nat)(S:Sc):Sc:=
 let S1:=if Fl s S.seen 0 (-1)<0 then Cu S 15 i else S
 {S1 with C0:=S1.C0.set i (Fl s S.seen 0 (-1))}
def DE(s:List UInt8)(i:Int)(S:Sc):Sc:=
 let S1:=if S.seen.contains s then Cu S 16 i else if 32<=S.seen.length then Cu S 5 i else S
 {S1 with seen:=S1.seen++[s],B8:=max S1.B8 (S1.seen.length+1)}
def M5:Ex->Nat->Sc->Sc
 |.no,_,S=>S
 |.nd k i s a b,n,S=>if k=4 then EP s (n+a.size+b.size) (M5 b (n+a.size) (M5 a n S)) else M5 b (n+a.size) (M5 a n S)
def AT(ns:List (List UInt8))(p:Int)(S:Sc):Sc:=ns.foldl (λS s=>DE s p S) S
def Aj(f:Sc->Sc)(ns:List (List UInt8))(p:Int)(S:Sc):Sc:={f (AT ns p S) with seen:=(f (AT ns p S)).seen.take S.seen.length}
def AU(i:Nat)(S:Sc):Sc:={S with C0:=S.C0.set i S.seen.length}
structure Dk where
 sv:Value
 T6:Value
 mv:Value
 fv:Value
 made:List (List UInt8)
 free:List (List UInt8)
abbrev Rz:Nat:=188
def Ao(l:List Int):List Value:=l.map λ(x:Int)=>.int .i64 x
def ZR(v:Value)(f:Int)(z:Dk)(S:Sc):Array Value:= #[v,.int .i64 f,z.sv,.int .i64 S.B8,z.T6,z.mv,z.fv,.int .i64 S.e,.int .i64 S.at_]
def R8(g:Nat)(v:Value)(f:Int)(ns:List F2)(z:Dk)(S:Sc):List C2:=
 [.B1 g Rz (ZR v f z S),.row v ND 8 ns.length (L2 ns),.row z.sv S0 1 S.seen.length (D1 S.seen),.row z.T6 S7 1 ns.length (Ao S.C0),.row z.mv S0 1 z.made.length (D1 z.made),.row z.fv S0 1 z.free.length (D1 z.free)]
structure Dv(b:Nat)(ns:List F2)(z:Dk)(S:Sc):Prop where
 seen:S.seen.length<=b
 B8:S.B8<=b
 made:z.made.length<=b
 free:z.free.length<=b
 C0:S.C0.length=ns.length
def NR(w:World)(H:List C2)(g:Nat)(v:Value)(f:Int)(ns:List F2)(S':Sc)(b':Nat)(e:Ending)(w':World):Prop:=∃z',e=.returned (.tuple #[])/\Dv b' ns z' S'/\O0 w (λk=>k∈F1 H) (R8 g v f ns z' S') w'
theorem La{L:List (List UInt8)}{i:Nat}{x:C9}(h:L[i]?=some x):(D1 L)[i]?=some (.string (bs x)):=by simp[D1,h]
theorem at3(v:Value)(L:List (List UInt8))(s:C9)(w:B6)(hV:T7 w v (D1 L))(hl:L.length<=100000):
  I6 250 #[v,.string (bs s)] w (.int .i64 (match L.idxOf? s with|some k=>(k:Int)|none=> -1)):=by
 refine J5 func250 O ntmps250 O ?_;have hln:(D1 L).length=L.length:=by simp[D1]
 refine A3<|A5 O<|B5<|A4 O<|B9 (Ot (vs:=D1 L) (by kernel_rfl) O (λw ho=>ho.DT hV)) O<|A4 O<|A6<|C7 ?_;rw[hln];refine DG (λi:Nat=>i<=L.length/\s∉L.take i) (λi=>[(0,v),(1,.string (bs s)),(7,.int .i64 L.length),(8,.int .i64 i)]) (λi=>L.length-i) 0 ⟨R5 _,by simp⟩ ⟨rfl,rfl,rfl,rfl,trivial⟩ ?_;rintro i ⟨hi,hn⟩;by_cases hil:i<L.length
 ·obtain⟨gb,o,c,rfl,_,_,hcell⟩:=hV.form (by omega);have hx:L[i]?=some L[i]:=T8 hil;have hc:=hcell i _ (La hx);by_cases he:s=L[i]
  ·refine A3<|H9 O<|A6<|C8<|E7 O (by omega)<|D6<|C8<|C7<|B4 O<|A5 O<|B4 O<|A4 O<|A4 O<|B9 (AW i O (by omega)) O<|B9 (AI (v:=.string (bs L[i])) O (λw' ho=>Below.o8 ho.plain hc)) O<|L4 O<|A6<|E7 O (by omega)<|B4 O<|A5 O<|K3<|K0<|U3<|E4 O λw9 ho9=>?_;refine⟨?_,ho9.plain⟩;have:L.idxOf? s=some i:=by
    rw[mM];refine⟨hil,by simpa using he.symm,λj hj=>?_⟩;intro h9;exact hn (YQ.2 ⟨j,by omega,by simpa using h9⟩)
   rw[this]
  ·refine A3<|H9 O<|A6<|C8<|E7 O (by omega)<|D6<|C8<|C7<|B4 O<|A5 O<|B4 O<|A4 O<|A4 O<|B9 (AW i O (by omega)) O<|B9 (AI (v:=.string (bs L[i])) O (λw' ho=>Below.o8 ho.plain hc)) O<|L4 O<|A6<|E0 O (by omega)<|P5<|F4<|E2<|C5<|N6 O (by omega)<|A4 O<|A6 ?_;rotate_left;refine DB (i+1) ⟨by omega,?_⟩ (by omega) ⟨rfl,rfl,rfl,rfl,trivial⟩;rw[JG,hx];simp only[Option.toList,q0,Bt];exact λh=>h.elim hn he
 ·obtain rfl:i=L.length:=by omega
  refine A3<|H9 O<|A6<|C8<|E0 O (by omega)<|S4<|J0<|J0<|S5<|E2<|A3<|A5 O<|D4<|E4 O λw9 ho9=>?_;refine⟨?_,ho9.plain⟩;rw[GQ] at hn;rw[Uv.2 hn]
theorem RB(v:Value)(L:List (List UInt8))(s:C9)(w:B6)(hV:T7 w v (D1 L))(hl:L.length<=100000):
  I6 229 #[v,.string (bs s)] w (.bool (L.contains s)):=by
 refine J5 func229 O ntmps229 O<|A3<|A5 O<|B4 O<|A4 O<|F3 250 (A7 O) (λw ho=>at3 v L s w (ho.DT hV) hl) O<|O1 O<|A5 O<|D4<|E4 O λw9 ho9=>?_;refine⟨?_,ho9.plain⟩;by_cases h:s∈L
 ·cases e:L.idxOf? s with
  |none=>exact absurd h (Uv.1 e)
  |some k=>
   rw[Nj.2 h];simp
 ·rw[Uv.2 h];have:L.contains s=false:=by simpa using h
  rw[this];rfl
theorem iV{P:Program}{n:Nat}{E:X0}{C:I3}{H:List C2}{dst:Option Tmp}{ty:TypeId}{pos:String}{after:Array Edge}{g:Option (Nat×Bool)}{x y:Operand}{ts:Array TypeId}{k k':IntKind}{p q:Int}(hx:ev E x=some (.int k p))(hy:ev E y=some (.int k' q)):L1 P n E C H ⟨dst,.call ⟨.builtin .max,#[x,y],ts⟩,ty,pos,after,g⟩ (.int k (if q>p then q else p)):=by
 intro a w hf ho;have hm:(#[x,y]:Array Operand).map a.eval= #[.int k p,.int k' q]:=by simp[hf.eval hx,hf.eval hy]
 simp only[execOp,resolve,hm];simp[invoke,go_sem];split<;>omega
theorem lE(g:Nat)(v:Value)(f:Int)(ns:List F2)(z:Dk)(S:Sc)(c p:Int)(w:B6)(ho:B7 (J1 w (R8 g v f ns z S)) (R8 g v f ns z S) w):
  Calls prog 230 #[.pointer (some ⟨g,0,none⟩),.int .i64 c,.int .i64 p] w λe w'=>e=.returned (.tuple #[])/\O0 w (λk=>k∈F1 (R8 g v f ns z S)) (R8 g v f ns z (Cu S c p)) w':=by
 refine G7 ho func230 O ntmps230 O ?_;by_cases he:S.e=0
 ·have e:Cu S c p={S with e:=c,at_:=p}:=if_pos he;rw[e];exact B4 O<|E5 O<|B2 0 O<|H5 O<|A6<|E7 O (by exact he)<|C5<|A4 O<|A4 O<|A4 O<|A4 O<|E5 O<|D9 O<|N4 0 O<|E5 O<|D9 O<|N4 0 O<|H6<|K7 O λw9 ho9=>⟨rfl,_,_,ho9⟩
 ·have e:Cu S c p=S:=if_neg he;rw[e];exact B4 O<|E5 O<|B2 0 O<|H5 O<|A6<|E0 O (by exact he)<|P5<|K7 O λw9 ho9=>⟨rfl,_,_,ho9⟩
theorem HU(S:Sc)(c p:Int):(Cu S c p).seen=S.seen/\(Cu S c p).B8=S.B8/\(Cu S c p).C0=S.C0:=by
 unfold Cu;split<;>exact⟨rfl,rfl,rfl⟩
theorem lG(s:C9):∀(L:List (List UInt8)) (k:Nat) (r:Int),-1<=r-> -1<=Fl s L k r
 |[],_,r,h=>h
 |x::l,k,r,h=>lG s l (k+1) _ (by split<;>omega)
theorem Xx(s:C9):∀(L:List (List UInt8)) (k:Nat) (r:Int),r<k+L.length->Fl s L k r<k+L.length
 |[],k,r,h=>h
 |x::l,k,r,h=>by
  have:=Xx s l (k+1) (if x=s then(k:Int) else r) (by simp only[T3] at h;split<;>omega);simp only[Fl,T3] at*;omega
theorem Rv{l:List Int}{k:Nat}{x:Int}(hx:l[k]?=some x):(Ao l)[0+k*1]?=some (.int .i64 x):=by
 rw[Y3,Pm,Ao,Kj,hx];rfl
theorem QX(l:List Int)(k:Nat)(x:Int):(Ao l).set (0+k*1) (.int .i64 x)=Ao (l.set k x):=by
 rw[Y3,Pm];simp[Ao]
theorem ZH(g:Nat)(v:Value)(f:Int)(ns:List F2)(z:Dk)(S:Sc)(s:C9)(i b:Nat)(w:B6)(hB:Dv b ns z S)(hb:b<=90000)(hi:i<ns.length)(hn5:ns.length<=512)(ho:B7 (J1 w (R8 g v f ns z S)) (R8 g v f ns z S) w):
  Calls prog 232 #[.pointer (some ⟨g,0,none⟩),.string (bs s),.int .i64 i] w (NR w (R8 g v f ns z S) g v f ns (EP s i S) (b+1)):=by
 refine G7 ho func232 O ntmps232 O ?_;obtain⟨sv,T6,mv,fv,made,free⟩:=z;obtain⟨hb1,hb2,hb3,hb4,hb5⟩:=hB;dsimp only at hb3 hb4;refine A3<|A5 O<|B5<|A4 O<|E5 O<|B2 0 O<|BA 2 O<|A4 O<|A6<|C7 ?_;rotate_left;refine DG (λs2:Nat×Int=>s2.1<=S.seen.length/\Fl s (S.seen.drop s2.1) s2.1 s2.2=Fl s S.seen 0 (-1)) (λs2=>[(0,.pointer (some ⟨g,0,none⟩)),(1,.string (bs s)),(2,.int .i64 i),(6,.int .i64 s2.2),(12,sv),(13,.int .i64 S.seen.length),(14,.int .i64 s2.1)]) (λs2=>S.seen.length-s2.1) (0,-1) ⟨R5 _,rfl⟩ ⟨rfl,rfl,rfl,rfl,rfl,rfl,rfl,trivial⟩ ?_;rintro⟨k,r⟩ ⟨hk,hr⟩;dsimp only at hk hr⊢;by_cases hkl:k<S.seen.length
 ·refine R7 2 O ?_;rintro⟨_,⟨_,h0⟩|⟨gs,c,rfl⟩⟩
  ·omega
  have hx:S.seen[k]?=some S.seen[k]:=T8 hkl;have hd:S.seen.drop k=S.seen[k]::S.seen.drop (k+1):=MG hkl;rw[hd] at hr;simp only[Fl] at hr;generalize S.seen[k]=x at*;have hv:(D1 S.seen)[0+k]?=some (.string (bs x)):=by rw[Y3];exact La hx
  by_cases he:x=s
  ·rw[if_pos he] at hr;refine A3<|H9 O<|A6<|C8<|E7 O (by omega)<|D6<|C8<|C7<|B4 O<|B9 (AW k O hkl) O<|B9 (Av 2 (j:=0+k) O (by omega) hv) O<|E6 O<|A5 O<|B4 O<|A4 O<|L4 O<|A6<|E7 O (by omega)<|C5<|A4 O<|E6 O<|H6<|F4<|E2<|C5<|N6 O (by omega)<|A4 O<|A6 ?_;rotate_left;exact DB (k+1,(k:Int)) ⟨by(first|omega|(dsimp only;omega)|(simp;omega)),hr⟩ (by(first|omega|(dsimp only;omega)|(simp;omega))) ⟨rfl,rfl,rfl,rfl,rfl,rfl,rfl,trivial⟩
  ·rw[if_neg he] at hr;refine A3<|H9 O<|A6<|C8<|E7 O (by omega)<|D6<|C8<|C7<|B4 O<|B9 (AW k O hkl) O<|B9 (Av 2 (j:=0+k) O (by omega) hv) O<|E6 O<|A5 O<|B4 O<|A4 O<|L4 O<|A6<|E0 O (by omega)<|P5<|F4<|E2<|C5<|N6 O (by omega)<|A4 O<|A6 ?_;rotate_left;exact DB (k+1,r) ⟨by(first|omega|(dsimp only;omega)|(simp;omega)),hr⟩ (by(first|omega|(dsimp only;omega)|(simp;omega))) ⟨rfl,rfl,rfl,rfl,rfl,rfl,rfl,trivial⟩
 ·obtain rfl:k=S.seen.length:=by omega
  rw[Rl] at hr;obtain rfl:r=Fl s S.seen 0 (-1):=hr;have hge:=lG s S.seen 0 (-1) (by omega);have hlt:=Xx s S.seen 0 (-1) (by omega);unfold EP;generalize Fl s S.seen 0 (-1)=r at*;refine R7 3 O ?_;rintro⟨_,⟨_,h0⟩|⟨gl,c,rfl⟩⟩
  ·omega
  by_cases hr0:r<0
  ·simp only[if_pos hr0];obtain⟨kw1,kw2,kw3⟩:=HU S 15 i;have cW:∀w,B7 (J1 w (R8 g v f ns ⟨sv,.slice (some ⟨gl,0,none⟩) ns.length c,mv,fv,made,free⟩ S)) (R8 g v f ns ⟨sv,.slice (some ⟨gl,0,none⟩) ns.length c,mv,fv,made,free⟩ S) w->Calls prog 230 #[.pointer (some ⟨g,0,none⟩),.int .i64 15,.int .i64 i] w λe w'=>∃_:Unit,e=.returned (.tuple #[])/\O0 w (λk=>k∈F1 (R8 g v f ns ⟨sv,.slice (some ⟨gl,0,none⟩) ns.length c,mv,fv,made,free⟩ S)) (R8 g v f ns ⟨sv,.slice (some ⟨gl,0,none⟩) ns.length c,mv,fv,made,free⟩ (Cu S 15 i)) w':=λw ho=>(lE g v f ns _ S 15 i w ho).mono λe w' h=>⟨(),h⟩
   generalize Cu S 15 i=S1 at*;by_cases hc:free.contains s=true
   ·refine A3<|H9 O<|A6<|C8<|E0 O (by omega)<|S4<|J0<|J0<|S5<|E2<|B5<|A4 O<|H9 O<|A6<|E7 O (by omega)<|B4 O<|A4 O<|W7 (ι:=Unit) [] (R8 g v f ns ⟨sv,.slice (some ⟨gl,0,none⟩) ns.length c,mv,fv,made,free⟩ S) (λ_=>.tuple #[]) (λ_=>R8 g v f ns ⟨sv,.slice (some ⟨gl,0,none⟩) ns.length c,mv,fv,made,free⟩ S1) O (A7 O) (λw _ ho=>cW w ho) O O λ_=>I9 O<|E5 O<|B2 0 O<|A4 O<|F3 229 (A7 O) (λw ho=>RB fv free s w (OF (ho.rowAt (i:=5) rfl)) (by omega)) O<|J7 O<|A6<|Y7 O (by(rw[hc];rfl))<|D6<|C5<|A4 O<|E5 O<|B2 0 O<|A4 O<|A4 O<|Q4 (j:=i) O hi<|GR (i:=3) (j:=0+i*1) (by kernel_rfl) O O O O (by omega)<|H6<|K7 O λw9 ho9=>?_;refine⟨⟨sv,.slice (some ⟨gl,0,none⟩) ns.length c,mv,fv,made,free⟩,rfl,⟨(by rw[kw1];omega:S1.seen.length<=b+1),(by rw[kw2];omega:S1.B8<=b+1),by(first|omega|(dsimp only;omega)|(simp;omega)),by(first|omega|(dsimp only;omega)|(simp;omega)),by simp[kw3,hb5]⟩,?_⟩;have e:=QX S1.C0 i r;unfold R8;rw[<-e];exact⟨_,_,ho9⟩
   ·have hc2:free.contains s=false:=by simpa using hc
    refine A3<|H9 O<|A6<|C8<|E0 O (by omega)<|S4<|J0<|J0<|S5<|E2<|B5<|A4 O<|H9 O<|A6<|E7 O (by omega)<|B4 O<|A4 O<|W7 (ι:=Unit) [] (R8 g v f ns ⟨sv,.slice (some ⟨gl,0,none⟩) ns.length c,mv,fv,made,free⟩ S) (λ_=>.tuple #[]) (λ_=>R8 g v f ns ⟨sv,.slice (some ⟨gl,0,none⟩) ns.length c,mv,fv,made,free⟩ S1) O (A7 O) (λw _ ho=>cW w ho) O O λ_=>I9 O<|E5 O<|B2 0 O<|A4 O<|F3 229 (A7 O) (λw ho=>RB fv free s w (OF (ho.rowAt (i:=5) rfl)) (by omega)) O<|J7 O<|A6<|k8 O (by(rw[hc2];rfl))<|C5<|A4 O<|A4 O<|E5 O<|B2 0 O<|A4 O<|N7 (D1 [s]) (D1 [s]) O λgt=>CT 6 S0 1 16 (free.length) 1 (D1 [s]) (by kernel_rfl) O (λw ho=>BI ho (i:=0) rfl) (LU rfl) (by simp only[maxLen];omega) O λv43 hv43=>E5 O<|D9 O<|Ce (i:=1) (by kernel_rfl) O O (by assumption) O O<|A6<|C5<|A4 O ?_;refine E5 O<|B2 1 O<|A4 O<|A4 O<|Q4 (j:=i) O hi<|GR (i:=4) (j:=0+i*1) (by kernel_rfl) O O O O (by omega)<|H6<|K7 O λw9 ho9=>?_;refine⟨⟨sv,.slice (some ⟨gl,0,none⟩) ns.length c,mv,v43,made,free++[s]⟩,rfl,⟨(by rw[kw1];omega:S1.seen.length<=b+1),(by rw[kw2];omega:S1.B8<=b+1),by(first|omega|(dsimp only;omega)|(simp;omega)),by simp;omega,by simp[kw3,hb5]⟩,?_⟩;have e:=QX S1.C0 i r;have e2:D1 (free++[s])=D1 free++D1 [s]:=by simp[D1]
    unfold R8;dsimp only;rw[<-e,e2,J8];exact⟨_,_,ho9.sublist (L9 ..)⟩
  ·simp only[if_neg hr0];refine A3<|H9 O<|A6<|C8<|E0 O (by omega)<|S4<|J0<|J0<|S5<|E2<|B5<|A4 O<|H9 O<|A6<|E0 O (by omega)<|D6<|C5<|A4 O<|E5 O<|B2 0 O<|A4 O<|A4 O<|Q4 (j:=i) O hi<|GR (i:=3) (j:=0+i*1) (by kernel_rfl) O O O O (by omega)<|H6<|K7 O λw9 ho9=>?_;refine⟨⟨sv,.slice (some ⟨gl,0,none⟩) ns.length c,mv,fv,made,free⟩,rfl,⟨by(first|omega|(dsimp only;omega)|(simp;omega)),by(first|omega|(dsimp only;omega)|(simp;omega)),by(first|omega|(dsimp only;omega)|(simp;omega)),by(first|omega|(dsimp only;omega)|(simp;omega)),by simp[hb5]⟩,?_⟩;have e:=QX S.C0 i r;unfold R8;rw[<-e];exact⟨_,_,ho9⟩
theorem Yh(g:Nat)(v:Value)(f:Int)(ns:List F2)(z:Dk)(S:Sc)(s:C9)(i:Int)(b:Nat)(w:B6)(hB:Dv b ns z S)(hb:b<=90000)(hn5:ns.length<=512)(ho:B7 (J1 w (R8 g v f ns z S)) (R8 g v f ns z S) w):
  Calls prog 197 #[.pointer (some ⟨g,0,none⟩),.string (bs s),.int .i64 i] w (NR w (R8 g v f ns z S) g v f ns (DE s i S) (b+1)):=by
 refine G7 ho func197 O ntmps197 O ?_;obtain⟨sv,T6,mv,fv,made,free⟩:=z;obtain⟨hb1,hb2,hb3,hb4,hb5⟩:=hB;dsimp only at hb3 hb4;have cW:∀c w,B7 (J1 w (R8 g v f ns ⟨sv,T6,mv,fv,made,free⟩ S)) (R8 g v f ns ⟨sv,T6,mv,fv,made,free⟩ S) w->Calls prog 230 #[.pointer (some ⟨g,0,none⟩),.int .i64 c,.int .i64 i] w λe w'=>∃_:Unit,e=.returned (.tuple #[])/\O0 w (λk=>k∈F1 (R8 g v f ns ⟨sv,T6,mv,fv,made,free⟩ S)) (R8 g v f ns ⟨sv,T6,mv,fv,made,free⟩ (Cu S c i)) w':=λc w ho=>(lE g v f ns _ S c i w ho).mono λe w' h=>⟨(),h⟩
 unfold DE;obtain⟨S1,hS1⟩:∃S1,S1=if S.seen.contains s then Cu S 16 i else if 32<=S.seen.length then Cu S 5 i else S:=⟨_,rfl⟩
 rw[<-hS1];have hk:S1.seen=S.seen/\S1.B8=S.B8/\S1.C0=S.C0:=by
  rw[hS1];split
  ·exact HU S 16 i
  split
  ·exact HU S 5 i
  ·exact⟨rfl,rfl,rfl⟩
 obtain⟨kw1,kw2,kw3⟩:=hk;refine C8<|CN ?_;rotate_left;refine XA (ι:=Unit) (λ_=>True) (λ_=>[(0,.pointer (some ⟨g,0,none⟩)),(1,.string (bs s)),(2,.int .i64 i)]) (λ_=>R8 g v f ns ⟨sv,T6,mv,fv,made,free⟩ S1) ?_ (λ_ _=>?_)
 ·by_cases hc:S.seen.contains s=true
  ·rw[if_pos hc] at hS1;refine C5<|A4 O<|E5 O<|B2 0 O<|A4 O<|F3 229 (A7 O) (λw ho=>RB sv S.seen s w (OF (ho.rowAt (i:=2) rfl)) (by omega)) O<|A5 O<|k8 O (by exact hc)<|C5<|A4 O<|A4 O<|W7 (ι:=Unit) [] (R8 g v f ns ⟨sv,T6,mv,fv,made,free⟩ S) (λ_=>.tuple #[]) (λ_=>R8 g v f ns ⟨sv,T6,mv,fv,made,free⟩ (Cu S 16 i)) O (A7 O) (λw _ ho=>cW 16 w ho) O O λ_=>A6 ?_;rotate_left;exact FK () trivial ⟨rfl,rfl,rfl,trivial⟩ (by subst hS1;rfl)
  have hc2:S.seen.contains s=false:=by simpa using hc
  rw[if_neg hc] at hS1;by_cases h32:32<=S.seen.length
  ·rw[if_pos h32] at hS1;refine C5<|A4 O<|E5 O<|B2 0 O<|A4 O<|F3 229 (A7 O) (λw ho=>RB sv S.seen s w (OF (ho.rowAt (i:=2) rfl)) (by omega)) O<|A5 O<|Y7 O (by exact hc2)<|B4 O<|E5 O<|B2 0 O<|BA 2 O<|O1 O<|A5 O<|E7 O (by omega)<|C5<|A4 O<|A4 O<|W7 (ι:=Unit) [] (R8 g v f ns ⟨sv,T6,mv,fv,made,free⟩ S) (λ_=>.tuple #[]) (λ_=>R8 g v f ns ⟨sv,T6,mv,fv,made,free⟩ (Cu S 5 i)) O (A7 O) (λw _ ho=>cW 5 w ho) O O λ_=>A6 ?_;rotate_left;exact FK () trivial ⟨rfl,rfl,rfl,trivial⟩ (by subst hS1;rfl)
  ·rw[if_neg h32] at hS1;refine C5<|A4 O<|E5 O<|B2 0 O<|A4 O<|F3 229 (A7 O) (λw ho=>RB sv S.seen s w (OF (ho.rowAt (i:=2) rfl)) (by omega)) O<|A5 O<|Y7 O (by exact hc2)<|B4 O<|E5 O<|B2 0 O<|BA 2 O<|O1 O<|A5 O<|E0 O (by omega)<|D6 ?_;rotate_left;exact FK () trivial ⟨rfl,rfl,rfl,trivial⟩ (by subst hS1;rfl)
 clear hS1;rw[<-kw1] at hb1;rw[<-kw2] at hb2;rw[<-kw3] at hb5;refine F4<|E2<|B4 O<|A4 O<|E5 O<|B2 0 O<|A4 O<|N7 (D1 [s]) (D1 [s]) O λgt=>CT 5 S0 1 16 (made.length) 1 (D1 [s]) (by kernel_rfl) O (λw ho=>BI ho (i:=0) rfl) (LU rfl) (by simp only[maxLen];omega) O λv33 hv33=>E5 O<|D9 O<|Ce (i:=1) (by kernel_rfl) O O (by assumption) O O<|I9 O<|A4 O<|E5 O<|B2 1 O<|A4 O<|N7 (D1 [s]) (D1 [s]) O λgu=>CT 4 S0 1 16 (S1.seen.length) 1 (D1 [s]) (by kernel_rfl) O (λw ho=>BI ho (i:=0) rfl) (LU rfl) (by simp only[maxLen];omega) O λv43 hv43=>E5 O<|D9 O<|Ce (i:=2) (by kernel_rfl) O O (by assumption) O O<|A6 ?_;apply BL 13 [_,_,_,_,_,_,_,_,_,_,_,_,_] (by kernel_rfl) (by kernel_rfl) (by kernel_rfl)
 ·refine D5 O (λvs=>H8 O)<|D5 O (λvs=>H8 O)<|D5 O (λvs=>N1 O)<|D5 O (λvs=>I8 3 O)<|D5 O (λvs=>K1 2 O)<|D5 O (λvs=>H8 O)<|D5 O (λvs=>N1 O)<|D5 O (λvs=>I8 2 O)<|D5 O (λvs=>K1 2 O)<|D5 O (λvs=>Im (i:=4) (by kernel_rfl) O O)<|D5 O (λvs=>iV O O)<|D5 O (λvs=>N1 O)<|D5 O (λvs=>I8 3 O) ?_;exact l6
 ·(repeat(first|exact trivial|exact(λ_ _ _ h=>h)|refine⟨trivial,?_⟩|refine⟨λ_ _ _ h=>h,?_⟩))
 ·intro vs;refine N4 2 O<|H6<|K7 O λw9 ho9=>?_;have e1:D1 (made++[s])=D1 made++D1 [s]:=by simp[D1]
  have e2:D1 (S1.seen++[s])=D1 S1.seen++D1 [s]:=by simp[D1]
  have em:(if((S1.seen.length+1:Nat):Int)>(S1.B8:Int) then((S1.seen.length+1:Nat):Int) else(S1.B8:Int))=((max S1.B8 (S1.seen.length+1):Nat):Int):=by
   split<;>omega
  refine⟨⟨v43,T6,v33,fv,made++[s],free⟩,rfl,⟨by simp;omega,?_,by simp;omega,by simp;omega,hb5⟩,?_⟩
  ·show max S1.B8 (S1.seen.length+1)<=b+1;omega
  ·unfold R8 ZR;dsimp only;rw[e1,e2,J8,J8,<-em];exact⟨_,_,ho9.sublist (.cons _ (.cons _ (Q5 _)))⟩
end
theorem yK{w:B6}{b e sz m q:Nat}{v:Value}{xs:H2}(h:w.ownsRow b e sz v m xs)(hq:q<=m):w.ownsRow b e sz (AZ q v) q (xs.take (q*sz)):=by
 have hm:q*sz<=m*sz:=Us sz hq;refine⟨by rw[ED,h.1];omega,?_⟩;rcases h.2 with⟨rfl,h0⟩|⟨g,cap,cur,rfl,h1,hg,h2,h3,h4,h5⟩
 ·obtain rfl:q=0:=by omega
  exact .inl ⟨rfl,rfl⟩
 ·refine .inr ⟨g,cap,cur,rfl,h1,hg,by omega,h3,h4,?_⟩;rw[<-h5,Rm,Pj hm]
section
variable{P:Program}{r:Option Nat}{n:Nat}{E:List (Nat×Value)}{C:I3}{H:List C2}{K:Act->World->Prop}
variable{dst:Option Tmp}{ty:TypeId}{pos:String}{after:Array Edge}{g:Option (Nat×Bool)}{x:Operand}
theorem B7.TV{w:B6}{i e sz m q:Nat}{v:Value}{xs:H2}(ho:B7 C H w)(hi:H[i]?=some (.row v e sz m xs))(hq:q<=m):B7 C (H.set i (.row (AZ q v) e sz q (xs.take (q*sz)))) w:=
 ho.swap hi (M0.refl _ _) (by
  have h:=yK (ho.rowAt hi) hq;exact h) (λk hk=>.inl (by
   rcases(ho.rowAt hi).2 with⟨rfl,h0⟩|⟨gb,cap,cur,rfl,_⟩
   ·exact hk
   ·exact hk))
theorem ae6{i e sz m:Nat}{v:Value}{xs:H2}(q:Nat)(hi:H[i]?=some (.row v e sz m xs))(hq:q<=m)(k:At n E C (H.set i (.row (AZ q v) e sz q (xs.take (q*sz)))) K):At n E C H K:=
 x4 rfl (λw ho=>ho.TV hi hq) k
theorem ZM{i e sz m q:Nat}{v:Value}{z:Operand}{xT:TypeId}{xs:H2}(hT:Gh P xT=some sz)(hx:ev E x=some v)(hz:ev E z=some (.int .i64 (q:Int)))(hi:H[i]?=some (.row v e sz m xs))(hq:q<=m):
  L1 P n E C H ⟨dst,.slice xT x none (some z) none,ty,pos,after,g⟩ (AZ q v):=by
 intro a w hf ho;rcases(ho.rowAt hi).2 with⟨rfl,h0⟩|⟨gb,cap,cur,rfl,h1,h2,h3,h4,h5⟩
 ·obtain rfl:q=0:=by omega
  exact wD hT hx hz a w hf ho
 ·exact RU hT hx hz ⟨YR _,by omega⟩ a w hf ho
end
section
attribute [local irreducible] F8 D3 Exit.then Exit.inBlock Exit.noGoto wpQuiet Calls fin At G9 L3 L7 RQ R9
theorem Dv.mono{b c:Nat}{ns:List F2}{z:Dk}{S:Sc}(h:Dv b ns z S)(hc:b<=c):Dv c ns z S:=⟨j7 h.seen hc,j7 h.B8 hc,j7 h.made hc,j7 h.free hc,h.C0⟩
theorem GU{w w':B6}{g:Nat}{v:Value}{f:Int}{ns:List F2}{H:List C2}{z:Dk}{S:Sc}{b b':Nat}(R:List C2)(h:O0 w (λk=>k∈F1 H) (R++R8 g v f ns z S) w')(hB:Dv b ns z S)(hb:b<=b'):NR w H g v f ns S b' (.returned (.tuple #[])) w':=by
 obtain⟨b0,F,h⟩:=h;exact⟨z,rfl,hB.mono hb,b0,F,h.sublist (Pd _ _)⟩
section
variable{C:I3}{H:List C2}{E:List (Nat×Value)}{n:Nat}{r:Option Nat}{Q:Exit->Act->World->Prop}{ops:Array Oper}{rest:List Oper}
theorem Bj{d:Nat}{op:Op}{ty:TypeId}{pos:String}{after:Array Edge}{fn:FuncId}{args:J2}{g:Nat}{v:Value}{f:Int}{ns:List F2}{z:Dk}{S:Sc}(R X:List C2)(S':Sc)(b':Nat)(hH:H=R++(X++R8 g v f ns z S))
  (he:f0 prog n E C ((X++R8 g v f ns z S)++R) ⟨some d,op,ty,pos,after,none⟩ fn args)(hc:∀w,B7 (J1 w (X++R8 g v f ns z S)) (X++R8 g v f ns z S) w->Calls prog fn args w (NR w (X++R8 g v f ns z S) g v f ns S' b'))(hn:Op.X9 op=false)(hd:Nat.blt d n=true)
  (k:∀z',Dv b' ns z' S'->At n ((d,.tuple #[])::E) C (R++R8 g v f ns z' S') (D3 r prog ops Q rest)):At n E C H (D3 r prog ops Q (⟨some d,op,ty,pos,after,none⟩::rest)):=
 Oa (λz'=>Dv b' ns z' S') R (X++R8 g v f ns z S) (λ_=>.tuple #[]) (λz'=>R8 g v f ns z' S') hH he (λw _ ho=>(hc w ho).mono λe w' ⟨z',h1,h2,h3⟩=>⟨z',h1,h3,h2⟩) hn hd k
end
theorem GV:∀(e:Ex) (n:Nat) (ns:List F2),AA ns n e->∀(g:Nat) (v:Value) (f:Int) (z:Dk) (S:Sc) (b:Nat) (w:B6),Dv b ns z S->b+e.size<=90000->ns.length<=512->B7 (J1 w (R8 g v f ns z S)) (R8 g v f ns z S) w->
  Calls prog 231 #[.pointer (some ⟨g,0,none⟩),.int .i64 (e.ix n)] w (NR w (R8 g v f ns z S) g v f ns (M5 e n S) (b+e.size))
 |.no,n,ns,hs,g,v,f,z,S,b,w,hB,hb,hn5,ho=>by
  refine G7 ho func231 O ntmps231 O ?_;have hx:Ex.no.ix n= -1:=rfl;rw[hx];exact B5<|A4 O<|H9 O<|A6<|E7 O (by decide)<|D4<|K0<|Ct O O λw9 ho9=>GU [] ⟨_,_,ho9⟩ hB (Un _ _)
 |.nd k i s a e,n,ns,hs,g,v,f,z,S,b,w,hB,hb,hn5,ho=>by
  have iha:=GV a n ns hs.left g;have ihb:=GV e (n+a.size) ns hs.right g;refine G7 ho func231 O ntmps231 O ?_;have hr:=hs.root;have hjl:=BO hs;simp only[M5,Ex.size] at hb⊢;refine R7 1 O ?_;rintro⟨_,⟨_,h0⟩|⟨gn,cp,rfl⟩⟩
  ·omega
  have hx:(Ex.nd k i s a e).ix n=((n+a.size+e.size:Nat):Int):=rfl;rw[hx];generalize hj:n+a.size+e.size=j at hr hjl;refine B5<|A4 O<|H9 O<|A6<|E0 O (by omega)<|D6<|B4 O<|E5 O<|D9 O<|B2 0 O<|A4 O<|Q4 (j:=j) O hjl<|U6 (vs:=D7 _) O (λw' ho=>X7 Y0 ho (q:=1) rfl hr)<|E3 V2 O λgz0=>E8 0 _ O<|I9 O<|B2 0 O<|Bj [.B1 gz0 ND (D7 _).toArray] [] (M5 a n S) (b+a.size) O (A7 O) (λw ho=>iha _ f z S b w hB (by omega) hn5 ho) O O λz18 hz18=>I9 O<|B2 0 O<|Bj [.B1 gz0 ND (D7 _).toArray] [] (M5 e (n+a.size) (M5 a n S)) (b+a.size+e.size) O (A7 O) (λw ho=>ihb _ f z18 _ (b+a.size) w hz18 (by omega) hn5 ho) O O λz22 hz22=>A6<|C8 ?_;by_cases h4:k=4
  ·rw[if_pos h4];exact C5<|B2 0 O<|H5 O<|A6<|E7 O (by exact h4)<|C5<|A4 O<|B2 0 O<|A4 O<|Bj [.B1 gz0 ND (D7 _).toArray] [] (EP s j (M5 e (n+a.size) (M5 a n S))) (b+a.size+e.size+1) O (A7 O) (λw ho=>ZH g _ f ns z22 _ s j _ w hz22 (by omega) hjl hn5 ho) O O λz30 hz30=>H6<|K7 O λw9 ho9=>GU [_] ⟨_,_,ho9⟩ hz30 (by omega)
  ·rw[if_neg h4];exact C5<|B2 0 O<|H5 O<|A6<|E0 O (by exact h4)<|P5<|K7 O λw9 ho9=>GU [_] ⟨_,_,ho9⟩ hz22 (by omega)
abbrev Mb:Nat:=184
theorem qK(g gb ga:Nat)(v:Value)(f:Int)(ns:List F2)(z:Dk)(S:Sc)(q:Nat)(w:B6)(hq:q<=S.seen.length)(H0:List C2)(hH0:H0=[.B1 gb Mb #[.pointer (some ⟨g,0,none⟩)],.B1 ga S7 #[.int .i64 q]]++R8 g v f ns z S)(ho:B7 (J1 w H0) H0 w):
  CallsDIn (fe none) 0 prog 196 #[.pointer (some ⟨gb,0,none⟩),.pointer (some ⟨ga,0,none⟩)] .returning w λe u' w'=>e=.returned (.tuple #[])/\u'=.returning/\
   O0 w (λk=>k∈F1 H0) ([.B1 gb Mb #[.pointer (some ⟨g,0,none⟩)],.B1 ga S7 #[.int .i64 q]]++R8 g v f ns {z with sv:=AZ q z.sv} {S with seen:=S.seen.take q}) w':=by
 subst hH0;obtain⟨sv,T6,mv,fv,made,free⟩:=z;refine callsDIn_of_wpSIn func196 rfl trivial λc₀ cs hu=>?_;have hf:=Xq (n:=11) (args:=[.pointer (some ⟨gb,0,none⟩),.pointer (some ⟨ga,0,none⟩)]) (by simp);have hns:(Tryz.f196).ntmps=11:=rfl;rw[hns];have hcs:(c₀::cs:List Frame)={c₀ with mode:=.returning}::cs:=by rw[<-hu]
 rw[hcs];refine wpSIn_of_wpIn rfl (WW hf (C:=J1 w _) ?_ ho ?_)
 ·rfl
 apply BL 9 [_,_,_,_,_,_,_,_,_] (by kernel_rfl) (by kernel_rfl) (by kernel_rfl)
 ·refine D5 O (λvs=>K1 0 O)<|D5 O (λvs=>K1 0 O)<|D5 O (λvs=>N1 O)<|D5 O (λvs=>I8 2 O)<|D5 O (λvs=>K1 2 O)<|D5 O (λvs=>K1 1 O)<|D5 O (λvs=>ZM (i:=4) (by kernel_rfl) O O O hq)<|D5 O (λvs=>N1 O)<|D5 O (λvs=>I8 2 O) ?_;exact l6
 ·(repeat(first|exact trivial|exact(λ_ _ _ h=>h)|refine⟨trivial,?_⟩|refine⟨λ_ _ _ h=>h,?_⟩))
 ·intro vs;refine ae6 (i:=4) q O hq ?_;have et:(D1 S.seen).take (q*1)=D1 (S.seen.take q):=by rw[Pm];simp[D1]
  have el:(S.seen.take q).length=q:=by rw[ED];omega
  refine IB (i:=4) O λhsv=>Ce (i:=2) (by kernel_rfl) O O (by assumption) O O<|H6 ?_;rotate_left;refine Wq (.inl rfl) O O λw9 ho9=>⟨rfl,rfl,?_⟩
  unfold R8;dsimp only;rw[<-et,el];exact⟨_,_,ho9⟩
def Eh(k:Int)(s t:List UInt8)(a b:Ex)(fB fC:Sc->Sc)(n j:Nat)(S:Sc):Sc:=
 if k=22 then M5 b (n+a.size) (M5 a n S)
 else if k=20 then DE s j (AU j (M5 a n S))
 else if k=21 then EP s j (M5 a n S)
 else if k=24 then Aj fC [] j (Aj fB [] j (M5 a n S))
 else if k=25 then Aj fB [s,t] j (AU j (M5 a n S))
 else if k=26 then Aj fB [] j (M5 a n S) else M5 a n S
def k9:Bl->Nat->Sc->Sc
 |.no,_,S=>S
 |.st k i s t a b B C r,n,S=>k9 r (n+a.size+b.size+B.size+C.size+1) (Eh k s t a b (k9 B (n+a.size+b.size)) (k9 C (n+a.size+b.size+B.size)) n (n+a.size+b.size+B.size+C.size) S)
theorem Vn(s:C9)(i:Nat)(S:Sc):(EP s i S).seen=S.seen:=by
 unfold EP;dsimp only;split
 ·exact(HU S 15 i).1
 ·rfl
theorem QY(s:C9)(i:Int)(S:Sc):(DE s i S).seen=S.seen++[s]:=by
 unfold DE;dsimp only;split
 ·rw[(HU S 16 i).1]
 split
 ·rw[(HU S 5 i).1]
 ·rfl
theorem HH:∀(e:Ex) (n:Nat) (S:Sc),(M5 e n S).seen=S.seen
 |.no,_,_=>rfl
 |.nd k i s a b,n,S=>by
  simp only[M5];split
  ·rw[Vn,HH b,HH a]
  ·rw[HH b,HH a]
theorem TW(p:Int):∀(l:List (List UInt8)) (S:Sc),(AT l p S).seen=S.seen++l
 |[],S=>by simp[AT]
 |s::l,S=>by
  have:=TW p l (DE s p S);unfold AT at*;rw[List.foldl_cons,this,QY];simp
theorem RN{f:Sc->Sc}(h:∀S,S.seen.length<=(f S).seen.length)(l:List (List UInt8))(p:Int)(S:Sc):S.seen.length<=(Aj f l p S).seen.length:=by
 unfold Aj;have:=h (AT l p S);rw[TW,J8] at this;simp only[ED];omega
theorem fA(k:Int)(s t:C9)(a b:Ex){fB fC:Sc->Sc}(hB:∀S,S.seen.length<=(fB S).seen.length)(hC:∀S,S.seen.length<=(fC S).seen.length)(n j:Nat)(S:Sc):S.seen.length<=(Eh k s t a b fB fC n j S).seen.length:=by
 have h1:(M5 a n S).seen.length=S.seen.length:=by rw[HH]
 unfold Eh;split
 ·rw[HH,h1];exact L6 _
 split
 ·rw[QY,J8];show _<=(M5 a n S).seen.length+_;omega
 split
 ·rw[Vn,h1];exact L6 _
 split
 ·have:=RN hB [] j (M5 a n S);have:=RN hC [] j (Aj fB [] j (M5 a n S));omega
 split
 ·have:=RN hB [s,t] j (AU j (M5 a n S));have h2:(AU j (M5 a n S)).seen.length=S.seen.length:=h1;omega
 split
 ·have:=RN hB [] j (M5 a n S);omega
 ·omega
theorem Nt:∀(B:Bl) (n:Nat) (S:Sc),S.seen.length<=(k9 B n S).seen.length
 |.no,_,_=>L6 _
 |.st k i s t a b B C r,n,S=>by
  simp only[k9];exact j7 (fA k s t a b (Nt B _) (Nt C _) _ _ S) (Nt r _ _)
def IV(k i:Int)(s t:List UInt8)(a b:Ex)(B C r:Bl):Prop:=∀(n:Nat) (ns:List F2),f4 ns n (.st k i s t a b B C r)->∀(g:Nat) (v:Value) (f:Int) (z:Dk) (S:Sc) (bd:Nat) (w:World),Dv bd ns z S->bd+2*(a.size+b.size+B.size+C.size+1)<=80000->ns.length<=512->B7 (J1 w (R8 g v f ns z S)) (R8 g v f ns z S) w->
 Calls prog 198 #[.pointer (some ⟨g,0,none⟩),.int .i64 ((n+a.size+b.size+B.size+C.size:Nat):Int)] w (NR w (R8 g v f ns z S) g v f ns (Eh k s t a b (k9 B (n+a.size+b.size)) (k9 C (n+a.size+b.size+B.size)) n (n+a.size+b.size+B.size+C.size) S) (bd+2*(a.size+b.size+B.size+C.size+1)))
def Sf:Bl->Prop
 |.no=>True
 |.st k i s t a b B C r=>IV k i s t a b B C r/\Sf r
def gU(X:List C2)(nv:Value)(l:List (List UInt8)):Prop:=(X=[]/\nv=.slice none 0 0/\l=[])\/∃gl,X=[.B1 gl S0 (D1 l).toArray]/\nv=.slice (some ⟨gl,0,none⟩) l.length l.length
def Pp(B:Bl):Prop:=∀(n:Nat) (ns:List F2),f4 ns n B->∀(X:List C2) (nv:Value) (l:List (List UInt8)),gU X nv l->l.length<=2->∀(p:Int) (g:Nat) (v:Value) (f:Int) (z:Dk) (S:Sc) (bd:Nat) (w:World),Dv bd ns z S->bd+l.length+2*B.size<=80000->ns.length<=512->B7 (J1 w (X++R8 g v f ns z S)) (X++R8 g v f ns z S) w->
 Calls prog 146 #[.pointer (some ⟨g,0,none⟩),.int .i64 (B.ix n),.int .i64 p,nv] w (NR w (X++R8 g v f ns z S) g v f ns (Aj (k9 B n) l p S) (bd+l.length+2*B.size))
theorem NA{B:Bl}(hA:Sf B):Pp B:=by
 intro n ns hs X nv l hX hl p g v f z S bd w hB hb hn5 ho;refine G7 ho func146 O ntmps146 O<|CE (H':=R8 g v f ns z S++X) EC<|A3<|KP O O O λgz0=>I0<|N3 0 O<|E5 O<|B2 1 O<|BA 3 O<|Jl O Nm O λgz1=>N4 0 O<|I0<|B9 (Gx O) O<|aL (caps:=[.pointer (some ⟨gz0,0,none⟩),.pointer (some ⟨gz1,0,none⟩)]) O<|A6<|C8<|C8 ?_;rotate_left;refine CE (H':=([.B1 gz0 Mb #[.pointer (some ⟨g,0,none⟩)],.B1 gz1 S7 #[.int .i64 S.seen.length]]++X)++R8 g v f ns z S) (by rw[Q2];exact(List.Perm.swap ..).append EC) ?_;obtain⟨A,hA2⟩:∃A,nv=.slice A l.length l.length:=by
  rcases hX with⟨_,h2,h3⟩|⟨gl,_,h2⟩
  ·exact⟨none,by rw[h2,h3];rfl⟩
  ·exact⟨_,h2⟩
 subst hA2;refine C5<|A4 O<|d1 O<|A4 O<|A6<|C7 ?_;rotate_left;refine l9 (σ:=Nat×Dk) (λs=>s.1<=l.length/\Dv (bd+s.1) ns s.2 (AT (l.take s.1) p S)) (λs=>[(1,.int .i64 (B.ix n)),(2,.int .i64 p),(4,.pointer (some ⟨gz0,0,none⟩)),(18,.slice A l.length l.length),(19,.int .i64 l.length),(20,.int .i64 s.1)]) (λs=>([.B1 gz0 Mb #[.pointer (some ⟨g,0,none⟩)],.B1 gz1 S7 #[.int .i64 S.seen.length]]++X)++R8 g v f ns s.2 (AT (l.take s.1) p S)) (λs=>l.length-s.1)
  (λw ho=>⟨(0,z),⟨R5 _,hB⟩,⟨rfl,rfl,rfl,rfl,rfl,rfl,trivial⟩,ho⟩) ?_
 rintro⟨i,z1⟩ ⟨hi,hB1⟩;dsimp only at hi hB1⊢;by_cases hil:i<l.length
 ·obtain⟨_,_,rfl⟩|⟨gl,rfl,hA3⟩:=hX
  ·simp at hil
  obtain rfl:A=some ⟨gl,0,none⟩:=by simpa using hA3
  have hx:l[i]?=some l[i]:=T8 hil;have hss:AT (l.take (i+1)) p S=DE l[i] p (AT (l.take i) p S):=by
   rw[JG,hx];unfold AT;rw[List.foldl_append];rfl
  have hv:(D1 l).toArray[0+i*1]?=some (.string (bs l[i])):=by simpa using La hx
  generalize l[i]=x at hss hv;refine A3<|H9 O<|A6<|C8<|E7 O (by omega)<|D6<|C8<|C7<|A3<|Q4 (j:=i) O hil<|B9 (c7 2 (j:=0+i*1) O hv) O<|A5 O<|C5<|N3 0 O<|A4 O<|A4 O<|Bj ([.B1 gz0 Mb #[.pointer (some ⟨g,0,none⟩)],.B1 gz1 S7 #[.int .i64 S.seen.length]]++[.B1 gl S0 (D1 l).toArray]) [] (DE x p (AT (l.take i) p S)) (bd+i+1) O (A7 O) (λw ho=>Yh g v f ns z1 _ x p (bd+i) w hB1 (by omega) hn5 ho) O O λz27 hz27=>H6<|F4<|E2<|C5<|N6 O (by omega)<|A4 O<|A6 ?_;rotate_left;exact RR (i+1,z27) ⟨by dsimp only;omega,hss▸hz27⟩ (by dsimp only;omega) ⟨rfl,rfl,rfl,rfl,rfl,rfl,trivial⟩ O (λw ho=>by dsimp only;rw[hss];exact ho)
 ·obtain rfl:i=l.length:=by omega
  rw[GQ] at hB1⊢;have hS1:S.seen.length<=(AT l p S).seen.length:=by rw[TW,J8];omega
  have hR:∀T,T=k9 B n (AT l p S)->Aj (k9 B n) l p S={T with seen:=T.seen.take S.seen.length}:=λT h=>by rw[h];rfl
  generalize AT l p S=S1 at hB1 hS1 hR⊢;refine A3<|H9 O<|A6<|C8<|E0 O (by omega)<|S4<|J0<|J0<|S5<|E2<|B4 O<|A5 O<|C7 ?_;rotate_left;refine l9 (σ:=Bl×Nat×Dk×Sc) (λs=>Sf s.1/\f4 ns s.2.1 s.1/\k9 s.1 s.2.1 s.2.2.2=k9 B n S1/\s.1.size<=B.size/\Dv (bd+l.length+2*(B.size-s.1.size)) ns s.2.2.1 s.2.2.2/\S.seen.length<=s.2.2.2.seen.length) (λs=>[(4,.pointer (some ⟨gz0,0,none⟩)),(11,.int .i64 (s.1.ix s.2.1))]) (λs=>[.B1 gz0 Mb #[.pointer (some ⟨g,0,none⟩)],.B1 gz1 S7 #[.int .i64 S.seen.length]]++R8 g v f ns s.2.2.1 s.2.2.2) (λs=>s.1.size)
   (λw ho=>⟨(B,n,z1,S1),⟨hA,hs,rfl,L6 _,by rw[JH];exact hB1,hS1⟩,⟨rfl,rfl,trivial⟩,ho.sublist ((HB _ X).append (Q5 _))⟩) ?_
  rintro⟨D,m,z2,T⟩ ⟨hA,hs,hch,hsz,hB2,hT⟩;dsimp only at hA hs hch hsz hB2 hT⊢;cases D with
  |no=>
   have hix:Bl.no.ix m= -1:=rfl;rw[hix];refine B5<|A4 O<|O1 O<|A6<|E0 O (by decide)<|S4<|J0<|J0<|S5 ?_;rotate_left;refine VP (u:=.returning) (.inr (.inl ⟨rfl,rfl⟩)) O (by kernel_rfl) λa w5 hf ho=>?_;have hq:=(hR T hch)▸(qK g gz0 gz1 v f ns z2 T S.seen.length w5 hT _ rfl ho.Gl);refine hq.mono ?_;rintro e' u' w' ⟨rfl,rfl,hin⟩;have hown:=ho.Qc hin;refine⟨_,rfl,rfl,.tuple #[],results_none rfl _ _ _,{z2 with sv:=AZ S.seen.length z2.sv},rfl,?_,_,_,hown.Wp.sublist (Pd _ _)⟩;have hbl:bd+l.length+2*(B.size-Bl.no.size)<=bd+l.length+2*B.size:=by omega
   rw[hR T hch];refine⟨?_,j7 hB2.B8 hbl,j7 hB2.made hbl,j7 hB2.free hbl,hB2.C0⟩;show(T.seen.take S.seen.length).length<=_;rw[ED];have:=hB.seen;omega
  |st k i s t a b Y Z r=>
   obtain⟨hSt,hA⟩:=hA;have hr:=hs.root;have hsr:=hs.sr;have hSt:=hSt m ns hs g;simp only[Bl.size] at hsz hB2;have hnx:∀nod,ns[m+a.size+b.size+Y.size+Z.size]?=some nod->nod.next=r.ix (m+a.size+b.size+Y.size+Z.size+1):=λnod h=>by rw[hr] at h;cases h;rfl
   have hx:(Bl.st k i s t a b Y Z r).ix m=((m+a.size+b.size+Y.size+Z.size:Nat):Int):=rfl;rw[hx];simp only[k9] at hch;have hst:=fA k s t a b (Nt Y (m+a.size+b.size)) (Nt Z (m+a.size+b.size+Y.size)) m (m+a.size+b.size+Y.size+Z.size) T;generalize hT2:Eh k s t a b (k9 Y (m+a.size+b.size)) (k9 Z (m+a.size+b.size+Y.size)) m (m+a.size+b.size+Y.size+Z.size) T=T2 at hch hst;have hSt:=λv z w h1 h2 h3 h4=>hT2▸hSt v f z T (bd+l.length+2*(B.size-(a.size+b.size+Y.size+Z.size+1+r.size))) w h1 h2 h3 h4;generalize m+a.size+b.size+Y.size+Z.size=j at hr hnx hsr hch hSt⊢;obtain⟨nod,hnod⟩:∃nod,ns[j]?=some nod:=⟨_,hr⟩
   have hnx:=hnx nod hnod;have hjl:j<ns.length:=(N5.1 hr).1;refine R7 3 O ?_;rintro⟨_,⟨_,h0⟩|⟨gn,cp,rfl⟩⟩
   ·omega
   refine B5<|A4 O<|O1 O<|A6<|E7 O (by omega)<|D6<|C8<|C7<|C5<|N3 0 O<|A4 O<|Bj [.B1 gz0 Mb #[.pointer (some ⟨g,0,none⟩)],.B1 gz1 S7 #[.int .i64 S.seen.length]] [] T2 (bd+l.length+2*(B.size-r.size)) O (A7 O) (λw ho=>(hSt _ z2 w hB2 (by omega) hn5 ho).mono λe w' ⟨z',q1,q2,q3⟩=>⟨z',q1,q2.mono (by omega),q3⟩) O O λz43 hz43=>H6<|F4<|E2<|C5<|N3 0 O<|E5 O<|D9 O<|B2 2 O<|A4 O<|Q4 (j:=j) O hjl<|D9 O<|B9 (Av 3 (j:=0+j*8+4) (u:=.int .i64 nod.next) O (Mt hjl (by decide)) (QV Y0 hnod (by decide))) O<|A5 O ?_;rotate_left;refine RR (r,j+1,z43,T2) ⟨hA,hsr,hch,by dsimp only;omega,hz43,by dsimp only;omega⟩ (by simp only[Bl.size];omega) ⟨rfl,by dsimp only;rw[<-hnx];rfl,trivial⟩ O (λw ho=>ho)
theorem UR:gU [] (.slice none 0 0) []:=.inl ⟨rfl,rfl,rfl⟩
theorem iM{b:Nat}{ns:List F2}{z:Dk}{S:Sc}(h:Dv b ns z S)(j:Nat)(u:Value):Dv b ns {z with T6:=u} (AU j S):=⟨h.seen,h.B8,h.made,h.free,by simp[AU,h.C0]⟩
theorem tJ(s:C9)(a:Ex)(r:Bl):IV 20 0 s [] a .no .no .no r:=by
 intro n ns hs g v f z S bd w hB hb hn5 ho;refine G7 ho MH O MI O ?_;have hr:=hs.root;have hsa:=hs.sa;have hsb:=hs.sb;have hsB:=hs.sB;have hsC:=hs.sC;refine R7 1 O ?_;rintro⟨_,⟨_,h0⟩|⟨gn,cp,rfl⟩⟩
 ·have:=(N5.1 hr).1;omega
 obtain⟨j,hj⟩:∃j,j=n+Ex.size a+Ex.size .no+Bl.size .no+Bl.size .no:=⟨_,rfl⟩
 rw[<-hj] at hr⊢;have hjl:j<ns.length:=(N5.1 hr).1;refine B4 O<|E5 O<|D9 O<|B2 0 O<|A4 O<|Q4 (j:=j) O hjl<|U6 (vs:=D7 _) O (λw' ho=>X7 Y0 ho (q:=1) rfl hr)<|E3 V2 O λgz0=>E8 0 _ O<|I9 O<|B2 0 O<|Bj [.B1 gz0 ND (D7 _).toArray] [] (M5 a n S) (bd+Ex.size a) O (A7 O) (λw ho=>GV a n ns hsa g _ f z S bd w hB (by omega) hn5 ho) O O λz16 hz16=>I0<|B2 0 O<|A6<|C7<|A3<|C6 O<|C4 O (λz1=>absurd z1 (by simp[*])) λz1=>A3<|C6 O<|C4 O (λz2=>?_) (λz2=>?_);refine C8 ?_;rotate_left;contradiction;obtain⟨sv,T6,mv,fv,made,free⟩:=z16;refine R7 4 O ?_;rintro⟨_,⟨_,h0⟩|⟨gl,cl,hsl⟩⟩
 ·omega
 dsimp only at hsl;subst hsl;have hzl:=iM hz16 j (.slice (some ⟨gl,0,none⟩) ns.length cl);apply BL 11 [_,_,_,_,_,_,_,_,_,_,_] (by kernel_rfl) (by kernel_rfl) (by kernel_rfl)
 ·refine D5 O (λvs=>H8 O)<|D5 O (λvs=>N1 O)<|D5 O (λvs=>I8 4 O)<|D5 O (λvs=>K1 1 O)<|D5 O (λvs=>H8 O)<|D5 O (λvs=>H8 O)<|D5 O (λvs=>N1 O)<|D5 O (λvs=>I8 2 O)<|D5 O (λvs=>K1 1 O)<|D5 O (λvs=>Im (i:=3) (by kernel_rfl) O O)<|D5 O (λvs=>En 1 j O hjl) ?_;exact l6
 ·(repeat(first|exact trivial|exact(λ_ _ _ h=>h)|refine⟨trivial,?_⟩|refine⟨λ_ _ _ h=>h,?_⟩))
 intro vs;refine GR (i:=4) (j:=0+j*1) (by kernel_rfl) O O O O (by omega)<|A6 ?_;rotate_left;have est:=QX (M5 a n S).C0 j ((M5 a n S).seen.length:Int);refine x4 (H':=[.B1 gz0 ND (D7 _).toArray]++R8 g _ f ns ⟨sv,.slice (some ⟨gl,0,none⟩) ns.length cl,mv,fv,made,free⟩ (AU j (M5 a n S))) O (λw ho=>by unfold R8;dsimp only[AU];rw[<-est];exact ho)<|C5<|A4 O<|B2 0 O<|A4 O<|Bj [.B1 gz0 ND (D7 _).toArray] [] (DE s j (AU j (M5 a n S))) (bd+Ex.size a+1) O (A7 O) (λw ho=>Yh g _ f ns _ _ s j (bd+Ex.size a) w hzl (by omega) hn5 ho) O O λz42 hz42=>H6<|F4<|K7 O λw9 ho9=>?_;rotate_left;exact GU [_] ⟨_,_,ho9⟩ hz42 (by omega)
theorem ad6(s:C9)(a:Ex)(r:Bl):IV 21 0 s [] a .no .no .no r:=by
 intro n ns hs g v f z S bd w hB hb hn5 ho;refine G7 ho MH O MI O ?_;have hr:=hs.root;have hsa:=hs.sa;have hsb:=hs.sb;have hsB:=hs.sB;have hsC:=hs.sC;refine R7 1 O ?_;rintro⟨_,⟨_,h0⟩|⟨gn,cp,rfl⟩⟩
 ·have:=(N5.1 hr).1;omega
 obtain⟨j,hj⟩:∃j,j=n+Ex.size a+Ex.size .no+Bl.size .no+Bl.size .no:=⟨_,rfl⟩
 rw[<-hj] at hr⊢;have hjl:j<ns.length:=(N5.1 hr).1;refine B4 O<|E5 O<|D9 O<|B2 0 O<|A4 O<|Q4 (j:=j) O hjl<|U6 (vs:=D7 _) O (λw' ho=>X7 Y0 ho (q:=1) rfl hr)<|E3 V2 O λgz0=>E8 0 _ O<|I9 O<|B2 0 O<|Bj [.B1 gz0 ND (D7 _).toArray] [] (M5 a n S) (bd+Ex.size a) O (A7 O) (λw ho=>GV a n ns hsa g _ f z S bd w hB (by omega) hn5 ho) O O λz16 hz16=>I0<|B2 0 O<|A6<|C7<|A3<|C6 O<|C4 O (λz1=>absurd z1 (by simp[*])) λz1=>A3<|C6 O<|C4 O (λz2=>absurd z2 (by simp[*])) λz2=>A3<|C6 O<|C4 O (λz3=>?_) (λz3=>?_);refine C5<|A4 O<|B2 0 O<|A4 O<|Bj [.B1 gz0 ND (D7 _).toArray] [] (EP s j (M5 a n S)) (bd+Ex.size a+1) O (A7 O) (λw ho=>ZH g _ f ns z16 _ s j (bd+Ex.size a) w hz16 (by omega) hjl hn5 ho) O O λz49 hz49=>H6<|F4<|K7 O λw9 ho9=>?_;rotate_left;contradiction;exact GU [_] ⟨_,_,ho9⟩ hz49 (by omega)
theorem af5(a b:Ex)(r:Bl)(hb0:WE b):IV 22 0 [] [] a b .no .no r:=by
 intro n ns hs g v f z S bd w hB hb hn5 ho;refine G7 ho MH O MI O ?_;have hr:=hs.root;have hsa:=hs.sa;have hsb:=hs.sb;have hsB:=hs.sB;have hsC:=hs.sC;refine R7 1 O ?_;rintro⟨_,⟨_,h0⟩|⟨gn,cp,rfl⟩⟩
 ·have:=(N5.1 hr).1;omega
 obtain⟨j,hj⟩:∃j,j=n+Ex.size a+Ex.size b+Bl.size .no+Bl.size .no:=⟨_,rfl⟩
 rw[<-hj] at hr⊢;have hjl:j<ns.length:=(N5.1 hr).1;have hbx:K5 (n+Ex.size a) (n+Ex.size a+Ex.size b) .no b=b.ix (n+a.size):=by obtain⟨k1,i1,s1,a1,b1,rfl⟩:=hb0.ne;rfl
 refine B4 O<|E5 O<|D9 O<|B2 0 O<|A4 O<|Q4 (j:=j) O hjl<|U6 (vs:=D7 _) O (λw' ho=>X7 Y0 ho (q:=1) rfl hr)<|E3 V2 O λgz0=>E8 0 _ O<|I9 O<|B2 0 O<|Bj [.B1 gz0 ND (D7 _).toArray] [] (M5 a n S) (bd+Ex.size a) O (A7 O) (λw ho=>GV a n ns hsa g _ f z S bd w hB (by omega) hn5 ho) O O λz16 hz16=>I0<|B2 0 O<|A6<|C7<|A3<|C6 O<|C4 O (λz1=>?_) (λz1=>?_);refine C5<|A4 O<|B2 0 O<|Bj [.B1 gz0 ND (D7 _).toArray] [] (M5 b (n+Ex.size a) (M5 a n S)) (bd+Ex.size a+Ex.size b) O (A7 O) (λw ho=>(by have hq:=GV b _ ns hsb g _ f z16 _ (bd+Ex.size a) w hz16 (by omega) hn5 ho;rwa[<-hbx] at hq)) O O λz24 hz24=>H6<|F4<|K7 O λw9 ho9=>?_;rotate_left;contradiction;exact GU [_] ⟨_,_,ho9⟩ hz24 (by omega)
theorem aA4(a:Ex)(r:Bl):IV 23 0 [] [] a .no .no .no r:=by
 intro n ns hs g v f z S bd w hB hb hn5 ho;refine G7 ho MH O MI O ?_;have hr:=hs.root;have hsa:=hs.sa;have hsb:=hs.sb;have hsB:=hs.sB;have hsC:=hs.sC;refine R7 1 O ?_;rintro⟨_,⟨_,h0⟩|⟨gn,cp,rfl⟩⟩
 ·have:=(N5.1 hr).1;omega
 obtain⟨j,hj⟩:∃j,j=n+Ex.size a+Ex.size .no+Bl.size .no+Bl.size .no:=⟨_,rfl⟩
 rw[<-hj] at hr⊢;have hjl:j<ns.length:=(N5.1 hr).1;exact B4 O<|E5 O<|D9 O<|B2 0 O<|A4 O<|Q4 (j:=j) O hjl<|U6 (vs:=D7 _) O (λw' ho=>X7 Y0 ho (q:=1) rfl hr)<|E3 V2 O λgz0=>E8 0 _ O<|I9 O<|B2 0 O<|Bj [.B1 gz0 ND (D7 _).toArray] [] (M5 a n S) (bd+Ex.size a) O (A7 O) (λw ho=>GV a n ns hsa g _ f z S bd w hB (by omega) hn5 ho) O O λz16 hz16=>I0<|B2 0 O<|A6<|C7<|A3<|C6 O<|C4 O (λz1=>absurd z1 (by simp[*])) λz1=>A3<|C6 O<|C4 O (λz2=>absurd z2 (by simp[*])) λz2=>A3<|C6 O<|C4 O (λz3=>absurd z3 (by simp[*])) λz3=>A3<|C6 O<|C4 O (λz4=>absurd z4 (by simp[*])) λz4=>A3<|C6 O<|C4 O (λz5=>absurd z5 (by simp[*])) λz5=>A3<|C6 O<|C4 O (λz6=>absurd z6 (by simp[*])) λz6=>P5<|F4<|K7 O λw9 ho9=>GU [_] ⟨_,_,ho9⟩ hz16 (by omega)
theorem aj4(a:Ex)(r:Bl):IV 27 0 [] [] a .no .no .no r:=by
 intro n ns hs g v f z S bd w hB hb hn5 ho;refine G7 ho MH O MI O ?_;have hr:=hs.root;have hsa:=hs.sa;have hsb:=hs.sb;have hsB:=hs.sB;have hsC:=hs.sC;refine R7 1 O ?_;rintro⟨_,⟨_,h0⟩|⟨gn,cp,rfl⟩⟩
 ·have:=(N5.1 hr).1;omega
 obtain⟨j,hj⟩:∃j,j=n+Ex.size a+Ex.size .no+Bl.size .no+Bl.size .no:=⟨_,rfl⟩
 rw[<-hj] at hr⊢;have hjl:j<ns.length:=(N5.1 hr).1;exact B4 O<|E5 O<|D9 O<|B2 0 O<|A4 O<|Q4 (j:=j) O hjl<|U6 (vs:=D7 _) O (λw' ho=>X7 Y0 ho (q:=1) rfl hr)<|E3 V2 O λgz0=>E8 0 _ O<|I9 O<|B2 0 O<|Bj [.B1 gz0 ND (D7 _).toArray] [] (M5 a n S) (bd+Ex.size a) O (A7 O) (λw ho=>GV a n ns hsa g _ f z S bd w hB (by omega) hn5 ho) O O λz16 hz16=>I0<|B2 0 O<|A6<|C7<|A3<|C6 O<|C4 O (λz1=>absurd z1 (by simp[*])) λz1=>A3<|C6 O<|C4 O (λz2=>absurd z2 (by simp[*])) λz2=>A3<|C6 O<|C4 O (λz3=>absurd z3 (by simp[*])) λz3=>A3<|C6 O<|C4 O (λz4=>absurd z4 (by simp[*])) λz4=>A3<|C6 O<|C4 O (λz5=>absurd z5 (by simp[*])) λz5=>A3<|C6 O<|C4 O (λz6=>absurd z6 (by simp[*])) λz6=>P5<|F4<|K7 O λw9 ho9=>GU [_] ⟨_,_,ho9⟩ hz16 (by omega)
theorem aw9(a:Ex)(r:Bl):IV 28 0 [] [] a .no .no .no r:=by
 intro n ns hs g v f z S bd w hB hb hn5 ho;refine G7 ho MH O MI O ?_;have hr:=hs.root;have hsa:=hs.sa;have hsb:=hs.sb;have hsB:=hs.sB;have hsC:=hs.sC;refine R7 1 O ?_;rintro⟨_,⟨_,h0⟩|⟨gn,cp,rfl⟩⟩
 ·have:=(N5.1 hr).1;omega
 obtain⟨j,hj⟩:∃j,j=n+Ex.size a+Ex.size .no+Bl.size .no+Bl.size .no:=⟨_,rfl⟩
 rw[<-hj] at hr⊢;have hjl:j<ns.length:=(N5.1 hr).1;exact B4 O<|E5 O<|D9 O<|B2 0 O<|A4 O<|Q4 (j:=j) O hjl<|U6 (vs:=D7 _) O (λw' ho=>X7 Y0 ho (q:=1) rfl hr)<|E3 V2 O λgz0=>E8 0 _ O<|I9 O<|B2 0 O<|Bj [.B1 gz0 ND (D7 _).toArray] [] (M5 a n S) (bd+Ex.size a) O (A7 O) (λw ho=>GV a n ns hsa g _ f z S bd w hB (by omega) hn5 ho) O O λz16 hz16=>I0<|B2 0 O<|A6<|C7<|A3<|C6 O<|C4 O (λz1=>absurd z1 (by simp[*])) λz1=>A3<|C6 O<|C4 O (λz2=>absurd z2 (by simp[*])) λz2=>A3<|C6 O<|C4 O (λz3=>absurd z3 (by simp[*])) λz3=>A3<|C6 O<|C4 O (λz4=>absurd z4 (by simp[*])) λz4=>A3<|C6 O<|C4 O (λz5=>absurd z5 (by simp[*])) λz5=>A3<|C6 O<|C4 O (λz6=>absurd z6 (by simp[*])) λz6=>P5<|F4<|K7 O λw9 ho9=>GU [_] ⟨_,_,ho9⟩ hz16 (by omega)
theorem iW(i:Int)(a:Ex)(B C:Bl)(r:Bl)(hB0:Pp B)(hC0:Pp C):IV 24 i [] [] a .no B C r:=by
 intro n ns hs g v f z S bd w hB hb hn5 ho;refine G7 ho MH O MI O ?_;have hr:=hs.root;have hsa:=hs.sa;have hsb:=hs.sb;have hsB:=hs.sB;have hsC:=hs.sC;refine R7 1 O ?_;rintro⟨_,⟨_,h0⟩|⟨gn,cp,rfl⟩⟩
 ·have:=(N5.1 hr).1;omega
 obtain⟨j,hj⟩:∃j,j=n+Ex.size a+Ex.size .no+Bl.size B+Bl.size C:=⟨_,rfl⟩
 rw[<-hj] at hr⊢;have hjl:j<ns.length:=(N5.1 hr).1;refine B4 O<|E5 O<|D9 O<|B2 0 O<|A4 O<|Q4 (j:=j) O hjl<|U6 (vs:=D7 _) O (λw' ho=>X7 Y0 ho (q:=1) rfl hr)<|E3 V2 O λgz0=>E8 0 _ O<|I9 O<|B2 0 O<|Bj [.B1 gz0 ND (D7 _).toArray] [] (M5 a n S) (bd+Ex.size a) O (A7 O) (λw ho=>GV a n ns hsa g _ f z S bd w hB (by omega) hn5 ho) O O λz16 hz16=>I0<|B2 0 O<|A6<|C7<|A3<|C6 O<|C4 O (λz1=>absurd z1 (by simp[*])) λz1=>A3<|C6 O<|C4 O (λz2=>absurd z2 (by simp[*])) λz2=>A3<|C6 O<|C4 O (λz3=>absurd z3 (by simp[*])) λz3=>A3<|C6 O<|C4 O (λz4=>?_) (λz4=>?_);refine B4 O<|B2 0 O<|A4 O<|Bj [.B1 gz0 ND (D7 _).toArray] [] (Aj (k9 B (n+Ex.size a+Ex.size .no)) [] j (M5 a n S)) (bd+Ex.size a+2*Bl.size B) O (A7 O) (λw ho=>(hB0 _ ns hsB [] _ [] UR (by decide) j g _ f z16 _ (bd+Ex.size a) w hz16 (by simp only[Y4];omega) hn5 ho)) O O λz56 hz56=>A6<|C5<|A4 O<|B2 0 O<|A4 O<|Bj [.B1 gz0 ND (D7 _).toArray] [] (Aj (k9 C (n+Ex.size a+Ex.size .no+Bl.size B)) [] j (Aj (k9 B (n+Ex.size a+Ex.size .no)) [] j (M5 a n S))) (bd+Ex.size a+2*Bl.size B+2*Bl.size C) O (A7 O) (λw ho=>(hC0 _ ns hsC [] _ [] UR (by decide) j g _ f z56 _ (bd+Ex.size a+2*Bl.size B) w hz56 (by simp only[Y4];omega) hn5 ho)) O O λz61 hz61=>H6<|F4<|K7 O λw9 ho9=>?_;rotate_left;contradiction;exact GU [_] ⟨_,_,ho9⟩ hz61 (by omega)
theorem ai5(i:Int)(s t:C9)(a:Ex)(B:Bl)(r:Bl)(hB0:Pp B):IV 25 i s t a .no B .no r:=by
 intro n ns hs g v f z S bd w hB hb hn5 ho;refine G7 ho MH O MI O ?_;have hr:=hs.root;have hsa:=hs.sa;have hsb:=hs.sb;have hsB:=hs.sB;have hsC:=hs.sC;refine R7 1 O ?_;rintro⟨_,⟨_,h0⟩|⟨gn,cp,rfl⟩⟩
 ·have:=(N5.1 hr).1;omega
 obtain⟨j,hj⟩:∃j,j=n+Ex.size a+Ex.size .no+Bl.size B+Bl.size .no:=⟨_,rfl⟩
 rw[<-hj] at hr⊢;have hjl:j<ns.length:=(N5.1 hr).1;refine B4 O<|E5 O<|D9 O<|B2 0 O<|A4 O<|Q4 (j:=j) O hjl<|U6 (vs:=D7 _) O (λw' ho=>X7 Y0 ho (q:=1) rfl hr)<|E3 V2 O λgz0=>E8 0 _ O<|I9 O<|B2 0 O<|Bj [.B1 gz0 ND (D7 _).toArray] [] (M5 a n S) (bd+Ex.size a) O (A7 O) (λw ho=>GV a n ns hsa g _ f z S bd w hB (by omega) hn5 ho) O O λz16 hz16=>I0<|B2 0 O<|A6<|C7<|A3<|C6 O<|C4 O (λz1=>absurd z1 (by simp[*])) λz1=>A3<|C6 O<|C4 O (λz2=>absurd z2 (by simp[*])) λz2=>A3<|C6 O<|C4 O (λz3=>absurd z3 (by simp[*])) λz3=>A3<|C6 O<|C4 O (λz4=>absurd z4 (by simp[*])) λz4=>A3<|C6 O<|C4 O (λz5=>?_) (λz5=>?_);refine C8 ?_;rotate_left;contradiction;obtain⟨sv,T6,mv,fv,made,free⟩:=z16;refine R7 4 O ?_;rintro⟨_,⟨_,h0⟩|⟨gl,cl,hsl⟩⟩
 ·omega
 dsimp only at hsl;subst hsl;have hzl:=iM hz16 j (.slice (some ⟨gl,0,none⟩) ns.length cl);apply BL 11 [_,_,_,_,_,_,_,_,_,_,_] (by kernel_rfl) (by kernel_rfl) (by kernel_rfl)
 ·refine D5 O (λvs=>H8 O)<|D5 O (λvs=>N1 O)<|D5 O (λvs=>I8 4 O)<|D5 O (λvs=>K1 1 O)<|D5 O (λvs=>H8 O)<|D5 O (λvs=>H8 O)<|D5 O (λvs=>N1 O)<|D5 O (λvs=>I8 2 O)<|D5 O (λvs=>K1 1 O)<|D5 O (λvs=>Im (i:=3) (by kernel_rfl) O O)<|D5 O (λvs=>En 1 j O hjl) ?_;exact l6
 ·(repeat(first|exact trivial|exact(λ_ _ _ h=>h)|refine⟨trivial,?_⟩|refine⟨λ_ _ _ h=>h,?_⟩))
 intro vs;refine GR (i:=4) (j:=0+j*1) (by kernel_rfl) O O O O (by omega)<|A6 ?_;rotate_left;have est:=QX (M5 a n S).C0 j ((M5 a n S).seen.length:Int);refine x4 (H':=[.B1 gz0 ND (D7 _).toArray]++R8 g _ f ns ⟨sv,.slice (some ⟨gl,0,none⟩) ns.length cl,mv,fv,made,free⟩ (AU j (M5 a n S))) O (λw ho=>by unfold R8;dsimp only[AU];rw[<-est];exact ho)<|C5<|A4 O<|B2 0 O<|A4 O<|B2 0 O<|B2 0 O<|N7 (D1 [s,t]) (D1 [s,t]) O λgu=>CE (List.Perm.swap _ _ _) (Bj [.B1 gz0 ND (D7 _).toArray] [.B1 gu S0 (D1 [s,t]).toArray] (Aj (k9 B (n+Ex.size a+Ex.size .no)) [s,t] j (AU j (M5 a n S))) (bd+Ex.size a+2+2*Bl.size B) O (A7 O) (λw ho=>(hB0 _ ns hsB [.B1 gu S0 (D1 [s,t]).toArray] _ [s,t] (.inr ⟨gu,rfl,rfl⟩) (by simp) j g _ f _ _ (bd+Ex.size a) w hzl (by simp only[T3,Y4];omega) hn5 ho)) O O (λz84 hz84=>?_));refine H6<|F4<|K7 O λw9 ho9=>?_;rotate_left;exact GU [_] ⟨_,_,ho9⟩ hz84 (by omega)
theorem ak1(i:Int)(B:Bl)(r:Bl)(hB0:Pp B):IV 26 i [] [] .no .no B .no r:=by
 intro n ns hs g v f z S bd w hB hb hn5 ho;refine G7 ho MH O MI O ?_;have hr:=hs.root;have hsa:=hs.sa;have hsb:=hs.sb;have hsB:=hs.sB;have hsC:=hs.sC;refine R7 1 O ?_;rintro⟨_,⟨_,h0⟩|⟨gn,cp,rfl⟩⟩
 ·have:=(N5.1 hr).1;omega
 obtain⟨j,hj⟩:∃j,j=n+Ex.size .no+Ex.size .no+Bl.size B+Bl.size .no:=⟨_,rfl⟩
 rw[<-hj] at hr⊢;have hjl:j<ns.length:=(N5.1 hr).1;refine B4 O<|E5 O<|D9 O<|B2 0 O<|A4 O<|Q4 (j:=j) O hjl<|U6 (vs:=D7 _) O (λw' ho=>X7 Y0 ho (q:=1) rfl hr)<|E3 V2 O λgz0=>E8 0 _ O<|I9 O<|B2 0 O<|Bj [.B1 gz0 ND (D7 _).toArray] [] (M5 .no n S) (bd+Ex.size .no) O (A7 O) (λw ho=>GV .no n ns hsa g _ f z S bd w hB (by omega) hn5 ho) O O λz16 hz16=>I0<|B2 0 O<|A6<|C7<|A3<|C6 O<|C4 O (λz1=>absurd z1 (by simp[*])) λz1=>A3<|C6 O<|C4 O (λz2=>absurd z2 (by simp[*])) λz2=>A3<|C6 O<|C4 O (λz3=>absurd z3 (by simp[*])) λz3=>A3<|C6 O<|C4 O (λz4=>absurd z4 (by simp[*])) λz4=>A3<|C6 O<|C4 O (λz5=>absurd z5 (by simp[*])) λz5=>A3<|C6 O<|C4 O (λz6=>?_) (λz6=>?_);refine C5<|A4 O<|B2 0 O<|A4 O<|Bj [.B1 gz0 ND (D7 _).toArray] [] (Aj (k9 B (n+Ex.size .no+Ex.size .no)) [] j (M5 .no n S)) (bd+Ex.size .no+2*Bl.size B) O (A7 O) (λw ho=>(hB0 _ ns hsB [] _ [] UR (by decide) j g _ f z16 _ (bd+Ex.size .no) w hz16 (by simp only[Y4];omega) hn5 ho)) O O λz91 hz91=>H6<|F4<|K7 O λw9 ho9=>?_;rotate_left;contradiction;exact GU [_] ⟨_,_,ho9⟩ hz91 (by omega)
theorem aa7{B:Bl}(h:WB B):Sf B:=by
 induction h with
 |no=>trivial
 |names k h s hs a ha r hr ih=>
  rcases h with rfl|rfl
  ·exact⟨tJ s a r,ih⟩
  ·exact⟨ad6 s a r,ih⟩
 |put a b ha hb r hr ih=>exact⟨af5 a b r hb,ih⟩
 |one k h a ha r hr ih=>
  rcases h with rfl|rfl|rfl
  ·exact⟨aA4 a r,ih⟩
  ·exact⟨aj4 a r,ih⟩
  ·exact⟨aw9 a r,ih⟩
 |iff a ha B hB r hr ihB ih=>exact⟨iW 0 a B .no r (NA ihB) (NA trivial),ih⟩
 |Hk a ha B C hB hC r hr ihB ihC ih=>exact⟨iW 1 a B C r (NA ihB) (NA ihC),ih⟩
 |each s t hs ht a ha i hi B hB r hr ihB ih=>exact⟨ai5 i s t a B r (NA ihB),ih⟩
 |rep i hi B hB r hr ihB ih=>exact⟨ak1 i B r (NA ihB),ih⟩
end
end Go.Proofs.YtjkhokkdgfbhcaaGreatDoor
