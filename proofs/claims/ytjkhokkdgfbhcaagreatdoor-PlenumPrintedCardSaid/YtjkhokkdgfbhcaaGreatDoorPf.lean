/-
  PlenumPrinted: at every input it returns true, and each argument reads as it read; the listed tables start as the program's text lays them, and the card ties them to that text. No other condition.
-/
import Derived.WalkKit
import Derived.ProofKit
import Derived.OpenShut
import Derived.SizedLaws
import Derived.Lib.SmallJoins
import Derived.Lib.Hide
import Derived.WalkSmall
import Derived.HandedShaped
import Derived.LaidMore
import Derived.LaidLaws
import Derived.Lay
import Derived.Stop.Joined
import Derived.ChangeMaps5
import Derived.Deep.Slices
import Derived.Deep.Fields
import Derived.Shelf.Vars
import Derived.LaidSub
import Derived.Lib.LaidTab
import Derived.Test.YtjkhokkdgfbhcaaGreatDoorRows
import Derived.Test.YtjkhokkdgfbhcaaGreatDoorTie
import Derived.Test.YtjkhokkdgfbhcaaGreatDoorCards
import Derived.Test.YtjkhokkdgfbhcaaGreatDoorPe
set_option linter.defProp false
set_option linter.unusedSectionVars false
set_option linter.unusedSimpArgs false
set_option linter.unusedVariables false
set_option linter.deprecated false
set_option maxHeartbeats 16000000
namespace Go.Proofs.YtjkhokkdgfbhcaaGreatDoor
open Go.RowKit Go.Proofs.Tryz
section
attribute [local irreducible] F8 D3 Exit.then Exit.inBlock Exit.noGoto wpQuiet Calls fin At G9 L3 L7 RQ R9
theorem QW{a b t u k:Nat}{cs ds:J2}(h:k∈F1 [C2.B1 a t cs,C2.B1 b u ds]):k=b\/k=a:=by simpa[F1,C2.blocks,or_comm] using h
theorem Z6.TY{w:B6}{B B':Nat->Prop}{ls:H2}{fs:List (List F5)}(h:Z6 w B ls fs)(hB:∀k,B' k->B k):Z6 w B' ls fs:=h.move (M0.refl _ _) (λk _ hk=>hB k hk)
theorem Sx{w:B6}{B:Nat->Prop}{ls:H2}{vs:List Int}{fs:List (List F5)}{F6 by' ks:Int}(h:Z6 w B ls fs):((O2 ls vs F6 by' ks).toList.all (·.oneCell'))=true:=by
 have h1:=VF (vs:=vs) h;simp only[Z8,CR] at h1;simp only[O2,CR];rw[YE,h1];rfl
theorem yL{ls ls':H2}{vs:List Int}{F6 by' ks:Int}(h1:ls.length=16)(h1':ls'.length=16)(h2:vs.length=16):((O2 ls vs F6 by' ks).toList.take (0+0)++(Z8 ls' vs).toList++(O2 ls vs F6 by' ks).toList.drop (0+0+(Z8 ls' vs).size)).toArray=O2 ls' vs F6 by' ks:=by
 have h:(ls++X2 vs).length=32:=by simp[X2,h1,h2]
 rw[Md h1' h2];simp only[O2,Z8,CR,Bs,Y3,Rr,DM];rw[<-h,Pk]
theorem aY(ls:H2)(vs:List Int)(fs:List (List F5))(F6 by' ks:Int)(w:B6)(hT:Z6 w ES ls fs)(hvs:vs.length=16)(hn:∀i,(fs.getD i []).length<=9223372036854775807):
  Calls prog 10 #[.agg (O2 ls vs F6 by' ks)] w λe w'=>∃v,e=.returned v/\Below w.heap.size w w'/\∃ls',v=.agg (O2 ls' vs F6 by' ks)/\Z6 w' (λk=>k<w.heap.size) ls' (Dj fs):=by
 have hl1:=hT.l1;have hz:=FG (F6:=F6) (by':=by') (ks:=ks) hl1 hvs;have hpt:=WU (F6:=F6) (by':=by') (ks:=ks) hl1 hvs;have hln:(ls++X2 vs).length=32:=by simp[X2,hl1,hvs]
 refine J5 func10 O ntmps10 O<|A3<|F0 O λgz0=>E3 Tryz.zeroValue28 O λgz1=>I0 ?_;rotate_left;refine Ai (E':=[(1,.pointer (some ⟨gz0,0,none⟩)),(2,.pointer (some ⟨gz1,0,none⟩))]) ⟨rfl,rfl,trivial⟩<|D9 O<|B9 (o4 1 (0+0) (ls++X2 vs) (by rw[hln];kernel_rfl) O (by rw[hln];exact hpt)) O<|JP (f:=19) (Φ:=λv w'=>∃ls',v=GN ls' vs/\Z6 w' (λk=>k<w.heap.size\/k=gz0\/k=gz1) ls' (Dj fs)) (A7 O) (λw1 ho=>(aw4 ls vs fs w1 (hT.K6 ho.plain) hvs hn).mono ?_) O O (λv w1 hw1 hv=>?_);rotate_left;rotate_left
 ·rintro e w' ⟨v,h1,h2,ls',h3,h4⟩;refine⟨v,h1,h2,ls',h3,h4.TY λk hk=>?_⟩;rcases hk with hk|rfl|rfl
  ·exact ID hk ho.plain.size
  ·exact ho.lt _ (by simp[F1,C2.blocks])
  ·exact ho.lt _ (by simp[F1,C2.blocks])
 obtain⟨ls',rfl,hT'⟩:=hv;have hz':=FG (F6:=F6) (by':=by') (ks:=ks) hT'.l1 hvs;have hput:=yL (ls:=ls) (ls':=ls') (F6:=F6) (by':=by') (ks:=ks) hl1 hT'.l1 hvs;have h32:=Md hT'.l1 hvs;have hone:=VF (vs:=vs) hT';have hso:=Sx (vs:=vs) (F6:=F6) (by':=by') (ks:=ks) hT';refine D9 O<|On (i:=1) (j:=0+0) (vs:=Z8 ls' vs) (by rw[h32];kernel_rfl) O O hone O (by rw[h32,hz];rfl)<|I0 ?_;rw[hput];refine G6 1 O hz'<|q8 (i:=0) (h:=gz1) (vs:=O2 ls' vs F6 by' ks) (by rw[hz'];kernel_rfl) O O hso O (by rw[hz'];rfl)<|A6<|D4<|EK (i:=0) (k:=35) O O O O (by kernel_rfl) hz' λw9 ho9=>?_;exact⟨_,rfl,ho9.plain,ls',rfl,hT'.move (M0.wide ho9.base λk hk=>.inr (QW hk)) (λ_ _ h=>.inl h)⟩
def l0(src:List UInt8)(st:List Value)(rv wv:Value)(G0:Int):List Value:=.string (bs src)::(st++[rv,wv,.int .i64 G0])
section
variable{src:List UInt8}{st st':List Value}{rv wv rv' wv':Value}{G0:Int}
theorem LI(h:st.length=35):(l0 src st rv wv G0).toArray.size=39:=by simp[l0,h]
theorem Xv(h:st.length=35):((l0 src st rv wv G0).toArray.toList.drop (0+1)).take 35=st:=by
 simp only[l0,CR,Y3,MF,IF];rw[<-h,Po]
theorem WF(h:st.length=35):((l0 src st rv wv G0).toArray.toList.drop (0+36)).take 2=[rv,wv]:=by
 simp only[l0,CR,Y3,MF];rw[<-h,Pk];rfl
theorem ap5(h:st.length=35):(l0 src st rv wv G0).toArray[38]?=some (.int .i64 G0):=by
 simp only[l0,Rf];rw[JC,j4 (by omega),h];rfl
theorem YZ(h:st.length=35)(h':st'.length=35):((l0 src st rv wv G0).toArray.toList.take (0+1)++st'.toArray.toList++(l0 src st rv wv G0).toArray.toList.drop (0+1+st'.toArray.size)).toArray=(l0 src st' rv wv G0).toArray:=by
 have e:st'.toArray.size=35:=by simpa using h'
 rw[e];simp only[l0,CR,Y3,Uz,Rr];rw[show 1+35=35+1 from rfl,MF,<-h,Pk];rfl
theorem iT(h:st.length=35):((l0 src st rv wv G0).toArray.toList.take (0+36)++(#[rv',wv']:J2).toList++(l0 src st rv wv G0).toArray.toList.drop (0+36+(#[rv',wv']:J2).size)).toArray=(l0 src st rv' wv' G0).toArray:=by
 simp only[l0,CR,Y3];rw[show(36:Nat)=35+1 from rfl,Uz,<-h,Po];rw[show st.length+1+(#[rv',wv']:J2).size=(st.length+2)+1 from rfl,MF,<-JB,Pk];simp
end
theorem T7.one{w:B6}{v:Value}{xs:H2}(h:T7 w v xs):v.oneCell'=true:=by
 obtain⟨A,c,rfl⟩:=h.len;rfl
theorem VB{src:C9}{st:H2}{rv wv:Value}{G0:Int}(h:(st.all (·.oneCell'))=true)(h1:rv.oneCell'=true)(h2:wv.oneCell'=true):((l0 src st rv wv G0).toArray.toList.all (·.oneCell'))=true:=by
 simp only[l0,CR,Pe,YE,h,h1,h2];rfl
theorem ax2{src s':C9}{st:H2}{rv wv:Value}{G0:Int}:(l0 src st rv wv G0).toArray.setIfInBounds (0+0) (.string (bs s'))=(l0 s' st rv wv G0).toArray:=by
 simp[l0]
theorem zY(src:C9)(ls:H2)(vs:List Int)(fs:List (List F5))(F6 by' ks G0:Int)(rv wv:Value)(R V:List (List UInt8))(w:B6)(hT:Z6 w ES ls fs)(hvs:vs.length=16)(hn:∀i,(fs.getD i []).length<=9223372036854775807)(hR:T7 w rv (D1 R))(hV:T7 w wv (D1 V))(hr:R.length<=9223372036854775807)(hv9:V.length<=9223372036854775807):
  Calls prog 4 #[.agg (l0 src (O2 ls vs F6 by' ks).toList rv wv G0).toArray] w λe w'=>∃v,e=.returned v/\Below w.heap.size w w'/\∃(ls':H2) (q:Value×Value),v=.agg (l0 (src.take 1200) (O2 ls' vs F6 by' ks).toList q.1 q.2 G0).toArray/\Z6 w' (λk=>k<w.heap.size) ls' (Dj fs)/\KV w' (λk=>k<w.heap.size) q.1 (d6 R)/\KV w' (λk=>k<w.heap.size) q.2 (d6 V):=by
 have hl1:=hT.l1;have hz:=FG (F6:=F6) (by':=by') (ks:=ks) hl1 hvs;have hsl:(O2 ls vs F6 by' ks).toList.length=35:=by simpa using hz
 refine J5 func4 O ntmps4 O<|A3<|F0 O λgz0=>E3 Tryz.zeroValue33 O λgz1=>A6<|B5 ?_;rotate_left;refine Ai (E':=[(1,.pointer (some ⟨gz0,0,none⟩)),(2,.pointer (some ⟨gz1,0,none⟩))]) ⟨rfl,rfl,trivial⟩ ?_;by_cases hs:1200<src.length
 ·have hsrc:src.take 1200=src.take 1200:=rfl;refine B2 1 O<|n4 O<|Q7 O<|A6<|E7 O (by omega)<|C5<|B2 1 O<|B9 (NW (by kernel_rfl) O O (by omega)) O<|D9 O<|N4 1 O<|I0 ?_;rw[show Int.toNat 1200=1200 from rfl,ax2];refine D9 O<|B9 (o4 1 (0+1) ((O2 ls vs F6 by' ks).toList) (by rw[hsl];kernel_rfl) O (by rw[hsl];exact Xv hsl)) O<|JP (f:=10) (Φ:=λv w'=>∃ls',v=.agg (O2 ls' vs F6 by' ks)/\Z6 w' (λk=>k<w.heap.size\/k=gz0\/k=gz1) ls' (Dj fs)) (A7 O) (λw1 ho=>(aY ls vs fs F6 by' ks w1 (hT.K6 ho.plain) hvs hn).mono ?_) O O (λv w1 hw1 hv=>?_);rotate_left;rotate_left
  ·rintro e w' ⟨v,h1,h2,ls',h3,h4⟩;refine⟨v,h1,h2,ls',h3,h4.TY λk hk=>?_⟩;rcases hk with hk|rfl|rfl
   ·exact ID hk ho.plain.size
   ·exact ho.lt _ (by simp[F1,C2.blocks])
   ·exact ho.lt _ (by simp[F1,C2.blocks])
  obtain⟨ls',rfl,hT'⟩:=hv;have hz':=FG (F6:=F6) (by':=by') (ks:=ks) hT'.l1 hvs;have hso:=Sx (vs:=vs) (F6:=F6) (by':=by') (ks:=ks) hT';have hsl':(O2 ls' vs F6 by' ks).toList.length=35:=by simpa using hz'
  have hput:=YZ (src:=src.take 1200) (st:=(O2 ls vs F6 by' ks).toList) (st':=(O2 ls' vs F6 by' ks).toList) (rv:=rv) (wv:=wv) (G0:=G0) hsl hsl';have h39:=LI (src:=src.take 1200) (st:=(O2 ls vs F6 by' ks).toList) (rv:=rv) (wv:=wv) (G0:=G0) hsl;refine D9 O<|On (i:=1) (j:=0+1) (vs:=(O2 ls' vs F6 by' ks).toList.toArray) (by simp only[Um];rw[hz'];kernel_rfl) O O (by simpa using hso) O (by rw[h39];simp only[Um];rw[hz'];rfl)<|I0 ?_;rw[hput];refine D9 O<|B9 (o4 1 (0+36) [rv,wv] (by kernel_rfl) O (WF hsl')) O<|JP (f:=11) (Φ:=λv w'=>∃q:Value×Value,v=.agg #[q.1,q.2]/\KV w' (λk=>k<w.heap.size\/k=gz0\/k=gz1) q.1 (d6 R)/\KV w' (λk=>k<w.heap.size\/k=gz0\/k=gz1) q.2 (d6 V)) (A7 O) (λw2 ho=>(eE rv wv R V w2 (hR.K6 ho.plain) (hV.K6 ho.plain) hr hv9).mono ?_) O O (λv w2 hw2 hv=>?_);rotate_left;rotate_left
  ·rintro e w' ⟨q,h1,h2,h3,h4⟩;have hB:∀k,(k<w.heap.size\/k=gz0\/k=gz1)->k<w2.heap.size:=λk hk=>by
    rcases hk with hk|rfl|rfl
    ·exact ID hk ho.plain.size
    ·exact ho.lt _ (by simp[F1,C2.blocks])
    ·exact ho.lt _ (by simp[F1,C2.blocks])
   exact⟨_,h1,h2,q,rfl,h3.move (M0.refl _ _) (λk _ hk=>hB k hk),h4.move (M0.refl _ _) (λk _ hk=>hB k hk)⟩
  obtain⟨⟨q1,q2⟩,rfl,hq1,hq2⟩:=hv;dsimp only at hq1 hq2;have hT2:=hT'.move (M0.wide hw2.base λk hk=>.inr (QW hk)) (λk _ h=>h);have ho1:=hq1.1.one;have ho2:=hq2.1.one;have hput2:=iT (src:=src.take 1200) (st:=(O2 ls' vs F6 by' ks).toList) (rv:=rv) (wv:=wv) (rv':=q1) (wv':=q2) (G0:=G0) hsl';have h39':=LI (src:=src.take 1200) (st:=(O2 ls' vs F6 by' ks).toList) (rv:=rv) (wv:=wv) (G0:=G0) hsl';have h39'':=LI (src:=src.take 1200) (st:=(O2 ls' vs F6 by' ks).toList) (rv:=q1) (wv:=q2) (G0:=G0) hsl';have hjo:=VB (src:=src.take 1200) (G0:=G0) (by simpa using hso:((O2 ls' vs F6 by' ks).toList.all (·.oneCell'))=true) ho1 ho2;refine D9 O<|On (i:=1) (j:=0+36) (vs:= #[q1,q2]) (by kernel_rfl) O O (Kz ho1 ho2) O (by rw[h39'];rfl)<|I0 ?_;rw[hput2];refine G6 1 O h39''<|q8 (i:=0) (h:=gz1) (vs:=(l0 (src.take 1200) (O2 ls' vs F6 by' ks).toList q1 q2 G0).toArray) (by rw[h39''];kernel_rfl) O O hjo O (by rw[h39''];rfl)<|A6<|D4<|EK (i:=0) (k:=39) O O O O (by kernel_rfl) h39'' λw9 ho9=>?_;have hfr:=M0.wide ho9.base λk hk=>Or.inr (a:=k<w.heap.size) (QW hk);exact⟨_,rfl,ho9.plain,ls',(q1,q2),rfl,hT2.move hfr (λ_ _ h=>.inl h),hq1.move hfr (λ_ _ h=>.inl h),hq2.move hfr (λ_ _ h=>.inl h)⟩
 ·have hsrc:src.take 1200=src:=CQ (by omega);refine B2 1 O<|n4 O<|Q7 O<|A6<|E0 O (by omega)<|D6<|A3<|D9 O<|B9 (o4 1 (0+1) ((O2 ls vs F6 by' ks).toList) (by rw[hsl];kernel_rfl) O (by rw[hsl];exact Xv hsl)) O<|JP (f:=10) (Φ:=λv w'=>∃ls',v=.agg (O2 ls' vs F6 by' ks)/\Z6 w' (λk=>k<w.heap.size\/k=gz0\/k=gz1) ls' (Dj fs)) (A7 O) (λw1 ho=>(aY ls vs fs F6 by' ks w1 (hT.K6 ho.plain) hvs hn).mono ?_) O O (λv w1 hw1 hv=>?_);rotate_left;rotate_left
  ·rintro e w' ⟨v,h1,h2,ls',h3,h4⟩;refine⟨v,h1,h2,ls',h3,h4.TY λk hk=>?_⟩;rcases hk with hk|rfl|rfl
   ·exact ID hk ho.plain.size
   ·exact ho.lt _ (by simp[F1,C2.blocks])
   ·exact ho.lt _ (by simp[F1,C2.blocks])
  obtain⟨ls',rfl,hT'⟩:=hv;have hz':=FG (F6:=F6) (by':=by') (ks:=ks) hT'.l1 hvs;have hso:=Sx (vs:=vs) (F6:=F6) (by':=by') (ks:=ks) hT';have hsl':(O2 ls' vs F6 by' ks).toList.length=35:=by simpa using hz'
  have hput:=YZ (src:=src) (st:=(O2 ls vs F6 by' ks).toList) (st':=(O2 ls' vs F6 by' ks).toList) (rv:=rv) (wv:=wv) (G0:=G0) hsl hsl';have h39:=LI (src:=src) (st:=(O2 ls vs F6 by' ks).toList) (rv:=rv) (wv:=wv) (G0:=G0) hsl;refine D9 O<|On (i:=1) (j:=0+1) (vs:=(O2 ls' vs F6 by' ks).toList.toArray) (by simp only[Um];rw[hz'];kernel_rfl) O O (by simpa using hso) O (by rw[h39];simp only[Um];rw[hz'];rfl)<|I0 ?_;rw[hput];refine D9 O<|B9 (o4 1 (0+36) [rv,wv] (by kernel_rfl) O (WF hsl')) O<|JP (f:=11) (Φ:=λv w'=>∃q:Value×Value,v=.agg #[q.1,q.2]/\KV w' (λk=>k<w.heap.size\/k=gz0\/k=gz1) q.1 (d6 R)/\KV w' (λk=>k<w.heap.size\/k=gz0\/k=gz1) q.2 (d6 V)) (A7 O) (λw2 ho=>(eE rv wv R V w2 (hR.K6 ho.plain) (hV.K6 ho.plain) hr hv9).mono ?_) O O (λv w2 hw2 hv=>?_);rotate_left;rotate_left
  ·rintro e w' ⟨q,h1,h2,h3,h4⟩;have hB:∀k,(k<w.heap.size\/k=gz0\/k=gz1)->k<w2.heap.size:=λk hk=>by
    rcases hk with hk|rfl|rfl
    ·exact ID hk ho.plain.size
    ·exact ho.lt _ (by simp[F1,C2.blocks])
    ·exact ho.lt _ (by simp[F1,C2.blocks])
   exact⟨_,h1,h2,q,rfl,h3.move (M0.refl _ _) (λk _ hk=>hB k hk),h4.move (M0.refl _ _) (λk _ hk=>hB k hk)⟩
  obtain⟨⟨q1,q2⟩,rfl,hq1,hq2⟩:=hv;dsimp only at hq1 hq2;have hT2:=hT'.move (M0.wide hw2.base λk hk=>.inr (QW hk)) (λk _ h=>h);have ho1:=hq1.1.one;have ho2:=hq2.1.one;have hput2:=iT (src:=src) (st:=(O2 ls' vs F6 by' ks).toList) (rv:=rv) (wv:=wv) (rv':=q1) (wv':=q2) (G0:=G0) hsl';have h39':=LI (src:=src) (st:=(O2 ls' vs F6 by' ks).toList) (rv:=rv) (wv:=wv) (G0:=G0) hsl';have h39'':=LI (src:=src) (st:=(O2 ls' vs F6 by' ks).toList) (rv:=q1) (wv:=q2) (G0:=G0) hsl';have hjo:=VB (src:=src) (G0:=G0) (by simpa using hso:((O2 ls' vs F6 by' ks).toList.all (·.oneCell'))=true) ho1 ho2;refine D9 O<|On (i:=1) (j:=0+36) (vs:= #[q1,q2]) (by kernel_rfl) O O (Kz ho1 ho2) O (by rw[h39'];rfl)<|I0 ?_;rw[hput2];refine G6 1 O h39''<|q8 (i:=0) (h:=gz1) (vs:=(l0 (src) (O2 ls' vs F6 by' ks).toList q1 q2 G0).toArray) (by rw[h39''];kernel_rfl) O O hjo O (by rw[h39''];rfl)<|A6<|D4<|EK (i:=0) (k:=39) O O O O (by kernel_rfl) h39'' λw9 ho9=>?_;have hfr:=M0.wide ho9.base λk hk=>Or.inr (a:=k<w.heap.size) (QW hk);exact⟨_,rfl,ho9.plain,ls',(q1,q2),by rw[hsrc],hT2.move hfr (λ_ _ h=>.inl h),hq1.move hfr (λ_ _ h=>.inl h),hq2.move hfr (λ_ _ h=>.inl h)⟩
end
section
theorem bV{P:Program}{t:TypeId}{xs:H2}{o k:Nat}{w:B6}(hT:CU P t=some k):(part t xs.toArray o).run P w=.ok (.agg ((xs.drop o).take k).toArray) w:=by
 have e:xs.toArray.extract o (o+k)=((xs.drop o).take k).toArray:=by
  rw[List.extract_toArray,List.extract_eq_take_drop];simp
 simp[part,Sem.run_bind,Tp hT,TT hT,Result.andThen,e]
theorem aw8{P:Program}{t:TypeId}{d:Nat}{xs ys:H2}{l:List (Nat×Nat)}{b:Bool}{w:B6}(hT:Ll P t=some l)(h:HK xs ys l=some b):(Op.equalIn (d+2) t (.agg xs.toArray) (.agg ys.toArray)).run P w=.ok b w:=by
 unfold Ll at hT;split at hT
 ·rename_i fs hu;split at hT
  ·cases hT
  ·rename_i hs;simp only[Kf,not_or,Bool.not_eq_true] at hs;have hfo:P.fieldsOf t=fs:=by simp[Program.fieldsOf,hu]
   rw[run_equalIn_agg w (d+1) t _ _ (by rw[hfo];exact hu) hs.1,hfo];exact WO hT h
 ·cases hT
def dY(P:Program)(t u:TypeId):Bool:=match P.underlying t with
 |some (.struct ⟨[f,g]⟩)=>f.name != "_" &&g.name != "_" &&f.offset==0&&g.offset==1&&g.type==u&&Db P f.type&&(match P.underlying f.type with|some .string=>true|_=>false)
 |_=>false
theorem af8{P:Program}{t u:TypeId}{k:Nat}{l:List (Nat×Nat)}{s s':ByteArray}{xs ys:H2}{b:Bool}{w:B6}(hp:dY P t u=true)(hs:P.stoodInHeld t=false)(hu:Ll P u=some l)(ha:CU P u=some k)(hx:xs.length=k)(hy:ys.length=k)(h:HK xs ys l=some b):(Op.equalIn 10000 t (.agg (.string s::xs).toArray) (.agg (.string s'::ys).toArray)).run P w=.ok (decide (s=s')&&b) w:=by
 unfold dY at hp;split at hp
 ·rename_i f g hT;simp only[j1,bne_iff_ne,beq_iff_eq,ne_eq] at hp;obtain⟨⟨⟨⟨⟨⟨h1,h2⟩,h3⟩,h4⟩,h5⟩,h6⟩,h7⟩:=hp;have h8:P.underlying f.type=some .string:=by
   split at h7
   ·assumption
   ·cases h7
  have hfo:P.fieldsOf t=⟨[f,g]⟩:=by simp[Program.fieldsOf,hT]
  rw[run_equalIn_agg w 9999 t _ _ (by rw[hfo];exact hT) hs,hfo];have p1:=Sw (w:=w) h6 (xs:=(.string s::xs).toArray) (o:=f.offset) (v:=.string s) (by rw[h3];simp);have p2:=Sw (w:=w) h6 (xs:=(.string s'::ys).toArray) (o:=f.offset) (v:=.string s') (by rw[h3];simp);have p3:=Yv (P:=P) (t:=f.type) (d:=9998) (w:=w) (k:=2) (u:=.string s) (v:=.string s') (b:=decide (s=s')) (.inr (.inr ⟨rfl,h8⟩)) rfl;have q1:=bV (xs:=.string s::xs) (o:=g.offset) (w:=w) (h5.symm▸ha);have q2:=bV (xs:=.string s'::ys) (o:=g.offset) (w:=w) (h5.symm▸ha);rw[h4,MF,IF,CQ (by omega)] at q1 q2;have q3:=aw8 (d:=9997) (w:=w) (h5.symm▸hu) h;simp only[Op.eqFields,if_pos h1,if_pos h2,Sem.run_bind,p1,p2,p3,Result.andThen,ne_eq,h1,h2,not_false_eq_true,if_true];cases hd:decide (s=s')
  ·simp[Sem.run_pure]
  ·simp only[Bool.not_true,Fb,if_false,h4,q1,q2,q3,Sem.run_bind,Result.andThen];cases b<;>simp[Sem.run_pure]
 ·cases hp
theorem ap8(x y:Ed)(w:B6):(Op.equalIn 10000 75 (.agg (g9 x).toArray) (.agg (g9 y).toArray)).run prog w=.ok (decide (x=y)) w:=by
 have h:=af8 (P:=prog) (t:=75) (u:=45) (s:=bs x.1) (s':=bs y.1) (w:=w) (by kernel_rfl) (by kernel_rfl) TI (show CU prog 45=some 3 by kernel_rfl) (by rfl) (by rfl) (Td x.2 y.2);have hb:∀a b:List UInt8,decide (bs a=bs b)=decide (a=b):=λa b=>decide_eq_decide.2 ⟨Zp,λh=>by rw[h]⟩;have e:(decide (bs x.1=bs y.1)&&decide (x.2=y.2))=decide (x=y):=by
  rw[hb];obtain⟨a,b⟩:=x;obtain⟨a',b'⟩:=y;by_cases h1:a=a'<;>by_cases h2:b=b'<;>simp[h1,h2]
 rw[e] at h;exact h
attribute [local irreducible] F8 D3 Exit.then Exit.inBlock Exit.noGoto wpQuiet Calls fin At G9 L3 L7 RQ R9
theorem oI(c node:Int)(v:Vl)(G0:Int)(v1 v2:Value)(es:List Ed)(w:B6)(h1:Hg g9 4 w v1 es)(h2:Hg g9 4 w v2 es)(hl:es.length<=100):
  I6 9 #[.agg (Y2 c node v G0 v1),.agg (Y2 c node v G0 v2)] w (.bool true):=by
 obtain⟨A1,c1,rfl⟩:=h1.len;obtain⟨A2,c2,rfl⟩:=h2.len;refine J5 func9 O ntmps9 O<|A3<|F0 O λgz0=>F0 O λgz1=>A5 O<|B5<|B2 1 O<|B2 0 O<|J3 O<|A4 O<|F9 11 false O (decide_eq_false (by exact λh=>h rfl))<|B3 O<|D9 O<|B3 O<|N3 1 O<|B3 O<|D9 O<|B3 O<|N3 0 O<|B3 O<|J3 O<|G4 O<|A4 O<|F9 18 false O (decide_eq_false (by exact λh=>h rfl))<|B3 O<|D9 O<|B3 O<|B9 (o4 1 (0+2) (D8 v) (by kernel_rfl) O O) O<|B3 O<|D9 O<|B3 O<|B9 (o4 0 (0+2) (D8 v) (by kernel_rfl) O O) O<|B3 O<|B9 (sH TI O O (Td v v)) O<|G4 O<|A4 O<|F9 25 false O (by simp[*])<|B3 O<|D9 O<|B3 O ?_;refine N3 1 O<|B3 O<|D9 O<|B3 O<|N3 0 O<|B3 O<|J3 O<|G4 O<|A4 O<|F9 32 false O (decide_eq_false (by exact λh=>h rfl))<|B3 O<|D9 O<|B3 O<|N3 1 O<|B3 O<|d1 O<|B3 O<|D9 O<|B3 O<|N3 0 O<|B3 O<|d1 O<|B3 O<|J3 O<|G4 O<|A6<|E0 O (by exact λh=>h rfl)<|D6<|B5<|A5 O<|C7 ?_;rotate_left;refine DG (λi:Nat=>i<=es.length) (λi=>[(2,.pointer (some ⟨gz0,0,none⟩)),(3,.pointer (some ⟨gz1,0,none⟩)),(5,.int .i64 i)]) (λi=>es.length-i) 0 (R5 _) ⟨rfl,rfl,rfl,trivial⟩ ?_;rintro i hi;by_cases hil:i<es.length
 ·rcases h1 with⟨_,rfl⟩|⟨gb,c1',hs1,hc1⟩
  ·simp at hil
  rcases h2 with⟨_,rfl⟩|⟨gb',c2',hs2,hc2⟩
  ·simp at hil
  obtain⟨rfl,rfl⟩:A1=some ⟨gb,0,none⟩/\c1=c1':=by simpa using hs1
  obtain⟨rfl,rfl⟩:A2=some ⟨gb',0,none⟩/\c2=c2':=by simpa using hs2
  have hx:es[i]?=some es[i]:=T8 hil;have h1:=hc1 i _ hx;have h2:=hc2 i _ hx;refine B5<|A4 O<|B2 1 O<|d1 O<|H9 O<|A6<|E7 O (by omega)<|D6<|C8<|CN<|R2 (by kernel_rfl)<|I1 O<|J4 1 O<|G3 O<|LS (j:=i) O hil<|jU (vs:=g9 es[i]) O (λw' ho j u hu=>Below.o8 ho.plain (h1 j u hu))<|I1 O<|J4 0 O<|G3 O<|LS (j:=i) O hil<|jU (vs:=g9 es[i]) O (λw' ho j u hu=>Below.o8 ho.plain (h2 j u hu))<|r5 (Zs (by kernel_rfl) O O (ap8 es[i] es[i])) O<|R4<|E2<|Y7 O (by simp[*])<|P5<|F4<|E2<|C5<|A4 O<|N6 O (by omega)<|A5 O ?_;rotate_left;exact DB (i+1) (by omega) (by omega) ⟨rfl,rfl,rfl,trivial⟩
 ·obtain rfl:i=es.length:=by omega
  exact B5<|A4 O<|B2 1 O<|d1 O<|H9 O<|A6<|E0 O (by omega)<|S4<|J0<|J0<|S5<|E2<|A3<|A5 O<|D4<|E4 O λw9 ho9=>⟨rfl,ho9.plain⟩
theorem Do.DW{W:Wt}{has:List Ed}{M:Cd}{B8:Nat}{T:Nat->Ty}(hc:Jh B8 M T)(hh:Ab has){m m':Mc}(h:Do W has M m m'):LM B8 T (M.ins.length-1) m->m'.edits.length<=64:=by
 induction h with
 | @done m x hx h=>
  intro hi;rcases(Yg W has M.G5 x {m with at_:=m.at_+1}).2 with h2|h2
  ·rw[h2];exact hi.el
  ·rw[h] at h2;have:=hi.run;have h2:true=m.ended:=h2;rw[this] at h2;cases h2
 | @more m m' x hx h r ih=>
  intro hi;rcases Sh (W:=W) hc hh hi hx with h1|⟨h1,_⟩
  ·rw[h] at h1;cases h1
  ·exact ih h1
structure Xn where
 c:Int
 node:Int
 v:Vl
 G0:Int
 es:List Ed
 err:Int
def Vw(o:Xn)(w:World)(e:Ending)(w':World):Prop:=∃(p:Int) (x:Value),e=.returned (.tuple #[.agg (Y2 o.c o.node o.v o.G0 x),.int .i64 o.err,.int .i64 p])/\Below w.heap.size w w'/\w'.ownsRow w.heap.size ET 4 x o.es.length (d3 o.es)
structure MV(w:World)(ls:List Value)(vs:List Int)(fs:List (List F5))(rv wv:Value)(W:Wt):Prop where
 p6:Cr w
 tr:Tr w ls vs fs
 Wm:∀x∈fs.flatten,r7 x.num
 rv:T7 w rv (D1 W.reads)
 wv:T7 w wv (D1 W.writes)
 rl:W.reads.length<=1000
 wl:W.writes.length<=1000
theorem MV.K6{w w':B6}{ls:H2}{vs:List Int}{fs:List (List F5)}{rv wv:Value}{W:Wt}(h:MV w ls vs fs rv wv W)(hb:Below w.heap.size w w'):MV w' ls vs fs rv wv W:=
 ⟨⟨h.p6.Q8.K6 hb,h.p6.AB.K6 hb⟩,⟨h.tr.Q8.K6 hb,h.tr.t.K6 hb,h.tr.l,h.tr.s⟩,h.Wm,h.rv.K6 hb,h.wv.K6 hb,h.rl,h.wl⟩
theorem pN{B:Bl}(hW:WB B)(hs:B.size<=512)(vs:List Int)(fs:List (List F5))(F6 by' ks G0:Int)(W:Wt)(hfl:fs.length=16)(hnum:∀x∈fs.flatten,r7 x.num):∃o:Xn,o.es.length<=64/\(o.err=5->o=⟨0,0,H4,0,[],5⟩)/\
  ∀(s:C9),EO s=some (B.ix 0,N0 B 0)->∀(ls:H2) (rv wv:Value) (w:B6),MV w ls vs fs rv wv W->Calls prog 8 #[.string (bs s),.agg (O2 ls vs F6 by' ks),.agg #[rv,wv],.int .i64 G0] w (Vw o w):=by
 by_cases he:(R3 B).e=0
 ·cases hk:KA fs vs F6 by' ks W G0
  ·refine⟨⟨0,0,H4,0,[],1⟩,by simp,λh=>absurd h (by decide),λs hp ls rv wv w h=>?_⟩;exact(ac1 hp hW hs he h.tr h.rv h.wv h.rl h.wl hk).mono λe w' ⟨h1,h2⟩=>⟨-1,.slice none 0 0,h1,h2,World.ownsRow_nil w' _ _ _⟩
  ·obtain⟨T,hc⟩:=fG hW he;have hm:y8 fs vs=true:=by
    simp only[KA,NH,j1] at hk;exact hk.1.1.1.1.1.1.1.1.1.1
   have hh:=(lH hm hfl hnum).1;have hi:=gM hc G0.toNat;obtain⟨m,hr⟩:=ab3 (W:=W) hc hh _ _ (L6 _) hi;have hf:=hr.DW hc hh hi;refine⟨⟨m.code,m.node,m.val,G0-m.left,GE m,0⟩,?_,λh=>absurd h (by simp),λs hp ls rv wv w h=>?_⟩
   ·show(GE m).length<=64;unfold GE;split
    ·simpa[Cp] using hf
    ·simp
   ·exact(kC hp hW hs he h.p6 h.tr h.Wm h.rv h.wv h.rl h.wl hk hr).mono λe w' ⟨v,h1,h2,h3⟩=>⟨-1,v,h1,h2,h3⟩
 ·refine⟨⟨0,0,H4,0,[],(R3 B).e⟩,by simp,λh=>by simp only at h;rw[h],λs hp ls rv wv w h=>?_⟩;exact(nP hp hW hs he (FG h.tr.t.l1 h.tr.l)).mono λe w' ⟨h1,h2⟩=>⟨(R3 B).at_,.slice none 0 0,h1,h2,World.ownsRow_nil w' _ _ _⟩
theorem bX{s:C9}(hp:4096<s.length){ls:H2}{vs:List Int}{fs:List (List F5)}{F6 by' ks G0:Int}{rv wv:Value}{W:Wt}{w:B6}(h:MV w ls vs fs rv wv W):Calls prog 8 #[.string (bs s),.agg (O2 ls vs F6 by' ks),.agg #[rv,wv],.int .i64 G0] w (Vw ⟨0,0,H4,0,[],5⟩ w):=by
 have hn:EO s=none:=by
  unfold EO Aq0;rw[if_pos hp]
 refine(nF hn (FG h.tr.t.l1 h.tr.l)).mono λe w' ⟨q,h1,h2,h3⟩=>?_;obtain⟨q1,q2⟩:=q;obtain rfl:q1=5:=h3.2.resolve_right (by omega);exact⟨q2,.slice none 0 0,h1,h2,World.ownsRow_nil w' _ _ _⟩
def fU:List UInt8:=[114,101,116,117,114,110,32,49,32,43,32,49,59]
def HY:Bl:=.st 28 0 [] [] (.nd 11 0 [43] (.nd 2 1 [] .no .no) (.nd 2 1 [] .no .no)) .no .no .no .no
theorem rH:EO fU=some (HY.ix 0,N0 HY 0):=by kernel_rfl
theorem ac6:WB HY:=by
 refine .one 28 (.inr (.inr rfl)) _ (.two [43] _ rfl _ _ (.int 1 ?_) (.int 1 ?_)) _ .no<;>(unfold HF;omega)
theorem wW:HY.size<=512:=by decide
theorem ao9:(R3 HY).e=0:=by kernel_rfl
def QK:List Value:=List.replicate 16 (.slice none 0 0)
def Oi:List Int:=List.replicate 16 0
def PY:List (List F5):=List.replicate 16 []
theorem lL(i:Nat):PY.getD i []=[]:=by
 unfold PY;rw[W6,YO];split<;>rfl
theorem uA{w:B6}(h:j0 w):Tr w QK Oi PY:=
 ⟨h,⟨rfl,rfl,λi hi=>⟨.slice none 0 0,by unfold QK;rw[YO,if_pos hi],by rw[lL];exact⟨.inl ⟨rfl,rfl⟩,λh=>absurd h (by simp)⟩⟩⟩,rfl,λb=>by rw[lL];exact⟨by simp,λx hx=>by cases hx⟩⟩
theorem tC:KA PY Oi 0 0 0 ⟨[],[]⟩ 9=true:=by kernel_rfl
def Qp(W:Wt)(has:List Ed)(M:Cd):Nat->Mc->Option Mc
 |0,_=>none
 |k+1,m=>match M.ins[m.at_]? with
  |none=>none
  |some x=>if(Q6 W has M.G5 x {m with at_:=m.at_+1}).ended then some (Q6 W has M.G5 x {m with at_:=m.at_+1}) else Qp W has M k (Q6 W has M.G5 x {m with at_:=m.at_+1})
theorem dF{W:Wt}{has:List Ed}{M:Cd}:∀{k:Nat} {m m':Mc},Qp W has M k m=some m'->Do W has M m m'
 |0,m,m',h=>by cases h
 |k+1,m,m',h=>by
  unfold Qp at h;split at h
  ·cases h
  ·rename_i x hx;split at h
   ·rename_i he;cases h;exact .done hx he
   ·rename_i he;exact .more hx (by simpa using he) (dF h)
theorem yF(has:List Ed):(Qp ⟨[],[]⟩ has (Cw HY) 10 (GC (R3 HY).B8 9)).map (λm=>(m.val.num,m.code))=some (2,0):=by kernel_rfl
theorem vQ(has:List Ed):∃m,Do ⟨[],[]⟩ has (Cw HY) (GC (R3 HY).B8 9) m/\m.val.num=2/\m.code=0:=by
 have h:=yF has;cases hr:Qp ⟨[],[]⟩ has (Cw HY) 10 (GC (R3 HY).B8 9) with
 |none=>rw[hr] at h;cases h
 |some m=>
  rw[hr] at h;simp only[Rh,Ck,Cl] at h;exact⟨m,dF hr,h.1,h.2⟩
theorem Zm(L:List (List UInt8)):(d6 L).length<=1000:=by have:=rA L;omega
theorem wT{fs:List (List F5)}:Ou (Dj fs):=λb=>by
 have key:∀xs:List F5,(Dy xs).length<=66/\∀x∈Dy xs,x.key.length<=60:=λxs=>⟨by simp[Dy];omega,λx hx=>by
  obtain⟨y,_,rfl⟩:=FC.1 hx;simp[Cb];omega⟩
 by_cases hb:b<fs.length
 ·rw[VM fs b hb];exact key _
 ·rw[W6,Fa (by simp[Dj];omega)];exact⟨R5 _,λx hx=>absurd hx (by simp)⟩
theorem lT{fs:List (List F5)}(h:∀i,∀x∈fs.getD i [],r7 x.num):∀x∈(Dj fs).flatten,r7 x.num:=λx hx=>by
 obtain⟨f,hf,hxf⟩:=YV.1 hx;obtain⟨b,hb,rfl⟩:=WD hf;have hb':b<fs.length:=by simpa[Dj] using hb
 rw[VM fs b hb'] at hxf;obtain⟨y,hy,rfl⟩:=FC.1 hxf;exact h b y (YF hy)
theorem al1:Ae prog 28=some ((O2 QK Oi 0 0 0).toList,[(0,32),(32,1),(33,1),(34,1)]):=by kernel_rfl
theorem oX(w:B6)(hG:Cr w):I6 6 #[] w (.bool true):=by
 obtain⟨m,hr,hm2,hm0⟩:=vQ (GS (Dh PY Oi []));have cS:∀{w'},Cr w'->Calls prog 8 #[.string (bs fU),.agg (O2 QK Oi 0 0 0),.agg #[.slice none 0 0,.slice none 0 0],.int .i64 9] w' λe w3=>∃v:Value,e=.returned (.tuple #[.agg (Y2 m.code m.node m.val (9-m.left) v),.int .i64 0,.int .i64 (-1)])/\Below w'.heap.size w' w3/\v.oneCell'=true:=λ{w'} g=>
  (kC rH ac6 wW ao9 g (uA g.Q8) (λx hx=>by simp[PY] at hx) (.inl ⟨rfl,rfl⟩) (.inl ⟨rfl,rfl⟩) (R5 _) (R5 _) tC hr).mono λe w3 ⟨v,h1,h2,h3⟩=>⟨v,h1,h2,Kp h3⟩
 generalize m.code=mc at*;generalize m.node=mn at*;generalize (9:Int)-(m.left:Int)=mg at*;generalize m.val=mv at*;refine J5 func6 O ntmps6 O<|A3<|A5 O<|A3<|B9 (O7 ((O2 QK Oi 0 0 0).toList) al1 O) O<|B9 (O7 [.slice none 0 0,.slice none 0 0] bS O) O<|Qs (f:=8) (ι:=Value) (λv=>v.oneCell'=true) (λv=>.tuple #[.agg (Y2 mc mn mv mg v),.int .i64 0,.int .i64 (-1)]) (A7 O) (λw ho=>cS ⟨hG.Q8.K6 ho.plain,hG.AB.K6 ho.plain⟩) O O λv7 hv7=>A4 O<|G1 O<|G1 O<|G1 O<|E3 FD O λgz0=>q8 (i:=0) (vs:=Y2 mc mn mv mg v7) (by kernel_rfl) O O (LB hv7) O O<|E6 O<|A5 O<|B4 O<|H5 O<|A4 O<|F9 13 true O (decide_eq_true (by omega))<|B3 O<|D9 O<|B3 O<|D9 O<|B3 O<|N3 0 O<|B3 O<|H5 O<|K8 O<|A5 O<|D4<|E4 O λw9 ho9=>?_;exact⟨by rw[hm2];rfl,ho9.plain⟩
theorem au9(src:C9)(ls:H2)(vs:List Int)(fs:List (List F5))(F6 by' ks G0:Int)(rv wv:Value)(R V:List (List UInt8))(w:B6)(hG:Cr w)(hT:Z6 w ES ls fs)(hvs:vs.length=16)(hn:∀i,(fs.getD i []).length<=9223372036854775807)(hi:∀i,∀x∈fs.getD i [],r7 x.num)(hR:T7 w rv (D1 R))(hV:T7 w wv (D1 V))(hr:R.length<=9223372036854775807)(hv9:V.length<=9223372036854775807):
  I6 3 #[.agg (l0 src (O2 ls vs F6 by' ks).toList rv wv G0).toArray] w (.bool true):=by
 have hl1:=hT.l1;have hz:=FG (F6:=F6) (by':=by') (ks:=ks) hl1 hvs;have hsl:(O2 ls vs F6 by' ks).toList.length=35:=by simpa using hz
 have h39:=LI (src:=src) (st:=(O2 ls vs F6 by' ks).toList) (rv:=rv) (wv:=wv) (G0:=G0) hsl;refine J5 func3 O ntmps3 O<|A3<|F0 O λgz0=>A5 O<|A3<|G6 0 O h39<|JP (f:=4) (Φ:=λv w'=>∃(ls':H2) (q:Value×Value),v=.agg (l0 (src.take 1200) (O2 ls' vs F6 by' ks).toList q.1 q.2 G0).toArray/\Z6 w' (λk=>k<w.heap.size\/k=gz0) ls' (Dj fs)/\KV w' (λk=>k<w.heap.size\/k=gz0) q.1 (d6 R)/\KV w' (λk=>k<w.heap.size\/k=gz0) q.2 (d6 V)) (A7 O) (λw1 ho=>(zY src ls vs fs F6 by' ks G0 rv wv R V w1 (hT.K6 ho.plain) hvs hn (hR.K6 ho.plain) (hV.K6 ho.plain) hr hv9).mono ?_) O O (λv w1 hw1 hv=>?_);rotate_left;rotate_left
 ·rintro e w' ⟨v,h1,h2,ls',q,h3,h4,h5,h6⟩;have hB:∀k,(k<w.heap.size\/k=gz0)->k<w1.heap.size:=λk hk=>by
   rcases hk with hk|rfl
   ·exact ID hk ho.plain.size
   ·exact ho.lt _ (by simp[F1,C2.blocks])
  exact⟨v,h1,h2,ls',q,h3,h4.TY hB,h5.move (M0.refl _ _) (λk _ hk=>hB k hk),h6.move (M0.refl _ _) (λk _ hk=>hB k hk)⟩
 obtain⟨ls',⟨q1,q2⟩,rfl,hT',hq1,hq2⟩:=hv;dsimp only at hq1 hq2;have hz':=FG (F6:=F6) (by':=by') (ks:=ks) hT'.l1 hvs;have hso:=Sx (vs:=vs) (F6:=F6) (by':=by') (ks:=ks) hT';have hsl':(O2 ls' vs F6 by' ks).toList.length=35:=by simpa using hz'
 have h39':=LI (src:=src.take 1200) (st:=(O2 ls' vs F6 by' ks).toList) (rv:=q1) (wv:=q2) (G0:=G0) hsl';have hjo:=VB (src:=src.take 1200) (G0:=G0) (by simpa using hso:((O2 ls' vs F6 by' ks).toList.all (·.oneCell'))=true) hq1.1.one hq2.1.one;have hgas:=ap5 (src:=src.take 1200) (rv:=q1) (wv:=q2) (G0:=G0) hsl';have hst:=Xv (src:=src.take 1200) (rv:=q1) (wv:=q2) (G0:=G0) hsl';have hwn:=WF (src:=src.take 1200) (rv:=q1) (wv:=q2) (G0:=G0) hsl';have hs4:(src.take 1200).length<=4096:=by rw[ED];omega
 generalize src.take 1200=s at*;generalize gz0=gj at*;refine q8 (i:=0) (vs:=(l0 s (O2 ls' vs F6 by' ks).toList q1 q2 G0).toArray) (by rw[h39'];kernel_rfl) O O hjo O (by rw[h39,h39'])<|I0<|B2 0 O ?_;have hW:∀{w':B6},Below w.heap.size w w'->I6 6 #[] w' (.bool true):=λhb=>oX _ ⟨hG.Q8.K6 hb,hG.AB.K6 hb⟩;cases hp:EO s with
 |none=>
  refine Qs (f:=5) (ι:=Int×Int) (λq=>q.1≠0) (λq=>.tuple #[.agg #[.slice none 0 0,.int .i64 0],.int .i64 q.1,.int .i64 q.2]) (A7 O) (λw ho=>(Pt s w).mono ?_) O O (λq19 hq19=>?_);rotate_left;refine A4 O<|G1 O<|G1 O<|G1 O<|E3 Nl O λgz0=>E8 0 _ O<|E6 O<|A5 O<|B5<|A4 O<|J3 O<|A4 O<|F9 25 true O (decide_eq_true (by exact hq19))<|D2 O<|D2 O<|D2 O<|D2 O<|D2 O<|D2 O<|D2 O<|D2 O<|K8 O<|A6<|R1 O<|A3<|F3 6 (A7 O) (λw ho=>hW ho.plain) O<|A5 O<|D4<|K0<|E4 O λw9 ho9=>?_;rotate_left
  ·rintro e w' ⟨v,f,c,p,rfl,h1,h2⟩;rw[hp] at h2;obtain⟨h3,_,rfl,rfl⟩:=h2;exact⟨(c,p),rfl,h1,h3⟩
  ·exact⟨rfl,ho9.plain⟩
 |some q=>
  obtain⟨first,ns⟩:=q;refine Ib (f:=5) (ι:={i:Int//Vd s first ns}) (e:=ND) (sz:=8) (m:=ns.length) (xs:=L2 ns) (λi v=>.tuple #[.agg #[v,.int .i64 first],.int .i64 0,.int .i64 i.1]) (A7 O) (λw ho=>(Pt s w).mono ?_) O O (λp19 v19=>?_);rotate_left;refine A4 O ?_;rotate_left
  ·rintro e w' ⟨v,f,c,p,rfl,h1,h2⟩;rw[hp] at h2;obtain⟨rfl,rfl,h3,h4⟩:=h2;exact⟨⟨p,h4⟩,v,rfl,h1,h3⟩
  obtain⟨p19,hp19⟩:=p19;obtain⟨B,hB,hs⟩:=xL hp19;obtain⟨hW1,rfl,rfl,hd,htk⟩:=hB;refine IB (i:=0) O λhv19=>G1 O<|G1 O<|G1 O<|E3 Nl O λgz0=>q8 (i:=0) (vs:= #[v19,.int .i64 (B.ix 0)]) (by kernel_rfl) O O (Kz hv19 rfl) O O<|E6 O<|A5 O<|C8<|C8 ?_;rotate_left;refine Wv (ι:=Unit) (λ_=>True) (λ_=>[(1,.pointer (some ⟨gj,0,none⟩)),(2,.bool false),(3,.pointer (some ⟨gz0,0,none⟩)),(34,.bool (decide (3000<G0/\G0<=100000)))]) (λ_=>[.B1 gz0 37 #[v19,.int .i64 (B.ix 0)],.row v19 ND 8 (N0 B 0).length (L2 (N0 B 0)),.B1 gj 33 (l0 s (O2 ls' vs F6 by' ks).toList q1 q2 G0).toArray]) ?_ (λ_ _=>?_)
  ·by_cases hg1:3000<G0
   ·rw[show decide (3000<G0/\G0<=100000)=decide (G0<=100000) from decide_eq_decide.2 ⟨λh=>h.2,λh=>⟨hg1,h⟩⟩];refine C5<|A4 O<|J3 O<|A4 O<|F9 25 false O (decide_eq_false (by omega))<|B3 O<|D9 O<|B3 O<|B9 (c7 2 O hgas) O<|B3 O<|Q7 O<|B3 O<|A4 O<|F9 29 true O (decide_eq_true (by omega))<|B3 O<|D9 O<|B3 O<|B9 (c7 2 O hgas) O<|B3 O<|Hp O<|B3 O<|K8 O<|G4 O<|A6 ?_;exact FK () trivial ⟨rfl,rfl,rfl,rfl,trivial⟩ O
   ·rw[decide_eq_false (show¬(3000<G0/\G0<=100000) from λh=>hg1 h.1)];refine C5<|A4 O<|J3 O<|A4 O<|F9 25 false O (decide_eq_false (by omega))<|B3 O<|D9 O<|B3 O<|B9 (c7 2 O hgas) O<|B3 O<|Q7 O<|B3 O<|A4 O<|F9 29 false O (decide_eq_false (by omega))<|D2 O<|D2 O<|D2 O<|B3 O<|G4 O<|G4 O<|A6 ?_;exact FK () trivial ⟨rfl,rfl,rfl,rfl,trivial⟩ O
  by_cases hgc:3000<G0/\G0<=100000
  ·exact E2<|E7 O (by exact hgc)<|A3<|F3 6 (A7 O) (λw ho=>hW ho.plain) O<|A5 O<|D4<|K0<|E4 O λw9 ho9=>⟨rfl,ho9.plain⟩
  refine CE (H':=[.B1 gz0 37 #[v19,.int .i64 (B.ix 0)],.B1 gj 33 (l0 s (O2 ls' vs F6 by' ks).toList q1 q2 G0).toArray,.row v19 ND 8 (N0 B 0).length (L2 (N0 B 0))]) (.cons _ (.swap ..)) ?_;have hjob:∀{w':B6},M0 w1 (λk=>k∈F1 [C2.B1 gj 33 (l0 src (O2 ls vs F6 by' ks).toList rv wv G0).toArray]) w'->Below w.heap.size w w'->MV w' ls' vs (Dj fs) q1 q2 ⟨d6 R,d6 V⟩:=λ{w'} hf hb=>by
   have hf':M0 w1 (λk=>k<w.heap.size\/k=gj) w':=M0.wide hf λk hk=>.inr (by simpa[F1,C2.blocks] using hk);have hg':Cr w':=⟨hG.Q8.K6 hb,hG.AB.K6 hb⟩
   exact⟨hg',⟨hg'.Q8,hT'.move hf' (λ_ _ h=>h.elim),hvs,wT⟩,lT hi,(hq1.move (B':=ES) hf' (λ_ _ h=>h.elim)).1,(hq2.move (B':=ES) hf' (λ_ _ h=>h.elim)).1,Zm R,Zm V⟩
  obtain⟨o,hoe,ho5,hO⟩:=pN hW1 hs vs (Dj fs) F6 by' ks G0 ⟨d6 R,d6 V⟩ hT'.l2 (lT hi);refine E2<|E0 O (by exact hgc)<|D6<|A3<|G6 0 O O<|W7 (ι:=Unit) [.B1 gz0 37 #[v19,.int .i64 (B.ix 0)],.B1 gj 33 (l0 s (O2 ls' vs F6 by' ks).toList q1 q2 G0).toArray] [.row v19 ND 8 (N0 B 0).length (L2 (N0 B 0))] (λ_=>.tuple #[.string (bs (tB B)),.int .i64 0]) (λ_=>[.row v19 ND 8 (N0 B 0).length (L2 (N0 B 0))]) O (A7 O) (λw ho1 ho=>(yB hW1 hs v19 w ⟨hG.Q8.K6 ho1.plain,hG.AB.K6 ho1.plain⟩ (ho1.up ⟨hG,λ_ h=>h.elim⟩).left ho).mono λe w' h=>⟨(),h⟩) O O λ_=>A4 O<|G1 O<|G1 O<|E6 O<|A5 O<|B5<|A4 O<|J3 O<|A6<|E0 O (by omega)<|D6<|A3<|B2 1 O<|D9 O<|B9 (o4 1 (0+1) ((O2 ls' vs F6 by' ks).toList) (by rw[hsl'];kernel_rfl) O (by rw[hsl'];exact hst)) O<|D9 O<|B9 (o4 1 (0+36) [q1,q2] (by kernel_rfl) O hwn) O<|D9 O<|B9 (c7 1 O hgas) O ?_;rotate_left;refine Ib (f:=8) (ι:=Int) (e:=ET) (sz:=4) (m:=o.es.length) (xs:=d3 o.es) (λp x=>.tuple #[.agg (Y2 o.c o.node o.v o.G0 x),.int .i64 o.err,.int .i64 p]) (A7 O) (λw ho=>(hO s hp ls' q1 q2 _ (hjob ho.base ho.plain)).mono λe w' h=>h) O O (λp52 v52=>IB (i:=0) O (λhv52=>?_));refine A4 O<|G1 O<|G1 O<|G1 O<|E3 FD O λgz0=>q8 (i:=0) (vs:=Y2 o.c o.node o.v o.G0 v52) (by kernel_rfl) O O (LB hv52) O O<|E6 O<|A5 O<|B4 O<|D9 O<|B9 (o4 3 (0+1) ((O2 ls' vs F6 by' ks).toList) (by rw[hsl'];kernel_rfl) O (by rw[hsl'];exact hst)) O<|D9 O<|B9 (o4 3 (0+36) [q1,q2] (by kernel_rfl) O hwn) O<|D9 O<|B9 (c7 3 O hgas) O ?_;rotate_left;obtain⟨o2,ho2,hO2⟩:∃o2:Xn,(o2=o\/(o2=⟨0,0,H4,0,[],5⟩/\o.err≠5/\4096<(tB B).length))/\∀{w':B6},MV w' ls' vs (Dj fs) q1 q2 ⟨d6 R,d6 V⟩->Calls prog 8 #[.string (bs (tB B)),.agg (O2 ls' vs F6 by' ks),.agg #[q1,q2],.int .i64 G0] w' (Vw o2 w'):=by
   by_cases hlen:(tB B).length<=4096
   ·exact⟨o,.inl rfl,λ{w'} h=>hO (tB B) (as1 hW1 hd hs htk hlen) ls' q1 q2 w' h⟩
   ·by_cases h5:o.err=5
    ·exact⟨⟨0,0,H4,0,[],5⟩,.inl (ho5 h5).symm,λ{w'} h=>bX (by omega) h⟩
    ·exact⟨⟨0,0,H4,0,[],5⟩,.inr ⟨rfl,h5,by omega⟩,λ{w'} h=>bX (by omega) h⟩
  rcases ho2 with rfl|⟨rfl,h5,hlen⟩
  ·refine Ib (f:=8) (ι:=Int) (e:=ET) (sz:=4) (m:=o2.es.length) (xs:=d3 o2.es) (λp x=>.tuple #[.agg (Y2 o2.c o2.node o2.v o2.G0 x),.int .i64 o2.err,.int .i64 p]) (A7 O) (λw ho=>(hO2 (hjob ho.base ho.plain)).mono λe w' h=>h) O O (λp64 v64=>IB (i:=0) O (λhv64=>?_));exact A4 O<|G1 O<|G1 O<|G1 O<|E3 FD O λgz0=>q8 (i:=0) (vs:=Y2 o2.c o2.node o2.v o2.G0 v64) (by kernel_rfl) O O (LB hv64) O O<|E6 O<|A5 O<|B5<|A4 O<|A4 O<|J3 O<|A6<|E0 O (by exact λh=>h rfl)<|D6<|A3<|G6 2 O O<|G6 0 O O<|F3 9 (A7 O) (λw ho=>oI o2.c o2.node o2.v o2.G0 v52 v64 o2.es w (B7.Qw (enc:=g9) (k:=4) (L:=o2.es) (q:=3) (λ_=>rfl) ho rfl) (B7.Qw (enc:=g9) (k:=4) (L:=o2.es) (q:=1) (λ_=>rfl) ho rfl) (by omega)) O<|A4 O<|B3 O<|F3 6 (A7 O) (λw ho=>hW ho.plain) O<|K8 O<|A5 O<|D4<|E4 O λw9 ho9=>⟨rfl,ho9.plain⟩
  ·refine Ib (f:=8) (ι:=Int) (e:=ET) (sz:=4) (m:=0) (xs:=[]) (λp x=>.tuple #[.agg (Y2 0 0 H4 0 x),.int .i64 5,.int .i64 p]) (A7 O) (λw ho=>(hO2 (hjob ho.base ho.plain)).mono λe w' h=>h) O O (λp64 v64=>IB (i:=0) O (λhv64=>?_));exact A4 O<|G1 O<|G1 O<|G1 O<|E3 FD O λgz0=>q8 (i:=0) (vs:=Y2 0 0 H4 0 v64) (by kernel_rfl) O O (LB hv64) O O<|E6 O<|A5 O<|B5<|A4 O<|A4 O<|J3 O<|A6<|E7 O (by exact h5)<|B4 O<|H5 O<|A4 O<|F9 73 true O (decide_eq_true (by omega))<|B3 O<|A4 O<|B3 O<|n4 O<|B3 O<|Q7 O<|K8 O<|A4 O<|F9 78 true O (decide_eq_true (by omega))<|B3 O<|F3 6 (A7 O) (λw ho=>hW ho.plain) O<|K8 O<|A5 O<|D4<|K0<|E4 O λw9 ho9=>⟨rfl,ho9.plain⟩
end
end Go.Proofs.YtjkhokkdgfbhcaaGreatDoor
namespace Go.Proofs.YtjkhokkdgfbhcaaGreatDoor
open Go.ChangeShapes Go.WideShapes Go.ChangeAt Go.RowKit
theorem Zo{H:Type}{enc:TypeId×Value->H}{P:Program}{W W':B6}(hl:laidOutB P=true)(hb:Below W.heap.size W W'):
  ∀{ts:List TypeId} {vs:H2} {ds:List (DataW H)} {p:List MemPlace},(ts.all λt=>P.readableRec t&&decide (t<P.types.size))=true->(∀x∈p,x.block<W.heap.size)->
   DataW.TrodAll enc P W 0 (λ_=>true) true ts vs ds p->DataW.TrodAll enc P W' 0 (λb=>decide (b<W.heap.size)) true ts vs ds p
 |[],_,_,_,_,_,h=>by
  obtain⟨rfl,rfl,rfl⟩:=trodAll_nil h;exact rfl
 |t::ts,_,_,_,hr,hp,h=>by
  obtain⟨v,vs1,d,ds1,a,b,rfl,rfl,rfl,h1,h2⟩:=trodAll_cons h;simp only[Pe,j1,decide_eq_true_eq] at hr;exact⟨a,b,Below.trod hl hr.1.1 hr.1.2 h1 hb (λx hx=>hp x (q0.2 (.inl hx))),Zo hl hb hr.2 (λx hx=>hp x (q0.2 (.inr hx))) h2,rfl⟩
end Go.Proofs.YtjkhokkdgfbhcaaGreatDoor
namespace Go.Proofs.YtjkhokkdgfbhcaaGreatDoor
open Go.ChangeShapes Go.WideShapes Go.ChangeAt Go.RowKit
theorem mR{H:Type}{enc:TypeId×Value->H}{C:Checked}{os:Os}{f:FuncId}{fn:Func}{s:ChangeSpec}{tb:TypeId}(laid:List (String×DataW Unit))
  (own:ownKnob C.prog.godebug=none)(started:os.Started)(noInit:C.prog.inits.idxOf? f=none)(hfn:C.prog.funcs[f]?=some fn)
  (hvars:s.vars=[])(hrt:fn.resultTypes= #[tb])(hbool:C.prog.underlying tb=some .bool)(hl:laidOutB C.prog=true)
  (hread:(fn.params.toList.all λt=>C.prog.readableRec t&&decide (t<C.prog.types.size))=true)
  (hspec:∀ds:List (DataW H),ds.length=fn.params.size->s.fn H ds={results:=[.lit (.bool true)],args:=ds})
  (witness:∃(w:B6) (tape:Tape) (i:Input),w.os=os/\(w.forCall tape i).Shaped C.prog/\i.vars=[]/\Input.okWide C.prog (w.forCall tape i) .any w.heap.size f i/\
   ((s.pre enc C.prog fn [] false (w.forCall tape i).memory i.args/\laidMetH C.prog laid (w.forCall tape i).memory)/\sizedMet enc C.prog fn (OpenSpec.ofChange s) false (w.forCall tape i).memory i.args)/\({}:Assume).holds C.prog (lone (Frame.enter C.prog f i.args .normal) [] (w.forCall tape i)))
  (walk:∀(W:B6) (base:Nat) (args:J2) (ds:List (DataW H)) (before:List MemPlace),
   (∀(j:Nat) t v,fn.params[j]?=some t->args[j]?=some v->Value.okWide C.prog W .any base t v)->
   DataW.TrodAll enc C.prog W 0 (λ_=>true) true fn.params.toList args.toList ds before->
   (DataW.weightsEach C.prog fn.params.toList ds).all (·<=reachBytes)=true->(∀x∈before,x.block<W.heap.size)->laidMetH C.prog laid W->W.ShapedOpen C.prog->
   Calls C.prog f args W λe W'=>e=.returned (.bool true)/\Below W.heap.size W W'):
  ReturnsInHanded {} C os f .any (λw args=>(s.pre enc C.prog fn [] false w args/\laidMetH C.prog laid w)/\sizedMet enc C.prog fn (OpenSpec.ofChange s) false w args) (s.post enc C.prog fn false true false false):=by
 refine returnsInHanded_of_calls own started noInit witness ?_;intro w tape i _ hsh _ hok hpre hholds;obtain⟨_,_,_,fn',hfn',_,_,_,_,hval⟩:=hok;have e:fn'=fn:=Fc (hfn'.symm.trans hfn);subst e;obtain⟨⟨⟨ds,gs,before,hw,hc⟩,hx⟩,hz⟩:=hpre;have hW:=DataW.Whole.of_heap (w':=w.forCall tape i) (by rfl) hw;have hsz:=hz.weights hw;have hx':laidMetH C.prog laid (w.forCall tape i):=laidMetH.of_heap (w:=(w.forCall tape i).memory) (by rfl) hx;clear hw hz hx;generalize w.heap.size=base at hval;generalize w.forCall tape i=W at*;generalize i.args=args at*;have key:Calls C.prog f args W λe W'=>∃v,e=.returned v/\s.post enc C.prog fn' false true false false W args v W':=by
  have hW':=hW;have hlt:∀p∈before,p.block<W.heap.size:=λp hp=>hW.lt p hp;obtain⟨p,q,hA,hV,hpq,_,_⟩:=hW;rw[hvars] at hV;obtain⟨rfl,rfl⟩:=trodVars_none hV;simp only[k5] at hpq;subst hpq;have hlen:ds.length=fn'.params.size:=by
   have:∀{ts:List TypeId} {vs:H2} {ds:List (DataW H)} {p:List MemPlace},DataW.TrodAll enc C.prog W 0 (λ_=>true) true ts vs ds p->ds.length=ts.length:=by
    intro ts
    induction ts with
    |nil=>intro vs ds p h;obtain⟨_,rfl,_⟩:=trodAll_nil h;rfl
    |cons t ts ih=>
     intro vs ds p h;obtain⟨v,vs1,d,ds1,a,b,rfl,rfl,rfl,_,h2⟩:=trodAll_cons h;simp[ih h2]
   simpa using this hA
  have hsz':(DataW.weightsEach C.prog fn'.params.toList ds).all (·<=reachBytes)=true:=by
   have e:s.plain.varTypes C.prog=[]:=by simp[ChangeSpec.plain,hvars,DataSpec.varTypes]
   have e2:(OpenSpec.ofChange s).bare.plain.varTypes C.prog=[]:=by simp[OpenSpec.ofChange,OpenSpec.bare,ChangeSpec.plain,hvars,DataSpec.varTypes]
   simpa[e,e2] using hsz
  refine(walk W base args ds before hval hA hsz' hlt hx' hsh).mono λe W' ⟨he,hb⟩=>⟨.bool true,he,?_⟩
  have hs:=hspec ds hlen;refine⟨ds,[],before,[],before,[],hW',?_,?_,?_,hb.frame _,λh=>by cases h⟩
  ·rw[k5,hs,hrt];exact trodAll_mk1 (shut_bool hbool true)
  ·rw[k5,hs];exact Zo hl hb hread hlt hA
  ·rw[k5,hs,hvars];rfl
 refine key.mono λe W' ⟨v,he,hp⟩=>?_;subst he;exact ChangeSpec.post_blind hp
end Go.Proofs.YtjkhokkdgfbhcaaGreatDoor
namespace Go.Proofs.YtjkhokkdgfbhcaaGreatDoor
open Go.ChangeShapes Go.WideShapes Go.ChangeAt Go.RowKit Go.ChangeMaps Go.Deep
theorem UA{α:Type}[Inhabited α]{p:Nat->α->Prop}{n:Nat}(h:∀i,i<n->∃a,p i a):∃f:Nat->α,∀i,i<n->p i (f i):=by
 classical
 exact⟨λi=>if hi:i<n then(h i hi).choose else default,λi hi=>by simp only[hi,dif_pos];exact(h i hi).choose_spec⟩
theorem yP{α:Type}{l:List α}(h:l.length=5):∃a b c d e,l=[a,b,c,d,e]:=by
 match l,h with
 |[a,b,c,d,e],_=>exact⟨a,b,c,d,e,rfl⟩
theorem Ze{α:Type}{l:List α}(h:l.length=3):∃a b c,l=[a,b,c]:=by
 match l,h with
 |[a,b,c],_=>exact⟨a,b,c,rfl⟩
section
variable{H:Type}{enc:TypeId×Value->H}{w:World}{base:Nat}{spare:Nat->Bool}{held:Bool}
theorem Qa{P:Program}{t:TypeId}{fs:Array Field}{fuel:Nat}{cs:H2}{x:DataW H×List MemPlace}(ht:P.underlying t=some (.struct fs))(h:DataW.trod enc P w base spare held fuel t cs=some x):
  ∃n,cs.length=P.cellsOf t/\∀(i:Nat) (f:Field),fs[i]?=some f->∃y,DataW.trod enc P w base spare held n f.type ((cs.drop f.offset).take (P.cellsOf f.type))=some y:=by
 obtain⟨xs,n,_,_,hl,hx,hf⟩:=DataW.trod_struct ht h;refine⟨n,hl,λi f hi=>?_⟩;have hlt:i<fs.size:=(T1.1 hi).1;exact⟨xs[i]'(by omega),by rw[hf i f hi,T8]⟩
set_option maxRecDepth 100000 in
theorem yH{fuel:Nat}{cs:H2}{x:DataW H×List MemPlace}(hf:DataW.trod enc Tryz.prog w base spare held fuel 45 cs=some x):
  ∃(k n:Int) (t:C9),cs=[.int .i64 k,.int .i64 n,.string (bs t)]/\r7 n:=by
 obtain⟨n,hl,h⟩:=Qa Tryz.underlying45 hf;have hC:Tryz.prog.cellsOf 45=3:=by kernel_rfl
 have hC1:Tryz.prog.cellsOf 9=1:=by kernel_rfl
 have hC2:Tryz.prog.cellsOf 3=1:=by kernel_rfl
 have hC4:Tryz.prog.cellsOf 2=1:=by kernel_rfl
 obtain⟨a,b,c,rfl⟩:=Ze (hl.trans hC);obtain⟨y0,g0⟩:∃y,DataW.trod enc Tryz.prog w base spare held n 3 (([a,b,c].drop 0).take (Tryz.prog.cellsOf 3))=some y:=h 0 _ rfl;obtain⟨y1,g1⟩:∃y,DataW.trod enc Tryz.prog w base spare held n 2 (([a,b,c].drop 1).take (Tryz.prog.cellsOf 2))=some y:=h 1 _ rfl;obtain⟨y2,g2⟩:∃y,DataW.trod enc Tryz.prog w base spare held n 9 (([a,b,c].drop 2).take (Tryz.prog.cellsOf 9))=some y:=h 2 _ rfl;simp only[hC1,hC2,hC4,IF,Uz,Rr,MF] at g0 g1 g2;obtain⟨k,e0,_,_⟩:=DataW.trod_int JF g0;obtain⟨m,e1,_,hw⟩:=DataW.trod_int Tryz.underlying2 g1;obtain⟨s,e2,_⟩:=DataW.trod_string Nn g2;simp only[Ki,and_true] at e0 e1 e2;subst e0 e1 e2;exact⟨k,m,s.data.toList,rfl,bounds_i64 hw⟩
set_option maxRecDepth 100000 in
theorem oH{fuel:Nat}{cs:H2}{x:DataW H×List MemPlace}(hf:DataW.trod enc Tryz.prog w base spare held fuel 118 cs=some x):
  ∃z:F5,cs=c6 z/\r7 z.num:=by
 obtain⟨n,hl,h⟩:=Qa Tryz.underlying118 hf;have hC:Tryz.prog.cellsOf 118=5:=by kernel_rfl
 have hC1:Tryz.prog.cellsOf 9=1:=by kernel_rfl
 have hC2:Tryz.prog.cellsOf 3=1:=by kernel_rfl
 have hC3:Tryz.prog.cellsOf 45=3:=by kernel_rfl
 obtain⟨a,b,c,d,e,rfl⟩:=yP (hl.trans hC);obtain⟨y0,g0⟩:∃y,DataW.trod enc Tryz.prog w base spare held n 9 (([a,b,c,d,e].drop 0).take (Tryz.prog.cellsOf 9))=some y:=h 0 _ rfl;obtain⟨y1,g1⟩:∃y,DataW.trod enc Tryz.prog w base spare held n 45 (([a,b,c,d,e].drop 1).take (Tryz.prog.cellsOf 45))=some y:=h 1 _ rfl;obtain⟨y2,g2⟩:∃y,DataW.trod enc Tryz.prog w base spare held n 3 (([a,b,c,d,e].drop 4).take (Tryz.prog.cellsOf 3))=some y:=h 2 _ rfl;simp only[hC1,hC2,hC3,IF,Uz,Rr,MF] at g0 g1 g2;obtain⟨s,e0,_⟩:=DataW.trod_string Nn g0;obtain⟨k,m,t,e1,hw⟩:=yH g1;obtain⟨v,e2,_,_⟩:=DataW.trod_int JF g2;simp only[Ki,and_true] at e0 e1 e2;obtain⟨rfl,rfl,rfl⟩:=e1;subst e0 e2;exact⟨⟨s.data.toList,k,m,t,v⟩,rfl,hw⟩
set_option maxRecDepth 100000 in
theorem ai8{fuel:Nat}{v:Value}{x:DataW H×List MemPlace}(hf:DataW.trod enc Tryz.prog w base spare held fuel 22 [v]=some x):
  ∃xs:List F5,BQ w v xs/\xs.length<=9223372036854775807/\∀x∈xs,r7 x.num:=by
 have hC:Tryz.prog.cellsOf 118=5:=by kernel_rfl
 rcases open_slice Tryz.underlying22 hf with⟨hc,_⟩|⟨a,len,cap,k,n,D,Pl,hc,_,hl,hm,hk,_,hV⟩
 ·simp only[Ki,and_true] at hc;exact⟨[],.inl ⟨hc,rfl⟩,by simp,by simp⟩
 ·simp only[Ki,and_true] at hc;subst hc;have hmk:len<=k:=by rw[hk];split<;>omega
  rw[hC] at hV;obtain⟨S,hS⟩:=UA (α:=F5) (p:=λi z=>(∀j u,(c6 z)[j]?=some u->w.cell? (a.add (i*5+j))=some u)/\r7 z.num) (n:=len) (λi hi=>by
   obtain⟨cs',hcs,ht⟩:=hV i (by omega);obtain⟨z,rfl,q⟩:=oH ht;obtain⟨_,_,hcell⟩:=World.cells?_some hcs;refine⟨z,λj u hu=>?_,q⟩;have hj:j<5:=by have:=(N5.1 hu).1;rwa[JK] at this
   have c0:=hcell j hj;rw[Deep.add_add] at c0;rw[c0,hu])
  have hsl:((List.range len).map S).length=len:=by simp
  refine⟨(List.range len).map S,.inr ⟨a,cap,by rw[hsl],by rw[hsl];exact hl,λj u hu=>?_⟩,by rw[hsl];simp only[maxLen] at hm;omega,λx hx=>?_⟩
  ·have hj:j<len*5:=by
    have:=(N5.1 hu).1;rwa[TH,hsl] at this
   have hq:j/5<len:=by omega
   have g:=TN ((List.range len).map S) (j/5) (by omega) (j%5) (by omega);rw[show j/5*5+j%5=j by omega,hu] at g;have e:((List.range len).map S)[j/5]'(by omega)=S (j/5):=by simp
   rw[e] at g;have:=(hS (j/5) hq).1 (j%5) u g.symm;rwa[show j/5*5+j%5=j by omega] at this
  ·obtain⟨i,hi,rfl⟩:=FC.1 hx;exact(hS i (j9.1 hi)).2
set_option maxRecDepth 100000 in
theorem aA9{fuel:Nat}{cs:H2}{x:DataW H×List MemPlace}(hf:DataW.trod enc Tryz.prog w base spare held fuel 26 cs=some x):
  ∃(ls:H2) (vs:List Int) (fs:List (List F5)),cs=ls++X2 vs/\Z6 w ES ls fs/\vs.length=16/\(∀i,(fs.getD i []).length<=9223372036854775807)/\∀i,∀x∈fs.getD i [],r7 x.num:=by
 obtain⟨n,hl,h⟩:=Qa Tryz.underlying26 hf;have hC:Tryz.prog.cellsOf 26=32:=by kernel_rfl
 have hC1:Tryz.prog.cellsOf 23=16:=by kernel_rfl
 have hC2:Tryz.prog.cellsOf 24=16:=by kernel_rfl
 have hC3:Tryz.prog.cellsOf 22=1:=by kernel_rfl
 have hC4:Tryz.prog.cellsOf 3=1:=by kernel_rfl
 have hcl:=hl.trans hC;obtain⟨y0,g0⟩:∃y,DataW.trod enc Tryz.prog w base spare held n 23 ((cs.drop 0).take (Tryz.prog.cellsOf 23))=some y:=h 0 _ rfl;obtain⟨y1,g1⟩:∃y,DataW.trod enc Tryz.prog w base spare held n 24 ((cs.drop 16).take (Tryz.prog.cellsOf 24))=some y:=h 1 _ rfl;simp only[hC1,hC2,IF] at g0 g1;have hl0:(cs.take 16).length=16:=by rw[ED];omega
 have hl1:((cs.drop 16).take 16).length=16:=by rw[ED,EB];omega
 obtain⟨xs0,m0,_,_,_,x0l,e0⟩:=DataW.trod_array Tryz.underlying23 g0;obtain⟨xs1,m1,_,_,_,x1l,e1⟩:=DataW.trod_array Tryz.underlying24 g1;obtain⟨S,hS⟩:=UA (α:=List F5) (p:=λi z=>BQ w ((cs.take 16).getD i undef) z/\z.length<=9223372036854775807/\∀x∈z,r7 x.num) (n:=16) (λi hi=>by
  have:=e0 i hi;rw[hC3,Pm,take1_drop _ i undef (by omega),T8 (by omega)] at this;exact ai8 this)
 obtain⟨Z,hZ⟩:=UA (α:=Int) (p:=λi z=>((cs.drop 16).take 16).getD i undef=.int .i64 z) (n:=16) (λi hi=>by
  have:=e1 i hi;rw[hC4,Pm,take1_drop _ i undef (by omega),T8 (by omega)] at this;obtain⟨z,q,_⟩:=DataW.trod_int JF this;simp only[Ki,and_true] at q;exact⟨z,q⟩)
 have hfs:∀i,i<16->((List.range 16).map S).getD i []=S i:=λi hi=>by
  rw[W6,Kj,List.getElem?_range hi];rfl
 have hfo:∀i,16<=i->((List.range 16).map S).getD i []=[]:=λi hi=>by
  rw[W6,Fa (by simp;omega)];rfl
 refine⟨cs.take 16,(List.range 16).map Z,(List.range 16).map S,?_,⟨hl0,by simp,λi hi=>⟨(cs.take 16).getD i undef,?_,?_,λ_ _ _ hn=>hn⟩⟩,by simp,λi=>?_,λi x hx=>?_⟩
 ·have e:X2 ((List.range 16).map Z)=cs.drop 16:=by
   apply List.ext_getElem
   ·simp[X2];omega
   ·intro i h1 h2;have hi:i<16:=by simpa[X2] using h1
    have:=hZ i hi;rw[W6,T8 (by omega)] at this;simp[X2] at this⊢;exact this.symm
  rw[e,FZ]
 ·rw[W6,T8 (by omega)];rfl
 ·rw[hfs i hi];exact(hS i hi).1
 ·by_cases hi:i<16
  ·rw[hfs i hi];exact(hS i hi).2.1
  ·rw[hfo i (by omega)];simp
 ·by_cases hi:i<16
  ·rw[hfs i hi] at hx;exact(hS i hi).2.2 x hx
  ·rw[hfo i (by omega)] at hx;simp at hx
structure kY(w:World)(ls:List Value)(vs:List Int)(fs:List (List F5)):Prop where
 t:Z6 w ES ls fs
 l:vs.length=16
 n:∀i,(fs.getD i []).length<=9223372036854775807
 i:∀i,∀x∈fs.getD i [],r7 x.num
set_option maxRecDepth 100000 in
theorem oE{fuel:Nat}{cs:H2}{x:DataW H×List MemPlace}(hf:DataW.trod enc Tryz.prog w base spare held fuel 28 cs=some x):
  ∃(ls:H2) (vs:List Int) (fs:List (List F5)) (F6 by' ks:Int),cs=(O2 ls vs F6 by' ks).toList/\kY w ls vs fs:=by
 obtain⟨n,hl,h⟩:=Qa Tryz.underlying28 hf;have hC:Tryz.prog.cellsOf 28=35:=by kernel_rfl
 have hC0:Tryz.prog.cellsOf 26=32:=by kernel_rfl
 have hC2:Tryz.prog.cellsOf 3=1:=by kernel_rfl
 have hcl:=hl.trans hC;obtain⟨y0,g0⟩:∃y,DataW.trod enc Tryz.prog w base spare held n 26 ((cs.drop 0).take (Tryz.prog.cellsOf 26))=some y:=h 0 _ rfl;obtain⟨y1,g1⟩:∃y,DataW.trod enc Tryz.prog w base spare held n 3 ((cs.drop 32).take (Tryz.prog.cellsOf 3))=some y:=h 1 _ rfl;obtain⟨y2,g2⟩:∃y,DataW.trod enc Tryz.prog w base spare held n 3 ((cs.drop 33).take (Tryz.prog.cellsOf 3))=some y:=h 2 _ rfl;obtain⟨y3,g3⟩:∃y,DataW.trod enc Tryz.prog w base spare held n 3 ((cs.drop 34).take (Tryz.prog.cellsOf 3))=some y:=h 3 _ rfl;simp only[hC0,hC2,IF] at g0 g1 g2 g3;obtain⟨ls,vs,fs,hcs,h1,h2,h3,h4⟩:=aA9 g0;rw[take1_drop _ _ undef (by omega)] at g1 g2 g3;obtain⟨F6,e1,_⟩:=DataW.trod_int JF g1;obtain⟨by',e2,_⟩:=DataW.trod_int JF g2;obtain⟨ks,e3,_⟩:=DataW.trod_int JF g3;simp only[Ki,and_true] at e1 e2 e3;refine⟨ls,vs,fs,F6,by',ks,?_,h1,h2,h3,h4⟩;have e:cs.drop 32=[Value.int .i64 F6,Value.int .i64 by',Value.int .i64 ks]:=by
  rw[<-e1,<-e2,<-e3];have h32:(cs.drop 32).length=3:=by rw[EB];omega
  obtain⟨a,b,c,habc⟩:=Ze h32;have q:∀j,cs.getD (32+j) undef=[a,b,c].getD j undef:=λj=>by
   rw[<-habc,W6,W6,List.getElem?_drop]
  rw[habc,q 0,q 1,q 2];rfl
 unfold O2;rw[CR,<-hcs,<-e,FZ]
set_option maxRecDepth 100000 in
theorem mC{fuel:Nat}{v:Value}{x:DataW H×List MemPlace}(hf:DataW.trod enc Tryz.prog w base spare held fuel 29 [v]=some x):
  ∃L:List (List UInt8),T7 w v (D1 L)/\L.length<=9223372036854775807:=by
 have hC:Tryz.prog.cellsOf 9=1:=by kernel_rfl
 rcases open_slice1 Tryz.underlying29 hC hf with⟨hc,_⟩|⟨a,len,cap,k,n,V,D,Pl,hc,_,hl,hm,hk,_,hV⟩
 ·simp only[Ki,and_true] at hc;exact⟨[],.inl ⟨hc,rfl⟩,by simp⟩
 ·simp only[Ki,and_true] at hc;subst hc;have hmk:len<=k:=by rw[hk];split<;>omega
  obtain⟨S,hS⟩:=UA (α:=List UInt8) (p:=λi s=>V i=.string (bs s)) (n:=len) (λi hi=>by
   obtain⟨s,hs,_⟩:=DataW.trod_string Nn (hV i (by omega)).2;simp only[Ki,and_true] at hs;exact⟨s.data.toList,hs⟩)
  refine⟨(List.range len).map S,.inr ⟨a,cap,by simp[D1],by simp[D1];exact hl,λj u hu=>?_⟩,by simp only[maxLen] at hm;simp;omega⟩;have hj:j<len:=by
   have:=(N5.1 hu).1;simpa[D1] using this
  rw[(hV j (by omega)).1,hS j hj];rw[<-hu];simp[D1,hj]
theorem yO{α:Type}{l:List α}(h:l.length=2):∃a b,l=[a,b]:=by
 match l,h with
 |[a,b],_=>exact⟨a,b,rfl⟩
set_option maxRecDepth 100000 in
theorem aq4{fuel:Nat}{cs:H2}{x:DataW H×List MemPlace}(hf:DataW.trod enc Tryz.prog w base spare held fuel 31 cs=some x):
  ∃(a b:Value) (R V:List (List UInt8)),cs=[a,b]/\(T7 w a (D1 R)/\R.length<=9223372036854775807)/\T7 w b (D1 V)/\V.length<=9223372036854775807:=by
 obtain⟨y0,y1,n,_,hl,h0,h1⟩:=trod_struct2 Tryz.underlying31 hf;have hC:Tryz.prog.cellsOf 31=2:=by kernel_rfl
 have hC1:Tryz.prog.cellsOf 29=1:=by kernel_rfl
 obtain⟨a,b,rfl⟩:=yO (hl.trans hC);rw[hC1] at h0 h1;simp only[IF,Uz,Rr,MF] at h0 h1;obtain⟨R,hR⟩:=mC h0;obtain⟨V,hV⟩:=mC h1;exact⟨a,b,R,V,rfl,hR,hV⟩
set_option maxRecDepth 100000 in
theorem ac2{r:Reach}{b0:Nat}{v:Value}{d:DataW H}{p:List MemPlace}(hv:Value.okWide Tryz.prog w r b0 33 v)(h:DataW.Trod enc Tryz.prog w base spare held 33 v d p):
  ∃(src:C9) (ls:H2) (vs:List Int) (fs:List (List F5)) (F6 by' ks G0:Int) (a b:Value) (R V:List (List UInt8)),v=.agg (l0 src (O2 ls vs F6 by' ks).toList a b G0).toArray/\kY w ls vs fs/\(T7 w a (D1 R)/\R.length<=9223372036854775807)/\T7 w b (D1 V)/\V.length<=9223372036854775807:=by
 obtain⟨cs,rfl,hsz⟩:=okWide_struct Tryz.underlying33 hv;obtain⟨fuel,hf⟩:=h;obtain⟨n,hl,h⟩:=Qa Tryz.underlying33 (show DataW.trod enc Tryz.prog w base spare held fuel 33 cs.toList=some _ from hf);have hC:Tryz.prog.cellsOf 33=39:=by kernel_rfl
 have hC0:Tryz.prog.cellsOf 28=35:=by kernel_rfl
 have hC1:Tryz.prog.cellsOf 9=1:=by kernel_rfl
 have hC2:Tryz.prog.cellsOf 31=2:=by kernel_rfl
 have hC3:Tryz.prog.cellsOf 3=1:=by kernel_rfl
 have hcl:=hl.trans hC;obtain⟨l,hl0⟩:∃l,cs.toList=l:=⟨_,rfl⟩
 rw[hl0] at hl h hcl;obtain⟨y0,g0⟩:∃y,DataW.trod enc Tryz.prog w base spare held n 9 ((l.drop 0).take (Tryz.prog.cellsOf 9))=some y:=h 0 _ rfl;obtain⟨y1,g1⟩:∃y,DataW.trod enc Tryz.prog w base spare held n 28 ((l.drop 1).take (Tryz.prog.cellsOf 28))=some y:=h 1 _ rfl;obtain⟨y2,g2⟩:∃y,DataW.trod enc Tryz.prog w base spare held n 31 ((l.drop 36).take (Tryz.prog.cellsOf 31))=some y:=h 2 _ rfl;obtain⟨y3,g3⟩:∃y,DataW.trod enc Tryz.prog w base spare held n 3 ((l.drop 38).take (Tryz.prog.cellsOf 3))=some y:=h 3 _ rfl;simp only[hC0,hC1,hC2,hC3] at g0 g1 g2 g3;obtain⟨s,e0,_⟩:=DataW.trod_string Nn g0;obtain⟨ls,vs,fs,F6,by',ks,e1,h1⟩:=oE g1;obtain⟨a,b,R,V,e2,h2⟩:=aq4 g2;obtain⟨G0,e3,_⟩:=DataW.trod_int JF g3;refine⟨s.data.toList,ls,vs,fs,F6,by',ks,G0,a,b,R,V,?_,h1,h2⟩;have q1:l.take 1++l.drop 1=l:=FZ 1 l;have q2:(l.drop 1).take 35++l.drop 36=l.drop 1:=by
  have:=FZ 35 (l.drop 1);rw[JB] at this;exact this
 have q3:(l.drop 36).take 2++l.drop 38=l.drop 36:=by
  have:=FZ 2 (l.drop 36);rw[JB] at this;exact this
 have q4:(l.drop 38).take 1=l.drop 38:=CQ (by rw[EB];omega);rw[IF] at e0;have e:l=l0 s.data.toList (O2 ls vs F6 by' ks).toList a b G0:=by
  rw[<-q1,e0,<-q2,e1,<-q3,e2,<-q4,e3];rfl
 congr 1;apply Array.ext';rw[hl0];exact e
end
end Go.Proofs.YtjkhokkdgfbhcaaGreatDoor
namespace Go.Proofs.YtjkhokkdgfbhcaaGreatDoor
open Go.ChangeShapes Go.WideShapes Go.ChangeAt Go.RowKit
abbrev HM:List (String×DataW Unit):=Rows.plenumPrintedRow.laid
def TS(n:String):String×DataW Unit->Bool:=λx=>x.1==n
theorem own:ownKnob Tryz.prog.godebug=none:=by kernel_rfl
theorem tX:laidOutB Tryz.prog=true:=by kernel_rfl
theorem aj6{W:B6}(h:laidMetH Tryz.prog HM W):FU W:=by
 rw[MakeChecks.laidMetH_plain _ _ _ (by kernel_rfl)] at h;have h1:=h.filter (TS "internal/strconv.uint64pow10");rw[show HM.filter (TS "internal/strconv.uint64pow10")=[("internal/strconv.uint64pow10",Lib.tabData .u64 Lib.pow10Tab)] by kernel_rfl] at h1;exact Lib.tabIs_of_head (g:=2) (by kernel_rfl) (t:=249) (by kernel_rfl) Tryz.underlying249 Ro (by kernel_rfl) (by kernel_rfl) h1
set_option maxRecDepth 100000 in
theorem ah5{W:B6}(h:laidMetH Tryz.prog HM W):j0 W:=by
 rw[MakeChecks.laidMetH_plain _ _ _ (by kernel_rfl)] at h;have h1:=h.filter (TS "plenum/key.signs");rw[show HM.filter (TS "plenum/key.signs")=[("plenum/key.signs",Rows.laid_plenum_key_signs)] by kernel_rfl] at h1;obtain⟨ps,⟨g,t,cs,fuel,p,q,hg,ht,hv,hd,_,_⟩,_,_⟩:=h1;obtain rfl:=Fc ((show Tryz.prog.globalNamed "plenum/key.signs" =some 0 by kernel_rfl).symm.trans hg);obtain rfl:=Fc ((show(Tryz.prog.globals[0]?).map (·.type)=some 224 by kernel_rfl).symm.trans ht);obtain⟨xs,m,_,ex,_,hl,hel⟩:=DataW.trod_array Tryz.underlying224 hd;have c5:Tryz.prog.cellsOf 175=1:=by kernel_rfl
 have ex1:=DataW.agg.inj (C1 ex).1
 match xs,hl,ex1 with
 |[x0,x1],_,ex1=>
  have h0:=hel 0 (by omega);have h1:=hel 1 (by omega);rw[c5] at h0 h1;obtain⟨z0,e1,e2,_⟩:=DataW.trod_int Ro h0;obtain⟨z1,f1,f2,_⟩:=DataW.trod_int Ro h1;simp at e1 f1 e2 f2;simp[e2,f2] at ex1;obtain⟨rfl,rfl⟩:=ex1;constructor
  ·rw[World.var?_cell hg hv 0];have:cs.toList[0]?=some (.int .u64 288195191779622912):=by
    have:=congrArg (λl=>l[0]?) e1;simpa using this
   simpa using this
  ·rw[World.var?_cell hg hv 1];have:cs.toList[1]?=some (.int .u64 576460745860972544):=by
    have:=congrArg (λl=>l[0]?) f1;simpa using this
   simpa using this
theorem vR{W:B6}(h:laidMetH Tryz.prog HM W):Cr W:=⟨ah5 h,aj6 h⟩
theorem sD(os:Os)(args:J2):laidMetH Tryz.prog HM ((World.laidAll Tryz.prog os HM).forCall (λ_ _=>0) ⟨#[],args,[]⟩).memory:=by
 rw[MakeChecks.laidMetH_plain _ _ _ (by kernel_rfl)];exact laidMet_laidAll _ (by kernel_rfl) (by kernel_rfl)
end Go.Proofs.YtjkhokkdgfbhcaaGreatDoor
namespace Go.Proofs.YtjkhokkdgfbhcaaGreatDoor
open Go.ChangeShapes Go.WideShapes Go.ChangeAt Go.RowKit Go.ChangeMaps
set_option maxRecDepth 100000 in
theorem az2(os:Os)(started:os.Started)(H:Type)(enc:TypeId×Value->H):
  ReturnsInHanded {} Tryz.checked os 3 .any (λw args=>(Rows.plenumPrintedSpec.pre enc Tryz.prog Tryz.f3 Rows.plenumPrintedRow.domain false w args/\laidMetH Tryz.prog HM w)/\sizedMet enc Tryz.prog Tryz.f3 (OpenSpec.ofChange Rows.plenumPrintedSpec) false w args) (Rows.plenumPrintedSpec.post enc Tryz.prog Tryz.f3 false true false false):=by
 refine mR (C:=Tryz.checked) HM own started (by kernel_rfl) Tryz.func3 rfl (by kernel_rfl) YK tX (by kernel_rfl) ?_
  (ChangeSpec.witness_shaped (enc:=enc) (C:=Tryz.checked) (os:=os) (X:=λw _=>laidMetH Tryz.prog HM w) false (World.laidAll Tryz.prog os HM) #[.agg #[.string ⟨#[]⟩,.slice none 0 0,.slice none 0 0,.slice none 0 0,.slice none 0 0,.slice none 0 0,.slice none 0 0,.slice none 0 0,.slice none 0 0,.slice none 0 0,.slice none 0 0,.slice none 0 0,.slice none 0 0,.slice none 0 0,.slice none 0 0,.slice none 0 0,.slice none 0 0,.int .i64 0,.int .i64 0,.int .i64 0,.int .i64 0,.int .i64 0,.int .i64 0,.int .i64 0,.int .i64 0,.int .i64 0,.int .i64 0,.int .i64 0,.int .i64 0,.int .i64 0,.int .i64 0,.int .i64 0,.int .i64 0,.int .i64 0,.int .i64 0,.int .i64 0,.slice none 0 0,.slice none 0 0,.int .i64 0]] 8 (World.laidAll_os _ _ _)
   (World.shaped_of_ZipB (by kernel_rfl) (by kernel_rfl)) (by kernel_rfl) (by kernel_rfl) (by kernel_rfl) (sD os _)) ?_
 ·intro ds h
  match ds,h with
  |[_],_=>rfl
 ·intro W base args ds before hval0 hA0 _ _ hL hsh;have hval:∀(j:Nat) t v,Tryz.f3.params[j]?=some t->args[j]?=some v->Value.okWide Tryz.prog W .any base t v:=hval0;have hA:DataW.TrodAll enc Tryz.prog W 0 (λ_=>true) true Tryz.f3.params.toList args.toList ds before:=hA0;rw[Tryz.params3] at hA hval;obtain⟨v0,d0,rfl,rfl,h0⟩:=trodAll_one hA;obtain⟨src,ls,vr,fs,F6,by',ks,G0,rv,wv,R,V,rfl,hI,hR,hV⟩:=ac2 (hval 0 33 v0 rfl rfl) h0;exact au9 src ls vr fs F6 by' ks G0 rv wv R V W (vR hL) hI.t hI.l hI.n hI.i hR.1 hV.1 hR.2 hV.2
theorem am8:Rows.PlenumPrintedSaid:=
 OpenClaim.holds_of_wide 3 Tryz.f3 rfl rfl rfl rfl rfl rfl rfl ⟨rfl,rfl,rfl,rfl,rfl⟩ rfl rfl rfl rfl rfl (by kernel_rfl) Tryz.func3 (by kernel_rfl)
  (of_decide_eq_true (by kernel_rfl)) (by unfold Func.isWrapper;rw[if_neg (of_decide_eq_false (by kernel_rfl))];exact⟨rfl,rfl⟩)
  (λos started H enc _=>az2 os started H enc)
theorem plenumPrinted_holds:Rows.PlenumPrintedCardSaid:=
 Claim7.holds_tied_plain_at .later [] [.data,.data,.data,.data] true (true, "98c42f4658ad200887645d2285acff198646d67806319f9628836968e96f4731") true
  am8 (λ_ h=>by cases h) (by kernel_rfl) (λ_ h=>by cases h) plenumPrinted_row_tie rfl ⟨rfl,rfl⟩ (by kernel_rfl) rfl
  (λf fn hf hfn=>by
   obtain rfl:f=3:=Fc ((show Tryz.prog.funcNamed Tryz.f3.name=some 3 by kernel_rfl).symm.trans hf)|>.symm;obtain rfl:fn=Tryz.f3:=(Fc (Tryz.func3.symm.trans hfn)).symm;exact⟨by kernel_rfl,λj t ht=>by
    rw[Tryz.params3] at ht;have hm:t∈[33]:=by simpa using Array.mem_of_getElem? ht
    have hall:([33].all λu=> !Tryz.prog.wantsStandIn u)=true:=by kernel_rfl
    exact(show Tryz.prog.wantsStandIn t=false by simpa using f5.1 hall t hm)⟩)
  (by kernel_rfl)
#print axioms plenumPrinted_holds
end Go.Proofs.YtjkhokkdgfbhcaaGreatDoor
