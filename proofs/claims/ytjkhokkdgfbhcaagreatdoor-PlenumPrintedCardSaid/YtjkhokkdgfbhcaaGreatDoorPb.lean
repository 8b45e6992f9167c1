/-
  Part 2 of what the proof of PlenumPrinted stands on: laws of walks, contracts of functions, plain laws. No condition of its own.
-/
import Derived.Deep.LoopGhost
import Derived.TacticsIn
import Derived.RecoverIn
import Derived.Lib.ItoaMem
import Derived.Test.YtjkhokkdgfbhcaaGreatDoorPa
set_option linter.defProp false
set_option linter.unusedSectionVars false
set_option linter.unusedSimpArgs false
set_option linter.unusedVariables false
set_option linter.deprecated false
set_option maxHeartbeats 16000000
namespace Go.Proofs.YtjkhokkdgfbhcaaGreatDoor
open Go.RowKit Tryz
section
attribute [local irreducible] F8 D3 Exit.then Exit.inBlock Exit.noGoto wpQuiet Calls fin At G9 L3 L7 RQ
def Ch(c:UInt8):UInt8:=if c=34\/c=92 then c else if c=110 then 10 else 0
theorem sL(c:UInt8):NF (c.toNat:Int)=((Ch c).toNat:Int):=by
 have h1:(c.toNat:Int)=34↔c=34:=⟨λh=>Fx (k:=34) h (by decide),λh=>by subst h;rfl⟩
 have h2:(c.toNat:Int)=92↔c=92:=⟨λh=>Fx (k:=92) h (by decide),λh=>by subst h;rfl⟩
 have h3:(c.toNat:Int)=110↔c=110:=⟨λh=>Fx (k:=110) h (by decide),λh=>by subst h;rfl⟩
 simp only[NF,Ch,h1,h2,h3];split
 ·rfl
 ·split<;>rfl
def Ak:List UInt8->List UInt8->Nat->G8×Int×Nat
 |[],_,k=>(default,2,k)
 |b::r,acc,k=>
  if b=34 then(if 64<acc.length then(default,5,k+1) else(⟨3,0,acc,0⟩,0,k+1))
  else if b<32\/126<b then(default,3,k)
  else if b≠92 then Ak r (acc++[b]) (k+1)
  else match r with
   |[]=>(default,2,k+1)
   |c::r2=>if Ch c=0 then(default,3,k+1) else Ak r2 (acc++[Ch c]) (k+2)
theorem LQ(b:UInt8)(r acc:List UInt8)(k:Nat):Ak (b::r) acc k=(if b=34 then(if 64<acc.length then(default,5,k+1) else(⟨3,0,acc,0⟩,0,k+1))
  else if b<32\/126<b then(default,3,k)
  else if b≠92 then Ak r (acc++[b]) (k+1)
  else match r with
   |[]=>(default,2,k+1)
   |c::r2=>if Ch c=0 then(default,3,k+1) else Ak r2 (acc++[Ch c]) (k+2)):=by
 rw[Ak.eq_def]
theorem IY:Pr BT 2 0:=⟨by kernel_rfl⟩
abbrev B0(gz1:Nat)(cs:Array Value)(v:Value)(acc:List UInt8):List C2:=[.B1 gz1 BT cs,.row v U8 1 acc.length (Z3 acc)]
theorem ag2(g n:Nat)(s:C9)(lv:Value)(w:B6)(hn:n<s.length)(hs:s.length<=5000)(hlv:lv.oneCell'=true)(ho:B7 (J1 w [lexB g s n lv]) [lexB g s n lv] w):
  Calls prog 48 #[.pointer (some ⟨g,0,none⟩)] w λe w'=>e=.returned (.tuple #[By (Ak (s.drop (n+1)) [] (n+1)).1,.int .i64 (Ak (s.drop (n+1)) [] (n+1)).2.1])/\O0 w (λk=>k∈F1 [lexB g s n lv]) [lexB g s (Ak (s.drop (n+1)) [] (n+1)).2.2 lv] w':=by
 refine G7 ho func48 O ntmps48 O ?_;obtain⟨X,hX⟩:∃X,Ak (s.drop (n+1)) [] (n+1)=X:=⟨_,rfl⟩
 rw[hX];unfold lexB at*;refine A3<|E3 W9 O λgz0=>A5 O<|A3<|E3 Tryz.zeroValue64 O λgz1=>A6<|B5<|A4 O<|E5 O<|B2 2 O<|N6 O (by omega)<|E5 O<|D9 O<|N4 2 O<|A6<|C7 ?_;rotate_left;refine l9 (σ:=Nat×List UInt8×Value×Array Value) (λq=>q.1<=s.length/\q.2.1.length<=q.1/\Ak (s.drop q.1) q.2.1 q.1=X/\Dx q.2.2.2 gz1 0 q.2.2.1/\q.2.2.2.size=2/\(q.2.1≠[]\/q.2.2.1=.slice none 0 0)) (λq=>[(0,.pointer (some ⟨g,0,none⟩)),(2,.pointer (some ⟨gz0,0,none⟩)),(4,.pointer (some ⟨gz1,0,none⟩))]) (λq=>[.B1 gz1 BT q.2.2.2,.row q.2.2.1 U8 1 q.2.1.length (Z3 q.2.1),.B1 gz0 TK (K9 default).toArray,.B1 g LX #[.string (bs s),.int .i64 q.1,lv]]) (λq=>s.length-q.1)
  (λw ho=>⟨(n+1,[],.slice none 0 0,#[.pointer none,.slice none 0 0]),⟨by omega,by simp,hX,⟨.inl rfl,rfl⟩,rfl,.inr rfl⟩,⟨rfl,rfl,rfl,trivial⟩,(ho.Vv U8 1).perm (List.Perm.swap ..)⟩) ?_
 rintro⟨m,acc,v,cs⟩ ⟨hm,hacc,hR,hb,hsz,hne⟩;dsimp only at hm hacc hR hb hsz hne⊢;have hsl:s.length-m<=5000:=by omega
 by_cases hml:m<s.length
 ·obtain⟨b,hdr,hby⟩:=Jm hml;have hbU:(b.toNat:Int)=J6 s m:=hby.symm;have hb0:b=s.getD m 0:=by
   apply Rk.1;have:(b.toNat:Int)=((s.getD m 0).toNat:Int):=hbU;omega
  rw[hdr] at hR;by_cases h34:J6 s m=34
  ·have:b=34:=Fx (k:=34) (by omega) (by decide);subst this;rw[LQ,if_pos rfl] at hR;by_cases h64:64<acc.length
   ·rw[if_pos h64] at hR;subst hR;refine C8<|C8<|R2 (by kernel_rfl)<|G3 O<|K2 O<|I1 O<|J4 3 O<|G3 O<|K2 O<|I1 O<|J4 3 O<|t8 O<|AD O<|R4<|E2<|E7 O (by omega)<|D6<|C8<|CN<|R2 (by kernel_rfl)<|G3 O<|K2 O<|I1 O<|J4 3 O<|G3 O<|K2 O<|I1 O<|J4 3 O<|AX O (by omega)<|o6 O<|R4<|E2<|C8<|C7<|B4 O<|Q9 O (by exact h34)<|B4 O<|E5 O<|B2 3 O<|N6 O (by omega) ?_;exact E5 O<|D9 O<|N4 3 O<|A6<|B5<|Dg (ι:=Unit) (f:=97) (H0:=B0 gz1 cs v acc) (R:=[.B1 gz0 TK (K9 default).toArray,.B1 g LX #[.string (bs s),.int .i64 (m+1:Int),lv]]) (λ_=>.int .i64 acc.length) (λ_=>B0 gz1 cs v acc) O (A7 O) (λw _ ho=>(eO gz1 0 BT cs v acc w hb ho).mono λe w3 h=>⟨(),h⟩) O O λ_=>Q7 O<|A6<|E7 O (by omega)<|A3<|B9 (O7 (K9 default) Cz O) O<|E8 2 ((K9 default).toArray) O<|A5 O<|D4<|K0<|U3<|U3<|K0<|U3<|O5 2 O λw9 ho9=>⟨rfl,_,_,ho9.sublist (.cons _ (.cons _ (.cons _ (Q5 _))))⟩
   ·rw[if_neg h64] at hR;subst hR;refine C8<|C8<|R2 (by kernel_rfl)<|G3 O<|K2 O<|I1 O<|J4 3 O<|G3 O<|K2 O<|I1 O<|J4 3 O<|t8 O<|AD O<|R4<|E2<|E7 O (by omega)<|D6<|C8<|CN<|R2 (by kernel_rfl)<|G3 O<|K2 O<|I1 O<|J4 3 O<|G3 O<|K2 O<|I1 O<|J4 3 O<|AX O (by omega)<|o6 O<|R4<|E2<|C8<|C7<|B4 O<|Q9 O (by exact h34)<|B4 O<|E5 O<|B2 3 O<|N6 O (by omega) ?_;exact E5 O<|D9 O<|N4 3 O<|A6<|B5<|Dg (ι:=Unit) (f:=97) (H0:=B0 gz1 cs v acc) (R:=[.B1 gz0 TK (K9 default).toArray,.B1 g LX #[.string (bs s),.int .i64 (m+1:Int),lv]]) (λ_=>.int .i64 acc.length) (λ_=>B0 gz1 cs v acc) O (A7 O) (λw _ ho=>(eO gz1 0 BT cs v acc w hb ho).mono λe w3 h=>⟨(),h⟩) O O λ_=>Q7 O<|A6<|E0 O (by omega)<|D6<|A3<|Dg (ι:=Unit) (f:=16) (H0:=B0 gz1 cs v acc) (R:=[.B1 gz0 TK (K9 default).toArray,.B1 g LX #[.string (bs s),.int .i64 (m+1:Int),lv]]) (λ_=>.string (bs acc)) (λ_=>[.B1 gz1 BT cs]) O (A7 O) (λw _ ho=>(SV gz1 0 BT cs v acc w hb (by omega) hne ho).mono λe w3 h=>⟨(),h⟩) O O λ_=>B9 (O7 (K9 ⟨3,0,acc,0⟩) Cz O) O<|E8 1 ((K9 ⟨3,0,acc,0⟩).toArray) O<|A5 O<|K3<|U3<|K0<|U3<|O5 1 O λw9 ho9=>⟨rfl,_,_,ho9.sublist (.cons _ (.cons _ (Q5 _)))⟩
  ·have n34:b≠34:=λh=>h34 (by rw[hby,h];rfl);rw[LQ,if_neg n34] at hR;by_cases hlo:J6 s m<32
   ·rw[if_pos (.inl (ME.2 (by show b.toNat<32;omega)))] at hR;subst hR;refine C8<|C8<|R2 (by kernel_rfl)<|G3 O<|K2 O<|I1 O<|J4 3 O<|G3 O<|K2 O<|I1 O<|J4 3 O<|t8 O<|AD O<|R4<|E2<|E7 O (by omega)<|D6<|C8<|CN<|R2 (by kernel_rfl)<|G3 O<|K2 O<|I1 O<|J4 3 O<|G3 O<|K2 O<|I1 O<|J4 3 O<|AX O (by omega)<|o6 O<|R4<|E2<|C8<|C7<|B4 O<|C3 O (by assumption)<|B4 O<|H9 O<|A4 O<|F9 57 true O (decide_eq_true (by exact hlo)) ?_;exact D2 O<|D2 O<|K8 O<|A5 O<|R1 O<|A3<|B9 (O7 (K9 default) Cz O) O<|E8 2 ((K9 default).toArray) O<|A5 O<|K3<|U3<|K0<|U3<|O5 2 O λw9 ho9=>⟨rfl,_,_,ho9.sublist (.cons _ (.cons _ (.cons _ (Q5 _))))⟩
   by_cases hhi:126<J6 s m
   ·rw[if_pos (.inr (ME.2 (by show 126<b.toNat;omega)))] at hR;subst hR;refine C8<|C8<|R2 (by kernel_rfl)<|G3 O<|K2 O<|I1 O<|J4 3 O<|G3 O<|K2 O<|I1 O<|J4 3 O<|t8 O<|AD O<|R4<|E2<|E7 O (by omega)<|D6<|C8<|CN<|R2 (by kernel_rfl)<|G3 O<|K2 O<|I1 O<|J4 3 O<|G3 O<|K2 O<|I1 O<|J4 3 O<|AX O (by omega)<|o6 O<|R4<|E2<|C8<|C7<|B4 O<|C3 O (by assumption)<|B4 O<|H9 O<|A4 O<|F9 57 false O (decide_eq_false (by exact hlo)) ?_;exact B3 O<|A4 O<|B3 O<|Q7 O<|G4 O<|A5 O<|E7 O (by assumption)<|A3<|B9 (O7 (K9 default) Cz O) O<|E8 2 ((K9 default).toArray) O<|A5 O<|K3<|U3<|K0<|U3<|O5 2 O λw9 ho9=>⟨rfl,_,_,ho9.sublist (.cons _ (.cons _ (.cons _ (Q5 _))))⟩
   rw[if_neg (λh=>h.elim (λh=>hlo (by have:b.toNat<32:=ME.1 h;omega)) (λh=>hhi (by have:126<b.toNat:=ME.1 h;omega)))] at hR;by_cases h92:J6 s m=92
   ·have:b=92:=Fx (k:=92) (by omega) (by decide);subst this;rw[if_neg (by simp)] at hR;by_cases hm1:m+1<s.length
    ·obtain⟨c,hdr1,hby1⟩:=Jm hm1;rw[hdr1] at hR;have hcU:(c.toNat:Int)=J6 s (m+1):=hby1.symm;have hesc:=sL c;have cE:∀{w'},I6 99 #[.int .u8 (J6 s (m+1))] w' (.int .u8 ((Ch c).toNat:Int)):=λ{w'}=>by
      have:=sO (c.toNat:Int) w';rw[hesc] at this;rw[<-hcU];exact this
     by_cases he:Ch c=0
     ·have hR':((default,3,m+1):G8×Int×Nat)=X:=by rw[<-hR];simp[he]
      subst hR';have he0:((Ch c).toNat:Int)=0:=by rw[he];rfl
      refine C8<|C8<|R2 (by kernel_rfl)<|G3 O<|K2 O<|I1 O<|J4 3 O<|G3 O<|K2 O<|I1 O<|J4 3 O<|t8 O<|AD O<|R4<|E2<|E7 O (by omega)<|D6<|C8<|CN<|R2 (by kernel_rfl)<|G3 O<|K2 O<|I1 O<|J4 3 O<|G3 O<|K2 O<|I1 O<|J4 3 O<|AX O (by omega)<|o6 O<|R4<|E2<|C8<|C7<|B4 O<|C3 O (by assumption)<|B4 O<|H9 O<|A4 O<|F9 57 false O (decide_eq_false (by exact hlo)) ?_;refine B3 O<|A4 O<|B3 O<|Q7 O<|G4 O<|A5 O<|E0 O (by assumption)<|B4 O<|J3 O<|A5 O<|C4 O (λz0=>?_) (λz0=>?_);contradiction;refine P5<|F4<|E2<|B4 O<|E5 O<|B2 3 O<|N6 O (by omega)<|E5 O<|D9 O<|N4 3 O<|A6<|C8<|C8<|R2 (by kernel_rfl)<|G3 O<|K2 O<|I1 O<|J4 3 O<|G3 O<|K2 O<|I1 O<|J4 3 O<|t8 O<|Nb O<|R4<|E2<|E0 O (by omega)<|D6<|C8<|R2 (by kernel_rfl)<|G3 O<|K2 O<|I1 O<|J4 3 O<|G3 O<|K2 O<|I1 O<|J4 3 O<|AX O (by omega)<|EE (f:=99) (A7 O) (λw ho=>cE) O O ?_;exact o6 O<|R4<|E2<|B5<|A4 O<|H5 O<|A6<|E7 O (by omega)<|A3<|B9 (O7 (K9 default) Cz O) O<|E8 2 ((K9 default).toArray) O<|A5 O<|D4<|K0<|U3<|K0<|U3<|O5 2 O λw9 ho9=>⟨rfl,_,_,ho9.sublist (.cons _ (.cons _ (.cons _ (Q5 _))))⟩
     ·have hR':Ak (s.drop (m+1+1)) (acc++[Ch c]) (m+2)=X:=by rw[<-hR];simp[he]
      have he0:¬((Ch c).toNat:Int)=0:=λh=>he (Fx (k:=0) h (by decide));generalize Ch c=x at*;refine C8<|C8<|R2 (by kernel_rfl)<|G3 O<|K2 O<|I1 O<|J4 3 O<|G3 O<|K2 O<|I1 O<|J4 3 O<|t8 O<|AD O<|R4<|E2<|E7 O (by omega)<|D6<|C8<|CN<|R2 (by kernel_rfl)<|G3 O<|K2 O<|I1 O<|J4 3 O<|G3 O<|K2 O<|I1 O<|J4 3 O<|AX O (by omega)<|o6 O<|R4<|E2<|C8<|C7<|B4 O<|C3 O (by assumption)<|B4 O<|H9 O<|A4 O<|F9 57 false O (decide_eq_false (by exact hlo)) ?_;refine B3 O<|A4 O<|B3 O<|Q7 O<|G4 O<|A5 O<|E0 O (by assumption)<|B4 O<|J3 O<|A5 O<|C4 O (λz0=>?_) (λz0=>?_);contradiction;refine P5<|F4<|E2<|B4 O<|E5 O<|B2 3 O<|N6 O (by omega)<|E5 O<|D9 O<|N4 3 O<|A6<|C8<|C8<|R2 (by kernel_rfl)<|G3 O<|K2 O<|I1 O<|J4 3 O<|G3 O<|K2 O<|I1 O<|J4 3 O<|t8 O<|Nb O<|R4<|E2<|E0 O (by omega)<|D6<|C8<|R2 (by kernel_rfl)<|G3 O<|K2 O<|I1 O<|J4 3 O<|G3 O<|K2 O<|I1 O<|J4 3 O<|AX O (by omega)<|EE (f:=99) (A7 O) (λw ho=>cE) O O ?_;refine o6 O<|R4<|E2<|B5<|A4 O<|H5 O<|A6<|E0 O (by omega)<|D6<|C5<|A4 O<|Dg (ι:=Value) (f:=98) (H0:=B0 gz1 cs v acc) (R:=[.B1 gz0 TK (K9 default).toArray,.B1 g LX #[.string (bs s),.int .i64 (m+1:Int),lv]]) (λ_=>.nilIface) (λv9=>B0 gz1 (f8 cs gz1 0 v9) v9 (acc++[x])) O (A7 O) (λw _ ho=>JV gz1 0 BT cs v acc x w hb (by rw[hsz];exact IY) (by omega) ho) O O λv9=>H6<|F4<|E2<|C5<|A4 O<|E5 O<|B2 3 O<|N6 O (by omega)<|E5 O<|D9 O<|N4 3 O<|A6 ?_;rotate_left;refine W5 λw ho=>⟨(m+2,acc++[x],v9,f8 cs gz1 0 v9),⟨by omega,by simp;omega,hR',hb.put.1,by rw[hb.put.2];exact hsz,.inl (by simp)⟩,by simp only[];omega,⟨rfl,rfl,rfl,trivial⟩,rfl,ho⟩
    ·have hm2:m+1=s.length:=by omega
     rw[JE (by omega)] at hR;have hR':((default,2,m+1):G8×Int×Nat)=X:=hR;subst hR';refine C8<|C8<|R2 (by kernel_rfl)<|G3 O<|K2 O<|I1 O<|J4 3 O<|G3 O<|K2 O<|I1 O<|J4 3 O<|t8 O<|AD O<|R4<|E2<|E7 O (by omega)<|D6<|C8<|CN<|R2 (by kernel_rfl)<|G3 O<|K2 O<|I1 O<|J4 3 O<|G3 O<|K2 O<|I1 O<|J4 3 O<|AX O (by omega)<|o6 O<|R4<|E2<|C8<|C7<|B4 O<|C3 O (by assumption)<|B4 O<|H9 O<|A4 O<|F9 57 false O (decide_eq_false (by exact hlo)) ?_;refine B3 O<|A4 O<|B3 O<|Q7 O<|G4 O<|A5 O<|E0 O (by assumption)<|B4 O<|J3 O<|A5 O<|C4 O (λz0=>?_) (λz0=>?_);contradiction;exact P5<|F4<|E2<|B4 O<|E5 O<|B2 3 O<|N6 O (by omega)<|E5 O<|D9 O<|N4 3 O<|A6<|C8<|C8<|R2 (by kernel_rfl)<|G3 O<|K2 O<|I1 O<|J4 3 O<|G3 O<|K2 O<|I1 O<|J4 3 O<|t8 O<|Nb O<|R4<|E2<|E7 O (by omega)<|S4<|J0<|GI O<|J0<|J0<|S5<|E2<|A3<|B9 (O7 (K9 default) Cz O) O<|E8 2 ((K9 default).toArray) O<|A5 O<|D4<|O5 2 O λw9 ho9=>⟨rfl,_,_,ho9.sublist (.cons _ (.cons _ (.cons _ (Q5 _))))⟩
   ·have n92:b≠92:=λh=>h92 (by rw[hby,h];rfl);rw[if_pos n92] at hR;refine C8<|C8<|R2 (by kernel_rfl)<|G3 O<|K2 O<|I1 O<|J4 3 O<|G3 O<|K2 O<|I1 O<|J4 3 O<|t8 O<|AD O<|R4<|E2<|E7 O (by omega)<|D6<|C8<|CN<|R2 (by kernel_rfl)<|G3 O<|K2 O<|I1 O<|J4 3 O<|G3 O<|K2 O<|I1 O<|J4 3 O<|AX O (by omega)<|o6 O<|R4<|E2<|C8<|C7<|B4 O<|C3 O (by assumption)<|B4 O<|H9 O<|A4 O<|F9 57 false O (decide_eq_false (by exact hlo)) ?_;refine B3 O<|A4 O<|B3 O<|Q7 O<|G4 O<|A5 O<|E0 O (by assumption)<|B4 O<|J3 O<|A5 O<|E7 O (by assumption)<|B4 O<|Dg (ι:=Value) (f:=98) (H0:=B0 gz1 cs v acc) (R:=[.B1 gz0 TK (K9 default).toArray,.B1 g LX #[.string (bs s),.int .i64 (m:Int),lv]]) (λ_=>.nilIface) (λv9=>B0 gz1 (f8 cs gz1 0 v9) v9 (acc++[(s.getD m 0)])) O (A7 O) (λw _ ho=>JV gz1 0 BT cs v acc (s.getD m 0) w hb (by rw[hsz];exact IY) (by omega) ho) O O λv9=>A6<|S4<|GI O<|J0<|S5<|E2<|C5<|A4 O<|E5 O<|B2 3 O<|N6 O (by omega)<|E5 O<|D9 O<|N4 3 O<|A6 ?_;rotate_left;refine W5 λw ho=>⟨(m+1,acc++[s.getD m 0],v9,f8 cs gz1 0 v9),⟨by omega,by simp;omega,by rw[<-hb0];exact hR,hb.put.1,by rw[hb.put.2];exact hsz,.inl (by simp)⟩,by simp only[];omega,⟨rfl,rfl,rfl,trivial⟩,rfl,ho⟩
 ·obtain rfl:m=s.length:=by omega
  rw[Rl] at hR;have hR':((default,2,s.length):G8×Int×Nat)=X:=hR;subst hR';exact C8<|C8<|R2 (by kernel_rfl)<|G3 O<|K2 O<|I1 O<|J4 3 O<|G3 O<|K2 O<|I1 O<|J4 3 O<|t8 O<|AD O<|R4<|E2<|E0 O (by omega)<|S4<|J0<|J0<|S5<|E2<|A3<|B9 (O7 (K9 default) Cz O) O<|E8 2 ((K9 default).toArray) O<|A5 O<|D4<|O5 2 O λw9 ho9=>⟨rfl,_,_,ho9.sublist (.cons _ (.cons _ (.cons _ (Q5 _))))⟩
def Ko(b:UInt8):Option (List UInt8):=if b=10 then some [92,110] else if b<32\/126<b then none else if b=34\/b=92 then some [92,b] else some [b]
def Gj:List UInt8->List UInt8->List UInt8×Int
 |[],acc=>(acc++[34],0)
 |b::r,acc=>match Ko b with
  |none=>([],3)
  |some t=>Gj r (acc++t)
def DZ(s:List UInt8):List UInt8×Int:=if 64<s.length then([],5) else Gj s [34]
theorem ap3{b:UInt8}{t:C9}(h:Ko b=some t):t.length<=2:=by
 unfold Ko at h;split at h
 ·cases h;simp
 ·split at h
  ·cases h
  ·split at h<;>cases h<;>simp
theorem eK(s:C9)(w:B6):
  I6 113 #[.string (bs s)] w (.tuple #[.string (bs (DZ s).1),.int .i64 (DZ s).2]):=by
 refine J5 func113 O ntmps113 O ?_;obtain⟨X,hX⟩:∃X,DZ s=X:=⟨_,rfl⟩
 rw[hX];unfold DZ at hX;by_cases h64:64<s.length
 ·rw[if_pos h64] at hX;subst hX;exact A3<|E6 O<|A5 O<|B5<|A4 O<|n4 O<|Q7 O<|A6<|E7 O (by omega)<|A3<|E6 O<|A5 O<|D4<|K0<|V6 O O O O λw9 ho9=>⟨rfl,ho9.plain⟩
 rw[if_neg h64] at hX;refine A3<|E6 O<|A5 O<|B5<|A4 O<|n4 O<|Q7 O<|A6<|E0 O (by omega)<|D6<|A3<|E3 Tryz.zeroValue64 O λgz0=>I0 ?_
 (refine BY U8 1 ?_;refine CE (List.Perm.swap ..) ?_;refine Dg (ι:=Value) (f:=98) (H0:=B0 gz0 #[.pointer none,.slice none 0 0] (.slice none 0 0) []) (R:=[]) (λ_=>.nilIface) (λv8=>B0 gz0 (f8 #[.pointer none,.slice none 0 0] gz0 0 v8) v8 ([]++[34])) rfl (MM (by kernel_rfl) rfl) (λw _ ho=>JV gz0 0 BT #[.pointer none,.slice none 0 0] (.slice none 0 0) [] 34 w ⟨.inl rfl,rfl⟩ (by rw[show(#[.pointer none,.slice none 0 0]:J2).size=2 from rfl];exact IY) (by(try simp)<;>omega) ho) rfl rfl (λv9=>?_))
 refine A6<|B5<|A4 O<|n4 O<|A4 O<|A6<|C7 ?_;have hb0:=Dx.put (cs:= #[.pointer none,.slice none 0 0]) (h:=gz0) (o:=0) (v:=.slice none 0 0) (v':=v9) ⟨.inl rfl,rfl⟩;refine l9 (σ:=Nat×List UInt8×Value×Array Value) (λq=>q.1<=s.length/\q.2.1.length<=2*q.1+1/\Gj (s.drop q.1) q.2.1=X/\Dx q.2.2.2 gz0 0 q.2.2.1/\q.2.2.2.size=2/\q.2.1≠[]) (λq=>[(0,.string (bs s)),(4,.pointer (some ⟨gz0,0,none⟩)),(12,.int .i64 s.length),(13,.int .i64 q.1)]) (λq=>[.B1 gz0 BT q.2.2.2,.row q.2.2.1 U8 1 q.2.1.length (Z3 q.2.1)]) (λq=>s.length-q.1)
  (λw ho=>⟨(0,[34],v9,f8 #[.pointer none,.slice none 0 0] gz0 0 v9),⟨by omega,by simp,hX,hb0.1,rfl,by simp⟩,⟨rfl,rfl,rfl,rfl,trivial⟩,ho⟩) ?_
 rintro⟨m,acc,v,cs⟩ ⟨hm,hacc,hR,hb,hsz,hne⟩;dsimp only at hm hacc hR hb hsz hne⊢;by_cases hml:m<s.length
 ·obtain⟨b,hdr,hby⟩:=Jm hml;have hbU:(b.toNat:Int)=J6 s m:=hby.symm;have hb0:b=s.getD m 0:=by
   apply Rk.1;have:(b.toNat:Int)=((s.getD m 0).toNat:Int):=hbU;omega
  rw[hdr,Gj] at hR;have hlo':b<32↔J6 s m<32:=by rw[ME,<-hbU];show b.toNat<32↔_;omega
  have hhi':126<b↔126<J6 s m:=by rw[ME,<-hbU];show 126<b.toNat↔_;omega
  have e10:b=10↔J6 s m=10:=⟨λh=>by rw[hby,h];rfl,λh=>Fx (k:=10) (by omega) (by decide)⟩
  have e34:b=34↔J6 s m=34:=⟨λh=>by rw[hby,h];rfl,λh=>Fx (k:=34) (by omega) (by decide)⟩
  have e92:b=92↔J6 s m=92:=⟨λh=>by rw[hby,h];rfl,λh=>Fx (k:=92) (by omega) (by decide)⟩
  by_cases h10:J6 s m=10
  ·rw[Ko,if_pos (e10.2 h10)] at hR;refine A3<|H9 O<|A6<|C8<|E7 O (by omega)<|D6<|C8<|C7<|B4 O<|A5 O<|B4 O<|A4 O<|Li O (by omega)<|A5 O<|C7<|B4 O<|Q9 O (by assumption)<|C5<|Dg (ι:=Value) (f:=61) (H0:=B0 gz0 cs v acc) (R:=[]) (λ_=>.tuple #[.int .i64 2,.nilIface]) (λv8=>B0 gz0 (f8 cs gz0 0 v8) v8 (acc++[92,110])) O (A7 O) (λw _ ho=>eA gz0 0 BT cs v acc [92,110] w hb (by rw[hsz];exact IY) (by(try simp)<;>omega) ho) O O λv9=>H6<|F4<|F4<|E2<|C5<|N6 O (by omega)<|A4 O<|A6 ?_;rotate_left;refine W5 λw ho=>⟨(m+1,acc++[92,110],v9,f8 cs gz0 0 v9),⟨by omega,by simp;omega,hR,hb.put.1,by rw[hb.put.2];exact hsz,by simp⟩,by simp only[];omega,⟨rfl,rfl,rfl,rfl,trivial⟩,rfl,ho⟩
  rw[Ko,if_neg (λh=>h10 (e10.1 h))] at hR;by_cases hlo:J6 s m<32
  ·rw[if_pos (.inl (hlo'.2 hlo))] at hR;subst hR;exact A3<|H9 O<|A6<|C8<|E7 O (by omega)<|D6<|C8<|C7<|B4 O<|A5 O<|B4 O<|A4 O<|Li O (by omega)<|A5 O<|C7<|B4 O<|C3 O (by assumption)<|B4 O<|H9 O<|A4 O<|F9 28 true O (decide_eq_true (by assumption))<|D2 O<|D2 O<|K8 O<|A5 O<|R1 O<|A3<|E6 O<|A5 O<|D4<|DO<|U3<|K0<|U3<|V6 O O O O λw9 ho9=>⟨rfl,ho9.plain⟩
  by_cases hhi:126<J6 s m
  ·rw[if_pos (.inr (hhi'.2 hhi))] at hR;subst hR;exact A3<|H9 O<|A6<|C8<|E7 O (by omega)<|D6<|C8<|C7<|B4 O<|A5 O<|B4 O<|A4 O<|Li O (by omega)<|A5 O<|C7<|B4 O<|C3 O (by assumption)<|B4 O<|H9 O<|A4 O<|F9 28 false O (decide_eq_false (by assumption))<|B3 O<|A4 O<|B3 O<|Q7 O<|G4 O<|A5 O<|E7 O (by assumption)<|A3<|E6 O<|A5 O<|D4<|DO<|U3<|K0<|U3<|V6 O O O O λw9 ho9=>⟨rfl,ho9.plain⟩
  rw[if_neg (λh=>h.elim (λh=>hlo (hlo'.1 h)) (λh=>hhi (hhi'.1 h)))] at hR;by_cases h34:J6 s m=34
  ·rw[if_pos (.inl (e34.2 h34)),e34.2 h34] at hR;have hR':Gj (s.drop (m+1)) (acc++[92]++[34])=X:=by rw[<-hR];simp
   refine A3<|H9 O<|A6<|C8<|E7 O (by omega)<|D6<|C8<|C7<|B4 O<|A5 O<|B4 O<|A4 O<|Li O (by omega)<|A5 O<|C7<|B4 O<|C3 O (by assumption)<|B4 O<|H9 O<|A4 O<|F9 28 false O (decide_eq_false (by assumption))<|B3 O<|A4 O<|B3 O<|Q7 O<|G4 O<|A5 O<|E0 O (by assumption)<|B4 O<|H5 O<|A4 O<|F9 35 true O (decide_eq_true (by assumption))<|D2 O<|D2 O<|K8 O<|A5 O<|R1 O<|A3<|Dg (ι:=Value) (f:=98) (H0:=B0 gz0 cs v acc) (R:=[]) (λ_=>.nilIface) (λv8=>B0 gz0 (f8 cs gz0 0 v8) v8 (acc++[92])) O (A7 O) (λw _ ho=>JV gz0 0 BT cs v acc 92 w hb (by rw[show(cs:J2).size=2 from hsz];exact IY) (by(try simp)<;>omega) ho) O O λv9=>A6 ?_;refine C5<|A4 O<|Dg (ι:=Value) (f:=98) (H0:=B0 gz0 (f8 cs gz0 0 v9) v9 (acc++[92])) (R:=[]) (λ_=>.nilIface) (λv8=>B0 gz0 (f8 (f8 cs gz0 0 v9) gz0 0 v8) v8 ((acc++[92])++[(s.getD m 0)])) O (A7 O) (λw _ ho=>JV gz0 0 BT (f8 cs gz0 0 v9) v9 (acc++[92]) (s.getD m 0) w hb.put.1 (by rw[show((f8 cs gz0 0 v9):J2).size=2 from(hb.put.2.trans hsz)];exact IY) (by(try simp)<;>omega) ho) O O λv10=>H6<|F4<|F4<|E2<|C5<|N6 O (by omega)<|A4 O<|A6 ?_;have e:s.getD m 0=34:=by rw[<-hb0];exact e34.2 h34
   rw[e] at*;refine W5 λw ho=>⟨(m+1,acc++[92]++[34],v10,f8 (f8 cs gz0 0 v9) gz0 0 v10),⟨by omega,by simp;omega,hR',hb.put.1.put.1,by rw[hb.put.1.put.2,hb.put.2];exact hsz,by simp⟩,by simp only[];omega,⟨rfl,rfl,rfl,rfl,trivial⟩,rfl,ho⟩
  by_cases h92:J6 s m=92
  ·rw[if_pos (.inr (e92.2 h92)),e92.2 h92] at hR;have hR':Gj (s.drop (m+1)) (acc++[92]++[92])=X:=by rw[<-hR];simp
   refine A3<|H9 O<|A6<|C8<|E7 O (by omega)<|D6<|C8<|C7<|B4 O<|A5 O<|B4 O<|A4 O<|Li O (by omega)<|A5 O<|C7<|B4 O<|C3 O (by assumption)<|B4 O<|H9 O<|A4 O<|F9 28 false O (decide_eq_false (by assumption))<|B3 O<|A4 O<|B3 O<|Q7 O<|G4 O<|A5 O<|E0 O (by assumption)<|B4 O<|H5 O<|A4 O<|F9 35 false O (decide_eq_false (by assumption))<|B3 O<|A4 O<|B3 O<|H5 O<|G4 O<|A5 O<|E7 O (by assumption)<|A3 ?_;refine Dg (ι:=Value) (f:=98) (H0:=B0 gz0 cs v acc) (R:=[]) (λ_=>.nilIface) (λv8=>B0 gz0 (f8 cs gz0 0 v8) v8 (acc++[92])) O (A7 O) (λw _ ho=>JV gz0 0 BT cs v acc 92 w hb (by rw[show(cs:J2).size=2 from hsz];exact IY) (by(try simp)<;>omega) ho) O O λv9=>A6<|C5<|A4 O<|Dg (ι:=Value) (f:=98) (H0:=B0 gz0 (f8 cs gz0 0 v9) v9 (acc++[92])) (R:=[]) (λ_=>.nilIface) (λv8=>B0 gz0 (f8 (f8 cs gz0 0 v9) gz0 0 v8) v8 ((acc++[92])++[(s.getD m 0)])) O (A7 O) (λw _ ho=>JV gz0 0 BT (f8 cs gz0 0 v9) v9 (acc++[92]) (s.getD m 0) w hb.put.1 (by rw[show((f8 cs gz0 0 v9):J2).size=2 from(hb.put.2.trans hsz)];exact IY) (by(try simp)<;>omega) ho) O O λv10=>H6<|F4<|F4<|E2<|C5<|N6 O (by omega)<|A4 O<|A6 ?_;have e:s.getD m 0=92:=by rw[<-hb0];exact e92.2 h92
   rw[e] at*;refine W5 λw ho=>⟨(m+1,acc++[92]++[92],v10,f8 (f8 cs gz0 0 v9) gz0 0 v10),⟨by omega,by simp;omega,hR',hb.put.1.put.1,by rw[hb.put.1.put.2,hb.put.2];exact hsz,by simp⟩,by simp only[];omega,⟨rfl,rfl,rfl,rfl,trivial⟩,rfl,ho⟩
  rw[if_neg (λh=>h.elim (λh=>h34 (e34.1 h)) (λh=>h92 (e92.1 h)))] at hR;refine A3<|H9 O<|A6<|C8<|E7 O (by omega)<|D6<|C8<|C7<|B4 O<|A5 O<|B4 O<|A4 O<|Li O (by omega)<|A5 O<|C7<|B4 O<|C3 O (by assumption)<|B4 O<|H9 O<|A4 O<|F9 28 false O (decide_eq_false (by assumption))<|B3 O<|A4 O<|B3 O<|Q7 O<|G4 O<|A5 O<|E0 O (by assumption)<|B4 O<|H5 O<|A4 O<|F9 35 false O (decide_eq_false (by assumption))<|B3 O<|A4 O<|B3 O<|H5 O<|G4 O<|A5 O<|E0 O (by assumption)<|C5 ?_;refine A4 O<|Dg (ι:=Value) (f:=98) (H0:=B0 gz0 cs v acc) (R:=[]) (λ_=>.nilIface) (λv8=>B0 gz0 (f8 cs gz0 0 v8) v8 (acc++[(s.getD m 0)])) O (A7 O) (λw _ ho=>JV gz0 0 BT cs v acc (s.getD m 0) w hb (by rw[show(cs:J2).size=2 from hsz];exact IY) (by(try simp)<;>omega) ho) O O λv9=>H6<|F4<|F4<|E2<|C5<|N6 O (by omega)<|A4 O<|A6 ?_;rotate_left;refine W5 λw ho=>⟨(m+1,acc++[s.getD m 0],v9,f8 cs gz0 0 v9),⟨by omega,by simp;omega,by rw[<-hb0];exact hR,hb.put.1,by rw[hb.put.2];exact hsz,by simp⟩,by simp only[];omega,⟨rfl,rfl,rfl,rfl,trivial⟩,rfl,ho⟩
 ·obtain rfl:m=s.length:=by omega
  rw[Rl] at hR;have hR':((acc++[34],0):List UInt8×Int)=X:=hR;subst hR';exact A3<|H9 O<|A6<|C8<|E0 O (by omega)<|S4<|J0<|J0<|S5<|E2<|A3<|Dg (ι:=Value) (f:=98) (H0:=B0 gz0 cs v acc) (R:=[]) (λ_=>.nilIface) (λv8=>B0 gz0 (f8 cs gz0 0 v8) v8 (acc++[34])) O (A7 O) (λw _ ho=>JV gz0 0 BT cs v acc 34 w hb (by rw[show(cs:J2).size=2 from hsz];exact IY) (by(try simp)<;>omega) ho) O O λv9=>I0<|Dg (ι:=Unit) (f:=16) (H0:=B0 gz0 (f8 cs gz0 0 v9) v9 (acc++[34])) (R:=[]) (λ_=>.string (bs (acc++[34]))) (λ_=>[.B1 gz0 BT (f8 cs gz0 0 v9)]) O (A7 O) (λw _ ho=>(SV gz0 0 BT (f8 cs gz0 0 v9) v9 (acc++[34]) w hb.put.1 (by(try simp)<;>omega) (.inl (by simp)) ho).mono λe w3 h=>⟨(),h⟩) O O λ_=>E6 O<|A5 O<|D4<|V6 O O O O λw9 ho9=>⟨rfl,ho9.plain⟩
end
section
section
variable{P:Program}{r:Option Nat}{n:Nat}{E:List (Nat×Value)}{C:I3}{H:List C2}{Q:Exit->Act->World->Prop}{dst:Option Tmp}{ty:TypeId}{pos:String}{after:Array Edge}{g:Option (Nat×Bool)}
theorem rX{ι:Type}{c:Code}(E':ι->List (Nat×Value))(A:∀i,At n (E' i) C H (Q .normal))(B:(∀i,At n (E' i) C H (Q .normal))->At n E C H (F8 r P c Q)):At n E C H (F8 r P c Q):=B A
theorem SP{K:Act->B6->Prop}{E':X0}(A:At n E' C H K)(he:Eu E' E):At n E C H K:=λa w hf hd ho=>A a w (hf.Jv he) hd ho
theorem Pu{f:FuncId}{fs:List Operand}{vs:H2}(hc:HW E fs=some vs):L1 P n E C H ⟨dst,.makeFunc (.func f) fs.toArray #[],ty,pos,after,g⟩ (.func (.func f) vs.toArray #[]):=by
 intro a w hf ho;have hm:fs.toArray.map a.eval=vs.toArray:=by simp[PL hf hc]
 simp only[execOp,hm];simp[go_sem,Instr.makeFunc]
theorem IP{t:TypeId}{fn:Func}{R:Ending->B6->Prop}{s u u2 i h k:Nat}{tb:TypeId}{cs:J2}{x y:Value}(hr:fn.results= #[.cell s t,.tmp u,.tmp u2])(hm:C.marks=[])(ht:R6 E s=some (.pointer (some ⟨h,0,none⟩)))(hu:R6 E u=some x)(hu2:R6 E u2=some y)(hi:H[i]?=some (.B1 h tb cs))(hT:CU P t=some k)(hv:cs.size=k)
  (hk:∀w,B7 C H w->R (.returned (.tuple #[.agg cs,x,y])) w):At n E C H (fin P fn R .ret):=by
 intro a w hf hd ho;refine Il (v:=.tuple #[.agg cs,x,y]) hm hd ?_ (hk w ho);have h1:=hf.get s _ ht;have h4:=hf.get u _ hu;have h6:=hf.get u2 _ hu2;have h2:=PJ (P:=P) (t:=t) hT (ho.get hi) hv;have h3:a.tmps.getD s undef=.pointer (some ⟨h,0,none⟩):=by rw[m6,h1];rfl
 have h5:a.tmps.getD u undef=x:=by rw[m6,h4];rfl
 have h7:a.tmps.getD u2 undef=y:=by rw[m6,h6];rfl
 unfold results;rw[hr];simp only[Ph,Pg,Re,h3,h5,h7,asAddr,Sem.run_bind,Sem.run_pure,Result.andThen,map_eq_pure_bind,h2];rfl
end
attribute [local irreducible] F8 D3 Exit.then Exit.inBlock Exit.noGoto wpQuiet Calls fin At G9 L3 L7 RQ
def Au(s:List UInt8)(m:Nat):G8×Int×Nat:=
 if Ar (J6 s m) then((FA (P3 k7 (s.drop m))).1,(FA (P3 k7 (s.drop m))).2,m+(P3 k7 (s.drop m)).length)
 else if Z1 (J6 s m) then((NQ s m).1,(NQ s m).2,m+(P3 Z1 (s.drop m)).length)
 else if J6 s m=34 then Ak (s.drop (m+1)) [] (m+1)
 else((BU (s.drop m)).1,(BU (s.drop m)).2.1,m+(BU (s.drop m)).2.2)
def Na(t:G8)(m:Nat):G8:=⟨t.kind,m,t.s,t.num⟩
def m7(s:List UInt8)(n:Nat):G8×Int×Bool×Nat:=
 let m:=n+j6 false (s.drop n)
 if m=s.length then(default,0,false,m) else(Na (Au s m).1 m,(Au s m).2.1,true,(Au s m).2.2)
def QO(g m:Nat)(s:List UInt8)(lv:Value)(q:Nat×G8×Int×Nat):Prop:=q.2=Au s m/\GB prog q.1=true/\∀w,B7 (J1 w [lexB g s m lv]) [lexB g s m lv] w->Calls prog q.1 #[.pointer (some ⟨g,0,none⟩)] w λe w'=>∃_:Unit,e=.returned (.tuple #[By q.2.1,.int .i64 q.2.2.1])/\O0 w (λk=>k∈F1 [lexB g s m lv]) [lexB g s q.2.2.2 lv] w'
theorem aj5(g n:Nat)(s:C9)(lv:Value)(w:B6)(hn:n<=s.length)(hs:s.length<=5000)(hlv:lv.oneCell'=true)(ho:B7 (J1 w [lexB g s n lv]) [lexB g s n lv] w):
  Calls prog 21 #[.pointer (some ⟨g,0,none⟩)] w λe w'=>e=.returned (.tuple #[By (m7 s n).1,.int .i64 (m7 s n).2.1,.bool (m7 s n).2.2.1])/\O0 w (λk=>k∈F1 [lexB g s n lv]) [lexB g s (m7 s n).2.2.2 lv] w':=by
 have hle:=LV false (s.drop n);rw[EB] at hle;have cB:∀{w'},B7 (J1 w' [lexB g s n lv]) [lexB g s n lv] w'->Calls prog 42 #[.pointer (some ⟨g,0,none⟩)] w' λe w3=>∃_:Unit,e=.returned (.tuple #[])/\O0 w' (λk=>k∈F1 [lexB g s n lv]) [lexB g s (n+j6 false (s.drop n)) lv] w3:=λho=>(sR g n s lv _ hn hs hlv ho).mono λe w3 h=>⟨(),h⟩
 refine G7 ho func21 O ntmps21 O ?_;unfold m7;dsimp only;obtain⟨m,hm⟩:∃m,m=n+j6 false (s.drop n):=⟨_,rfl⟩
 rw[<-hm] at cB⊢;have hms:m<=s.length:=by omega
 by_cases hml:m=s.length
 ·rw[if_pos hml];exact A3<|E3 W9 O λgz0=>E6 O<|A5 O<|B4 O<|W7 (ι:=Unit) (f:=42) [.B1 gz0 TK (K9 default).toArray] [lexB g s n lv] (λ_=>.tuple #[]) (λ_=>[.B1 g LX #[.string (bs s),.int .i64 m,lv]]) O (A7 O) (λw _ ho=>cB ho) O O λ_=>A6<|C8<|C8<|R2 (by kernel_rfl)<|G3 O<|K2 O<|I1 O<|J4 1 O<|G3 O<|K2 O<|I1 O<|J4 1 O<|t8 O<|Nb O<|R4<|E2<|E7 O (by omega)<|A3<|B9 (O7 (K9 default) Cz O) O<|E8 0 ((K9 default).toArray) O<|E6 O<|A5 O<|D4<|K0<|IP (i:=0) (k:=4) O O O O O O (by kernel_rfl) O λw9 ho9=>⟨rfl,_,_,ho9.sublist (.cons _ (Q5 _))⟩
 ·rw[if_neg hml];have hml':m<s.length:=by omega
  obtain⟨X,hX⟩:∃X,Au s m=X:=⟨_,rfl⟩
  rw[hX];refine A3<|E3 W9 O λgz0=>E6 O<|A5 O<|B4 O<|W7 (ι:=Unit) (f:=42) [.B1 gz0 TK (K9 default).toArray] [lexB g s n lv] (λ_=>.tuple #[]) (λ_=>[.B1 g LX #[.string (bs s),.int .i64 m,lv]]) O (A7 O) (λw _ ho=>cB ho) O O λ_=>A6<|C8<|C8<|R2 (by kernel_rfl)<|G3 O<|K2 O<|I1 O<|J4 1 O<|G3 O<|K2 O<|I1 O<|J4 1 O<|t8 O<|Nb O<|R4<|E2<|E0 O (by omega)<|D6<|B4 O<|B9 (Pu (vs:=[.pointer (some ⟨g,0,none⟩)]) O) O<|A5 O<|C8<|C8<|R2 (by kernel_rfl)<|G3 O<|K2 O<|I1 O<|J4 1 O<|G3 O<|K2 O<|I1 O<|J4 1 O<|AX O (by omega)<|o6 O ?_;refine R4<|E2 ?_;rotate_left;refine rX (ι:={q:Nat×G8×Int×Nat//QO g m s lv q}) (λq=>[(5,.func (.func q.1.1) #[.pointer (some ⟨g,0,none⟩)] #[]),(2,.pointer (some ⟨gz0,0,none⟩)),(0,.pointer (some ⟨g,0,none⟩))]) ?_ (λtail=>?_)
  ·rintro⟨⟨f,⟨k0,p0,s0,n0⟩,e0,m0⟩,hY,hent,hcall⟩;dsimp only at hY hent hcall⊢;rw[hX] at hY;subst hY;unfold lexB at*;exact E2<|B4 O<|E5 O<|B2 1 O<|A5 O<|B4 O<|W7 (ι:=Unit) (f:=f) [.B1 gz0 TK (K9 default).toArray] [.B1 g LX #[.string (bs s),.int .i64 m,lv]] (λ_=>.tuple #[By ⟨k0,p0,s0,n0⟩,.int .i64 e0]) (λ_=>[.B1 g LX #[.string (bs s),.int .i64 m0,lv]]) O (IN (first:=[.pointer (some ⟨g,0,none⟩)]) (cap:=[]) (args:=[]) (vs:=[]) O hent O) (λw _ ho=>hcall w ho) O O λ_=>A4 O<|G1 O<|G1 O<|E3 W9 O λgz0=>E8 0 ((K9 ⟨k0,p0,s0,n0⟩).toArray) O<|A5 O<|B4 O<|D9 O<|N4 0 O<|I0<|G6 0 O O<|A4 O<|E8 1 ((K9 ⟨k0,m,s0,n0⟩).toArray) O<|E6 O<|A5 O<|D4<|IP (i:=1) (k:=4) O O O O O O (by kernel_rfl) O λw9 ho9=>⟨rfl,_,_,ho9.sublist (.cons _ (.cons _ (Q5 _)))⟩
  ·unfold Au at hX;cases hL:Ar (J6 s m)
   ·cases hD:Z1 (J6 s m)
    ·by_cases hQ:J6 s m=34
     ·have hT:QO g m s lv (48,X):=⟨by rw[<-hX];simp[Au,hL,hD,hQ],by kernel_rfl,λw' ho=>(ag2 g m s lv w' hml' hs hlv ho).mono λe w3 h=>⟨(),by rw[hL,hD,if_neg (by simp),if_neg (by simp),if_pos hQ] at hX;rw[hX] at h;exact h⟩⟩
      refine C7<|B4 O<|F3 44 (A7 O) (λw ho=>MY (J6 s m) w) O<|A5 O<|Y7 O (by exact hL)<|B4 O<|F3 46 (A7 O) (λw ho=>ON (J6 s m) w) O<|A5 O<|Y7 O (by exact hD)<|B4 O<|Q9 O (by exact hQ)<|C5<|A4 O<|B9 (Pu (vs:=[.pointer (some ⟨g,0,none⟩)]) O) O<|E6 O<|H6 ?_;exact F4 (SP (tail ⟨_,hT⟩) ⟨rfl,rfl,rfl,trivial⟩)
     ·have hT:QO g m s lv (43,X):=⟨by rw[<-hX];simp[Au,hL,hD,hQ],by kernel_rfl,λw' ho=>(nB g m s lv w' hml' hs hlv ho).mono λe w3 h=>⟨(),by rw[hL,hD,if_neg (by simp),if_neg (by simp),if_neg hQ] at hX;rw[<-hX];exact h⟩⟩
      refine C7<|B4 O<|F3 44 (A7 O) (λw ho=>MY (J6 s m) w) O<|A5 O<|Y7 O (by exact hL)<|B4 O<|F3 46 (A7 O) (λw ho=>ON (J6 s m) w) O<|A5 O<|Y7 O (by exact hD)<|B4 O<|C3 O (by exact hQ)<|P5 ?_;exact F4 (SP (tail ⟨_,hT⟩) ⟨rfl,rfl,rfl,trivial⟩)
    ·have hT:QO g m s lv (47,X):=⟨by rw[<-hX];simp[Au,hL,hD],by kernel_rfl,λw' ho=>(sA g m s lv w' hms hs hlv ho).mono λe w3 h=>⟨(),by rw[hL,hD,if_neg (by simp),if_pos rfl] at hX;rw[<-hX];exact h⟩⟩
     refine C7<|B4 O<|F3 44 (A7 O) (λw ho=>MY (J6 s m) w) O<|A5 O<|Y7 O (by exact hL)<|B4 O<|F3 46 (A7 O) (λw ho=>ON (J6 s m) w) O<|A5 O<|k8 O (by exact hD)<|C5<|A4 O<|B9 (Pu (vs:=[.pointer (some ⟨g,0,none⟩)]) O) O<|E6 O<|H6 ?_;exact F4 (SP (tail ⟨_,hT⟩) ⟨rfl,rfl,rfl,trivial⟩)
   ·have hT:QO g m s lv (45,X):=⟨by rw[<-hX];simp[Au,hL],by kernel_rfl,λw' ho=>(ah4 g m s lv w' hms hs hlv ho).mono λe w3 h=>⟨(),by rw[hL,if_pos rfl] at hX;rw[<-hX];exact h⟩⟩
    refine C7<|B4 O<|F3 44 (A7 O) (λw ho=>MY (J6 s m) w) O<|A5 O<|k8 O (by exact hL)<|C5<|A4 O<|B9 (Pu (vs:=[.pointer (some ⟨g,0,none⟩)]) O) O<|E6 O<|H6 ?_;exact F4 (SP (tail ⟨_,hT⟩) ⟨rfl,rfl,rfl,trivial⟩)
end
section
variable{P:Program}{r:Option Nat}{n:Nat}{E:List (Nat×Value)}{C:I3}{H:List C2}{H1:Value->List C2}{Q:Exit->Act->World->Prop}{ops:Array Oper}
def WA(P:Program)(n:Nat)(E:List (Nat×Value))(C:I3)(H:List C2)(H1:Value->List C2)(X:World->Prop)(ops:Array Oper)(S:List L0)(q:Nat)(o:Oper):Prop:=∀a w,U2 n E a->B7 C H w->X w->
 (∃u w',(execOp a.eval o).run P w=.ok (.value u) w'/\B7 C (H1 u) w'/\Lh ops S q w w'/\(M9 S q).ok u w')\/
 (∃f args,(execOp a.eval o).run P w=.ok (.enter f args) w/\Calls P f args w λe w'=>∃u,e=.returned u/\B7 C (H1 u) w'/\Lh ops S q w w'/\(M9 S q).ok u w')
def XW(P:Program)(n:Nat)(E:List (Nat×Value))(C:I3)(H:List C2)(H1:Value->List C2)(ops:Array Oper)(S:List L0)(q j:Nat)(o:Oper):Prop:=o.guard=none/\
 ((Nat.beq j q=true/\∀vs:Nat->Value,WA P n (U1 ops S vs (M4 o) E) C H H1 (X5 S vs (M4 o)) ops S q o)\/
  (Nat.beq j q=false/\(Eb ops ops.size j q=true\/∀vs:Nat->Value,Bk P n (U1 ops S vs (M4 o) E) C H (X5 S vs (M4 o)) o (M9 S j))/\
   (Eb ops ops.size q j=true\/∀vs:Nat->Value,Bk P n (U1 ops S vs (M4 o) E) C (H1 (vs q)) (X5 S vs (M4 o)) o (M9 S j))))
def FN(P:Program)(n:Nat)(E:List (Nat×Value))(C:I3)(H:List C2)(H1:Value->List C2)(ops:Array Oper)(S:List L0)(q:Nat):Nat->Nat->List Oper->Prop
 |0,_,_=>True
 |_+1,_,[]=>True
 |m+1,j,o::rest=>XW P n E C H H1 ops S q j o/\FN P n E C H H1 ops S q m (j+1) rest
theorem Zc{S:List L0}{q:Nat}:∀{m j:Nat} {l:List Oper},FN P n E C H H1 ops S q m j l->∀i o,i<m->l[i]?=some o->XW P n E C H H1 ops S q (j+i) o
 |0,_,_,_,i,_,hi,_=>absurd hi (by omega)
 |m+1,j,[],_,i,o,_,ho=>by simp at ho
 |m+1,j,o::rest,h,i,o',hi,ho=>by
  cases i with
  |zero=>simp at ho;subst ho;exact h.1
  |succ i=>
   have:=Zc h.2 i o' (by omega) (by simpa using ho);rwa[show j+1+i=j+(i+1) by omega] at this
def Xd(n:Nat)(E:List (Nat×Value))(C:I3)(H:List C2)(H1:Value->List C2)(ops:Array Oper)(S:List L0)(q dq N:Nat)(listed:Array Bool)(a:Act)(w:World):Prop:=
 U2 n E a/\DF C a/\(listed[q]?=some false->B7 C H w)/\(listed[q]?=some true->∃u,a.tmps[dq]?=some u/\B7 C (H1 u) w)/\∀i,i<N->listed[i]?=some true->∀d,(ops[i]?).bind (·.dst)=some d->∃u,a.tmps[d]?=some u/\(M9 S i).ok u w
theorem tF{S:List L0}{N q dq:Nat}(hr:SH ops N)(hst:∀i,(M9 S i).stab)(hfr:HT ops N E=true)(hin:∀(i d:Nat),(ops[i]?).bind (·.dst)=some d->d<n)(hqN:q<N)(hdq:(ops[q]?).bind (·.dst)=some dq)
  (steps:∀(i:Nat) (o:Oper),i<N->ops[i]?=some o->XW P n E C H H1 ops S q i o)
  (fin:∀(listed:Array Bool) (a:Act) (w:B6),(∀i,i<N->listed[i]?=some true)->Xd n E C H H1 ops S q dq N listed a w->wpOpsIn (fe r) 0 P ops Q (List.range' N (ops.size-N)) a w):
  ∀(fuel:Nat) (listed:Array Bool) (a:Act) (w:B6),listed.size=ops.size->Dp listed<=fuel->Jp ops listed->(∀i,N<=i->i<ops.size->listed[i]?=some false)->Xd n E C H H1 ops S q dq N listed a w->wpAnyIn (fe r) 0 P .any ops Q fuel listed a w:=by
 intro fuel;have full:∀(fuel:Nat) (listed:Array Bool) (a:Act) (w:B6),listed.size=ops.size->Dp listed<=fuel->(∀i,N<=i->i<ops.size->listed[i]?=some false)->Xd n E C H H1 ops S q dq N listed a w->(∀i,i<N->listed[i]?=some true)->wpAnyIn (fe r) 0 P .any ops Q fuel listed a w:=
  λfuel listed a w hsz hcn hhi hg hlo=>gR hr fuel N listed a w (L6 _) hsz hcn hlo hhi hr.le (fin listed a w hlo hg)
 induction fuel with
 |zero=>
  intro listed a w hsz hcn hcl hhi hg;refine full 0 listed a w hsz hcn hhi hg λi hi=>?_;have hlt:i<listed.size:=by have:=hr.le;omega
  cases hb:listed[i]? with
  |none=>rw[HA] at hb;omega
  |some b=>
   cases b
   ·have:=OT hb;omega
   ·rfl
 |succ fuel ih=>
  intro listed a w hsz hcn hcl hhi hg;by_cases hall:∀i,i<N->listed[i]?=some true
  ·exact full (fuel+1) listed a w hsz hcn hhi hg hall
  ·have hex:∃i,i<N/\listed[i]?=some false:=by
    refine Classical.byContradiction λhno=>hall λi hi=>?_;have hlt:i<listed.size:=by have:=hr.le;omega
    cases hb:listed[i]? with
    |none=>rw[HA] at hb;omega
    |some b=>
     cases b
     ·exact absurd ⟨i,hi,hb⟩ hno
     ·rfl
   have small:∀i∈Region.ready .any ops listed,i<N:=λi hi=>by
    obtain⟨h1,o,ho,he⟩:=FP hi hsz;rcases w7 i N with hl|hl
    ·exact hl
    ·obtain⟨k,hk,hkf⟩:=hex;obtain⟨e,hee,hre⟩:=hr.tail i o ho hl k (by omega);have hlow:=hr.low i o ho e hee;have hi':=(T1.1 ho).1;have hel:listed[e]?=some true:=by
      rcases he e hee with h|h
      ·exact h
      ·omega
     have:=IW hcl _ e k hre hel;rw[hkf] at this;cases this
   refine⟨λh0=>?_,λi hi=>?_⟩
   ·exfalso;obtain⟨k,hk,hmin⟩:=exists_least hex;have hko:k<ops.size:=by have:=hr.le;omega
    have:k∈Region.ready .any ops listed:=mem_ready.2 ⟨by rw[m6,hk.2];rfl,ops[k],s4 hko,λe hee hb=>by
     have hlow:=hr.low k _ (s4 hko) e.on (MB.2 ⟨e,by simpa using hee,by simp[hb]⟩);have hlt:e.on<listed.size:=by omega
     cases hbb:listed[e.on]? with
     |none=>rw[HA] at hbb;omega
     |some b=>
      cases b
      ·have:=hmin e.on ⟨by omega,hbb⟩;omega
      ·rw[m6,hbb];rfl⟩
    rw[h0] at this;cases this
   ·have hiN:=small i hi;obtain⟨h1,o,ho,he⟩:=FP hi hsz;have he':∀e∈M4 o,listed[e]?=some true:=λe hee=>by
     rcases he e hee with h|h
     ·exact h
     ·have:=hr.low i o ho e hee;have:=(T1.1 ho).1;omega
    obtain⟨hf,hdf,hoF,hoT,hgv⟩:=hg
    let vs:Nat->Value:=λk=>match(ops[k]?).bind (·.dst) with
     |some d=>(a.tmps[d]?).getD undef
     |none=>undef
    have hpred:∀e∈M4 o,∀d,(ops[e]?).bind (·.dst)=some d->a.tmps[d]?=some (vs e)/\(M9 S e).ok (vs e) w:=λe hee d hd=>by
     have hlow:=hr.low i o ho e hee;obtain⟨u,hu,hok⟩:=hgv e (by omega) (he' e hee) d hd;have:vs e=u:=by simp only[vs,hd,hu,Nh]
     rw[this];exact⟨hu,hok⟩
    have hfE:=KR (ops:=ops) (S:=S) (vs:=vs) (w:=w) hf hpred;have hfact:X5 S vs (M4 o) w:=Js λe hee=>by
     have hlow:=hr.low i o ho e hee;have heo:e<ops.size:=by have:=(T1.1 ho).1;omega
     have hds:=hr.dst e ops[e] (s4 heo) (by omega);obtain⟨d,hd⟩:=JA.1 hds;exact(hpred e hee d (by rw[s4 heo];exact hd)).2
    obtain⟨hgn,hstep⟩:=steps i o hiN ho;obtain⟨d,hd⟩:=JA.1 (hr.dst i o ho hiN);have hdi:(ops[i]?).bind (·.dst)=some d:=by rw[ho];exact hd
    have next:∀(u:Value) (w':B6),((listed.setIfInBounds i true)[q]?=some false->B7 C H w')->((listed.setIfInBounds i true)[q]?=some true->∃x,(a.put o.dst u).tmps[dq]?=some x/\B7 C (H1 x) w')->Lh ops S i w w'->(M9 S i).ok u w'->wpAnyIn (fe r) 0 P .any ops Q fuel (listed.setIfInBounds i true) (a.put o.dst u) w':=λu w' hF hT hb hok=>by
     refine ih _ _ _ (by simpa using hsz) (by have:=IS h1;omega) (LD hcl ho he') (λj hj hjs=>by rw[Br (by omega)];exact hhi j hj hjs) ⟨?_,hdf.put _ _,hF,hT,?_⟩
     ·rw[hd];exact St hf (Tl hfr hiN hdi)
     ·intro j hj hjl d' hd';by_cases hij:i=j
      ·subst hij;rw[hdi] at hd';cases hd';refine⟨u,?_,hok⟩;rw[hd];have:d<a.tmps.size:=by rw[hf.size];exact hin i d hdi
       simp[Act.put,this]
      ·rw[Br hij] at hjl;obtain⟨x,hx,hxok⟩:=hgv j hj hjl d' hd';refine⟨x,?_,hb j (Ne.symm hij) (by
        cases hrr:Eb ops ops.size j i with
        |false=>rfl
        |true=>have:=IW hcl _ j i hrr hjl;rw[h1] at this;cases this) x hxok⟩
       rw[hd];have hne:d≠d':=λe=>hr.apart i j hiN hj hij d hdi (e▸hd');simp only[Act.put];rw[Br hne];exact hx
    have other:i≠q->∀{H0:List C2},B7 C H0 w->Bk P n (U1 ops S vs (M4 o) E) C H0 (X5 S vs (M4 o)) o (M9 S i)->(∀u w',B7 C H0 w'->((listed.setIfInBounds i true)[q]?=some false->B7 C H w')/\((listed.setIfInBounds i true)[q]?=some true->∃x,(a.put o.dst u).tmps[dq]?=some x/\B7 C (H1 x) w'))->o.wpIn (fe r) 0 P a w (wpAnyIn (fe r) 0 P .any ops Q fuel (listed.setIfInBounds i true)) Q:=λhne H0 h0 h hk=>by
     refine⟨λ_ _=>trivial,?_⟩;rw[show(fe r).round=r from rfl,Oj (hr.nd i o ho hiN)];rcases h a w hfE h0 hfact with⟨u,w',hrun,hw',hb,hok⟩|⟨f,args,hrun,hcall⟩
     ·rw[hrun];exact next u w' (hk u w' hw').1 (hk u w' hw').2 (SM hst hb) hok
     ·rw[hrun];refine Lr hcall ?_;rintro e w' ⟨u,rfl,hw',hb,hok⟩;exact⟨u,rfl,next u w' (hk u w' hw').1 (hk u w' hw').2 (SM hst hb) hok⟩
    unfold wpOpIn;simp only[ho];rw[if_pos (by simp[Region.wanted,hgn])];rcases hstep with⟨hiq,hst⟩|⟨hiq,hsF,hsT⟩
    ·have e:=DK hiq;subst e;have e2:d=dq:=by rw[hdi] at hdq;exact Fc hdq
     subst e2;have hsl:(listed.setIfInBounds i true)[i]?=some true:=by
      rw[Ly,if_pos rfl,if_pos (T1.1 h1).1]
     have hput:∀u,(a.put o.dst u).tmps[d]?=some u:=λu=>by
      rw[hd];have:d<a.tmps.size:=by rw[hf.size];exact hin i d hdi
      simp[Act.put,this]
     refine⟨λ_ _=>trivial,?_⟩;rw[show(fe r).round=r from rfl,Oj (hr.nd i o ho hiN)];rcases hst vs a w hfE (hoF h1) hfact with⟨u,w',hrun,hw',hb,hok⟩|⟨f,args,hrun,hcall⟩
     ·rw[hrun];exact next u w' (λh=>by rw[hsl] at h;cases h) (λ_=>⟨u,hput u,hw'⟩) hb hok
     ·rw[hrun];refine Lr hcall ?_;rintro e w' ⟨u,rfl,hw',hb,hok⟩;exact⟨u,rfl,next u w' (λh=>by rw[hsl] at h;cases h) (λ_=>⟨u,hput u,hw'⟩) hb hok⟩
    ·have hne:i≠q:=λe=>by rw[e] at hiq;simp at hiq
     have hsl:(listed.setIfInBounds i true)[q]?=listed[q]?:=Br hne;have hqs:q<listed.size:=by have:=hr.le;omega
     cases hlq:listed[q]? with
     |none=>rw[HA] at hlq;omega
     |some b=>
      cases b
      ·rcases hsF with hsF|hsF
       ·have hcl':=LD hcl ho he';have hii:(listed.setIfInBounds i true)[i]?=some true:=by
         rw[Ly,if_pos rfl,if_pos (T1.1 h1).1]
        have:=IW hcl' _ i q hsF hii;rw[hsl,hlq] at this;cases this
       ·exact other hne (hoF hlq) (hsF vs) (λu w' hw'=>⟨λ_=>hw',λh=>by rw[hsl,hlq] at h;cases h⟩)
      ·rcases hsT with hsT|hsT
       ·have:=IW hcl _ q i hsT hlq;rw[h1] at this;cases this
       ·obtain⟨x,hx,hox⟩:=hoT hlq;have hvq:vs q=x:=by simp only[vs,hdq,hx,Nh]
        refine other hne (H0:=H1 (vs q)) (by rw[hvq];exact hox) (hsT vs) (λu w' hw'=>⟨λh=>by(rw[hsl,hlq] at h;cases h),λ_=>⟨x,?_,by rw[<-hvq];exact hw'⟩⟩);rw[hd];have hnd:d≠dq:=λe=>hr.apart i q hiN hqN hne d hdi (e▸hdq);simp only[Act.put];rw[Br hnd];exact hx
theorem ap0{id:Nat}{l:List Oper}(N q:Nat)(S:List L0)(H1:Value->List C2)(hm:P.follows .mixedOrders=true)(hB:Jk l.toArray N=true)(hq:Nat.blt q N=true)(hfr:HT l.toArray N E=true)(hin:Gz l.toArray n=true)(hst:Jd S)
  (steps:FN P n E C H H1 l.toArray S q N 0 l)
  (fin:∀(vs:Nat->Value) (w1:B6),X5 S vs (List.range N) w1->At n (U1 l.toArray S vs (List.range N) E) C (H1 (vs q)) (D3 r P l.toArray Q (l.drop N))):
  At n E C H (F8 r P (Code.region id l.toArray true) Q):=by
 intro a w hf hdf ho;have hr:=dC hB;have hqN:q<N:=by simpa using hq
 have hqo:q<l.toArray.size:=ID hqN hr.le;obtain⟨dq,hdq'⟩:=JA.1 (hr.dst q _ (s4 hqo) hqN);have hdq:(l.toArray[q]?).bind (·.dst)=some dq:=by rw[s4 hqo];exact hdq'
 refine wpIn_region_any hm (tF (H1:=H1) hr (Vs hst) hfr (PM hin) hqN hdq (λi o hi hoo=>?_) ?_ _ _ _ _ (by simp) ?_ ?_ ?_ ⟨hf,hdf,λ_=>(show B7 C H w.drew from ho.drew),λh=>?_,?_⟩)
 ·have:=Zc steps i o hi (by simpa using hoo);rwa[Y3] at this
 ·intro listed a' w' hlo ⟨hf',hdf',hoF,hoT,hg⟩
  let vs:Nat->Value:=λk=>match(l.toArray[k]?).bind (·.dst) with
   |some d=>(a'.tmps[d]?).getD undef
   |none=>undef
  have hall:∀i∈List.range N,∀d,(l.toArray[i]?).bind (·.dst)=some d->a'.tmps[d]?=some (vs i)/\(M9 S i).ok (vs i) w':=λi hi d hd=>by
   have hiN:=j9.1 hi;obtain⟨u,hu,hok⟩:=hg i hiN (hlo i hiN) d hd;have:vs i=u:=by simp only[vs,hd,hu,Nh]
   rw[this];exact⟨hu,hok⟩
  have hfE:=KR (ops:=l.toArray) (S:=S) (vs:=vs) (w:=w') hf' hall;have hfact:X5 S vs (List.range N) w':=Js λi hi=>by
   have hiN:=j9.1 hi;have hio:i<l.toArray.size:=ID hiN hr.le;obtain⟨d,hd⟩:=JA.1 (hr.dst i _ (s4 hio) hiN);exact(hall i hi d (by rw[s4 hio];exact hd)).2
  obtain⟨x,hx,hox⟩:=hoT (hlo q hqN);have hvq:vs q=x:=by simp only[vs,hdq,hx,Nh]
  have hfin:=fin vs w' hfact a' w' hfE hdf' (by rw[hvq];exact hox);have hle:N<=l.length:=by simpa using hr.le
  have e:=wpOpsIn_eq_wpListIn (F:=fe r) (n:=0) (P:=P) (Q:=Q) (ops:=l.toArray) (l.drop N) N (λj=>by simp);rw[EB] at e;rw[Ul,e];exact hfin
 ·unfold Dp;simp
 ·intro j o hj hjl;exfalso;rw[GO] at hjl;split at hjl<;>simp at hjl
 ·intro i hi his;rw[GO,if_pos his]
 ·exfalso;rw[GO] at h;split at h<;>simp at h
 ·intro i hi hil;exfalso;rw[GO] at hil;split at hil<;>simp at hil
theorem qM{id:Nat}{l:List Oper}(N q:Nat)(S:List L0)(H1:Value->List C2)(hm:P.follows .mixedOrders=true)(hB:Jk l.toArray N=true)(hq:Nat.blt q N=true)(hin:Gz l.toArray n=true)(hst:Jd S)
  (steps:FN P n (x3 (BX l.toArray N) E) C H H1 l.toArray S q N 0 l)
  (fin:∀(vs:Nat->Value) (w1:B6),X5 S vs (List.range N) w1->At n (U1 l.toArray S vs (List.range N) (x3 (BX l.toArray N) E)) C (H1 (vs q)) (D3 r P l.toArray Q (l.drop N))):
  At n E C H (F8 r P (Code.region id l.toArray true) Q):=λa w hf hdf ho=>
 ap0 N q S H1 hm hB hq OP hin hst steps fin a w ⟨hf.size,λt v h=>hf.get t v (PP h)⟩ hdf ho
theorem YY{S:List L0}{q j:Nat}{l:List Oper}:FN P n E C H H1 ops S q 0 j l:=trivial
theorem gO{S:List L0}{q m j:Nat}{o:Oper}{rest:List Oper}(hj:Nat.beq j q=true)(hg:o.guard=none)(h1:∀vs:Nat->Value,WA P n (U1 ops S vs (M4 o) E) C H H1 (X5 S vs (M4 o)) ops S q o)(h2:FN P n E C H H1 ops S q m (j+1) rest):
  FN P n E C H H1 ops S q (m+1) j (o::rest):=⟨⟨hg,.inl ⟨hj,h1⟩⟩,h2⟩
theorem Fo{S:List L0}{q m j:Nat}{o:Oper}{rest:List Oper}(hj:Nat.beq j q=false)(hg:o.guard=none)(hr:Eb ops ops.size q j=true)(h1:∀vs:Nat->Value,Bk P n (U1 ops S vs (M4 o) E) C H (X5 S vs (M4 o)) o (M9 S j))(h2:FN P n E C H H1 ops S q m (j+1) rest):
  FN P n E C H H1 ops S q (m+1) j (o::rest):=⟨⟨hg,.inr ⟨hj,.inr h1,.inl hr⟩⟩,h2⟩
theorem QJ{S:List L0}{q m j:Nat}{o:Oper}{rest:List Oper}(hj:Nat.beq j q=false)(hg:o.guard=none)(hr:Eb ops ops.size j q=true)(h1:∀vs:Nat->Value,Bk P n (U1 ops S vs (M4 o) E) C (H1 (vs q)) (X5 S vs (M4 o)) o (M9 S j))(h2:FN P n E C H H1 ops S q m (j+1) rest):
  FN P n E C H H1 ops S q (m+1) j (o::rest):=⟨⟨hg,.inr ⟨hj,.inl hr,.inr h1⟩⟩,h2⟩
theorem Zu{S:List L0}{q m j:Nat}{o:Oper}{rest:List Oper}(hj:Nat.beq j q=false)(hg:o.guard=none)(h1:∀vs:Nat->Value,Bk P n (U1 ops S vs (M4 o) E) C H (X5 S vs (M4 o)) o (M9 S j))(h3:∀vs:Nat->Value,Bk P n (U1 ops S vs (M4 o) E) C (H1 (vs q)) (X5 S vs (M4 o)) o (M9 S j))(h2:FN P n E C H H1 ops S q m (j+1) rest):
  FN P n E C H H1 ops S q (m+1) j (o::rest):=⟨⟨hg,.inr ⟨hj,.inr h1,.inr h3⟩⟩,h2⟩
def SJ(b q:Nat):Nat->List L0->Prop
 |_,[]=>True
 |j,s::S=>(Nat.beq j q=true\/s.old b)/\SJ b q (j+1) S
theorem cD{b q:Nat}:∀{S:List L0} {j:Nat},SJ b q j S->∀k,j+k≠q->(M9 S k).old b
 |[],_,_,k,_=>by simp[M9,L0.old]
 |s::S,j,h,0,hk=>h.1.resolve_left (λhb=>hk (by have:=DK hb;omega))
 |s::S,j,h,k+1,hk=>by
  have:=cD h.2 k (by omega);simpa[M9] using this
theorem sQ{S:List L0}{q b:Nat}{w w':B6}(hF:M0 w (λk=>k<b) w')(h:SJ b q 0 S):Lh ops S q w w':=λj hj _ u hu=>L0.oU (cD h j (by omega)) hF hu
section
variable{ty t:TypeId}{pos:String}{after:Array Edge}{x y:Operand}{dst:Option Tmp}
theorem al3{i e sz by' m k c:Nat}{v:Value}{A:Addr}{xs news:H2}{w:B6}(hT:HG P t e sz by'=true)(ho:B7 C H w)(hi:H[i]?=some (.row v e sz m xs))
  (hl:news.length=k*sz)(hn:∀j u,news[j]?=some u->w.cell? (A.add j)=some u)(h1:∀u∈news,u.oneCell'=true)(hb:m+k<=maxLen/\(m+k)*by'<=140737488355328):
  ∃v' w',(Builtin.append_ #[t,t] ty #[v,.slice (some A) k c]).run P w=.ok v' w'/\v'.oneCell'=true/\B7 C (H.set i (.row v' e sz (m+k) (xs++news))) w'/\M0 w (λb=>b∈(C2.row v e sz m xs).blocks) w':=by
 obtain⟨hu,i',z,q1,q2,q3,q4,q5,q6⟩:=QI hT;obtain⟨v',w',hr,h2,h3,h4⟩:=run_append_own (P:=P) w 0 t ty e i' z sz by' hu q1 q5 q2 q3 q6 q4 v m xs (ho.rowAt hi) A k c news hl hn h1 hb.1 hb.2 (R5 _);have hown:∀b∈(C2.row v' e sz (m+k) (xs++news)).blocks,b∈(C2.row v e sz m xs).blocks\/w.heap.size<=b:=by
  intro b hbb;rcases w7 b w.heap.size with hlt|hge
  ·left;rcases(ho.rowAt hi).2 with⟨rfl,rfl⟩|⟨g0,cap,cur,rfl,hbg,hg,rest0⟩
   ·obtain⟨v2,w2,hr2,h22,_,_⟩:=run_append_own (P:=P) w w.heap.size t ty e i' z sz by' hu q1 q5 q2 q3 q6 q4 (.slice none 0 0) 0 xs ⟨(ho.rowAt hi).1,.inl ⟨rfl,rfl⟩⟩ A k c news hl hn h1 hb.1 hb.2 (L6 _);rw[hr] at hr2;cases hr2;have:=h22.lt b (by simpa[C2.blocks] using hbb);omega
   ·by_cases hroom:m+k<=cap
    ·obtain⟨w3,hr3,_⟩:=run_append_fits (P:=P) w 0 t ty e i' sz hu q1 q2 g0 m cap xs (ho.rowAt hi) A k c news hl hn h1 hroom;rw[hr] at hr3;cases hr3;simpa[C2.blocks,Value.ownBlock] using hbb
    ·have hr3:=run_append_grow (P:=P) w t ty e i' z hu q1 q5 ⟨g0,0,none⟩ m cap xs (by rw[q2];exact(ho.rowAt hi).1) ((ho.rowAt hi).cells (g:=g0) rfl) A k c news (by rw[q2];exact hl) hn (by omega) (by have:=hb.1;simp only[maxLen] at this;omega) (growslice_fits (by omega) (by rw[q3];exact hb.2));rw[hr] at hr3;cases hr3;simp[C2.blocks,Value.ownBlock] at hbb;omega
  ·exact .inr hge
 exact⟨v',w',hr,Kp h2,ho.swap hi (Ns h3) h2 hown,Ns h3⟩
def Tf:L0:=.rel λv _=>v.oneCell'=true
theorem bH:Tf.stab:=λ_ _ _ h _=>h
theorem dO{w:B6}{b e k:Nat}{cs:H2}{v:Value}(h:OL b e k cs v w):∃A c,some v=some (.slice (some A) k c)/\∀j u,cs[j]?=some u->w.cell? (A.add j)=some u:=by
 obtain⟨g,_,rfl,h2⟩:=h;refine⟨⟨g,0,none⟩,k,rfl,λj u hu=>?_⟩;have hadd:(⟨g,0,none⟩:Addr).add j=⟨g,j,none⟩:=by unfold Addr.add;split<;>simp_all
 rw[hadd,cell_of_row w g j _ e (0,0) h2];simpa using hu
theorem Yl{X:B6->Prop}{S:List L0}{q i e sz by' m k:Nat}{v:Value}{xs news:H2}(hS:M9 S q=Tf)(hT:HG P t e sz by'=true)(hx:ev E x=some v)(hi:H[i]?=some (.row v e sz m xs))
  (hy:∀w,B7 C H w->X w->∃A c,ev E y=some (.slice (some A) k c)/\∀j u,news[j]?=some u->w.cell? (A.add j)=some u)
  (hl:news.length=k*sz)(h1:(news.all (·.oneCell'))=true)(hb:m+k<=maxLen/\(m+k)*by'<=140737488355328)(hold:∀b∈F1 H,b<C.w.heap.size)(hoth:SJ C.w.heap.size q 0 S):
  WA P n E C H (λv'=>H.set i (.row v' e sz (m+k) (xs++news))) X ops S q ⟨dst,.call ⟨.builtin .append,#[x,y],#[t,t]⟩,ty,pos,after,none⟩:=by
 intro a w hf ho hX;obtain⟨A,c,hy',hn⟩:=hy w ho hX;obtain⟨v',w',hr,h2,h3,h4⟩:=al3 (P:=P) (ty:=ty) (c:=c) hT ho hi hl hn (λu hu=>f5.1 h1 u hu) hb;have hsub:∀b∈(C2.row v e sz m xs).blocks,b∈F1 H:=λb hb'=>Bm.2 ⟨_,CP hi,hb'⟩;refine .inl ⟨v',w',?_,h3,sQ (h4.mono λb _ hb'=>hold b (hsub b hb')) hoth,by rw[hS];exact h2⟩;have hm:(#[x,y]:Array Operand).map a.eval= #[v,.slice (some A) k c]:=by simp[hf.eval hx,hf.eval hy']
 simp only[execOp,resolve,hm];simp only[invoke,builtin,Sem.run_bind,Sem.run_pure,Result.andThen_ok,hr]
end
end
section
variable{P:Program}{r:Option Nat}{n:Nat}{E:List (Nat×Value)}{C:I3}{H:List C2}{Q:Exit->Act->World->Prop}{K:Act->World->Prop}
theorem B7.pJ{W1 w:B6}{H0:List C2}(h1:B7 C H0 W1)(h2:B7 (C.re W1 H0) H w):B7 C H w:=
 ⟨h2.X4,h1.base.trans h2.base λk hk hF=>((h1.X8 k hF).2).elim (λh=>absurd h (by omega)) (λh=>h),h2.ok,h2.nodup,
  λk hk=>⟨(h2.X8 k hk).1,(h2.X8 k hk).2.elim (λh=>.inl (j7 h1.base.size h)) (λh=>(h1.X8 k h).2)⟩,h2.sub,h2.mark⟩
theorem oQ{W1:B6}{H0:List C2}(h1:B7 C H0 W1)(k:At n E C H K):At n E (C.re W1 H0) H K:=x4 (C:=C.re W1 H0) (C':=C) (H':=H) rfl (λw h2=>h1.pJ h2) k
theorem bA{id:Nat}{l:List Oper}(N q:Nat)(S:B6->List L0)(H1:Value->List C2)(hm:P.follows .mixedOrders=true)(hB:Jk l.toArray N=true)(hq:Nat.blt q N=true)(hin:Gz l.toArray n=true)(hst:∀W1,Jd (S W1))
  (steps:∀W1,B7 C H W1->(∀k∈F1 H,k<W1.heap.size)->FN P n (x3 (BX l.toArray N) E) (C.re W1 H) H H1 l.toArray (S W1) q N 0 l)
  (fin:∀(W1:B6) (vs:Nat->Value) (w1:B6),X5 (S W1) vs (List.range N) w1->At n (U1 l.toArray (S W1) vs (List.range N) (x3 (BX l.toArray N) E)) C (H1 (vs q)) (D3 r P l.toArray Q (l.drop N))):
  At n E C H (F8 r P (Code.region id l.toArray true) Q):=
 wR λW1 h1 hold=>qM N q (S W1) H1 hm hB hq hin (hst W1) (steps W1 h1 hold) λvs w1 hf=>oQ h1 (fin W1 vs w1 hf)
end
section
attribute [local irreducible] F8 D3 Exit.then Exit.inBlock Exit.noGoto wpQuiet Calls fin At G9 L3 L7 RQ
theorem Zz{p:Int->Bool}{s:C9}{m:Nat}(h:m<s.length)(hp:p (J6 s m)=true):0<(P3 p (s.drop m)).length:=by
 obtain⟨b,h1,h2⟩:=Jm h;rw[h1];unfold P3;rw[JD,if_pos (by rw[<-h2];exact hp)];simp
theorem XS(s:C9):∀(f m:Nat) (acc:C9),s.length-m<=f->m<=s.length->m<=(Ak (s.drop m) acc m).2.2/\(Ak (s.drop m) acc m).2.2<=s.length
 |0,m,acc,hf,hm=>by
  rw[JE (by omega)];exact⟨L6 _,hm⟩
 |f+1,m,acc,hf,hm=>by
  by_cases hml:m<s.length
  ·obtain⟨b,h1,-⟩:=Jm hml;have ih1:=XS s f (m+1) (acc++[b]) (by omega) (by omega);rw[h1,LQ];split
   ·split
    ·dsimp only;omega
    ·dsimp only;omega
   ·split
    ·dsimp only;omega
    ·split
     ·omega
     ·by_cases hm1:m+1<s.length
      ·obtain⟨c,h2,-⟩:=Jm hm1;have ih2:=XS s f (m+1+1) (acc++[Ch c]) (by omega) (by omega);rw[h2];dsimp only;split
       ·dsimp only;omega
       ·rw[show m+2=m+1+1 from rfl];omega
      ·rw[JE (by omega)];dsimp only;omega
  ·rw[JE (by omega)];exact⟨L6 _,hm⟩
theorem ar7{r:C9}(h:r≠[])(he:(BU r).2.1=0):0<(BU r).2.2:=by
 unfold BU at he⊢;split
 ·simp
 ·rename_i hn;rw[hn] at he;dsimp only at he;split
  ·simp
  ·rename_i hc;rw[if_neg hc] at he;simp at he
theorem aa4{r:C9}(h:r≠[]):(BU r).2.2<=r.length:=by
 unfold BU;split
 ·rename_i p hp;have h1:=List.find?_some hp;have h2:=dP h1;have:∀x∈AF,x.length=2:=by decide
  have:=this p (List.mem_of_find?_eq_some hp);dsimp only;omega
 ·split
  ·cases r with
   |nil=>exact absurd rfl h
   |cons=>simp
  ·simp
theorem at5{s:C9}{m:Nat}(h:m<s.length):(Au s m).2.2<=s.length/\((Au s m).2.1=0->m<(Au s m).2.2):=by
 have hne:s.drop m≠[]:=by
  intro e;have:=congrArg List.length e;simp at this;omega
 unfold Au;split
 ·rename_i hl;have h1:=LC k7 s m (by omega);have h2:=Zz (p:=k7) h (by simp[k7,hl]);exact⟨h1,λ_=>by dsimp only;omega⟩
 ·split
  ·rename_i hd;have h1:=LC Z1 s m (by omega);have h2:=Zz (p:=Z1) h hd;exact⟨h1,λ_=>by dsimp only;omega⟩
  ·split
   ·have:=XS s (s.length-(m+1)) (m+1) [] (L6 _) (by omega);exact⟨this.2,λ_=>by omega⟩
   ·refine⟨?_,λhe=>?_⟩
    ·have:=aa4 hne;rw[EB] at this;dsimp only;omega
    ·have:=ar7 hne he;dsimp only;omega
theorem Yi{s:C9}{n:Nat}(h:n<=s.length):(m7 s n).2.2.2<=s.length/\((m7 s n).2.2.1=true->(m7 s n).2.1=0->n<(m7 s n).2.2.2):=by
 have hle:=LV false (s.drop n);rw[EB] at hle;unfold m7;dsimp only;split
 ·exact⟨by dsimp only;omega,λh=>by cases h⟩
 ·have:=at5 (s:=s) (m:=n+j6 false (s.drop n)) (by omega);exact⟨this.1,λ_ he=>Nat.lt_of_le_of_lt (Un _ _) (this.2 he)⟩
def Fw(s:List UInt8):Nat->Nat->List G8->Option (List G8)
 |0,_,_=>none
 |f+1,n,acc=>
  if(m7 s n).2.2.1=false then some (acc++[⟨0,s.length,[],0⟩])
  else if(m7 s n).2.1≠0 then none
  else if acc.length=1024 then none
  else Fw s f (m7 s n).2.2.2 (acc++[(m7 s n).1])
def Aq0(s:List UInt8):Option (List G8):=if 4096<s.length then none else Fw s (s.length+1) 0 []
def y5(L:List G8):List Value:=L.flatMap K9
theorem fR(L:List G8)(t:G8):y5 (L++[t])=y5 L++K9 t:=by simp[y5]
theorem xM:Ae prog 80=some ([.string (bs []),.int .i64 0,.slice none 0 0],[(0,1),(1,1),(2,1)]):=by kernel_rfl
theorem LU{l:H2}(h:(l.all (·.oneCell'))=true):∀u∈l,u.oneCell'=true:=λu hu=>f5.1 h u hu
theorem Xj(s:C9)(w:B6):
  Calls prog 12 #[.string (bs s)] w λe w'=>∃v c p,e=.returned (.tuple #[v,.int .i64 c,.int .i64 p])/\Below w.heap.size w w'/\
   match Aq0 s with
   |some L=>c=0/\w'.ownsRow w.heap.size TK 4 v L.length (y5 L)
   |none=>c≠0/\(c=5\/s.length<=4096)/\v=.slice none 0 0:=by
 refine J5 func12 O ntmps12 O ?_;obtain⟨X,hX⟩:∃X,Aq0 s=X:=⟨_,rfl⟩
 rw[hX];unfold Aq0 at hX;by_cases h4:4096<s.length
 ·rw[if_pos h4] at hX;subst hX;refine A3<|E6 O<|E6 O<|A5 O<|B5<|A4 O<|n4 O<|Q7 O<|A6<|E7 O (by omega)<|A3<|E6 O<|E6 O<|A5 O<|D4<|K0<|JN O O O O O λw9 ho9=>?_;exact⟨_,_,_,rfl,ho9.plain,by decide,.inl rfl,rfl⟩
 rw[if_neg h4] at hX;have hs5:s.length<=5000:=by omega
 refine A3<|E6 O<|E6 O<|A5 O<|B5<|A4 O<|n4 O<|Q7 O<|A6<|E0 O (by omega)<|D6<|B4 O<|B9 (O7 [.string (bs s),.int .i64 0,.slice none 0 0] xM O) O<|F0 O λgz0=>A5 O<|C7 ?_;obtain⟨gX,rfl⟩:∃g,g=gz0:=⟨_,rfl⟩
 refine l9 (σ:=Nat×Nat×List G8×Value) (λq=>q.2.1<=s.length/\s.length-q.2.1<q.1/\Fw s q.1 q.2.1 q.2.2.1=X/\q.2.2.2.oneCell'=true/\q.2.2.1.length<=1024) (λq=>[(0,.string (bs s)),(5,.pointer (some ⟨gX,0,none⟩))]) (λq=>[.row q.2.2.2 TK 4 q.2.2.1.length (y5 q.2.2.1),.B1 gX LX #[.string (bs s),.int .i64 q.2.1,q.2.2.2]]) (λq=>s.length-q.2.1)
  (λw ho=>⟨(s.length+1,0,[],.slice none 0 0),⟨R5 _,by simp only[];omega,hX,rfl,by simp⟩,⟨rfl,rfl,trivial⟩,ho.Vv TK 4⟩) ?_
 rintro⟨f,n,acc,v⟩ ⟨hn,hf,hR,hv,h1024⟩;dsimp only at hn hf hR hv h1024⊢;cases f with
 |zero=>exact absurd hf (by omega)
 |succ f=>
 have cN:∀{w'},B7 (J1 w' [lexB gX s n v]) [lexB gX s n v] w'->Calls prog 21 #[.pointer (some ⟨gX,0,none⟩)] w' λe w3=>∃_:Unit,e=.returned (.tuple #[By (m7 s n).1,.int .i64 (m7 s n).2.1,.bool (m7 s n).2.2.1])/\O0 w' (λk=>k∈F1 [lexB gX s n v]) [lexB gX s (m7 s n).2.2.2 v] w3:=λho=>(aj5 gX n s v _ hn hs5 hv ho).mono λe w3 h=>⟨(),h⟩
 have hend:=Yi hn;rw[Fw] at hR;obtain⟨⟨⟨k0,p0,s0,n0⟩,e0,b0,m0⟩,hY⟩:∃Y,m7 s n=Y:=⟨_,rfl⟩
 rw[hY] at cN hend hR;dsimp only at cN hend hR;unfold lexB at cN;cases b0
 ·rw[if_pos rfl] at hR;subst hR;refine C7<|B4 O<|W7 (ι:=Unit) (f:=21) [.row v TK 4 acc.length (y5 acc)] [.B1 gX LX #[.string (bs s),.int .i64 n,v]] (λ_=>.tuple #[By ⟨k0,p0,s0,n0⟩,.int .i64 e0,.bool false]) (λ_=>[.B1 gX LX #[.string (bs s),.int .i64 m0,v]]) O (A7 O) (λw _ ho=>cN ho) O O λ_=>A4 O<|G1 O<|G1 O<|G1 O<|E3 W9 O λgz0=>E8 0 ((K9 ⟨k0,p0,s0,n0⟩).toArray) O<|E6 O<|A5 O<|C8<|C7<|B4 O<|J7 O<|A5 O<|R1 O<|B4 O<|E5 O<|B2 2 O<|A4 O<|n4 O<|B9 (O7 (K9 ⟨0,s.length,[],0⟩) Cz O) O<|N7 [By ⟨0,s.length,[],0⟩] (K9 ⟨0,s.length,[],0⟩) O λgl=>CT 2 _ 4 40 _ 1 (K9 ⟨0,s.length,[],0⟩) (A:=⟨gl,0,none⟩) (by kernel_rfl) O (λw ho=>BI ho (i:=0) rfl) (LU rfl) (by simp only[maxLen];omega) O λv9 hv9=>E6 O<|E6 O<|A5 O<|K3<|U3<|DO<|JN O O O O O λw9 ho9=>?_;refine⟨_,_,_,rfl,ho9.plain,rfl,?_⟩;rw[fR,J8];exact ho9.GY (.tail _ (.tail _ (.head _)))
 rw[if_neg (by simp)] at hR;by_cases he:e0=0
 ·rw[if_neg (λh=>h he)] at hR;subst he;by_cases hl:acc.length=1024
  ·rw[if_pos hl] at hR;subst hR;refine C7<|B4 O<|W7 (ι:=Unit) (f:=21) [.row v TK 4 acc.length (y5 acc)] [.B1 gX LX #[.string (bs s),.int .i64 n,v]] (λ_=>.tuple #[By ⟨k0,p0,s0,n0⟩,.int .i64 0,.bool true]) (λ_=>[.B1 gX LX #[.string (bs s),.int .i64 m0,v]]) O (A7 O) (λw _ ho=>cN ho) O O λ_=>A4 O<|G1 O<|G1 O<|G1 O<|E3 W9 O λgz0=>E8 0 ((K9 ⟨k0,p0,s0,n0⟩).toArray) O<|E6 O<|A5 O<|C8<|C7<|B4 O<|J7 O<|A5 O<|M8 O<|B4 O<|J3 O<|A5 O<|E0 O (by omega)<|B4 O<|E5 O<|B2 2 O<|BA 1 O<|Q9 O (by omega)<|C8<|R2 (by kernel_rfl)<|I1 O<|J4 0 O<|o6 O<|o6 O<|o6 O<|R4<|E2<|K3<|U3<|DO<|JN O O O O O λw9 ho9=>?_;exact⟨_,_,_,rfl,ho9.plain,by decide,.inl rfl,rfl⟩
  ·rw[if_neg hl] at hR;refine C7<|B4 O<|W7 (ι:=Unit) (f:=21) [.row v TK 4 acc.length (y5 acc)] [.B1 gX LX #[.string (bs s),.int .i64 n,v]] (λ_=>.tuple #[By ⟨k0,p0,s0,n0⟩,.int .i64 0,.bool true]) (λ_=>[.B1 gX LX #[.string (bs s),.int .i64 m0,v]]) O (A7 O) (λw _ ho=>cN ho) O O λ_=>A4 O<|G1 O<|G1 O<|G1 O<|E3 W9 O λgz0=>E8 0 ((K9 ⟨k0,p0,s0,n0⟩).toArray) O<|E6 O<|A5 O<|C8<|C7<|B4 O<|J7 O<|A5 O<|M8 O<|B4 O<|J3 O<|A5 O<|E0 O (by omega)<|B4 O<|E5 O<|B2 2 O<|BA 1 O<|C3 O (by omega)<|P5<|F4<|E2 ?_;rotate_left;refine bA 10 7 (λW1=>[.val (.pointer (some ⟨gX,0,none⟩)),.val (.pointer (some ⟨gX,0,none⟩)),.val (.pointer (some ⟨gX,0,none⟩)),.val (.pointer (some ⟨gX,2,none⟩)),.val v,.val (By ⟨k0,p0,s0,n0⟩),.rel (OL W1.heap.size TK 1 (K9 ⟨k0,p0,s0,n0⟩)),Tf,.val (.pointer (some ⟨gX,0,none⟩)),.val (.pointer (some ⟨gX,2,none⟩))])
    (λv'=>[.B1 gz0 TK (K9 ⟨k0,p0,s0,n0⟩).toArray,.row v' TK 4 (acc.length+1) (y5 acc++K9 ⟨k0,p0,s0,n0⟩),.B1 gX LX #[.string (bs s),.int .i64 m0,v]]) (by kernel_rfl) (by kernel_rfl) rfl rfl (λW1=>⟨trivial,trivial,trivial,trivial,trivial,trivial,ZF _ _ _ _,bH,trivial,trivial,trivial⟩) (λW1 hW1 hold=>?_) (λW1 vs w1 hfact=>?_)
   ·refine Zu O O (λvs=>D0 (H8 O)) (λvs=>D0 (H8 O))<|Fo O O O (λvs=>D0 (H8 O))<|Fo O O O (λvs=>D0 (N1 O))<|Fo O O O (λvs=>D0 (I8 2 O))<|Fo O O O (λvs=>D0 (K1 2 O))<|Fo O O O (λvs=>D0 (FY 0 (k:=4) O))<|Fo O O O (λvs=>ZQ (e:=TK) (sz:=4) (vs:=[By ⟨k0,p0,s0,n0⟩]) (cs:=K9 ⟨k0,p0,s0,n0⟩) (by kernel_rfl) O O O O O)<|gO O O (λvs=>Yl (i:=1) (e:=TK) (sz:=4) (by':=40) (m:=acc.length) (k:=1) (v:=v) (xs:=y5 acc) (news:=K9 ⟨k0,p0,s0,n0⟩) rfl (by kernel_rfl) rfl rfl (λw ho hx=>dO hx.1) rfl rfl (by simp only[maxLen];omega) hold ⟨.inr trivial,.inr trivial,.inr trivial,.inr trivial,.inr trivial,.inr trivial,.inr (fE _ _ _ _),.inl rfl,.inr trivial,.inr trivial,trivial⟩)<|QJ O O O (λvs=>D0 (N1 O))<|QJ O O O (λvs=>D0 (I8 2 O)) ?_;exact YY
   ·have hv9:(vs 7).oneCell'=true:=hfact.2.1;refine Ai (E':=[(55,vs 7),(57,.pointer (some ⟨gX,2,none⟩)),(0,.string (bs s)),(5,.pointer (some ⟨gX,0,none⟩))]) ⟨rfl,rfl,rfl,rfl,trivial⟩ ?_;generalize vs 7=v9 at hv9⊢;refine Ce (i:=2) (by kernel_rfl) O O (by assumption) O O<|H6<|F4<|E2 ?_;rotate_left;refine W5 λw ho=>⟨(f,m0,acc++[⟨k0,p0,s0,n0⟩],v9),⟨hend.1,by have:=hend.2 rfl rfl;simp only[];omega,hR,hv9,by simp;omega⟩,by have:=hend.2 rfl rfl;simp only[];omega,⟨rfl,rfl,trivial⟩,rfl,?_⟩
    rw[fR,J8];exact ho.sublist (.cons _ (Q5 _))
 ·rw[if_pos he] at hR;subst hR;exact C7<|B4 O<|W7 (ι:=Unit) (f:=21) [.row v TK 4 acc.length (y5 acc)] [.B1 gX LX #[.string (bs s),.int .i64 n,v]] (λ_=>.tuple #[By ⟨k0,p0,s0,n0⟩,.int .i64 e0,.bool true]) (λ_=>[.B1 gX LX #[.string (bs s),.int .i64 m0,v]]) O (A7 O) (λw _ ho=>cN ho) O O λ_=>A4 O<|G1 O<|G1 O<|G1 O<|E3 W9 O λgz0=>E8 0 ((K9 ⟨k0,p0,s0,n0⟩).toArray) O<|E6 O<|A5 O<|C8<|C7<|B4 O<|J7 O<|A5 O<|M8 O<|B4 O<|J3 O<|A5 O<|E7 O (by omega)<|C8<|R2 (by kernel_rfl)<|G3 O<|I1 O<|J4 0 O<|o6 O<|o6 O<|o6 O<|R4<|E2<|K3<|U3<|DO<|JN O O O O O λw9 ho9=>⟨_,_,_,rfl,ho9.plain,he,.inr (by omega),rfl⟩
end
section
variable{P:Program}{r:Option Nat}{n:Nat}{E:List (Nat×Value)}{C:I3}{H:List C2}{Q:Exit->Act->World->Prop}{K:Act->World->Prop}{ops:Array Oper}{rest:List Oper}
variable{dst:Option Tmp}{ty t xT:TypeId}{pos:String}{after:Array Edge}{g:Option (Nat×Bool)}{x y:Operand}{ch:List PanicEntry}
theorem I7(h:At n E C H (Q (.panic ch))):At n E C H (Exit.then K Q (.panic ch)):=h
theorem j5{id:Nat}(h:At n E C H (Q (.panic ch))):At n E C H (Exit.inBlock id Q (.panic ch)):=h
theorem M6{fn:Func}{R:Ending->B6->Prop}(hm:C.marks=[])(h:∀w,B7 C H w->R (.panicked ch) w):At n E C H (fin P fn R (.panic ch)):=by
 intro a w hf hd ho;have hd':a.defers=[]:=by unfold DF at hd;rw[hd,hm];rfl
 show LeavesInM _ _ _ _ _ _ a.defers _ _;rw[hd'];exact h w ho
def Rx(P:Program)(t:TypeId):Bool:=match P.underlying t with
 |some (.interface _)=>false
 |some _=>true
 |none=>false
theorem sW{v:Value}(hT:Rx P t=true)(hx:ev E x=some v):L1 P n E C H ⟨dst,.makeInterface t x,ty,pos,after,g⟩ (.iface t v):=by
 intro a w hf ho;unfold Rx at hT;have h1:(Instr.makeInterface t v).run P w=.ok (.iface t v) w:=by
  unfold Instr.makeInterface;split at hT
  ·cases hT
  ·rename_i u hu hne;simp only[Sem.run_bind,run_underlying hne,Result.andThen_ok];rfl
  ·cases hT
 simp only[execOp,hf.eval hx,h1,Sem.run_bind,Result.andThen];rfl
theorem qR{tt:TypeId}{v:Value}(hx:ev E x=some (.iface tt v))(k:At n E C H (Q (.panic [{v:=.iface tt v,recovered:=false}]))):At n E C H (D3 r P ops Q (⟨none,.panic x,ty,pos,after,none⟩::rest)):=by
 intro a w hf hd ho;refine KN rfl rfl ?_;have h1:(execOp a.eval ⟨none,.panic x,ty,pos,after,none⟩).run P w=.halt (.panic (.iface tt v)) w:=by
  simp only[execOp,hf.eval hx];rfl
 rw[h1];exact k a w hf hd ho
end
abbrev Nd:Nat:=86
abbrev PT:Nat:=89
abbrev ND:Nat:=100
def Ii(c p:Int):List PanicEntry:=[{v:=.iface Nd (.agg #[.int .i64 c,.int .i64 p]),recovered:=false}]
structure F2 where
 kind:Int
 a:Int
 b:Int
 c:Int
 next:Int
 i:Int
 s:List UInt8
 t:List UInt8
 deriving DecidableEq
instance:Inhabited F2:=⟨⟨0,0,0,0,0,0,[],[]⟩⟩
def D7(m:F2):List Value:=[.int .i64 m.kind,.int .i64 m.a,.int .i64 m.b,.int .i64 m.c,.int .i64 m.next,.int .i64 m.i,.string (bs m.s),.string (bs m.t)]
def Hr(m:F2):Value:=.agg (D7 m).toArray
def L2(l:List F2):List Value:=l.flatMap D7
theorem ay8(l:List F2)(m:F2):L2 (l++[m])=L2 l++D7 m:=by simp[L2]
structure Aa(L:List G8):Prop where
 pos:0<L.length
 DW:L.length<=2000
 last:∀j,j<L.length->((L.getD j default).kind=0↔j=L.length-1)
def tk(L:List G8)(i:Nat):G8:=L.getD i default
def T5(g:Nat)(lv:Value)(L:List G8)(i:Nat)(nv:Value)(ns:List F2):List C2:=
 [.B1 g PT #[lv,.int .i64 i,nv,.int .i64 0],.row nv ND 8 ns.length (L2 ns),.row lv TK 4 L.length (y5 L)]
def LJ(g:Nat)(lv:Value)(L:List G8)(i0 n0:Nat)(w:World)(B:Nat->Prop)(Z:List C2){β:Type}(v:β->Value):Option (β×Nat×List F2)->Ending->World->Prop
 |some (x,i',ns'),e,w'=>∃nv,e=.returned (v x)/\(i0<=i'/\n0<=ns'.length)/\i'<L.length/\ns'.length<=512/\O0 w B (Z++T5 g lv L i' nv ns') w'
 |none,e,w'=>∃c p,c≠0/\e=.panicked (Ii c p)/\O0 w B [] w'
abbrev PX(β:Type):Type:=Nat->List F2->Option (β×Nat×List F2)
def Z9(f:Nat)(args:Nat->Array Value)(Z:Nat->List C2)(L:List G8){β:Type}(v:β->Value)(X:PX β):Prop:=
 ∀(g:Nat) (lv:Value) (i:Nat) (nv:Value) (ns:List F2) (w:World),i<L.length->ns.length<=512->B7 (J1 w (Z g++T5 g lv L i nv ns)) (Z g++T5 g lv L i nv ns) w->
  Calls prog f (args g) w (LJ g lv L i ns.length w (λk=>k∈F1 (Z g++T5 g lv L i nv ns)) (Z g) v (X i ns))
def Z0:Nat->List C2:=λ_=>[]
theorem O0.more{W w:B6}{B B':Nat->Prop}{H:List C2}(h:O0 W B H w)(hB:∀k,B k->B' k):O0 W B' H w:=by
 obtain⟨b,F,h⟩:=h;exact⟨b,F,h.X4.mono λk _ hk=>hB k hk,h.base,h.ok,h.nodup,λk hk=>⟨(h.X8 k hk).1.imp id (hB k),(h.X8 k hk).2⟩,λ_ h=>h,h.mark⟩
theorem Z9.wider{f:Nat}{args:Nat->Array Value}{Z:Nat->List C2}{L:List G8}{β:Type}{v:β->Value}{X:PX β}(h:Z9 f args Z0 L v X):Z9 f args Z L v X:=by
 intro g lv i nv ns w hi hn ho;have h0:B7 (J1 w (T5 g lv L i nv ns)) (T5 g lv L i nv ns) w:=(ho.sublist (Pd _ _)).Gl;have hp:B7 (J1 w (Z g++T5 g lv L i nv ns)) (T5 g lv L i nv ns++Z g) w:=ho.perm EC;refine(h g lv i nv ns w hi hn h0).mono λe w' he=>?_;cases hX:X i ns with
 |none=>
  rw[hX] at he;obtain⟨c,p,hc,rfl,hin⟩:=he;exact⟨c,p,hc,rfl,hin.more λk hk=>by rw[DY];exact Iz _ hk⟩
 |some q=>
  obtain⟨x,i',ns'⟩:=q;rw[hX] at he;obtain⟨nv',rfl,h01,h1,h2,hin⟩:=he;exact⟨nv',rfl,h01,h1,h2,_,_,(hp.Lc hin).perm EC⟩
section
variable{r:Option Nat}{n:Nat}{E:List (Nat×Value)}{C:I3}{H:List C2}{Q:Exit->Act->World->Prop}{ops:Array Oper}{rest:List Oper}
theorem ax1{α:Type}(H:List α)(a z k:Nat)(h:a+z<=k):H.take k=H.take a++((H.drop a).take z++(H.take k).drop (a+z)):=by
 conv=>lhs;rw[<-FZ a (H.take k)]
 rw[Rm,Pj (by omega)];congr 1
 conv=>lhs;rw[<-FZ z ((H.take k).drop a)]
 rw[JB,Uj,Rm,Pj (by omega)]
theorem aA{α:Type}(Z P A M:List α):((Z++P)++(A++M)).Perm ((A++(Z++M))++P):=by
 refine EC.trans ?_;rw[Q2,Q2];refine List.Perm.append_left A ?_;rw[<-Q2];exact List.Perm.append_right P EC
theorem Vu{β:Type}{d:Nat}{op:Op}{ty:TypeId}{pos:String}{after:Array Edge}{f g i:Nat}{args:Nat->Array Value}{lv nv:Value}{L:List G8}{ns:List F2}{v:β->Value}{X:PX β}{Z:Nat->List C2}(a z k:Nat)(hc:∀w,B7 (J1 w (Z g++T5 g lv L i nv ns)) (Z g++T5 g lv L i nv ns) w->Calls prog f (args g) w (LJ g lv L i ns.length w (λk=>k∈F1 (Z g++T5 g lv L i nv ns)) (Z g) v (X i ns)))(hH:H.drop k=T5 g lv L i nv ns)(hZ:(H.drop a).take z=Z g)
  (he:f0 prog n E C H ⟨some d,op,ty,pos,after,none⟩ f (args g))(hn:Op.X9 op=false)(hd:Nat.blt d n=true)
  (kp:∀c p,c≠0->X i ns=none->At n E C (H.take a++(H.take k).drop (a+z)) (Q (.panic (Ii c p))))
  (kk:∀x i' ns' nv',X i ns=some (x,i',ns')->(i<=i'/\ns.length<=ns'.length)->i'<L.length->ns'.length<=512->At n ((d,v x)::E) C (H.take k++T5 g lv L i' nv' ns') (D3 r prog ops Q rest))(hzk:Nat.ble (a+z) k=true:=by rfl):
  At n E C H (D3 r prog ops Q (⟨some d,op,ty,pos,after,none⟩::rest)):=by
 have hzk':a+z<=k:=by simpa using hzk
 intro act w hf hdf ho;refine KN rfl hn ?_;rw[he act w hf ho];have htk:=ax1 H a z k hzk';rw[hZ] at htk;have hs:H=(H.take a++(Z g++(H.take k).drop (a+z)))++T5 g lv L i nv ns:=by
  rw[<-htk,<-hH,FZ]
 generalize H.take a=A at*;generalize (H.take k).drop (a+z)=M at*;have hperm:((Z g++T5 g lv L i nv ns)++(A++M)).Perm H:=by
  conv=>rhs;rw[hs]
  exact aA _ _ _ _
 have ho2:=ho.perm hperm;have h0:B7 (J1 w (Z g++T5 g lv L i nv ns)) (Z g++T5 g lv L i nv ns) w:=(ho2.sublist (HB _ _)).Gl;rw[Oper.uponIn_enter];refine⟨λhd=>by simp[fe,Fence.wide] at hd,QE.2 ((hc w h0).mono λe w' he'=>?_)⟩;cases hX:X i ns with
 |none=>
  rw[hX] at he';obtain⟨c,p,hcp,rfl,hin⟩:=he';have hown:B7 C (A++M) w':=ho2.Lc hin;exact kp c p hcp hX act w' hf hdf hown
 |some q=>
  obtain⟨x,i',ns'⟩:=q;rw[hX] at he';obtain⟨nv',rfl,h01,h1,h2,hin⟩:=he';have hperm2:(H.take k++T5 g lv L i' nv' ns').Perm ((Z g++T5 g lv L i' nv' ns')++(A++M)):=by
   rw[htk];exact(aA _ _ _ _).symm
  have hown:B7 C (H.take k++T5 g lv L i' nv' ns') w':=(ho2.Lc hin).perm hperm2;exact kk x i' ns' nv' hX h01 h1 h2 _ w' (hf.put (d:=some d) (v:=v x) hd) (hdf.put _ _) hown
theorem PI{β:Type}{d:Nat}{op:Op}{ty:TypeId}{pos:String}{after:Array Edge}{f g i:Nat}{args:Nat->Array Value}{lv nv:Value}{L:List G8}{ns:List F2}{v:β->Value}{X:PX β}{Z:Nat->List C2}(a z k:Nat)(hc:∀w,B7 (J1 w (Z g++T5 g lv L i nv ns)) (Z g++T5 g lv L i nv ns) w->Calls prog f (args g) w (LJ g lv L i ns.length w (λk=>k∈F1 (Z g++T5 g lv L i nv ns)) (Z g) v (X i ns)))(hH:H.drop k=T5 g lv L i nv ns)(hZ:(H.drop a).take z=Z g)
  (he:f0 prog n E C H ⟨some d,op,ty,pos,after,none⟩ f (args g))(hn:Op.X9 op=false)(hd:Nat.blt d n=true)
  (kp:∀c p,c≠0->X i ns=none->At n E C [] (Q (.panic (Ii c p))))
  (kk:∀x i' ns' nv',X i ns=some (x,i',ns')->(i<=i'/\ns.length<=ns'.length)->i'<L.length->ns'.length<=512->At n ((d,v x)::E) C (H.take k++T5 g lv L i' nv' ns') (D3 r prog ops Q rest))(hzk:Nat.ble (a+z) k=true:=by rfl):
  At n E C H (D3 r prog ops Q (⟨some d,op,ty,pos,after,none⟩::rest)):=
 Vu a z k hc hH hZ he hn hd (λc p h1 h2=>Ol (Ea _) (kp c p h1 h2)) kk hzk
theorem O4{β:Type}{d:Nat}{op:Op}{ty:TypeId}{pos:String}{after:Array Edge}{f g i:Nat}{args:Nat->Array Value}{lv nv:Value}{L:List G8}{ns:List F2}{v:β->Value}{X:PX β}{Z:Nat->List C2}(a z k:Nat)(hc:Z9 f args Z L v X)(hi:i<L.length)(hn5:ns.length<=512)(hH:H.drop k=T5 g lv L i nv ns)(hZ:(H.drop a).take z=Z g)
  (he:f0 prog n E C H ⟨some d,op,ty,pos,after,none⟩ f (args g))(hn:Op.X9 op=false)(hd:Nat.blt d n=true)
  (kp:∀c p,c≠0->X i ns=none->At n E C [] (Q (.panic (Ii c p))))
  (kk:∀x i' ns' nv',X i ns=some (x,i',ns')->(i<=i'/\ns.length<=ns'.length)->i'<L.length->ns'.length<=512->At n ((d,v x)::E) C (H.take k++T5 g lv L i' nv' ns') (D3 r prog ops Q rest))(hzk:Nat.ble (a+z) k=true:=by rfl):
  At n E C H (D3 r prog ops Q (⟨some d,op,ty,pos,after,none⟩::rest)):=
 PI a z k (λw ho=>hc g lv i nv ns w hi hn5 ho) hH hZ he hn hd kp kk hzk
end
section
variable{g i0 n0:Nat}{lv:Value}{L:List G8}{w w':World}{B:Nat->Prop}{Z:List C2}{β:Type}{v:β->Value}{X:Option (β×Nat×List F2)}
theorem S8{x:β}{i':Nat}{ns':List F2}{u nv:Value}(hX:X=some (x,i',ns'))(hu:u=v x)(hi:i'<L.length)(hn:ns'.length<=512)(h:O0 w B (Z++T5 g lv L i' nv ns') w')(h0:i0<=i'/\n0<=ns'.length:=by omega):LJ g lv L i0 n0 w B Z v X (.returned u) w':=by
 subst hX hu;exact⟨nv,rfl,h0,hi,hn,h⟩
theorem M7{c p:Int}(hX:X=none)(hc:c≠0)(h:O0 w B [] w'):LJ g lv L i0 n0 w B Z v X (.panicked (Ii c p)) w':=by
 subst hX;exact⟨c,p,hc,rfl,h⟩
end
def p5{β:Type}(x:β):PX β:=λi ns=>some (x,i,ns)
def FE{β:Type}:PX β:=λ_ _=>none
def I2{α β:Type}(X:PX α)(f:α->PX β):PX β:=λi ns=>match X i ns with
 |none=>none
 |some (x,i',ns')=>f x i' ns'
def V5(s:List UInt8)(t:G8):Bool:=decide (t.kind=if BS s then 5 else 4)&&decide (t.s=s)
def AK(L:List G8)(s:List UInt8):PX Bool:=λi ns=>if V5 s (tk L i) then some (true,i+1,ns) else some (false,i,ns)
def f7(L:List G8):List (List UInt8)->PX Unit
 |[]=>p5 ()
 |s::l=>λi ns=>if V5 s (tk L i) then f7 L l (i+1) ns else none
def EF(L:List G8)(k:Int):PX G8:=λi ns=>if(tk L i).kind=k then some (tk L i,i+1,ns) else none
def l4(m:F2):PX Int:=λi ns=>if ns.length=512 then none else some ((ns.length:Int),i,ns++[m])
def Am(d:Nat):PX Unit:=λi ns=>if 16<d then none else some ((),i,ns)
def GT(L:List G8):PX Int:=λi ns=>if(tk L i).kind=2/\64<(tk L i).num then none else if(tk L i).kind=2 then some ((tk L i).num,i+1,ns) else none
def m8(k:Int):F2:=⟨k,-1,-1,-1,-1,0,[],[]⟩
def Qt:Unit->Value:=λ_=>.tuple #[]
section
variable{r:Option Nat}{n:Nat}{E:List (Nat×Value)}{C:I3}{H:List C2}{Q:Exit->Act->World->Prop}{ops:Array Oper}{rest:List Oper}
variable{β:Type}{d:Nat}{op:Op}{ty:TypeId}{pos:String}{after:Array Edge}{f g i:Nat}{args:Nat->Array Value}{lv nv:Value}{L:List G8}{ns:List F2}{v:β->Value}{X:PX β}{Z:Nat->List C2}
theorem V4(a z k:Nat){x:β}{i':Nat}{ns':List F2}(hc:Z9 f args Z L v X)(hi:i<L.length)(hn5:ns.length<=512)(hH:H.drop k=T5 g lv L i nv ns)(hZ:(H.drop a).take z=Z g)
  (he:f0 prog n E C H ⟨some d,op,ty,pos,after,none⟩ f (args g))(hn:Op.X9 op=false)(hd:Nat.blt d n=true)(hX:X i ns=some (x,i',ns'))
  (kk:∀nv',i'<L.length->ns'.length<=512->At n ((d,v x)::E) C (H.take k++T5 g lv L i' nv' ns') (D3 r prog ops Q rest))(hzk:Nat.ble (a+z) k=true:=by rfl):
  At n E C H (D3 r prog ops Q (⟨some d,op,ty,pos,after,none⟩::rest)):=
 O4 a z k hc hi hn5 hH hZ he hn hd (λc p _ h=>by rw[hX] at h;cases h) (λx' i2 ns2 nv' h _ h1 h2=>by
  rw[hX] at h;cases h;exact kk nv' h1 h2) hzk
theorem Ft(a z k:Nat)(hc:Z9 f args Z L v X)(hi:i<L.length)(hn5:ns.length<=512)(hH:H.drop k=T5 g lv L i nv ns)(hZ:(H.drop a).take z=Z g)
  (he:f0 prog n E C H ⟨some d,op,ty,pos,after,none⟩ f (args g))(hn:Op.X9 op=false)(hd:Nat.blt d n=true)(hX:X i ns=none)
  (kp:∀c p,c≠0->At n E C [] (Q (.panic (Ii c p))))(hzk:Nat.ble (a+z) k=true:=by rfl):
  At n E C H (D3 r prog ops Q (⟨some d,op,ty,pos,after,none⟩::rest)):=
 O4 a z k hc hi hn5 hH hZ he hn hd (λc p hcp _=>kp c p hcp) (λx' i2 ns2 nv' h _ h1 h2=>by rw[hX] at h;cases h) hzk
end
theorem Gg{L:List G8}(hL:Aa L){i:Nat}(hi:i<L.length)(h:(tk L i).kind≠0):i+1<L.length:=by
 have:=hL.last i hi;unfold tk at h;omega
theorem Tj{s:C9}{t:G8}(h:V5 s t=true):t.kind≠0:=by
 unfold V5 at h;simp only[j1,decide_eq_true_eq] at h;rw[h.1];split<;>decide
section
variable{r:Option Nat}{n:Nat}{E:List (Nat×Value)}{C:I3}{H:List C2}{Q:Exit->Act->World->Prop}{ops:Array Oper}{rest:List Oper}
variable{d:Nat}{op:Op}{ty:TypeId}{pos:String}{after:Array Edge}{f g i:Nat}{args:Nat->Array Value}{lv nv:Value}{L:List G8}{ns:List F2}{s:List UInt8}{Z:Nat->List C2}
theorem Hw(a z k:Nat)(hL:Aa L)(hc:Z9 f args Z L .bool (AK L s))(hi:i<L.length)(hn5:ns.length<=512)(hH:H.drop k=T5 g lv L i nv ns)(hZ:(H.drop a).take z=Z g)
  (he:f0 prog n E C H ⟨some d,op,ty,pos,after,none⟩ f (args g))(hn:Op.X9 op=false)(hd:Nat.blt d n=true)
  (kt:∀nv',V5 s (tk L i)=true->i+1<L.length->At n ((d,.bool true)::E) C (H.take k++T5 g lv L (i+1) nv' ns) (D3 r prog ops Q rest))
  (kf:∀nv',V5 s (tk L i)=false->At n ((d,.bool false)::E) C (H.take k++T5 g lv L i nv' ns) (D3 r prog ops Q rest))(hzk:Nat.ble (a+z) k=true:=by rfl):
  At n E C H (D3 r prog ops Q (⟨some d,op,ty,pos,after,none⟩::rest)):=by
 cases hT:V5 s (tk L i)
 ·exact V4 a z k hc hi hn5 hH hZ he hn hd (show AK L s i ns=some (false,i,ns) by simp[AK,hT]) (λnv' h1 h2=>kf nv' hT) hzk
 ·exact V4 a z k hc hi hn5 hH hZ he hn hd (show AK L s i ns=some (true,i+1,ns) by simp[AK,hT]) (λnv' h1 h2=>kt nv' hT (Gg hL hi (Tj hT))) hzk
end
section
attribute [local irreducible] F8 D3 Exit.then Exit.inBlock Exit.noGoto wpQuiet Calls fin At G9 L3 L7 RQ
theorem sF:Ae prog 100=some (D7 ⟨0,0,0,0,0,0,[],[]⟩,[(0,1),(1,1),(2,1),(3,1),(4,1),(5,1),(6,1),(7,1)]):=by kernel_rfl
theorem CA(k:Int)(w:B6):I6 104 #[.int .i64 k] w (Hr (m8 k)):=by
 refine J5 func104 O ntmps104 O<|A3<|E3 V2 O λgz0=>I9 O<|B9 (O7 (D7 (m8 k)) sF O) O<|E8 0 ((D7 (m8 k)).toArray) O<|A6<|D4<|EK (i:=0) (k:=8) O O O O (by kernel_rfl) O λw9 ho9=>?_;exact⟨rfl,ho9.plain⟩
theorem lF{w:B6}{C:I3}{H:List C2}{q gt c:Nat}{L:List G8}(ho:B7 C H w)(hq:H[q]?=some (.row (.slice (some ⟨gt,0,none⟩) L.length c) TK 4 L.length (y5 L))){i:Nat}(hi:i<L.length):
  ∀j u,(K9 (tk L i))[j]?=some u->w.cell? ((⟨gt,0+i*4,none⟩:Addr).add j)=some u:=by
 intro j u hu;have hj:j<4:=by simpa[K9] using(N5.1 hu).1
 have h1:=(ho.rowAt hq).cells (g:=gt) rfl (i*4+j) u ?_
 ·have e1:(⟨gt,0,none⟩:Addr).add (i*4+j)=⟨gt,i*4+j,none⟩:=by unfold Addr.add;split<;>simp_all
  have e2:(⟨gt,0+i*4,none⟩:Addr).add j=⟨gt,i*4+j,none⟩:=by unfold Addr.add;split<;>simp_all
  rw[e2,<-e1];exact h1
 ·have:∀(L:List G8) (i:Nat),i<L.length->(y5 L)[i*4+j]?=(K9 (tk L i))[j]?:=by
   intro L
   induction L with
   |nil=>intro i h;simp at h
   |cons t l ih=>
    intro i h;cases i with
    |zero=>
     rw[Nat.zero_mul,Y3];show(K9 t++y5 l)[j]?=_;rw[Fe (by simpa[K9] using hj)];rfl
    |succ i=>
     show(K9 t++y5 l)[(i+1)*4+j]?=_;rw[j4 (by simp[K9];omega)];have:=ih i (by simpa using h);rw[show(i+1)*4+j-(K9 t).length=i*4+j by simp[K9];omega,this];rfl
  rw[this L i hi,hu]
theorem If(L:List G8):Z9 51 (λg=> #[.pointer (some ⟨g,0,none⟩)]) Z0 L By (λi ns=>some (tk L i,i,ns)):=by
 intro g lv i nv ns w hi hn ho;refine G7 ho func51 O ntmps51 O ?_;unfold T5 at*;refine R7 2 O ?_;rintro⟨_,⟨_,h0⟩|⟨gt,c,rfl⟩⟩
 ·omega
 refine A3<|E3 W9 O λgz0=>A6<|C8 ?_;apply HX 10 [.val (.pointer (some ⟨g,0,none⟩)),.val (.pointer (some ⟨g,0,none⟩)),.val (.pointer (some ⟨g,0,none⟩)),.val (.slice (some ⟨gt,0,none⟩) L.length c),.val (.pointer (some ⟨g,0,none⟩)),.val (.pointer (some ⟨g,0,none⟩)),.val (.pointer (some ⟨g,1,none⟩)),.val (.int .i64 i),.val (.pointer (some ⟨gt,0+i*4,none⟩)),.val (By (tk L i))] (by kernel_rfl) (by kernel_rfl) rfl ⟨trivial,trivial,trivial,trivial,trivial,trivial,trivial,trivial,trivial,trivial,trivial⟩
 ·refine D5 O (λvs=>H8 O)<|D5 O (λvs=>N1 O)<|D5 O (λvs=>I8 0 O)<|D5 O (λvs=>K1 1 O)<|D5 O (λvs=>H8 O)<|D5 O (λvs=>N1 O)<|D5 O (λvs=>I8 1 O)<|D5 O (λvs=>K1 1 O)<|D5 O (λvs=>En 4 i O hi)<|D5 O (λvs=>Ip (vs:=K9 (tk L i)) (by kernel_rfl) O (λw' ho=>lF ho (q:=3) rfl hi)) ?_;exact l6
 ·intro vs;refine Ai (E':=[(2,.pointer (some ⟨gz0,0,none⟩)),(12,By (tk L i))]) ⟨rfl,rfl,trivial⟩<|E8 0 ((K9 (tk L i)).toArray) O<|A6<|D4<|EK (i:=0) (k:=4) O O O O (by kernel_rfl) O λw9 ho9=>?_;exact S8 rfl rfl hi hn ⟨_,_,ho9.sublist (L9 ..)⟩
theorem ay3:Ae prog 86=some ([.int .i64 0,.int .i64 0],[(0,1),(1,1)]):=by kernel_rfl
theorem KU(L:List G8)(e:Int)(he:e≠0):Z9 52 (λg=> #[.pointer (some ⟨g,0,none⟩),.int .i64 e]) Z0 L Qt FE:=by
 intro g lv i nv ns w hi hn ho;refine G7 ho func52 O ntmps52 O<|C5<|A4 O<|A4 O<|V4 0 0 0 (i:=i) (x:=(tk L i)) (i':=i) (ns':=ns) (If L) hi hn O O (A7 O) O O O λv6 hi6 hn6=>FJ 1 O (by kernel_rfl)<|B9 (O7 [.int .i64 e,.int .i64 (tk L i).pos] ay3 O) O<|B9 (sW (by kernel_rfl) O) O<|qR O<|M6 O λw9 ho9=>?_;exact M7 rfl he ⟨_,_,ho9.sublist (Ea _)⟩
theorem Oc(L:List G8)(d:Nat)(hd:d<=100):Z9 49 (λg=> #[.pointer (some ⟨g,0,none⟩),.int .i64 d]) Z0 L Qt (Am d):=by
 intro g lv i nv ns w hi hn ho;refine G7 ho func49 O ntmps49 O ?_;by_cases h:16<d
 ·exact B4 O<|Q7 O<|A6<|E7 O (by omega)<|C5<|A4 O<|Ft 0 0 0 (i:=i) (KU L 14 (by decide)) hi hn O O (A7 O) O O O λc0 p0 hc0=>M6 O λw9 ho9=>M7 (by simp[Am,h]) hc0 ⟨_,_,ho9⟩
 ·exact B4 O<|Q7 O<|A6<|E0 O (by omega)<|P5<|K7 O λw9 ho9=>S8 (x:=()) (by simp[Am,h]) rfl hi hn ⟨_,_,ho9⟩
theorem ao4(L:List G8)(s:C9):Z9 183 (λg=> #[.pointer (some ⟨g,0,none⟩),.string (bs s)]) Z0 L .bool (λi ns=>some (V5 s (tk L i),i,ns)):=by
 intro g lv i nv ns w hi hn ho;refine G7 ho func183 O ntmps183 O ?_;have cW:∀{w'},I6 96 #[.string (bs s)] w' (.bool (BS s)):=λ{w'}=>jH s w';have cT:=If L;cases hw:BS s
 ·rw[hw] at cW;by_cases hk:(tk L i).kind=4
  ·by_cases hs:(tk L i).s=s
   ·refine A3<|A5 O<|A3<|A5 O<|B5<|A4 O<|F3 96 (A7 O) (λw ho=>cW) O<|A6<|M8 O<|D6<|B4 O<|V4 0 0 0 (i:=i) (x:=(tk L i)) (i':=i) (ns':=ns) cT hi hn O O (A7 O) O O O λv10 hi10 hn10=>E3 W9 O λgz0=>E8 0 ((K9 (tk L i)).toArray) O<|I0<|B2 0 O<|A4 O<|H5 O<|A4 O<|F9 15 true O (decide_eq_true (by omega))<|B3 O<|D9 O<|B3 O<|N3 0 O<|B3 O<|A4 O<|B3 O<|L4 O<|K8 O<|A5 O<|D4<|E4 O λw9 ho9=>?_;exact S8 (x:=true) (by simp[V5,hw,hk,hs]) (by simp[hk,hs]) hi hn ⟨_,_,ho9.sublist (L9 ..)⟩
   ·refine A3<|A5 O<|A3<|A5 O<|B5<|A4 O<|F3 96 (A7 O) (λw ho=>cW) O<|A6<|M8 O<|D6<|B4 O<|V4 0 0 0 (i:=i) (x:=(tk L i)) (i':=i) (ns':=ns) cT hi hn O O (A7 O) O O O λv10 hi10 hn10=>E3 W9 O λgz0=>E8 0 ((K9 (tk L i)).toArray) O<|I0<|B2 0 O<|A4 O<|H5 O<|A4 O<|F9 15 true O (decide_eq_true (by omega))<|B3 O<|D9 O<|B3 O<|N3 0 O<|B3 O<|A4 O<|B3 O<|L4 O<|K8 O<|A5 O<|D4<|E4 O λw9 ho9=>?_;exact S8 (x:=false) (by simp[V5,hw,hk,hs]) (by simp[hk,hs]) hi hn ⟨_,_,ho9.sublist (L9 ..)⟩
  ·refine A3<|A5 O<|A3<|A5 O<|B5<|A4 O<|F3 96 (A7 O) (λw ho=>cW) O<|A6<|M8 O<|D6<|B4 O<|V4 0 0 0 (i:=i) (x:=(tk L i)) (i':=i) (ns':=ns) cT hi hn O O (A7 O) O O O λv10 hi10 hn10=>E3 W9 O λgz0=>E8 0 ((K9 (tk L i)).toArray) O<|I0<|B2 0 O<|A4 O<|H5 O<|A4 O<|F9 15 false O (decide_eq_false (by omega))<|D2 O<|D2 O<|D2 O<|D2 O<|G4 O<|A5 O<|D4<|E4 O λw9 ho9=>?_;exact S8 (x:=false) (by simp[V5,hw,hk]) (by simp[hk]) hi hn ⟨_,_,ho9.sublist (L9 ..)⟩
 ·rw[hw] at cW;by_cases hk:(tk L i).kind=5
  ·by_cases hs:(tk L i).s=s
   ·refine A3<|A5 O<|A3<|A5 O<|B5<|A4 O<|F3 96 (A7 O) (λw ho=>cW) O<|A6<|R1 O<|C5<|A5 O<|B4 O<|V4 0 0 0 (i:=i) (x:=(tk L i)) (i':=i) (ns':=ns) cT hi hn O O (A7 O) O O O λv10 hi10 hn10=>E3 W9 O λgz0=>E8 0 ((K9 (tk L i)).toArray) O<|I0<|B2 0 O<|A4 O<|H5 O<|A4 O<|F9 15 true O (decide_eq_true (by omega))<|B3 O<|D9 O<|B3 O<|N3 0 O<|B3 O<|A4 O<|B3 O<|L4 O<|K8 O<|A5 O<|D4<|E4 O λw9 ho9=>?_;exact S8 (x:=true) (by simp[V5,hw,hk,hs]) (by simp[hk,hs]) hi hn ⟨_,_,ho9.sublist (L9 ..)⟩
   ·refine A3<|A5 O<|A3<|A5 O<|B5<|A4 O<|F3 96 (A7 O) (λw ho=>cW) O<|A6<|R1 O<|C5<|A5 O<|B4 O<|V4 0 0 0 (i:=i) (x:=(tk L i)) (i':=i) (ns':=ns) cT hi hn O O (A7 O) O O O λv10 hi10 hn10=>E3 W9 O λgz0=>E8 0 ((K9 (tk L i)).toArray) O<|I0<|B2 0 O<|A4 O<|H5 O<|A4 O<|F9 15 true O (decide_eq_true (by omega))<|B3 O<|D9 O<|B3 O<|N3 0 O<|B3 O<|A4 O<|B3 O<|L4 O<|K8 O<|A5 O<|D4<|E4 O λw9 ho9=>?_;exact S8 (x:=false) (by simp[V5,hw,hk,hs]) (by simp[hk,hs]) hi hn ⟨_,_,ho9.sublist (L9 ..)⟩
  ·refine A3<|A5 O<|A3<|A5 O<|B5<|A4 O<|F3 96 (A7 O) (λw ho=>cW) O<|A6<|R1 O<|C5<|A5 O<|B4 O<|V4 0 0 0 (i:=i) (x:=(tk L i)) (i':=i) (ns':=ns) cT hi hn O O (A7 O) O O O λv10 hi10 hn10=>E3 W9 O λgz0=>E8 0 ((K9 (tk L i)).toArray) O<|I0<|B2 0 O<|A4 O<|H5 O<|A4 O<|F9 15 false O (decide_eq_false (by omega))<|D2 O<|D2 O<|D2 O<|D2 O<|G4 O<|A5 O<|D4<|E4 O λw9 ho9=>?_;exact S8 (x:=false) (by simp[V5,hw,hk]) (by simp[hk]) hi hn ⟨_,_,ho9.sublist (L9 ..)⟩
theorem Fp(L:List G8)(hL:Aa L)(s:C9):Z9 136 (λg=> #[.pointer (some ⟨g,0,none⟩),.string (bs s)]) Z0 L .bool (AK L s):=by
 intro g lv i nv ns w hi hn ho;refine G7 ho func136 O ntmps136 O ?_;have cI:=ao4 L s;have hl2:=hL.DW;cases hT:V5 s (tk L i)
 ·exact A3<|A5 O<|B5<|A4 O<|A4 O<|V4 0 0 0 (i:=i) (x:=(V5 s (tk L i))) (i':=i) (ns':=ns) cI hi hn O O (A7 O) O O O λv7 hi7 hn7=>J7 O<|A6<|k8 O (by(rw[hT];rfl))<|A3<|A5 O<|D4<|K0<|E4 O λw9 ho9=>S8 (x:=false) (by simp[AK,hT]) rfl hi hn ⟨_,_,ho9⟩
 ·have hj:=Gg hL hi (Tj hT);exact A3<|A5 O<|B5<|A4 O<|A4 O<|V4 0 0 0 (i:=i) (x:=(V5 s (tk L i))) (i':=i) (ns':=ns) cI hi hn O O (A7 O) O O O λv7 hi7 hn7=>J7 O<|A6<|Y7 O (by(rw[hT];rfl))<|D6<|B4 O<|E5 O<|B2 0 O<|N6 O (by omega)<|E5 O<|D9 O<|N4 0 O<|I0<|A5 O<|D4<|E4 O λw9 ho9=>S8 (x:=true) (i':=i+1) (by simp[AK,hT]) rfl hj hn ⟨_,_,ho9⟩
theorem Wr(L:List G8)(hL:Aa L)(k:Int)(hk0:k≠0):Z9 24 (λg=> #[.pointer (some ⟨g,0,none⟩),.int .i64 k]) Z0 L By (EF L k):=by
 intro g lv i nv ns w hi hn ho;refine G7 ho func24 O ntmps24 O ?_;have cT:=If L;have hl2:=hL.DW;by_cases hk:(tk L i).kind=k
 ·have hj:=Gg hL hi (by rw[hk];exact hk0);refine A3<|E3 W9 O λgz0=>I9 O<|V4 0 0 1 (i:=i) (x:=(tk L i)) (i':=i) (ns':=ns) cT hi hn O O (A7 O) O O O λv7 hi7 hn7=>E3 W9 O λgz1=>E8 0 ((K9 (tk L i)).toArray) O<|A6<|B5<|B2 0 O<|A4 O<|J3 O<|A6<|E0 O (by omega)<|D6<|B4 O<|E5 O<|B2 2 O<|N6 O (by omega)<|E5 O<|D9 O<|N4 2 O<|I0<|G6 0 O O<|E8 1 ((K9 (tk L i)).toArray) O<|A6<|D4<|EK (i:=1) (k:=4) O O O O (by kernel_rfl) O λw9 ho9=>?_;exact S8 (x:=tk L i) (i':=i+1) (by simp[EF,hk]) rfl hj hn ⟨_,_,ho9.sublist (.cons _ (.cons _ (Q5 _)))⟩
 ·exact A3<|E3 W9 O λgz0=>I9 O<|V4 0 0 1 (i:=i) (x:=(tk L i)) (i':=i) (ns':=ns) cT hi hn O O (A7 O) O O O λv7 hi7 hn7=>E3 W9 O λgz1=>E8 0 ((K9 (tk L i)).toArray) O<|A6<|B5<|B2 0 O<|A4 O<|J3 O<|A6<|E7 O (by omega)<|C5<|A4 O<|Ft 0 0 2 (i:=i) (KU L 3 (by decide)) hi hn O O (A7 O) O O O λc0 p0 hc0=>I7<|M6 O λw9 ho9=>M7 (by simp[EF,hk]) hc0 ⟨_,_,ho9⟩
theorem Bb(L:List G8)(m:F2):Z9 107 (λg=> #[.pointer (some ⟨g,0,none⟩),Hr m]) Z0 L (λx=>.int .i64 x) (l4 m):=by
 intro g lv i nv ns w hi hn ho;refine G7 ho func107 O ntmps107 O ?_;by_cases h5:ns.length=512
 ·exact A3<|F0 (cs:=(D7 m).toArray) O λgm=>A5 O<|B5<|A4 O<|E5 O<|D9 O<|B2 1 O<|BA 2 O<|H5 O<|A6<|E7 O (by omega)<|C5<|A4 O<|Ft 0 0 1 (i:=i) (KU L 5 (by decide)) hi hn O O (A7 O) O O O λc0 p0 hc0=>I7<|M6 O λw9 ho9=>M7 (by simp[l4,h5]) hc0 ⟨_,_,ho9⟩
 ·refine A3<|F0 (cs:=(D7 m).toArray) O λgm=>A5 O<|B5<|A4 O<|E5 O<|D9 O<|B2 1 O<|BA 2 O<|H5 O<|A6<|E0 O (by omega)<|D6<|C8 ?_;rotate_left;refine bA 12 8 (λW1=>[.val (.pointer (some ⟨g,0,none⟩)),.val (.pointer (some ⟨g,0,none⟩)),.val (.pointer (some ⟨g,0,none⟩)),.val (.pointer (some ⟨g,2,none⟩)),.val (.pointer (some ⟨g,2,none⟩)),.val nv,.val (Hr m),.rel (OL W1.heap.size ND 1 (D7 m)),Tf,.val (.pointer (some ⟨g,0,none⟩)),.val (.pointer (some ⟨g,2,none⟩)),.val (.pointer (some ⟨g,2,none⟩))])
   (λv'=>[.B1 gm ND (D7 m).toArray,.B1 g PT #[lv,.int .i64 i,nv,.int .i64 0],.row v' ND 8 (ns.length+1) (L2 ns++D7 m),.row lv TK 4 L.length (y5 L)]) (by kernel_rfl) (by kernel_rfl) rfl rfl (λW1=>⟨trivial,trivial,trivial,trivial,trivial,trivial,trivial,ZF _ _ _ _,bH,trivial,trivial,trivial,trivial⟩) (λW1 hW1 hold=>?_) (λW1 vs w1 hfact=>?_)
  ·refine Zu O O (λvs=>D0 (H8 O)) (λvs=>D0 (H8 O))<|Fo O O O (λvs=>D0 (H8 O))<|Fo O O O (λvs=>D0 (N1 O))<|Fo O O O (λvs=>D0 (I8 2 O))<|Fo O O O (λvs=>D0 (I8 0 O))<|Fo O O O (λvs=>D0 (K1 1 O))<|Fo O O O (λvs=>D0 (FY 0 (k:=8) O))<|Fo O O O (λvs=>ZQ (e:=ND) (sz:=8) (vs:=[Hr m]) (cs:=D7 m) (by kernel_rfl) O O O O O)<|gO O O (λvs=>Yl (i:=2) (e:=ND) (sz:=8) (by':=80) (m:=ns.length) (k:=1) (v:=nv) (xs:=L2 ns) (news:=D7 m) rfl (by kernel_rfl) rfl rfl (λw ho hx=>dO hx.1) rfl rfl (by simp only[maxLen];omega) hold ⟨.inr trivial,.inr trivial,.inr trivial,.inr trivial,.inr trivial,.inr trivial,.inr trivial,.inr (fE _ _ _ _),.inl rfl,.inr trivial,.inr trivial,.inr trivial,trivial⟩)<|QJ O O O (λvs=>D0 (N1 O))<|QJ O O O (λvs=>D0 (I8 2 O))<|QJ O O O (λvs=>D0 (I8 0 O)) ?_;exact YY
  ·have hv9:(vs 8).oneCell'=true:=hfact.2.1;refine Ai (E':=[(22,vs 8),(25,.pointer (some ⟨g,2,none⟩)),(0,.pointer (some ⟨g,0,none⟩))]) ⟨rfl,rfl,rfl,trivial⟩ ?_;generalize vs 8=v9 at hv9⊢;refine Ce (i:=1) (by kernel_rfl) O O (by assumption) O O<|I9 O<|E5 O<|D9 O<|B2 1 O<|BA 2 O<|B9 (DA O O (by omega)) O<|A5 O<|D4<|E4 O λw9 ho9=>?_;have hq:B7 (J1 w ([]++T5 g lv L i nv ns)) ([]++T5 g lv L i v9 (ns++[m])) w9:=by
    show B7 _ [.B1 g PT #[lv,.int .i64 i,v9,.int .i64 0],.row v9 ND 8 (ns++[m]).length (L2 (ns++[m])),.row lv TK 4 L.length (y5 L)] w9;rw[ay8,J8];exact ho9.sublist (.cons _ (Q5 _))
   refine S8 (x:=(ns.length:Int)) (ns':=ns++[m]) (by simp[l4,h5]) ?_ hi (by simp;omega) ⟨_,_,hq⟩ ⟨L6 _,by simp⟩;congr 1;omega
theorem aX(L:List G8)(hL:Aa L):Z9 105 (λg=> #[.pointer (some ⟨g,0,none⟩)]) Z0 L (λx=>.int .i64 x) (GT L):=by
 intro g lv i nv ns w hi hn ho;refine G7 ho func105 O ntmps105 O ?_;have cT:=If L;have cO:=Wr L hL 2 (by decide);by_cases hk:(tk L i).kind=2
 ·have hj:=Gg hL hi (by rw[hk];decide);by_cases h6:64<(tk L i).num
  ·exact A3<|A5 O<|B5<|A4 O<|V4 0 0 0 (i:=i) (x:=(tk L i)) (i':=i) (ns':=ns) cT hi hn O O (A7 O) O O O λv5 hi5 hn5=>E3 W9 O λgz0=>E8 0 ((K9 (tk L i)).toArray) O<|I0<|B2 0 O<|H5 O<|A4 O<|F9 9 true O (decide_eq_true (by omega))<|B3 O<|D9 O<|B3 O<|N3 0 O<|B3 O<|Q7 O<|K8 O<|A6<|E7 O (by omega)<|C5<|A4 O<|Ft 0 0 1 (i:=i) (KU L 8 (by decide)) hi hn O O (A7 O) O O O λc0 p0 hc0=>I7<|M6 O λw9 ho9=>M7 (by simp[GT,hk,h6]) hc0 ⟨_,_,ho9⟩
  ·have hO:EF L 2 i ns=some (tk L i,i+1,ns):=by simp[EF,hk]
   refine A3<|A5 O<|B5<|A4 O<|V4 0 0 0 (i:=i) (x:=(tk L i)) (i':=i) (ns':=ns) cT hi hn O O (A7 O) O O O λv5 hi5 hn5=>E3 W9 O λgz0=>E8 0 ((K9 (tk L i)).toArray) O<|I0<|B2 0 O<|H5 O<|A4 O<|F9 9 true O (decide_eq_true (by omega))<|B3 O<|D9 O<|B3 O<|N3 0 O<|B3 O<|Q7 O<|K8 O<|A6<|E0 O (by omega)<|D6<|B4 O<|V4 0 0 1 (i:=i) (x:=tk L i) (i':=i+1) (ns':=ns) cO hi hn O O (A7 O) O O hO λv17 hi17 hn17=>FJ 3 O (by kernel_rfl)<|A5 O<|D4<|E4 O λw9 ho9=>?_;exact S8 (x:=(tk L i).num) (i':=i+1) (by simp[GT,hk,h6]) rfl hj hn ⟨_,_,ho9.sublist (.cons _ (Q5 _))⟩
 ·have hO:EF L 2 i ns=none:=by simp[EF,hk]
  exact A3<|A5 O<|B5<|A4 O<|V4 0 0 0 (i:=i) (x:=(tk L i)) (i':=i) (ns':=ns) cT hi hn O O (A7 O) O O O λv5 hi5 hn5=>E3 W9 O λgz0=>E8 0 ((K9 (tk L i)).toArray) O<|I0<|B2 0 O<|H5 O<|A4 O<|F9 9 false O (decide_eq_false (by omega))<|D2 O<|D2 O<|D2 O<|G4 O<|A6<|M8 O<|D6<|B4 O<|Ft 0 0 1 (i:=i) cO hi hn O O (A7 O) O O hO λc0 p0 hc0=>I7<|M6 O λw9 ho9=>M7 (by simp[GT,hk]) hc0 ⟨_,_,ho9⟩
abbrev S0:Nat:=9
def Lq(gl:Nat)(ls:List (List UInt8)):C2:=.B1 gl S0 (D1 ls).toArray
def PU(gl:Nat)(ls:List (List UInt8)):Value:=.slice (some ⟨gl,0,none⟩) ls.length ls.length
theorem ZK{ls:List (List UInt8)}{j:Nat}(h:j<ls.length):(D1 ls).toArray[j]?=some (.string (bs ls[j])):=by simp[D1,T8 h]
theorem Bz(L:List G8)(hL:Aa L)(gl:Nat)(ls:List (List UInt8))(hls:ls.length<=100):Z9 137 (λg=> #[.pointer (some ⟨g,0,none⟩),PU gl ls]) (λ_=>[Lq gl ls]) L Qt (f7 L ls):=by
 intro g lv i nv ns w hi hn ho;refine G7 ho func137 O ntmps137 O ?_;unfold PU;refine B4 O<|d1 O<|A4 O<|A6<|C7 ?_;rotate_left;refine l9 (σ:=Nat×Nat×Value) (λq=>q.1<=ls.length/\q.2.1<L.length/\i<=q.2.1/\f7 L (ls.drop q.1) q.2.1 ns=f7 L ls i ns) (λq=>[(0,.pointer (some ⟨g,0,none⟩)),(6,.slice (some ⟨gl,0,none⟩) ls.length ls.length),(7,.int .i64 ls.length),(8,.int .i64 q.1)]) (λq=>[Lq gl ls]++T5 g lv L q.2.1 q.2.2 ns) (λq=>ls.length-q.1)
  (λw ho=>⟨(0,i,nv),⟨R5 _,hi,L6 _,rfl⟩,⟨rfl,rfl,rfl,rfl,trivial⟩,ho⟩) ?_
 rintro⟨j,m,nvm⟩ ⟨hj,him,hiM,hR⟩;dsimp only at hj him hiM hR⊢;by_cases hjl:j<ls.length
 ·have hg:=ZK hjl;rw[MG hjl,f7] at hR;dsimp only at hR;have hnm:=hn;generalize ls[j]=s at hg hR;have cK:=Fp L hL s;unfold Lq at*;have hR1:V5 s (tk L m)=true->f7 L (ls.drop (j+1)) (m+1) ns=f7 L ls i ns:=λh=>by rw[if_pos h] at hR;exact hR
  have hR2:V5 s (tk L m)=false->f7 L ls i ns=none:=λh=>by rw[if_neg (by rw[h];simp)] at hR;exact hR.symm
  refine A3<|H9 O<|A6<|C8<|E7 O (by omega)<|D6<|C8<|C7<|A3<|B9 (AW j O hjl) O<|B9 (c7 0 (j:=0+j) (v:=.string (bs s)) O (by rw[Y3];exact hg)) O<|A5 O<|B4 O<|A4 O<|Hw 0 0 1 hL (i:=m) cK him hn O O (A7 O) O O (λv14 hT14 hj14=>?_) (λv14 hT14=>?_);refine J7 O<|A6<|M8 O<|P5<|F4<|E2<|C5<|N6 O (by omega)<|A4 O<|A6 ?_;exact W5 λw ho=>⟨(j+1,m+1,v14),⟨by simp only[];omega,hj14,by simp only[];omega,hR1 hT14⟩,by simp only[];omega,⟨rfl,rfl,rfl,rfl,trivial⟩,rfl,ho⟩
  exact J7 O<|A6<|R1 O<|C5<|A4 O<|Ft 0 0 1 (i:=m) (KU L 3 (by decide)) him hn O O (A7 O) O O O λc0 p0 hc0=>j5<|I7<|I7<|j5<|M6 O λw9 ho9=>M7 (hR2 hT14) hc0 ⟨_,_,ho9⟩
 ·obtain rfl:j=ls.length:=by omega
  rw[Rl] at hR;exact A3<|H9 O<|A6<|C8<|E0 O (by omega)<|S4<|J0<|J0<|S5<|K7 O λw9 ho9=>S8 (x:=()) (hR.symm.trans rfl) rfl him hn ⟨_,_,ho9⟩
def AO(L:List G8):List (List UInt8)->PX (List UInt8×Bool)
 |[]=>p5 ([],false)
 |s::l=>λi ns=>if V5 s (tk L i) then some ((s,true),i+1,ns) else AO L l i ns
def SZ(x:List UInt8×Bool):Value:=.tuple #[.string (bs x.1),.bool x.2]
theorem Zl(L:List G8)(hL:Aa L)(gl:Nat)(ls:List (List UInt8))(hls:ls.length<=100):Z9 190 (λg=> #[.pointer (some ⟨g,0,none⟩),PU gl ls]) (λ_=>[Lq gl ls]) L SZ (AO L ls):=by
 intro g lv i nv ns w hi hn ho;refine G7 ho func190 O ntmps190 O ?_;unfold PU;refine A3<|E6 O<|A5 O<|B5<|A4 O<|d1 O<|A4 O<|A6<|C7 ?_;rotate_left;refine l9 (σ:=Nat×Value) (λq=>q.1<=ls.length/\AO L (ls.drop q.1) i ns=AO L ls i ns) (λq=>[(0,.pointer (some ⟨g,0,none⟩)),(8,.slice (some ⟨gl,0,none⟩) ls.length ls.length),(9,.int .i64 ls.length),(10,.int .i64 q.1)]) (λq=>[Lq gl ls]++T5 g lv L i q.2 ns) (λq=>ls.length-q.1)
  (λw ho=>⟨(0,nv),⟨R5 _,rfl⟩,⟨rfl,rfl,rfl,rfl,trivial⟩,ho⟩) ?_
 rintro⟨j,nvm⟩ ⟨hj,hR⟩;dsimp only at hj hR⊢;by_cases hjl:j<ls.length
 ·have hg:=ZK hjl;rw[MG hjl,AO] at hR;dsimp only at hR;generalize ls[j]=s at hg hR;have cK:=Fp L hL s;unfold Lq at*;have hR1:V5 s (tk L i)=true->AO L ls i ns=some ((s,true),i+1,ns):=λh=>by rw[if_pos h] at hR;exact hR.symm
  have hR2:V5 s (tk L i)=false->AO L (ls.drop (j+1)) i ns=AO L ls i ns:=λh=>by rw[if_neg (by rw[h];simp)] at hR;exact hR
  refine A3<|H9 O<|A6<|C8<|E7 O (by omega)<|D6<|C8<|C7<|A3<|B9 (AW j O hjl) O<|B9 (c7 0 (j:=0+j) (v:=.string (bs s)) O (by rw[Y3];exact hg)) O<|A5 O<|B4 O<|A4 O<|Hw 0 0 1 hL (i:=i) cK hi hn O O (A7 O) O O (λv14 hT14 hj14=>?_) (λv14 hT14=>?_);exact A6<|R1 O<|B4 O<|E6 O<|A5 O<|K3<|K0<|U3<|V6 O O O O λw9 ho9=>S8 (x:=(s,true)) (hR1 hT14) rfl hj14 hn ⟨_,_,ho9⟩;refine A6<|M8 O<|P5<|F4<|E2<|C5<|N6 O (by omega)<|A4 O<|A6 ?_;exact W5 λw ho=>⟨(j+1,v14),⟨by simp only[];omega,hR2 hT14⟩,by simp only[];omega,⟨rfl,rfl,rfl,rfl,trivial⟩,rfl,ho⟩
 ·obtain rfl:j=ls.length:=by omega
  rw[Rl] at hR;exact A3<|H9 O<|A6<|C8<|E0 O (by omega)<|S4<|J0<|J0<|S5<|E2<|A3<|E6 O<|A5 O<|D4<|V6 O O O O λw9 ho9=>S8 (x:=([],false)) (hR.symm.trans rfl) rfl hi hn ⟨_,_,ho9⟩
end
section
theorem XY(L:List G8)(i:Nat)(ns:List F2):∀signs,AO L signs i ns=some (([],false),i,ns)\/∃s∈signs,V5 s (tk L i)=true/\AO L signs i ns=some ((s,true),i+1,ns)
 |[]=>.inl rfl
 |s::l=>by
  rw[AO];by_cases h:V5 s (tk L i)=true
  ·right;exact⟨s,j8 ..,h,if_pos h⟩
  ·dsimp only;rw[if_neg h];refine(XY L i ns l).imp id ?_;rintro⟨x,hx,h1⟩;exact⟨x,Cj _ hx,h1⟩
section
variable{r:Option Nat}{n:Nat}{E:List (Nat×Value)}{C:I3}{H:List C2}{Q:Exit->Act->World->Prop}{ops:Array Oper}{rest:List Oper}
variable{d:Nat}{op:Op}{ty:TypeId}{pos:String}{after:Array Edge}{f g i:Nat}{args:Nat->Array Value}{lv nv:Value}{L:List G8}{ns:List F2}{signs:List (List UInt8)}{Z:Nat->List C2}
theorem kS(a z k:Nat)(hL:Aa L)(hc:Z9 f args Z L SZ (AO L signs))(hi:i<L.length)(hn5:ns.length<=512)(hH:H.drop k=T5 g lv L i nv ns)(hZ:(H.drop a).take z=Z g)
  (he:f0 prog n E C H ⟨some d,op,ty,pos,after,none⟩ f (args g))(hn:Op.X9 op=false)(hd:Nat.blt d n=true)
  (kt:∀nv' s,s∈signs->AO L signs i ns=some ((s,true),i+1,ns)->i+1<L.length->At n ((d,SZ (s,true))::E) C (H.take k++T5 g lv L (i+1) nv' ns) (D3 r prog ops Q rest))
  (kf:∀nv',AO L signs i ns=some (([],false),i,ns)->At n ((d,SZ ([],false))::E) C (H.take k++T5 g lv L i nv' ns) (D3 r prog ops Q rest))(hzk:Nat.ble (a+z) k=true:=by rfl):
  At n E C H (D3 r prog ops Q (⟨some d,op,ty,pos,after,none⟩::rest)):=by
 rcases XY L i ns signs with h|⟨s,hs,hT,h⟩
 ·exact V4 a z k hc hi hn5 hH hZ he hn hd h (λnv' h1 h2=>kf nv' h) hzk
 ·exact V4 a z k hc hi hn5 hH hZ he hn hd h (λnv' h1 h2=>kt nv' s hs h (Gg hL hi (Tj hT))) hzk
end
attribute [local irreducible] F8 D3 Exit.then Exit.inBlock Exit.noGoto wpQuiet Calls fin At G9 L3 L7 RQ
def Kq(a:Int)(s:List UInt8)(b:Int):F2:=⟨11,a,b,-1,-1,0,s,[]⟩
def AM(x:Int):Value:=.int .i64 x
def twoL(L:List G8)(X:PX Int)(signs:List (List UInt8)):Nat->Int->PX Int
 |0,_=>FE
 |f+1,a=>I2 (AO L signs) λs=>if s.2=false then p5 a else I2 X λb=>I2 (l4 (Kq a s.1 b)) λm=>twoL L X signs f m
def FX(L:List G8)(X:PX Int)(signs:List (List UInt8)):PX Int:=I2 X λa=>twoL L X signs 2001 a
abbrev FT:Nat:=90
def SB(f:Nat)(cap:List Nat):Value:=.func (.func f) #[] (cap.map λb=>Value.pointer (some ⟨b,0,none⟩)).toArray
def Lv(gx g5 g6 g7 g8:Nat):Nat->List C2:=λg=>
 [.B1 g8 FT #[SB 189 [g7,gx]],.B1 g7 FT #[SB 188 [gx,g6]],.B1 g6 FT #[SB 187 [gx,g5]],.B1 g5 FT #[SB 184 [gx]],.B1 gx 87 #[.pointer (some ⟨g,0,none⟩)]]
theorem Pw(L:List G8)(hL:Aa L)(d:Int)(gl:Nat)(signs:List (List UInt8))(hls:signs.length<=100){fc:Nat}{fst:Nat->List Value}{cp:H2}{gx g5 g6 g7 g8:Nat}{X:PX Int}(hent:GB prog fc=true)
  (hc:Z9 fc (λg=>(fst g++[Value.int .i64 d]++cp).toArray) (Lv gx g5 g6 g7 g8) L AM X):
  Z9 185 (λg=> #[.pointer (some ⟨g,0,none⟩),.int .i64 d,.func (.func fc) (fst g).toArray cp.toArray,PU gl signs]) (λg=>Lq gl signs::Lv gx g5 g6 g7 g8 g) L AM (FX L X signs):=by
 intro g lv i nv ns w hi hn ho;refine G7 ho func185 O ntmps185 O ?_;have cO:=Zl L hL gl signs hls;obtain⟨F,hF⟩:∃F,FX L X signs i ns=F:=⟨_,rfl⟩
 have hl2:=hL.DW;rw[hF];refine A3<|A5 O<|B4 O<|A4 O<|O4 1 5 6 (i:=i) hc hi hn O O (IN (first:=fst g) (cap:=cp) O hent O) O O (λc0 p0 hc0 hX0=>?_) (λx15 i15 n15 v15 hX15 hl15 hi15 hn15=>?_);exact I7<|M6 O λw9 ho9=>M7 (by rw[<-hF];simp only[FX,I2, *]) hc0 ⟨_,_,ho9⟩;refine A5 O<|C7 ?_;have hR15:twoL L X signs 2001 x15 i15 n15=F:=by rw[<-hF];simp only[FX,I2,hX15]
 refine l9 (σ:=Nat×Int×Nat×List F2×Value) (λq=>q.2.2.1<L.length/\(i<=q.2.2.1/\ns.length<=q.2.2.2.1.length)/\q.2.2.2.1.length<=512/\L.length<q.1+q.2.2.1/\twoL L X signs q.1 q.2.1 q.2.2.1 q.2.2.2.1=F) (λq=>[(0,.pointer (some ⟨g,0,none⟩)),(1,.int .i64 d),(2,.func (.func fc) (fst g).toArray cp.toArray),(3,PU gl signs),(9,.int .i64 q.2.1)]) (λq=>Lq gl signs::Lv gx g5 g6 g7 g8 g++T5 g lv L q.2.2.1 q.2.2.2.2 q.2.2.2.1) (λq=>q.1)
  (λw ho=>⟨(2001,x15,i15,n15,v15),⟨hi15,hl15,hn15,by simp only[];omega,hR15⟩,⟨rfl,rfl,rfl,rfl,rfl,trivial⟩,ho⟩) ?_
 rintro⟨f,a,m,nsm,nvm⟩ ⟨him,hiM,hnm,hfm,hR⟩;dsimp only at him hiM hnm hfm hR⊢;cases f with
 |zero=>omega
 |succ f=>
 rw[twoL] at hR;refine C7<|B4 O<|A4 O<|kS 0 1 6 hL (i:=m) cO him hnm O O (A7 O) O O (λv19 s19 hs19 hX19 hj19=>?_) (λv19 hX19=>?_);refine A4 O<|G1 O<|G1 O<|E6 O<|A5 O<|B5<|A4 O<|J7 O<|A6<|M8 O<|D6<|A3<|F3 104 (A7 O) (λw ho=>CA 11 w) O<|E3 V2 O λgz0=>E8 0 ((D7 (m8 11)).toArray) O<|I9 O<|A4 O<|D9 O<|N4 0 O<|D9 O<|N4 0 O<|I9 O<|A4 O<|O4 2 5 7 (i:=m+1) hc hj19 hnm O O (IN (first:=fst g) (cap:=cp) O hent O) O O (λc0 p0 hc0 hX0=>?_) (λx32 i32 n32 v32 hX32 hl32 hi32 hn32=>?_);exact I7<|j5<|I7<|j5<|M6 O λw9 ho9=>M7 (by rw[<-hR];simp[I2, *]) hc0 ⟨_,_,ho9⟩;refine D9 O<|N4 0 O<|A6<|C5<|A4 O<|G6 0 O O<|O4 0 0 7 (i:=i32) (Bb L (Kq a s19 x32)) hi32 hn32 O O (A7 O) O O (λc0 p0 hc0 hX0=>?_) (λx36 i36 n36 v36 hX36 hl36 hi36 hn36=>?_);exact j5<|I7<|j5<|M6 O λw9 ho9=>M7 (by rw[<-hR];simp[I2, *]) hc0 ⟨_,_,ho9⟩;refine E6 O<|H6<|F4<|E2 ?_;rotate_left;refine A4 O<|G1 O<|G1 O<|E6 O<|A5 O<|B5<|A4 O<|J7 O<|A6<|R1 O<|B4 O<|A5 O<|D4<|K0<|U3<|DO<|E4 O λw9 ho9=>?_;rotate_left
 ·have hR2:twoL L X signs f x36 i36 n36=F:=by rw[<-hR];simp[I2,hX19,hX32,hX36]
  exact W5 λw ho=>⟨(f,x36,i36,n36,v36),⟨hi36,⟨by simp only[];omega,by simp only[];omega⟩,hn36,by simp only[];omega,hR2⟩,by simp only[];omega,⟨rfl,rfl,rfl,rfl,rfl,trivial⟩,rfl,ho.sublist (.cons _ (Q5 _))⟩
 ·exact S8 (x:=a) (by rw[<-hR];simp[I2,hX19,p5]) rfl him hnm ⟨_,_,ho9⟩
def HP:List (List UInt8):=[[42],[47],[37]]
def HS:List (List UInt8):=[[43],[45]]
def Hq:List (List UInt8):=[[46,46]]
def Fu:List (List UInt8):=[[61,61],[33,61],[60],[60,61],[62],[62,61]]
def Hv:List (List UInt8):=[[97,110,100]]
def HR:List (List UInt8):=[[111,114]]
def VG(L:List G8)(X:PX Int):PX Int:=FX L X HP
def Xt(L:List G8)(X:PX Int):PX Int:=FX L (VG L X) HS
def LO(L:List G8)(X:PX Int):PX Int:=FX L (Xt L X) Hq
def Ej(L:List G8)(X:PX Int):PX Int:=I2 (LO L X) λa=>I2 (AO L Fu) λs=>if s.2=false then p5 a else I2 (LO L X) λb=>l4 (Kq a s.1 b)
def XD(L:List G8)(X:PX Int):PX Int:=FX L (Ej L X) Hv
def dB(L:List G8)(X:PX Int):PX Int:=FX L (XD L X) HR
def FL(L:List G8)(X:PX Int)(d:Nat):PX Int:=I2 (Am d) λ_=>dB L X
def Ox(L:List G8)(d:Int)(X:PX Int):Prop:=Z9 186 (λg=> #[.pointer (some ⟨g,0,none⟩),.int .i64 d]) Z0 L AM X
section
variable(L:List G8)(hL:Aa L)(d:Int)(gx g5 g6 g7 g8:Nat){X:PX Int}(hX:Ox L d X)
include hL hX
theorem rO:Z9 184 (λg=> #[.int .i64 d,.pointer (some ⟨gx,0,none⟩)]) (Lv gx g5 g6 g7 g8) L AM (VG L X):=by
 intro g lv i nv ns w hi hn ho;refine G7 ho func184 O ntmps184 O<|A3<|A5 O<|A3<|N3 4 O<|A4 O<|N3 4 O<|B9 (Pu (vs:=[.pointer (some ⟨g,0,none⟩)]) O) O<|N7 (D1 HP) (D1 HP) O λgl=>O4 0 6 6 (i:=i) (Pw L hL d gl HP (by decide) (fc:=186) (fst:=λg=>[Value.pointer (some ⟨g,0,none⟩)]) (cp:=[]) (gx:=gx) (g5:=g5) (g6:=g6) (g7:=g7) (g8:=g8) (by kernel_rfl) hX.wider) hi hn O O (A7 O) O O (λc0 p0 hc0 hX0=>?_) (λx9 i9 n9 v9 hX9 hl9 hi9 hn9=>?_);exact I7<|M6 O λw9 ho9=>M7 hX0 hc0 ⟨_,_,ho9⟩;exact A5 O<|D4<|E4 O λw9 ho9=>S8 hX9 rfl hi9 hn9 ⟨_,_,ho9.sublist (.cons _ (Q5 _))⟩
theorem sM:Z9 187 (λg=> #[.int .i64 d,.pointer (some ⟨gx,0,none⟩),.pointer (some ⟨g5,0,none⟩)]) (Lv gx g5 g6 g7 g8) L AM (Xt L X):=by
 intro g lv i nv ns w hi hn ho;refine G7 ho func187 O ntmps187 O<|A3<|A5 O<|A3<|N3 4 O<|A4 O<|N3 3 O<|N7 (D1 HS) (D1 HS) O λgl=>O4 0 6 6 (i:=i) (Pw L hL d gl HS (by decide) (fc:=184) (fst:=λg=>[]) (cp:=[Value.pointer (some ⟨gx,0,none⟩)]) (gx:=gx) (g5:=g5) (g6:=g6) (g7:=g7) (g8:=g8) (by kernel_rfl) (rO L hL d gx g5 g6 g7 g8 hX)) hi hn O O (A7 O) O O (λc0 p0 hc0 hX0=>?_) (λx9 i9 n9 v9 hX9 hl9 hi9 hn9=>?_);exact I7<|M6 O λw9 ho9=>M7 hX0 hc0 ⟨_,_,ho9⟩;exact A5 O<|D4<|E4 O λw9 ho9=>S8 hX9 rfl hi9 hn9 ⟨_,_,ho9.sublist (.cons _ (Q5 _))⟩
theorem aQ:Z9 188 (λg=> #[.int .i64 d,.pointer (some ⟨gx,0,none⟩),.pointer (some ⟨g6,0,none⟩)]) (Lv gx g5 g6 g7 g8) L AM (LO L X):=by
 intro g lv i nv ns w hi hn ho;refine G7 ho func188 O ntmps188 O<|A3<|A5 O<|A3<|N3 4 O<|A4 O<|N3 2 O<|N7 (D1 Hq) (D1 Hq) O λgl=>O4 0 6 6 (i:=i) (Pw L hL d gl Hq (by decide) (fc:=187) (fst:=λg=>[]) (cp:=[Value.pointer (some ⟨gx,0,none⟩),Value.pointer (some ⟨g5,0,none⟩)]) (gx:=gx) (g5:=g5) (g6:=g6) (g7:=g7) (g8:=g8) (by kernel_rfl) (sM L hL d gx g5 g6 g7 g8 hX)) hi hn O O (A7 O) O O (λc0 p0 hc0 hX0=>?_) (λx9 i9 n9 v9 hX9 hl9 hi9 hn9=>?_);exact I7<|M6 O λw9 ho9=>M7 hX0 hc0 ⟨_,_,ho9⟩;exact A5 O<|D4<|E4 O λw9 ho9=>S8 hX9 rfl hi9 hn9 ⟨_,_,ho9.sublist (.cons _ (Q5 _))⟩
theorem an0:Z9 189 (λg=> #[.int .i64 d,.pointer (some ⟨g7,0,none⟩),.pointer (some ⟨gx,0,none⟩)]) (Lv gx g5 g6 g7 g8) L AM (Ej L X):=by
 intro g lv i nv ns w hi hn ho;refine G7 ho func189 O ntmps189 O<|A3<|A5 O<|A3<|N3 1 O<|A4 O<|O4 0 5 5 (i:=i) (aQ L hL d gx g5 g6 g7 g8 hX) hi hn O O (CB (first:=[]) (vs:=[Value.int .i64 d]) (cap:=[Value.pointer (some ⟨gx,0,none⟩),Value.pointer (some ⟨g6,0,none⟩)]) O) O O (λc0 p0 hc0 hX0=>?_) (λx11 i11 n11 v11 hX11 hl11 hi11 hn11=>?_);exact I7<|M6 O λw9 ho9=>M7 (by simp only[Ej,I2,hX0]) hc0 ⟨_,_,ho9⟩;refine A5 O<|A3<|N3 4 O<|N7 (D1 Fu) (D1 Fu) O λgl=>kS 0 1 6 hL (i:=i11) (Zl L hL gl Fu (by decide)) hi11 hn11 O O (A7 O) O O (λv15 s15 hs15 hX15 hj15=>?_) (λv15 hX15=>?_);refine A4 O<|G1 O<|G1 O<|E6 O<|A5 O<|B5<|A4 O<|J7 O<|A6<|M8 O<|D6<|A3<|F3 104 (A7 O) (λw ho=>CA 11 w) O<|E3 V2 O λgz0=>E8 0 ((D7 (m8 11)).toArray) O<|I9 O<|A4 O<|D9 O<|N4 0 O<|D9 O<|N4 0 O<|I0<|N3 3 O<|A4 O<|O4 2 5 7 (i:=i11+1) (aQ L hL d gx g5 g6 g7 g8 hX) hj15 hn11 O O (CB (first:=[]) (vs:=[Value.int .i64 d]) (cap:=[Value.pointer (some ⟨gx,0,none⟩),Value.pointer (some ⟨g6,0,none⟩)]) O) O O (λc0 p0 hc0 hX0=>?_) (λx28 i28 n28 v28 hX28 hl28 hi28 hn28=>?_);exact I7<|M6 O λw9 ho9=>M7 (by simp[Ej,I2,hX0,hX11,hX15]) hc0 ⟨_,_,ho9⟩;refine D9 O<|N4 0 O<|I0<|N3 6 O<|G6 0 O O<|O4 0 0 7 (i:=i28) (Bb L (Kq x11 s15 x28)) hi28 hn28 O O (A7 O) O O (λc0 p0 hc0 hX0=>?_) (λx32 i32 n32 v32 hX32 hl32 hi32 hn32=>?_);exact I7<|M6 O λw9 ho9=>M7 (by simp[Ej,I2,hX0,hX11,hX15,hX28]) hc0 ⟨_,_,ho9⟩;refine A5 O<|D4<|E4 O λw9 ho9=>?_;exact S8 (x:=x32) (by simp[Ej,I2,hX11,hX15,hX28,hX32]) rfl hi32 hn32 ⟨_,_,ho9.sublist (.cons _ (.cons _ (Q5 _)))⟩;refine A4 O<|G1 O<|G1 O<|E6 O<|A5 O<|B5<|A4 O<|J7 O<|A6<|R1 O<|B4 O<|A5 O<|D4<|K0<|E4 O λw9 ho9=>?_;exact S8 (x:=x11) (by simp[Ej,I2,hX11,hX15,p5]) rfl hi11 hn11 ⟨_,_,ho9.sublist (.cons _ (Q5 _))⟩
theorem vX:Z9 191 (λg=> #[.int .i64 d,.pointer (some ⟨gx,0,none⟩),.pointer (some ⟨g8,0,none⟩)]) (Lv gx g5 g6 g7 g8) L AM (XD L X):=by
 intro g lv i nv ns w hi hn ho;refine G7 ho func191 O ntmps191 O<|A3<|A5 O<|A3<|N3 4 O<|A4 O<|N3 0 O<|N7 (D1 Hv) (D1 Hv) O λgl=>O4 0 6 6 (i:=i) (Pw L hL d gl Hv (by decide) (fc:=189) (fst:=λg=>[]) (cp:=[Value.pointer (some ⟨g7,0,none⟩),Value.pointer (some ⟨gx,0,none⟩)]) (gx:=gx) (g5:=g5) (g6:=g6) (g7:=g7) (g8:=g8) (by kernel_rfl) (an0 L hL d gx g5 g6 g7 g8 hX)) hi hn O O (A7 O) O O (λc0 p0 hc0 hX0=>?_) (λx9 i9 n9 v9 hX9 hl9 hi9 hn9=>?_);exact I7<|M6 O λw9 ho9=>M7 hX0 hc0 ⟨_,_,ho9⟩;exact A5 O<|D4<|E4 O λw9 ho9=>S8 hX9 rfl hi9 hn9 ⟨_,_,ho9.sublist (.cons _ (Q5 _))⟩
end
theorem XH(L:List G8)(hL:Aa L)(d:Nat)(hd:d<=100){X:PX Int}(hX:d<=16->Ox L d X):Z9 138 (λg=> #[.pointer (some ⟨g,0,none⟩),.int .i64 d]) Z0 L AM (FL L X d):=by
 intro g lv i nv ns w hi hn ho;refine G7 ho func138 O ntmps138 O ?_;by_cases h16:16<d
 ·exact A3<|KP O O O λgz0=>A5 O<|A3<|N3 0 O<|A4 O<|Ft 0 0 1 (i:=i) (Oc L d hd) hi hn O O (A7 O) O O (by simp[Am,h16]) λc0 p0 hc0=>I7<|M6 O λw9 ho9=>M7 (by simp[FL,I2,Am,h16]) hc0 ⟨_,_,ho9⟩
 ·have hdp:Am d i ns=some ((),i,ns):=by simp[Am,h16]
  have hX':=hX (by omega);refine A3<|KP O O O λgz0=>A5 O<|A3<|N3 0 O<|A4 O<|V4 0 0 1 (i:=i) (Oc L d hd) hi hn O O (A7 O) O O hdp λv12 hi12 hn12=>I0<|B9 (Gx O) O<|Jl O YG O λgz1=>N4 0 O<|I0<|B9 (Gx O) O<|Jl O YG O λgz2=>N4 0 O<|I0<|B9 (Gx O) O<|Jl O YG O λgz3=>N4 0 O<|I0<|B9 (Gx O) O<|Jl O YG O λgz4=>N4 0 O<|I0<|B9 (Gx O) O<|A5 O<|A3<|N3 4 O<|A4 O<|A4 O<|N7 (D1 HR) (D1 HR) O λgl=>O4 0 6 6 (i:=i) (Pw L hL d gl HR (by decide) (fc:=191) (fst:=λg=>[]) (cp:=[Value.pointer (some ⟨gz0,0,none⟩),Value.pointer (some ⟨gz4,0,none⟩)]) (gx:=gz0) (g5:=gz1) (g6:=gz2) (g7:=gz3) (g8:=gz4) (by kernel_rfl) (vX L hL d gz0 gz1 gz2 gz3 gz4 hX')) hi hn O O (A7 O) O O (λc0 p0 hc0 hX0=>?_) (λx22 i22 n22 v22 hX22 hl22 hi22 hn22=>?_);exact I7<|M6 O λw9 ho9=>M7 (by simp only[FL,I2,hdp];exact hX0) hc0 ⟨_,_,ho9⟩;refine A5 O<|D4<|E4 O λw9 ho9=>?_;exact S8 (by simp only[FL,I2,hdp];exact hX22) rfl hi22 hn22 ⟨_,_,ho9.sublist (.cons _ (.cons _ (.cons _ (.cons _ (.cons _ (.cons _ (Q5 _)))))))⟩
def RH(m:F2)(a:Int):F2:=⟨m.kind,a,m.b,m.c,m.next,m.i,m.s,m.t⟩
def Fq(L:List G8)(X1:PX Int)(kind:Int)(d:Nat):PX Int:=I2 (Am (d+1)) λ_=>I2 X1 λa=>l4 (RH (m8 kind) a)
def KO:List UInt8:=[45]
def Z2:List UInt8:=[40]
def Y1:List UInt8:=[41]
def Gs(L:List G8)(X1:PX Int)(d:Nat):PX Int:=λi ns=>
 if V5 KO (tk L i) then Fq L X1 10 d (i+1) ns
 else if V5 Z2 (tk L i) then I2 (FL L X1 (d+1)) (λa=>I2 (f7 L [Y1]) λ_=>p5 a) (i+1) ns
 else none
def Dc(s:List UInt8):Int:=if s=[103,101,116] then 5 else if s=[104,97,115] then 6 else if s=[108,101,110] then 7 else if s=[115,104,111,119] then 8 else-1
def Dw:List UInt8:=[110,111,116]
def EJ:List UInt8:=[110,105,108]
def Ep:List UInt8:=[116,114,117,101]
def EG:List UInt8:=[102,97,108,115,101]
def LP(b:Bool):F2:=⟨1,-1,-1,-1,-1,if b then 1 else 0,[],[]⟩
def CJ(L:List G8)(X1:PX Int)(d:Nat):PX Int:=λi ns=>
 if Dc (tk L i).s≠-1 then I2 (f7 L [Z2]) (λ_=>I2 (FL L X1 (d+1)) λa=>I2 (f7 L [Y1]) λ_=>l4 (RH (m8 (Dc (tk L i).s)) a)) (i+1) ns
 else if V5 Dw (tk L i) then Fq L X1 9 d (i+1) ns
 else if V5 EJ (tk L i) then l4 (m8 0) (i+1) ns
 else if(tk L i).s=Ep then l4 (LP true) (i+1) ns
 else if(tk L i).s=EG then l4 (LP false) (i+1) ns
 else none
def Wa(n:Int):F2:=⟨2,-1,-1,-1,-1,n,[],[]⟩
def Om(k:Int)(s:List UInt8):F2:=⟨k,-1,-1,-1,-1,0,s,[]⟩
def Es(L:List G8)(X1:PX Int)(d:Nat):PX Int:=λi ns=>
 if(tk L i).kind=2 then l4 (Wa (tk L i).num) (i+1) ns
 else if(tk L i).kind=3 then l4 (Om 3 (tk L i).s) (i+1) ns
 else if(tk L i).kind=1 then l4 (Om 4 (tk L i).s) (i+1) ns
 else if(tk L i).kind=4 then Gs L X1 d i ns
 else if(tk L i).kind=5 then CJ L X1 d i ns
 else none
theorem sN(s:C9)(w:B6):I6 249 #[.string (bs s)] w (.int .i64 (Dc s)):=by
 refine J5 func249 O ntmps249 O ?_;by_cases h1:s=[103,101,116]
 ·exact A3<|A5 O<|B5<|A4 O<|A6<|C7<|A3<|L4 O<|A5 O<|E7 O (by exact h1)<|A3<|A5 O<|K3<|E4 O λw9 ho9=>⟨by simp[Dc,h1],ho9.plain⟩
 by_cases h2:s=[104,97,115]
 ·exact A3<|A5 O<|B5<|A4 O<|A6<|C7<|A3<|L4 O<|A5 O<|E0 O (by exact h1)<|A3<|L4 O<|A5 O<|E7 O (by exact h2)<|A3<|A5 O<|K3<|E4 O λw9 ho9=>⟨by simp[Dc,h2],ho9.plain⟩
 by_cases h3:s=[108,101,110]
 ·exact A3<|A5 O<|B5<|A4 O<|A6<|C7<|A3<|L4 O<|A5 O<|E0 O (by exact h1)<|A3<|L4 O<|A5 O<|E0 O (by exact h2)<|A3<|L4 O<|A5 O<|E7 O (by exact h3)<|A3<|A5 O<|K3<|E4 O λw9 ho9=>⟨by simp[Dc,h3],ho9.plain⟩
 by_cases h4:s=[115,104,111,119]
 ·exact A3<|A5 O<|B5<|A4 O<|A6<|C7<|A3<|L4 O<|A5 O<|E0 O (by exact h1)<|A3<|L4 O<|A5 O<|E0 O (by exact h2)<|A3<|L4 O<|A5 O<|E0 O (by exact h3)<|A3<|L4 O<|A5 O<|E7 O (by exact h4)<|A3<|A5 O<|K3<|E4 O λw9 ho9=>⟨by simp[Dc,h4],ho9.plain⟩
 ·exact A3<|A5 O<|B5<|A4 O<|A6<|C7<|A3<|L4 O<|A5 O<|E0 O (by exact h1)<|A3<|L4 O<|A5 O<|E0 O (by exact h2)<|A3<|L4 O<|A5 O<|E0 O (by exact h3)<|A3<|L4 O<|A5 O<|E0 O (by exact h4)<|P5<|F4<|E2<|A3<|A5 O<|D4<|E4 O λw9 ho9=>⟨by simp[Dc,h1,h2,h3,h4],ho9.plain⟩
section
variable(L:List G8)(hL:Aa L)(d:Nat)(hd:d<=50){X1:PX Int}(hX:d+1<=16->Ox L ((d+1:Nat):Int) X1)
include hL hd hX
theorem Sd(kind:Int):Z9 248 (λg=> #[.pointer (some ⟨g,0,none⟩),.int .i64 kind,.int .i64 d]) Z0 L AM (Fq L X1 kind d):=by
 intro g lv i nv ns w hi hn ho;refine G7 ho func248 O ntmps248 O ?_;by_cases h16:16<d+1
 ·exact A3<|A5 O<|B4 O<|A4 O<|N6 O (by omega)<|Ft 0 0 0 (i:=i) (Oc L (d+1) (by omega)) hi hn O O (A7 O) O O (by simp[Am,h16]) λc0 p0 hc0=>I7<|M6 O λw9 ho9=>M7 (by simp[Fq,I2,Am,h16]) hc0 ⟨_,_,ho9⟩
 ·have hdp:Am (d+1) i ns=some ((),i,ns):=by simp[Am,h16]
  refine A3<|A5 O<|B4 O<|A4 O<|N6 O (by omega)<|V4 0 0 0 (i:=i) (Oc L (d+1) (by omega)) hi hn O O (A7 O) O O hdp λv11 hi11 hn11=>I9 O<|F3 104 (A7 O) (λw ho=>CA kind w) O<|E3 V2 O λgz0=>E8 0 ((D7 (m8 kind)).toArray) O<|I9 O<|A4 O<|N6 O (by omega)<|O4 0 0 1 (i:=i) (hX (by omega)) hi hn O O (A7 O) O O (λc0 p0 hc0 hX0=>?_) (λx17 i17 n17 v17 hX17 hl17 hi17 hn17=>?_);exact I7<|M6 O λw9 ho9=>M7 (by simp[Fq,I2,hdp,hX0]) hc0 ⟨_,_,ho9⟩;refine D9 O<|N4 0 O<|I9 O<|G6 0 O O<|O4 0 0 1 (i:=i17) (Bb L (RH (m8 kind) x17)) hi17 hn17 O O (A7 O) O O (λc0 p0 hc0 hX0=>?_) (λx21 i21 n21 v21 hX21 hl21 hi21 hn21=>?_);exact I7<|M6 O λw9 ho9=>M7 (by simp[Fq,I2,hdp,hX17,hX0]) hc0 ⟨_,_,ho9⟩;refine A5 O<|D4<|E4 O λw9 ho9=>?_;exact S8 (x:=x21) (by simp[Fq,I2,hdp,hX17,hX21]) rfl hi21 hn21 ⟨_,_,ho9.sublist (.cons _ (Q5 _))⟩
theorem xS:Z9 225 (λg=> #[.pointer (some ⟨g,0,none⟩),.int .i64 d]) Z0 L AM (Gs L X1 d):=by
 intro g lv i nv ns w hi hn ho;refine G7 ho func225 O ntmps225 O ?_;have cE:=XH L hL (d+1) (by omega) hX;have cM:=λgl=>Bz L hL gl [Y1] (by decide);refine A3<|A5 O<|C8<|C7<|B4 O<|Hw 0 0 0 hL (i:=i) (Fp L hL KO) hi hn O O (A7 O) O O (λv8 hT8 hj8=>?_) (λv8 hT8=>?_);refine A5 O<|R1 O<|B4 O<|A4 O<|O4 0 0 0 (i:=i+1) (Sd L hL d hd hX 10) hj8 hn O O (A7 O) O O (λc0 p0 hc0 hX0=>?_) (λx11 i11 n11 v11 hX11 hl11 hi11 hn11=>?_);exact I7<|j5<|I7<|M6 O λw9 ho9=>M7 (by simp[Gs,I2,hT8,hX0]) hc0 ⟨_,_,ho9⟩;exact A5 O<|K3<|E4 O λw9 ho9=>S8 (x:=x11) (by simp[Gs,hT8,hX11]) rfl hi11 hn11 ⟨_,_,ho9⟩;refine A5 O<|M8 O<|B4 O<|Hw 0 0 0 hL (i:=i) (Fp L hL Z2) hi hn O O (A7 O) O O (λv14 hT14 hj14=>?_) (λv14 hT14=>?_);refine A5 O<|R1 O<|B4 O<|A4 O<|N6 O (by omega)<|O4 0 0 0 (i:=i+1) cE hj14 hn O O (A7 O) O O (λc0 p0 hc0 hX0=>?_) (λx18 i18 n18 v18 hX18 hl18 hi18 hn18=>?_);exact I7<|j5<|I7<|M6 O λw9 ho9=>M7 (by simp[Gs,I2,hT8,hX0]) hc0 ⟨_,_,ho9⟩;refine A5 O<|B4 O<|N7 (D1 [Y1]) (D1 [Y1]) O λgl=>O4 0 1 1 (i:=i18) (cM gl) hi18 hn18 O O (A7 O) O O (λc0 p0 hc0 hX0=>?_) (λx21 i21 n21 v21 hX21 hl21 hi21 hn21=>?_);exact I7<|j5<|I7<|M6 O λw9 ho9=>M7 (by simp[Gs,I2,hT8,hT14,hX18,hX0]) hc0 ⟨_,_,ho9⟩;refine I9 O<|A5 O<|K3<|E4 O λw9 ho9=>?_;exact S8 (x:=x18) (by simp[Gs,I2,p5,hT8,hT14,hX18,hX21]) rfl hi21 hn21 ⟨_,_,ho9.sublist (.cons _ (Q5 _))⟩;exact A5 O<|M8 O<|P5<|F4<|E2<|B4 O<|Ft 0 0 0 (i:=i) (KU L 3 (by decide)) hi hn O O (A7 O) O O O λc0 p0 hc0=>I7<|M6 O λw9 ho9=>M7 (by simp[Gs,hT8,hT14]) hc0 ⟨_,_,ho9⟩
end
section
variable(L:List G8)(hL:Aa L)(d:Nat)(hd:d<=50){X1:PX Int}(hX:d+1<=16->Ox L ((d+1:Nat):Int) X1)
include hL hd hX
theorem ap7(g:Nat)(lv:Value)(i:Nat)(nv:Value)(ns:List F2)(w:B6)(hi:i<L.length)(hn:ns.length<=512)(hk:(tk L i).kind=5)(ho:B7 (J1 w (Z0 g++T5 g lv L i nv ns)) (Z0 g++T5 g lv L i nv ns) w):
  Calls prog 226 #[.pointer (some ⟨g,0,none⟩),.int .i64 d] w (LJ g lv L i ns.length w (λk=>k∈F1 (Z0 g++T5 g lv L i nv ns)) (Z0 g) AM (CJ L X1 d i ns)):=by
 refine G7 ho func226 O ntmps226 O ?_;have cE:=XH L hL (d+1) (by omega) hX;have cM:=λgl=>Bz L hL gl [Y1] (by decide);have cO:=λgl=>Bz L hL gl [Z2] (by decide);have cT:=If L;have cK:=λw'=>sN (tk L i).s w';have hj:=Gg hL hi (by rw[hk];decide);have hl2:=hL.DW;by_cases hc:Dc (tk L i).s= -1
 ·have hcn:¬Dc (tk L i).s≠-1:=λh=>h hc;have e1:V5 Dw (tk L i)=true->CJ L X1 d i ns=Fq L X1 9 d (i+1) ns:=λh=>by
   unfold CJ;rw[if_neg hcn,if_pos h]
  have e2:V5 Dw (tk L i)=false->V5 EJ (tk L i)=true->CJ L X1 d i ns=l4 (m8 0) (i+1) ns:=λh h2=>by
   unfold CJ;rw[if_neg hcn,if_neg (by rw[h];simp),if_pos h2]
  by_cases hst:(tk L i).s=Ep
  ·have e3:V5 Dw (tk L i)=false->V5 EJ (tk L i)=false->CJ L X1 d i ns=l4 (LP true) (i+1) ns:=λh h2=>by
    unfold CJ;rw[if_neg hcn,if_neg (by rw[h];simp),if_neg (by rw[h2];simp),if_pos hst]
   have hsf:¬(tk L i).s=EG:=by rw[hst];decide
   refine A3<|A5 O<|B4 O<|V4 0 0 0 (i:=i) (x:=(tk L i)) (i':=i) (ns':=ns) cT hi hn O O (A7 O) O O O λv10 hi10 hn10=>FJ 2 O (by kernel_rfl)<|A5 O<|B5<|A4 O<|F3 249 (A7 O) (λw ho=>cK w) O<|A5 O<|B4 O<|J3 O<|A6<|E0 O (by assumption)<|D6<|C8<|C7<|B4 O<|Hw 0 0 0 hL (i:=i) (Fp L hL Dw) hi hn O O (A7 O) O O (λv41 hT41 hj41=>?_) (λv41 hT41=>?_);refine A5 O<|R1 O<|B4 O<|A4 O<|O4 0 0 0 (i:=i+1) (Sd L hL d hd hX 9) hj hn O O (A7 O) O O (λc0 p0 hc0 hX0=>?_) (λx44 i44 n44 v44 hX44 hl44 hi44 hn44=>?_);exact I7<|j5<|I7<|M6 O λw9 ho9=>M7 ((e1 hT41).trans hX0) hc0 ⟨_,_,ho9⟩;exact A5 O<|K3<|E4 O λw9 ho9=>S8 (x:=x44) ((e1 hT41).trans hX44) rfl hi44 hn44 ⟨_,_,ho9⟩;refine A5 O<|M8 O<|B4 O<|Hw 0 0 0 hL (i:=i) (Fp L hL EJ) hi hn O O (A7 O) O O (λv47 hT47 hj47=>?_) (λv47 hT47=>?_);refine A5 O<|R1 O<|B4 O<|F3 104 (A7 O) (λw ho=>CA 0 w) O<|O4 0 0 0 (i:=i+1) (Bb L (m8 0)) hj hn O O (A7 O) O O (λc0 p0 hc0 hX0=>?_) (λx50 i50 n50 v50 hX50 hl50 hi50 hn50=>?_);exact I7<|j5<|I7<|M6 O λw9 ho9=>M7 ((e2 hT41 hT47).trans hX0) hc0 ⟨_,_,ho9⟩;exact A5 O<|K3<|E4 O λw9 ho9=>S8 (x:=x50) ((e2 hT41 hT47).trans hX50) rfl hi50 hn50 ⟨_,_,ho9⟩;refine A5 O<|M8 O<|B4 O<|L4 O<|A4 O<|F9 54 true O (decide_eq_true (by exact hst))<|D2 O<|D2 O<|K8 O<|A5 O<|R1 O<|B4 O<|E5 O<|B2 0 O<|N6 O (by omega)<|E5 O<|D9 O<|N4 0 O<|I0<|F3 104 (A7 O) (λw ho=>CA 1 w) O<|E3 V2 O λgz0=>E8 0 ((D7 (m8 1)).toArray) O<|A6<|B5<|A4 O<|L4 O<|A6<|E7 O (by exact hst)<|C5<|D9 O<|N4 0 O<|I9 O<|G6 0 O O<|O4 0 0 1 (i:=i+1) (Bb L (LP true)) hj hn O O (A7 O) O O (λc0 p0 hc0 hX0=>?_) (λx71 i71 n71 v71 hX71 hl71 hi71 hn71=>?_);exact I7<|j5<|I7<|M6 O λw9 ho9=>M7 ((e3 hT41 hT47).trans hX0) hc0 ⟨_,_,ho9⟩;refine A5 O<|K3<|E4 O λw9 ho9=>?_;exact S8 (x:=x71) ((e3 hT41 hT47).trans hX71) rfl hi71 hn71 ⟨_,_,ho9.sublist (.cons _ (Q5 _))⟩
  ·by_cases hsf:(tk L i).s=EG
   ·have e3:V5 Dw (tk L i)=false->V5 EJ (tk L i)=false->CJ L X1 d i ns=l4 (LP false) (i+1) ns:=λh h2=>by
     unfold CJ;rw[if_neg hcn,if_neg (by rw[h];simp),if_neg (by rw[h2];simp),if_neg hst,if_pos hsf]
    refine A3<|A5 O<|B4 O<|V4 0 0 0 (i:=i) (x:=(tk L i)) (i':=i) (ns':=ns) cT hi hn O O (A7 O) O O O λv10 hi10 hn10=>FJ 2 O (by kernel_rfl)<|A5 O<|B5<|A4 O<|F3 249 (A7 O) (λw ho=>cK w) O<|A5 O<|B4 O<|J3 O<|A6<|E0 O (by assumption)<|D6<|C8<|C7<|B4 O<|Hw 0 0 0 hL (i:=i) (Fp L hL Dw) hi hn O O (A7 O) O O (λv41 hT41 hj41=>?_) (λv41 hT41=>?_);refine A5 O<|R1 O<|B4 O<|A4 O<|O4 0 0 0 (i:=i+1) (Sd L hL d hd hX 9) hj hn O O (A7 O) O O (λc0 p0 hc0 hX0=>?_) (λx44 i44 n44 v44 hX44 hl44 hi44 hn44=>?_);exact I7<|j5<|I7<|M6 O λw9 ho9=>M7 ((e1 hT41).trans hX0) hc0 ⟨_,_,ho9⟩;exact A5 O<|K3<|E4 O λw9 ho9=>S8 (x:=x44) ((e1 hT41).trans hX44) rfl hi44 hn44 ⟨_,_,ho9⟩;refine A5 O<|M8 O<|B4 O<|Hw 0 0 0 hL (i:=i) (Fp L hL EJ) hi hn O O (A7 O) O O (λv47 hT47 hj47=>?_) (λv47 hT47=>?_);refine A5 O<|R1 O<|B4 O<|F3 104 (A7 O) (λw ho=>CA 0 w) O<|O4 0 0 0 (i:=i+1) (Bb L (m8 0)) hj hn O O (A7 O) O O (λc0 p0 hc0 hX0=>?_) (λx50 i50 n50 v50 hX50 hl50 hi50 hn50=>?_);exact I7<|j5<|I7<|M6 O λw9 ho9=>M7 ((e2 hT41 hT47).trans hX0) hc0 ⟨_,_,ho9⟩;exact A5 O<|K3<|E4 O λw9 ho9=>S8 (x:=x50) ((e2 hT41 hT47).trans hX50) rfl hi50 hn50 ⟨_,_,ho9⟩;refine A5 O<|M8 O<|B4 O<|L4 O<|A4 O<|F9 54 false O (decide_eq_false (by exact hst))<|B3 O<|A4 O<|B3 O<|L4 O<|G4 O<|A5 O<|E7 O (by exact hsf)<|B4 O<|E5 O<|B2 0 O<|N6 O (by omega)<|E5 O<|D9 O<|N4 0 O<|I0<|F3 104 (A7 O) (λw ho=>CA 1 w) O<|E3 V2 O λgz0=>E8 0 ((D7 (m8 1)).toArray) O<|A6<|B5<|A4 O<|L4 O<|A6<|E0 O (by exact hst)<|D6<|B4 O<|G6 0 O O<|O4 0 0 1 (i:=i+1) (Bb L (LP false)) hj hn O O (A7 O) O O (λc0 p0 hc0 hX0=>?_) (λx71 i71 n71 v71 hX71 hl71 hi71 hn71=>?_);exact I7<|j5<|I7<|M6 O λw9 ho9=>M7 ((e3 hT41 hT47).trans hX0) hc0 ⟨_,_,ho9⟩;refine A5 O<|K3<|E4 O λw9 ho9=>?_;exact S8 (x:=x71) ((e3 hT41 hT47).trans hX71) rfl hi71 hn71 ⟨_,_,ho9.sublist (.cons _ (Q5 _))⟩
   ·have e3:V5 Dw (tk L i)=false->V5 EJ (tk L i)=false->CJ L X1 d i ns=none:=λh h2=>by
     unfold CJ;rw[if_neg hcn,if_neg (by rw[h];simp),if_neg (by rw[h2];simp),if_neg hst,if_neg hsf]
    refine A3<|A5 O<|B4 O<|V4 0 0 0 (i:=i) (x:=(tk L i)) (i':=i) (ns':=ns) cT hi hn O O (A7 O) O O O λv10 hi10 hn10=>FJ 2 O (by kernel_rfl)<|A5 O<|B5<|A4 O<|F3 249 (A7 O) (λw ho=>cK w) O<|A5 O<|B4 O<|J3 O<|A6<|E0 O (by assumption)<|D6<|C8<|C7<|B4 O<|Hw 0 0 0 hL (i:=i) (Fp L hL Dw) hi hn O O (A7 O) O O (λv41 hT41 hj41=>?_) (λv41 hT41=>?_);refine A5 O<|R1 O<|B4 O<|A4 O<|O4 0 0 0 (i:=i+1) (Sd L hL d hd hX 9) hj hn O O (A7 O) O O (λc0 p0 hc0 hX0=>?_) (λx44 i44 n44 v44 hX44 hl44 hi44 hn44=>?_);exact I7<|j5<|I7<|M6 O λw9 ho9=>M7 ((e1 hT41).trans hX0) hc0 ⟨_,_,ho9⟩;exact A5 O<|K3<|E4 O λw9 ho9=>S8 (x:=x44) ((e1 hT41).trans hX44) rfl hi44 hn44 ⟨_,_,ho9⟩;refine A5 O<|M8 O<|B4 O<|Hw 0 0 0 hL (i:=i) (Fp L hL EJ) hi hn O O (A7 O) O O (λv47 hT47 hj47=>?_) (λv47 hT47=>?_);refine A5 O<|R1 O<|B4 O<|F3 104 (A7 O) (λw ho=>CA 0 w) O<|O4 0 0 0 (i:=i+1) (Bb L (m8 0)) hj hn O O (A7 O) O O (λc0 p0 hc0 hX0=>?_) (λx50 i50 n50 v50 hX50 hl50 hi50 hn50=>?_);exact I7<|j5<|I7<|M6 O λw9 ho9=>M7 ((e2 hT41 hT47).trans hX0) hc0 ⟨_,_,ho9⟩;exact A5 O<|K3<|E4 O λw9 ho9=>S8 (x:=x50) ((e2 hT41 hT47).trans hX50) rfl hi50 hn50 ⟨_,_,ho9⟩;exact A5 O<|M8 O<|B4 O<|L4 O<|A4 O<|F9 54 false O (decide_eq_false (by exact hst))<|B3 O<|A4 O<|B3 O<|L4 O<|G4 O<|A5 O<|E0 O (by exact hsf)<|P5<|F4<|E2<|B4 O<|Ft 0 0 0 (i:=i) (KU L 3 (by decide)) hi hn O O (A7 O) O O O λc0 p0 hc0=>I7<|M6 O λw9 ho9=>M7 (e3 hT41 hT47) hc0 ⟨_,_,ho9⟩
 ·have e0:CJ L X1 d i ns=I2 (f7 L [Z2]) (λ_=>I2 (FL L X1 (d+1)) λa=>I2 (f7 L [Y1]) λ_=>l4 (RH (m8 (Dc (tk L i).s)) a)) (i+1) ns:=by
   unfold CJ;rw[if_pos hc]
  rw[e0];generalize Dc (tk L i).s=kk at*;refine A3<|A5 O<|B4 O<|V4 0 0 0 (i:=i) (x:=(tk L i)) (i':=i) (ns':=ns) cT hi hn O O (A7 O) O O O λv10 hi10 hn10=>FJ 2 O (by kernel_rfl)<|A5 O<|B5<|A4 O<|F3 249 (A7 O) (λw ho=>cK w) O<|A5 O<|B4 O<|J3 O<|A6<|E7 O (by exact hc)<|B4 O<|E5 O<|B2 0 O<|N6 O (by omega)<|E5 O<|D9 O<|N4 0 O<|I9 O<|N7 (D1 [Z2]) (D1 [Z2]) O λgl=>O4 0 1 1 (i:=i+1) (cO gl) hj hn O O (A7 O) O O (λc0 p0 hc0 hX0=>?_) (λx25 i25 n25 v25 hX25 hl25 hi25 hn25=>?_);exact I7<|I7<|M6 O λw9 ho9=>M7 (by simp[I2,hX0]) hc0 ⟨_,_,ho9⟩;refine I9 O<|F3 104 (A7 O) (λw ho=>CA kk w) O<|E3 V2 O λgz0=>E8 0 ((D7 (m8 kk)).toArray) O<|I9 O<|A4 O<|N6 O (by omega)<|O4 0 0 2 (i:=i25) cE hi25 hn25 O O (A7 O) O O (λc0 p0 hc0 hX0=>?_) (λx31 i31 n31 v31 hX31 hl31 hi31 hn31=>?_);exact I7<|I7<|M6 O λw9 ho9=>M7 (by simp[I2,hX25,hX0]) hc0 ⟨_,_,ho9⟩;refine D9 O<|N4 0 O<|I9 O<|N7 (D1 [Y1]) (D1 [Y1]) O λgm=>O4 0 1 3 (i:=i31) (cM gm) hi31 hn31 O O (A7 O) O O (λc0 p0 hc0 hX0=>?_) (λx35 i35 n35 v35 hX35 hl35 hi35 hn35=>?_);exact I7<|I7<|M6 O λw9 ho9=>M7 (by simp[I2,hX25,hX31,hX0]) hc0 ⟨_,_,ho9⟩;refine I9 O<|G6 1 O O<|O4 0 0 3 (i:=i35) (Bb L (RH (m8 kk) x31)) hi35 hn35 O O (A7 O) O O (λc0 p0 hc0 hX0=>?_) (λx38 i38 n38 v38 hX38 hl38 hi38 hn38=>?_);exact I7<|I7<|M6 O λw9 ho9=>M7 (by simp[I2,hX25,hX31,hX35,hX0]) hc0 ⟨_,_,ho9⟩;refine A5 O<|D4<|K0<|E4 O λw9 ho9=>?_;exact S8 (x:=x38) (by simp[I2,hX25,hX31,hX35,hX38]) rfl hi38 hn38 ⟨_,_,ho9.sublist (.cons _ (.cons _ (.cons _ (Q5 _))))⟩
theorem am0:Ox L d (Es L X1 d):=by
 intro g lv i nv ns w hi hn ho;refine G7 ho func186 O ntmps186 O ?_;have cT:=If L;have hl2:=hL.DW;obtain⟨F,hF⟩:∃F,Es L X1 d i ns=F:=⟨_,rfl⟩
 rw[hF];unfold Es at hF;by_cases h2:(tk L i).kind=2
 ·have hj:=Gg hL hi (by rw[h2];decide);rw[if_pos h2] at hF;refine A3<|A5 O<|B4 O<|V4 0 0 0 (i:=i) (x:=(tk L i)) (i':=i) (ns':=ns) cT hi hn O O (A7 O) O O O λv9 hi9 hn9=>E3 W9 O λgz0=>E8 0 ((K9 (tk L i)).toArray) O<|A6<|B5<|B2 0 O<|A6<|C7<|A3<|Q9 O (by exact h2)<|B4 O<|E5 O<|B2 1 O<|N6 O (by omega)<|E5 O<|D9 O<|N4 1 O<|I0<|F3 104 (A7 O) (λw ho=>CA 2 w) O<|E3 V2 O λgz1=>E8 0 ((D7 (m8 2)).toArray) O<|I0<|B2 1 O<|D9 O<|N4 0 O<|I9 O<|G6 0 O O<|O4 0 0 2 (i:=i+1) (Bb L (Wa (tk L i).num)) hj hn O O (A7 O) O O (λc0 p0 hc0 hX0=>?_) (λx27 i27 n27 v27 hX27 hl27 hi27 hn27=>?_);exact I7<|j5<|I7<|M6 O λw9 ho9=>M7 (hF.symm.trans hX0) hc0 ⟨_,_,ho9⟩;refine A5 O<|K3<|E4 O λw9 ho9=>?_;exact S8 (x:=x27) (hF.symm.trans hX27) rfl hi27 hn27 ⟨_,_,ho9.sublist (.cons _ (.cons _ (Q5 _)))⟩
 rw[if_neg h2] at hF;by_cases h3:(tk L i).kind=3
 ·have hj:=Gg hL hi (by rw[h3];decide);have h1:¬(tk L i).kind=1:=by omega
  rw[if_pos h3] at hF;refine A3<|A5 O<|B4 O<|V4 0 0 0 (i:=i) (x:=(tk L i)) (i':=i) (ns':=ns) cT hi hn O O (A7 O) O O O λv9 hi9 hn9=>E3 W9 O λgz0=>E8 0 ((K9 (tk L i)).toArray) O<|A6<|B5<|B2 0 O<|A6<|C7<|A3<|C3 O (by exact h2)<|B5<|Q9 O (by exact h3)<|D6<|E7 O (by exact h3)<|B4 O<|E5 O<|B2 1 O<|N6 O (by omega)<|E5 O<|D9 O<|N4 1 O<|I0<|F3 104 (A7 O) (λw ho=>CA 3 w) O<|E3 V2 O λgz1=>E8 0 ((D7 (m8 3)).toArray) O<|A6<|B5<|B2 1 O<|H5 O<|A6<|E0 O (by exact h1)<|D6<|A3<|B2 1 O<|D9 O<|N4 0 O<|I9 O ?_;refine G6 0 O O<|O4 0 0 2 (i:=i+1) (Bb L (Om 3 (tk L i).s)) hj hn O O (A7 O) O O (λc0 p0 hc0 hX0=>?_) (λx27 i27 n27 v27 hX27 hl27 hi27 hn27=>?_);exact I7<|j5<|I7<|M6 O λw9 ho9=>M7 (hF.symm.trans hX0) hc0 ⟨_,_,ho9⟩;refine A5 O<|K3<|E4 O λw9 ho9=>?_;exact S8 (x:=x27) (hF.symm.trans hX27) rfl hi27 hn27 ⟨_,_,ho9.sublist (.cons _ (.cons _ (Q5 _)))⟩
 rw[if_neg h3] at hF;by_cases h1:(tk L i).kind=1
 ·have hj:=Gg hL hi (by rw[h1];decide);rw[if_pos h1] at hF;refine A3<|A5 O<|B4 O<|V4 0 0 0 (i:=i) (x:=(tk L i)) (i':=i) (ns':=ns) cT hi hn O O (A7 O) O O O λv9 hi9 hn9=>E3 W9 O λgz0=>E8 0 ((K9 (tk L i)).toArray) O<|A6<|B5<|B2 0 O<|A6<|C7<|A3<|C3 O (by exact h2)<|B5<|C3 O (by exact h3)<|C5<|Q9 O (by exact h1)<|B4 O<|E5 O<|B2 1 O<|N6 O (by omega)<|E5 O<|D9 O<|N4 1 O<|I0<|F3 104 (A7 O) (λw ho=>CA 3 w) O<|E3 V2 O λgz1=>E8 0 ((D7 (m8 3)).toArray) O<|A6<|B5<|B2 1 O<|H5 O<|A6<|E7 O (by exact h1)<|C5<|D9 O<|N4 0 O<|I0<|B2 1 O<|D9 O ?_;refine N4 0 O<|I9 O<|G6 0 O O<|O4 0 0 2 (i:=i+1) (Bb L (Om 4 (tk L i).s)) hj hn O O (A7 O) O O (λc0 p0 hc0 hX0=>?_) (λx27 i27 n27 v27 hX27 hl27 hi27 hn27=>?_);exact I7<|j5<|I7<|M6 O λw9 ho9=>M7 (hF.symm.trans hX0) hc0 ⟨_,_,ho9⟩;refine A5 O<|K3<|E4 O λw9 ho9=>?_;exact S8 (x:=x27) (hF.symm.trans hX27) rfl hi27 hn27 ⟨_,_,ho9.sublist (.cons _ (.cons _ (Q5 _)))⟩
 rw[if_neg h1] at hF;by_cases h4:(tk L i).kind=4
 ·rw[if_pos h4] at hF;refine A3<|A5 O<|B4 O<|V4 0 0 0 (i:=i) (x:=(tk L i)) (i':=i) (ns':=ns) cT hi hn O O (A7 O) O O O λv9 hi9 hn9=>E3 W9 O λgz0=>E8 0 ((K9 (tk L i)).toArray) O<|A6<|B5<|B2 0 O<|A6<|C7<|A3<|C3 O (by exact h2)<|B5<|C3 O (by exact h3)<|C5<|C3 O (by exact h1)<|A3<|Q9 O (by exact h4)<|B4 O<|A4 O<|O4 0 0 1 (i:=i) (xS L hL d hd hX) hi hn O O (A7 O) O O (λc0 p0 hc0 hX0=>?_) (λx27 i27 n27 v27 hX27 hl27 hi27 hn27=>?_);exact I7<|j5<|I7<|M6 O λw9 ho9=>M7 (hF.symm.trans hX0) hc0 ⟨_,_,ho9⟩;refine A5 O<|K3<|E4 O λw9 ho9=>?_;exact S8 (x:=x27) (hF.symm.trans hX27) rfl hi27 hn27 ⟨_,_,ho9.sublist (.cons _ (Q5 _))⟩
 rw[if_neg h4] at hF;by_cases h5:(tk L i).kind=5
 ·rw[if_pos h5] at hF;refine A3<|A5 O<|B4 O<|V4 0 0 0 (i:=i) (x:=(tk L i)) (i':=i) (ns':=ns) cT hi hn O O (A7 O) O O O λv9 hi9 hn9=>E3 W9 O λgz0=>E8 0 ((K9 (tk L i)).toArray) O<|A6<|B5<|B2 0 O<|A6<|C7<|A3<|C3 O (by exact h2)<|B5<|C3 O (by exact h3)<|C5<|C3 O (by exact h1)<|A3<|C3 O (by exact h4)<|A3<|Q9 O (by exact h5)<|B4 O<|A4 O<|PI (args:=λg=> #[.pointer (some ⟨g,0,none⟩),.int .i64 d]) (X:=CJ L X1 d) 0 0 1 (i:=i) (λw' ho=>ap7 L hL d hd hX g lv i _ ns w' hi hn h5 ho) O O (A7 O) O O (λc0 p0 hc0 hX0=>?_) (λx27 i27 n27 v27 hX27 hl27 hi27 hn27=>?_);exact I7<|j5<|I7<|M6 O λw9 ho9=>M7 (hF.symm.trans hX0) hc0 ⟨_,_,ho9⟩;refine A5 O<|K3<|E4 O λw9 ho9=>?_;exact S8 (x:=x27) (hF.symm.trans hX27) rfl hi27 hn27 ⟨_,_,ho9.sublist (.cons _ (Q5 _))⟩
 ·rw[if_neg h5] at hF;exact A3<|A5 O<|B4 O<|V4 0 0 0 (i:=i) (x:=(tk L i)) (i':=i) (ns':=ns) cT hi hn O O (A7 O) O O O λv9 hi9 hn9=>E3 W9 O λgz0=>E8 0 ((K9 (tk L i)).toArray) O<|A6<|B5<|B2 0 O<|A6<|C7<|A3<|C3 O (by exact h2)<|B5<|C3 O (by exact h3)<|C5<|C3 O (by exact h1)<|A3<|C3 O (by exact h4)<|A3<|C3 O (by exact h5)<|P5<|F4<|E2<|B4 O<|Ft 0 0 1 (i:=i) (KU L 3 (by decide)) hi hn O O (A7 O) O O O λc0 p0 hc0=>I7<|M6 O λw9 ho9=>M7 hF.symm hc0 ⟨_,_,ho9⟩
end
def PB(L:List G8):Nat->PX Int
 |0=>FE
 |k+1=>Es L (PB L k) (16-k)
theorem kT(L:List G8)(hL:Aa L):∀(k d:Nat),d+k=17->d<=16->Ox L d (PB L k)
 |0,d,h,h2=>absurd h2 (by omega)
 |k+1,d,h,h2=>by
  have e:d=16-k:=by omega
  subst e;exact am0 L hL (16-k) (by omega) λh3=>kT L hL k (16-k+1) (by omega) h3
end
def H7{β:Type}(X:PX β):Prop:=∀i ns x i' ns',X i ns=some (x,i',ns')->ns.length<=ns'.length
def Lays(X:PX Int):Prop:=∀i ns x i' ns',X i ns=some (x,i',ns')->(x= -1/\ns.length<=ns'.length)\/(x=(ns'.length:Int)-1/\ns.length<ns'.length)
theorem Lays.mono{X:PX Int}(h:Lays X):H7 X:=λi ns x i' ns' e=>by
 have:=h i ns x i' ns' e;omega
theorem H7.bind{α β:Type}{X:PX α}{f:α->PX β}(h:H7 X)(hf:∀x,H7 (f x)):H7 (I2 X f):=by
 intro i ns x i' ns' e;unfold I2 at e;cases hX:X i ns with
 |none=>rw[hX] at e;cases e
 |some q=>
  obtain⟨y,i1,n1⟩:=q;rw[hX] at e;exact j7 (h _ _ _ _ _ hX) (hf y _ _ _ _ _ e)
theorem Lays.bind{α:Type}{X:PX α}{f:α->PX Int}(h:H7 X)(hf:∀x,Lays (f x)):Lays (I2 X f):=by
 intro i ns x i' ns' e;unfold I2 at e;cases hX:X i ns with
 |none=>rw[hX] at e;cases e
 |some q=>
  obtain⟨y,i1,n1⟩:=q;rw[hX] at e;exact(hf y _ _ _ _ _ e).imp (λh2=>⟨h2.1,j7 (h _ _ _ _ _ hX) h2.2⟩) λh2=>⟨h2.1,Nat.lt_of_le_of_lt (h _ _ _ _ _ hX) h2.2⟩
theorem H7.p5{β:Type}(x:β):H7 (p5 x):=λi ns y i' ns' e=>by cases e;exact L6 _
theorem H7.FE{β:Type}:H7 (FE:PX β):=λi ns y i' ns' e=>by cases e
theorem H7.as7{L:List G8}{s:C9}:H7 (AK L s):=λi ns y i' ns' e=>by
 unfold AK at e;split at e<;>cases e<;>exact L6 _
theorem H7.Di{L:List G8}:∀ls,H7 (f7 L ls)
 |[]=>H7.p5 ()
 |s::l=>λi ns y i' ns' e=>by
  rw[f7] at e;dsimp only at e;split at e
  ·exact H7.Di l _ _ _ _ _ e
  ·cases e
theorem H7.of{L:List G8}{k:Int}:H7 (EF L k):=λi ns y i' ns' e=>by
 unfold EF at e;split at e
 ·cases e;exact L6 _
 ·cases e
theorem H7.lay{m:F2}:H7 (l4 m):=λi ns y i' ns' e=>by
 unfold l4 at e;split at e
 ·cases e
 ·cases e;simp
theorem Lays.lay{m:F2}:Lays (l4 m):=λi ns y i' ns' e=>by
 unfold l4 at e;split at e
 ·cases e
 ·cases e;right;simp
theorem H7.deep{d:Nat}:H7 (Am d):=λi ns y i' ns' e=>by
 unfold Am at e;split at e
 ·cases e
 ·cases e;exact L6 _
theorem H7.turns{L:List G8}:H7 (GT L):=λi ns y i' ns' e=>by
 unfold GT at e;split at e
 ·cases e
 ·split at e
  ·cases e;exact L6 _
  ·cases e
theorem H7.oneOf{L:List G8}:∀ls,H7 (AO L ls)
 |[]=>H7.p5 _
 |s::l=>λi ns y i' ns' e=>by
  rw[AO] at e;dsimp only at e;split at e
  ·cases e;exact L6 _
  ·exact H7.oneOf l _ _ _ _ _ e
theorem H7.twoL{L:List G8}{X:PX Int}(h:H7 X)(signs:List (List UInt8)):∀f a,H7 (twoL L X signs f a)
 |0,_=>H7.FE
 |f+1,a=>by
  rw[Go.Proofs.YtjkhokkdgfbhcaaGreatDoor.twoL];refine H7.bind (H7.oneOf _) λs=>?_;split
  ·exact H7.p5 _
  ·exact H7.bind h λb=>H7.bind H7.lay λm=>H7.twoL h signs f m
theorem H7.two{L:List G8}{X:PX Int}(h:H7 X)(signs:List (List UInt8)):H7 (FX L X signs):=H7.bind h λa=>H7.twoL h signs _ a
theorem H7.cmp{L:List G8}{X:PX Int}(h:H7 X):H7 (Ej L X):=by
 have hj:H7 (LO L X):=H7.two (H7.two (H7.two h _) _) _;refine H7.bind hj λa=>H7.bind (H7.oneOf _) λs=>?_;split
 ·exact H7.p5 _
 ·exact H7.bind hj λb=>H7.lay
theorem H7.expr{L:List G8}{X:PX Int}(h:H7 X)(d:Nat):H7 (FL L X d):=H7.bind H7.deep λ_=>H7.two (H7.two (H7.cmp h) _) _
theorem H7.within{L:List G8}{X:PX Int}(h:H7 X)(k:Int)(d:Nat):H7 (Fq L X k d):=H7.bind H7.deep λ_=>H7.bind h λa=>H7.lay
theorem H7.shift{β:Type}{X:PX β}(h:H7 X):∀i ns x i' ns',X (i+1) ns=some (x,i',ns')->ns.length<=ns'.length:=λi ns x i' ns' e=>h _ _ _ _ _ e
theorem H7.Es{L:List G8}{X:PX Int}(h:H7 X)(d:Nat):H7 (Es L X d):=by
 intro i ns x i' ns' e;unfold Go.Proofs.YtjkhokkdgfbhcaaGreatDoor.Es at e;split at e
 ·exact H7.lay _ _ _ _ _ e
 split at e
 ·exact H7.lay _ _ _ _ _ e
 split at e
 ·exact H7.lay _ _ _ _ _ e
 split at e
 ·unfold Gs at e;split at e
  ·exact H7.within h _ _ _ _ _ _ _ e
  ·split at e
   ·exact(H7.bind (H7.expr h _) λa=>H7.bind (H7.Di _) λ_=>H7.p5 _) _ _ _ _ _ e
   ·cases e
 split at e
 ·unfold CJ at e;split at e
  ·exact(H7.bind (H7.Di _) λ_=>H7.bind (H7.expr h _) λa=>H7.bind (H7.Di _) λ_=>H7.lay) _ _ _ _ _ e
  split at e
  ·exact H7.within h _ _ _ _ _ _ _ e
  split at e
  ·exact H7.lay _ _ _ _ _ e
  split at e
  ·exact H7.lay _ _ _ _ _ e
  split at e
  ·exact H7.lay _ _ _ _ _ e
  ·cases e
 ·cases e
theorem H7.one{L:List G8}:∀k,H7 (PB L k)
 |0=>H7.FE
 |k+1=>H7.Es (H7.one k) _
def Dr(L:List G8)(d:Nat):PX Int:=FL L (PB L (17-d)) d
theorem H7.Dr{L:List G8}(d:Nat):H7 (Dr L d):=H7.expr (H7.one _) d
theorem Tx(L:List G8)(hL:Aa L)(d:Nat)(hd:d<=100):Z9 138 (λg=> #[.pointer (some ⟨g,0,none⟩),.int .i64 d]) Z0 L AM (Dr L d):=
 XH L hL d hd λh=>kT L hL (17-d) d (by omega) h
def Ay:List UInt8:=[108,101,116]
def AL:List UInt8:=[115,101,116]
def Aq:List UInt8:=[61]
def W8:List UInt8:=[59]
def d5:List UInt8:=[44]
def w8:List UInt8:=[105,102]
def Ba:List UInt8:=[101,108,115,101]
def BR:List UInt8:=[102,111,114]
def CI:List UInt8:=[105,110]
def Bw:List UInt8:=[115,99,97,110]
def DC:List UInt8:=[114,101,112,101,97,116]
def BF:List UInt8:=[112,117,116]
def Bv:List UInt8:=[100,101,108,101,116,101]
def CO:List UInt8:=[97,98,111,114,116]
def DH:List UInt8:=[114,101,116,117,114,110]
def JX:List UInt8:=[123]
def LL:List UInt8:=[125]
def CM(L:List G8)(d:Nat)(k:Int):PX Int:=I2 (EF L 1) λt=>I2 (f7 L [Aq]) λ_=>I2 (Dr L d) λa=>I2 (f7 L [W8]) λ_=>l4 ⟨k,a,-1,-1,-1,0,t.s,[]⟩
def Jj(L:List G8)(d:Nat):PX Int:=λi ns=>if V5 AL (tk L i) then CM L d 21 (i+1) ns else I2 (f7 L [Ay]) (λ_=>CM L d 20) i ns
def Gk(s:List UInt8):Int:=if s=BF then 22 else if s=Bv then 23 else if s=CO then 27 else 28
def Af(L:List G8)(d:Nat)(k:Int):PX Int:=I2 (Dr L d) λa=>if k=22 then I2 (f7 L [d5]) λ_=>I2 (Dr L d) λb=>I2 (f7 L [W8]) λ_=>l4 ⟨k,a,b,-1,-1,0,[],[]⟩ else I2 (f7 L [W8]) λ_=>l4 ⟨k,a,-1,-1,-1,0,[],[]⟩
def FR(L:List G8)(d:Nat):PX Int:=λi ns=>Af L d (Gk (tk L i).s) (i+1) ns
def Lx(L:List G8)(d:Nat)(B:PX Int):PX Int:=I2 (f7 L [w8]) λ_=>I2 (Dr L d) λa=>I2 B λb=>I2 (AK L Ba) λt=>if t then I2 B λc=>l4 ⟨24,a,b,c,-1,1,[],[]⟩ else l4 ⟨24,a,b,-1,-1,0,[],[]⟩
def Mj(L:List G8)(d:Nat)(B:PX Int):PX Int:=I2 (f7 L [BR]) λ_=>I2 (EF L 1) λs=>I2 (f7 L [d5]) λ_=>I2 (EF L 1) λt=>I2 (f7 L [CI,Bw,Z2]) λ_=>I2 (Dr L d) λa=>I2 (f7 L [d5]) λ_=>I2 (GT L) λn=>I2 (f7 L [Y1]) λ_=>I2 B λb=>l4 ⟨25,a,b,-1,-1,n,s.s,t.s⟩
def Ka(L:List G8)(B:PX Int):PX Int:=λi ns=>I2 (GT L) (λn=>I2 B λb=>l4 ⟨26,-1,b,-1,-1,n,[],[]⟩) (i+1) ns
def GM(L:List G8)(d:Nat)(B:PX Int):PX Int:=λi ns=>
 if(tk L i).kind≠5 then some (-1,i,ns)
 else if(tk L i).s=Ay\/(tk L i).s=AL then Jj L d i ns
 else if(tk L i).s=BF\/(tk L i).s=Bv\/(tk L i).s=CO\/(tk L i).s=DH then FR L d i ns
 else if(tk L i).s=w8 then Lx L d B i ns
 else if(tk L i).s=BR then Mj L d B i ns
 else if(tk L i).s=DC then Ka L B i ns
 else some (-1,i,ns)
def Ei(L:List G8)(K:PX Int):PX Int:=I2 (f7 L [JX]) λ_=>I2 K λn=>I2 (f7 L [LL]) λ_=>p5 n
def DQ(ns:List F2)(j:Int)(x:Int):List F2:=ns.modify j.toNat λm=>⟨m.kind,m.a,m.b,m.c,x,m.i,m.s,m.t⟩
def blockL(S:PX Int):Nat->Int->Int->PX Int
 |0,_,_=>FE
 |f+1,first,last=>I2 S λn=>if n= -1 then p5 first else if first= -1 then blockL S f n n else λi ns=>blockL S f first n i (DQ ns last n)
def Iq(S:PX Int)(d:Nat):PX Int:=I2 (Am d) λ_=>blockL S 600 (-1) (-1)
theorem Ev(ns:List F2)(j x:Int):(DQ ns j x).length=ns.length:=by simp[DQ]
theorem H7.blockL{S:PX Int}(h:H7 S):∀f a b,H7 (blockL S f a b)
 |0,_,_=>H7.FE
 |f+1,a,b=>by
  rw[Go.Proofs.YtjkhokkdgfbhcaaGreatDoor.blockL];refine H7.bind h λn=>?_;split
  ·exact H7.p5 _
  ·split
   ·exact H7.blockL h f _ _
   ·intro i ns x i' ns' e;have:=H7.blockL h f _ _ _ _ _ _ _ e;rwa[Ev] at this
theorem H7.block{S:PX Int}(h:H7 S)(d:Nat):H7 (Iq S d):=H7.bind H7.deep λ_=>H7.blockL h _ _ _
theorem H7.ZB{L:List G8}{K:PX Int}(h:H7 K):H7 (Ei L K):=H7.bind (H7.Di _) λ_=>H7.bind h λn=>H7.bind (H7.Di _) λ_=>H7.p5 _
theorem Lays.names{L:List G8}{d:Nat}:Lays (Jj L d):=by
 have hr:∀k,Lays (CM L d k):=λk=>Lays.bind H7.of λt=>Lays.bind (H7.Di _) λ_=>Lays.bind (H7.Dr _) λa=>Lays.bind (H7.Di _) λ_=>Lays.lay;intro i ns x i' ns' e;unfold Jj at e;split at e
 ·exact hr _ _ _ _ _ _ e
 ·exact(Lays.bind (H7.Di _) λ_=>hr _) _ _ _ _ _ e
theorem Lays.simple{L:List G8}{d:Nat}:Lays (FR L d):=by
 intro i ns x i' ns' e;refine(show Lays (Af L d (Gk (tk L i).s)) from Lays.bind (H7.Dr _) λa=>?_) _ _ _ _ _ e;split
 ·exact Lays.bind (H7.Di _) λ_=>Lays.bind (H7.Dr _) λb=>Lays.bind (H7.Di _) λ_=>Lays.lay
 ·exact Lays.bind (H7.Di _) λ_=>Lays.lay
theorem Lays.stmt{L:List G8}{d:Nat}{B:PX Int}(hB:H7 B):Lays (GM L d B):=by
 intro i ns x i' ns' e;unfold GM at e;split at e
 ·cases e;exact .inl ⟨rfl,L6 _⟩
 split at e
 ·exact Lays.names _ _ _ _ _ e
 split at e
 ·exact Lays.simple _ _ _ _ _ e
 split at e
 ·refine(show Lays (Lx L d B) from Lays.bind (H7.Di _) λ_=>Lays.bind (H7.Dr _) λa=>Lays.bind hB λb=>Lays.bind H7.as7 λt=>?_) _ _ _ _ _ e;split
  ·exact Lays.bind hB λc=>Lays.lay
  ·exact Lays.lay
 split at e
 ·exact(show Lays (Mj L d B) from Lays.bind (H7.Di _) λ_=>Lays.bind H7.of λs=>Lays.bind (H7.Di _) λ_=>Lays.bind H7.of λt=>Lays.bind (H7.Di _) λ_=>Lays.bind (H7.Dr _) λa=>Lays.bind (H7.Di _) λ_=>Lays.bind H7.turns λn=>Lays.bind (H7.Di _) λ_=>Lays.bind hB λb=>Lays.lay) _ _ _ _ _ e
 split at e
 ·exact(Lays.bind H7.turns λn=>Lays.bind hB λb=>Lays.lay) _ _ _ _ _ e
 ·cases e;exact .inl ⟨rfl,L6 _⟩
section
attribute [local irreducible] F8 D3 Exit.then Exit.inBlock Exit.noGoto wpQuiet Calls fin At G9 L3 L7 RQ
section
variable(L:List G8)(hL:Aa L)(d:Nat)(hd:d<=50)
include hL hd
theorem fD:Z9 100 (λg=> #[.pointer (some ⟨g,0,none⟩),.int .i64 d]) Z0 L AM (Jj L d):=by
 intro g lv i nv ns w hi hn ho;refine G7 ho func100 O ntmps100 O ?_;have hl2:=hL.DW;have cE:=Tx L hL d (by omega);have cF:=Wr L hL 1 (by decide);unfold Jj;cases hT:V5 AL (tk L i)
 ·have hK:AK L AL i ns=some (false,i,ns):=by simp[AK,hT]
  refine A3<|A5 O<|A3<|F3 104 (A7 O) (λw ho=>CA 20 w) O<|E3 V2 O λgz0=>E8 0 ((D7 (m8 20)).toArray) O<|A6<|B5<|A4 O<|V4 0 0 1 (i:=i) (x:=false) (i':=i) (ns':=ns) (Fp L hL AL) hi hn O O (A7 O) O O hK λv8 hi8 hn8=>A6<|M8 O<|C5<|A4 O<|N7 (D1 [Ay]) (D1 [Ay]) O λgl11=>O4 0 1 2 (i:=i) (Bz L hL gl11 [Ay] (by decide)) hi hn O O (A7 O) O O (λc0 p0 hc0 hX0=>?_) (λx12 i12 n12 v12 hX12 hl12 hi12 hn12=>?_);exact I7<|M6 O λw9 ho9=>M7 (by simp[I2,CM,hX0]) hc0 ⟨_,_,ho9⟩;refine I9 O<|O4 0 0 2 (i:=i12) cF hi12 hn12 O O (A7 O) O O (λc0 p0 hc0 hX0=>?_) (λx14 i14 n14 v14 hX14 hl14 hi14 hn14=>?_);exact I7<|M6 O λw9 ho9=>M7 (by simp[I2,CM,hX0,hX12]) hc0 ⟨_,_,ho9⟩;refine FJ 2 O (by kernel_rfl)<|D9 O<|N4 1 O<|I9 O<|N7 (D1 [Aq]) (D1 [Aq]) O λgl18=>O4 0 1 3 (i:=i14) (Bz L hL gl18 [Aq] (by decide)) hi14 hn14 O O (A7 O) O O (λc0 p0 hc0 hX0=>?_) (λx19 i19 n19 v19 hX19 hl19 hi19 hn19=>?_);exact I7<|M6 O λw9 ho9=>M7 (by simp[I2,CM,hX0,hX12,hX14]) hc0 ⟨_,_,ho9⟩;refine I9 O<|A4 O<|O4 0 0 3 (i:=i19) cE hi19 hn19 O O (A7 O) O O (λc0 p0 hc0 hX0=>?_) (λx22 i22 n22 v22 hX22 hl22 hi22 hn22=>?_);exact I7<|M6 O λw9 ho9=>M7 (by simp[I2,CM,hX0,hX12,hX14,hX19]) hc0 ⟨_,_,ho9⟩;refine D9 O<|N4 2 O<|I9 O<|N7 (D1 [W8]) (D1 [W8]) O λgl25=>O4 0 1 4 (i:=i22) (Bz L hL gl25 [W8] (by decide)) hi22 hn22 O O (A7 O) O O (λc0 p0 hc0 hX0=>?_) (λx26 i26 n26 v26 hX26 hl26 hi26 hn26=>?_);exact I7<|M6 O λw9 ho9=>M7 (by simp[I2,CM,hX0,hX12,hX14,hX19,hX22]) hc0 ⟨_,_,ho9⟩;refine I9 O<|G6 3 O O<|O4 0 0 4 (i:=i26) (Bb L ⟨20,x22,-1,-1,-1,0,x14.s,[]⟩) hi26 hn26 O O (A7 O) O O (λc0 p0 hc0 hX0=>?_) (λx29 i29 n29 v29 hX29 hl29 hi29 hn29=>?_);refine I7<|M6 O λw9 ho9=>?_;exact M7 (by simp[I2,CM,hX0,hX12,hX14,hX19,hX22,hX26]) hc0 ⟨_,_,ho9⟩;refine A5 O<|D4<|E4 O λw9 ho9=>?_;exact S8 (x:=x29) (by simp[I2,CM,p5,hX12,hX14,hX19,hX22,hX26,hX29,CM]) rfl hi29 hn29 ⟨_,_,ho9.sublist (.cons _ (.cons _ (.cons _ (.cons _ (Q5 _)))))⟩
 ·have hK:AK L AL i ns=some (true,i+1,ns):=by simp[AK,hT]
  have hj:=Gg hL hi (Tj hT);refine A3<|A5 O<|A3<|F3 104 (A7 O) (λw ho=>CA 20 w) O<|E3 V2 O λgz0=>E8 0 ((D7 (m8 20)).toArray) O<|A6<|B5<|A4 O<|V4 0 0 1 (i:=i) (x:=true) (i':=i+1) (ns':=ns) (Fp L hL AL) hi hn O O (A7 O) O O hK λv8 hi8 hn8=>A6<|R1 O<|C5<|D9 O<|N4 0 O<|I9 O<|O4 0 0 1 (i:=i+1) cF hj hn O O (A7 O) O O (λc0 p0 hc0 hX0=>?_) (λx14 i14 n14 v14 hX14 hl14 hi14 hn14=>?_);exact I7<|M6 O λw9 ho9=>M7 (by simp[I2,CM,hX0]) hc0 ⟨_,_,ho9⟩;refine FJ 2 O (by kernel_rfl)<|D9 O<|N4 0 O<|I9 O<|N7 (D1 [Aq]) (D1 [Aq]) O λgl18=>O4 0 1 2 (i:=i14) (Bz L hL gl18 [Aq] (by decide)) hi14 hn14 O O (A7 O) O O (λc0 p0 hc0 hX0=>?_) (λx19 i19 n19 v19 hX19 hl19 hi19 hn19=>?_);exact I7<|M6 O λw9 ho9=>M7 (by simp[I2,CM,hX0,hX14]) hc0 ⟨_,_,ho9⟩;refine I9 O<|A4 O<|O4 0 0 2 (i:=i19) cE hi19 hn19 O O (A7 O) O O (λc0 p0 hc0 hX0=>?_) (λx22 i22 n22 v22 hX22 hl22 hi22 hn22=>?_);exact I7<|M6 O λw9 ho9=>M7 (by simp[I2,CM,hX0,hX14,hX19]) hc0 ⟨_,_,ho9⟩;refine D9 O<|N4 1 O<|I9 O<|N7 (D1 [W8]) (D1 [W8]) O λgl25=>O4 0 1 3 (i:=i22) (Bz L hL gl25 [W8] (by decide)) hi22 hn22 O O (A7 O) O O (λc0 p0 hc0 hX0=>?_) (λx26 i26 n26 v26 hX26 hl26 hi26 hn26=>?_);exact I7<|M6 O λw9 ho9=>M7 (by simp[I2,CM,hX0,hX14,hX19,hX22]) hc0 ⟨_,_,ho9⟩;refine I9 O<|G6 2 O O<|O4 0 0 3 (i:=i26) (Bb L ⟨21,x22,-1,-1,-1,0,x14.s,[]⟩) hi26 hn26 O O (A7 O) O O (λc0 p0 hc0 hX0=>?_) (λx29 i29 n29 v29 hX29 hl29 hi29 hn29=>?_);exact I7<|M6 O λw9 ho9=>M7 (by simp[I2,CM,hX0,hX14,hX19,hX22,hX26]) hc0 ⟨_,_,ho9⟩;refine A5 O<|D4<|E4 O λw9 ho9=>?_;exact S8 (x:=x29) (by simp[I2,CM,p5,hX14,hX19,hX22,hX26,hX29]) rfl hi29 hn29 ⟨_,_,ho9.sublist (.cons _ (.cons _ (.cons _ (Q5 _))))⟩
theorem Su(g:Nat)(lv:Value)(i:Nat)(nv:Value)(ns:List F2)(w:B6)(hi:i<L.length)(hn:ns.length<=512)(hk:(tk L i).kind=5)(ho:B7 (J1 w (Z0 g++T5 g lv L i nv ns)) (Z0 g++T5 g lv L i nv ns) w):
  Calls prog 101 #[.pointer (some ⟨g,0,none⟩),.int .i64 d] w (LJ g lv L i ns.length w (λk=>k∈F1 (Z0 g++T5 g lv L i nv ns)) (Z0 g) AM (FR L d i ns)):=by
 refine G7 ho func101 O ntmps101 O ?_;have hl2:=hL.DW;have cE:=Tx L hL d (by omega);have cT:=If L;have hj:=Gg hL hi (by rw[hk];decide);unfold FR;by_cases h0:(tk L i).s=BF
 ·rw[show Gk (tk L i).s=22 by simp[Gk,h0];try decide];refine A3<|A5 O<|A3<|A5 O<|B5<|A4 O<|V4 0 0 0 (i:=i) (x:=(tk L i)) (i':=i) (ns':=ns) cT hi hn O O (A7 O) O O O λv8 hi8 hn8=>FJ 2 O (by kernel_rfl)<|A6<|C7<|A3<|L4 O<|A5 O<|E7 O (by exact h0)<|C5<|E6 O<|H6<|F4<|E2<|B4 O<|E5 O<|B2 0 O<|N6 O (by omega)<|E5 O<|D9 O<|N4 0 O<|I9 O<|F3 104 (A7 O) (λw ho=>CA 22 w) O<|E3 V2 O λgz0=>E8 0 ((D7 (m8 22)).toArray) O<|I9 O<|A4 O<|O4 0 0 1 (i:=i+1) cE hj hn O O (A7 O) O O (λc0 p0 hc0 hX0=>?_) (λx27 i27 n27 v27 hX27 hl27 hi27 hn27=>?_);exact I7<|M6 O λw9 ho9=>M7 (by simp[I2,Af,hX0]) hc0 ⟨_,_,ho9⟩;refine D9 O<|N4 0 O<|A6<|B5<|A4 O<|H5 O<|A6<|E7 O (by decide)<|B4 O<|N7 (D1 [d5]) (D1 [d5]) O λgl32=>O4 0 1 2 (i:=i27) (Bz L hL gl32 [d5] (by decide)) hi27 hn27 O O (A7 O) O O (λc0 p0 hc0 hX0=>?_) (λx33 i33 n33 v33 hX33 hl33 hi33 hn33=>?_);exact I7<|I7<|M6 O λw9 ho9=>M7 (by simp[I2,Af,hX0,hX27]) hc0 ⟨_,_,ho9⟩;refine A6<|C5<|A4 O<|A4 O<|O4 0 0 2 (i:=i33) cE hi33 hn33 O O (A7 O) O O (λc0 p0 hc0 hX0=>?_) (λx36 i36 n36 v36 hX36 hl36 hi36 hn36=>?_);exact I7<|M6 O λw9 ho9=>M7 (by simp[I2,Af,hX0,hX27,hX33]) hc0 ⟨_,_,ho9⟩;refine D9 O<|N4 1 O<|I9 O<|N7 (D1 [W8]) (D1 [W8]) O λgl39=>O4 0 1 3 (i:=i36) (Bz L hL gl39 [W8] (by decide)) hi36 hn36 O O (A7 O) O O (λc0 p0 hc0 hX0=>?_) (λx40 i40 n40 v40 hX40 hl40 hi40 hn40=>?_);exact I7<|M6 O λw9 ho9=>M7 (by simp[I2,Af,hX0,hX27,hX33,hX36]) hc0 ⟨_,_,ho9⟩;refine I9 O<|G6 2 O O<|O4 0 0 3 (i:=i40) (Bb L ⟨22,x27,x36,-1,-1,0,[],[]⟩) hi40 hn40 O O (A7 O) O O (λc0 p0 hc0 hX0=>?_) (λx43 i43 n43 v43 hX43 hl43 hi43 hn43=>?_);exact I7<|M6 O λw9 ho9=>M7 (by simp[I2,Af,hX0,hX27,hX33,hX36,hX40]) hc0 ⟨_,_,ho9⟩;refine A5 O<|D4<|E4 O λw9 ho9=>?_;exact S8 (x:=x43) (by simp[I2,Af,p5,hX27,hX33,hX36,hX40,hX43]) rfl hi43 hn43 ⟨_,_,ho9.sublist (.cons _ (.cons _ (.cons _ (Q5 _))))⟩
 by_cases h1:(tk L i).s=Bv
 ·rw[show Gk (tk L i).s=23 by simp[Gk,h1,h0];try decide];refine A3<|A5 O<|A3<|A5 O<|B5<|A4 O<|V4 0 0 0 (i:=i) (x:=(tk L i)) (i':=i) (ns':=ns) cT hi hn O O (A7 O) O O O λv8 hi8 hn8=>FJ 2 O (by kernel_rfl)<|A6<|C7<|A3<|L4 O<|A5 O<|E0 O (by exact h0)<|A3<|L4 O<|A5 O<|E7 O (by exact h1)<|C5<|E6 O<|H6<|F4<|E2<|B4 O<|E5 O<|B2 0 O<|N6 O (by omega)<|E5 O<|D9 O<|N4 0 O<|I9 O<|F3 104 (A7 O) (λw ho=>CA 23 w) O<|E3 V2 O λgz0=>E8 0 ((D7 (m8 23)).toArray) O<|I9 O<|A4 O<|O4 0 0 1 (i:=i+1) cE hj hn O O (A7 O) O O (λc0 p0 hc0 hX0=>?_) (λx27 i27 n27 v27 hX27 hl27 hi27 hn27=>?_);exact I7<|M6 O λw9 ho9=>M7 (by simp[I2,Af,hX0]) hc0 ⟨_,_,ho9⟩;refine D9 O<|N4 0 O<|A6<|B5<|A4 O<|H5 O<|A6<|E0 O (by decide)<|D6<|B4 O<|N7 (D1 [W8]) (D1 [W8]) O λgl39=>O4 0 1 2 (i:=i27) (Bz L hL gl39 [W8] (by decide)) hi27 hn27 O O (A7 O) O O (λc0 p0 hc0 hX0=>?_) (λx40 i40 n40 v40 hX40 hl40 hi40 hn40=>?_);exact I7<|M6 O λw9 ho9=>M7 (by simp[I2,Af,hX0,hX27]) hc0 ⟨_,_,ho9⟩;refine I9 O<|G6 1 O O<|O4 0 0 2 (i:=i40) (Bb L ⟨23,x27,-1,-1,-1,0,[],[]⟩) hi40 hn40 O O (A7 O) O O (λc0 p0 hc0 hX0=>?_) (λx43 i43 n43 v43 hX43 hl43 hi43 hn43=>?_);exact I7<|M6 O λw9 ho9=>M7 (by simp[I2,Af,hX0,hX27,hX40]) hc0 ⟨_,_,ho9⟩;refine A5 O<|D4<|E4 O λw9 ho9=>?_;exact S8 (x:=x43) (by simp[I2,Af,p5,hX27,hX40,hX43]) rfl hi43 hn43 ⟨_,_,ho9.sublist (.cons _ (.cons _ (Q5 _)))⟩
 by_cases h2:(tk L i).s=CO
 ·rw[show Gk (tk L i).s=27 by simp[Gk,h2,h0,h1];try decide];refine A3<|A5 O<|A3<|A5 O<|B5<|A4 O<|V4 0 0 0 (i:=i) (x:=(tk L i)) (i':=i) (ns':=ns) cT hi hn O O (A7 O) O O O λv8 hi8 hn8=>FJ 2 O (by kernel_rfl)<|A6<|C7<|A3<|L4 O<|A5 O<|E0 O (by exact h0)<|A3<|L4 O<|A5 O<|E0 O (by exact h1)<|A3<|L4 O<|A5 O<|E7 O (by exact h2)<|C5<|E6 O<|H6<|F4<|E2<|B4 O<|E5 O<|B2 0 O<|N6 O (by omega)<|E5 O<|D9 O<|N4 0 O<|I9 O<|F3 104 (A7 O) (λw ho=>CA 27 w) O<|E3 V2 O λgz0=>E8 0 ((D7 (m8 27)).toArray) O<|I9 O<|A4 O ?_;refine O4 0 0 1 (i:=i+1) cE hj hn O O (A7 O) O O (λc0 p0 hc0 hX0=>?_) (λx27 i27 n27 v27 hX27 hl27 hi27 hn27=>?_);exact I7<|M6 O λw9 ho9=>M7 (by simp[I2,Af,hX0]) hc0 ⟨_,_,ho9⟩;refine D9 O<|N4 0 O<|A6<|B5<|A4 O<|H5 O<|A6<|E0 O (by decide)<|D6<|B4 O<|N7 (D1 [W8]) (D1 [W8]) O λgl39=>O4 0 1 2 (i:=i27) (Bz L hL gl39 [W8] (by decide)) hi27 hn27 O O (A7 O) O O (λc0 p0 hc0 hX0=>?_) (λx40 i40 n40 v40 hX40 hl40 hi40 hn40=>?_);exact I7<|M6 O λw9 ho9=>M7 (by simp[I2,Af,hX0,hX27]) hc0 ⟨_,_,ho9⟩;refine I9 O<|G6 1 O O<|O4 0 0 2 (i:=i40) (Bb L ⟨27,x27,-1,-1,-1,0,[],[]⟩) hi40 hn40 O O (A7 O) O O (λc0 p0 hc0 hX0=>?_) (λx43 i43 n43 v43 hX43 hl43 hi43 hn43=>?_);exact I7<|M6 O λw9 ho9=>M7 (by simp[I2,Af,hX0,hX27,hX40]) hc0 ⟨_,_,ho9⟩;refine A5 O<|D4<|E4 O λw9 ho9=>?_;exact S8 (x:=x43) (by simp[I2,Af,p5,hX27,hX40,hX43]) rfl hi43 hn43 ⟨_,_,ho9.sublist (.cons _ (.cons _ (Q5 _)))⟩
 ·rw[show Gk (tk L i).s=28 by simp[Gk,h0,h1,h2]];refine A3<|A5 O<|A3<|A5 O<|B5<|A4 O<|V4 0 0 0 (i:=i) (x:=(tk L i)) (i':=i) (ns':=ns) cT hi hn O O (A7 O) O O O λv8 hi8 hn8=>FJ 2 O (by kernel_rfl)<|A6<|C7<|A3<|L4 O<|A5 O<|E0 O (by exact h0)<|A3<|L4 O<|A5 O<|E0 O (by exact h1)<|A3<|L4 O<|A5 O<|E0 O (by exact h2)<|P5<|F4<|E2<|B4 O<|E5 O<|B2 0 O<|N6 O (by omega)<|E5 O<|D9 O<|N4 0 O<|I9 O<|F3 104 (A7 O) (λw ho=>CA 28 w) O<|E3 V2 O λgz0=>E8 0 ((D7 (m8 28)).toArray) O<|I9 O<|A4 O<|O4 0 0 1 (i:=i+1) cE hj hn O O (A7 O) O O (λc0 p0 hc0 hX0=>?_) (λx27 i27 n27 v27 hX27 hl27 hi27 hn27=>?_);exact I7<|M6 O λw9 ho9=>M7 (by simp[I2,Af,hX0]) hc0 ⟨_,_,ho9⟩;refine D9 O<|N4 0 O<|A6<|B5<|A4 O<|H5 O<|A6<|E0 O (by decide)<|D6<|B4 O<|N7 (D1 [W8]) (D1 [W8]) O λgl39=>O4 0 1 2 (i:=i27) (Bz L hL gl39 [W8] (by decide)) hi27 hn27 O O (A7 O) O O (λc0 p0 hc0 hX0=>?_) (λx40 i40 n40 v40 hX40 hl40 hi40 hn40=>?_);exact I7<|M6 O λw9 ho9=>M7 (by simp[I2,Af,hX0,hX27]) hc0 ⟨_,_,ho9⟩;refine I9 O<|G6 1 O O<|O4 0 0 2 (i:=i40) (Bb L ⟨28,x27,-1,-1,-1,0,[],[]⟩) hi40 hn40 O O (A7 O) O O (λc0 p0 hc0 hX0=>?_) (λx43 i43 n43 v43 hX43 hl43 hi43 hn43=>?_);exact I7<|M6 O λw9 ho9=>M7 (by simp[I2,Af,hX0,hX27,hX40]) hc0 ⟨_,_,ho9⟩;refine A5 O<|D4<|E4 O λw9 ho9=>?_;exact S8 (x:=x43) (by simp[I2,Af,p5,hX27,hX40,hX43]) rfl hi43 hn43 ⟨_,_,ho9.sublist (.cons _ (.cons _ (Q5 _)))⟩
end
section
variable(L:List G8)(hL:Aa L)(d:Nat)(hd:d<=50){B:PX Int}(hB:Z9 106 (λg=> #[.pointer (some ⟨g,0,none⟩),.int .i64 ((d+1:Nat):Int)]) Z0 L AM B)
include hL hd hB
theorem aa8:Z9 102 (λg=> #[.pointer (some ⟨g,0,none⟩),.int .i64 d]) Z0 L AM (Lx L d B):=by
 intro g lv i nv ns w hi hn ho;refine G7 ho func102 O ntmps102 O ?_;have hl2:=hL.DW;have cE:=Tx L hL d (by omega);unfold Lx;refine A3<|A5 O<|B4 O<|N7 (D1 [w8]) (D1 [w8]) O λgl7=>O4 0 1 1 (i:=i) (Bz L hL gl7 [w8] (by decide)) hi hn O O (A7 O) O O (λc0 p0 hc0 hX0=>?_) (λx8 i8 n8 v8 hX8 hl8 hi8 hn8=>?_);exact I7<|M6 O λw9 ho9=>M7 (by simp[I2,hX0]) hc0 ⟨_,_,ho9⟩;refine I0<|F3 104 (A7 O) (λw ho=>CA 24 w) O<|E3 V2 O λgz0=>E8 0 ((D7 (m8 24)).toArray) O<|I9 O<|A4 O<|O4 0 0 2 (i:=i8) cE hi8 hn8 O O (A7 O) O O (λc0 p0 hc0 hX0=>?_) (λx12 i12 n12 v12 hX12 hl12 hi12 hn12=>?_);exact I7<|M6 O λw9 ho9=>M7 (by simp[I2,hX0,hX8]) hc0 ⟨_,_,ho9⟩;refine D9 O<|N4 0 O<|I9 O<|A4 O<|N6 O (by omega)<|O4 0 0 2 (i:=i12) hB hi12 hn12 O O (A7 O) O O (λc0 p0 hc0 hX0=>?_) (λx17 i17 n17 v17 hX17 hl17 hi17 hn17=>?_);exact I7<|M6 O λw9 ho9=>M7 (by simp[I2,hX0,hX8,hX12]) hc0 ⟨_,_,ho9⟩;refine D9 O<|N4 0 O<|A6<|B5<|A4 O<|Hw 0 0 2 hL (i:=i17) (Fp L hL Ba) hi17 hn17 O O (A7 O) O O (λv20 hT20 hj20=>?_) (λv20 hT20=>?_);refine A6<|R1 O<|A3<|D9 O<|N4 0 O<|A6<|C5<|A4 O<|A4 O<|N6 O (by omega)<|O4 0 0 2 (i:=i17+1) hB hj20 hn17 O O (A7 O) O O (λc0 p0 hc0 hX0=>?_) (λx25 i25 n25 v25 hX25 hl25 hi25 hn25=>?_);exact I7<|M6 O λw9 ho9=>M7 (by simp[I2,hX0,hX8,hX12,hX17,AK,hT20]) hc0 ⟨_,_,ho9⟩;refine D9 O<|N4 0 O<|I9 O<|G6 0 O O<|O4 0 0 2 (i:=i25) (Bb L ⟨24,x12,x17,x25,-1,1,[],[]⟩) hi25 hn25 O O (A7 O) O O (λc0 p0 hc0 hX0=>?_) (λx29 i29 n29 v29 hX29 hl29 hi29 hn29=>?_);refine I7<|M6 O λw9 ho9=>?_;exact M7 (by simp[I2,AK,hT20,hX0,hX8,hX12,hX17,hX25]) hc0 ⟨_,_,ho9⟩;refine A5 O<|D4<|E4 O λw9 ho9=>?_;exact S8 (x:=x29) (by simp[I2,AK,hT20,hX8,hX12,hX17,hX25,hX29]) rfl hi29 hn29 ⟨_,_,ho9.sublist (.cons _ (.cons _ (Q5 _)))⟩;refine A6<|M8 O<|D6<|B4 O<|G6 0 O O<|O4 0 0 2 (i:=i17) (Bb L ⟨24,x12,x17,-1,-1,0,[],[]⟩) hi17 hn17 O O (A7 O) O O (λc0 p0 hc0 hX0=>?_) (λx29 i29 n29 v29 hX29 hl29 hi29 hn29=>?_);exact I7<|M6 O λw9 ho9=>M7 (by simp[I2,hX0,hX8,hX12,hX17,AK,hT20]) hc0 ⟨_,_,ho9⟩;refine A5 O<|D4<|E4 O λw9 ho9=>?_;exact S8 (x:=x29) (by simp[I2,AK,hT20,hX8,hX12,hX17,hX29]) rfl hi29 hn29 ⟨_,_,ho9.sublist (.cons _ (.cons _ (Q5 _)))⟩
theorem wH:Z9 103 (λg=> #[.pointer (some ⟨g,0,none⟩),.int .i64 d]) Z0 L AM (Mj L d B):=by
 intro g lv i nv ns w hi hn ho;refine G7 ho func103 O ntmps103 O ?_;have hl2:=hL.DW;have cE:=Tx L hL d (by omega);have cF:=Wr L hL 1 (by decide);have cU:=aX L hL;unfold Mj;refine A3<|A5 O<|B4 O<|N7 (D1 [BR]) (D1 [BR]) O λgl7=>O4 0 1 1 (i:=i) (Bz L hL gl7 [BR] (by decide)) hi hn O O (A7 O) O O (λc0 p0 hc0 hX0=>?_) (λx8 i8 n8 v8 hX8 hl8 hi8 hn8=>?_);exact I7<|M6 O λw9 ho9=>M7 (by simp[I2,hX0]) hc0 ⟨_,_,ho9⟩;refine I0<|F3 104 (A7 O) (λw ho=>CA 25 w) O<|E3 V2 O λgz0=>E8 0 ((D7 (m8 25)).toArray) O<|I9 O<|O4 0 0 2 (i:=i8) cF hi8 hn8 O O (A7 O) O O (λc0 p0 hc0 hX0=>?_) (λx11 i11 n11 v11 hX11 hl11 hi11 hn11=>?_);exact I7<|M6 O λw9 ho9=>M7 (by simp[I2,hX0,hX8]) hc0 ⟨_,_,ho9⟩;refine FJ 2 O (by kernel_rfl)<|D9 O<|N4 0 O<|I9 O<|N7 (D1 [d5]) (D1 [d5]) O λgl15=>O4 0 1 3 (i:=i11) (Bz L hL gl15 [d5] (by decide)) hi11 hn11 O O (A7 O) O O (λc0 p0 hc0 hX0=>?_) (λx16 i16 n16 v16 hX16 hl16 hi16 hn16=>?_);exact I7<|M6 O λw9 ho9=>M7 (by simp[I2,hX0,hX8,hX11]) hc0 ⟨_,_,ho9⟩;refine I9 O<|O4 0 0 3 (i:=i16) cF hi16 hn16 O O (A7 O) O O (λc0 p0 hc0 hX0=>?_) (λx18 i18 n18 v18 hX18 hl18 hi18 hn18=>?_);exact I7<|M6 O λw9 ho9=>M7 (by simp[I2,hX0,hX8,hX11,hX16]) hc0 ⟨_,_,ho9⟩;refine FJ 2 O (by kernel_rfl)<|D9 O<|N4 1 O<|I9 O<|N7 (D1 [CI,Bw,Z2]) (D1 [CI,Bw,Z2]) O λgl22=>O4 0 1 4 (i:=i18) (Bz L hL gl22 [CI,Bw,Z2] (by decide)) hi18 hn18 O O (A7 O) O O (λc0 p0 hc0 hX0=>?_) (λx23 i23 n23 v23 hX23 hl23 hi23 hn23=>?_);exact I7<|M6 O λw9 ho9=>M7 (by simp[I2,hX0,hX8,hX11,hX16,hX18]) hc0 ⟨_,_,ho9⟩;refine I9 O<|A4 O<|O4 0 0 4 (i:=i23) cE hi23 hn23 O O (A7 O) O O (λc0 p0 hc0 hX0=>?_) (λx26 i26 n26 v26 hX26 hl26 hi26 hn26=>?_);exact I7<|M6 O λw9 ho9=>M7 (by simp[I2,hX0,hX8,hX11,hX16,hX18,hX23]) hc0 ⟨_,_,ho9⟩;refine D9 O<|N4 2 O<|I9 O<|N7 (D1 [d5]) (D1 [d5]) O λgl29=>O4 0 1 5 (i:=i26) (Bz L hL gl29 [d5] (by decide)) hi26 hn26 O O (A7 O) O O (λc0 p0 hc0 hX0=>?_) (λx30 i30 n30 v30 hX30 hl30 hi30 hn30=>?_);refine I7<|M6 O λw9 ho9=>?_;exact M7 (by simp[I2,hX0,hX8,hX11,hX16,hX18,hX23,hX26]) hc0 ⟨_,_,ho9⟩;refine I9 O<|O4 0 0 5 (i:=i30) cU hi30 hn30 O O (A7 O) O O (λc0 p0 hc0 hX0=>?_) (λx32 i32 n32 v32 hX32 hl32 hi32 hn32=>?_);refine I7<|M6 O λw9 ho9=>?_;exact M7 (by simp[I2,hX0,hX8,hX11,hX16,hX18,hX23,hX26,hX30]) hc0 ⟨_,_,ho9⟩;refine D9 O<|N4 3 O<|I9 O<|N7 (D1 [Y1]) (D1 [Y1]) O λgl35=>O4 0 1 6 (i:=i32) (Bz L hL gl35 [Y1] (by decide)) hi32 hn32 O O (A7 O) O O (λc0 p0 hc0 hX0=>?_) (λx36 i36 n36 v36 hX36 hl36 hi36 hn36=>?_);refine I7<|M6 O λw9 ho9=>?_;exact M7 (by simp[I2,hX0,hX8,hX11,hX16,hX18,hX23,hX26,hX30,hX32]) hc0 ⟨_,_,ho9⟩;refine I9 O<|A4 O<|N6 O (by omega)<|O4 0 0 6 (i:=i36) hB hi36 hn36 O O (A7 O) O O (λc0 p0 hc0 hX0=>?_) (λx40 i40 n40 v40 hX40 hl40 hi40 hn40=>?_);refine I7<|M6 O λw9 ho9=>?_;exact M7 (by simp[I2,hX0,hX8,hX11,hX16,hX18,hX23,hX26,hX30,hX32,hX36]) hc0 ⟨_,_,ho9⟩;refine D9 O<|N4 4 O<|I9 O<|G6 4 O O<|O4 0 0 6 (i:=i40) (Bb L ⟨25,x26,x40,-1,-1,x32,x11.s,x18.s⟩) hi40 hn40 O O (A7 O) O O (λc0 p0 hc0 hX0=>?_) (λx44 i44 n44 v44 hX44 hl44 hi44 hn44=>?_);refine I7<|M6 O λw9 ho9=>?_;exact M7 (by simp[I2,hX0,hX8,hX11,hX16,hX18,hX23,hX26,hX30,hX32,hX36,hX40]) hc0 ⟨_,_,ho9⟩;refine A5 O<|D4<|E4 O λw9 ho9=>?_;exact S8 (x:=x44) (by simp[I2,p5,hX8,hX11,hX16,hX18,hX23,hX26,hX30,hX32,hX36,hX40,hX44]) rfl hi44 hn44 ⟨_,_,ho9.sublist (.cons _ (.cons _ (.cons _ (.cons _ (.cons _ (.cons _ (Q5 _)))))))⟩
end
theorem wZ(L:List G8)(hL:Aa L)(d:Nat){K:PX Int}(hK:Z9 23 (λg=> #[.pointer (some ⟨g,0,none⟩),.int .i64 d]) Z0 L AM K):Z9 106 (λg=> #[.pointer (some ⟨g,0,none⟩),.int .i64 d]) Z0 L AM (Ei L K):=by
 intro g lv i nv ns w hi hn ho;refine G7 ho func106 O ntmps106 O ?_;have hl2:=hL.DW;unfold Ei;refine A3<|A5 O<|B4 O<|N7 (D1 [JX]) (D1 [JX]) O λgl7=>O4 0 1 1 (i:=i) (Bz L hL gl7 [JX] (by decide)) hi hn O O (A7 O) O O (λc0 p0 hc0 hX0=>?_) (λx8 i8 n8 v8 hX8 hl8 hi8 hn8=>?_);exact I7<|M6 O λw9 ho9=>M7 (by simp[I2,hX0]) hc0 ⟨_,_,ho9⟩;refine I9 O<|A4 O<|O4 0 0 1 (i:=i8) hK hi8 hn8 O O (A7 O) O O (λc0 p0 hc0 hX0=>?_) (λx11 i11 n11 v11 hX11 hl11 hi11 hn11=>?_);exact I7<|M6 O λw9 ho9=>M7 (by simp[I2,hX0,hX8]) hc0 ⟨_,_,ho9⟩;refine A5 O<|B4 O<|N7 (D1 [LL]) (D1 [LL]) O λgl13=>O4 0 1 2 (i:=i11) (Bz L hL gl13 [LL] (by decide)) hi11 hn11 O O (A7 O) O O (λc0 p0 hc0 hX0=>?_) (λx14 i14 n14 v14 hX14 hl14 hi14 hn14=>?_);exact I7<|M6 O λw9 ho9=>M7 (by simp[I2,hX0,hX8,hX11]) hc0 ⟨_,_,ho9⟩;refine I9 O<|A5 O<|D4<|E4 O λw9 ho9=>?_;exact S8 (x:=x11) (by simp[I2,p5,hX8,hX11,hX14]) rfl hi14 hn14 ⟨_,_,ho9.sublist (.cons _ (.cons _ (Q5 _)))⟩
section
variable(L:List G8)(hL:Aa L)(d:Nat)(hd:d<=50){B:PX Int}(hB:Z9 106 (λg=> #[.pointer (some ⟨g,0,none⟩),.int .i64 ((d+1:Nat):Int)]) Z0 L AM B)
include hL hd hB
theorem tL:Z9 50 (λg=> #[.pointer (some ⟨g,0,none⟩),.int .i64 d]) Z0 L AM (GM L d B):=by
 intro g lv i nv ns w hi hn ho;refine G7 ho func50 O ntmps50 O ?_;have hl2:=hL.DW;have cT:=If L;obtain⟨F,hF⟩:∃F,GM L d B i ns=F:=⟨_,rfl⟩
 rw[hF];unfold GM at hF;by_cases hk:(tk L i).kind=5
 ·have hj:=Gg hL hi (by rw[hk];decide);rw[if_neg (λh=>h hk)] at hF;by_cases h0:(tk L i).s=Ay
  ·rw[if_pos (.inl h0)] at hF;refine A3<|A5 O<|B4 O<|V4 0 0 0 (i:=i) (x:=(tk L i)) (i':=i) (ns':=ns) cT hi hn O O (A7 O) O O O λv8 hi8 hn8=>E3 W9 O λgz0=>E8 0 ((K9 (tk L i)).toArray) O<|A6<|B5<|B2 0 O<|J3 O<|A6<|E0 O (by omega)<|D6<|B5<|B2 0 O<|A6<|C7<|B5<|L4 O<|A5 O<|E7 O (by exact h0)<|D6<|E7 O (by exact h0)<|B4 O<|A4 O<|O4 0 0 1 (i:=i) (fD L hL d hd) hi hn O O (A7 O) O O (λc0 p0 hc0 hX0=>?_) (λx19 i19 n19 v19 hX19 hl19 hi19 hn19=>?_);exact I7<|j5<|I7<|M6 O λw9 ho9=>M7 (hF.symm.trans hX0) hc0 ⟨_,_,ho9⟩;refine A5 O<|K3<|E4 O λw9 ho9=>?_;exact S8 (x:=x19) (hF.symm.trans hX19) rfl hi19 hn19 ⟨_,_,ho9.sublist (.cons _ (Q5 _))⟩
  by_cases h1:(tk L i).s=AL
  ·rw[if_pos (.inr h1)] at hF;refine A3<|A5 O<|B4 O<|V4 0 0 0 (i:=i) (x:=(tk L i)) (i':=i) (ns':=ns) cT hi hn O O (A7 O) O O O λv8 hi8 hn8=>E3 W9 O λgz0=>E8 0 ((K9 (tk L i)).toArray) O<|A6<|B5<|B2 0 O<|J3 O<|A6<|E0 O (by omega)<|D6<|B5<|B2 0 O<|A6<|C7<|B5<|L4 O<|A5 O<|E0 O (by exact h0)<|C5<|L4 O<|A5 O<|E7 O (by exact h1)<|B4 O<|A4 O<|O4 0 0 1 (i:=i) (fD L hL d hd) hi hn O O (A7 O) O O (λc0 p0 hc0 hX0=>?_) (λx19 i19 n19 v19 hX19 hl19 hi19 hn19=>?_);exact I7<|j5<|I7<|M6 O λw9 ho9=>M7 (hF.symm.trans hX0) hc0 ⟨_,_,ho9⟩;refine A5 O<|K3<|E4 O λw9 ho9=>?_;exact S8 (x:=x19) (hF.symm.trans hX19) rfl hi19 hn19 ⟨_,_,ho9.sublist (.cons _ (Q5 _))⟩
  rw[if_neg (λh=>h.elim h0 h1)] at hF;by_cases h2:(tk L i).s=BF
  ·rw[if_pos (.inl h2)] at hF;refine A3<|A5 O<|B4 O<|V4 0 0 0 (i:=i) (x:=(tk L i)) (i':=i) (ns':=ns) cT hi hn O O (A7 O) O O O λv8 hi8 hn8=>E3 W9 O λgz0=>E8 0 ((K9 (tk L i)).toArray) O<|A6<|B5<|B2 0 O<|J3 O<|A6<|E0 O (by omega)<|D6<|B5<|B2 0 O<|A6<|C7<|B5<|L4 O<|A5 O<|E0 O (by exact h0)<|C5<|L4 O<|A5 O<|E0 O (by exact h1)<|B5<|L4 O<|A5 O<|E7 O (by exact h2)<|D6<|E7 O (by exact h2)<|B4 O<|A4 O<|PI (args:=λg=> #[.pointer (some ⟨g,0,none⟩),.int .i64 d]) (X:=FR L d) 0 0 1 (i:=i) (λw' ho=>Su L hL d hd g lv i _ ns w' hi hn hk ho) O O (A7 O) O O (λc0 p0 hc0 hX0=>?_) (λx27 i27 n27 v27 hX27 hl27 hi27 hn27=>?_);exact I7<|j5<|I7<|M6 O λw9 ho9=>M7 (hF.symm.trans hX0) hc0 ⟨_,_,ho9⟩;refine A5 O<|K3<|E4 O λw9 ho9=>?_;exact S8 (x:=x27) (hF.symm.trans hX27) rfl hi27 hn27 ⟨_,_,ho9.sublist (.cons _ (Q5 _))⟩
  by_cases h3:(tk L i).s=Bv
  ·rw[if_pos (.inr (.inl h3))] at hF;refine A3<|A5 O<|B4 O<|V4 0 0 0 (i:=i) (x:=(tk L i)) (i':=i) (ns':=ns) cT hi hn O O (A7 O) O O O λv8 hi8 hn8=>E3 W9 O λgz0=>E8 0 ((K9 (tk L i)).toArray) O<|A6<|B5<|B2 0 O<|J3 O<|A6<|E0 O (by omega)<|D6<|B5<|B2 0 O<|A6<|C7<|B5<|L4 O<|A5 O<|E0 O (by exact h0)<|C5<|L4 O<|A5 O<|E0 O (by exact h1)<|B5<|L4 O<|A5 O<|E0 O (by exact h2)<|A3<|L4 O<|A5 O<|E7 O (by exact h3)<|D6<|E7 O (by exact h3)<|B4 O<|A4 O<|PI (args:=λg=> #[.pointer (some ⟨g,0,none⟩),.int .i64 d]) (X:=FR L d) 0 0 1 (i:=i) (λw' ho=>Su L hL d hd g lv i _ ns w' hi hn hk ho) O O (A7 O) O O (λc0 p0 hc0 hX0=>?_) (λx27 i27 n27 v27 hX27 hl27 hi27 hn27=>?_);exact I7<|j5<|I7<|M6 O λw9 ho9=>M7 (hF.symm.trans hX0) hc0 ⟨_,_,ho9⟩;refine A5 O<|K3<|E4 O λw9 ho9=>?_;exact S8 (x:=x27) (hF.symm.trans hX27) rfl hi27 hn27 ⟨_,_,ho9.sublist (.cons _ (Q5 _))⟩
  by_cases h4:(tk L i).s=CO
  ·rw[if_pos (.inr (.inr (.inl h4)))] at hF;refine A3<|A5 O<|B4 O<|V4 0 0 0 (i:=i) (x:=(tk L i)) (i':=i) (ns':=ns) cT hi hn O O (A7 O) O O O λv8 hi8 hn8=>E3 W9 O λgz0=>E8 0 ((K9 (tk L i)).toArray) O<|A6<|B5<|B2 0 O<|J3 O<|A6<|E0 O (by omega)<|D6<|B5<|B2 0 O<|A6<|C7<|B5<|L4 O<|A5 O<|E0 O (by exact h0)<|C5<|L4 O<|A5 O<|E0 O (by exact h1)<|B5<|L4 O<|A5 O<|E0 O (by exact h2)<|A3<|L4 O<|A5 O<|E0 O (by exact h3)<|A3<|L4 O<|A5 O<|E7 O (by exact h4)<|D6<|E7 O (by exact h4)<|B4 O ?_;refine A4 O<|PI (args:=λg=> #[.pointer (some ⟨g,0,none⟩),.int .i64 d]) (X:=FR L d) 0 0 1 (i:=i) (λw' ho=>Su L hL d hd g lv i _ ns w' hi hn hk ho) O O (A7 O) O O (λc0 p0 hc0 hX0=>?_) (λx27 i27 n27 v27 hX27 hl27 hi27 hn27=>?_);exact I7<|j5<|I7<|M6 O λw9 ho9=>M7 (hF.symm.trans hX0) hc0 ⟨_,_,ho9⟩;refine A5 O<|K3<|E4 O λw9 ho9=>?_;exact S8 (x:=x27) (hF.symm.trans hX27) rfl hi27 hn27 ⟨_,_,ho9.sublist (.cons _ (Q5 _))⟩
  by_cases h5:(tk L i).s=DH
  ·rw[if_pos (.inr (.inr (.inr h5)))] at hF;refine A3<|A5 O<|B4 O<|V4 0 0 0 (i:=i) (x:=(tk L i)) (i':=i) (ns':=ns) cT hi hn O O (A7 O) O O O λv8 hi8 hn8=>E3 W9 O λgz0=>E8 0 ((K9 (tk L i)).toArray) O<|A6<|B5<|B2 0 O<|J3 O<|A6<|E0 O (by omega)<|D6<|B5<|B2 0 O<|A6<|C7<|B5<|L4 O<|A5 O<|E0 O (by exact h0)<|C5<|L4 O<|A5 O<|E0 O (by exact h1)<|B5<|L4 O<|A5 O<|E0 O (by exact h2)<|A3<|L4 O<|A5 O<|E0 O (by exact h3)<|A3<|L4 O<|A5 O<|E0 O (by exact h4)<|C5<|L4 O<|A5 O ?_;refine E7 O (by exact h5)<|B4 O<|A4 O<|PI (args:=λg=> #[.pointer (some ⟨g,0,none⟩),.int .i64 d]) (X:=FR L d) 0 0 1 (i:=i) (λw' ho=>Su L hL d hd g lv i _ ns w' hi hn hk ho) O O (A7 O) O O (λc0 p0 hc0 hX0=>?_) (λx27 i27 n27 v27 hX27 hl27 hi27 hn27=>?_);exact I7<|j5<|I7<|M6 O λw9 ho9=>M7 (hF.symm.trans hX0) hc0 ⟨_,_,ho9⟩;refine A5 O<|K3<|E4 O λw9 ho9=>?_;exact S8 (x:=x27) (hF.symm.trans hX27) rfl hi27 hn27 ⟨_,_,ho9.sublist (.cons _ (Q5 _))⟩
  rw[if_neg (λh=>h.elim h2 λh=>h.elim h3 λh=>h.elim h4 h5)] at hF;by_cases h6:(tk L i).s=w8
  ·rw[if_pos h6] at hF;refine A3<|A5 O<|B4 O<|V4 0 0 0 (i:=i) (x:=(tk L i)) (i':=i) (ns':=ns) cT hi hn O O (A7 O) O O O λv8 hi8 hn8=>E3 W9 O λgz0=>E8 0 ((K9 (tk L i)).toArray) O<|A6<|B5<|B2 0 O<|J3 O<|A6<|E0 O (by omega)<|D6<|B5<|B2 0 O<|A6<|C7<|B5<|L4 O<|A5 O<|E0 O (by exact h0)<|C5<|L4 O<|A5 O<|E0 O (by exact h1)<|B5<|L4 O<|A5 O<|E0 O (by exact h2)<|A3<|L4 O<|A5 O<|E0 O (by exact h3)<|A3<|L4 O<|A5 O<|E0 O (by exact h4)<|C5<|L4 O<|A5 O ?_;refine E0 O (by exact h5)<|A3<|L4 O<|A5 O<|E7 O (by exact h6)<|B4 O<|A4 O<|O4 0 0 1 (i:=i) (aa8 L hL d hd hB) hi hn O O (A7 O) O O (λc0 p0 hc0 hX0=>?_) (λx32 i32 n32 v32 hX32 hl32 hi32 hn32=>?_);exact I7<|j5<|I7<|M6 O λw9 ho9=>M7 (hF.symm.trans hX0) hc0 ⟨_,_,ho9⟩;refine A5 O<|K3<|E4 O λw9 ho9=>?_;exact S8 (x:=x32) (hF.symm.trans hX32) rfl hi32 hn32 ⟨_,_,ho9.sublist (.cons _ (Q5 _))⟩
  rw[if_neg h6] at hF;by_cases h7:(tk L i).s=BR
  ·rw[if_pos h7] at hF;refine A3<|A5 O<|B4 O<|V4 0 0 0 (i:=i) (x:=(tk L i)) (i':=i) (ns':=ns) cT hi hn O O (A7 O) O O O λv8 hi8 hn8=>E3 W9 O λgz0=>E8 0 ((K9 (tk L i)).toArray) O<|A6<|B5<|B2 0 O<|J3 O<|A6<|E0 O (by omega)<|D6<|B5<|B2 0 O<|A6<|C7<|B5<|L4 O<|A5 O<|E0 O (by exact h0)<|C5<|L4 O<|A5 O<|E0 O (by exact h1)<|B5<|L4 O<|A5 O<|E0 O (by exact h2)<|A3<|L4 O<|A5 O<|E0 O (by exact h3)<|A3<|L4 O<|A5 O<|E0 O (by exact h4)<|C5<|L4 O<|A5 O ?_;refine E0 O (by exact h5)<|A3<|L4 O<|A5 O<|E0 O (by exact h6)<|A3<|L4 O<|A5 O<|E7 O (by exact h7)<|B4 O<|A4 O<|O4 0 0 1 (i:=i) (wH L hL d hd hB) hi hn O O (A7 O) O O (λc0 p0 hc0 hX0=>?_) (λx37 i37 n37 v37 hX37 hl37 hi37 hn37=>?_);exact I7<|j5<|I7<|M6 O λw9 ho9=>M7 (hF.symm.trans hX0) hc0 ⟨_,_,ho9⟩;refine A5 O<|K3<|E4 O λw9 ho9=>?_;exact S8 (x:=x37) (hF.symm.trans hX37) rfl hi37 hn37 ⟨_,_,ho9.sublist (.cons _ (Q5 _))⟩
  rw[if_neg h7] at hF;by_cases h8:(tk L i).s=DC
  ·rw[if_pos h8] at hF;refine A3<|A5 O<|B4 O<|V4 0 0 0 (i:=i) (x:=(tk L i)) (i':=i) (ns':=ns) cT hi hn O O (A7 O) O O O λv8 hi8 hn8=>E3 W9 O λgz0=>E8 0 ((K9 (tk L i)).toArray) O<|A6<|B5<|B2 0 O<|J3 O<|A6<|E0 O (by omega)<|D6<|B5<|B2 0 O<|A6<|C7<|B5<|L4 O<|A5 O<|E0 O (by exact h0)<|C5<|L4 O<|A5 O<|E0 O (by exact h1)<|B5<|L4 O<|A5 O<|E0 O (by exact h2)<|A3<|L4 O<|A5 O<|E0 O (by exact h3)<|A3<|L4 O<|A5 O<|E0 O (by exact h4)<|C5<|L4 O<|A5 O ?_;refine E0 O (by exact h5)<|A3<|L4 O<|A5 O<|E0 O (by exact h6)<|A3<|L4 O<|A5 O<|E0 O (by exact h7)<|A3<|L4 O<|A5 O<|E7 O (by exact h8)<|B4 O<|E5 O<|B2 1 O<|N6 O (by omega)<|E5 O<|D9 O<|N4 1 O<|I0<|F3 104 (A7 O) (λw ho=>CA 26 w) O<|E3 V2 O λgz1=>E8 0 ((D7 (m8 26)).toArray) O<|I9 O<|O4 0 0 2 (i:=i+1) (aX L hL) hj hn O O (A7 O) O O (λc0 p0 hc0 hX0=>?_) (λx49 i49 n49 v49 hX49 hl49 hi49 hn49=>?_);exact I7<|j5<|I7<|M6 O λw9 ho9=>M7 (by rw[<-hF];simp[Ka,I2,hX0]) hc0 ⟨_,_,ho9⟩;refine D9 O<|N4 0 O<|I9 O<|A4 O<|N6 O (by omega)<|O4 0 0 2 (i:=i49) hB hi49 hn49 O O (A7 O) O O (λc0 p0 hc0 hX0=>?_) (λx54 i54 n54 v54 hX54 hl54 hi54 hn54=>?_);exact I7<|j5<|I7<|M6 O λw9 ho9=>M7 (by rw[<-hF];simp[Ka,I2,hX0,hX49]) hc0 ⟨_,_,ho9⟩;refine D9 O<|N4 0 O<|I9 O<|G6 0 O O<|O4 0 0 2 (i:=i54) (Bb L ⟨26,-1,x54,-1,-1,x49,[],[]⟩) hi54 hn54 O O (A7 O) O O (λc0 p0 hc0 hX0=>?_) (λx58 i58 n58 v58 hX58 hl58 hi58 hn58=>?_);exact I7<|j5<|I7<|M6 O λw9 ho9=>M7 (by rw[<-hF];simp[Ka,I2,hX0,hX49,hX54]) hc0 ⟨_,_,ho9⟩;refine A5 O<|K3<|E4 O λw9 ho9=>?_;exact S8 (x:=x58) (by rw[<-hF];simp[Ka,I2,p5,hX49,hX54,hX58,Ka]) rfl hi58 hn58 ⟨_,_,ho9.sublist (.cons _ (.cons _ (Q5 _)))⟩
  rw[if_neg h8] at hF;refine A3<|A5 O<|B4 O<|V4 0 0 0 (i:=i) (x:=(tk L i)) (i':=i) (ns':=ns) cT hi hn O O (A7 O) O O O λv8 hi8 hn8=>E3 W9 O λgz0=>E8 0 ((K9 (tk L i)).toArray) O<|A6<|B5<|B2 0 O<|J3 O<|A6<|E0 O (by omega)<|D6<|B5<|B2 0 O<|A6<|C7<|B5<|L4 O<|A5 O<|E0 O (by exact h0)<|C5<|L4 O<|A5 O<|E0 O (by exact h1)<|B5<|L4 O<|A5 O<|E0 O (by exact h2)<|A3<|L4 O<|A5 O<|E0 O (by exact h3)<|A3<|L4 O<|A5 O<|E0 O (by exact h4)<|C5<|L4 O<|A5 O ?_;refine E0 O (by exact h5)<|A3<|L4 O<|A5 O<|E0 O (by exact h6)<|A3<|L4 O<|A5 O<|E0 O (by exact h7)<|A3<|L4 O<|A5 O<|E0 O (by exact h8)<|P5<|F4<|E2<|A3<|A5 O<|D4<|E4 O λw9 ho9=>?_;exact S8 (x:= -1) hF.symm rfl hi hn ⟨_,_,ho9.sublist (.cons _ (Q5 _))⟩
 ·rw[if_pos hk] at hF;refine A3<|A5 O<|B4 O<|V4 0 0 0 (i:=i) (x:=(tk L i)) (i':=i) (ns':=ns) cT hi hn O O (A7 O) O O O λv8 hi8 hn8=>E3 W9 O λgz0=>E8 0 ((K9 (tk L i)).toArray) O<|A6<|B5<|B2 0 O<|J3 O<|A6<|E7 O (by exact hk)<|A3<|A5 O<|D4<|K0<|E4 O λw9 ho9=>?_;exact S8 (x:= -1) hF.symm rfl hi hn ⟨_,_,ho9.sublist (.cons _ (Q5 _))⟩
end
theorem Y0(m:F2):(D7 m).length=8:=rfl
def SL(m:F2)(x:Int):F2:=⟨m.kind,m.a,m.b,m.c,x,m.i,m.s,m.t⟩
theorem Zi:∀(l:List F2) (j:Nat) (x:Int),j<l.length->(L2 l).set (j*8+4) (.int .i64 x)=L2 (DQ l (j:Int) x)
 |[],j,x,h=>by simp at h
 |m::l,0,x,_=>by
  show(D7 m++L2 l).set 4 _=D7 (SL m x)++L2 l;rw[List.set_append_left _ _ (by rw[Y0];decide)];rfl
 |m::l,j+1,x,h=>by
  have ih:=Zi l j x (by simpa using h);show(D7 m++L2 l).set ((j+1)*8+4) _=D7 m++L2 (DQ l (j:Int) x);rw[Rn _ _ (by rw[Y0];omega),Y0,show(j+1)*8+4-8=j*8+4 by omega,ih]
theorem kM(L:List G8)(hL:Aa L)(d:Nat)(hd:d<=50){S:PX Int}(hSl:Lays S)(hS:d<=16->Z9 50 (λg=> #[.pointer (some ⟨g,0,none⟩),.int .i64 d]) Z0 L AM S):Z9 23 (λg=> #[.pointer (some ⟨g,0,none⟩),.int .i64 d]) Z0 L AM (Iq S d):=by
 intro g lv i nv ns w hi hn ho;refine G7 ho func23 O ntmps23 O ?_;have hl2:=hL.DW;by_cases h16:16<d
 ·exact A3<|A5 O<|B4 O<|A4 O<|Ft 0 0 0 (i:=i) (Oc L d (by omega)) hi hn O O (A7 O) O O (by simp[Am,h16]) λc0 p0 hc0=>I7<|M6 O λw9 ho9=>M7 (by simp[Iq,I2,Am,h16]) hc0 ⟨_,_,ho9⟩
 have hdp:Am d i ns=some ((),i,ns):=by simp[Am,h16]
 have cS:=hS (by omega);obtain⟨F,hF⟩:∃F,Iq S d i ns=F:=⟨_,rfl⟩
 rw[hF];have hR0:blockL S 600 (-1) (-1) i ns=F:=by rw[<-hF];simp only[Iq,I2,hdp]
 refine A3<|A5 O<|B4 O<|A4 O<|V4 0 0 0 (i:=i) (Oc L d (by omega)) hi hn O O (A7 O) O O hdp λv10 hi10 hn10=>I0<|E6 O<|A5 O<|C7 ?_;rotate_left;refine l9 (σ:=Nat×Int×Int×Nat×List F2×Value) (λq=>q.2.2.2.1<L.length/\(i<=q.2.2.2.1/\ns.length<=q.2.2.2.2.1.length)/\q.2.2.2.2.1.length<=512/\512<q.1+q.2.2.2.2.1.length/\(q.2.1≠-1->0<=q.2.2.1/\q.2.2.1<q.2.2.2.2.1.length)/\blockL S q.1 q.2.1 q.2.2.1 q.2.2.2.1 q.2.2.2.2.1=F) (λq=>[(0,.pointer (some ⟨g,0,none⟩)),(1,.int .i64 d),(5,.int .i64 q.2.1),(6,.int .i64 q.2.2.1)]) (λq=>Z0 g++T5 g lv L q.2.2.2.1 q.2.2.2.2.2 q.2.2.2.2.1) (λq=>q.1)
  (λw ho=>⟨(600,-1,-1,i,ns,v10),⟨hi,⟨L6 _,L6 _⟩,hn,by simp only[];omega,λh=>absurd rfl h,hR0⟩,⟨rfl,rfl,rfl,rfl,trivial⟩,ho⟩) ?_
 rintro⟨f,first,last,m,nsm,nvm⟩ ⟨him,hiM,hnm,hfm,hlast,hR⟩;dsimp only at him hiM hnm hfm hlast hR⊢;cases f with
 |zero=>omega
 |succ f=>
 rw[blockL] at hR;refine C7<|B4 O<|A4 O<|O4 0 0 0 (i:=m) cS him hnm O O (A7 O) O O (λc0 p0 hc0 hX0=>?_) (λx13 i13 n13 v13 hX13 hl13 hi13 hn13=>?_);exact I7<|j5<|I7<|j5<|M6 O λw9 ho9=>M7 (by rw[<-hR];simp only[I2,hX0]) hc0 ⟨_,_,ho9⟩;have hlay:=hSl _ _ _ _ _ hX13;simp only[I2,hX13] at hR;by_cases h1:x13= -1
 ·rw[if_pos h1] at hR;exact A5 O<|C8<|C7<|B4 O<|Q9 O (by exact h1)<|B4 O<|A5 O<|K3<|U3<|DO<|E4 O λw9 ho9=>S8 (x:=first) hR.symm rfl hi13 hn13 ⟨_,_,ho9⟩
 rw[if_neg h1] at hR;have hx:x13=(n13.length:Int)-1/\nsm.length<n13.length:=hlay.resolve_left λh=>h1 h.1;by_cases h2:first= -1
 ·rw[if_pos h2] at hR;refine A5 O<|C8<|C7<|B4 O<|C3 O (by exact h1)<|B4 O<|Q9 O (by exact h2)<|C5<|A4 O<|E6 O<|H6<|F4<|E2<|C5<|A4 O<|E6 O<|H6<|F4<|E2 ?_;rotate_left;exact W5 λw ho=>⟨(f,x13,x13,i13,n13,v13),⟨hi13,⟨by simp only[];omega,by simp only[];omega⟩,hn13,by simp only[];omega,λ_=>⟨by simp only[];omega,by simp only[];omega⟩,hR⟩,by simp only[];omega,⟨rfl,rfl,rfl,rfl,trivial⟩,rfl,ho⟩
 rw[if_neg h2] at hR;obtain⟨hl0,hl1⟩:=hlast h2;obtain⟨j,rfl⟩:∃j:Nat,last=j:=⟨last.toNat,by omega⟩
 have hjn:j<n13.length:=by omega
 unfold T5;refine R7 1 O ?_;rintro⟨_,⟨_,h0⟩|⟨gn,cn,rfl⟩⟩
 ·omega
 refine A5 O<|C8<|C7<|B4 O<|C3 O (by exact h1)<|B4 O<|C3 O (by exact h2)<|C5<|A4 O<|E5 O<|D9 O<|B2 0 O<|A4 O<|A4 O<|Q4 (j:=j) O hjn<|D9 O<|GR (i:=1) (j:=0+j*8+4) (by kernel_rfl) O O O O (by omega)<|H6<|F4<|E2<|C5<|A4 O<|E6 O<|H6<|F4<|E2 ?_;rotate_left;refine W5 λw ho=>⟨(f,first,x13,i13,DQ n13 j x13,.slice (some ⟨gn,0,none⟩) n13.length cn),⟨hi13,⟨by simp only[];omega,by simp only[Ev];omega⟩,by simp only[Ev];omega,by simp only[Ev];omega,λ_=>⟨by simp only[];omega,by simp only[Ev];omega⟩,hR⟩,by simp only[];omega,⟨rfl,rfl,rfl,rfl,trivial⟩,rfl,?_⟩
 show B7 _ [.B1 g PT #[lv,.int .i64 i13,.slice (some ⟨gn,0,none⟩) n13.length cn,.int .i64 0],.row (.slice (some ⟨gn,0,none⟩) n13.length cn) ND 8 (DQ n13 j x13).length (L2 (DQ n13 j x13)),.row lv TK 4 L.length (y5 L)] w;rw[Ev,<-Zi _ _ _ hjn];have:0+j*8+4=j*8+4:=by omega
 rw[this] at ho;exact ho
def CX(L:List G8):Nat->PX Int
 |0=>FE
 |k+1=>Iq (GM L (16-k) (Ei L (CX L k))) (16-k)
theorem H7.B1{L:List G8}:∀k,H7 (CX L k)
 |0=>H7.FE
 |k+1=>H7.block (Lays.mono (Lays.stmt (H7.ZB (H7.B1 k)))) _
theorem gT(L:List G8)(hL:Aa L):∀(k d:Nat),d+k=17->Z9 23 (λg=> #[.pointer (some ⟨g,0,none⟩),.int .i64 d]) Z0 L AM (CX L k)
 |0,d,h=>by
  have e:d=17:=by omega
  subst e;have h1:=kM L hL 17 (by omega) (S:=FE) (λi ns x i' ns' e=>by cases e) (λh=>absurd h (by omega));have e:Iq FE 17=(FE:PX Int):=by funext i ns;rfl
  rw[e] at h1;exact h1
 |k+1,d,h=>by
  have e:d=16-k:=by omega
  subst e;have ih:=gT L hL k (16-k+1) (by omega);have hb:=wZ L hL (16-k+1) ih;exact kM L hL (16-k) (by omega) (Lays.stmt (H7.ZB (H7.B1 k))) λ_=>tL L hL (16-k) (by omega) hb
end
def Io(f:FuncId)(caps:Array Value):Deferred:={target:=.fn (.func f) caps,args:= #[]}
def I3.Le(C:I3)(d:Deferred):I3:=⟨C.W,C.L,C.M,C.w,C.F,.fn d::C.marks⟩
section
variable{P:Program}{n:Nat}{E:List (Nat×Value)}{C:I3}{H:List C2}{Q:Exit->Act->World->Prop}{K:Act->World->Prop}{ops:Array Oper}{rest:List Oper}
variable{dst:Option Tmp}{ty t xT:TypeId}{pos:String}{after:Array Edge}{g:Option (Nat×Bool)}{x y:Operand}
theorem B7.Le{w:B6}{d:Deferred}(h:B7 C H w):B7 (C.Le d) H w:=⟨h.X4,h.base,h.ok,h.nodup,h.X8,h.sub,h.mark⟩
theorem B7.Wp{w:B6}{d:Deferred}(h:B7 (C.Le d) H w):B7 C H w:=⟨h.X4,h.base,h.ok,h.nodup,h.X8,h.sub,h.mark⟩
theorem aL{f:FuncId}{caps:H2}{aT:Array TypeId}(hx:ev E x=some (.func (.func f) #[] caps.toArray))(k:At n E (C.Le (Io f caps.toArray)) H (D3 none P ops Q rest)):
  At n E C H (D3 none P ops Q (⟨none,.defer ⟨.value x,#[],aT⟩,ty,pos,after,none⟩::rest)):=by
 intro a w hf hd ho;have hrun:(execOp a.eval ⟨none,.defer ⟨.value x,#[],aT⟩,ty,pos,after,none⟩).run P w=.ok (.defer (Io f caps.toArray)) w:=by
  simp only[execOp,resolve,hf.eval hx];simp[Deferred.ofValue,Io,go_sem]
 refine wpListIn_plain rfl λK hK=>⟨λ_ _=>trivial,?_⟩
 rw[show(fe none).round=none from rfl,Oper.semAt_none,hrun];refine hK _ _ (k _ w ⟨hf.size,hf.get⟩ ?_ ho.Le);unfold DF at hd⊢;show Io f caps.toArray::a.defers=_;rw[hd];rfl
theorem VP{fn:Func}{R:Ending->B6->Prop}{e:Exit}{u:FrameMode}{f:FuncId}{caps:J2}(hu:(e=.ret/\u=.returning)\/(e=.normal/\u=.returning)\/∃ch,e=.panic ch/\u=.panicking ch)(hm:C.marks=[.fn (Io f caps)])(hent:GB P f=true)
  (hc:∀a w,U2 n E a->B7 C H w->CallsDIn (fe none) 0 P f caps u w λe' u' w'=>∃v,e'=.returned v/\settle u'=.returning/\∃x,(results fn a.tmps).run P w'=.ok x w'/\R (.returned x) w'):At n E C H (fin P fn R e):=by
 intro a w hf hd ho;have hd':a.defers=[Io f caps]:=by unfold DF at hd;rw[hd,hm];rfl
 have hmain:LeavesInM (fe none) 0 P fn a.tmps R a.defers u w:=by
  rw[hd'];refine⟨?_,.inr ⟨λh=>by simp[fe,Fence.wide] at h,.func f,caps,f,caps,rfl,?_,λ_ _=>trivial,?_⟩⟩
  ·rcases hu with⟨-,rfl⟩|⟨-,rfl⟩|⟨ch,-,rfl⟩<;>simp
  ·simp[Io,invoke,go_sem,Ud hent]
  ·refine(hc a w hf ho).mono ?_;rintro e' u' w' ⟨v,rfl,hs,x,hx,hR⟩;show LeavesInM (fe none) 0 P fn a.tmps R [] (settle u') w';rw[hs];exact⟨x,hx,hR⟩
 rcases hu with⟨rfl,rfl⟩|⟨rfl,rfl⟩|⟨ch,rfl,rfl⟩<;>exact hmain
theorem Wq{fn:Func}{c₀:Frame}{cs:List Frame}{u':FrameMode}{R:Ending->FrameMode->B6->Prop}{e:Exit}(he:e=.normal\/e=.ret)(hr:fn.results= #[])(hm:C.marks=[])(h:∀w,B7 C H w->R (.returned (.tuple #[])) u' w):
  At n E C H (λa w=>bodyPostS P fn c₀ cs R e a ({c₀ with mode:=u'}::cs) w):=by
 intro a w hf hd ho;have hd':a.defers=[]:=by unfold DF at hd;rw[hd,hm];rfl
 have hb:a.defers=[]/\∃u2,({c₀ with mode:=u'}::cs:List Frame)={c₀ with mode:=u2}::cs/\∃v,(results fn a.tmps).run P w=.ok v w/\R (.returned v) u2 w:=⟨hd',u',rfl,.tuple #[],results_none hr _ _ _,h w ho⟩
 rcases he with rfl|rfl<;>exact hb
theorem ai2{tt:TypeId}{v:Value}(hT:(match P.underlying xT with|some (.interface _)=>true|_=>false)=true)(hx:ev E x=some (.iface tt v))(hy:ev E y=some .nilIface):L1 P n E C H ⟨dst,.binOp .neq xT x y xT,ty,pos,after,g⟩ (.bool true):=by
 intro a w hf ho;split at hT
 ·rename_i ms he;simp only[execOp,hf.eval hx,hf.eval hy];have h1:(Op.equal xT (.iface tt v) .nilIface).run P w=.ok false w:=by
   show(Op.equalIn (9999+1) xT _ _).run P w=_;rw[Op.equalIn];simp[go_sem,run_underlying he]
  simp[go_sem,eqGuard,binOp,h1]
 ·cases hT
theorem xX(hT:(match P.underlying xT with|some (.interface _)=>true|_=>false)=true)(hx:ev E x=some .nilIface):L1 P n E C H ⟨dst,.binOp .neq xT x (.const .nilIface) xT,ty,pos,after,g⟩ (.bool false):=by
 intro a w hf ho;split at hT
 ·rename_i ms he;simp only[execOp,hf.eval hx];have h1:(Op.equal xT .nilIface .nilIface).run P w=.ok true w:=by
   show(Op.equalIn (9999+1) xT _ _).run P w=_;rw[Op.equalIn];simp[go_sem,run_underlying he]
  simp[go_sem,eqGuard,binOp,Act.eval,h1]
 ·cases hT
theorem yU{v:Value}(hT:Rx P t=true)(hx:ev E x=some (.iface t v)):L1 P n E C H ⟨dst,.typeAssert x xT t false,ty,pos,after,g⟩ v:=by
 intro a w hf ho;unfold Rx at hT;have h1:(Instr.typeAssert (.iface t v) xT t false).run P w=.ok v w:=by
  unfold Instr.typeAssert;split at hT
  ·cases hT
  ·rename_i u hu hne;simp only[Sem.run_bind,run_underlying hne,Result.andThen_ok];simp
  ·cases hT
 simp only[execOp,hf.eval hx,h1,Sem.run_bind,Result.andThen];rfl
end
def L0.free:L0->Prop
 |.val _=>True
 |.rel Φ=>∀v w w',Φ v w->Φ v w'
def Og:List L0->Prop
 |[]=>True
 |s::S=>s.free/\Og S
theorem Vq:∀{S:List L0},Og S->∀i,(M9 S i).free
 |[],_,i=>by simp[M9,L0.free]
 |s::S,h,0=>h.1
 |s::S,h,i+1=>by
  have:=Vq h.2 i;simpa[M9] using this
theorem L0.QQ{s:L0}(h:s.free){v:Value}{w w':B6}(hv:s.ok v w):s.ok v w':=by
 cases s with
 |val u=>exact hv
 |rel Φ=>exact h v w w' hv
def j2:L0:=.rel λ_ _=>True
def Q3(lst:Nat->Bool)(i:Nat):Nat->Bool:=λk=>Nat.beq k i||lst k
def U9(vs:Nat->Value)(i:Nat)(u:Value):Nat->Value:=λk=>if k=i then u else vs k
def TD(ops:Array Oper):Bool:=
 Region.noSelect ops&&
 (List.range ops.size).all (λi=>match ops[i]? with
  |some o=>(M4 o).all (λe=>Nat.blt e i)&& !Op.X9 o.op&&o.guard.isNone
  |none=>false)&&
 (List.range ops.size).all (λi=>(List.range ops.size).all λj=>Nat.beq i j||(match(ops[i]?).bind (·.dst),(ops[j]?).bind (·.dst) with
  |some d,some d'=> !Nat.beq d d'
  |_,_=>true))
structure VI(ops:Array Oper):Prop where
 eW:Region.noSelect ops=true
 low:∀(i:Nat) (o:Oper),ops[i]?=some o->∀e∈M4 o,e<i
 nd:∀(i:Nat) (o:Oper),ops[i]?=some o->Op.X9 o.op=false
 ng:∀(i:Nat) (o:Oper),ops[i]?=some o->o.guard=none
 apart:∀(i j:Nat),i≠j->∀(d:Nat),(ops[i]?).bind (λo:Oper=>o.dst)=some d->(ops[j]?).bind (λo:Oper=>o.dst)≠some d
theorem ar0{ops:Array Oper}(h:TD ops=true):VI ops:=by
 unfold TD at h;simp only[j1] at h;obtain⟨⟨h1,h2⟩,h3⟩:=h;have hop:∀(i:Nat) (o:Oper),ops[i]?=some o->((M4 o).all (λe=>Nat.blt e i)&& !Op.X9 o.op&&o.guard.isNone)=true:=λi o ho=>by
  have hi:=(T1.1 ho).1;have:=f5.1 h2 i (j9.2 hi);rw[ho] at this;exact this
 refine⟨h1,λi o ho e he=>?_,λi o ho=>?_,λi o ho=>?_,λi j hij d hd hd'=>?_⟩
 ·have:=hop i o ho;simp only[j1] at this;simpa using f5.1 this.1.1 e he
 ·have:=hop i o ho;simp only[j1] at this;simpa using this.1.2
 ·have:=hop i o ho;simp only[j1] at this;simpa using this.2
 ·have lt:∀{k:Nat} {d:Nat},(ops[k]?).bind (·.dst)=some d->k<ops.size:=λ{k d} hk=>by
   cases ho:ops[k]? with
   |none=>rw[ho] at hk;cases hk
   |some o=>exact(T1.1 ho).1
  have:=f5.1 (f5.1 h3 i (j9.2 (lt hd))) j (j9.2 (lt hd'));rw[hd,hd'] at this;simp[hij] at this
section
variable{P:Program}{r:Option Nat}{n:Nat}{E:List (Nat×Value)}{C:I3}{H:List C2}{Hs:(Nat->Bool)->(Nat->Value)->List C2}{Q:Exit->Act->World->Prop}{ops:Array Oper}
def Bx(P:Program)(n:Nat)(E:List (Nat×Value))(C:I3)(Hs:(Nat->Bool)->(Nat->Value)->List C2)(ops:Array Oper)(S:List L0)(i:Nat)(o:Oper):Prop:=
 ∀(lst:Nat->Bool) (vs:Nat->Value),lst i=false->(∀e∈M4 o,lst e=true)->∀a w,U2 n (U1 ops S vs (M4 o) E) a->B7 C (Hs lst vs) w->X5 S vs (M4 o) w->
  (∃u w',(execOp a.eval o).run P w=.ok (.value u) w'/\o.dst.isSome=true/\B7 C (Hs (Q3 lst i) (U9 vs i u)) w'/\(M9 S i).ok u w')\/
  (∃w',(execOp a.eval o).run P w=.ok .skip w'/\o.dst=none/\B7 C (Hs (Q3 lst i) vs) w')\/
  (∃f args,(execOp a.eval o).run P w=.ok (.enter f args) w/\o.dst.isSome=true/\Calls P f args w λe w'=>∃u,e=.returned u/\B7 C (Hs (Q3 lst i) (U9 vs i u)) w'/\(M9 S i).ok u w')
def KW(P:Program)(n:Nat)(E:List (Nat×Value))(C:I3)(Hs:(Nat->Bool)->(Nat->Value)->List C2)(ops:Array Oper)(S:List L0):Nat->List Oper->Prop
 |_,[]=>True
 |j,o::rest=>(Bx P n E C Hs ops S j o/\(o.dst=none->M9 S j=j2))/\KW P n E C Hs ops S (j+1) rest
theorem iU{S:List L0}:∀{j:Nat} {l:List Oper},KW P n E C Hs ops S j l->∀i o,l[i]?=some o->Bx P n E C Hs ops S (j+i) o/\(o.dst=none->M9 S (j+i)=j2)
 |j,[],_,i,o,ho=>by simp at ho
 |j,o::rest,h,i,o',ho=>by
  cases i with
  |zero=>simp at ho;subst ho;exact h.1
  |succ i=>
   have:=iU h.2 i o' (by simpa using ho);rwa[show j+1+i=j+(i+1) by omega] at this
def BM(ops:Array Oper)(a:Act):Nat->Value:=λk=>match(ops[k]?).bind (·.dst) with
 |some d=>(a.tmps[d]?).getD undef
 |none=>undef
def u1(listed:Array Bool):Nat->Bool:=λk=>listed.getD k false
def aS(n:Nat)(E:List (Nat×Value))(C:I3)(Hs:(Nat->Bool)->(Nat->Value)->List C2)(ops:Array Oper)(S:List L0)(listed:Array Bool)(a:Act)(w:World):Prop:=
 U2 n E a/\DF C a/\B7 C (Hs (u1 listed) (BM ops a)) w/\∀i,i<ops.size->listed[i]?=some true->(M9 S i).ok (BM ops a i) w
theorem bY{listed:Array Bool}{i:Nat}(h:i<listed.size):u1 (listed.setIfInBounds i true)=Q3 (u1 listed) i:=by
 funext k;simp only[u1,Q3,m6];by_cases hk:i=k
 ·subst hk;rw[Ly,if_pos rfl,if_pos h];simp
 ·rw[Br hk];have:Nat.beq k i=false:=by
   cases hb:Nat.beq k i
   ·rfl
   ·exact absurd (DK hb).symm hk
  rw[this];rfl
theorem ag9{a:Act}{i d:Nat}{u:Value}(hr:VI ops)(hd:(ops[i]?).bind (·.dst)=some d)(hs:d<a.tmps.size):BM ops (a.put (some d) u)=U9 (BM ops a) i u:=by
 funext k;unfold BM U9;dsimp only;by_cases hk:k=i
 ·subst hk;rw[if_pos rfl,hd];simp[Act.put,hs]
 ·rw[if_neg hk];cases hdk:(ops[k]?).bind (λo:Oper=>o.dst) with
  |none=>rfl
  |some d'=>
   have hne:d≠d':=λe=>hr.apart i k (λe2=>hk e2.symm) d hd (e▸hdk);simp only[Act.put];rw[Br hne]
theorem tG{S:List L0}(hr:VI ops)(hfree:∀i,(M9 S i).free)(hfr:HT ops ops.size E=true)(hin:∀(i d:Nat),(ops[i]?).bind (·.dst)=some d->d<n)
  (steps:∀(i:Nat) (o:Oper),ops[i]?=some o->Bx P n E C Hs ops S i o/\(o.dst=none->M9 S i=j2))
  (fin:∀(listed:Array Bool) (a:Act) (w:B6),listed.size=ops.size->(∀i,i<ops.size->listed[i]?=some true)->aS n E C Hs ops S listed a w->Q .normal a w):
  ∀(fuel:Nat) (listed:Array Bool) (a:Act) (w:B6),listed.size=ops.size->Dp listed<=fuel->Jp ops listed->aS n E C Hs ops S listed a w->wpAnyIn (fe r) 0 P .any ops Q fuel listed a w:=by
 have hready:∀{listed:Array Bool},listed.size=ops.size->Region.ready .any ops listed=[]->∀i,i<ops.size->listed[i]?=some true:=λ{listed} hsz h0=>by
  refine Classical.byContradiction λhno=>?_;have hex:∃i,i<ops.size/\listed[i]?=some false:=by
   refine Classical.byContradiction λhno2=>hno λi hi=>?_;cases hb:listed[i]? with
   |none=>rw[HA] at hb;omega
   |some b=>
    cases b
    ·exact absurd ⟨i,hi,hb⟩ hno2
    ·rfl
  obtain⟨k,hk,hmin⟩:=exists_least hex;have hko:=hk.1;have:k∈Region.ready .any ops listed:=mem_ready.2 ⟨by rw[m6,hk.2];rfl,ops[k],s4 hko,λe hee hb=>by
   have hlow:=hr.low k _ (s4 hko) e.on (MB.2 ⟨e,by simpa using hee,by simp[hb]⟩);have hlt:e.on<listed.size:=by omega
   cases hbb:listed[e.on]? with
   |none=>rw[HA] at hbb;omega
   |some b=>
    cases b
    ·have:=hmin e.on ⟨by omega,hbb⟩;omega
    ·rw[m6,hbb];rfl⟩
  rw[h0] at this;cases this
 intro fuel
 induction fuel with
 |zero=>
  intro listed a w hsz hcn hcl hg;have hall:∀i,i<ops.size->listed[i]?=some true:=λi hi=>by
   cases hb:listed[i]? with
   |none=>rw[HA] at hb;omega
   |some b=>
    cases b
    ·have:=OT hb;omega
    ·rfl
  refine⟨?_,fin listed a w hsz hall hg⟩;apply mL.2;intro i hi;obtain⟨h1,o,ho,_⟩:=FP hi hsz;rw[hall i (T1.1 ho).1] at h1;cases h1
 |succ fuel ih=>
  intro listed a w hsz hcn hcl hg;refine⟨λh0=>fin listed a w hsz (hready hsz h0) hg,λi hi=>?_⟩;obtain⟨h1,o,ho,he⟩:=FP hi hsz;have his:i<ops.size:=(T1.1 ho).1;have he':∀e∈M4 o,listed[e]?=some true:=λe hee=>by
   rcases he e hee with h|h
   ·exact h
   ·have:=hr.low i o ho e hee;omega
  obtain⟨hf,hdf,ho',hgv⟩:=hg;have hsl:∀(k d:Nat),(ops[k]?).bind (·.dst)=some d->a.tmps[d]?=some (BM ops a k):=λk d hd=>by
   have hlt:d<a.tmps.size:=by rw[hf.size];exact hin k d hd
   unfold BM;rw[hd];simp[hlt]
  have hfE:=KR (ops:=ops) (S:=S) (vs:=BM ops a) (w:=w) hf (is:=M4 o) λe hee d hd=>by
   have hlow:=hr.low i o ho e hee;exact⟨hsl e d hd,hgv e (by omega) (he' e hee)⟩
  have hfact:X5 S (BM ops a) (M4 o) w:=Js λe hee=>hgv e (by have:=hr.low i o ho e hee;omega) (he' e hee);obtain⟨hstep,hno⟩:=steps i o ho;have hlst:u1 listed i=false:=by simp[u1,m6,h1]
  have hlstE:∀e∈M4 o,u1 listed e=true:=λe hee=>by simp[u1,m6,he' e hee]
  have hup:u1 (listed.setIfInBounds i true)=Q3 (u1 listed) i:=bY (by omega);have nextV:∀(u:Value) (w':B6),o.dst.isSome=true->B7 C (Hs (Q3 (u1 listed) i) (U9 (BM ops a) i u)) w'->(M9 S i).ok u w'->wpAnyIn (fe r) 0 P .any ops Q fuel (listed.setIfInBounds i true) (a.put o.dst u) w':=λu w' hds hw' hok=>by
   obtain⟨d,hd⟩:=JA.1 hds;have hdi:(ops[i]?).bind (·.dst)=some d:=by rw[ho];exact hd
   have hlt:d<a.tmps.size:=by rw[hf.size];exact hin i d hdi
   have hsv:BM ops (a.put (some d) u)=U9 (BM ops a) i u:=ag9 hr hdi hlt;rw[hd];refine ih _ _ _ (by simpa using hsz) (by have:=IS h1;omega) (LD hcl ho he') ⟨St hf (Tl hfr his hdi),hdf.put _ _,by rw[hup,hsv];exact hw',λj hj hjl=>?_⟩;rw[hsv];by_cases hij:i=j
   ·subst hij;simpa[U9] using hok
   ·rw[Br hij] at hjl;have:U9 (BM ops a) i u j=BM ops a j:=if_neg (λe=>hij e.symm);rw[this];exact L0.QQ (hfree j) (hgv j hj hjl)
  unfold wpOpIn;simp only[ho];rw[if_pos (by simp[Region.wanted,hr.ng i o ho])];refine⟨λ_ _=>trivial,?_⟩;rw[show(fe r).round=r from rfl,Oj (hr.nd i o ho)];rcases hstep _ _ hlst hlstE a w hfE ho' hfact with⟨u,w',hrun,hds,hw',hok⟩|⟨w',hrun,hdn,hw'⟩|⟨f,args,hrun,hds,hcall⟩
  ·rw[hrun];exact nextV u w' hds hw' hok
  ·rw[hrun];have hput:a.put o.dst undef=a:=by rw[hdn];rfl
   show wpAnyIn (fe r) 0 P .any ops Q fuel (listed.setIfInBounds i true) (a.put o.dst undef) w';rw[hput];refine ih _ _ _ (by simpa using hsz) (by have:=IS h1;omega) (LD hcl ho he') ⟨hf,hdf,by rw[hup];exact hw',λj hj hjl=>?_⟩;by_cases hij:i=j
   ·subst hij;rw[hno hdn]
    trivial
   ·rw[Br hij] at hjl;exact L0.QQ (hfree j) (hgv j hj hjl)
  ·rw[hrun];refine Lr hcall ?_;rintro e w' ⟨u,rfl,hw',hok⟩;exact⟨u,rfl,nextV u w' hds hw' hok⟩
theorem xJ{id:Nat}{l:List Oper}(S:List L0)(Hs:(Nat->Bool)->(Nat->Value)->List C2)(hm:P.follows .mixedOrders=true)(hB:TD l.toArray=true)(hfr:HT l.toArray l.length E=true)(hin:Gz l.toArray n=true)(hfree:Og S)
  (h0:∀vs,Hs (λ_=>false) vs=H)(steps:KW P n E C Hs l.toArray S 0 l)
  (fin:∀(vs:Nat->Value) (w1:B6),X5 S vs (List.range l.length) w1->At n (U1 l.toArray S vs (List.range l.length) E) C (Hs (λk=>Nat.blt k l.length) vs) (Q .normal)):
  At n E C H (F8 r P (Code.region id l.toArray true) Q):=by
 intro a w hf hdf ho;have hr:=ar0 hB;refine wpIn_region_any hm (tG (Hs:=Hs) (S:=S) (E:=E) (C:=C) (n:=n) hr (Vq hfree) (by simpa using hfr) (PM hin) (λi o hoo=>?_) ?_ _ _ _ _ (by simp) ?_ ?_ ⟨hf,hdf,?_,?_⟩)
 ·have:=iU steps i o (by simpa using hoo);rwa[Y3] at this
 ·intro listed a' w' hsz hall ⟨hf',hdf',ho',hg⟩;have hsl:∀(k d:Nat),(l.toArray[k]?).bind (·.dst)=some d->a'.tmps[d]?=some (BM l.toArray a' k):=λk d hd=>by
   have hlt:d<a'.tmps.size:=by rw[hf'.size];exact PM hin k d hd
   unfold BM;rw[hd];simp[hlt]
  have hfE:=KR (ops:=l.toArray) (S:=S) (vs:=BM l.toArray a') (w:=w') hf' (is:=List.range l.length) λi hi d hd=>by
   have hi':i<l.toArray.size:=by simpa using j9.1 hi
   exact⟨hsl i d hd,hg i hi' (hall i hi')⟩
  have hfact:X5 S (BM l.toArray a') (List.range l.length) w':=Js λi hi=>by
   have hi':i<l.toArray.size:=by simpa using j9.1 hi
   exact hg i hi' (hall i hi')
  have hl:u1 listed=λk=>Nat.blt k l.length:=by
   funext k;simp only[u1,m6];by_cases hk:k<l.length
   ·rw[hall k (by simpa using hk)];simp[hk]
   ·rw[mK (by rw[hsz];simpa using hk)];show false=Nat.blt k l.length;cases hb:Nat.blt k l.length with
    |false=>rfl
    |true=>exact absurd (by simpa using hb) hk
  rw[hl] at ho';exact fin _ w' hfact a' w' hfE hdf' ho'
 ·unfold Dp;simp
 ·intro j o hj hjl;exfalso;rw[GO] at hjl;split at hjl<;>simp at hjl
 ·have:u1 (Array.replicate l.toArray.size false)=λ_=>false:=by
   funext k;simp only[u1,m6,GO];split<;>rfl
  rw[this,h0];exact(show B7 C H w.drew from ho.drew)
 ·intro i hi hil;exfalso;rw[GO] at hil;split at hil<;>simp at hil
theorem ab8{id:Nat}{l:List Oper}(S:List L0)(Hs:(Nat->Bool)->(Nat->Value)->List C2)(hm:P.follows .mixedOrders=true)(hB:TD l.toArray=true)(hin:Gz l.toArray n=true)(hfree:Og S)
  (h0:∀vs,Hs (λ_=>false) vs=H)(steps:KW P n (x3 (BX l.toArray l.length) E) C Hs l.toArray S 0 l)
  (fin:∀(vs:Nat->Value) (w1:B6),X5 S vs (List.range l.length) w1->At n (U1 l.toArray S vs (List.range l.length) (x3 (BX l.toArray l.length) E)) C (Hs (λk=>Nat.blt k l.length) vs) (Q .normal)):
  At n E C H (F8 r P (Code.region id l.toArray true) Q):=λa w hf hdf ho=>
 xJ S Hs hm hB OP hin hfree h0 steps fin a w ⟨hf.size,λt v h=>hf.get t v (PP h)⟩ hdf ho
theorem tK{S:List L0}{j:Nat}:KW P n E C Hs ops S j []:=trivial
theorem Qj{S:List L0}{j:Nat}{o:Oper}{rest:List Oper}(hd:o.dst.isSome=true)(h:∀lst vs,lst j=false->(∀e∈M4 o,lst e=true)->Bk P n (U1 ops S vs (M4 o) E) C (Hs lst vs) (X5 S vs (M4 o)) o (M9 S j))(hi:∀lst vs u,Hs (Q3 lst j) (U9 vs j u)=Hs lst vs)(h2:KW P n E C Hs ops S (j+1) rest):KW P n E C Hs ops S j (o::rest):=by
 refine⟨⟨λlst vs hl he a w hf ho hx=>?_,λh=>by rw[h] at hd;cases hd⟩,h2⟩;rcases h lst vs hl he a w hf ho hx with⟨u,w',h1,h2,_,h4⟩|⟨f,args,h1,h2⟩
 ·exact .inl ⟨u,w',h1,hd,by rw[hi];exact h2,h4⟩
 ·exact .inr (.inr ⟨f,args,h1,hd,h2.mono λe w' ⟨u,h3,h4,_,h5⟩=>⟨u,h3,by rw[hi];exact h4,h5⟩⟩)
theorem Xp{S:List L0}{j:Nat}{o:Oper}{rest:List Oper}(hd:o.dst=none)(hS:M9 S j=j2)(h:∀lst vs,lst j=false->(∀e∈M4 o,lst e=true)->Ic P n (U1 ops S vs (M4 o) E) C (Hs lst vs) o (Hs (Q3 lst j) vs))(h2:KW P n E C Hs ops S (j+1) rest):KW P n E C Hs ops S j (o::rest):=by
 refine⟨⟨λlst vs hl he a w hf ho hx=>?_,λ_=>hS⟩,h2⟩;obtain⟨w',h1,h2⟩:=h lst vs hl he a w hf ho;exact .inr (.inl ⟨w',h1,hd,h2⟩)
theorem Jq{o:Oper}{H H' H'':List C2}(h:Ic P n E C H o H')(e:H'=H''):Ic P n E C H o H'':=e▸h
end
section
variable{P:Program}{r:Option Nat}{n:Nat}{E:List (Nat×Value)}{C:I3}{H:List C2}{Q:Exit->Act->World->Prop}{ops:Array Oper}{rest:List Oper}
variable{d:Nat}{op:Op}{ty:TypeId}{pos:String}{after:Array Edge}{f:FuncId}{args:Array Value}
theorem Ib{ι:Type}{e sz m:Nat}{xs:H2}(vf:ι->Value->Value)(he:f0 P n E C H ⟨some d,op,ty,pos,after,none⟩ f args)
  (hc:∀w,B7 C H w->Calls P f args w λe' w'=>∃i v,e'=.returned (vf i v)/\Below w.heap.size w w'/\w'.ownsRow w.heap.size e sz v m xs)(hn:Op.X9 op=false)(hd:Nat.blt d n=true)
  (k:∀i v,At n ((d,vf i v)::E) C (.row v e sz m xs::H) (D3 r P ops Q rest)):At n E C H (D3 r P ops Q (⟨some d,op,ty,pos,after,none⟩::rest)):=
 Ov (ι:=ι×Value) (λq=>vf q.1 q.2) (λq=>.row q.2 e sz m xs::H) he (λw ho=>(hc w ho).mono λe' w' ⟨i,v,h1,h2,h3⟩=>⟨(i,v),h1,ho.Ml h2 ⟨h3.1,h3.2.imp id λ⟨g,cap,cur,q1,q2,q3⟩=>⟨g,cap,cur,q1,R5 _,q3⟩⟩ (λk hk=>(h3.lt k (by simpa[C2.blocks] using hk)).1)⟩) rfl hn hd (λq=>k q.1 q.2)
theorem Qs{ι:Type}(φ:ι->Prop)(vf:ι->Value)(he:f0 P n E C H ⟨some d,op,ty,pos,after,none⟩ f args)
  (hc:∀w,B7 C H w->Calls P f args w λe' w'=>∃i,e'=.returned (vf i)/\Below w.heap.size w w'/\φ i)(hn:Op.X9 op=false)(hd:Nat.blt d n=true)
  (k:∀i,φ i->At n ((d,vf i)::E) C H (D3 r P ops Q rest)):At n E C H (D3 r P ops Q (⟨some d,op,ty,pos,after,none⟩::rest)):=
 Ov (ι:={i:ι//φ i}) (λq=>vf q.1) (λ_=>H) he (λw ho=>(hc w ho).mono λe' w' ⟨i,h1,h2,h3⟩=>⟨⟨i,h3⟩,h1,ho.below h2⟩) rfl hn hd (λq=>k q.1 q.2)
theorem Oa{ι:Type}(φ:ι->Prop)(R H0:List C2)(v:ι->Value)(H0':ι->List C2)(hH:H=R++H0)(he:f0 P n E C (H0++R) ⟨some d,op,ty,pos,after,none⟩ f args)
  (hc:∀w,B7 C (H0++R) w->B7 (J1 w H0) H0 w->Calls P f args w λe w'=>∃i,e=.returned (v i)/\O0 w (λk=>k∈F1 H0) (H0' i) w'/\φ i)(hn:Op.X9 op=false)(hd:Nat.blt d n=true)
  (k:∀i,φ i->At n ((d,v i)::E) C (R++H0' i) (D3 r P ops Q rest)):At n E C H (D3 r P ops Q (⟨some d,op,ty,pos,after,none⟩::rest)):=
 W7 (ι:={i:ι//φ i}) R H0 (λq=>v q.1) (λq=>H0' q.1) hH he (λw h1 h2=>(hc w h1 h2).mono λe w' ⟨i,q1,q2,q3⟩=>⟨⟨i,q3⟩,q1,q2⟩) hn hd (λq=>k q.1 q.2)
end
section
variable{P:Program}{n:Nat}{E:List (Nat×Value)}{C:I3}{H:List C2}{t:TypeId}
end
def Ui(ops:Array Oper)(N:Nat):Bool:=
 Region.noSelect ops&&Nat.ble N ops.size&&
 (List.range ops.size).all (λi=>match ops[i]? with
  |some o=>(M4 o).all (λe=>Nat.blt e i)&&(if Nat.blt i N then !Op.X9 o.op else true)&&
   (if Nat.blt i N then true else(List.range i).all λk=>(M4 o).any λe=>Eb ops ops.size e k)
  |none=>false)&&
 (List.range N).all (λi=>(List.range N).all λj=>Nat.beq i j||(match(ops[i]?).bind (·.dst),(ops[j]?).bind (·.dst) with
  |some d,some d'=> !Nat.beq d d'
  |_,_=>true))
structure US(ops:Array Oper)(N:Nat):Prop where
 eW:Region.noSelect ops=true
 le:N<=ops.size
 low:∀(i:Nat) (o:Oper),ops[i]?=some o->∀e∈M4 o,e<i
 nd:∀(i:Nat) (o:Oper),ops[i]?=some o->i<N->Op.X9 o.op=false
 tail:∀(i:Nat) (o:Oper),ops[i]?=some o->N<=i->∀k,k<i->∃e∈M4 o,Eb ops ops.size e k=true
 apart:∀(i j:Nat),i<N->j<N->i≠j->∀(d:Nat),(ops[i]?).bind (λo:Oper=>o.dst)=some d->(ops[j]?).bind (λo:Oper=>o.dst)≠some d
theorem aw1{ops:Array Oper}{N:Nat}(h:Ui ops N=true):US ops N:=by
 unfold Ui at h;simp only[j1] at h;obtain⟨⟨⟨h1,h2⟩,h3⟩,h4⟩:=h;have h2':N<=ops.size:=by simpa using h2
 have g3:∀(i:Nat) (o:Oper),ops[i]?=some o->_:=λi o ho=>by
  have:=f5.1 h3 i (j9.2 (T1.1 ho).1);rw[ho] at this;simp only[j1] at this;exact this
 refine⟨h1,h2',λi o ho e he=>?_,λi o ho hi=>?_,λi o ho hi k hk=>?_,λi j hi hj hne d hd hd'=>?_⟩
 ·have:=f5.1 (g3 i o ho).1.1 e he;simpa using this
 ·have:=(g3 i o ho).1.2;have hlt:Nat.blt i N=true:=by simpa using hi
  rw[hlt] at this;simpa using this
 ·have:=(g3 i o ho).2;have hlt:Nat.blt i N=false:=by
   cases hb:Nat.blt i N
   ·rfl
   ·exact absurd (by simpa using hb) (Nat.not_lt.2 hi)
  rw[hlt] at this;simp only[Fb,if_false] at this;have:=f5.1 this k (j9.2 hk);exact Uk.1 this
 ·have:=f5.1 (f5.1 h4 i (j9.2 hi)) j (j9.2 hj);rw[hd,hd'] at this;simp[hne] at this
section
variable{P:Program}{r:Option Nat}{n:Nat}{E:List (Nat×Value)}{C:I3}{H:List C2}{Hs:(Nat->Bool)->(Nat->Value)->List C2}{Q:Exit->Act->World->Prop}{ops:Array Oper}
theorem oG{N:Nat}(hr:US ops N):∀(fuel k:Nat) (listed:Array Bool) (a:Act) (w:B6),N<=k->listed.size=ops.size->Dp listed<=fuel->(∀i,i<k->listed[i]?=some true)->(∀i,k<=i->i<ops.size->listed[i]?=some false)->
  k<=ops.size->wpOpsIn (fe r) 0 P ops Q (List.range' k (ops.size-k)) a w->wpAnyIn (fe r) 0 P .any ops Q fuel listed a w:=by
 intro fuel
 induction fuel with
 |zero=>
  intro k listed a w hN hsz hcn hlo hhi hks h;have hk:k=ops.size:=by
   rcases w7 k ops.size with hl|hl
   ·have:=OT (hhi k (L6 _) hl);omega
   ·omega
  subst hk;refine⟨?_,by simpa[wpOpsIn] using h⟩;apply mL.2;intro i hi;obtain⟨h1,o,ho,_⟩:=FP hi hsz;rw[hlo i (T1.1 ho).1] at h1;cases h1
 |succ fuel ih=>
  intro k listed a w hN hsz hcn hlo hhi hks h;have only:∀i∈Region.ready .any ops listed,i=k:=λi hi=>by
   obtain⟨h1,o,ho,he⟩:=FP hi hsz;have hik:k<=i:=by
    rcases w7 i k with hl|hl
    ·rw[hlo i hl] at h1;cases h1
    ·exact hl
   rcases w7 k i with hl|hl
   ·obtain⟨e,hee,hre⟩:=hr.tail i o ho (by omega) k hl;have hlow:=hr.low i o ho e hee;have hi':=(T1.1 ho).1;have hel:listed[e]?=some true:=by
     rcases he e hee with h|h
     ·exact h
     ·omega
    have hcl:Jp ops listed:=λj o' ho' hj e' he'=>by
     have hjk:j<k:=by
      rcases w7 j k with hl'|hl'
      ·exact hl'
      ·rw[hhi j hl' (T1.1 ho').1] at hj;cases hj
     exact hlo e' (Nat.lt_trans (hr.low j o' ho' e' he') hjk)
    have:=IW hcl _ e k hre hel;rw[hhi k (L6 _) (by omega)] at this;cases this
   ·omega
  rcases w7 k ops.size with hl|hl
  ·have hcons:List.range' k (ops.size-k)=k::List.range' (k+1) (ops.size-(k+1)):=by
    rw[show ops.size-k=(ops.size-(k+1))+1 by omega,Ng]
   rw[hcons,wpOpsIn_cons] at h;refine⟨λh0=>?_,λi hi=>?_⟩
   ·exfalso;have:k∈Region.ready .any ops listed:=mem_ready.2 ⟨by rw[m6,hhi k (L6 _) hl];rfl,ops[k],s4 hl,λe hee hb=>by
     have hlow:=hr.low k _ (s4 hl) e.on (MB.2 ⟨e,by simpa using hee,by simp[hb]⟩);rw[m6,hlo e.on hlow];rfl⟩
    rw[h0] at this;cases this
   ·have hk:=only i hi;subst hk;refine wpOpIn_mono (λa' w' h'=>ih (i+1) _ a' w' (by omega) (by simpa using hsz) ?_ ?_ ?_ (by omega) h') h
    ·have:=IS (hhi i (L6 _) hl);omega
    ·intro j hj;by_cases hji:i=j
     ·subst hji;rw[Array.getElem?_setIfInBounds_self];simp[hsz,hl]
     ·rw[Br hji];exact hlo j (by omega)
    ·intro j hj hjs;rw[Br (by omega)];exact hhi j (by omega) hjs
  ·have hk:k=ops.size:=by omega
   subst hk;refine⟨λ_=>by simpa[wpOpsIn] using h,λi hi=>?_⟩;have:=only i hi;subst this;obtain⟨_,o,ho,_⟩:=FP hi hsz;have:=(T1.1 ho).1;omega
def Me(P:Program)(n:Nat)(E:List (Nat×Value))(C:I3)(Hs:(Nat->Bool)->(Nat->Value)->List C2)(ops:Array Oper)(S:List L0)(i:Nat)(o:Oper):Prop:=match o.guard with
 |none=>Bx P n E C Hs ops S i o/\(o.dst=none->M9 S i=j2)
 |some (g,b)=>∃t c,Ci ops g=some t/\(∀vs,R6 (U1 ops S vs (M4 o) E) t=some c)/\
   ((BN c b=true/\Bx P n E C Hs ops S i o/\(o.dst=none->M9 S i=j2))\/
    (BN c b=false/\(∀w,(M9 S i).ok undef w)/\∀lst vs,Hs (Q3 lst i) (U9 vs i undef)=Hs lst vs))
def Hf(P:Program)(n:Nat)(E:List (Nat×Value))(C:I3)(Hs:(Nat->Bool)->(Nat->Value)->List C2)(ops:Array Oper)(S:List L0):Nat->Nat->List Oper->Prop
 |0,_,_=>True
 |_+1,_,[]=>True
 |m+1,j,o::rest=>Me P n E C Hs ops S j o/\Hf P n E C Hs ops S m (j+1) rest
theorem ZG{S:List L0}:∀{m j:Nat} {l:List Oper},Hf P n E C Hs ops S m j l->∀i o,i<m->l[i]?=some o->Me P n E C Hs ops S (j+i) o
 |0,_,_,_,_,_,hi,_=>by omega
 |m+1,j,[],_,i,o,_,ho=>by simp at ho
 |m+1,j,o::rest,h,i,o',hi,ho=>by
  cases i with
  |zero=>simp at ho;subst ho;exact h.1
  |succ i=>
   have:=ZG h.2 i o' (by omega) (by simpa using ho);rwa[show j+1+i=j+(i+1) by omega] at this
def Ax(ops:Array Oper)(N:Nat)(a:Act):Nat->Value:=λk=>if k<N then BM ops a k else undef
def VD(n:Nat)(E:List (Nat×Value))(C:I3)(Hs:(Nat->Bool)->(Nat->Value)->List C2)(ops:Array Oper)(S:List L0)(N:Nat)(listed:Array Bool)(a:Act)(w:World):Prop:=
 U2 n E a/\DF C a/\B7 C (Hs (u1 listed) (Ax ops N a)) w/\∀i,i<N->listed[i]?=some true->(M9 S i).ok (Ax ops N a i) w
theorem rQ{a:Act}{i d N:Nat}{u:Value}(hr:US ops N)(hi:i<N)(hd:(ops[i]?).bind (·.dst)=some d)(hs:d<a.tmps.size):Ax ops N (a.put (some d) u)=U9 (Ax ops N a) i u:=by
 funext k;unfold Ax BM U9;dsimp only;by_cases hk:k=i
 ·subst hk;rw[if_pos rfl,if_pos hi,hd];simp[Act.put,hs]
 ·rw[if_neg hk];by_cases hkN:k<N
  ·rw[if_pos hkN,if_pos hkN];cases hdk:(ops[k]?).bind (λo:Oper=>o.dst) with
   |none=>rfl
   |some d'=>
    have hne:d≠d':=λe=>hr.apart i k hi hkN (λe2=>hk e2.symm) d hd (e▸hdk);simp only[Act.put];rw[Br hne]
  ·rw[if_neg hkN,if_neg hkN]
theorem ap6{S:List L0}{N:Nat}(hr:US ops N)(hfree:∀i,(M9 S i).free)(hfr:HT ops N E=true)(hin:∀(i d:Nat),(ops[i]?).bind (·.dst)=some d->d<n)
  (steps:∀(i:Nat) (o:Oper),i<N->ops[i]?=some o->Me P n E C Hs ops S i o)
  (fin:∀(listed:Array Bool) (a:Act) (w:B6),listed.size=ops.size->(∀i,i<N->listed[i]?=some true)->(∀i,N<=i->i<ops.size->listed[i]?=some false)->VD n E C Hs ops S N listed a w->wpOpsIn (fe r) 0 P ops Q (List.range' N (ops.size-N)) a w):
  ∀(fuel:Nat) (listed:Array Bool) (a:Act) (w:B6),listed.size=ops.size->Dp listed<=fuel->Jp ops listed->(∀i,N<=i->i<ops.size->listed[i]?=some false)->VD n E C Hs ops S N listed a w->wpAnyIn (fe r) 0 P .any ops Q fuel listed a w:=by
 have full:∀(fuel:Nat) (listed:Array Bool) (a:Act) (w:B6),listed.size=ops.size->Dp listed<=fuel->(∀i,N<=i->i<ops.size->listed[i]?=some false)->VD n E C Hs ops S N listed a w->(∀i,i<N->listed[i]?=some true)->wpAnyIn (fe r) 0 P .any ops Q fuel listed a w:=
  λfuel listed a w hsz hcn hhi hg hlo=>oG hr fuel N listed a w (L6 _) hsz hcn hlo hhi hr.le (fin listed a w hsz hlo hhi hg)
 intro fuel
 induction fuel with
 |zero=>
  intro listed a w hsz hcn hcl hhi hg;refine full 0 listed a w hsz hcn hhi hg λi hi=>?_;have hlt:i<listed.size:=by have:=hr.le;omega
  cases hb:listed[i]? with
  |none=>rw[HA] at hb;omega
  |some b=>
   cases b
   ·have:=OT hb;omega
   ·rfl
 |succ fuel ih=>
  intro listed a w hsz hcn hcl hhi hg;by_cases hall:∀i,i<N->listed[i]?=some true
  ·exact full (fuel+1) listed a w hsz hcn hhi hg hall
  ·have hex:∃i,i<N/\listed[i]?=some false:=by
    refine Classical.byContradiction λhno=>hall λi hi=>?_;have hlt:i<listed.size:=by have:=hr.le;omega
    cases hb:listed[i]? with
    |none=>rw[HA] at hb;omega
    |some b=>
     cases b
     ·exact absurd ⟨i,hi,hb⟩ hno
     ·rfl
   have small:∀i∈Region.ready .any ops listed,i<N:=λi hi=>by
    obtain⟨h1,o,ho,he⟩:=FP hi hsz;rcases w7 i N with hl|hl
    ·exact hl
    ·obtain⟨k,hk,hkf⟩:=hex;obtain⟨e,hee,hre⟩:=hr.tail i o ho hl k (by omega);have hlow:=hr.low i o ho e hee;have hi':=(T1.1 ho).1;have hel:listed[e]?=some true:=by
      rcases he e hee with h|h
      ·exact h
      ·omega
     have:=IW hcl _ e k hre hel;rw[hkf] at this;cases this
   refine⟨λh0=>?_,λi hi=>?_⟩
   ·exfalso;obtain⟨k,hk,hmin⟩:=exists_least hex;have hko:k<ops.size:=by have:=hr.le;omega
    have:k∈Region.ready .any ops listed:=mem_ready.2 ⟨by rw[m6,hk.2];rfl,ops[k],s4 hko,λe hee hb=>by
     have hlow:=hr.low k _ (s4 hko) e.on (MB.2 ⟨e,by simpa using hee,by simp[hb]⟩);have hlt:e.on<listed.size:=by omega
     cases hbb:listed[e.on]? with
     |none=>rw[HA] at hbb;omega
     |some b=>
      cases b
      ·have:=hmin e.on ⟨by omega,hbb⟩;omega
      ·rw[m6,hbb];rfl⟩
    rw[h0] at this;cases this
   ·have hiN:=small i hi;obtain⟨h1,o,ho,he⟩:=FP hi hsz;have his:i<ops.size:=(T1.1 ho).1;have he':∀e∈M4 o,listed[e]?=some true:=λe hee=>by
     rcases he e hee with h|h
     ·exact h
     ·have:=hr.low i o ho e hee;omega
    obtain⟨hf,hdf,ho',hgv⟩:=hg;have hsl:∀(k d:Nat),k<N->(ops[k]?).bind (·.dst)=some d->a.tmps[d]?=some (Ax ops N a k):=λk d hk hd=>by
     have hlt:d<a.tmps.size:=by rw[hf.size];exact hin k d hd
     unfold Ax BM;rw[if_pos hk,hd];simp[hlt]
    have hfE:=KR (ops:=ops) (S:=S) (vs:=Ax ops N a) (w:=w) hf (is:=M4 o) λe hee d hd=>by
     have hlow:=hr.low i o ho e hee;exact⟨hsl e d (by omega) hd,hgv e (by omega) (he' e hee)⟩
    have hfact:X5 S (Ax ops N a) (M4 o) w:=Js λe hee=>hgv e (by have:=hr.low i o ho e hee;omega) (he' e hee);have hstep:=steps i o hiN ho;have hlst:u1 listed i=false:=by simp[u1,m6,h1]
    have hlstE:∀e∈M4 o,u1 listed e=true:=λe hee=>by simp[u1,m6,he' e hee]
    have hup:u1 (listed.setIfInBounds i true)=Q3 (u1 listed) i:=bY (by omega);have hhi':∀j,N<=j->j<ops.size->(listed.setIfInBounds i true)[j]?=some false:=λj hj hjs=>by rw[Br (by omega)];exact hhi j hj hjs
    have nextV:∀(u:Value) (w':B6),o.dst.isSome=true->B7 C (Hs (Q3 (u1 listed) i) (U9 (Ax ops N a) i u)) w'->(M9 S i).ok u w'->wpAnyIn (fe r) 0 P .any ops Q fuel (listed.setIfInBounds i true) (a.put o.dst u) w':=λu w' hds hw' hok=>by
     obtain⟨d,hd⟩:=JA.1 hds;have hdi:(ops[i]?).bind (·.dst)=some d:=by rw[ho];exact hd
     have hlt:d<a.tmps.size:=by rw[hf.size];exact hin i d hdi
     have hsv:Ax ops N (a.put (some d) u)=U9 (Ax ops N a) i u:=rQ hr hiN hdi hlt;rw[hd];refine ih _ _ _ (by simpa using hsz) (by have:=IS h1;omega) (LD hcl ho he') hhi' ⟨St hf (Tl hfr hiN hdi),hdf.put _ _,by rw[hup,hsv];exact hw',λj hj hjl=>?_⟩;rw[hsv];by_cases hij:i=j
     ·subst hij;simpa[U9] using hok
     ·rw[Br hij] at hjl;have:U9 (Ax ops N a) i u j=Ax ops N a j:=if_neg (λe=>hij e.symm);rw[this];exact L0.QQ (hfree j) (hgv j hj hjl)
    have SL:∀(w':B6),o.dst=none->B7 C (Hs (Q3 (u1 listed) i) (Ax ops N a)) w'->(∀w v,(M9 S i).ok v w)->wpAnyIn (fe r) 0 P .any ops Q fuel (listed.setIfInBounds i true) (a.put o.dst undef) w':=λw' hdn hw' hok=>by
     have hput:a.put o.dst undef=a:=by rw[hdn];rfl
     rw[hput];refine ih _ _ _ (by simpa using hsz) (by have:=IS h1;omega) (LD hcl ho he') hhi' ⟨hf,hdf,by rw[hup];exact hw',λj hj hjl=>?_⟩;by_cases hij:i=j
     ·subst hij;exact hok _ _
     ·rw[Br hij] at hjl;exact L0.QQ (hfree j) (hgv j hj hjl)
    have run:Bx P n E C Hs ops S i o/\(o.dst=none->M9 S i=j2)->o.wpIn (fe r) 0 P a w (wpAnyIn (fe r) 0 P .any ops Q fuel (listed.setIfInBounds i true)) Q:=λ⟨hst,hno⟩=>by
     refine⟨λ_ _=>trivial,?_⟩;rw[show(fe r).round=r from rfl,Oj (hr.nd i o ho hiN)];rcases hst _ _ hlst hlstE a w hfE ho' hfact with⟨u,w',hrun,hds,hw',hok⟩|⟨w',hrun,hdn,hw'⟩|⟨f,args,hrun,hds,hcall⟩
     ·rw[hrun];exact nextV u w' hds hw' hok
     ·rw[hrun];exact SL w' hdn hw' (λ_ _=>by rw[hno hdn];trivial)
     ·rw[hrun];refine Lr hcall ?_;rintro e w' ⟨u,rfl,hw',hok⟩;exact⟨u,rfl,nextV u w' hds hw' hok⟩
    unfold wpOpIn;simp only[ho];unfold Me at hstep;cases hg:o.guard with
    |none=>
     rw[hg] at hstep;rw[if_pos (by simp[Region.wanted,hg])];exact run hstep
    |some gb=>
     obtain⟨g,b⟩:=gb;rw[hg] at hstep;obtain⟨t,c,hy,hge,hcase⟩:=hstep;rw[Nx hfE hg hy (hge _)];rcases hcase with⟨hwb,hst⟩|⟨hwb,hok,hHs⟩
     ·rw[if_pos hwb];exact run hst
     ·rw[if_neg (by rw[hwb];simp)];refine⟨λ_ _=>trivial,?_⟩;cases hd:o.dst with
      |some d=>
       have:=nextV undef w (by rw[hd];rfl) (by rw[hHs];exact ho') (hok w);rwa[hd] at this
      |none=>
       have hdi:(ops[i]?).bind (λo:Oper=>o.dst)=none:=by rw[ho];exact hd
       have hsn:Ax ops N a i=undef:=by
        unfold Ax BM;rw[if_pos hiN,hdi]
       have hup2:U9 (Ax ops N a) i undef=Ax ops N a:=by
        funext k;unfold U9;split
        ·rename_i e;rw[e,hsn]
        ·rfl
       have h5:=hHs (u1 listed) (Ax ops N a);rw[hup2] at h5;have hput:a.put (none:Option Tmp) undef=a:=rfl;rw[hput];refine ih _ _ _ (by simpa using hsz) (by have:=IS h1;omega) (LD hcl ho he') hhi' ⟨hf,hdf,by rw[hup,h5];exact ho',λj hj hjl=>?_⟩;by_cases hij:i=j
       ·subst hij;rw[hsn];exact hok w
       ·rw[Br hij] at hjl;exact L0.QQ (hfree j) (hgv j hj hjl)
def Fj(vs:Nat->Value):Nat->List Oper->List L0->Nat->List (Nat×Value)->List (Nat×Value)
 |_,_,_,0,E=>E
 |_,[],_,_+1,E=>E
 |j,o::l,[],m+1,E=>match o.dst with
  |some d=>(d,undef)::Fj vs (j+1) l [] m E
  |none=>Fj vs (j+1) l [] m E
 |j,o::l,.val v::S,m+1,E=>match o.dst with
  |some d=>(d,v)::Fj vs (j+1) l S m E
  |none=>Fj vs (j+1) l S m E
 |j,o::l,.rel _::S,m+1,E=>match o.dst with
  |some d=>(d,vs j)::Fj vs (j+1) l S m E
  |none=>Fj vs (j+1) l S m E
theorem lN{l:List Oper}{S:List L0}{vs:Nat->Value}{E:X0}:∀(m j:Nat),l.length<=j->U1 l.toArray S vs (List.range' j m) E=E
 |0,_,_=>rfl
 |m+1,j,h=>by
  rw[Ng,U1];have:(l.toArray[j]?).bind (λo:Oper=>o.dst)=none:=by simp[Fa h]
  rw[this];exact lN m (j+1) (by omega)
theorem iP(l:List Oper)(S:List L0)(vs:Nat->Value)(E:X0):∀(m j:Nat),U1 l.toArray S vs (List.range' j m) E=Fj vs j (l.drop j) (S.drop j) m E
 |0,j=>by
  unfold Fj;rfl
 |m+1,j=>by
  have ih:=iP l S vs E m (j+1);rcases w7 j l.length with hj|hj
  ·rw[Ng,U1,ih,MG hj];have hb:(l.toArray[j]?).bind (λo:Oper=>o.dst)=(l[j]).dst:=by simp[T8 hj]
   rw[hb];rcases w7 j S.length with hs|hs
   ·rw[MG hs];have hsp:M9 S j=S[j]:=by simp[M9,W6,T8 hs]
    rw[hsp];cases S[j]<;>(rw[Fj];cases(l[j]).dst<;>rfl)
   ·rw[show S.drop j=[] from JE hs,show S.drop (j+1)=[] from JE (by omega)];have hsp:M9 S j=.val undef:=by simp[M9,W6,Fa hs]
    rw[hsp,Fj];cases(l[j]).dst<;>rfl
  ·rw[lN (m+1) j hj,JE hj];rfl
theorem eZ(l:List Oper)(S:List L0)(vs:Nat->Value)(E:X0)(N:Nat):U1 l.toArray S vs (List.range N) E=Fj vs 0 l S N E:=by
 rw[List.range_eq_range'];exact iP l S vs E N 0
theorem yZ{id:Nat}{l:List Oper}(N:Nat)(S:List L0)(Hs:(Nat->Bool)->(Nat->Value)->List C2)(hm:P.follows .mixedOrders=true)(hB:Ui l.toArray N=true)(hin:Gz l.toArray n=true)
  (h0:∀vs,Hs (λ_=>false) vs=H)(steps:Hf P n (x3 (BX l.toArray N) E) C Hs l.toArray S N 0 l)(hfree:Og S)
  (fin:∀(vs:Nat->Value) (w1:B6),X5 S vs (List.range N) w1->At n (U1 l.toArray S vs (List.range N) (x3 (BX l.toArray N) E)) C (Hs (λk=>Nat.blt k N) vs) (D3 r P l.toArray Q (l.drop N))):
  At n E C H (F8 r P (Code.region id l.toArray true) Q):=by
 have main:At n (x3 (BX l.toArray N) E) C H (F8 r P (Code.region id l.toArray true) Q):=by
  intro a w hf hdf ho;have hr:=aw1 hB;refine wpIn_region_any hm (ap6 (Hs:=Hs) (S:=S) (C:=C) (n:=n) hr (Vq hfree) OP (PM hin) (λi o hi hoo=>?_) ?_ _ _ _ _ (by simp) ?_ ?_ ?_ ⟨hf,hdf,?_,?_⟩)
  ·have:=ZG steps i o hi (by simpa using hoo);rwa[Y3] at this
  ·intro listed a' w' hsz hall hhi ⟨hf',hdf',ho',hg⟩;have hsl:∀(k d:Nat),k<N->(l.toArray[k]?).bind (·.dst)=some d->a'.tmps[d]?=some (Ax l.toArray N a' k):=λk d hk hd=>by
    have hlt:d<a'.tmps.size:=by rw[hf'.size];exact PM hin k d hd
    unfold Ax BM;rw[if_pos hk,hd];simp[hlt]
   have hfE:=KR (ops:=l.toArray) (S:=S) (vs:=Ax l.toArray N a') (w:=w') hf' (is:=List.range N) λi hi d hd=>by
    have hi':=j9.1 hi;exact⟨hsl i d hi' hd,hg i hi' (hall i hi')⟩
   have hfact:X5 S (Ax l.toArray N a') (List.range N) w':=Js λi hi=>hg i (j9.1 hi) (hall i (j9.1 hi));have hl:u1 listed=λk=>Nat.blt k N:=by
    funext k;simp only[u1,m6];by_cases hk:k<N
    ·rw[hall k hk];simp[hk]
    ·have h2:Nat.blt k N=false:=by
      cases hb:Nat.blt k N with
      |false=>rfl
      |true=>exact absurd (by simpa using hb) hk
     rw[h2];by_cases hks:k<l.toArray.size
     ·rw[hhi k (by omega) hks];rfl
     ·rw[mK (by rw[hsz];omega)];rfl
   rw[hl] at ho';have hfin:=fin _ w' hfact a' w' hfE hdf' ho';have e:=wpOpsIn_eq_wpListIn (F:=fe r) (n:=0) (P:=P) (Q:=Q) (ops:=l.toArray) (l.drop N) N (λj=>by simp);rw[EB] at e;rw[Ul,e];exact hfin
  ·unfold Dp;simp
  ·intro j o hj hjl;exfalso;rw[GO] at hjl;split at hjl<;>simp at hjl
  ·intro i hi his;rw[GO,if_pos his]
  ·have:u1 (Array.replicate l.toArray.size false)=λ_=>false:=by
    funext k;simp only[u1,m6,GO];split<;>rfl
   rw[this,h0];exact(show B7 C H w.drew from ho.drew)
  ·intro i hi hil;exfalso;rw[GO] at hil;split at hil<;>simp at hil
 exact λa w hf hdf ho=>main a w ⟨hf.size,λt v h=>hf.get t v (PP h)⟩ hdf ho
theorem Bh{id:Nat}{l:List Oper}(N:Nat)(S:List L0)(Hs:(Nat->Bool)->(Nat->Value)->List C2)(hm:P.follows .mixedOrders=true)(hB:Ui l.toArray N=true)(hin:Gz l.toArray n=true)
  (h0:∀vs,Hs (λ_=>false) vs=H)(steps:Hf P n (x3 (BX l.toArray N) E) C Hs l.toArray S N 0 l)(hfree:Og S)
  (fin:∀(vs:Nat->Value) (w1:B6),X5 S vs (List.range N) w1->At n (Fj vs 0 l S N (x3 (BX l.toArray N) E)) C (Hs (λk=>Nat.blt k N) vs) (D3 r P l.toArray Q (l.drop N))):
  At n E C H (F8 r P (Code.region id l.toArray true) Q):=
 yZ N S Hs hm hB hin h0 steps hfree λvs w1 h=>by rw[eZ];exact fin vs w1 h
theorem BL{id:Nat}{l:List Oper}(N:Nat)(S:List L0)(hm:P.follows .mixedOrders=true)(hB:Jk l.toArray N=true)(hin:Gz l.toArray n=true)
  (steps:Em P n (x3 (BX l.toArray N) E) C H l.toArray S N 0 l)(hst:Jd S)
  (fin:∀(vs:Nat->Value),At n (Fj vs 0 l S N (x3 (BX l.toArray N) E)) C H (D3 r P l.toArray Q (l.drop N))):
  At n E C H (F8 r P (Code.region id l.toArray true) Q):=
 HX N S hm hB hin hst steps λvs=>by rw[eZ];exact fin vs
theorem Bf{S:List L0}{j:Nat}{l:List Oper}:Hf P n E C Hs ops S 0 j l:=trivial
theorem F7{S:List L0}{j:Nat}{o:Oper}(hd:o.dst.isSome=true)(h:∀lst vs,lst j=false->(∀e∈M4 o,lst e=true)->Bk P n (U1 ops S vs (M4 o) E) C (Hs lst vs) (X5 S vs (M4 o)) o (M9 S j))(hi:∀lst vs u,Hs (Q3 lst j) (U9 vs j u)=Hs lst vs):Bx P n E C Hs ops S j o/\(o.dst=none->M9 S j=j2):=
 ⟨λlst vs hl he a w hf ho hx=>by
  rcases h lst vs hl he a w hf ho hx with⟨u,w',h1,h2,_,h4⟩|⟨f,args,h1,h2⟩
  ·exact .inl ⟨u,w',h1,hd,by rw[hi];exact h2,h4⟩
  ·exact .inr (.inr ⟨f,args,h1,hd,h2.mono λe w' ⟨u,h3,h4,_,h5⟩=>⟨u,h3,by rw[hi];exact h4,h5⟩⟩),λh=>by rw[h] at hd;cases hd⟩
theorem UQ{S:List L0}{j:Nat}{o:Oper}(hd:o.dst=none)(hS:M9 S j=j2)(h:∀lst vs,lst j=false->(∀e∈M4 o,lst e=true)->Ic P n (U1 ops S vs (M4 o) E) C (Hs lst vs) o (Hs (Q3 lst j) vs)):Bx P n E C Hs ops S j o/\(o.dst=none->M9 S j=j2):=
 ⟨λlst vs hl he a w hf ho hx=>by
  obtain⟨w',h1,h2⟩:=h lst vs hl he a w hf ho;exact .inr (.inl ⟨w',h1,hd,h2⟩),λ_=>hS⟩
theorem CZ{S:List L0}{j:Nat}{o:Oper}(hd:o.dst.isSome=true)(h:∀lst vs,lst j=false->(∀e∈M4 o,lst e=true)->∀a w,U2 n (U1 ops S vs (M4 o) E) a->B7 C (Hs lst vs) w->X5 S vs (M4 o) w->
  (∃u w',(execOp a.eval o).run P w=.ok (.value u) w'/\B7 C (Hs (Q3 lst j) (U9 vs j u)) w'/\(M9 S j).ok u w')\/
  (∃f args,(execOp a.eval o).run P w=.ok (.enter f args) w/\Calls P f args w λe w'=>∃u,e=.returned u/\B7 C (Hs (Q3 lst j) (U9 vs j u)) w'/\(M9 S j).ok u w')):Bx P n E C Hs ops S j o/\(o.dst=none->M9 S j=j2):=
 ⟨λlst vs hl he a w hf ho hx=>by
  rcases h lst vs hl he a w hf ho hx with⟨u,w',h1,h2,h3⟩|⟨f,args,h1,h2⟩
  ·exact .inl ⟨u,w',h1,hd,h2,h3⟩
  ·exact .inr (.inr ⟨f,args,h1,hd,h2⟩),λh=>by rw[h] at hd;cases hd⟩
theorem E9{S:List L0}{m j:Nat}{o:Oper}{rest:List Oper}(hg:o.guard=none)(h1:Bx P n E C Hs ops S j o/\(o.dst=none->M9 S j=j2))(h2:Hf P n E C Hs ops S m (j+1) rest):Hf P n E C Hs ops S (m+1) j (o::rest):=
 ⟨by unfold Me;rw[hg];exact h1,h2⟩
theorem Dz{S:List L0}{m j g t:Nat}{b:Bool}{c:Value}{o:Oper}{rest:List Oper}(hg:o.guard=some (g,b))(hy:Ci ops g=some t)(ht:∀vs:Nat->Value,R6 (U1 ops S vs (M4 o) E) t=some c)(hw:BN c b=true)
  (h1:Bx P n E C Hs ops S j o/\(o.dst=none->M9 S j=j2))(h2:Hf P n E C Hs ops S m (j+1) rest):Hf P n E C Hs ops S (m+1) j (o::rest):=
 ⟨by unfold Me;rw[hg];exact⟨t,c,hy,ht,.inl ⟨hw,h1⟩⟩,h2⟩
theorem Du{S:List L0}{m j g t:Nat}{b:Bool}{c:Value}{o:Oper}{rest:List Oper}(hg:o.guard=some (g,b))(hy:Ci ops g=some t)(ht:∀vs:Nat->Value,R6 (U1 ops S vs (M4 o) E) t=some c)(hw:BN c b=false)
  (hs:M9 S j=.val undef)(hH:∀lst vs,Hs (Q3 lst j) (U9 vs j undef)=Hs lst vs)(h2:Hf P n E C Hs ops S m (j+1) rest):Hf P n E C Hs ops S (m+1) j (o::rest):=
 ⟨by unfold Me;rw[hg];exact⟨t,c,hy,ht,.inr ⟨hw,by rw[hs];exact λ_=>rfl,hH⟩⟩,h2⟩
theorem Gw{p:Prop}[Decidable p](h:p):BN (.bool (decide p)) true=true:=by simp[BN,h]
theorem RP{p:Prop}[Decidable p](h:¬p):BN (.bool (decide p)) false=true:=by simp[BN,h]
theorem Qn{p:Prop}[Decidable p](h:p):BN (.bool (decide p)) false=false:=by simp[BN,h]
end
section
abbrev Tm:Nat:=37
abbrev gZ:Nat:=38
abbrev bR:Nat:=3
def Fm(g2 g3 g4:Nat)(nv:Value)(first c p:Int):List C2:=[.B1 g4 bR #[.int .i64 p],.B1 g3 gZ #[.int .i64 c],.B1 g2 Tm #[nv,.int .i64 first]]
def ZY(c p:Int):FrameMode:=.panicking [{v:=.iface Nd (.agg #[.int .i64 c,.int .i64 p]),recovered:=true}]
theorem ZE:Ae prog 37=some ([.slice none 0 0,.int .i64 0],[(0,1),(1,1)]):=by kernel_rfl
theorem Xq{args:H2}{n:Nat}(hl:args.length<=n):U2 n (KH args 0) {tmps:=args.toArray++Array.replicate (n-args.toArray.size) undef,defers:=[]}:=by
 refine⟨by simp;omega,λt v hv=>?_⟩;obtain⟨_,h2⟩:=TA args 0 t v hv;have hlt:t<args.length:=by simpa using(N5.1 h2).1
 simp[mI,hlt];simpa[T8 hlt] using h2
section
variable{F:Fence}{n:Nat}{P:Program}{ops:Array Oper}{Q:Exit->Act->List Frame->World->Prop}{i:Nat}{rest:List Nat}{a:Act}{cs cs':List Frame}{w w':World}{o:Oper}{v:Value}
theorem ac9(ho:ops[i]?=some o)(hg:o.guard=none)(hF:∀f,F.fn f)(hr:(execOp a.eval o).run P w=.ok .recover w')(hrec:recoverD cs=some (v,cs'))(h:wpOpsSIn F n P ops Q rest (a.put o.dst v) cs' w'):wpOpsSIn F n P ops Q (i::rest) a cs w:=by
 simp only[wpOpsSIn,ho];refine⟨λf _=>hF f,?_⟩;rw[if_pos (by simp[Region.wanted,hg]),hr];simp only[hrec];exact h
theorem zT(ho:ops[i]?=some o)(hg:o.guard=none)(hF:∀f,F.fn f)(hr:(execOp a.eval o).run P w=.ok .recover w')(hrec:recoverD cs=none)(h:wpOpsSIn F n P ops Q rest (a.put o.dst .nilIface) cs w'):wpOpsSIn F n P ops Q (i::rest) a cs w:=by
 simp only[wpOpsSIn,ho];refine⟨λf _=>hF f,?_⟩;rw[if_pos (by simp[Region.wanted,hg]),hr];simp only[hrec];exact h
theorem af1(ho:ops[i]?=some o)(hg:o.guard=none)(hF:∀f,F.fn f)(hr:(execOp a.eval o).run P w=.ok (.value v) w')(h:wpOpsSIn F n P ops Q rest (a.put o.dst v) cs w'):wpOpsSIn F n P ops Q (i::rest) a cs w:=by
 simp only[wpOpsSIn,ho];refine⟨λf _=>hF f,?_⟩;rw[if_pos (by simp[Region.wanted,hg]),hr];exact h
theorem iR{n':Nat}{E:X0}{d:Option Tmp}{x:Operand}{ty:TypeId}{pos:String}{after:Array Edge}(ho:ops[i]?=some ⟨d,.assign x,ty,pos,after,none⟩)(hF:∀f,F.fn f)(hf:U2 n' E a)(hx:ev E x=some v)(h:wpOpsSIn F n P ops Q rest (a.put d v) cs w):wpOpsSIn F n P ops Q (i::rest) a cs w:=
 af1 ho rfl hF (by simp only[execOp,hf.eval hx];rfl) h
end
theorem WW{P:Program}{n:Nat}{E:X0}{C:I3}{H:List C2}{c:Code}{Q:Exit->Act->B6->Prop}{a:Act}{w:B6}(hf:U2 n E a)(hd:DF C a)(ho:B7 C H w)(h:At n E C H (F8 none P c Q)):c.wpIn (fe none) 0 P Q a w:=h a w hf hd ho
attribute [local irreducible] F8 D3 Exit.then Exit.inBlock Exit.noGoto wpQuiet Calls fin At G9 L3 L7 RQ
theorem am5(g2 g3 g4:Nat)(nv:Value)(first c0 p0 c p:Int)(w:B6)(ho:B7 (J1 w (Fm g2 g3 g4 nv first c0 p0)) (Fm g2 g3 g4 nv first c0 p0) w):
  CallsDIn (fe none) 0 prog 22 #[.pointer (some ⟨g2,0,none⟩),.pointer (some ⟨g3,0,none⟩),.pointer (some ⟨g4,0,none⟩)] (.panicking (Ii c p)) w λe u' w'=>e=.returned (.tuple #[])/\u'=ZY c p/\O0 w (λk=>k∈F1 (Fm g2 g3 g4 nv first c0 p0)) (Fm g2 g3 g4 (.slice none 0 0) 0 c p) w':=by
 refine callsDIn_of_wpSIn func22 rfl trivial λc₀ cs hu=>?_;have hf:=Xq (n:=15) (args:=[.pointer (some ⟨g2,0,none⟩),.pointer (some ⟨g3,0,none⟩),.pointer (some ⟨g4,0,none⟩)]) (by simp);have hrec:recoverD (c₀::cs)=some (.iface Nd (.agg #[.int .i64 c,.int .i64 p]),{c₀ with mode:=ZY c p}::cs):=by
  simp only[recoverD,hu,Ii];rfl
 refine wpSIn_seq (wpSIn_region ?_);have hns:(Tryz.f22).ntmps=15:=rfl;rw[hns];have hdf0:∀t:Array Value,({tmps:=t,defers:=[]}:Act).defers=[]:=λ_=>rfl;have hdfa:=hdf0 (#[Value.pointer (some ⟨g2,0,none⟩),.pointer (some ⟨g3,0,none⟩),.pointer (some ⟨g4,0,none⟩)]++Array.replicate (15-(#[Value.pointer (some ⟨g2,0,none⟩),.pointer (some ⟨g3,0,none⟩),.pointer (some ⟨g4,0,none⟩)]:J2).size) undef);generalize ({tmps:= #[Value.pointer (some ⟨g2,0,none⟩),.pointer (some ⟨g3,0,none⟩),.pointer (some ⟨g4,0,none⟩)]++Array.replicate (15-_) undef,defers:=[]}:Act)=a at*;show wpOpsSIn _ _ _ _ _ [0,1] _ _ _;have f1:=hf.put (d:=some 5) (v:=.iface Nd (.agg #[.int .i64 c,.int .i64 p])) rfl;refine ac9 (w':=w) rfl rfl (λ_=>trivial) rfl hrec ?_;refine iR (v:=.iface Nd (.agg #[.int .i64 c,.int .i64 p])) rfl (λ_=>trivial) f1 rfl ?_;have f2:=f1.put (d:=some 3) (v:=.iface Nd (.agg #[.int .i64 c,.int .i64 p])) rfl;refine wpSIn_of_wpIn rfl (WW f2 (C:=J1 w (Fm g2 g3 g4 nv first c0 p0)) (H:=Fm g2 g3 g4 nv first c0 p0) ?_ ho ?_)
 ·exact hdfa
 refine B4 O<|B9 (ai2 (by kernel_rfl) O O) O<|A6<|R1 O<|B4 O<|B9 (yU (by kernel_rfl) O) O<|E3 Tryz.zeroValue86 O λgz0=>E8 0 (#[.int .i64 c,.int .i64 p]) O<|A6 ?_;rotate_left;refine ab8 [.val (.agg #[.slice none 0 0,.int .i64 0]),.val (.pointer (some ⟨gz0,0,none⟩)),.val (.int .i64 c),.val (.pointer (some ⟨gz0,1,none⟩)),.val (.int .i64 p),j2,j2,j2]
  (λlst _=>[.B1 gz0 Nd #[.int .i64 c,.int .i64 p],.B1 g4 bR #[cond (lst 7) (.int .i64 p) (.int .i64 p0)],.B1 g3 gZ #[cond (lst 6) (.int .i64 c) (.int .i64 c0)],.B1 g2 Tm #[cond (lst 5) (.slice none 0 0) nv,cond (lst 5) (.int .i64 0) (.int .i64 first)]]) (by kernel_rfl) (by kernel_rfl) (by kernel_rfl) ⟨trivial,trivial,trivial,trivial,trivial,λ_ _ _ h=>h,λ_ _ _ h=>h,λ_ _ _ h=>h,trivial⟩ (λ_=>rfl) ?_ (λvs w1 hfact=>?_)
 ·refine Qj O (λlst vs hl he=>D0 (O7 [.slice none 0 0,.int .i64 0] ZE O)) (λ_ _ _=>rfl)<|Qj O (λlst vs hl he=>D0 (I8 0 O)) (λ_ _ _=>rfl)<|Qj O (λlst vs hl he=>D0 (K1 0 O)) (λ_ _ _=>rfl)<|Qj O (λlst vs hl he=>D0 (I8 1 O)) (λ_ _ _=>rfl)<|Qj O (λlst vs hl he=>D0 (K1 0 O)) (λ_ _ _=>rfl)<|Xp O O (λlst vs hl he=>Jq (Sz (i:=3) (by kernel_rfl) O O O O O) O)<|Xp O O (λlst vs hl he=>Jq (NT (i:=2) (by kernel_rfl) O O O O O) O)<|Xp O O (λlst vs hl he=>Jq (NT (i:=1) (by kernel_rfl) O O O O O) O) ?_;exact tK
 ·rotate_left;exact Wq (.inl rfl) O O λw9 ho9=>⟨rfl,rfl,_,_,ho9.sublist (.cons _ (Q5 _))⟩
theorem sV(H0:List C2)(g2 g3 g4:Nat)(w:B6)(ho:B7 (J1 w H0) H0 w):
  CallsDIn (fe none) 0 prog 22 #[.pointer (some ⟨g2,0,none⟩),.pointer (some ⟨g3,0,none⟩),.pointer (some ⟨g4,0,none⟩)] .returning w λe u' w'=>e=.returned (.tuple #[])/\u'=.returning/\O0 w (λk=>k∈F1 H0) H0 w':=by
 refine callsDIn_of_wpSIn func22 rfl trivial λc₀ cs hu=>?_;have hf:=Xq (n:=15) (args:=[.pointer (some ⟨g2,0,none⟩),.pointer (some ⟨g3,0,none⟩),.pointer (some ⟨g4,0,none⟩)]) (by simp);have hrec:recoverD (c₀::cs)=none:=by
  simp only[recoverD,hu]
 refine wpSIn_seq (wpSIn_region ?_);have hns:(Tryz.f22).ntmps=15:=rfl;rw[hns];have hdf0:∀t:Array Value,({tmps:=t,defers:=[]}:Act).defers=[]:=λ_=>rfl;have hdfa:=hdf0 (#[Value.pointer (some ⟨g2,0,none⟩),.pointer (some ⟨g3,0,none⟩),.pointer (some ⟨g4,0,none⟩)]++Array.replicate (15-(#[Value.pointer (some ⟨g2,0,none⟩),.pointer (some ⟨g3,0,none⟩),.pointer (some ⟨g4,0,none⟩)]:J2).size) undef);generalize ({tmps:= #[Value.pointer (some ⟨g2,0,none⟩),.pointer (some ⟨g3,0,none⟩),.pointer (some ⟨g4,0,none⟩)]++Array.replicate (15-_) undef,defers:=[]}:Act)=a at*;show wpOpsSIn _ _ _ _ _ [0,1] _ _ _;have f1:=hf.put (d:=some 5) (v:=.nilIface) rfl;refine zT (w':=w) rfl rfl (λ_=>trivial) rfl hrec ?_;refine iR (v:=.nilIface) rfl (λ_=>trivial) f1 rfl ?_;have f2:=f1.put (d:=some 3) (v:=.nilIface) rfl;have hcs:(c₀::cs:List Frame)={c₀ with mode:=.returning}::cs:=by rw[<-hu]
 rw[hcs];refine wpSIn_of_wpIn rfl (WW f2 (C:=J1 w H0) (H:=H0) ?_ ho ?_)
 ·exact hdfa
 refine B4 O<|B9 (xX (by kernel_rfl) O) O<|A6<|M8 O<|P5 ?_;rotate_left;exact Wq (.inl rfl) O O λw9 ho9=>⟨rfl,rfl,_,_,ho9⟩
end
end Go.Proofs.YtjkhokkdgfbhcaaGreatDoor
namespace Go.Proofs.YtjkhokkdgfbhcaaGreatDoor
inductive Ex where
 |no
 |nd (k i:Int) (s:List UInt8) (a b:Ex)
inductive Bl where
 |no
 |st (k i:Int) (s t:List UInt8) (a b:Ex) (B C r:Bl)
def Ex.size:Ex->Nat
 |.no=>0
 |.nd _ _ _ a b=>a.size+b.size+1
def Ex.ix(n:Nat):Ex->Int
 |.no=> -1
 |.nd _ _ _ a b=>((n+a.size+b.size:Nat):Int)
def Bl.size:Bl->Nat
 |.no=>0
 |.st _ _ _ _ a b B C r=>a.size+b.size+B.size+C.size+1+r.size
def Bl.ix(n:Nat):Bl->Int
 |.no=> -1
 |.st _ _ _ _ a b B C _=>((n+a.size+b.size+B.size+C.size:Nat):Int)
def K5(n1 n2:Nat)(B:Bl):Ex->Int
 |.no=>B.ix n2
 |b=>b.ix n1
def Q0:Ex->Nat->List F2
 |.no,_=>[]
 |.nd k i s a b,n=>Q0 a n++(Q0 b (n+a.size)++[⟨k,a.ix n,b.ix (n+a.size),-1,-1,i,s,[]⟩])
def N0:Bl->Nat->List F2
 |.no,_=>[]
 |.st k i s t a b B C r,n=>Q0 a n++(Q0 b (n+a.size)++(N0 B (n+a.size+b.size)++(N0 C (n+a.size+b.size+B.size)++
   ([⟨k,a.ix n,K5 (n+a.size) (n+a.size+b.size) B b,C.ix (n+a.size+b.size+B.size),r.ix (n+a.size+b.size+B.size+C.size+1),i,s,t⟩]++N0 r (n+a.size+b.size+B.size+C.size+1)))))
theorem S6:∀(e:Ex) (n:Nat),(Q0 e n).length=e.size
 |.no,_=>rfl
 |.nd k i s a b,n=>by
  have h1:=S6 a n;have h2:=S6 b (n+a.size);simp only[Q0,J8,T3,Y4,Ex.size,h1,h2];omega
theorem j3:∀(e:Bl) (n:Nat),(N0 e n).length=e.size
 |.no,_=>rfl
 |.st k i s t a b B C r,n=>by
  have h1:=S6 a n;have h2:=S6 b (n+a.size);have h3:=j3 B (n+a.size+b.size);have h4:=j3 C (n+a.size+b.size+B.size);have h5:=j3 r (n+a.size+b.size+B.size+C.size+1);simp only[N0,J8,T3,Y4,Bl.size,h1,h2,h3,h4,h5];omega
def AA(ns:List F2)(n:Nat)(e:Ex):Prop:=∃pre post,ns=pre++(Q0 e n++post)/\pre.length=n
def f4(ns:List F2)(n:Nat)(e:Bl):Prop:=∃pre post,ns=pre++(N0 e n++post)/\pre.length=n
theorem AA.of{ns:List F2}{n m:Nat}{e:Ex}{A B pre post:List F2}(h:ns=pre++(A++post))(hA:∃q,A=B++(Q0 e m++q))(hl:pre.length=n)(hm:m=n+B.length):AA ns m e:=by
 obtain⟨q,rfl⟩:=hA;exact⟨pre++B,q++post,by rw[h];simp only[Q2],by rw[J8];omega⟩
theorem f4.of{ns:List F2}{n m:Nat}{e:Bl}{A B pre post:List F2}(h:ns=pre++(A++post))(hA:∃q,A=B++(N0 e m++q))(hl:pre.length=n)(hm:m=n+B.length):f4 ns m e:=by
 obtain⟨q,rfl⟩:=hA;exact⟨pre++B,q++post,by rw[h];simp only[Q2],by rw[J8];omega⟩
theorem jV{ns:List F2}{n m:Nat}{x:F2}{A B pre post:List F2}(h:ns=pre++(A++post))(hA:∃q,A=B++(x::q))(hl:pre.length=n)(hm:m=n+B.length):ns[m]?=some x:=by
 obtain⟨q,rfl⟩:=hA;rw[h,show pre++(B++x::q++post)=(pre++B)++(x::(q++post)) by simp only[Q2,GP],j4 (by rw[J8];omega),J8,show m-(pre.length+B.length)=0 by omega];rfl
theorem AA.left{ns:List F2}{n:Nat}{k i:Int}{s:C9}{ea eb:Ex}(h:AA ns n (.nd k i s ea eb)):AA ns n ea:=by
 obtain⟨pre,post,h,hl⟩:=h;exact AA.of h ⟨_,(DM _).symm⟩ hl rfl
theorem AA.right{ns:List F2}{n:Nat}{k i:Int}{s:C9}{ea eb:Ex}(h:AA ns n (.nd k i s ea eb)):AA ns (n+ea.size) eb:=by
 obtain⟨pre,post,h,hl⟩:=h;exact AA.of h ⟨_,rfl⟩ hl (by rw[S6])
theorem AA.root{ns:List F2}{n:Nat}{k i:Int}{s:C9}{ea eb:Ex}(h:AA ns n (.nd k i s ea eb)):ns[n+ea.size+eb.size]?=some ⟨k,ea.ix n,eb.ix (n+ea.size),-1,-1,i,s,[]⟩:=by
 obtain⟨pre,post,h,hl⟩:=h;exact jV (B:=Q0 ea n++Q0 eb (n+ea.size)) h ⟨[],by simp only[Q0,Q2]⟩ hl (by rw[J8,S6,S6];omega)
theorem AA.le{ns:List F2}{n:Nat}{e:Ex}(h:AA ns n e):n+e.size<=ns.length:=by
 obtain⟨pre,post,h,hl⟩:=h;rw[h,J8,J8,S6];omega
section
variable{ns:List F2}{n:Nat}{k i:Int}{s t:List UInt8}{ea eb:Ex}{bB bC br:Bl}
theorem f4.sa(h:f4 ns n (.st k i s t ea eb bB bC br)):AA ns n ea:=by
 obtain⟨pre,post,h,hl⟩:=h;exact AA.of h ⟨_,(DM _).symm⟩ hl rfl
theorem f4.sb(h:f4 ns n (.st k i s t ea eb bB bC br)):AA ns (n+ea.size) eb:=by
 obtain⟨pre,post,h,hl⟩:=h;exact AA.of h ⟨_,rfl⟩ hl (by rw[S6])
theorem f4.sB(h:f4 ns n (.st k i s t ea eb bB bC br)):f4 ns (n+ea.size+eb.size) bB:=by
 obtain⟨pre,post,h,hl⟩:=h;exact f4.of (B:=Q0 ea n++Q0 eb (n+ea.size)) h ⟨_,by simp only[N0,Q2];rfl⟩ hl (by rw[J8,S6,S6];omega)
theorem f4.sC(h:f4 ns n (.st k i s t ea eb bB bC br)):f4 ns (n+ea.size+eb.size+bB.size) bC:=by
 obtain⟨pre,post,h,hl⟩:=h;exact f4.of (B:=Q0 ea n++(Q0 eb (n+ea.size)++N0 bB (n+ea.size+eb.size))) h ⟨_,by simp only[N0,Q2];rfl⟩ hl (by simp only[J8,S6,j3];omega)
theorem f4.sr(h:f4 ns n (.st k i s t ea eb bB bC br)):f4 ns (n+ea.size+eb.size+bB.size+bC.size+1) br:=by
 obtain⟨pre,post,h,hl⟩:=h;exact f4.of (B:=Q0 ea n++(Q0 eb (n+ea.size)++(N0 bB (n+ea.size+eb.size)++(N0 bC (n+ea.size+eb.size+bB.size)++[_])))) h ⟨[],by simp only[N0,Q2,k5];rfl⟩ hl (by simp only[J8,S6,j3,T3,Y4];omega)
theorem f4.root(h:f4 ns n (.st k i s t ea eb bB bC br)):ns[n+ea.size+eb.size+bB.size+bC.size]?=some ⟨k,ea.ix n,K5 (n+ea.size) (n+ea.size+eb.size) bB eb,bC.ix (n+ea.size+eb.size+bB.size),br.ix (n+ea.size+eb.size+bB.size+bC.size+1),i,s,t⟩:=by
 obtain⟨pre,post,h,hl⟩:=h;exact jV (B:=Q0 ea n++(Q0 eb (n+ea.size)++(N0 bB (n+ea.size+eb.size)++N0 bC (n+ea.size+eb.size+bB.size)))) h ⟨_,by simp only[N0,Q2];rfl⟩ hl (by simp only[J8,S6,j3];omega)
theorem f4.le{e:Bl}(h:f4 ns n e):n+e.size<=ns.length:=by
 obtain⟨pre,post,h,hl⟩:=h;rw[h,J8,J8,j3];omega
end
def Mo(b:UInt8):Bool:=k7 (b.toNat:Int)
def Gv(s:List UInt8):Prop:=Ar (J6 s 0)=true/\s≠[]/\(∀b∈s,Mo b=true)/\s.length<=16/\BS s=false
def OM(s:List UInt8):Prop:=s.length<=64/\∀b∈s,b=10\/(32<=b/\b<=126)
def r0(s:List UInt8):Option Nat:=if s∈HR then some 0 else if s∈Hv then some 1 else if s∈Fu then some 2 else if s∈Hq then some 3 else if s∈HS then some 4 else if s∈HP then some 5 else none
def HF(i:Int):Prop:=0<=i/\i<=9223372036854775807
inductive WE:Ex->Prop
 |nil:WE (.nd 0 0 [] .no .no)
 |bool (b:Bool):WE (.nd 1 (if b then 1 else 0) [] .no .no)
 |int (i:Int) (h:HF i):WE (.nd 2 i [] .no .no)
 |text (s:List UInt8) (h:OM s):WE (.nd 3 0 s .no .no)
 |name (s:List UInt8) (h:Gv s):WE (.nd 4 0 s .no .no)
 |call (k:Int) (h:5<=k/\k<=8) (a:Ex) (ha:WE a):WE (.nd k 0 [] a .no)
 |pre (k:Int) (h:k=9\/k=10) (a:Ex) (ha:WE a):WE (.nd k 0 [] a .no)
 |two (s:List UInt8) (c:Nat) (h:r0 s=some c) (a b:Ex) (ha:WE a) (hb:WE b):WE (.nd 11 0 s a b)
inductive WB:Bl->Prop
 |no:WB .no
 |names (k:Int) (h:k=20\/k=21) (s:List UInt8) (hs:Gv s) (a:Ex) (ha:WE a) (r:Bl) (hr:WB r):WB (.st k 0 s [] a .no .no .no r)
 |put (a b:Ex) (ha:WE a) (hb:WE b) (r:Bl) (hr:WB r):WB (.st 22 0 [] [] a b .no .no r)
 |one (k:Int) (h:k=23\/k=27\/k=28) (a:Ex) (ha:WE a) (r:Bl) (hr:WB r):WB (.st k 0 [] [] a .no .no .no r)
 |iff (a:Ex) (ha:WE a) (B:Bl) (hB:WB B) (r:Bl) (hr:WB r):WB (.st 24 0 [] [] a .no B .no r)
 |Hk (a:Ex) (ha:WE a) (B C:Bl) (hB:WB B) (hC:WB C) (r:Bl) (hr:WB r):WB (.st 24 1 [] [] a .no B C r)
 |each (s t:List UInt8) (hs:Gv s) (ht:Gv t) (a:Ex) (ha:WE a) (i:Int) (hi:0<=i/\i<=64) (B:Bl) (hB:WB B) (r:Bl) (hr:WB r):WB (.st 25 i s t a .no B .no r)
 |rep (i:Int) (hi:0<=i/\i<=64) (B:Bl) (hB:WB B) (r:Bl) (hr:WB r):WB (.st 26 i [] [] .no .no B .no r)
theorem WE.ne{e:Ex}(h:WE e):∃k i s a b,e=.nd k i s a b:=by cases h<;>exact⟨_,_,_,_,_,rfl⟩
abbrev BJ:Type:=Int×List UInt8×Int
def S9(t:G8):BJ:=(t.kind,t.s,t.num)
def L5(s:List UInt8):BJ:=(if BS s then 5 else 4,s,0)
def P6:Ex->Nat
 |.nd k _ s _ _=>if k=11 then(r0 s).getD 0 else 6
 |.no=>6
def Az(c:Nat):Nat:=if c=2 then 3 else c
def EQ(c least:Nat)(l:List BJ):List BJ:=if least<=c then l else L5 Z2::(l++[L5 Y1])
def Gt(c least d:Nat):Nat:=if least<=c then d else d+1
def EV(k:Int):List UInt8:=if k=5 then[103,101,116] else if k=6 then[104,97,115] else if k=7 then[108,101,110] else[115,104,111,119]
def N9:Ex->List BJ
 |.no=>[]
 |.nd k i s a b=>
  if k=0 then[L5 EJ] else if k=1 then[L5 (if i=1 then Ep else EG)] else if k=2 then[(2,[],i)] else if k=3 then[(3,s,0)] else if k=4 then[(1,s,0)]
  else if k=9 then L5 Dw::EQ (P6 a) 6 (N9 a) else if k=10 then L5 KO::EQ (P6 a) 6 (N9 a)
  else if k=11 then EQ (P6 a) (Az ((r0 s).getD 0)) (N9 a)++(L5 s::EQ (P6 b) ((r0 s).getD 0+1) (N9 b))
  else L5 (EV k)::L5 Z2::(N9 a++[L5 Y1])
def V8:Ex->Nat
 |.no=>0
 |.nd k i s a b=>if k=9\/k=10 then Gt (P6 a) 6 (V8 a)+1 else if k=11 then max (Gt (P6 a) (Az ((r0 s).getD 0)) (V8 a)) (Gt (P6 b) ((r0 s).getD 0+1) (V8 b)) else if 5<=k then V8 a+1 else 0
def U4(l:Nat)(e:Ex):List BJ:=EQ (P6 e) l (N9 e)
def l3(l:Nat)(e:Ex):Nat:=Gt (P6 e) l (V8 e)
def CD(k:Int):List UInt8:=if k=20 then Ay else if k=21 then AL else if k=22 then BF else if k=23 then Bv else if k=27 then CO else DH
def x5(l:List BJ):List BJ:=L5 JX::(l++[L5 LL])
def N8:Bl->List BJ
 |.no=>[]
 |.st k i s t a b B C r=>
  (if k=24 then L5 w8::(N9 a++(x5 (N8 B)++(if i=1 then L5 Ba::x5 (N8 C) else[])))
   else if k=25 then L5 BR::(1,s,0)::L5 d5::(1,t,0)::L5 CI::L5 Bw::L5 Z2::(N9 a++(L5 d5::(2,[],i)::L5 Y1::x5 (N8 B)))
   else if k=26 then L5 DC::(2,[],i)::x5 (N8 B)
   else L5 (CD k)::((if k=20\/k=21 then[(1,s,0),L5 Aq] else[])++(N9 a++((if k=22 then L5 d5::N9 b else[])++[L5 W8]))))++N8 r
def Y9:Bl->Nat
 |.no=>0
 |.st k _ _ _ a b B C r=>max (max (max (V8 a) (V8 b)) (if k=24\/k=25\/k=26 then max (Y9 B) (Y9 C)+1 else 0)) (Y9 r)
def AR(L:List G8)(i:Nat)(ts:List BJ):Prop:=∀j k,ts[j]?=some k->S9 (tk L (i+j))=k/\i+j+1<L.length
theorem AR.nil{L:List G8}{i:Nat}:AR L i []:=λj k h=>by simp at h
theorem AR.head{L:List G8}{i:Nat}{k:BJ}{ts:List BJ}(h:AR L i (k::ts)):S9 (tk L i)=k/\i+1<L.length:=h 0 k rfl
theorem AR.tail{L:List G8}{i:Nat}{k:BJ}{ts:List BJ}(h:AR L i (k::ts)):AR L (i+1) ts:=λj x hx=>by
 have:=h (j+1) x (by simpa using hx);rwa[show i+(j+1)=i+1+j by omega] at this
theorem AR.left{L:List G8}{i:Nat}{a b:List BJ}(h:AR L i (a++b)):AR L i a:=λj x hx=>h j x (by
 rw[Fe (N5.1 hx).1];exact hx)
theorem AR.right{L:List G8}{i:Nat}{a b:List BJ}(h:AR L i (a++b)):AR L (i+a.length) b:=λj x hx=>by
 have:=h (a.length+j) x (by rw[j4 (by omega)];simpa using hx);rwa[<-EZ] at this
theorem Jg{s:C9}{t:G8}(h:S9 t=L5 s):V5 s t=true:=by
 simp only[S9,L5,Cl] at h;simp[V5,h.1,h.2.1]
theorem JW{s u:C9}{t:G8}(h:S9 t=L5 u)(hn:u≠s):V5 s t=false:=by
 simp only[S9,L5,Cl] at h;simp[V5,h.2.1,hn]
end Go.Proofs.YtjkhokkdgfbhcaaGreatDoor
namespace Go.Proofs.YtjkhokkdgfbhcaaGreatDoor
def FI(t:G8):Prop:=(t.kind=1/\Gv t.s/\t.num=0)\/(t.kind=2/\t.s=[]/\HF t.num)\/(t.kind=3/\OM t.s/\t.num=0)\/(t.kind=4/\BS t.s=false/\t.num=0)\/(t.kind=5/\BS t.s=true/\t.num=0)
theorem FI.ne{t:G8}(h:FI t):t.kind≠0:=by
 rcases h with h|h|h|h|h<;>omega
theorem Sk(s:C9)(m:Nat):J6 (s.drop m) 0=J6 s m:=by simp[J6,W6]
theorem ay1{p:Int->Bool}{l:C9}(h:l≠[])(hp:p (J6 l 0)=true):P3 p l≠[]/\J6 (P3 p l) 0=J6 l 0:=by
 cases l with
 |nil=>exact absurd rfl h
 |cons b r=>
  have:P3 p (b::r)=b::P3 p r:=by
   unfold P3;rw[JD];exact if_pos hp
  rw[this];exact⟨by simp,rfl⟩
theorem aK:∀(T:C9) (v n:Int),0<=v->(∀b∈T,48<=(b.toNat:Int))->Ey v T=some n->HF n
 |[],v,n,h0,_,h=>by
  rw[Ey] at h;split at h
  ·cases h
  ·cases h;exact⟨h0,by omega⟩
 |b::l,v,n,h0,hd,h=>by
  rw[Ey] at h;split at h
  ·cases h
  ·exact aK l _ n (by have:=hd b (j8 ..);omega) (λx hx=>hd x (Cj _ hx)) h
theorem al5{c:UInt8}(h:Ch c≠0):Ch c=10\/(32<=Ch c/\Ch c<=126):=by
 unfold Ch at h⊢;split
 ·rename_i h1;rcases h1 with rfl|rfl<;>decide
 ·split
  ·exact .inl rfl
  ·rename_i h1 h2;rw[if_neg h1,if_neg h2] at h;exact absurd rfl h
theorem Xf:∀(f:Nat) (r acc:C9) (k:Nat),r.length<=f->(∀b∈acc,b=10\/(32<=b/\b<=126))->(Ak r acc k).2.1=0->FI (Ak r acc k).1
 |_,[],acc,k,_,_,h=>by rw[Ak.eq_def] at h;simp at h
 |0,b::r,acc,k,hl,_,_=>by simp at hl
 |f+1,b::r,acc,k,hl,ha,h=>by
  rw[LQ] at h⊢;split at h
  ·rename_i h1;rw[if_pos h1];split at h
   ·simp at h
   ·rename_i h2;rw[if_neg h2];exact .inr (.inr (.inl ⟨rfl,⟨by simpa using h2,ha⟩,rfl⟩))
  ·rename_i h1;rw[if_neg h1];split at h
   ·simp at h
   ·rename_i h2;rw[if_neg h2];split at h
    ·rename_i h3;rw[if_pos h3];refine Xf f r _ _ (by simpa using hl) (λx hx=>?_) h;rcases q0.1 hx with hx|hx
     ·exact ha x hx
     ·rw[Bt] at hx;subst hx;right;constructor
      ·exact Nat.le_of_not_lt λh=>h2 (.inl h)
      ·exact Nat.le_of_not_lt λh=>h2 (.inr h)
    ·rename_i h3;rw[if_neg h3];cases r with
     |nil=>simp at h
     |cons c r2=>
      dsimp only at h⊢;split at h
      ·simp at h
      ·rename_i h4;rw[if_neg h4];refine Xf f r2 _ _ (by simp at hl;omega) (λx hx=>?_) h;rcases q0.1 hx with hx|hx
       ·exact ha x hx
       ·rw[Bt] at hx;subst hx;exact al5 h4
theorem bW:∀s∈AF++Ac.map (λb=>[b]),BS s=false:=by decide
theorem zL{r:C9}(hr:r≠[])(h:(BU r).2.1=0):FI (BU r).1:=by
 unfold BU at h⊢;split at h
 ·rename_i p hp;exact .inr (.inr (.inr (.inl ⟨rfl,bW p (Lz _ (List.mem_of_find?_eq_some hp)),rfl⟩)))
 ·split at h
  ·rename_i h1;rw[if_pos h1];refine .inr (.inr (.inr (.inl ⟨rfl,bW _ (Iz _ ?_),rfl⟩)));cases r with
   |nil=>exact absurd rfl hr
   |cons b r=>exact FC.2 ⟨b,by simpa using h1,rfl⟩
  ·simp at h
theorem as8{s:C9}{m:Nat}(h:m<s.length)(he:(Au s m).2.1=0):FI (Au s m).1:=by
 have hne:s.drop m≠[]:=λe=>by
  have:=congrArg List.length e;simp at this;omega
 unfold Au at he⊢;split at he
 ·rename_i hl;rw[if_pos hl];dsimp only at he⊢;have hh:=ay1 (p:=k7) hne (by rw[Sk];simp[k7,hl]);unfold FA at he⊢;split at he
  ·rename_i hw;rw[if_pos hw];exact .inr (.inr (.inr (.inr ⟨rfl,hw,rfl⟩)))
  ·rename_i hw;rw[if_neg hw];split at he
   ·simp at he
   ·rename_i h16;rw[if_neg h16];exact .inl ⟨rfl,⟨by rw[hh.2,Sk];exact hl,hh.1,λb hb=>Sv k7 _ b hb,by simpa using h16,by simpa using hw⟩,rfl⟩
 ·rename_i hl;rw[if_neg hl];split at he
  ·rename_i hd;rw[if_pos hd];dsimp only at he⊢;unfold NQ at he⊢;split at he
   ·simp at he
   ·rename_i hb;rw[if_neg hb];unfold KL at he⊢;split at he
    ·simp at he
    ·rename_i v hv;refine .inr (.inl ⟨rfl,rfl,aK _ 0 v (Int.le_refl _) (λb hb=>?_) hv⟩);have:=Sv Z1 _ b hb;simp only[Z1,j1,decide_eq_true_eq] at this;exact this.1
  ·rename_i hd;rw[if_neg hd];split at he
   ·rename_i hq;rw[if_pos hq];exact Xf _ _ _ _ (L6 _) (by simp) he
   ·rename_i hq;rw[if_neg hq];exact zL hne he
theorem FI.Na{t:G8}(h:FI t)(m:Nat):FI (Na t m):=h
theorem uV{s:C9}{n:Nat}(hn:n<=s.length)(h1:(m7 s n).2.2.1=true)(h2:(m7 s n).2.1=0):FI (m7 s n).1:=by
 have hle:=LV false (s.drop n);rw[EB] at hle;unfold m7 at h1 h2⊢;dsimp only at h1 h2⊢;split at h2
 ·rename_i h;rw[if_pos h] at h1;cases h1
 ·rename_i h;rw[if_neg h];exact(as8 (by omega) h2).Na _
def MP(len:Nat)(L:List G8):Prop:=∃A,L=A++[⟨0,len,[],0⟩]/\(∀t∈A,FI t)/\A.length<=1024
theorem ZJ{s:C9}:∀(f n:Nat) (acc L:List G8),n<=s.length->(∀t∈acc,FI t)->acc.length<=1024->Fw s f n acc=some L->MP s.length L
 |0,_,_,_,_,_,_,h=>by cases h
 |f+1,n,acc,L,hn,ha,hl,h=>by
  rw[Fw] at h;have hend:=Yi hn;split at h
  ·cases h;exact⟨acc,rfl,ha,hl⟩
  ·rename_i h1;split at h
   ·cases h
   ·rename_i h2;split at h
    ·cases h
    ·rename_i h3;have h2':(m7 s n).2.1=0:=Classical.byContradiction λx=>h2 x;have h1':(m7 s n).2.2.1=true:=by simpa using h1
     refine ZJ f _ _ L hend.1 (λt ht=>?_) (by simp;omega) h;rcases q0.1 ht with ht|ht
     ·exact ha t ht
     ·rw[Bt] at ht;subst ht;exact uV hn h1' h2'
theorem WH{s:C9}{L:List G8}(h:Aq0 s=some L):MP s.length L:=by
 unfold Aq0 at h;split at h
 ·cases h
 ·exact ZJ _ _ _ _ (R5 _) (by simp) (by simp) h
theorem MP.ok{n:Nat}{L:List G8}(h:MP n L):Aa L:=by
 obtain⟨A,rfl,ha,hl⟩:=h;refine⟨by simp,by simp;omega,λj hj=>?_⟩;simp only[J8,T3,Y4] at hj⊢;rw[W6];rcases w7 j A.length with h1|h1
 ·rw[Fe h1,T8 h1];have:=(ha _ (Fd h1)).ne;simp only[Nh];constructor
  ·intro h;exact absurd h this
  ·intro h;omega
 ·obtain rfl:j=A.length:=by omega
  simp
theorem MP.wf{n:Nat}{L:List G8}(h:MP n L){i:Nat}(hk:(tk L i).kind≠0)(hi:i<L.length):FI (tk L i):=by
 obtain⟨A,rfl,ha,hl⟩:=h;simp only[J8,T3,Y4] at hi;unfold tk at hk⊢;rw[W6] at hk⊢;rcases w7 i A.length with h1|h1
 ·rw[Fe h1,T8 h1];exact ha _ (Fd h1)
 ·obtain rfl:i=A.length:=by omega
  simp at hk
end Go.Proofs.YtjkhokkdgfbhcaaGreatDoor
namespace Go.Proofs.YtjkhokkdgfbhcaaGreatDoor
open Go.RowKit Tryz
section
attribute [local irreducible] F8 D3 Exit.then Exit.inBlock Exit.noGoto wpQuiet Calls fin At G9 L3 L7 RQ
theorem zW(L:List G8)(hL:Aa L)(g:Nat)(lv:Value)(i:Nat)(nv:Value)(ns:List F2)(w:B6)(hi:i<L.length)(hn:ns.length<=512)(hk:(tk L i).kind=0)(ho:B7 (J1 w (T5 g lv L i nv ns)) (T5 g lv L i nv ns) w):
  Calls prog 24 #[.pointer (some ⟨g,0,none⟩),.int .i64 0] w λe w'=>∃nv',e=.returned (By (tk L i))/\O0 w (λk=>k∈F1 (T5 g lv L i nv ns)) (T5 g lv L (i+1) nv' ns) w':=by
 refine G7 ho func24 O ntmps24 O ?_;have cT:=If L;have hl2:=hL.DW;exact A3<|E3 W9 O λgz0=>I9 O<|V4 0 0 1 (i:=i) (x:=(tk L i)) (i':=i) (ns':=ns) cT hi hn O O (A7 O) O O O λv7 hi7 hn7=>E3 W9 O λgz1=>E8 0 ((K9 (tk L i)).toArray) O<|A6<|B5<|B2 0 O<|A4 O<|J3 O<|A6<|E0 O (by omega)<|D6<|B4 O<|E5 O<|B2 2 O<|N6 O (by omega)<|E5 O<|D9 O<|N4 2 O<|I0<|G6 0 O O<|E8 1 ((K9 (tk L i)).toArray) O<|A6<|D4<|EK (i:=1) (k:=4) O O O O (by kernel_rfl) O λw9 ho9=>⟨v7,rfl,_,_,ho9.sublist (.cons _ (.cons _ (Q5 _)))⟩
theorem vH(L:List G8)(hL:Aa L)(g:Nat)(lv:Value)(i:Nat)(nv:Value)(ns:List F2)(w:B6)(hi:i<L.length)(hn:ns.length<=512)(hk:¬(tk L i).kind=0)(ho:B7 (J1 w (Z0 g++T5 g lv L i nv ns)) (Z0 g++T5 g lv L i nv ns) w):
  Calls prog 24 #[.pointer (some ⟨g,0,none⟩),.int .i64 0] w (LJ g lv L i ns.length w (λk=>k∈F1 (Z0 g++T5 g lv L i nv ns)) (Z0 g) Qt none):=by
 refine G7 ho func24 O ntmps24 O ?_;have cT:=If L;exact A3<|E3 W9 O λgz0=>I9 O<|V4 0 0 1 (i:=i) (x:=(tk L i)) (i':=i) (ns':=ns) cT hi hn O O (A7 O) O O O λv7 hi7 hn7=>E3 W9 O λgz1=>E8 0 ((K9 (tk L i)).toArray) O<|A6<|B5<|B2 0 O<|A4 O<|J3 O<|A6<|E7 O (by omega)<|C5<|A4 O<|Ft 0 0 2 (i:=i) (KU L 3 (by decide)) hi hn O O (A7 O) O O O λc0 p0 hc0=>I7<|M6 O λw9 ho9=>M7 rfl hc0 ⟨_,_,ho9⟩
def MO(L:List G8):Option (Int×List F2):=match CX L 16 0 [] with
 |some (first,i,ns)=>if(tk L i).kind=0 then some (first,ns) else none
 |none=>none
theorem IB{n:Nat}{E:X0}{C:I3}{H:List C2}{K:Act->B6->Prop}{i e sz m:Nat}{v:Value}{xs:H2}(hi:H[i]?=some (.row v e sz m xs))(k:v.oneCell'=true->At n E C H K):At n E C H K:=
 WP hi λh=>k (by rcases h.2 with⟨rfl,_⟩|⟨_,_,rfl⟩<;>rfl)
theorem Kz{a b:Value}(h1:a.oneCell'=true)(h2:b.oneCell'=true):((#[a,b]:J2).toList.all (·.oneCell'))=true:=by simp[h1,h2]
theorem yN{α:Type}(x y:α)(A B:List α):(A++(y::x::B)).Perm (x::y::(A++B)):=
 Nr.trans ((Nr.cons y).trans (List.Perm.swap x y _))
section
variable{P:Program}{n:Nat}{E:List (Nat×Value)}{C:I3}{H:List C2}
theorem dA{fn:Func}{tmps:J2}{w:B6}{s1 s2 s3 t1 t2 t3 h1 h2 h3 k:Nat}{tb1 tb2 tb3:TypeId}{cs:J2}{v2 v3:Value}(hr:fn.results= #[.cell s1 t1,.cell s2 t2,.cell s3 t3])
  (e1:tmps[s1]?=some (.pointer (some ⟨h1,0,none⟩)))(e2:tmps[s2]?=some (.pointer (some ⟨h2,0,none⟩)))(e3:tmps[s3]?=some (.pointer (some ⟨h3,0,none⟩)))
  (hT1:CU P t1=some k)(hT2:Db P t2=true)(hT3:Db P t3=true)(hb1:w.heap[h1]?=some (.cells cs tb1))(hb2:w.heap[h2]?=some (.cells #[v2] tb2))(hb3:w.heap[h3]?=some (.cells #[v3] tb3))(hk:cs.size=k):
  (results fn tmps).run P w=.ok (.tuple #[.agg cs,v2,v3]) w:=by
 have r1:=PJ (P:=P) (t:=t1) hT1 hb1 hk;have r2:=aI (P:=P) (t:=t2) hT2 hb2 (v:=v2) rfl;have r3:=aI (P:=P) (t:=t3) hT3 hb3 (v:=v3) rfl;have q1:tmps.getD s1 undef=.pointer (some ⟨h1,0,none⟩):=by rw[m6,e1];rfl
 have q2:tmps.getD s2 undef=.pointer (some ⟨h2,0,none⟩):=by rw[m6,e2];rfl
 have q3:tmps.getD s3 undef=.pointer (some ⟨h3,0,none⟩):=by rw[m6,e3];rfl
 unfold results;rw[hr];simp only[Ph,Pg,Re,q1,q2,q3,asAddr,Sem.run_bind,Sem.run_pure,Result.andThen,map_eq_pure_bind,r1,r2,r3];rfl
end
theorem ad3:Ae prog 89=some ([.slice none 0 0,.int .i64 0,.slice none 0 0,.int .i64 0],[(0,1),(1,1),(2,2)]):=by kernel_rfl
def Ry(L:List G8)(first:Int)(ns:List F2):Prop:=∃i,CX L 16 0 []=some (first,i,ns)/\i<L.length/\ns.length<=512
def Xl(L:List G8)(w:World)(B:Nat->Prop)(X:Option (Int×List F2))(e:Ending)(w':World):Prop:=∃v f c p,e=.returned (.tuple #[.agg #[v,.int .i64 f],.int .i64 c,.int .i64 p])/\
 match X with
 |some (first,ns)=>c=0/\f=first/\O0 w B [.row v ND 8 ns.length (L2 ns)] w'/\Ry L first ns
 |none=>c≠0/\v=.slice none 0 0/\f=0/\O0 w B [] w'
theorem yQ{w:B6}{g tb:Nat}{a b v:Value}{x:Int}(h:w.heap[g]?=some (.cells #[a,b,v,.int .i64 x] tb)):∀j u,[v,.int .i64 x][j]?=some u->w.cell? ((⟨g,0+2,none⟩:Addr).add j)=some u:=by
 intro j u hu;have e2:(⟨g,0+2,none⟩:Addr).add j=⟨g,2+j,none⟩:=by unfold Addr.add;split<;>simp_all
 rw[e2,cell_of_row w g _ _ tb (0,0) h,<-hu]
 match j with
 |0=>rfl
 |1=>rfl
 |j+2=>simp at hu
def dG(g2 g3 g4:Nat):Array Value:= #[.pointer (some ⟨g2,0,none⟩),.pointer (some ⟨g3,0,none⟩),.pointer (some ⟨g4,0,none⟩)]
def Pv(g2 g3 g4:Nat):List (Nat×Value):=[(2,.pointer (some ⟨g2,0,none⟩)),(3,.pointer (some ⟨g3,0,none⟩)),(4,.pointer (some ⟨g4,0,none⟩))]
theorem bP(L:List G8)(H00:List C2)(w0:B6)(g2 g3 g4:Nat)(nv:Value)(f c1 p1 c0 p0:Int)(hc0:c0≠0):
  At 48 (Pv g2 g3 g4) ((J1 w0 H00).Le (Io 22 (dG g2 g3 g4))) (Fm g2 g3 g4 nv f c1 p1) (fin prog Tryz.f13 (Xl L w0 (λk=>k∈F1 H00) none) (.panic (Ii c0 p0))):=by
 refine VP (u:=.panicking (Ii c0 p0)) (.inr (.inr ⟨_,rfl,rfl⟩)) O (by kernel_rfl) λa w hf ho=>?_;refine(am5 g2 g3 g4 nv f c1 p1 c0 p0 w ho.Gl).mono ?_;rintro e' u' w' ⟨rfl,rfl,hin⟩;have hown:=ho.Qc hin;exact⟨_,rfl,rfl,_,dA rfl (hf.get 2 _ rfl) (hf.get 3 _ rfl) (hf.get 4 _ rfl) (by kernel_rfl) (by kernel_rfl) (by kernel_rfl) (hown.get (i:=2) rfl) (hown.get (i:=1) rfl) (hown.get (i:=0) rfl) rfl,_,_,_,_,rfl,hc0,rfl,rfl,_,_,hown.Wp.sublist (Ea _)⟩
theorem ak5(L:List G8)(H00:List C2)(w0:B6)(g2 g3 g4:Nat)(nv:Value)(f:Int)(ns:List F2)(hP:Ry L f ns):
  At 48 (Pv g2 g3 g4) ((J1 w0 H00).Le (Io 22 (dG g2 g3 g4))) (Fm g2 g3 g4 nv f 0 0++[.row nv ND 8 ns.length (L2 ns)]) (fin prog Tryz.f13 (Xl L w0 (λk=>k∈F1 H00) (some (f,ns))) .ret):=by
 refine VP (u:=.returning) (.inl ⟨rfl,rfl⟩) O (by kernel_rfl) λa w hf ho=>?_;refine(sV _ g2 g3 g4 w ho.Gl).mono ?_;rintro e' u' w' ⟨rfl,rfl,hin⟩;have hown:=ho.Qc hin;exact⟨_,rfl,rfl,_,dA rfl (hf.get 2 _ rfl) (hf.get 3 _ rfl) (hf.get 4 _ rfl) (by kernel_rfl) (by kernel_rfl) (by kernel_rfl) (hown.get (i:=2) rfl) (hown.get (i:=1) rfl) (hown.get (i:=0) rfl) rfl,_,_,_,_,rfl,rfl,rfl,⟨_,_,hown.Wp.sublist (Pd _ _)⟩,hP⟩
theorem gD(L:List G8)(hL:Aa L)(lv:Value)(w:B6)(ho:B7 (J1 w [.row lv TK 4 L.length (y5 L)]) [.row lv TK 4 L.length (y5 L)] w):
  Calls prog 13 #[lv] w (Xl L w (λk=>k∈F1 [.row lv TK 4 L.length (y5 L)]) (MO L)):=by
 have hl2:=hL.DW;have hl0:=hL.pos;refine G7 ho func13 O ntmps13 O<|R7 0 O ?_;rintro⟨_,⟨_,h0⟩|⟨gt,c,rfl⟩⟩
 ·omega
 refine A3<|E3 Nl O λgz0=>Jl O Tryz.zeroValue38 O λgz1=>Jl O Nm O λgz2=>A6<|B5<|A4 O<|d1 O<|A4 O<|A6<|C7 ?_;rotate_left;refine l9 (σ:=Nat) (λj=>j<=L.length) (λj=>[(0,.slice (some ⟨gt,0,none⟩) L.length c),(9,.slice (some ⟨gt,0,none⟩) L.length c),(10,.int .i64 L.length),(11,.int .i64 j),(2,.pointer (some ⟨gz0,0,none⟩)),(3,.pointer (some ⟨gz1,0,none⟩)),(4,.pointer (some ⟨gz2,0,none⟩))])
  (λ_=>Fm gz0 gz1 gz2 (.slice none 0 0) 0 0 0++[.row (.slice (some ⟨gt,0,none⟩) L.length c) TK 4 L.length (y5 L)]) (λj=>L.length-j)
  (λw ho=>⟨0,R5 _,⟨rfl,rfl,rfl,rfl,rfl,rfl,rfl,trivial⟩,ho⟩) ?_
 intro j hj;unfold Fm;by_cases hjl:j<L.length
 ·have hlast:(decide ((tk L j).kind=0)==decide ((j:Int)=(L.length:Int)-1))=true:=by
   have:=hL.last j hjl;unfold tk;simp only[beq_iff_eq,decide_eq_decide];omega
  refine A3<|H9 O<|A6<|C8<|E7 O (by omega)<|D6<|C8<|C7<|B4 O<|Q4 (j:=j) O hjl<|U6 (vs:=K9 (tk L j)) O (λw' ho=>lF ho (q:=3) rfl hjl)<|E3 W9 O λgz0=>E6 O<|E8 0 ((K9 (tk L j)).toArray) O<|I0<|B2 0 O<|H5 O<|A4 O<|A4 O<|d1 O<|B9 (DA O O (by omega)) O<|H5 O<|B9 (AS (by kernel_rfl) O O) O<|A6<|Y7 O (by(rw[hlast];rfl))<|P5<|F4<|E2<|C5<|N6 O (by omega)<|A4 O<|A6 ?_;rotate_left;exact W5 λw ho=>⟨j+1,by omega,by omega,⟨rfl,rfl,rfl,rfl,rfl,rfl,rfl,trivial⟩,rfl,ho.sublist (.cons _ (Q5 _))⟩
 obtain rfl:j=L.length:=by omega
 obtain⟨X,hX⟩:∃X,MO L=X:=⟨_,rfl⟩
 rw[hX];unfold MO at hX;refine A3<|H9 O<|A6<|C8<|E0 O (by omega)<|S4<|J0<|J0<|S5<|E2<|B5<|A4 O<|BA 3 O<|H5 O<|A6<|E0 O (by omega)<|D6<|A3<|B9 (Gx O) O<|aL (f:=22) (caps:=[.pointer (some ⟨gz0,0,none⟩),.pointer (some ⟨gz1,0,none⟩),.pointer (some ⟨gz2,0,none⟩)]) O<|I9 O<|B9 (O7 [.slice (some ⟨gt,0,none⟩) L.length c,.int .i64 0,.slice none 0 0,.int .i64 0] ad3 O) O<|F0 O λgz10=>A5 O<|B4 O ?_;rotate_left;refine BY ND 8<|x4 (C':=(J1 w [.row (.slice (some ⟨gt,0,none⟩) L.length c) TK 4 L.length (y5 L)]).Le (Io 22 #[.pointer (some ⟨gz0,0,none⟩),.pointer (some ⟨gz1,0,none⟩),.pointer (some ⟨gz2,0,none⟩)])) (H':=Fm gz0 gz1 gz2 (.slice none 0 0) 0 0 0++T5 gz10 (.slice (some ⟨gt,0,none⟩) L.length c) L 0 (.slice none 0 0) []) O (λw ho=>ho.perm (yN _ _ _ _)) ?_;have cB:=gT L hL 16 1 rfl;refine Vu 0 0 3 (i:=0) (args:=λg=> #[.pointer (some ⟨g,0,none⟩),.int .i64 ((1:Nat):Int)]) (Z:=Z0) (X:=CX L 16) (v:=AM) (λw ho=>cB gz10 _ 0 _ [] w hl0 (by simp) ho) O O (A7 O) O O (λc0 p0 hc0 hX0=>?_) (λx36 i36 n36 v36 hX36 hl36 hi36 hn36=>?_);refine I7 ?_;rotate_left;refine A5 O<|B4 O ?_;rotate_left
 ·refine Ai (E':=Pv gz0 gz1 gz2) ⟨rfl,rfl,rfl,trivial⟩ ?_;rw[hX0] at hX;subst hX;exact bP _ _ _ _ _ _ _ _ _ _ _ _ hc0
 ·rw[hX36] at hX;dsimp only at hX;by_cases hk:(tk L i36).kind=0
  ·rw[if_pos hk] at hX;subst hX;refine W7 (ι:=Value) (f:=24) (Fm gz0 gz1 gz2 (.slice none 0 0) 0 0 0) (T5 gz10 (.slice (some ⟨gt,0,none⟩) L.length c) L i36 v36 n36) (λ_=>By (tk L i36)) (λnv'=>T5 gz10 (.slice (some ⟨gt,0,none⟩) L.length c) L (i36+1) nv' n36) O (A7 O) (λw _ ho=>zW L hL gz10 _ i36 v36 n36 w hi36 hn36 hk ho) O O (λv38=>IB (i:=4) (e:=ND) (sz:=8) (m:=n36.length) (v:=v38) (xs:=L2 n36) O (λhv38=>?_));refine I9 O<|A4 O<|E5 O<|D9 O<|D9 O<|N4 3 O<|I9 O<|E5 O<|D9 O<|U6 (vs:=[v38,.int .i64 x36]) O (λw ho=>yQ (ho.get (i:=3) rfl))<|q8 (i:=2) (vs:= #[v38,.int .i64 x36]) (by kernel_rfl) O O (Kz hv38 rfl) O O<|N4 1 O<|N4 0 O<|A6<|D4 ?_;rotate_left;refine Ai (E':=Pv gz0 gz1 gz2) ⟨rfl,rfl,rfl,trivial⟩<|Ol (H':=Fm gz0 gz1 gz2 v38 x36 0 0++[.row v38 ND 8 n36.length (L2 n36)]) ?_ (ak5 _ _ _ _ _ _ _ _ _ ⟨_,hX36,hi36,hn36⟩);exact .cons_cons _ (.cons_cons _ (.cons_cons _ (.cons _ (.cons_cons _ (Ea _)))))
  ·rw[if_neg hk] at hX;subst hX;refine Vu 0 0 3 (i:=i36) (args:=λg=> #[.pointer (some ⟨g,0,none⟩),.int .i64 0]) (Z:=Z0) (X:=λ_ _=>none) (v:=Qt) (λw ho=>vH L hL gz10 _ i36 _ n36 w hi36 hn36 hk ho) O O (A7 O) O O (λc0 p0 hc0 hX0=>?_) (λx38 i38 n38 v38 hX38 hl38 hi38 hn38=>absurd hX38 (by simp));refine I7 ?_;rotate_left;refine Ai (E':=Pv gz0 gz1 gz2) ⟨rfl,rfl,rfl,trivial⟩ ?_;exact bP _ _ _ _ _ _ _ _ _ _ _ _ hc0
def EO(s:List UInt8):Option (Int×List F2):=match Aq0 s with
 |some L=>MO L
 |none=>none
theorem am7{s:C9}{L:List G8}(h:Aq0 s=some L):s.length<=4096:=by
 unfold Aq0 at h;split at h
 ·cases h
 ·omega
def Vd(s:List UInt8)(first:Int)(ns:List F2):Prop:=∃L,Aq0 s=some L/\Ry L first ns/\MO L=some (first,ns)
theorem Pt(s:C9)(w:B6):
  Calls prog 5 #[.string (bs s)] w λe w'=>∃v f c p,e=.returned (.tuple #[.agg #[v,.int .i64 f],.int .i64 c,.int .i64 p])/\Below w.heap.size w w'/\
   match EO s with
   |some (first,ns)=>c=0/\f=first/\w'.ownsRow w.heap.size ND 8 v ns.length (L2 ns)/\Vd s first ns
   |none=>c≠0/\(c=5\/s.length<=4096)/\v=.slice none 0 0/\f=0:=by
 refine J5 func5 O ntmps5 O ?_;unfold EO;cases hX:Aq0 s with
 |none=>
  refine A3<|E3 Nl O λgz0=>E6 O<|A5 O<|B4 O<|Qs (f:=12) (ι:=Int×Int) (λi=>i.1≠0/\(i.1=5\/s.length<=4096)) (λi=>.tuple #[.slice none 0 0,.int .i64 i.1,.int .i64 i.2]) (A7 O) (λw ho=>(Xj s w).mono ?_) O O (λq10 hq10=>?_);rotate_left;refine A4 O<|G1 O<|G1 O<|G1 O<|E6 O<|E6 O<|A5 O<|B5<|A4 O<|J3 O<|A6<|E7 O (by exact hq10.1)<|A3<|B9 (O7 [.slice none 0 0,.int .i64 0] ZE O) O<|A4 O<|A4 O<|E8 0 _ O<|E6 O<|A5 O<|D4<|K0<|IP (i:=0) (k:=2) O O O O O O (by kernel_rfl) O λw9 ho9=>?_;rotate_left
  ·rintro e w' ⟨v,c,p,rfl,h1,h2⟩;rw[hX] at h2;obtain⟨h3,h4,rfl⟩:=h2;exact⟨(c,p),rfl,h1,h3,h4⟩
  ·exact⟨_,_,_,_,rfl,ho9.plain,hq10.1,hq10.2,rfl,rfl⟩
 |some L=>
  have hL:Aa L:=(WH hX).ok;dsimp only;refine A3<|E3 Nl O λgz0=>E6 O<|A5 O<|B4 O<|Ib (f:=12) (ι:=Int) (e:=TK) (sz:=4) (m:=L.length) (xs:=y5 L) (λi v=>.tuple #[v,.int .i64 0,.int .i64 i]) (A7 O) (λw ho=>(Xj s w).mono ?_) O O (λp10 v10=>?_);rotate_left;refine A4 O<|G1 O<|G1 O<|G1 O<|E6 O<|E6 O<|A5 O<|B5<|A4 O<|J3 O<|A6<|E0 O (by omega)<|D6<|B4 O ?_;rotate_left
  ·rintro e w' ⟨v,c,p,rfl,h1,h2⟩;rw[hX] at h2;obtain⟨rfl,h3⟩:=h2;exact⟨p,v,rfl,h1,h3⟩
  ·refine vP ?_;cases hp:MO L with
   |none=>
    refine Oa (f:=13) (ι:=Int×Int) (λi=>i.1≠0) [.B1 gz0 Tm #[.slice none 0 0,.int .i64 0]] [.row v10 TK 4 L.length (y5 L)] (λi=>.tuple #[.agg #[.slice none 0 0,.int .i64 0],.int .i64 i.1,.int .i64 i.2]) (λ_=>[]) O (A7 O) (λw _ ho=>(gD L hL v10 w ho).mono ?_) O O (λq20 hq20=>?_);rotate_left;refine G1 O<|G1 O<|G1 O<|E8 0 _ O<|E6 O<|A5 O<|D4<|IP (i:=0) (k:=2) O O O O O O (by kernel_rfl) O λw9 ho9=>?_;rotate_left
    ·rintro e w' ⟨v,f,c,p,rfl,h2⟩;rw[hp] at h2;obtain⟨h3,rfl,rfl,h4⟩:=h2;exact⟨(c,p),rfl,h4,h3⟩
    ·exact⟨_,_,_,_,rfl,ho9.plain,hq20,.inr (am7 hX),rfl,rfl⟩
   |some X=>
    obtain⟨first,ns⟩:=X;refine Oa (ι:=Value×Int) (λ_=>Ry L first ns) (f:=13) [.B1 gz0 Tm #[.slice none 0 0,.int .i64 0]] [.row v10 TK 4 L.length (y5 L)] (λi=>.tuple #[.agg #[i.1,.int .i64 first],.int .i64 0,.int .i64 i.2]) (λi=>[.row i.1 ND 8 ns.length (L2 ns)]) O (A7 O) (λw _ ho=>(gD L hL v10 w ho).mono ?_) O O (λq20 hq20=>IB (i:=1) (e:=ND) (sz:=8) (m:=ns.length) (v:=q20.1) (xs:=L2 ns) O (λhv20=>?_));rotate_left;refine G1 O<|G1 O<|G1 O<|q8 (i:=0) (vs:= #[q20.1,.int .i64 first]) (by kernel_rfl) O O (Kz hv20 rfl) O O<|E6 O<|A5 O<|D4<|IP (i:=0) (k:=2) O O O O O O (by kernel_rfl) O λw9 ho9=>?_;rotate_left
    ·rintro e w' ⟨v,f,c,p,rfl,h2⟩;rw[hp] at h2;obtain⟨rfl,rfl,h4,h5⟩:=h2;exact⟨(v,p),rfl,h4,h5⟩
    ·exact⟨_,_,_,_,rfl,ho9.plain,rfl,rfl,ho9.GY (.tail _ (.head _)),L,hX,hq20,hp⟩
theorem B7.az0{w0 w b:B6}{L F:Nat->Prop}{D:List Mk}{H:List C2}{g:Nat}{o:Obj}(h:B7 ⟨w0,L,λ_=>False,b,F,D⟩ H w)(hm:C2.obj g o∈H):w0.heap.size<=g/\w.heap[g]?=some o:=
 ⟨((h.X8 g (Bm.2 ⟨_,hm,by simp[C2.blocks]⟩)).1).resolve_right (λh=>h),(h.ok _ hm).1⟩
def QL:u4:=[([111,114],.int .i64 0),([97,110,100],.int .i64 1),([61,61],.int .i64 2),([33,61],.int .i64 2),([60],.int .i64 2),([60,61],.int .i64 2),([62],.int .i64 2),([62,61],.int .i64 2),([46,46],.int .i64 3),([43],.int .i64 4),([45],.int .i64 4),([42],.int .i64 5),([47],.int .i64 5),([37],.int .i64 5)]
theorem ax3(w:B6):Calls prog 139 #[] w λe w'=>∃g,e=.returned (.map (some g))/\Below w.heap.size w w'/\w.heap.size<=g/\w'.heap[g]?=some (P2 QL):=by
 refine J5 func139 O ntmps139 O<|A3<|A5 O<|A3<|aa2 O λgm=>Ef (i:=0) (.inr rfl) (e:=3) (by kernel_rfl) O O O O<|Ef (i:=0) (.inr rfl) (e:=3) (by kernel_rfl) O O O O<|Ef (i:=0) (.inr rfl) (e:=3) (by kernel_rfl) O O O O<|Ef (i:=0) (.inr rfl) (e:=3) (by kernel_rfl) O O O O<|Ef (i:=0) (.inr rfl) (e:=3) (by kernel_rfl) O O O O<|Ef (i:=0) (.inr rfl) (e:=3) (by kernel_rfl) O O O O<|Ef (i:=0) (.inr rfl) (e:=3) (by kernel_rfl) O O O O<|Ef (i:=0) (.inr rfl) (e:=3) (by kernel_rfl) O O O O<|Ef (i:=0) (.inr rfl) (e:=3) (by kernel_rfl) O O O O<|Ef (i:=0) (.inr rfl) (e:=3) (by kernel_rfl) O O O O<|Ef (i:=0) (.inr rfl) (e:=3) (by kernel_rfl) O O O O<|Ef (i:=0) (.inr rfl) (e:=3) (by kernel_rfl) O O O O<|Ef (i:=0) (.inr rfl) (e:=3) (by kernel_rfl) O O O O<|Ef (i:=0) (.inr rfl) (e:=3) (by kernel_rfl) O O O O<|A4 O<|A5 O<|D4<|E4 O λw9 ho9=>?_;exact⟨gm,rfl,ho9.plain,ho9.az0 (.head _)⟩
def iK(b:Nat)(v:Value)(w:World):Prop:=∃g,v=.map (some g)/\b<=g/\w.heap[g]?=some (P2 QL)
theorem uG(b:Nat):(L0.rel (iK b)).stab:=λv w w' ⟨g,h1,h2,h3⟩ hb=>⟨g,h1,h2,(hb.block g (T1.1 h3).1).trans h3⟩
theorem ao1{P:Program}{n:Nat}{E:X0}{C:I3}{H:List C2}{X:B6->Prop}{e t ty:TypeId}{dst:Option Tmp}{pos:String}{after:Array Edge}{gd:Option (Nat×Bool)}{x y:Operand}{l:u4}{k:C9}{u v:Value}(hT:Hu P t=some e)(hz:∀w,(zeroValue e).run P w=.ok u w)(hx:ev E x=some v)(hy:ev E y=some (.string (bs k))){q:Option Value}(hq:Gp l k=q)(hX:∀w,X w->∃g,v=.map (some g)/\w.heap[g]?=some (P2 l)):
  Bk P n E C H X ⟨dst,.lookup t x y true,ty,pos,after,gd⟩ (.val (.tuple #[q.getD u,.bool q.isSome])):=Yd λa w hf ho hx'=>by
 subst hq;obtain⟨g,rfl,hg⟩:=hX w hx';refine⟨_,w,?_,Below.refl _ _,rfl⟩;have h:=Wj (P:=P) (k:=k) (ok:=true) hT hg (hz w);simp only[execOp,hf.eval hx,hf.eval hy];simp only[Sem.run_bind,h,Result.andThen];rfl
def Mg(m:F2):Int:=if m.kind<0\/11<m.kind then-1 else if m.kind<11 then 6 else match r0 m.s with
 |some c=>(c:Int)
 |none=> -1
theorem sT(s:C9):Gp QL s=(r0 s).map λc=>Value.int .i64 (c:Int):=by
 by_cases h0:s=[111,114]
 ·subst h0;rfl
 by_cases h1:s=[97,110,100]
 ·subst h1;rfl
 by_cases h2:s=[61,61]
 ·subst h2;rfl
 by_cases h3:s=[33,61]
 ·subst h3;rfl
 by_cases h4:s=[60]
 ·subst h4;rfl
 by_cases h5:s=[60,61]
 ·subst h5;rfl
 by_cases h6:s=[62]
 ·subst h6;rfl
 by_cases h7:s=[62,61]
 ·subst h7;rfl
 by_cases h8:s=[46,46]
 ·subst h8;rfl
 by_cases h9:s=[43]
 ·subst h9;rfl
 by_cases h10:s=[45]
 ·subst h10;rfl
 by_cases h11:s=[42]
 ·subst h11;rfl
 by_cases h12:s=[47]
 ·subst h12;rfl
 by_cases h13:s=[37]
 ·subst h13;rfl
 simp[Gp,EM,QL,r0,HR,Hv,Fu,Hq,HS,HP, *]
theorem Qq(m:F2)(w:B6):I6 110 #[Hr m] w (.int .i64 (Mg m)):=by
 refine J5 func110 O ntmps110 O ?_;unfold Mg;by_cases h0:m.kind<0
 ·refine A3<|F0 (cs:=(D7 m).toArray) O λgm=>A5 O<|C8<|C7<|A3<|B2 0 O<|H9 O<|A4 O<|F9 9 true O (decide_eq_true (by omega))<|D2 O<|D2 O<|D2 O<|K8 O<|A5 O<|R1 O<|A3<|A5 O<|K3<|E4 O λw9 ho9=>?_;exact⟨by rw[if_pos (.inl h0)],ho9.plain⟩
 by_cases h1:11<m.kind
 ·refine A3<|F0 (cs:=(D7 m).toArray) O λgm=>A5 O<|C8<|C7<|A3<|B2 0 O<|H9 O<|A4 O<|F9 9 false O (decide_eq_false (by omega))<|B3 O<|D9 O<|B3 O<|N3 0 O<|B3 O<|Q7 O<|G4 O<|A5 O<|E7 O (by omega)<|A3<|A5 O<|K3<|E4 O λw9 ho9=>?_;exact⟨by rw[if_pos (.inr h1)],ho9.plain⟩
 rw[if_neg (λh=>h.elim h0 h1)];by_cases h2:m.kind<11
 ·refine A3<|F0 (cs:=(D7 m).toArray) O λgm=>A5 O<|C8<|C7<|A3<|B2 0 O<|H9 O<|A4 O<|F9 9 false O (decide_eq_false (by omega))<|B3 O<|D9 O<|B3 O<|N3 0 O<|B3 O<|Q7 O<|G4 O<|A5 O<|E0 O (by omega)<|A3<|B2 0 O<|H9 O<|A5 O<|E7 O (by omega)<|A3<|A5 O<|K3<|E4 O λw9 ho9=>?_;exact⟨by rw[if_pos h2],ho9.plain⟩
 rw[if_neg h2];obtain⟨q,hq⟩:∃q,r0 m.s=q:=⟨_,rfl⟩
 have hg:=sT m.s;rw[hq] at hg⊢;refine A3<|F0 (cs:=(D7 m).toArray) O λgm=>A5 O<|C8<|C7<|A3<|B2 0 O<|H9 O<|A4 O<|F9 9 false O (decide_eq_false (by omega))<|B3 O<|D9 O<|B3 O<|N3 0 O<|B3 O<|Q7 O<|G4 O<|A5 O<|E0 O (by omega)<|A3<|B2 0 O<|H9 O<|A5 O<|E0 O (by omega)<|P5<|F4<|E2<|C8 ?_;apply BL 9 [.rel (iK 0),_,_,_,_,_,_,_,_] (by kernel_rfl) (by kernel_rfl) (by kernel_rfl)
 ·refine Ld O (λvs=>gA (f:=139) (A7 O) (λw ho hx=>(ax3 w).mono λe w' ⟨g,h1,h2,h3,h4⟩=>⟨_,h1,h2,g,rfl,R5 _,h4⟩))<|D5 O (λvs=>I8 6 O)<|D5 O (λvs=>K1 0 O)<|Ld O (λvs=>ao1 (l:=QL) (e:=3) (by kernel_rfl) Nm O O hg (λw hx=>by obtain⟨g,h1,-,h2⟩:=hx.1;exact⟨g,h1,h2⟩))<|D5 O (λvs=>H8 O)<|D5 O (λvs=>HO O O)<|D5 O (λvs=>HO O O)<|D5 O (λvs=>FH O)<|D5 O (λvs=>FH O) ?_;exact l6
 ·exact⟨uG 0,trivial,trivial,trivial,trivial,trivial,trivial,trivial,trivial,trivial⟩
 ·intro vs;cases q with
  |none=>
   refine A6<|B5<|A4 O<|J7 O<|A6<|k8 O (by rfl)<|A3<|A5 O<|D4<|K0<|E4 O λw9 ho9=>?_;exact⟨rfl,ho9.plain⟩
  |some c=>
   refine A6<|B5<|A4 O<|J7 O<|A6<|Y7 O (by rfl)<|D6<|B4 O<|A5 O<|D4<|E4 O λw9 ho9=>?_;exact⟨rfl,ho9.plain⟩
end
end Go.Proofs.YtjkhokkdgfbhcaaGreatDoor
namespace Go.Proofs.YtjkhokkdgfbhcaaGreatDoor
inductive Pc where
 |ws (b:UInt8)
 |tk (k:BJ) (t:List UInt8)
def Pc.text:Pc->List UInt8
 |.ws b=>[b]
 |.tk _ t=>t
def S3(l:List Pc):List UInt8:=l.flatMap Pc.text
def Pc.key:Pc->List BJ
 |.ws _=>[]
 |.tk k _=>[k]
def AV(l:List Pc):List BJ:=l.flatMap Pc.key
theorem o9(p:Pc)(l:List Pc):S3 (p::l)=p.text++S3 l:=by simp[S3]
theorem Ap(a b:List Pc):S3 (a++b)=S3 a++S3 b:=by simp[S3]
theorem CH(p:Pc)(l:List Pc):AV (p::l)=p.key++AV l:=by simp[AV]
theorem Iv(a b:List Pc):AV (a++b)=AV a++AV b:=by simp[AV]
def Bi(r:List UInt8):Prop:=∀b,r.head?=some b->Mo b=false/\b≠61
def UL(k:BJ)(t:List UInt8):Prop:=
 (k.1=1/\k.2.1=t/\Gv t/\k.2.2=0)\/(k.1=2/\k.2.1=[]/\t=Lib.decDigits k.2.2.toNat/\HF k.2.2)\/(k.1=3/\OM k.2.1/\t=(DZ k.2.1).1/\k.2.2=0)\/
 (k.1=4/\k.2.1=t/\k.2.2=0/\(t∈AF\/∃b∈Ac,t=[b]))\/(k.1=5/\k.2.1=t/\BS t=true/\k.2.2=0)
def ao7:Pc->List UInt8->Prop
 |.ws b,_=>b=32\/b=10
 |.tk k t,r=>UL k t/\(t=[40]\/t=[45]\/Bi r)
def p9:List Pc->List UInt8->Prop
 |[],_=>True
 |p::l,f=>ao7 p (S3 l++f)/\p9 l f
theorem AJ:∀(a b:List Pc) (f:C9),p9 (a++b) f↔p9 a (S3 b++f)/\p9 b f
 |[],b,f=>by simp[p9]
 |p::a,b,f=>by
  have ih:=AJ a b f;simp only[GP,p9,ih,Ap,Q2];exact⟨λ⟨h1,h2,h3⟩=>⟨⟨h1,h2⟩,h3⟩,λ⟨⟨h1,h2⟩,h3⟩=>⟨h1,h2,h3⟩⟩
theorem Nw(d:Nat)(h:d<10):((UInt8.ofNat (48+d)).toNat:Int)=48+(d:Int):=by
 rw[UInt8.toNat_ofNat',YH (by omega)];omega
theorem uE:∀(n u:Nat),u<=n->u<=9223372036854775807->∀rest,Ey 0 (Lib.decDigits u++rest)=Ey (u:Int) rest:=by
 intro n
 induction n with
 |zero=>
  intro u hu hm rest;obtain rfl:u=0:=by omega
  rw[Lib.decDigits_one (by omega),Uo,Ey,if_neg (by omega),Nw 0 (by omega)];rfl
 |succ n ih=>
  intro u hu hm rest;by_cases h:u<10
  ·rw[Lib.decDigits_one h,Uo,Ey,if_neg (by omega),Nw u h];congr 1;omega
  ·rw[Lib.decDigits,dif_neg h,Q2,ih (u/10) (by omega) (by omega),Uo,Ey,if_neg (by omega),Nw _ (Rg _ (by omega))];congr 1;omega
theorem iH:∀(n u:Nat),u<=n->∀b∈Lib.decDigits u,Z1 (b.toNat:Int)=true:=by
 intro n
 induction n with
 |zero=>
  intro u hu b hb;obtain rfl:u=0:=by omega
  rw[Lib.decDigits_one (by omega),Bt] at hb;subst hb;rfl
 |succ n ih=>
  intro u hu b hb;by_cases h:u<10
  ·rw[Lib.decDigits_one h,Bt] at hb;subst hb;unfold Z1;rw[Nw u h];simp;omega
  ·rw[Lib.decDigits,dif_neg h] at hb;rcases q0.1 hb with hb|hb
   ·exact ih (u/10) (by omega) b hb
   ·rw[Bt] at hb;subst hb;unfold Z1;rw[Nw _ (Rg _ (by omega))];have:=Rg u (show 0<10 by omega);simp;omega
theorem lJ(u:Nat):Lib.decDigits u≠[]:=by
 by_cases h:u<10
 ·rw[Lib.decDigits_one h];simp
 ·rw[Lib.decDigits,dif_neg h];simp
theorem wS:∀(n u:Nat),u<=n->0<u->J6 (Lib.decDigits u) 0≠48:=by
 intro n
 induction n with
 |zero=>intro u hu h0;omega
 |succ n ih=>
  intro u hu h0;by_cases h:u<10
  ·rw[Lib.decDigits_one h];show((UInt8.ofNat (48+u)).toNat:Int)≠48;rw[Nw u h];omega
  ·have h1:=ih (u/10) (by omega) (by omega);rw[Lib.decDigits,dif_neg h];have h2:=lJ (u/10);cases hd:Lib.decDigits (u/10) with
   |nil=>exact absurd hd h2
   |cons b l=>rw[hd] at h1;exact h1
theorem QZ{s:C9}{n:Nat}{t r:C9}(h:s.drop n=t++r)(ht:t≠[]):n<s.length/\J6 s n=J6 t 0:=by
 constructor
 ·refine Nat.lt_of_not_le λhle=>ht ?_;rw[JE hle] at h;exact(List.append_eq_nil_iff.1 h.symm).1
 ·rw[<-Sk s n,h];cases t with
  |nil=>exact absurd rfl ht
  |cons b l=>rfl
theorem ZX{p:Int->Bool}{t r:C9}(h:∀b∈t,p (b.toNat:Int)=true)(hr:∀b,r.head?=some b->p (b.toNat:Int)=false):P3 p (t++r)=t:=by
 induction t with
 |nil=>
  cases r with
  |nil=>rfl
  |cons b r=>
   show List.takeWhile _ (b::r)=[]
   rw[JD];have:=hr b rfl;simp[this]
 |cons b t ih=>
  show List.takeWhile _ (b::(t++r))=b::t;rw[JD,if_pos (h b (j8 ..))];congr 1;exact ih λx hx=>h x (Cj _ hx)
theorem az1{b:UInt8}{q:C9}(h:b=10\/(32<=b/\b<=126)):∃q,Ko b=some q/\∀(r acc:C9) (k:Nat),Ak (q++r) acc k=Ak r (acc++[b]) (k+q.length):=by
 by_cases h10:b=10
 ·subst h10;refine⟨[92,110],rfl,λr acc k=>?_⟩;show Ak (92::110::r) acc k=_;rw[LQ];rfl
 ·have hb:=h.resolve_left h10;have hn:¬(b<32\/126<b):=by
   rintro(h1|h1)
   ·exact absurd hb.1 (UInt8.not_le.2 h1)
   ·exact absurd hb.2 (UInt8.not_le.2 h1)
  by_cases h2:b=34\/b=92
  ·refine⟨[92,b],by simp[Ko,h10,hn,h2],λr acc k=>?_⟩;show Ak (92::b::r) acc k=_;rw[LQ,if_neg (by decide),if_neg (by decide),if_neg (by simp)];have he:Ch b=b:=by simp[Ch,h2]
   have h0:¬b=0:=by rcases h2 with rfl|rfl<;>decide
   simp only[he,h0,if_false];rfl
  ·refine⟨[b],by simp[Ko,h10,hn,h2],λr acc k=>?_⟩;show Ak (b::r) acc k=_;rw[LQ,if_neg (λe=>h2 (.inl e)),if_neg hn,if_pos (λe=>h2 (.inr e))];rfl
theorem UG:∀(s acc:C9),(∀b∈s,b=10\/(32<=b/\b<=126))->∃body,Gj s acc=(acc++body++[34],0)/\∀(r a:C9) (k:Nat),Ak (body++r) a k=Ak r (a++s) (k+body.length)
 |[],acc,_=>⟨[],by simp[Gj],λr a k=>by simp⟩
 |b::s,acc,h=>by
  obtain⟨q,h1,h2⟩:=az1 (q:=[]) (h b (j8 ..));obtain⟨body,h3,h4⟩:=UG s (acc++q) λx hx=>h x (Cj _ hx);refine⟨q++body,?_,λr a k=>?_⟩
  ·rw[Gj,h1];dsimp only;rw[h3];simp
  ·rw[Q2,h2,h4,Q2,Uo,J8,EZ]
theorem wI{t r:C9}(h:t∈AF):BU (t++r)=(⟨4,0,t,0⟩,0,2):=by
 simp only[AF,BD,YI,or_false] at h;rcases h with rfl|rfl|rfl|rfl|rfl<;>rfl
theorem zJ{b:UInt8}{r:C9}(h:b∈Ac)(hr:b=40\/b=45\/Bi r):BU (b::r)=(⟨4,0,[b],0⟩,0,1):=by
 have hn:AF.find? (λp=>V0 (b::r) p)=none:=by
  refine List.find?_eq_none.2 λp hp=>?_;simp only[AF,BD,YI,or_false] at hp;intro hbeg;obtain⟨q,hq⟩:=dD.1 hbeg;have key:∀c:UInt8,b::r=c::61::q->c≠40->c≠45->False:=λc e h1 h2=>by
   cases e;rcases hr with rfl|rfl|hr
   ·exact h1 rfl
   ·exact h2 rfl
   ·exact(hr 61 rfl).2 rfl
  rcases hp with rfl|rfl|rfl|rfl|rfl
  ·exact key 61 hq (by decide) (by decide)
  ·exact key 33 hq (by decide) (by decide)
  ·exact key 60 hq (by decide) (by decide)
  ·exact key 62 hq (by decide) (by decide)
  ·cases hq;revert h;decide
 unfold BU;rw[hn];dsimp only;have:Ac.contains b=true:=by simpa using h
 show(if Ac.contains b=true then _ else _)=_;rw[if_pos this];rfl
theorem sZ(b:UInt8)(l:C9):J6 (b::l) 0=(b.toNat:Int):=rfl
theorem Zb:∀t∈Sb::Cy,Ar (J6 t 0)=true/\t≠[]/\∀b∈t,Mo b=true:=by decide
theorem as3{s:C9}{n:Nat}{k:BJ}{t r:C9}(h:s.drop n=t++r)(hk:UL k t)(hr:t=[40]\/t=[45]\/Bi r):t≠[]/\∃t0,Au s n=(t0,0,n+t.length)/\S9 t0=k:=by
 have hbrk:t≠[40]->t≠[45]->Bi r:=λh1 h2=>(hr.resolve_left h1).resolve_left h2;obtain⟨k1,k2,k3⟩:=k;have named:Ar (J6 t 0)=true->t≠[]->(∀b∈t,Mo b=true)->Au s n=((FA t).1,(FA t).2,n+t.length):=λh1 h2 h3=>by
  obtain⟨h4,h5⟩:=QZ h h2;have hb:Bi r:=hbrk (λe=>by subst e;exact absurd h1 (by decide)) (λe=>by subst e;exact absurd h1 (by decide));have hw:P3 k7 (s.drop n)=t:=by rw[h];exact ZX h3 λb hb'=>(hb b hb').1
  unfold Au;rw[h5,if_pos h1,hw]
 rcases hk with⟨rfl,rfl,hn,rfl⟩|⟨rfl,rfl,rfl,hi⟩|⟨rfl,ht,rfl,rfl⟩|⟨rfl,rfl,rfl,hs⟩|⟨rfl,rfl,hw,rfl⟩
 ·obtain⟨h1,h2,h3,h4,h5⟩:=hn;dsimp only at h1 h2 h3 h4 h5 named⊢;refine⟨h2,⟨1,0,k2,0⟩,?_,rfl⟩;rw[named h1 h2 h3];simp[FA,h5,Nat.not_lt.2 h4]
 ·obtain⟨h0,h1⟩:=hi;dsimp only at h0 h1 h hr hbrk⊢;obtain⟨u,rfl⟩:∃u:Nat,k3=u:=⟨k3.toNat,by omega⟩
  simp only[Cm] at h hr hbrk⊢;have hne:=lJ u;have hd:=iH u u (L6 _);obtain⟨h4,h5⟩:=QZ h hne;have hd0:Z1 (J6 (Lib.decDigits u) 0)=true:=by
   cases hq:Lib.decDigits u with
   |nil=>exact absurd hq hne
   |cons b l=>exact hd b (by rw[hq];exact j8 ..)
  have hl0:Ar (J6 (Lib.decDigits u) 0)=false:=by
   simp only[Z1,j1,decide_eq_true_eq] at hd0;simp only[Ar,Bool.or_eq_false_iff,Bool.and_eq_false_iff,decide_eq_false_iff_not];omega
  have hb:Bi r:=hbrk (λe=>by rw[e] at hd0;exact absurd hd0 (by decide)) (λe=>by rw[e] at hd0;exact absurd hd0 (by decide));have hbd:∀b,r.head?=some b->Z1 (b.toNat:Int)=false/\Ar (b.toNat:Int)=false:=λb hb'=>by
   have:=(hb b hb').1;simp only[Mo,k7,Bool.or_eq_false_iff] at this;exact⟨this.2,this.1⟩
  have hw:P3 Z1 (s.drop n)=Lib.decDigits u:=by rw[h];exact ZX hd λb hb'=>(hbd b hb').1
  refine⟨hne,⟨2,0,[],(u:Int)⟩,?_,rfl⟩;unfold Au;rw[h5,hl0,if_neg (by simp),if_pos hd0];unfold NQ;rw[hw];have hbad:LE s (n+(Lib.decDigits u).length) (Lib.decDigits u)=false:=by
   unfold LE;rw[Bool.or_eq_false_iff];constructor
   ·by_cases hu:u<10
    ·rw[Lib.decDigits_one hu];rfl
    ·have:=wS u u (L6 _) (by omega);simp[this]
   ·by_cases hlt:n+(Lib.decDigits u).length<s.length
    ·have hdr:s.drop (n+(Lib.decDigits u).length)=r:=by
      rw[<-JB,h,Pk]
     cases hr':r with
     |nil=>
      rw[hr'] at hdr;have:=congrArg List.length hdr;simp at this;omega
     |cons b r2=>
      have h6:J6 s (n+(Lib.decDigits u).length)=(b.toNat:Int):=by rw[<-Sk,hdr,hr'];rfl
      rw[h6,(hbd b (by rw[hr'];rfl)).2,Bool.and_false]
    ·simp[hlt]
  rw[hbad,if_neg (by simp)];unfold KL;have hv:=uE u u (L6 _) (by omega) [];rw[k5] at hv;rw[hv,Ey,if_neg (by omega)]
 ·dsimp only at h ht⊢;obtain⟨hlen,hch⟩:=ht;obtain⟨body,h1,h2⟩:=UG k2 [34] hch;have hq:(DZ k2).1=34::(body++[34]):=by
   unfold DZ;rw[if_neg (by omega),h1];simp
  rw[hq] at h⊢;obtain⟨h4,h5⟩:=QZ h (by simp);refine⟨by simp,⟨3,0,k2,0⟩,?_,rfl⟩;unfold Au;rw[h5,sZ];have hdr:s.drop (n+1)=body++(34::r):=by
   rw[<-JB,h];simp
  rw[if_neg (by decide),if_neg (by decide),if_pos (by decide),hdr,h2,LQ,if_pos rfl,DM,if_neg (by omega)];simp only[T3,J8,Y4];congr 2;omega
 ·dsimp only at h hr hs⊢;have main:∀q:G8×Int×Nat,BU (k2++r)=q->k2≠[]->Ar (J6 k2 0)=false->Z1 (J6 k2 0)=false->J6 k2 0≠34->Au s n=(q.1,q.2.1,n+q.2.2):=λq hq h1 h2 h3 h4=>by
   obtain⟨h5,h6⟩:=QZ h h1;unfold Au;rw[h6,h2,h3,if_neg (by simp),if_neg (by simp),if_neg h4,h,hq]
  rcases hs with hs|⟨b,hb,rfl⟩
  ·have hl:∀t∈AF,t≠[]/\Ar (J6 t 0)=false/\Z1 (J6 t 0)=false/\J6 t 0≠34/\t.length=2:=by decide
   obtain⟨g1,g2,g3,g4,g5⟩:=hl _ hs;exact⟨g1,_,by rw[main _ (wI hs) g1 g2 g3 g4,g5],rfl⟩
  ·have hl:∀b∈Ac,Ar (b.toNat:Int)=false/\Z1 (b.toNat:Int)=false/\(b.toNat:Int)≠34:=by decide
   obtain⟨g2,g3,g4⟩:=hl _ hb;have hr':b=40\/b=45\/Bi r:=by
    rcases hr with h1|h1|h1
    ·cases h1;exact .inl rfl
    ·cases h1;exact .inr (.inl rfl)
    ·exact .inr (.inr h1)
   exact⟨by simp,_,main _ (zJ hb hr') (by simp) g2 g3 g4,rfl⟩
 ·dsimp only at h hw⊢;have hm:k2∈Sb::Cy:=by
   unfold BS at hw;simp only[Kf,Nj,decide_eq_true_eq] at hw;rcases hw with hw|hw
   ·exact Cj _ hw
   ·rw[hw];exact j8 ..
  obtain ⟨h1,h2,h3⟩:=Zb _ hm;refine⟨h2,⟨5,0,k2,0⟩,?_,rfl⟩;rw[named h1 h2 h3];simp[FA,hw]
theorem qI{s:C9}{n:Nat}{b:UInt8}{r:C9}(h:s.drop n=b::r)(hb:b=32\/b=10):m7 s n=m7 s (n+1):=by
 have hd:s.drop (n+1)=r:=by rw[<-JB,h];rfl
 have e:j6 false (b::r)=1+j6 false r:=by
  rw[j6,if_pos (by rcases hb with rfl|rfl<;>simp)]
 unfold m7;rw[h,hd,e,EZ]
theorem tA{t r:C9}{k:BJ}(hk:UL k t)(ht:t≠[]):j6 false (t++r)=0:=by
 have hh:∀b,t.head?=some b->b≠32/\b≠9/\b≠10/\b≠35:=by
  intro b hb;have lt:Ar (J6 t 0)=true->b≠32/\b≠9/\b≠10/\b≠35:=λh=>by
   have e:J6 t 0=(b.toNat:Int):=by
    cases t with
    |nil=>cases hb
    |cons c l=>cases hb;rfl
   rw[e] at h;refine⟨?_,?_,?_,?_⟩<;>(rintro rfl;exact absurd h (by decide))
  obtain⟨k1,k2,k3⟩:=k;rcases hk with⟨rfl,rfl,hn,rfl⟩|⟨rfl,rfl,rfl,hi⟩|⟨rfl,ht',rfl,rfl⟩|⟨rfl,rfl,rfl,hs⟩|⟨rfl,rfl,hw,rfl⟩
  ·exact lt hn.1
  ·have:=iH k3.toNat k3.toNat (L6 _) b (List.mem_of_mem_head? hb);refine⟨?_,?_,?_,?_⟩<;>(rintro rfl;exact absurd this (by decide))
  ·obtain⟨body,h1,h2⟩:=UG k2 [34] ht'.2;have hq:(DZ k2).1=34::(body++[34]):=by
    unfold DZ;rw[if_neg (by have:=ht'.1;dsimp only at this;omega),h1];simp
   rw[hq] at hb;cases hb;decide
  ·rcases hs with hs|⟨c,hc,rfl⟩
   ·have hl:∀t∈AF,∀b,t.head?=some b->b≠32/\b≠9/\b≠10/\b≠35:=by decide
    exact hl _ hs b hb
   ·cases hb;have hl:∀b∈Ac,b≠32/\b≠9/\b≠10/\b≠35:=by decide
    exact hl _ hc
  ·have hm:k2∈Sb::Cy:=by
    unfold BS at hw;simp only[Kf,Nj,decide_eq_true_eq] at hw;rcases hw with hw|hw
    ·exact Cj _ hw
    ·rw[hw];exact j8 ..
   exact lt (Zb _ hm).1
 cases t with
 |nil=>exact absurd rfl ht
 |cons b l=>
  obtain⟨h1,h2,h3,h4⟩:=hh b rfl;rw[GP,j6,if_neg (by simp[h1,h2,h3]),if_neg h4]
theorem WL{s:C9}:∀(l:List Pc) (f n:Nat) (acc:List G8),s.drop n=S3 l->p9 l []->s.length-n<f->n<=s.length->acc.length+(AV l).length<=1024->
  ∃L,Fw s f n acc=some L/\L.length=acc.length+(AV l).length+1/\(∀i,i<acc.length->tk L i=tk acc i)/\∀i k,(AV l)[i]?=some k->S9 (tk L (acc.length+i))=k
 |[],f,n,acc,h,_,hf,hn,hl=>by
  obtain⟨f,rfl⟩:∃g,f=g+1:=⟨f-1,by omega⟩
  have hend:n=s.length:=by
   have:=congrArg List.length h;simp[S3] at this;omega
  have hx:m7 s n=(default,0,false,n):=by
   unfold m7;rw[h];subst hend;simp[S3,j6]
  rw[Fw,hx,if_pos rfl];refine⟨_,rfl,by simp[AV],λi hi=>?_,λi k hk=>by simp[AV] at hk⟩;unfold tk;rw[W6,Fe hi,W6]
 |.ws b::l,f,n,acc,h,hg,hf,hn,hl=>by
  obtain⟨f,rfl⟩:∃g,f=g+1:=⟨f-1,by omega⟩
  rw[o9] at h;have h':s.drop n=b::S3 l:=h;have hlt:n<s.length:=by
   have:=congrArg List.length h';simp at this;omega
  have ih:=WL l (f+1) (n+1) acc (by rw[<-JB,h'];rfl) hg.2 (by omega) (by omega) hl;have e:Fw s (f+1) n acc=Fw s (f+1) (n+1) acc:=by rw[Fw,Fw,qI h' hg.1]
  rw[e];exact ih
 |.tk k t::l,f,n,acc,h,hg,hf,hn,hl=>by
  obtain⟨f,rfl⟩:∃g,f=g+1:=⟨f-1,by omega⟩
  rw[o9] at h;have h':s.drop n=t++S3 l:=h;obtain⟨⟨hk,hr⟩,hg2⟩:=hg;rw[k5] at hr;obtain⟨ht,t0,h1,h2⟩:=as3 h' hk hr;have hlt:=(QZ h' ht).1;have hx:m7 s n=(Na t0 n,0,true,n+t.length):=by
   unfold m7;rw[h',tA hk ht];dsimp only;rw[Bs,if_neg (by omega),h1]
  have hkl:(AV (.tk k t::l)).length=(AV l).length+1:=by rw[CH];simp[Pc.key]
  rw[hkl] at hl;have hlen:(S3 l).length+t.length=s.length-n:=by
   have:=congrArg List.length h';simp at this;omega
  have htl:0<t.length:=List.length_pos_iff.2 ht;obtain⟨L,g1,g2,g3,g4⟩:=WL l f (n+t.length) (acc++[Na t0 n]) (by rw[<-JB,h',Pk]) hg2 (by omega) (by omega) (by simp;omega);refine⟨L,?_,?_,?_,?_⟩
  ·rw[Fw,hx,if_neg (by simp),if_neg (by simp),if_neg (by omega)];exact g1
  ·rw[g2,hkl];simp;omega
  ·intro i hi;rw[g3 i (by simp;omega)];unfold tk;rw[W6,Fe hi,W6]
  ·intro i q hq;rw[CH] at hq;cases i with
   |zero=>
    simp[Pc.key] at hq;subst hq;rw[Bs,g3 acc.length (by simp)];unfold tk;simp[W6];exact h2
   |succ i=>
    have:=g4 i q (by simpa[Pc.key] using hq);rw[J8] at this;rwa[show acc.length+(i+1)=acc.length+[Na t0 n].length+i by simp;omega]
theorem Zh(l:List Pc)(hg:p9 l [])(h1:(S3 l).length<=4096)(h2:(AV l).length<=1024):∃L,Aq0 (S3 l)=some L/\L.length=(AV l).length+1/\∀i k,(AV l)[i]?=some k->S9 (tk L i)=k:=by
 obtain⟨L,g1,g2,_,g4⟩:=WL (s:=S3 l) l ((S3 l).length+1) 0 [] rfl hg (by omega) (R5 _) (by simpa using h2);refine⟨L,?_,by simpa using g2,λi k hk=>by have:=g4 i k hk;simpa using this⟩;unfold Aq0;rw[if_neg (by omega)];exact g1
end Go.Proofs.YtjkhokkdgfbhcaaGreatDoor
namespace Go.Proofs.YtjkhokkdgfbhcaaGreatDoor
def P9(s:List UInt8):Pc:=.tk (L5 s) s
def Da(i:Int):Pc:=.tk (2,[],i) (Lib.decDigits i.toNat)
def AP(s:List UInt8):Pc:=.tk (1,s,0) s
def U0:Pc:=.ws 32
def Hb:Pc:=.ws 10
def GG(c least:Nat)(l:List Pc):List Pc:=if least<=c then l else P9 Z2::(l++[P9 Y1])
def Y8:Ex->List Pc
 |.no=>[]
 |.nd k i s a b=>
  if k=0 then[P9 EJ] else if k=1 then[P9 (if i=1 then Ep else EG)] else if k=2 then[Da i] else if k=3 then[.tk (3,s,0) (DZ s).1] else if k=4 then[AP s]
  else if k=9 then P9 Dw::U0::GG (P6 a) 6 (Y8 a) else if k=10 then P9 KO::GG (P6 a) 6 (Y8 a)
  else if k=11 then GG (P6 a) (Az ((r0 s).getD 0)) (Y8 a)++(U0::P9 s::U0::GG (P6 b) ((r0 s).getD 0+1) (Y8 b))
  else P9 (EV k)::P9 Z2::(Y8 a++[P9 Y1])
def Jc(l:List Pc):List Pc:=U0::P9 JX::U0::(l++[P9 LL])
def Cf(k i:Int)(s t:List UInt8)(a b B C:List Pc):List Pc:=
 if k=24 then P9 w8::U0::(a++(Jc B++(if i=1 then U0::P9 Ba::Jc C else[])))
 else if k=25 then P9 BR::U0::AP s::P9 d5::U0::AP t::U0::P9 CI::U0::P9 Bw::P9 Z2::(a++(P9 d5::U0::Da i::P9 Y1::Jc B))
 else if k=26 then P9 DC::U0::Da i::Jc B
 else P9 (CD k)::U0::((if k=20\/k=21 then[AP s,U0,P9 Aq,U0] else[])++(a++((if k=22 then P9 d5::U0::b else[])++[P9 W8])))
def CV:Bl->List Pc
 |.no=>[]
 |.st k i s t a b B C r=>Cf k i s t (Y8 a) (Y8 b) (CV B) (CV C)++(Hb::CV r)
theorem Ta(c least:Nat)(l:List Pc):AV (GG c least l)=EQ c least (AV l):=by
 unfold GG EQ;split
 ·rfl
 ·simp[CH,Iv,P9,Pc.key,AV]
theorem TQ:∀e:Ex,AV (Y8 e)=N9 e
 |.no=>rfl
 |.nd k i s a b=>by
  have ha:=TQ a;have hb:=TQ b;unfold Y8 N9;split
  ·rfl
  split
  ·rfl
  split
  ·rfl
  split
  ·rfl
  split
  ·rfl
  split
  ·rw[CH,CH,Ta,ha];rfl
  split
  ·rw[CH,Ta,ha];rfl
  split
  ·rw[Iv,Ta,ha,CH,CH,CH,Ta,hb];rfl
  ·rw[CH,CH,Iv,ha];rfl
theorem Rt(l:List Pc):AV (Jc l)=x5 (AV l):=by
 unfold Jc x5;simp[CH,Iv,P9,U0,Pc.key,AV]
theorem Px:∀B:Bl,AV (CV B)=N8 B
 |.no=>rfl
 |.st k i s t a b B C r=>by
  have ha:=TQ a;have hb:=TQ b;have hB:=Px B;have hC:=Px C;have hr:=Px r;unfold CV N8 Cf;rw[Iv,CH,hr];congr 1;split
  ·rw[CH,CH,Iv,Iv,Rt,ha,hB];split
   ·rw[CH,CH,Rt,hC];rfl
   ·rfl
  split
  ·simp only[CH,Iv,Rt,ha,hB];rfl
  split
  ·simp only[CH,Iv,Rt,ha,hB];rfl
  ·simp only[CH,Iv,ha];split<;>split<;>first|rfl|(simp only[CH,hb];rfl)
def Qk(s:List UInt8):Bool:=BS s||AF.contains s||Ac.any λb=>s==[b]
theorem pD{s:C9}(h:Qk s=true):UL (L5 s) s:=by
 unfold Qk at h;unfold L5;cases hw:BS s
 ·rw[hw] at h;refine .inr (.inr (.inr (.inl ⟨rfl,rfl,rfl,?_⟩)));simp only[Bool.false_or,Kf,Nj,Uk,beq_iff_eq] at h;exact h
 ·exact .inr (.inr (.inr (.inr ⟨rfl,rfl,hw,rfl⟩)))
theorem oB:∀s∈HR++Hv++Fu++Hq++HS++HP,Qk s=true:=by decide
theorem Va{s:C9}{c:Nat}(h:r0 s=some c):s∈HR++Hv++Fu++Hq++HS++HP/\c<=5:=by
 unfold r0 at h;simp only[q0];split at h
 ·cases h;exact⟨by simp[*],by omega⟩
 split at h
 ·cases h;exact⟨by simp[*],by omega⟩
 split at h
 ·cases h;exact⟨by simp[*],by omega⟩
 split at h
 ·cases h;exact⟨by simp[*],by omega⟩
 split at h
 ·cases h;exact⟨by simp[*],by omega⟩
 split at h
 ·cases h;exact⟨by simp[*],by omega⟩
 ·cases h
theorem lM(p:Pc)(hp:p=U0\/p=Hb)(l:List Pc)(f:C9):Bi (S3 (p::l)++f):=by
 rw[o9];rcases hp with rfl|rfl<;>(intro b hb;cases hb;decide)
theorem qS{c:UInt8}{r:C9}(h:Mo c=false/\c≠61):Bi (c::r):=λb hb=>by cases hb;exact h
theorem ad8:Bi []:=λb hb=>by cases hb
theorem d9{s:C9}{l:List Pc}{f:C9}(hs:Qk s=true)(hr:s=[40]\/s=[45]\/Bi (S3 l++f))(h:p9 l f):p9 (P9 s::l) f:=⟨⟨pD hs,hr⟩,h⟩
theorem Al{l:List Pc}{f:C9}(h:p9 l f):p9 (U0::l) f:=⟨.inl rfl,h⟩
theorem Is{l:List Pc}{f:C9}(h:p9 l f):p9 (Hb::l) f:=⟨.inr rfl,h⟩
theorem Ny{s:C9}{l:List Pc}{f:C9}(hs:Gv s)(hr:Bi (S3 l++f))(h:p9 l f):p9 (AP s::l) f:=⟨⟨.inl ⟨rfl,rfl,hs,rfl⟩,.inr (.inr hr)⟩,h⟩
theorem Vt{i:Int}{l:List Pc}{f:C9}(hi:HF i)(hr:Bi (S3 l++f))(h:p9 l f):p9 (Da i::l) f:=⟨⟨.inr (.inl ⟨rfl,rfl,rfl,hi⟩),.inr (.inr hr)⟩,h⟩
theorem t6(l:List Pc)(f:C9):Bi (S3 (U0::l)++f):=lM U0 (.inl rfl) l f
theorem Ih(l:List Pc)(f:C9):Bi (S3 (Hb::l)++f):=lM Hb (.inr rfl) l f
theorem FW{c:UInt8}{r:C9}(l:List Pc)(f:C9)(h:(Mo c=false/\c≠61)):Bi (S3 (P9 (c::r)::l)++f):=by
 rw[o9];exact qS h
theorem KI{f:C9}(h:Bi f):Bi (S3 []++f):=h
theorem Uh{c least:Nat}{l:List Pc}{f:C9}(h:∀f,Bi f->p9 l f)(hf:Bi f):p9 (GG c least l) f:=by
 unfold GG;split
 ·exact h f hf
 ·refine d9 (by decide) (.inl rfl) ((AJ _ _ _).2 ⟨h _ ?_,d9 (by decide) (.inr (.inr (KI hf))) trivial⟩);exact FW [] f (by decide)
theorem Ir{e:Ex}(he:WE e):∀f,Bi f->p9 (Y8 e) f:=by
 induction he with
 |nil=>intro f hf;exact d9 (by decide) (.inr (.inr (KI hf))) trivial
 |bool b=>
  intro f hf;cases b
  ·exact d9 (s:=EG) (by decide) (.inr (.inr (KI hf))) trivial
  ·exact d9 (s:=Ep) (by decide) (.inr (.inr (KI hf))) trivial
 |int i h=>intro f hf;exact Vt h (KI hf) trivial
 |text s h=>intro f hf;exact⟨⟨.inr (.inr (.inl ⟨rfl,h,rfl,rfl⟩)),.inr (.inr (KI hf))⟩,trivial⟩
 |name s h=>intro f hf;exact Ny h (KI hf) trivial
 |call k h a ha ih=>
  intro f hf;have e:Y8 (.nd k 0 [] a .no)=P9 (EV k)::P9 Z2::(Y8 a++[P9 Y1]):=by
   rw[Y8];rw[if_neg (by omega),if_neg (by omega),if_neg (by omega),if_neg (by omega),if_neg (by omega),if_neg (by omega),if_neg (by omega),if_neg (by omega)]
  have hw:Qk (EV k)=true:=by
   unfold EV;split
   ·decide
   split
   ·decide
   split<;>decide
  rw[e];refine d9 hw (.inr (.inr (FW _ _ (by decide)))) (d9 (by decide) (.inl rfl) ((AJ _ _ _).2 ⟨ih _ (FW _ _ (by decide)),d9 (by decide) (.inr (.inr (KI hf))) trivial⟩))
 |pre k h a ha ih=>
  intro f hf;rcases h with rfl|rfl
  ·exact d9 (s:=Dw) (by decide) (.inr (.inr (t6 _ _))) (Al (Uh ih hf))
  ·exact d9 (s:=KO) (by decide) (.inr (.inl rfl)) (Uh ih hf)
 |two s c h a b ha hb iha ihb=>
  intro f hf;have e:Y8 (.nd 11 0 s a b)=GG (P6 a) (Az ((r0 s).getD 0)) (Y8 a)++(U0::P9 s::U0::GG (P6 b) ((r0 s).getD 0+1) (Y8 b)):=rfl;rw[e];refine(AJ _ _ _).2 ⟨Uh iha (t6 _ _),Al (d9 (oB s (Va h).1) (.inr (.inr (t6 _ _))) (Al (Uh ihb hf)))⟩
theorem RI{l:List Pc}{f:C9}(h:∀f,p9 l f)(hf:Bi f):p9 (Jc l) f:=
 Al (d9 (by decide) (.inr (.inr (t6 _ _))) (Al ((AJ _ _ _).2 ⟨h _,d9 (by decide) (.inr (.inr (KI hf))) trivial⟩)))
theorem yX{B:Bl}(h:WB B):∀f,p9 (CV B) f:=by
 induction h with
 |no=>intro f;trivial
 |names k h s hs a ha r hr ih=>
  intro f;rcases h with rfl|rfl
  ·show p9 (P9 Ay::U0::AP s::U0::P9 Aq::U0::((Y8 a++[P9 W8])++(Hb::CV r))) f;exact d9 (s:=Ay) (by decide) (.inr (.inr (t6 _ _))) (Al (Ny hs (t6 _ _) (Al (d9 (by decide) (.inr (.inr (t6 _ _))) (Al ((AJ _ _ _).2 ⟨(AJ _ _ _).2 ⟨Ir ha _ (FW _ _ (by decide)),d9 (by decide) (.inr (.inr (Ih _ _))) trivial⟩,Is (ih f)⟩))))))
  ·show p9 (P9 AL::U0::AP s::U0::P9 Aq::U0::((Y8 a++[P9 W8])++(Hb::CV r))) f;exact d9 (s:=AL) (by decide) (.inr (.inr (t6 _ _))) (Al (Ny hs (t6 _ _) (Al (d9 (by decide) (.inr (.inr (t6 _ _))) (Al ((AJ _ _ _).2 ⟨(AJ _ _ _).2 ⟨Ir ha _ (FW _ _ (by decide)),d9 (by decide) (.inr (.inr (Ih _ _))) trivial⟩,Is (ih f)⟩))))))
 |put a b ha hb r hr ih=>
  intro f;show p9 (P9 BF::U0::((Y8 a++(P9 d5::U0::(Y8 b++[P9 W8])))++(Hb::CV r))) f;refine d9 (s:=BF) (by decide) (.inr (.inr (t6 _ _))) (Al ((AJ _ _ _).2 ⟨(AJ _ _ _).2 ⟨Ir ha _ (FW _ _ (by decide)),d9 (s:=d5) (by decide) (.inr (.inr (t6 _ _))) (Al ((AJ _ _ _).2 ⟨Ir hb _ (FW _ _ (by decide)),d9 (by decide) (.inr (.inr (Ih _ _))) trivial⟩))⟩,Is (ih f)⟩))
 |one k h a ha r hr ih=>
  intro f;rcases h with rfl|rfl|rfl
  ·show p9 (P9 Bv::U0::((Y8 a++[P9 W8])++(Hb::CV r))) f;exact d9 (s:=Bv) (by decide) (.inr (.inr (t6 _ _))) (Al ((AJ _ _ _).2 ⟨(AJ _ _ _).2 ⟨Ir ha _ (FW _ _ (by decide)),d9 (by decide) (.inr (.inr (Ih _ _))) trivial⟩,Is (ih f)⟩))
  ·show p9 (P9 CO::U0::((Y8 a++[P9 W8])++(Hb::CV r))) f;exact d9 (s:=CO) (by decide) (.inr (.inr (t6 _ _))) (Al ((AJ _ _ _).2 ⟨(AJ _ _ _).2 ⟨Ir ha _ (FW _ _ (by decide)),d9 (by decide) (.inr (.inr (Ih _ _))) trivial⟩,Is (ih f)⟩))
  ·show p9 (P9 DH::U0::((Y8 a++[P9 W8])++(Hb::CV r))) f;exact d9 (s:=DH) (by decide) (.inr (.inr (t6 _ _))) (Al ((AJ _ _ _).2 ⟨(AJ _ _ _).2 ⟨Ir ha _ (FW _ _ (by decide)),d9 (by decide) (.inr (.inr (Ih _ _))) trivial⟩,Is (ih f)⟩))
 |iff a ha B hB r hr ihB ih=>
  intro f;refine d9 (s:=w8) (by decide) (.inr (.inr (t6 _ _))) (Al ((AJ _ _ _).2 ⟨(AJ _ _ _).2 ⟨Ir ha _ (t6 _ _),(AJ _ _ _).2 ⟨RI ihB (Ih _ _),trivial⟩⟩,Is (ih f)⟩))
 |Hk a ha B C hB hC r hr ihB ihC ih=>
  intro f;refine d9 (s:=w8) (by decide) (.inr (.inr (t6 _ _))) (Al ((AJ _ _ _).2 ⟨(AJ _ _ _).2 ⟨Ir ha _ (t6 _ _),(AJ _ _ _).2 ⟨RI ihB (t6 _ _),Al (d9 (s:=Ba) (by decide) (.inr (.inr (t6 _ _))) (RI ihC (Ih _ _)))⟩⟩,Is (ih f)⟩))
 |each s t hs ht a ha i hi B hB r hr ihB ih=>
  intro f;have hi':HF i:=⟨hi.1,by omega⟩
  refine d9 (s:=BR) (by decide) (.inr (.inr (t6 _ _))) (Al (Ny hs (FW _ _ (by decide)) (d9 (s:=d5) (by decide) (.inr (.inr (t6 _ _))) (Al (Ny ht (t6 _ _) (Al (d9 (s:=CI) (by decide) (.inr (.inr (t6 _ _))) (Al (d9 (s:=Bw) (by decide) (.inr (.inr (FW _ _ (by decide)))) (d9 (s:=Z2) (by decide) (.inl rfl) ((AJ _ _ _).2 ⟨(AJ _ _ _).2 ⟨Ir ha _ (FW _ _ (by decide)),d9 (s:=d5) (by decide) (.inr (.inr (t6 _ _))) (Al (Vt hi' (FW _ _ (by decide)) (d9 (s:=Y1) (by decide) (.inr (.inr (t6 _ _))) (RI ihB (Ih _ _)))))⟩,Is (ih f)⟩)))))))))))
 |rep i hi B hB r hr ihB ih=>
  intro f;have hi':HF i:=⟨hi.1,by omega⟩
  refine d9 (s:=DC) (by decide) (.inr (.inr (t6 _ _))) (Al (Vt hi' (t6 _ _) ((AJ _ _ _).2 ⟨RI ihB (Ih _ _),Is (ih f)⟩)))
end Go.Proofs.YtjkhokkdgfbhcaaGreatDoor
