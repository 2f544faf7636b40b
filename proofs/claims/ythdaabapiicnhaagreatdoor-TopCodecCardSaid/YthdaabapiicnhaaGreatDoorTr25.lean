/- Steps of the proof. -/
import Derived.Test.YthdaabapiicnhaaGreatDoorTr24
set_option linter.all false
set_option maxRecDepth 100000
set_option maxHeartbeats 4000000
open Go.Proofs.Tryz
namespace Go.Proofs.YthdaabapiicnhaaGreatDoor
open Go.RowKit
structure Pt where
 L:Value
 G:List UInt8→Option Nat
 V:List UInt8→Value→World→Prop
def JB(p:Pt):Prop:=∀(a:Option Addr) (n c:Nat) (l:List UInt8) (w:World),l.length=n→n≤c→n≤1000000000→c≤9223372036854775807→(a=none→n=0∧c=0)→RdS w a l→
 Calls prog 27 #[p.L,.slice a n c] w fun e w'=>∃(v:Value) (s q:Nat),e= .returned (.tuple #[v,.int .i64 (s:Nat),.int .i64 (q:Nat)])∧Below w.heap.size w w'∧v.oneCell'=true∧(p.G l=none→q≠0)∧(∀s',p.G l=some s'→q=0∧s=s'∧s'≤n∧(∃t u,v= .iface t u)∧∀w2,Kp (fun k=>k<w.heap.size) w' w2→p.V l v w2)
def XM:List Pt→List UInt8→Option (List (List UInt8)×List UInt8)
 | [],l=>some ([],l)
 | p::ps,l=>match p.G l with
  | none=>none
  | some s=>(XM ps (l.drop s)).map fun x=>(l::x.1,x.2)
def gC{α:Type}(A:Cod α)(l:List UInt8):Option Nat:=if (A.get l).2.2=0 then some (A.get l).2.1 else none
theorem Z9{α:Type}{A:Cod α}{l:List UInt8}{s:Nat}(h:gC A l=some s):A.get l=((A.get l).1,s,0)∧s≤l.length:=by
 unfold gC at h;split at h
 ·rename_i h0;injection h with h
  have e:A.get l=((A.get l).1,s,0):=by rw[←h,←h0]
  exact⟨e,(A.put_get l _ s e).2.2.1⟩
 ·cases h
theorem Jz{α:Type}{A:Cod α}{l:List UInt8}(h:gC A l=none):(A.get l).2.2≠0:=by
 unfold gC at h;split at h
 ·cases h
 ·rename_i h0;exact h0
theorem QT{α:Type}(A:Cod α)(l:List UInt8):A.whole l=match gC A l with
  | none=>none
  | some s=>if l.drop s=[] then some (A.get l).1 else none:=by
 unfold Cod.whole;cases h:gC A l with
 | none=>rw[Qdf (fun e=>Jz h e.1)]
 | some s=>
  obtain⟨e,hs⟩:=Z9 h;simp only;rw[e];simp only[true_and];by_cases h2:s=l.length
  ·rw[Qdm h2,Qdm (by rw[h2,QeN])]
  ·rw[Qdf h2,Qdf (fun e=>by have:=QfU.1 e;omega)]
theorem Qv{α β:Type}[Inhabited α][Inhabited β](A:Cod α)(B:Cod β)(l:List UInt8):(A.pair B).whole l=match gC A l with
  | none=>none
  | some s=>(B.whole (l.drop s)).map fun y=>((A.get l).1,y):=by
 cases h:gC A l with
 | none=>
  have h0:=Jz h;unfold Cod.whole;rw[Qdf];show ¬(((A.pair B).get l).2.2=0∧_);show ¬((if (A.get l).2.2≠0 then ((default:α×β),0,(A.get l).2.2) else _).2.2=0∧_);rw[Qdm h0];exact fun e=>h0 e.1
 | some s=>
  obtain⟨e,hs⟩:=Z9 h;have e2:(A.pair B).get l=if (B.get (l.drop s)).2.2≠0 then (default,0,(B.get (l.drop s)).2.2) else (((A.get l).1,(B.get (l.drop s)).1),s+(B.get (l.drop s)).2.1,0):=by
   show (if (A.get l).2.2≠0 then _ else _)=_;rw[Qdf (by rw[e];simp)];rw[show (A.get l).2.1=s by rw[e]]
  simp only;unfold Cod.whole;have hd:(l.drop s).length=l.length-s:=Qdq;by_cases h2:(B.get (l.drop s)).2.2=0
  ·rw[Qdf (fun e=>e h2)] at e2;rw[e2];simp only[h2,true_and];by_cases h3:(B.get (l.drop s)).2.1=(l.drop s).length
   ·rw[Qdm h3,Qdm (by omega)];rfl
   ·rw[Qdf h3,Qdf (by omega)];rfl
  ·rw[Qdm h2] at e2;rw[e2,Qdf (fun e=>h2 e.1),Qdf (fun e=>h2 e.1)];rfl
def Z0(x:Value):Pt:=⟨.iface 22 x,gC (Qj 4),fun l v _=>v= .iface 22 (.int .u32 (((Qj 4).get l).1:Nat))⟩
def Vx(x:Value):Pt:=⟨.iface 23 x,gC (Qj 8),fun l v _=>v= .iface 23 (.int .u64 (((Qj 8).get l).1:Nat))⟩
def HY(C:Array Value):Pt:=⟨.iface 27 (.agg C),gC (QU 32),fun l v _=>v= .iface 27 (.agg (Qk ((QU 32).get l).1).toArray)∧((QU 32).get l).1.length=32⟩
def pHs(most:Nat)(h:most≤2147483647):Pt:=⟨.iface 155 (.agg #[.slice none 0 0,.int .u64 most]),gC (Xq most h),fun l v w=>∃s:Sl,v= .iface 155 (.agg #[slv s,.int .u64 most])∧SlV Qk ((Xq most h).get l).1 (slv s) w⟩
def NI(x:Value):Pt:=⟨.iface 24 x,fun l=>(QZ.whole l).map fun _=>l.length,fun l v w=>∃s:Sl,v= .iface 24 (slv s)∧∃x,QZ.whole l=some x∧SlV hdC (x.map (·.1)) (slv s) w⟩
def Hb(x:Value):Pt:=⟨.iface 47 x,gC Xk,fun l v w=>∃s:Sl,v= .iface 47 (slv s)∧SlV Xx (Xk.get l).1 (slv s) w⟩
def pHd(C:Array Value):Pt:=⟨.iface 30 (.agg C),gC QJ,fun l v _=>v= .iface 30 (.agg (hdC (QJ.get l).1).toArray)∧Zn (QJ.get l).1⟩
def NJ(x:Value):Pt:=⟨.iface 31 x,gC (QL 1024 (by decide)),fun l v w=>∃s:Sl,v= .iface 31 (slv s)∧CloV ((QL 1024 (by decide)).get l).1 (slv s) w⟩
def pTx(C:Array Value):Pt:=⟨.iface 52 (.agg C),gC XK,fun l v w=>∃(x0:Nat) (s1 s2:Sl) (x3:Nat),v= .iface 52 (.agg #[.int .u32 (x0:Nat),slv s1,slv s2,.int .u32 (x3:Nat)])∧TxV (XK.get l).1 [.int .u32 (x0:Nat),slv s1,slv s2,.int .u32 (x3:Nat)] w⟩
theorem MH{k:Nat}{l:List UInt8}:(gC (Qj k) l=none→l.length<k)∧∀s,gC (Qj k) l=some s→s=k∧k≤l.length:=by
 have e:(Qj k).get l=Zk k l:=rfl;unfold gC;rw[e];unfold Zk;by_cases h:l.length<k
 ·rw[Qdm h];exact⟨fun _=>h,fun s hs=>by simp at hs⟩
 ·rw[Qdf h];exact⟨fun hs=>by simp at hs,fun s hs=>⟨by simpa using hs.symm,by omega⟩⟩
theorem Cw{k:Nat}{l:List UInt8}:(gC (QU k) l=none→l.length<k)∧∀s,gC (QU k) l=some s→s=k∧k≤l.length∧((QU k).get l).1=l.take k:=by
 have e:(QU k).get l=Zh k l:=rfl;unfold gC;rw[e];unfold Zh;by_cases h:l.length<k
 ·rw[Qdm h];exact⟨fun _=>h,fun s hs=>by simp at hs⟩
 ·rw[Qdf h];exact⟨fun hs=>by simp at hs,fun s hs=>⟨by simpa using hs.symm,by omega,rfl⟩⟩
theorem SlV.kept{α:Type}{f:α→List Value}{L:List α}{v:Value}{w w2:World}{X:Nat→Prop}(h:SlV f L v w)(hg:Kp X w w2)(hb:∀k,v.ownBlock=some k→¬X k):SlV f L v w2:=by
 obtain⟨a,c,rfl,h2,h3⟩:=h;refine⟨a,c,rfl,?_,h3⟩;rcases h2 with h2|⟨g,off,rfl,h4,h5⟩
 ·exact .inl h2
 ·refine .inr ⟨g,off,rfl,Qdr h4 hg.1,fun j u hu=>?_⟩;exact (Qf5 (a:=⟨g,off+j,none⟩) (hg.2.1 g h4 (hb g rfl))).trans (h5 j u hu)
theorem CloV.kept{l:List UInt8}{v:Value}{w w2:World}{X:Nat→Prop}(h:CloV l v w)(hg:Kp X w w2)(hb:∀k,v.ownBlock=some k→¬X k):CloV l v w2:=by
 obtain⟨a,c,rfl,h2,h3⟩:=h;refine⟨a,c,rfl,?_,h3⟩;rcases h2 with h2|⟨g,off,rfl,h4,h5⟩
 ·exact .inl h2
 ·refine .inr ⟨g,off,rfl,Qdr h4 hg.1,fun j hj=>?_⟩;exact (Qf5 (a:=⟨g,off+j,none⟩) (hg.2.1 g h4 (hb g rfl))).trans (h5 j hj)
theorem Mj(x:Value):JB (Z0 x):=fun a n c l w h1 h2 h3 h4 h5 h6=>by
 refine (L3 x a n c l h1 h3 w h6).mono ?_;rintro e w' ⟨rfl,rfl⟩;refine⟨_,4,_,rfl,Below.refl _ _,rfl,fun h=>?_,fun s' h=>?_⟩
 ·exact Jz h
 ·have e:=Z9 h;have e2:=(MH.2 s' h).1;refine⟨by rw[show Zk 4 l=(Qj 4).get l from rfl,e.1],e2.symm,by rw[←h1];exact e.2,⟨_,_,rfl⟩,fun _ _=>rfl⟩
theorem Mi(x:Value):JB (Vx x):=fun a n c l w h1 h2 h3 h4 h5 h6=>by
 refine (L0 x a n c l h1 h3 w h6).mono ?_;rintro e w' ⟨rfl,rfl⟩;refine⟨_,8,_,rfl,Below.refl _ _,rfl,fun h=>?_,fun s' h=>?_⟩
 ·exact Jz h
 ·have e:=Z9 h;have e2:=(MH.2 s' h).1;refine⟨by rw[show Zk 8 l=(Qj 8).get l from rfl,e.1],e2.symm,by rw[←h1];exact e.2,⟨_,_,rfl⟩,fun _ _=>rfl⟩
theorem Ft(C:Array Value)(hC:C.size=32)(hC1:C.all (·.oneCell')=true):JB (HY C):=fun a n c l w h1 h2 h3 h4 h5 h6=>by
 refine (DF C hC hC1 a n c l h1 h2 h3 h4 w h6).mono ?_;rintro e w' ⟨hb,⟨rfl,hn⟩|⟨rfl,hn⟩⟩
 ·refine⟨_,0,1,rfl,hb,rfl,fun _=>by decide,fun s' h=>?_⟩;have:=Cw.2 s' h;omega
 ·refine⟨_,32,0,rfl,hb,rfl,fun h=>?_,fun s' h=>?_⟩
  ·have:=Cw.1 h;omega
  ·have:=Cw.2 s' h;exact⟨rfl,this.1.symm,by omega,⟨_,_,rfl⟩,fun _ _=>⟨by rw[this.2.2],by rw[this.2.2,Qds];omega⟩⟩
theorem Pn(most:Nat)(hm:most≤100000)(h:most≤2147483647):JB (pHs most h):=fun a n c l w h1 h2 h3 h4 h5 h6=>by
 refine (SX most hm a n c l h1 h2 h3 h4 w h6).mono ?_;rintro e w' ⟨v,s,q,rfl,hb,hfr,⟨⟨a2,m2,c2,rfl⟩,t1,t2⟩⟩;refine⟨_,s,q,rfl,hb,rfl,fun hn=>t2 (Jz hn),fun s' hs=>?_⟩;have e:=Z9 hs;have e':JD (Zh 32) most l=((JD (Zh 32) most l).1,s',0):=e.1;obtain⟨k1,k2,k3⟩:=t1 (by rw[e']);exact⟨k1,by rw[k2,e'],by rw[←h1];exact e.2,⟨_,_,rfl⟩,fun w2 hg=>⟨(a2,m2,c2),rfl,k3.kept hg (fun k e h=>by have:=hfr k e;omega)⟩⟩
theorem Cm(x:Value):JB (Hb x):=fun a n c l w h1 h2 h3 h4 h5 h6=>by
 refine (BL x a n c l h1 h2 h3 h4 w h6).mono ?_;rintro e w' ⟨v,s,q,rfl,hb,hfr,⟨⟨a2,m2,c2,rfl⟩,t1,t2⟩⟩;refine⟨_,s,q,rfl,hb,rfl,fun hn=>t2 (Jz hn),fun s' hs=>?_⟩;have e:=Z9 hs;obtain⟨k1,k2,k3⟩:=t1 (by rw[e.1]);exact⟨k1,by rw[k2,e.1],by rw[←h1];exact e.2,⟨_,_,rfl⟩,fun w2 hg=>⟨(a2,m2,c2),rfl,k3.kept hg (fun k e h=>by have:=hfr k e;omega)⟩⟩
theorem Cn(x:Value):JB (NI x):=fun a n c l w h1 h2 h3 h4 h5 h6=>by
 refine (BM x a n c l h1 h2 h3 h4 w h6).mono ?_;rintro e w' ⟨v,q,rfl,hb,hfr,hv⟩;refine⟨_,n,q,rfl,hb,rfl,fun hn=>?_,fun s' hs=>?_⟩
 ·unfold Rj at hv;cases hw:QZ.whole l with
  | none=>rw[hw] at hv;exact hv
  | some y=>simp[NI,hw] at hn
 ·unfold Rj at hv;cases hw:QZ.whole l with
  | none=>simp[NI,hw] at hs
  | some y=>
   rw[hw] at hv;simp[NI,hw] at hs;obtain⟨a2,c2,e1,_⟩:=hv.2;subst e1;exact⟨hv.1,by omega,by omega,⟨_,_,rfl⟩,fun w2 hg=>⟨(a2,_,c2),rfl,y,hw,hv.2.kept hg (fun k e h=>by have:=hfr k e;omega)⟩⟩
theorem Co(x:Value):JB (NJ x):=fun a n c l w h1 h2 h3 h4 h5 h6=>by
 refine (BN x a n c l h1 h2 h3 h4 h5 w h6).mono ?_;rintro e w' ⟨u,rfl,hb,hu,hfr⟩;rw[←Gu 1024 (by decide)] at hu;refine⟨_,_,_,rfl,hb,rfl,fun hn=>?_,fun s' hs=>?_⟩
 ·rw[←Gu 1024 (by decide)];exact Jz hn
 ·have e:=Z9 hs;have hu':=hu;obtain⟨a2,c2,e1,_⟩:=hu;subst e1;exact⟨by rw[←Gu 1024 (by decide),e.1],by rw[←Gu 1024 (by decide),e.1],by rw[←h1];exact e.2,⟨_,_,rfl⟩,fun w2 hg=>⟨(a2,_,c2),rfl,hu'.kept hg (fun k e h=>by have:=hfr k e;omega)⟩⟩
theorem QbP(l:List UInt8):(gC QJ l=none→l.length<80)∧∀s,gC QJ l=some s→s=80∧80≤l.length∧(QJ.get l).1=Gn (l.take 80):=by
 by_cases h:l.length<80
 ·refine⟨fun _=>h,fun s hs=>?_⟩;obtain⟨e,h1⟩:=Z9 hs;have q:=QJ.put_get l _ s e;have q2:=YJ _ q.1.2.1 q.1.2.2.1;rw[←Wt,←q.2.1] at q2;omega
 ·have q:=Wr (l.take 80) (by rw[Qds];omega);have e:=QJ.get_put (Gn (l.take 80)) (l.drop 80) q.1;rw[Wt,q.2,QeU] at e;have hl:(l.take 80).length=80:=by rw[Qds];omega
  rw[hl] at e;unfold gC;rw[e];exact⟨fun hn=>by simp at hn,fun s hs=>⟨by simpa using hs.symm,by omega,rfl⟩⟩
theorem Rv(C:Array Value)(hC:C.size=68)(hC1:C.all (·.oneCell')=true):JB (pHd C):=fun a n c l w h1 h2 h3 h4 h5 h6=>by
 refine (SW C hC hC1 a n c l h1 h2 h3 h4 w h6).mono ?_;rintro e w' ⟨rfl,hb⟩;refine⟨_,80,_,rfl,hb,rfl,fun hn=>?_,fun s' hs=>?_⟩
 ·have:=(QbP l).1 hn;unfold hdT;rw[Qdm this];exact (by decide:(1:Nat)≠0)
 ·have:=(QbP l).2 s' hs;have e:hdT l=((hdC (Gn (l.take 80))).toArray,0):=by unfold hdT;rw[Qdf (by omega)]
  rw[e];have q:=(QJ.put_get l _ s' (Z9 hs).1).1;exact⟨rfl,this.1.symm,by omega,⟨_,_,rfl⟩,fun _ _=>⟨by rw[this.2.2],q.2.1,q.2.2.1⟩⟩
theorem Qa9(C:Array Value)(hC:C.size=4)(hC1:C.all (·.oneCell')=true):JB (pTx C):=fun a n c l w h1 h2 h3 h4 h5 h6=>by
 refine (OO C hC hC1 a n c l h1 h2 h3 h4 h5 w h6).mono ?_;rintro e w' ⟨v,vi,vo,z,s,q,rfl,hb,⟨ai,mi,ci,rfl⟩,⟨ao,mo,co,rfl⟩,t1,t2⟩;refine⟨_,s,q,rfl,hb,rfl,fun hn=>t2 (Jz hn),fun s' hs=>?_⟩;have e:=Z9 hs;obtain⟨k1,k2,k3⟩:=t1 (by rw[e.1]);exact⟨k1,by rw[k2,e.1],by rw[←h1];exact e.2,⟨_,_,rfl⟩,fun w2 hg=>⟨v,(ai,mi,ci),(ao,mo,co),z,rfl,k3 w2 hg⟩⟩
end Go.Proofs.YthdaabapiicnhaaGreatDoor
namespace Go.Proofs.YthdaabapiicnhaaGreatDoor
open Go.RowKit
noncomputable def Pp(k:Nat):List Pt:=if k=0 then [Z0 (.int .u32 ((0:Nat):Int)),Vx (.int .u64 ((0:Nat):Int)),Z0 (.int .u32 ((0:Nat):Int))] else if k=1 then [] else if k=2∨k=3 then [Vx (.int .u64 ((0:Nat):Int))] else if k=4 then [Z0 (.int .u32 ((0:Nat):Int)),pHs 101 (by decide),HY (Qk (List.replicate 32 0)).toArray] else if k=5 then [NI (slv (none,0,0))] else if k=6∨k=7∨k=8 then [Hb (slv (none,0,0))] else if k=9 then [pHd (hdC hd0).toArray,Z0 (.int .u32 ((0:Nat):Int)),pHs 4096 (by decide),NJ (slv (none,0,0))] else [pTx (Mf.zero 10).txC.toArray]
noncomputable def Yk(k:Nat)(d:List (List UInt8)):Bd:=if k=0 then .ver (((Qj 4).get (d.getD 0 [])).1,((Qj 8).get (d.getD 1 [])).1,((Qj 4).get (d.getD 2 [])).1) else if k=1 then .nil else if k=2∨k=3 then .non ((Qj 8).get (d.getD 0 [])).1 else if k=4 then .ask (((Qj 4).get (d.getD 0 [])).1,((Xq 101 (by decide)).get (d.getD 1 [])).1,((QU 32).get (d.getD 2 [])).1) else if k=5 then (match QZ.whole (d.getD 0 []) with|some x=>.hds x|none=>.nil) else if k=6∨k=7∨k=8 then .its ((Xk).get (d.getD 0 [])).1 else if k=9 then .mkl (((QJ).get (d.getD 0 [])).1,((Qj 4).get (d.getD 1 [])).1,((Xq 4096 (by decide)).get (d.getD 2 [])).1,((QL 1024 (by decide)).get (d.getD 3 [])).1) else .txm ((XK).get (d.getD 0 [])).1
theorem Mx(k:Nat)(hk:k<11):(Pp k).map Pt.L=QF (Mf.zero k):=by
 rcases (show k=0∨k=1∨k=2∨k=3∨k=4∨k=5∨k=6∨k=7∨k=8∨k=9∨k=10 by omega) with rfl|rfl|rfl|rfl|rfl|rfl|rfl|rfl|rfl|rfl|rfl <;> rfl
theorem Of(h:List UInt8):(Qk h).toArray.all (·.oneCell')=true:=by rw[JJ];exact Xh _
section
attribute [local irreducible] Z0 Vx pHs HY NI Hb pHd NJ pTx
theorem Mw(k:Nat)(hk:k<11):∀p∈Pp k,JB p:=by
 have h0:=Mj (.int .u32 ((0:Nat):Int));have h1:=Mi (.int .u64 ((0:Nat):Int));have h2:=Pn 101 (by decide) (by decide);have h3:=Pn 4096 (by decide) (by decide);have h4:=Ft (Qk (List.replicate 32 0)).toArray (by rw[Qdv,Qf];rfl) (Of _);have h5:=Cn (slv (none,0,0));have h6:=Cm (slv (none,0,0));have h7:=Rv (hdC hd0).toArray (by rw[Qdv,Qt hd0 rfl rfl]) (by rw[QdX];intro u hu;exact Ws _ u (by simpa using hu));have h8:=Co (slv (none,0,0));have h9:=Qa9 (Mf.zero 10).txC.toArray rfl (by simp[Mf.txC,Mf.zero,Value.oneCell']);intro p hp;unfold Pp at hp
 repeat' split at hp
 all_goals simp only[QdW,Qf3,or_false] at hp
 ·rcases hp with rfl|rfl|rfl <;> assumption
 ·subst hp;assumption
 ·rcases hp with rfl|rfl|rfl <;> assumption
 ·subst hp;assumption
 ·subst hp;assumption
 ·rcases hp with rfl|rfl|rfl|rfl <;> assumption
 ·subst hp;assumption
end
theorem XD{α:Type}(A:Cod α)(l:List UInt8):gC A l=none∨∃s,gC A l=some s:=by
 cases gC A l with
 | none=>exact .inl rfl
 | some s=>exact .inr ⟨s,rfl⟩
def XN(k:Nat)(l:List UInt8):Prop:=match XM (Pp k) l with
 | none=>bdG k l=none
 | some (d,r)=>(r≠[]→bdG k l=none)∧(r=[]→bdG k l=some (Yk k d))
theorem ER(a b c:List UInt8):Yk 0 [a,b,c]= .ver (((Qj 4).get a).1,((Qj 8).get b).1,((Qj 4).get c).1):=by simp[Yk]
theorem Qbz:Yk 1 []= .nil:=by simp[Yk]
theorem EQ(a:List UInt8):Yk 2 [a]= .non ((Qj 8).get a).1:=by simp[Yk]
theorem EP(a:List UInt8):Yk 3 [a]= .non ((Qj 8).get a).1:=by simp[Yk]
theorem EO(a b c:List UInt8):Yk 4 [a,b,c]= .ask (((Qj 4).get a).1,((Xq 101 (by decide)).get b).1,((QU 32).get c).1):=by simp[Yk]
theorem Qby(a:List UInt8):Yk 5 [a]=(match QZ.whole a with|some x=>.hds x|none=>.nil):=by simp[Yk]
theorem EM(a:List UInt8):Yk 6 [a]= .its ((Xk).get a).1:=by simp[Yk]
theorem EL(a:List UInt8):Yk 7 [a]= .its ((Xk).get a).1:=by simp[Yk]
theorem EK(a:List UInt8):Yk 8 [a]= .its ((Xk).get a).1:=by simp[Yk]
theorem EJ(a b c e:List UInt8):Yk 9 [a,b,c,e]= .mkl (((QJ).get a).1,((Qj 4).get b).1,((Xq 4096 (by decide)).get c).1,((QL 1024 (by decide)).get e).1):=by simp[Yk]
theorem Bu(a:List UInt8):Yk 10 [a]= .txm ((XK).get a).1:=by simp[Yk]
theorem run_0(l:List UInt8):XN 0 l:=by
 unfold XN;have e:bdG 0 l=((Ka).whole l).map .ver:=rfl;rw[e];show (match XM [Z0 (.int .u32 ((0:Nat):Int)),Vx (.int .u64 ((0:Nat):Int)),Z0 (.int .u32 ((0:Nat):Int))] l with|none=>_|some (d,r)=>_);rw[show Ka=(Qj 4).pair ((Qj 8).pair (Qj 4)) from rfl];rcases XD (Qj 4) (l) with h0|⟨s0,h0⟩
 ·rw[Qv,h0];simp only[XM,Z0,Vx,h0,Option.map]
 rcases XD (Qj 8) ((l.drop s0)) with h1|⟨s1,h1⟩
 ·rw[Qv,h0];simp only;rw[Qv,h1];simp only[XM,Z0,Vx,h0,h1,Option.map]
 rcases XD (Qj 4) (((l.drop s0).drop s1)) with h2|⟨s2,h2⟩
 ·rw[Qv,h0];simp only;rw[Qv,h1];simp only;rw[QT,h2];simp only[XM,Z0,Vx,h0,h1,h2,Option.map]
 ·rw[Qv,h0];simp only;rw[Qv,h1];simp only;rw[QT,h2];simp only[XM,Z0,Vx,h0,h1,h2,Option.map];refine⟨fun h=>by rw[Qdf h] <;> rfl,fun h=>by rw[Qdm h,ER]⟩
theorem run_2(l:List UInt8):XN 2 l:=by
 unfold XN;have e:bdG 2 l=((Qj 8).whole l).map .non:=rfl;rw[e];show (match XM [Vx (.int .u64 ((0:Nat):Int))] l with|none=>_|some (d,r)=>_);rcases XD (Qj 8) (l) with h0|⟨s0,h0⟩
 ·rw[QT,h0];simp only[XM,Vx,h0,Option.map]
 ·rw[QT,h0];simp only[XM,Vx,h0,Option.map];refine⟨fun h=>by rw[Qdf h] <;> rfl,fun h=>by rw[Qdm h,EQ]⟩
theorem run_3(l:List UInt8):XN 3 l:=by
 unfold XN;have e:bdG 3 l=((Qj 8).whole l).map .non:=rfl;rw[e];show (match XM [Vx (.int .u64 ((0:Nat):Int))] l with|none=>_|some (d,r)=>_);rcases XD (Qj 8) (l) with h0|⟨s0,h0⟩
 ·rw[QT,h0];simp only[XM,Vx,h0,Option.map]
 ·rw[QT,h0];simp only[XM,Vx,h0,Option.map];refine⟨fun h=>by rw[Qdf h] <;> rfl,fun h=>by rw[Qdm h,EP]⟩
theorem run_4(l:List UInt8):XN 4 l:=by
 unfold XN;have e:bdG 4 l=((Nk).whole l).map .ask:=rfl;rw[e];show (match XM [Z0 (.int .u32 ((0:Nat):Int)),pHs 101 (by decide),HY (Qk (List.replicate 32 0)).toArray] l with|none=>_|some (d,r)=>_);rw[show Nk=(Qj 4).pair ((Xq 101 (by decide)).pair (QU 32)) from rfl];rcases XD (Qj 4) (l) with h0|⟨s0,h0⟩
 ·rw[Qv,h0];simp only[XM,HY,pHs,Z0,h0,Option.map]
 rcases XD (Xq 101 (by decide)) ((l.drop s0)) with h1|⟨s1,h1⟩
 ·rw[Qv,h0];simp only;rw[Qv,h1];simp only[XM,HY,pHs,Z0,h0,h1,Option.map]
 rcases XD (QU 32) (((l.drop s0).drop s1)) with h2|⟨s2,h2⟩
 ·rw[Qv,h0];simp only;rw[Qv,h1];simp only;rw[QT,h2];simp only[XM,HY,pHs,Z0,h0,h1,h2,Option.map]
 ·rw[Qv,h0];simp only;rw[Qv,h1];simp only;rw[QT,h2];simp only[XM,HY,pHs,Z0,h0,h1,h2,Option.map];refine⟨fun h=>by rw[Qdf h] <;> rfl,fun h=>by rw[Qdm h,EO]⟩
theorem run_6(l:List UInt8):XN 6 l:=by
 unfold XN;have e:bdG 6 l=((Xk).whole l).map .its:=rfl;rw[e];show (match XM [Hb (slv (none,0,0))] l with|none=>_|some (d,r)=>_);rcases XD (Xk) (l) with h0|⟨s0,h0⟩
 ·rw[QT,h0];simp only[XM,Hb,h0,Option.map]
 ·rw[QT,h0];simp only[XM,Hb,h0,Option.map];refine⟨fun h=>by rw[Qdf h] <;> rfl,fun h=>by rw[Qdm h,EM]⟩
theorem run_7(l:List UInt8):XN 7 l:=by
 unfold XN;have e:bdG 7 l=((Xk).whole l).map .its:=rfl;rw[e];show (match XM [Hb (slv (none,0,0))] l with|none=>_|some (d,r)=>_);rcases XD (Xk) (l) with h0|⟨s0,h0⟩
 ·rw[QT,h0];simp only[XM,Hb,h0,Option.map]
 ·rw[QT,h0];simp only[XM,Hb,h0,Option.map];refine⟨fun h=>by rw[Qdf h] <;> rfl,fun h=>by rw[Qdm h,EL]⟩
theorem run_8(l:List UInt8):XN 8 l:=by
 unfold XN;have e:bdG 8 l=((Xk).whole l).map .its:=rfl;rw[e];show (match XM [Hb (slv (none,0,0))] l with|none=>_|some (d,r)=>_);rcases XD (Xk) (l) with h0|⟨s0,h0⟩
 ·rw[QT,h0];simp only[XM,Hb,h0,Option.map]
 ·rw[QT,h0];simp only[XM,Hb,h0,Option.map];refine⟨fun h=>by rw[Qdf h] <;> rfl,fun h=>by rw[Qdm h,EK]⟩
theorem run_9(l:List UInt8):XN 9 l:=by
 unfold XN;have e:bdG 9 l=((GM).whole l).map .mkl:=rfl;rw[e];show (match XM [pHd (hdC hd0).toArray,Z0 (.int .u32 ((0:Nat):Int)),pHs 4096 (by decide),NJ (slv (none,0,0))] l with|none=>_|some (d,r)=>_);rw[show GM=(QJ).pair ((Qj 4).pair ((Xq 4096 (by decide)).pair (QL 1024 (by decide)))) from rfl];rcases XD (QJ) (l) with h0|⟨s0,h0⟩
 ·rw[Qv,h0];simp only[XM,NJ,pHd,pHs,Z0,h0,Option.map]
 rcases XD (Qj 4) ((l.drop s0)) with h1|⟨s1,h1⟩
 ·rw[Qv,h0];simp only;rw[Qv,h1];simp only[XM,NJ,pHd,pHs,Z0,h0,h1,Option.map]
 rcases XD (Xq 4096 (by decide)) (((l.drop s0).drop s1)) with h2|⟨s2,h2⟩
 ·rw[Qv,h0];simp only;rw[Qv,h1];simp only;rw[Qv,h2];simp only[XM,NJ,pHd,pHs,Z0,h0,h1,h2,Option.map]
 rcases XD (QL 1024 (by decide)) ((((l.drop s0).drop s1).drop s2)) with h3|⟨s3,h3⟩
 ·rw[Qv,h0];simp only;rw[Qv,h1];simp only;rw[Qv,h2];simp only;rw[QT,h3];simp only[XM,NJ,pHd,pHs,Z0,h0,h1,h2,h3,Option.map]
 ·rw[Qv,h0];simp only;rw[Qv,h1];simp only;rw[Qv,h2];simp only;rw[QT,h3];simp only[XM,NJ,pHd,pHs,Z0,h0,h1,h2,h3,Option.map];refine⟨fun h=>by rw[Qdf h] <;> rfl,fun h=>by rw[Qdm h,EJ]⟩
theorem Qcp(l:List UInt8):XN 10 l:=by
 unfold XN;have e:bdG 10 l=((XK).whole l).map .txm:=rfl;rw[e];show (match XM [pTx (Mf.zero 10).txC.toArray] l with|none=>_|some (d,r)=>_);rcases XD (XK) (l) with h0|⟨s0,h0⟩
 ·rw[QT,h0];simp only[XM,pTx,h0,Option.map]
 ·rw[QT,h0];simp only[XM,pTx,h0,Option.map];refine⟨fun h=>by rw[Qdf h] <;> rfl,fun h=>by rw[Qdm h,Bu]⟩
theorem run_1(l:List UInt8):XN 1 l:=by
 show (l≠[]→bdG 1 l=none)∧(l=[]→bdG 1 l=some .nil);refine⟨fun h=>?_,fun h=>by rw[h];rfl⟩;show (if l.length=0 then some Bd.nil else none)=none;rw[Qdf (fun e=>h (QdO.1 e))]
theorem run_5(l:List UInt8):XN 5 l:=by
 unfold XN;have e:bdG 5 l=(QZ.whole l).map .hds:=rfl;rw[e];show (match XM [NI (slv (none,0,0))] l with|none=>_|some (d,r)=>_);cases h:QZ.whole l with
 | none=>simp[XM,NI,h]
 | some x=>
  simp only[XM,NI,h,Option.map,QeN];refine⟨fun h=>absurd rfl h,fun _=>?_⟩;show some (Bd.hds x)=some (match QZ.whole l with|some x=>Bd.hds x|none=>Bd.nil);rw[h]
theorem QaJ(k:Nat)(hk:k<11)(l:List UInt8):XN k l:=by
 rcases (show k=0∨k=1∨k=2∨k=3∨k=4∨k=5∨k=6∨k=7∨k=8∨k=9∨k=10 by omega) with rfl|rfl|rfl|rfl|rfl|rfl|rfl|rfl|rfl|rfl|rfl
 ·exact run_0 l
 ·exact run_1 l
 ·exact run_2 l
 ·exact run_3 l
 ·exact run_4 l
 ·exact run_5 l
 ·exact run_6 l
 ·exact run_7 l
 ·exact run_8 l
 ·exact run_9 l
 ·exact Qcp l
def VAll(w:World):List Pt→List (List UInt8)→List Value→Prop
 | [],[],[]=>True
 | p::ps,d::ds,v::vs=>p.V d v w∧VAll w ps ds vs
 | _,_,_=>False
theorem VAll.add{w:World}{p:Pt}{d:List UInt8}{v:Value}(h1:p.V d v w):∀{ps:List Pt} {ds:List (List UInt8)} {vs:List Value},VAll w ps ds vs→VAll w (ps++[p]) (ds++[d]) (vs++[v])
 | [],[],[],_=>⟨h1,trivial⟩
 | q::ps,e::ds,u::vs,h=>⟨h.1,VAll.add h1 h.2⟩
 | [],_::_,_,h=>h.elim
 | [],[],_::_,h=>h.elim
 | _::_,[],_,h=>h.elim
 | _::_,_::_,[],h=>h.elim
def VX(B:Nat)(w:World)(ob:Option Nat)(ps:List Pt)(ds:List (List UInt8))(vs:List Value):Prop:=∀w2,Kp (fun k=>k<B∨ob=some k) w w2→VAll w2 ps ds vs
theorem VX.turn{B:Nat}{w w1:World}{ob:Option Nat}{ps:List Pt}{ds:List (List UInt8)}{vs:List Value}(h:VX B w ob ps ds vs)(hg:Kp (fun k=>k<B∨ob=some k) w w1):VX B w1 ob ps ds vs:=fun w2 h2=>h w2 (hg.trans h2)
theorem VX.grow{B:Nat}{w w1:World}{ob ob':Option Nat}{ps:List Pt}{ds:List (List UInt8)}{vs:List Value}(h:VX B w ob ps ds vs)(hg:w.grownBy w1 ob)(hb:∀k,ob'=some k→ob=some k∨w.heap.size≤k):VX B w1 ob' ps ds vs:=fun w2 h2=>
 h w2 ⟨Qdx hg.size h2.1,fun i hi hn=>
  (h2.2.1 i (Qdr hi hg.size) (fun e=>by
   rcases e with e|e
   ·exact hn (.inl e)
   ·rcases hb i e with e2|e2
    ·exact hn (.inr e2)
    ·omega)).trans (hg.block i hi (fun e=>hn (.inr e.symm))),h2.2.2.1.trans hg.os,h2.2.2.2.1.trans hg.tape,h2.2.2.2.2.trans hg.output⟩
def Xl(k:Nat)(d:List (List UInt8))(ps:List Value)(v:Value)(w:World):Prop:=∃m:Mf,m.ok∧(∀w2,VAll w2 (Pp k) d ps→MsgV k (Yk k d) m w2)∧Calls prog 28 #[.int .i64 (k:Nat),v] w fun e w'=>e= .returned (.agg m.cells.toArray)∧Below w.heap.size w w'
theorem VAll.nil_{w:World}{ds:List (List UInt8)}{vs:List Value}(h:VAll w [] ds vs):ds=[]∧vs=[]:=by
 match ds,vs,h with
 | [],[],_=>exact⟨rfl,rfl⟩
 | [],_::_,h=>exact h.elim
 | _::_,_,h=>exact h.elim
theorem VAll.cons_{w:World}{p:Pt}{ps:List Pt}{ds:List (List UInt8)}{vs:List Value}(h:VAll w (p::ps) ds vs):∃d es v us,ds=d::es∧vs=v::us∧p.V d v w∧VAll w ps es us:=by
 match ds,vs,h with
 | d::es,v::us,h=>exact⟨d,es,v,us,rfl,rfl,h.1,h.2⟩
 | [],_,h=>exact h.elim
 | _::_,[],h=>exact h.elim
theorem VAll.len1{w:World}{p:Pt}{ds:List (List UInt8)}{vs:List Value}(h:VAll w [p] ds vs):∃d v,ds=[d]∧vs=[v]∧p.V d v w:=by
 obtain⟨d,es,v,us,rfl,rfl,h1,h⟩:=h.cons_;obtain⟨rfl,rfl⟩:=h.nil_;exact⟨d,v,rfl,rfl,h1⟩
theorem VAll.len3{w:World}{p q r:Pt}{ds:List (List UInt8)}{vs:List Value}(h:VAll w [p,q,r] ds vs):∃d e f v x y,ds=[d,e,f]∧vs=[v,x,y]∧p.V d v w∧q.V e x w∧r.V f y w:=by
 obtain⟨d,es,v,us,rfl,rfl,h1,h⟩:=h.cons_;obtain⟨e,es,x,us,rfl,rfl,h2,h⟩:=h.cons_;obtain⟨f,es,y,us,rfl,rfl,h3,h⟩:=h.cons_;obtain⟨rfl,rfl⟩:=h.nil_;exact⟨d,e,f,v,x,y,rfl,rfl,h1,h2,h3⟩
theorem VAll.len4{w:World}{p q r s:Pt}{ds:List (List UInt8)}{vs:List Value}(h:VAll w [p,q,r,s] ds vs):∃d e f g v x y z,ds=[d,e,f,g]∧vs=[v,x,y,z]∧p.V d v w∧q.V e x w∧r.V f y w∧s.V g z w:=by
 obtain⟨d,es,v,us,rfl,rfl,h1,h⟩:=h.cons_;obtain⟨e,es,x,us,rfl,rfl,h2,h⟩:=h.cons_;obtain⟨f,es,y,us,rfl,rfl,h3,h⟩:=h.cons_;obtain⟨g,es,z,us,rfl,rfl,h4,h⟩:=h.cons_;obtain⟨rfl,rfl⟩:=h.nil_;exact⟨d,e,f,g,v,x,y,z,rfl,rfl,h1,h2,h3,h4⟩
theorem Ef{s s':Sl}(h:slv s=slv s'):s=s':=by
 obtain⟨a,b,c⟩:=s;obtain⟨a',b',c'⟩:=s';injection h with h1 h2 h3
 simp only at h1 h2 h3;rw[h1,h2,h3]
theorem Kj{t:TypeId}{s s':Sl}(h:Value.iface t (slv s)= .iface t (slv s')):s=s':=by
 injection h with _ h
 exact Ef h
theorem MW{t:TypeId}{s s':Sl}{u:Value}(h:Value.iface t (.agg #[slv s,u])= .iface t (.agg #[slv s',u])):s=s':=by
 injection h with _ h
 injection h with h
 have:=congrArg (fun a:Array Value=>a.toList.headD undef) h;exact Ef this
theorem Qcg{t:TypeId}{l l':List Value}(h:Value.iface t (.agg l.toArray)= .iface t (.agg l'.toArray)):l'=l:=by
 injection h with _ h
 injection h with h
 exact (congrArg Array.toList h).symm
theorem Yf{α:Type}{f:α→List Value}{L:List α}{v:Value}{w:World}(h:SlV f L v w):∃a c,v= .slice a L.length c:=by
 obtain⟨a,c,e,_⟩:=h;exact⟨a,c,e⟩
theorem QcR(d:List (List UInt8))(ps:List Value)(v:Value)(w:World)(hV:VAll w [Z0 (.int .u32 ((0:Nat):Int)),Vx (.int .u64 ((0:Nat):Int)),Z0 (.int .u32 ((0:Nat):Int))] d ps)(hv:SlV XP ps v w):Xl 0 d ps v w:=by
 obtain⟨d,e,f,v0,v1,v2,rfl,rfl,rfl,rfl,rfl⟩:=VAll.len3 hV;obtain⟨a,c,rfl⟩:=Yf hv;unfold Xl;rw[ER];refine⟨_,?_,fun w2 h2=>?_,DR ({Mf.zero 0 with p:=((Qj 4).get d).1,n:=((Qj 8).get e).1,h:=((Qj 4).get f).1}) ⟨rfl,rfl,rfl⟩ a c w hv⟩
 ·exact⟨rfl,rfl,rfl⟩
 ·skip
  refine⟨rfl,⟨rfl,rfl,rfl⟩,?_,⟨rfl,rfl,rfl,rfl,rfl,rfl,rfl,rfl,rfl,rfl,rfl,rfl,rfl,rfl,rfl⟩⟩;exact⟨rfl,rfl,rfl⟩
theorem QcQ(d:List (List UInt8))(ps:List Value)(v:Value)(w:World)(hV:VAll w [] d ps)(hv:SlV XP ps v w):Xl 1 d ps v w:=by
 obtain⟨rfl,rfl⟩:d=[]∧ps=[]:=by
  match d,ps,hV with
  | [],[],_=>exact⟨rfl,rfl⟩
 obtain⟨a,c,rfl⟩:=Yf hv;unfold Xl;rw[Qbz];refine⟨_,?_,fun w2 h2=>?_,DQ (Mf.zero 0) ⟨rfl,rfl,rfl⟩ a c w hv⟩
 ·exact⟨rfl,rfl,rfl⟩
 ·skip
  refine⟨rfl,⟨rfl,rfl,rfl⟩,?_,⟨rfl,rfl,rfl,rfl,rfl,rfl,rfl,rfl,rfl,rfl,rfl,rfl,rfl,rfl,rfl⟩⟩;trivial
theorem QcP(d:List (List UInt8))(ps:List Value)(v:Value)(w:World)(hV:VAll w [Vx (.int .u64 ((0:Nat):Int))] d ps)(hv:SlV XP ps v w):Xl 2 d ps v w:=by
 obtain⟨d,v0,rfl,rfl,rfl⟩:=VAll.len1 hV;obtain⟨a,c,rfl⟩:=Yf hv;unfold Xl;rw[EQ];refine⟨_,?_,fun w2 h2=>?_,DP ({Mf.zero 0 with n:=((Qj 8).get d).1}) ⟨rfl,rfl,rfl⟩ a c w hv⟩
 ·exact⟨rfl,rfl,rfl⟩
 ·skip
  refine⟨rfl,⟨rfl,rfl,rfl⟩,?_,⟨rfl,rfl,rfl,rfl,rfl,rfl,rfl,rfl,rfl,rfl,rfl,rfl,rfl,rfl,rfl⟩⟩;rfl
theorem QcO(d:List (List UInt8))(ps:List Value)(v:Value)(w:World)(hV:VAll w [Vx (.int .u64 ((0:Nat):Int))] d ps)(hv:SlV XP ps v w):Xl 3 d ps v w:=by
 obtain⟨d,v0,rfl,rfl,rfl⟩:=VAll.len1 hV;obtain⟨a,c,rfl⟩:=Yf hv;unfold Xl;rw[EP];refine⟨_,?_,fun w2 h2=>?_,DO ({Mf.zero 0 with n:=((Qj 8).get d).1}) ⟨rfl,rfl,rfl⟩ a c w hv⟩
 ·exact⟨rfl,rfl,rfl⟩
 ·skip
  refine⟨rfl,⟨rfl,rfl,rfl⟩,?_,⟨rfl,rfl,rfl,rfl,rfl,rfl,rfl,rfl,rfl,rfl,rfl,rfl,rfl,rfl,rfl⟩⟩;rfl
theorem QcN(d:List (List UInt8))(ps:List Value)(v:Value)(w:World)(hV:VAll w [Z0 (.int .u32 ((0:Nat):Int)),pHs 101 (by decide),HY (Qk (List.replicate 32 0)).toArray] d ps)(hv:SlV XP ps v w):Xl 4 d ps v w:=by
 obtain⟨d,e,f,v0,v1,v2,rfl,rfl,rfl,⟨s5,rfl,q1⟩,⟨rfl,q2⟩⟩:=VAll.len3 hV;obtain⟨a,c,rfl⟩:=Yf hv;unfold Xl;rw[EO];refine⟨_,?_,fun w2 h2=>?_,DN ({Mf.zero 0 with p:=((Qj 4).get d).1,s5:=s5,st:=((QU 32).get f).1}) ⟨q2,rfl,rfl⟩ a c w hv⟩
 ·exact⟨q2,rfl,rfl⟩
 ·obtain⟨_,⟨s5b,he,q1b⟩,_⟩:=h2;obtain rfl:=MW he;refine⟨rfl,⟨q2,rfl,rfl⟩,?_,⟨rfl,rfl,rfl,rfl,rfl,rfl,rfl,rfl,rfl,rfl,rfl,rfl,rfl,rfl,rfl⟩⟩;exact⟨rfl,q1b,rfl⟩
theorem QcM(d:List (List UInt8))(ps:List Value)(v:Value)(w:World)(hV:VAll w [NI (slv (none,0,0))] d ps)(hv:SlV XP ps v w):Xl 5 d ps v w:=by
 obtain⟨d,v0,rfl,rfl,s4,rfl,x,hx,q1⟩:=VAll.len1 hV;obtain⟨a,c,rfl⟩:=Yf hv;unfold Xl;rw[Qby];refine⟨_,?_,fun w2 h2=>?_,DM ({Mf.zero 0 with s4:=s4}) ⟨rfl,rfl,rfl⟩ a c w hv⟩
 ·exact⟨rfl,rfl,rfl⟩
 ·obtain⟨⟨s4b,he,xb,hxb,q1b⟩,_⟩:=h2;obtain rfl:=Kj he;refine⟨rfl,⟨rfl,rfl,rfl⟩,?_,⟨rfl,rfl,rfl,rfl,rfl,rfl,rfl,rfl,rfl,rfl,rfl,rfl,rfl,rfl,rfl⟩⟩;show bodyV w2 _ (match QZ.whole d with|some x=>Bd.hds x|none=>Bd.nil);rw[hxb];exact q1b
theorem QcL(d:List (List UInt8))(ps:List Value)(v:Value)(w:World)(hV:VAll w [Hb (slv (none,0,0))] d ps)(hv:SlV XP ps v w):Xl 6 d ps v w:=by
 obtain⟨d,v0,rfl,rfl,s7,rfl,q1⟩:=VAll.len1 hV;obtain⟨a,c,rfl⟩:=Yf hv;unfold Xl;rw[EM];refine⟨_,?_,fun w2 h2=>?_,DL ({Mf.zero 0 with s7:=s7}) ⟨rfl,rfl,rfl⟩ a c w hv⟩
 ·exact⟨rfl,rfl,rfl⟩
 ·obtain⟨⟨s7b,he,q1b⟩,_⟩:=h2;obtain rfl:=Kj he;refine⟨rfl,⟨rfl,rfl,rfl⟩,?_,⟨rfl,rfl,rfl,rfl,rfl,rfl,rfl,rfl,rfl,rfl,rfl,rfl,rfl,rfl,rfl⟩⟩;exact q1b
theorem QcK(d:List (List UInt8))(ps:List Value)(v:Value)(w:World)(hV:VAll w [Hb (slv (none,0,0))] d ps)(hv:SlV XP ps v w):Xl 7 d ps v w:=by
 obtain⟨d,v0,rfl,rfl,s7,rfl,q1⟩:=VAll.len1 hV;obtain⟨a,c,rfl⟩:=Yf hv;unfold Xl;rw[EL];refine⟨_,?_,fun w2 h2=>?_,DK ({Mf.zero 0 with s7:=s7}) ⟨rfl,rfl,rfl⟩ a c w hv⟩
 ·exact⟨rfl,rfl,rfl⟩
 ·obtain⟨⟨s7b,he,q1b⟩,_⟩:=h2;obtain rfl:=Kj he;refine⟨rfl,⟨rfl,rfl,rfl⟩,?_,⟨rfl,rfl,rfl,rfl,rfl,rfl,rfl,rfl,rfl,rfl,rfl,rfl,rfl,rfl,rfl⟩⟩;exact q1b
theorem QcJ(d:List (List UInt8))(ps:List Value)(v:Value)(w:World)(hV:VAll w [Hb (slv (none,0,0))] d ps)(hv:SlV XP ps v w):Xl 8 d ps v w:=by
 obtain⟨d,v0,rfl,rfl,s7,rfl,q1⟩:=VAll.len1 hV;obtain⟨a,c,rfl⟩:=Yf hv;unfold Xl;rw[EK];refine⟨_,?_,fun w2 h2=>?_,DJ ({Mf.zero 0 with s7:=s7}) ⟨rfl,rfl,rfl⟩ a c w hv⟩
 ·exact⟨rfl,rfl,rfl⟩
 ·obtain⟨⟨s7b,he,q1b⟩,_⟩:=h2;obtain rfl:=Kj he;refine⟨rfl,⟨rfl,rfl,rfl⟩,?_,⟨rfl,rfl,rfl,rfl,rfl,rfl,rfl,rfl,rfl,rfl,rfl,rfl,rfl,rfl,rfl⟩⟩;exact q1b
theorem QcI(d:List (List UInt8))(ps:List Value)(v:Value)(w:World)(hV:VAll w [pHd (hdC hd0).toArray,Z0 (.int .u32 ((0:Nat):Int)),pHs 4096 (by decide),NJ (slv (none,0,0))] d ps)(hv:SlV XP ps v w):Xl 9 d ps v w:=by
 obtain⟨d,e,f,g,v0,v1,v2,v3,rfl,rfl,⟨rfl,q0⟩,rfl,⟨s8,rfl,q1⟩,⟨s9,rfl,q2⟩⟩:=VAll.len4 hV;obtain⟨a,c,rfl⟩:=Yf hv;unfold Xl;rw[EJ];refine⟨_,?_,fun w2 h2=>?_,DH ({Mf.zero 0 with hd:=(QJ.get d).1,tot:=((Qj 4).get e).1,s8:=s8,s9:=s9}) ⟨rfl,q0⟩ a c w hv⟩
 ·exact⟨rfl,q0⟩
 ·obtain⟨_,_,⟨s8b,he,q1b⟩,⟨s9b,he2,q2b⟩,_⟩:=h2;obtain rfl:=MW he;obtain rfl:=Kj he2;refine⟨rfl,⟨rfl,q0⟩,?_,⟨rfl,rfl,rfl,rfl,rfl,rfl,rfl,rfl,rfl,rfl,rfl,rfl,rfl,rfl,rfl⟩⟩;exact⟨rfl,rfl,q1b,q2b⟩
theorem Qbq(d:List (List UInt8))(ps:List Value)(v:Value)(w:World)(hV:VAll w [pTx (Mf.zero 10).txC.toArray] d ps)(hv:SlV XP ps v w):Xl 10 d ps v w:=by
 obtain⟨d,v0,rfl,rfl,x0,s1,s2,x3,rfl,q1⟩:=VAll.len1 hV;obtain⟨a,c,rfl⟩:=Yf hv;unfold Xl;rw[Bu];refine⟨_,?_,fun w2 h2=>?_,BP ({Mf.zero 0 with x0:=x0,s1:=s1,s2:=s2,x3:=x3}) ⟨rfl,rfl,rfl⟩ a c w hv⟩
 ·exact⟨rfl,rfl,rfl⟩
 ·obtain⟨⟨y0,t1,t2,y3,he,q1b⟩,_⟩:=h2;have he:=Qcg he;refine⟨rfl,⟨rfl,rfl,rfl⟩,?_,⟨rfl,rfl,rfl,rfl,rfl,rfl,rfl,rfl,rfl,rfl,rfl,rfl,rfl,rfl,rfl⟩⟩;rw[he] at q1b;exact q1b
theorem Om(k:Nat)(hk:k<11)(d:List (List UInt8))(ps:List Value)(v:Value)(w:World)(hV:VAll w (Pp k) d ps)(hv:SlV XP ps v w):Xl k d ps v w:=by
 rcases (show k=0∨k=1∨k=2∨k=3∨k=4∨k=5∨k=6∨k=7∨k=8∨k=9∨k=10 by omega) with rfl|rfl|rfl|rfl|rfl|rfl|rfl|rfl|rfl|rfl|rfl
 ·exact QcR d ps v w hV hv
 ·exact QcQ d ps v w hV hv
 ·exact QcP d ps v w hV hv
 ·exact QcO d ps v w hV hv
 ·exact QcN d ps v w hV hv
 ·exact QcM d ps v w hV hv
 ·exact QcL d ps v w hV hv
 ·exact QcK d ps v w hV hv
 ·exact QcJ d ps v w hV hv
 ·exact QcI d ps v w hV hv
 ·exact Qbq d ps v w hV hv
end Go.Proofs.YthdaabapiicnhaaGreatDoor
namespace Go.Proofs.YthdaabapiicnhaaGreatDoor
open Go.RowKit
theorem Fy(a:Option Addr)(n c i:Nat)(hi:i≤n)(hc:n≤c)(hno:a=none→n=0∧c=0):∃a2:Option Addr,(∀w,(Instr.slice 31 (.slice a n c) (some (.int .i64 i)) none none).run prog w= .ok (.slice a2 (n-i) (c-i)) w)∧
  (∀w l,l.length=n→RdS w a l→RdS w a2 (l.drop i))∧(a2=none→n-i=0∧c-i=0):=by
 have hs:∀w,(sizeOf (prog.elem 31)).run prog w= .ok 1 w:=fun w=>by kernel_rfl
 refine⟨if c=i then a else a.map (·.add (i*1)),fun w=>?_,fun w l hl hr=>?_,fun h=>?_⟩
 ·rw[run_slice_l w 31 a n c (by kernel_rfl) .i64 i (by omega) (by omega),hs];simp[sliced]
 ·by_cases h:c=i
  ·refine .inl (QfU.2 (by omega))
  ·rw[Qdf h];rcases hr with hr|⟨g,off,rfl,h2,h3⟩
   ·exact .inl (by rw[hr];exact List.drop_nil)
   ·exact .inr ⟨g,off+i,by simp[Addr.add_mid],h2,h3.drop⟩
 ·by_cases h2:c=i
  ·omega
  ·rw[Qdf h2] at h;have ha:a=none:=by
    cases a with
    | none=>rfl
    | some x=>simp at h
   have:=hno ha;omega
theorem Qc5(k:Nat):zeroCells54.setIfInBounds 0 (.int .i64 (k:Nat))=(Mf.zero k).cells.toArray:=by
 rw[show zeroCells54=(Mf.zero 0).cells.toArray by kernel_rfl,Qdh];rfl
theorem Fc{gs:List Pt}{j:Nat}{p:Pt}(h:gs[j]? =some p)(l:List UInt8):XM (gs.drop j) l=match p.G l with
  | none=>none
  | some s=>(XM (gs.drop (j+1)) (l.drop s)).map fun x=>(l::x.1,x.2):=by
 have hj:j<gs.length:=(Qdt.1 h).1;have e:gs.drop j=p::gs.drop (j+1):=by
  rw[Qew hj];rw[Qdk hj] at h;injection h with h
  rw[h]
 rw[e];rfl
theorem J8{α:Type}{gs:List α}{j:Nat}{p:α}(h:gs[j]? =some p):gs.take (j+1)=gs.take j++[p]:=by
 rw[QeI,h];rfl
theorem Bh{o:Option TypeInfo}{z:Option Value}{s b:Nat}(h:o.map (fun i=>(i.zero,i.size,i.bytes))=some (z,s,b)):∃i,o=some i∧i.zero=z∧i.size=s∧i.bytes=b:=by
 cases o with
 | none=>cases h
 | some i=>injection h with h;injection h with h1 h2;injection h2 with h2 h3;exact⟨i,rfl,h1,h2,h3⟩
def GetP(c l:List UInt8)(m:Mf)(q:Nat)(w:World):Prop:=m.ok∧((∃k b,JH c=some k∧bdG k l=some b∧q=0∧MsgV k b m w)∨((∀k,JH c=some k→bdG k l=none)∧q≠0))
def GetI(gs:List Pt)(l:List UInt8)(w w3:World)(n j:Nat)(d:List (List UInt8))(ps:List Value)(a2:Option Addr)(n2 c2:Nat)(l2:List UInt8)(pv:Value)(wr:World):Prop:=
 ps.length=j∧l2.length=n2∧n2≤c2∧n2≤n∧c2≤9223372036854775807∧(a2=none→n2=0∧c2=0)∧RdS w a2 l2∧wr.ownsRow w3.heap.size 20 1 pv j (ps.flatMap XP)∧VX w3.heap.size wr pv.ownBlock (gs.take j) d ps∧
 XM gs l=(XM (gs.drop j) l2).map (fun x=>(d++x.1,x.2))∧Below w3.heap.size w3 wr
theorem BS(cm:List UInt8)(a:Option Addr)(n c:Nat)(l:List UInt8)(hl:l.length=n)(hc:n≤c)(hn:n≤1000000000)(hc2:c≤9223372036854775807)(hno:a=none→n=0∧c=0)(w:World)(hr:RdS w a l):
  Calls prog 7 #[.string (Xg cm),.slice a n c] w fun e w'=>∃(m:Mf) (q:Nat),e= .returned (.tuple #[.agg m.cells.toArray,.int .i64 (q:Nat)])∧Below w.heap.size w w'∧GetP cm l m q w':=by
 have hkd:=fun w=>LP cm w;have X0:Blk (w.alloc C54) w.heap.size 54 zeroCells54:=Blk.new _ _ _;have B0:Below w.heap.size w (w.alloc C54):=ba (Below.refl _ _) _;have hz0:zeroCells54=(Mf.zero 0).cells.toArray:=by kernel_rfl
 have iZ:(prog.info? 54).map (·.size)=some zeroCells54.size:=by rw[hz0];exact (Mf.zero 0).info (Mf.zero_ok 0)
 have oZ:zeroCells54.all (·.oneCell')=true:=by rw[hz0];exact (Mf.zero 0).one
 unfold Ex at hkd;have E:=H7 hkd iZ oZ hz0 hl hr hno;clear hkd iZ oZ hz0;have X:=H2 X0 B0;clear X0 B0;clear hl hr hno;cases hk:JH cm with
 | none=>
  have hkd:=E.out.1;rw[hk] at hkd;simp only at hkd;go_enter func7,ntmps7;go_wp2_with fail;refine (hkd _).mono ?_;rintro e w1 ⟨rfl,rfl⟩;go_wp2_with (with_reducible refine Ql X.out.1 _ _ _ _ rfl rfl rfl rfl E.out.2.1 rfl E.out.2.2.1 ?_);refine Qdg (v:=.tuple #[.agg zeroCells54,.int .i64 2]) ?_ rfl ⟨Mf.zero 0,2,by rw[E.out.2.2.2.1];rfl,Qb X.out.2 (Qde _) _,Mf.zero_ok 0,.inr ⟨fun k h=>(by rw[hk] at h;cases h),by decide⟩⟩;refine Eq.trans (XZ rfl _ _ w.heap.size _ _ ?_ (X.out.1.row _) underlying54 E.out.2.1) ?_ <;> rfl
 | some k=>
  have hkd:=E.out.1;rw[hk] at hkd;simp only at hkd;have hk11:=(KN hk).2;have hpar:=fun w=>Nv (Mf.zero k) (Mf.zero_ok k) hk11 w;rw[←Qc5] at hpar;go_enter func7,ntmps7;go_wp2_with fail;refine (hkd _).mono ?_;rintro e w1 ⟨rfl,rfl⟩;have K:=H2 hpar hk;clear hkd hpar hk;go_wp2_with fail;refine (K.out.1 _).mono ?_;rintro e w3 ⟨v,rfl,hb3,hv3⟩;obtain⟨N,hN⟩:=nE ((QF (Mf.zero k)).length);obtain⟨al,cl,rfl,hv4⟩:∃a c,v= .slice a N c∧SlV XP (QF (Mf.zero k)) (.slice a N c) w3:=by
   obtain⟨a,c,h1,h2⟩:=hv3;subst hN;exact⟨a,c,h1,a,c,rfl,h2⟩
  have hlik:=Mx k hk11;have htk:=Mw k hk11;have hlw:=QaJ k hk11 l;have hdn:=Om k hk11;have b3:=bt X.out.2 hb3;have x3:=X.out.1.calls hb3;have hnG:N=(Pp k).length:=by rw[hN,←hlik,QdA]
  have hN4:N≤4:=by
   rw[hN];unfold QF
   repeat' split
   all_goals simp only[QdL,Qe7] <;> omega
  obtain⟨gs,hgs⟩:=nE (Pp k);unfold XN at hlw;rw[←hgs] at hlik htk hlw hnG;unfold Xl at hdn;rw[←hgs] at hdn;rw[←hlik] at hv4;have D:=H9 hv4 htk hlw hdn b3 x3 hnG hk11 hgs;clear hv3 hv4 hb3 hlik htk hlw hdn b3 x3 hN hgs hk11;go_wp2_with fail;generalize hw3:w3=w4 at *;clear hw3;go_loopw [1,8,26] (fun r pv i wr=>∃(j:Nat) (d:List (List UInt8)) (ps:List Value) (a2:Option Addr) (n2 c2:Nat) (l2:List UInt8),j≤N∧i= .int .i64 j∧r= .slice a2 n2 c2∧GetI gs l w w4 n j d ps a2 n2 c2 l2 pv wr) (fun _ _ i _=>N-(intOf i).toNat)
  case atStart=>exact⟨0,[],[],a,n,c,l,Qdw _,rfl,rfl,rfl,E.out.2.2.2.2.1,hc,Qde _,hc2,E.out.2.2.2.2.2.2,E.out.2.2.2.2.2.1,QeJ _ _ _ _,fun _ _=>trivial,by simp,Below.refl _ _⟩
  case round=>
   obtain⟨j,d,ps,a2,n2,c2,l2,hj,rfl,rfl,hI⟩:=hrel;by_cases hlt:j<N
   ·obtain⟨p,hp⟩:∃p,gs[j]? =some p:=⟨_,Qdk (by omega)⟩;obtain⟨g,o,rfl,hgl,hcs⟩:=Jh D.out.1 (j:=j) (p:=p.L) (by rw[QdI,hp];rfl);obtain⟨f1,f2,f3,f4,f5,f6,f7,f8,f10,f11,f12⟩:=hI;have hcell:wr.cell? ⟨g,o+j,none⟩=some p.L:=(f12.cell (p:=⟨g,o+j,none⟩) hgl).trans (hcs j _ (by rw[QdI,hp];rfl));have hidx:=fun w=>XO g o N cl j hlt w;have htk:=(D.out.2.1 p (QdT hp));have htc:=htk a2 n2 c2 l2 wr f2 f3 (by omega) f5 f6 (f7.calls (bt D.out.2.2.2.2.1 f12));have hjn:(j:Int)<(N:Int):=by omega
    have R:=H11 htc True.intro f1 f2 f7 f8 True.intro f10 f11 f12 hp;clear htc htk f1 f2 f7 f8 f10 f11 f12 hp hgl hcs;obtain⟨LL,hLL⟩:=nE (p.L);have RL:=R.out.1;rw[←hLL] at hcell RL;have RL:=Lib.hid RL;clear hLL;go_upto_region 8 with fail;go_wp2_with fail;refine RL.out.mono ?_;rintro e w5 ⟨v,s,q,rfl,hb5,hone,hno,hyes⟩;clear RL hcell;cases hG:p.G l2 with
    | none=>
     have hq:¬(q:Int)=0:=by have:=hno hG;omega
     have x5:=(D.out.2.2.2.2.2.1.calls R.out.2.2.2.2.2.2.2.2.2.1).calls hb5;have y5:=bt (bt D.out.2.2.2.2.1 R.out.2.2.2.2.2.2.2.2.2.1) hb5;have hbd:bdG k l=none:=by
      have h1:=D.out.2.2.1;have h2:=R.out.2.2.2.2.2.2.2.2.1;rw[Fc R.out.2.2.2.2.2.2.2.2.2.2,hG] at h2;rw[show XM gs l=none from h2] at h1;exact h1
     have Q:=H3 x5 y5 hbd;clear x5 y5 hbd hb5 hno hyes hG hone;go_wp2_with (with_reducible refine Ql Q.out.1 _ _ _ _ rfl rfl rfl rfl E.out.2.1 rfl E.out.2.2.1 ?_);refine Qdg (v:=.tuple #[.agg zeroCells54,.int .i64 (q:Nat)]) ?_ rfl ⟨Mf.zero 0,q,by rw[E.out.2.2.2.1],Qb Q.out.2.1 (Qde _) _,Mf.zero_ok 0,.inr ⟨fun k' h=>(by rw[K.out.2] at h;injection h with h;rw[←h];exact Q.out.2.2),by omega⟩⟩;refine Eq.trans (XZ rfl _ _ w.heap.size _ _ ?_ (Q.out.1.row _) underlying54 E.out.2.1) ?_ <;> rfl
    | some s'=>
     obtain⟨rfl,rfl,hsn,⟨t,u,rfl⟩,hfr⟩:=hyes _ hG;obtain⟨a3,hs1,hs2,hs3⟩:=Fy a2 n2 c2 s hsn f3 f6;obtain⟨i0,iH,iz,is1,ib⟩:=Bh (show (prog.info? 20).map (fun i=>(i.zero,i.size,i.bytes))=some (some .nilIface,1,16) by kernel_rfl);have hown:=R.out.2.2.2.2.2.1;have o5:=Zi hown hb5;have oA:=Zi o5 (ba (Below.refl _ w5) (.cells #[.iface t u] 20));have bA:Blk (w5.alloc (.cells #[.iface t u] 20)) w5.heap.size 20 (XP (.iface t u)).toArray:=Blk.new _ _ _;have hbase:w4.heap.size≤(w5.alloc (.cells #[.iface t u] 20)).heap.size:=by
      have e1:=R.out.2.2.2.2.2.2.2.2.2.1.size;have e2:=hb5.size;simp only[Qdu];omega
     have b5:Below w4.heap.size w4 (w5.alloc (.cells #[.iface t u] 20)):=bt R.out.2.2.2.2.2.2.2.2.2.1 (ba hb5 _);have hvx:VX w4.heap.size w5 u8.ownBlock (gs.take (j+1)) (d++[l2]) (ps++[.iface t u]):=fun w2 hg=>by
      rw[J8 R.out.2.2.2.2.2.2.2.2.2.2];refine VAll.add ?_ (R.out.2.2.2.2.2.2.2.1 w2 ((QC hb5).trans hg));refine hfr w2 (hg.mono fun k hk=>?_);rcases hk with hk|hk
      ·exact Qdr hk R.out.2.2.2.2.2.2.2.2.2.1.size
      ·exact (World.ownsRow.lt hown k hk).2
     have hvxA:=hvx.turn (QC (ba (Below.refl _ w5) (.cells #[.iface t u] 20)));have hRun:XM gs l=(XM (gs.drop (j+1)) (l2.drop s)).map (fun x=>((d++[l2])++x.1,x.2)):=by
      rw[R.out.2.2.2.2.2.2.2.2.1,Fc R.out.2.2.2.2.2.2.2.2.2.2,hG];simp only[Option.map_map];congr 1;funext x;simp
     have hlo:∀k,u8.ownBlock=some k→w4.heap.size≤k:=fun k h=>(World.ownsRow.lt hown k h).1;have hbs:=Bs;have S:=H9 oA bA hbase b5 hvxA hRun hlo (hs2 w l2 R.out.2.2.2.1 R.out.2.2.2.2.1) hs3;have I:=H4 iH iz is1 ib;have hps:j≤1000000:=by omega
     clear hs2 hs3 oA bA hbase b5 hvx hvxA hRun hown o5 hb5 hno hyes hG hfr iH iz is1 ib hone hlo;go_wp2_with (at_builtin;refine PZ (f:=XP) (L:=ps) (x:=.iface t u) S.out.1 S.out.2.1 rfl _ _ 94 rfl underlying94 i0 .nilIface I.out.1 I.out.2.1 I.out.2.2.1 I.out.2.2.2 rfl (by decide) rfl (by intro y hy;simp only[XP,QeG] at hy;rw[hy];rfl) rfl rfl hps (by decide) S.out.2.2.1 ?_);intro v7 w7 o7 g7;have b7:=Qn S.out.2.2.2.1 g7.1 S.out.2.2.1 S.out.2.2.2.2.2.2.1;have vx7:=S.out.2.2.2.2.1.grow g7.1 (ob':=v7.ownBlock) (fun k h=>by
      rcases g7.2 with e|⟨k',e,h2⟩
      ·rw[e] at h;exact .inl h
      ·rw[e] at h;injection h with h;rw[←h];exact .inr h2)
     have S7:=H3 o7 b7 vx7;clear o7 b7 vx7 g7;clear hbs;go_wp2_with fail;go_roundw
     case rel=>
      refine⟨j+1,d++[l2],ps++[.iface t u],a3,n2-s,c2-s,l2.drop s,by omega,by go_num,rfl,?_⟩;have e1:=R.out.2.2.1;have e2:=R.out.2.2.2.1;exact⟨by rw[Qdj,e1];rfl,by rw[Qdq,e2],by omega,by omega,by omega,S.out.2.2.2.2.2.2.2.2,S.out.2.2.2.2.2.2.2.1,by rw[Qek,show [Value.iface t u].flatMap XP=XP (.iface t u) from QdF _];exact S7.out.1,S7.out.2.2,S.out.2.2.2.2.2.1,S7.out.2.1⟩
     case measure=>simp[intOf];omega
   ·obtain rfl:j=N:=by omega
    obtain⟨f1,f2,f3,f4,f5,f6,f7,f8,f10,f11,f12⟩:=hI;have hRun:XM gs l=some (d,l2):=by
     rw[f11,hnG,QeN];show some (d++[],l2)=_;rw[QdF]
    have hlw:=D.out.2.2.1;rw[hRun] at hlw;have x5:=D.out.2.2.2.2.2.1.calls f12;have y5:=bt D.out.2.2.2.2.1 f12;have hall:∀w2,Kp (fun k=>k<w4.heap.size∨u8.ownBlock=some k) wr w2→VAll w2 gs d ps:=fun w2 hg=>by
     have:=f10 w2 hg
     rwa [hnG,List.take_length] at this
    have hms:=D.out.2.2.2.1 d ps u8 wr (hall wr (PO _ _)) (Wj f1 f8);have hlt4:w.heap.size<w4.heap.size:=D.out.2.2.2.2.2.1.lt;have Q:=H6 x5 y5 hlw hms f2 hall;clear x5 y5 hlw hms hall hRun f1 f2 f3 f5 f6 f7 f8 f10 f11 f12;have hjj:¬(j:Int)<(j:Int):=by omega
    by_cases h0:0<n2
    ·have h0':(0:Int)<(n2:Int):=by omega
     go_wp2_with (with_reducible refine Ql Q.out.1 _ _ _ _ rfl rfl rfl rfl E.out.2.1 rfl E.out.2.2.1 ?_);have hbd:bdG k l=none:=Q.out.2.2.1.1 (fun e=>by have:=Q.out.2.2.2.2.1;rw[e] at this;simp at this;omega);refine Qdg (v:=.tuple #[.agg zeroCells54,.int .i64 2]) ?_ rfl ⟨Mf.zero 0,2,by rw[E.out.2.2.2.1];rfl,Qb Q.out.2.1 (Qde _) _,Mf.zero_ok 0,.inr ⟨fun k' h=>(by rw[K.out.2] at h;injection h with h;rw[←h];exact hbd),by decide⟩⟩;refine Eq.trans (XZ rfl _ _ w.heap.size _ _ ?_ (Q.out.1.row _) underlying54 E.out.2.1) ?_ <;> rfl
    ·have h0':¬(0:Int)<(n2:Int):=by omega
     have hbd:bdG k l=some (Yk k d):=Q.out.2.2.1.2 (QdO.1 (by have:=Q.out.2.2.2.2.1;omega));obtain⟨m,hmo,hmv,hms⟩:=Q.out.2.2.2.1;go_wp2_with fail;refine hms.mono ?_;rintro e w6 ⟨rfl,hb6⟩;have x6:=Q.out.1.calls hb6;have y6:=bt Q.out.2.1 hb6;have zM:zeroCells54.size=m.cells.toArray.size:=m.zsize hmo;have hfin:MsgV k (Yk k d) m (w6.setRow w.heap.size m.cells.toArray):=by
      refine hmv _ (by exact Q.out.2.2.2.2.2 _ ((QC hb6).trans ((KK w6 w.heap.size m.cells.toArray).mono fun k hk=>.inl (by omega))))
     have Z:=H7 x6 y6 (m.info hmo) zM m.one hfin hmo;clear x6 y6 hmv zM hb6 hmo hms hfin;obtain⟨CM,hCM⟩:=nE (m.cells.toArray);rw[←hCM] at Z ⊢;have HC:=Lib.hid hCM;clear hCM;go_wp2_with (with_reducible refine Ql Z.out.1 _ _ _ _ rfl rfl rfl rfl Z.out.2.2.1 Z.out.2.2.2.1 Z.out.2.2.2.2.1 ?_);refine Qdg (v:=.tuple #[.agg CM,.int .i64 0]) ?_ rfl ⟨m,0,by rw[HC.out];rfl,Qb Z.out.2.1 (Qde _) _,Z.out.2.2.2.2.2.2,.inl ⟨k,Yk k d,K.out.2,hbd,rfl,Z.out.2.2.2.2.2.1⟩⟩;refine Eq.trans (XZ rfl _ _ w.heap.size _ _ ?_ (Z.out.1.row _) underlying54 Z.out.2.2.1) ?_ <;> rfl
end Go.Proofs.YthdaabapiicnhaaGreatDoor
