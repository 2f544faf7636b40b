/- Steps of the proof. -/
import Derived.Test.YthdaabapiicnhaaGreatDoorTr16
set_option linter.all false
set_option maxRecDepth 100000
set_option maxHeartbeats 4000000
open Go.Proofs.Tryz
namespace Go.Proofs.YthdaabapiicnhaaGreatDoor
open Go.RowKit
theorem VU(C S:Nat)(a:Option Addr)(n c:Nat)(l:List UInt8)(hl:l.length=n)(hc:n≤c)(hn:n≤1000000000)(hc2:c≤9223372036854775807)(p e k:Nat)(hp:p≤n)(hk:k≤8)(w:World)(hC:Blk w C 211 #[.pointer (some ⟨S,0,none⟩)])(hCS:C≠S)(hS:Blk w S 213 (GD (.slice a n c) p e))(hr:RdS w a l)(hne:l≠[]→∀ad,a=some ad→ad.block≠S):
  Calls prog 83 #[.int .i64 k,.pointer (some ⟨C,0,none⟩)] w fun en w'=>en= .returned (.int .u64 ((leN (sT k l p e).1 (sT k l p e).1.length):Nat))∧Kp (fun q=>q=S) w w'∧Blk w' S 213 (GD (.slice a n c) (sT k l p e).2.1 (sT k l p e).2.2):=by
 have cT:=TD S a n c l hl hc hn hc2 p e k hp (by omega) w hS hr hne;have hle:=(Kk k l p e (by omega)).2;obtain⟨⟨r,p',e'⟩,hG⟩:∃G,G=sT k l p e:=⟨_,rfl⟩;rw[←hG] at cT hle ⊢;simp only at cT hle ⊢;have cC:w.cell? ⟨C,0,none⟩=some (.pointer (some ⟨S,0,none⟩)):=(hC.cell 0).trans rfl;have T:=Lib.hid cT;clear cT hG hS hr hne hC;go_enter func83,ntmps83;go_wp2_with fail;refine T.out.mono ?_;rintro en w2 ⟨u,m,d,rfl,hK,hS2,hm,hru,hmd⟩;have E:=H4 hru hm hK hS2;clear T hK hS2 cC hru;rw[←hm] at hle;clear hm;go_wp2_with fail;go_loopw [4,11] (fun v i wq=>∃j:Nat,j≤m∧i= .int .i64 j∧v= .int .u64 (leN r j:Nat)∧wq=w2) (fun _ i _=>m-(intOf i).toNat)
 case atStart=>exact⟨0,by omega,rfl,rfl,rfl⟩
 case round=>
  obtain⟨j,hj,rfl,rfl,rfl⟩:=hrel;by_cases hlt:j<m
  ·obtain⟨g,off,rfl,hg,hrd⟩:=Zg E.out.1 (by have:=E.out.2.1;omega);obtain⟨s,hs⟩:=nE (8*j);have hsi2:(8:Int)*(j:Int)=(s:Int):=by omega
   have pni:(j:Int)<(m:Int):=by omega
   have s64:s<64:=by omega
   obtain⟨y,hy⟩:=nE ((r.getD j 0).toNat);have hy8:y<256:=by rw[hy];exact (r.getD j 0).toNat_lt
   have c2:=hrd j (by have:=E.out.2.1;omega);rw[←hy] at c2;obtain⟨A,hA⟩:=nE (leN r j);have hA2:A<2^s:=by
    have:=XQ r j;rw[hA,hs,Qe3];exact this
   have ev:=Gc A y s hA2 hy8 (by omega);have hnx:leN r (j+1)=A+y*2^s:=by
    rw[XC,←hA,←hy,hs,Qe3]
   rw[←hA];have HX:=H6 hA hnx ev hy hs hA2;clear hA hnx ev hy hs hA2 hrd;go_wp2;obtain⟨hA,hnx,ev,hy,hs,hA2⟩:=HX.out;go_roundw
   case rel=>exact⟨j+1,by omega,by go_num,by rw[hnx,←ev,Ye y (by omega)],trivial⟩
   case measure=>simp[intOf];omega
  ·have hjm:m=j:=by omega
   subst hjm;go_wp2;exact Qdg (v:=.int .u64 (leN r m:Nat)) (by simp[results,results83,go_sem]) rfl ⟨by rw[E.out.2.1],E.out.2.2.1,E.out.2.2.2⟩
end Go.Proofs.YthdaabapiicnhaaGreatDoor
namespace Go.Proofs.YthdaabapiicnhaaGreatDoor
theorem Y6{α β:Type}[Inhabited α][Inhabited β](A:Cod α)(B:Cod β)(l:List UInt8)(h:(A.get l).2.2≠0):((A.pair B).get l).2.2≠0:=by
 show (if (A.get l).2.2≠0 then _ else _:(α×β)×Nat×Nat).2.2≠0;rw[Qdm h];exact h
theorem Xy{α β:Type}[Inhabited α][Inhabited β](A:Cod α)(B:Cod β)(l:List UInt8)(x:α)(s:Nat)(h:A.get l=(x,s,0))(h2:(B.get (l.drop s)).2.2≠0):((A.pair B).get l).2.2≠0:=by
 show (if (A.get l).2.2≠0 then _ else if (B.get (l.drop (A.get l).2.1)).2.2≠0 then _ else _:(α×β)×Nat×Nat).2.2≠0;rw[h];simp only;rw[Qdf (by simp),Qdm h2];exact h2
theorem Zz{α β:Type}[Inhabited α][Inhabited β](A:Cod α)(B:Cod β)(l:List UInt8)(x:α)(s:Nat)(y:β)(t:Nat)(h:A.get l=(x,s,0))(h2:B.get (l.drop s)=(y,t,0)):(A.pair B).get l=((x,y),s+t,0):=by
 show (if (A.get l).2.2≠0 then _ else if (B.get (l.drop (A.get l).2.1)).2.2≠0 then _ else _:(α×β)×Nat×Nat)=_;rw[h];simp only;rw[h2];rw[Qdf (by simp),Qdf (by simp)]
theorem QG(l:List UInt8)(a b:Nat):(l.drop a).drop b=l.drop (a+b):=Qei
theorem WX(k:Nat)(l:List UInt8)(p:Nat)(h:(sT k l p 0).2.2=0):(Qj k).get (l.drop p)=(leN (sT k l p 0).1 (sT k l p 0).1.length,k,0)∧(sT k l p 0).2.1=p+k∧(sT k l p 0).1.length=k:=by
 unfold sT at h ⊢;rw[Qdf (by simp)] at h ⊢;by_cases hs:l.length-p<k
 ·rw[Qdm hs] at h;cases h
 ·rw[Qdf hs];have hl:((l.drop p).take k).length=k:=by rw[Qds,Qdq];omega
  refine⟨?_,rfl,hl⟩;show Zk k (l.drop p)=_;unfold Zk;rw[Qdf (by rw[Qdq];omega)];simp only;rw[hl,Wp (l:=l.drop p) (m:=(l.drop p).take k) fun i hi=>by simp[List.getD,hi]]
theorem Ct(k:Nat)(l:List UInt8)(p:Nat)(h:(sT k l p 0).2.2=0):(QU k).get (l.drop p)=((sT k l p 0).1,k,0)∧(sT k l p 0).2.1=p+k∧(sT k l p 0).1.length=k:=by
 unfold sT at h ⊢;rw[Qdf (by simp)] at h ⊢;by_cases hs:l.length-p<k
 ·rw[Qdm hs] at h;cases h
 ·rw[Qdf hs];refine⟨?_,rfl,by rw[Qds,Qdq];omega⟩;show Zh k (l.drop p)=_;unfold Zh;rw[Qdf (by rw[Qdq];omega)]
theorem Vb(k:Nat)(l:List UInt8)(p:Nat)(h:(sT k l p 0).2.2≠0):((Qj k).get (l.drop p)).2.2≠0∧((QU k).get (l.drop p)).2.2≠0:=by
 unfold sT at h;rw[Qdf (by simp)] at h;by_cases hs:l.length-p<k
 ·constructor
  ·show (Zk k (l.drop p)).2.2≠0;unfold Zk;rw[Qdm (by rw[Qdq];omega)];exact Nat.one_ne_zero
  ·show (Zh k (l.drop p)).2.2≠0;unfold Zh;rw[Qdm (by rw[Qdq];omega)];exact Nat.one_ne_zero
 ·rw[Qdf hs] at h;exact absurd rfl h
theorem TS(k:Nat)(l:List UInt8)(p e:Nat)(h:e≠0):sT k l p e=([],p,e):=by unfold sT;rw[Qdm h]
theorem TV(l:List UInt8)(p e:Nat)(h:e≠0):sS l p e=([],p,e):=by unfold sS;rw[Qdm h]
theorem Ej(m:Nat)(l:List UInt8)(p e:Nat)(h:e≠0):sC m l p e=(0,p,e):=by unfold sC;rw[Qdm h]
theorem Ei(l:List UInt8)(p:Nat):sS l p 0=(((QL 10000 (by decide)).get (l.drop p)).1,p+((QL 10000 (by decide)).get (l.drop p)).2.1,((QL 10000 (by decide)).get (l.drop p)).2.2):=by
 unfold sS;rw[Qdf (by simp),Gu]
theorem Qck{α:Type}(x:α×Nat×Nat)(h:x.2.2=0):x=(x.1,x.2.1,0):=by rw[←h]
theorem MV:Yn=(QU 32).pair ((Qj 4).pair ((QL 10000 (by decide)).pair (Qj 4))):=rfl
theorem Rr:XK=(Qj 4).pair ((VA (XF Yn 1000 (by decide))).pair ((XF XG 1000 (by decide)).pair (Qj 4))):=rfl
theorem Qbf(l:List UInt8)(p:Nat)(D1:List UInt8)(n2:Nat)(b:List UInt8)(t3 n4:Nat)(h1:(QU 32).get (l.drop p)=(D1,32,0))(h2:(Qj 4).get (l.drop (p+32))=(n2,4,0))(h3:(QL 10000 (by decide)).get (l.drop (p+32+4))=(b,t3,0))(h4:(Qj 4).get (l.drop (p+32+4+t3))=(n4,4,0)):
  Yn.get (l.drop p)=((D1,n2,b,n4),32+(4+(t3+4)),0):=by
 rw[←QG] at h4;have g3:=Zz (QL 10000 (by decide)) (Qj 4) (l.drop (p+32+4)) b t3 n4 4 h3 h4;rw[←QG] at g3;have g2:=Zz (Qj 4) ((QL 10000 (by decide)).pair (Qj 4)) (l.drop (p+32)) n2 4 (b,n4) (t3+4) h2 g3;rw[←QG] at g2;rw[MV];exact Zz (QU 32) ((Qj 4).pair ((QL 10000 (by decide)).pair (Qj 4))) (l.drop p) D1 32 (n2,b,n4) (4+(t3+4)) h1 g2
def sIn(l:List UInt8)(p e:Nat):ZT×Nat×Nat:=
 let a:=sT 32 l p e
 let b:=sT 4 l a.2.1 a.2.2
 let c:=sS l b.2.1 b.2.2
 let d:=sT 4 l c.2.1 c.2.2
 ((a.1++List.replicate (32-a.1.length) 0,leN b.1 b.1.length,c.1,leN d.1 d.1.length),d.2.1,d.2.2)
theorem QaI(l:List UInt8)(p:Nat)(h:(sIn l p 0).2.2≠0):(Yn.get (l.drop p)).2.2≠0:=by
 unfold sIn at h;simp only at h;by_cases h1:(sT 32 l p 0).2.2=0
 ·have e1:=Ct 32 l p h1;rw[h1,e1.2.1] at h;refine Xy _ _ _ _ _ e1.1 ?_;rw[QG];by_cases h2:(sT 4 l (p+32) 0).2.2=0
  ·have e2:=WX 4 l (p+32) h2;rw[h2,e2.2.1,Ei] at h;refine Xy _ _ _ _ _ e2.1 ?_;rw[QG];simp only at h;by_cases h3:((QL 10000 (by decide)).get (l.drop (p+32+4))).2.2=0
   ·rw[h3] at h;refine Xy _ _ _ _ _ (Qck _ h3) ?_;rw[QG];exact (Vb 4 l _ h).1
   ·exact Y6 _ _ _ h3
  ·exact Y6 _ _ _ (Vb 4 l _ h2).1
 ·exact Y6 _ _ _ (Vb 32 l p h1).2
theorem Ms(l:List UInt8)(p:Nat)(h:(sIn l p 0).2.2=0):∃t,Yn.get (l.drop p)=((sIn l p 0).1,t,0)∧(sIn l p 0).2.1=p+t:=by
 have hb:∀e,e≠0→∀k q,(sT k l q e).2.2≠0:=fun e he k q=>by rw[TS _ _ _ _ he];exact he
 unfold sIn at h ⊢;simp only at h ⊢;by_cases h1:(sT 32 l p 0).2.2=0
 ·have e1:=Ct 32 l p h1;rw[h1,e1.2.1] at h ⊢;by_cases h2:(sT 4 l (p+32) 0).2.2=0
  ·have e2:=WX 4 l (p+32) h2;rw[h2,e2.2.1,Ei] at h ⊢;simp only at h ⊢;by_cases h3:((QL 10000 (by decide)).get (l.drop (p+32+4))).2.2=0
   ·rw[h3] at h ⊢;have e4:=WX 4 l _ h;have e3:=Qck _ h3;generalize hB:(QL 10000 (by decide)).get (l.drop (p+32+4))=B3 at h h3 e3 e4 ⊢;rw[e3] at hB;obtain⟨b,t3,e0⟩:=B3;simp only at hB e4 ⊢;generalize sT 4 l (p+32+4+t3) 0=D4 at e4 ⊢;generalize (sT 4 l (p+32) 0).1=D2 at e2 ⊢;generalize (sT 32 l p 0).1=D1 at e1 ⊢;have g1:=Qbf l p D1 (leN D2 D2.length) b t3 (leN D4.1 D4.1.length) e1.1 e2.1 hB e4.1;refine⟨32+(4+(t3+4)),g1.trans ?_,?_⟩
    ·rw[e1.2.2,Qe9,List.replicate_zero,QdF]
    ·rw[e4.2.1];omega
   ·exact absurd h (hb _ h3 _ _)
  ·rw[TV _ _ _ h2] at h;exact absurd h (hb _ h2 _ _)
 ·rw[TS _ _ _ _ h1] at h;rw[TV _ _ _ h1] at h;exact absurd h (hb _ h1 _ _)
def R8(l:List UInt8)(p e:Nat):J5×Nat×Nat:=
 let a:=sT 8 l p e
 let c:=sS l a.2.1 a.2.2
 ((leN a.1 a.1.length,c.1),c.2.1,c.2.2)
theorem Mr(l:List UInt8)(p:Nat)(h:(R8 l p 0).2.2≠0):(XG.get (l.drop p)).2.2≠0:=by
 unfold R8 at h;simp only at h;by_cases h1:(sT 8 l p 0).2.2=0
 ·have e1:=WX 8 l p h1;rw[h1,e1.2.1,Ei] at h;refine Xy _ _ _ _ _ e1.1 ?_;rw[QG];exact h
 ·exact Y6 _ _ _ (Vb 8 l p h1).1
theorem Fz(l:List UInt8)(p:Nat)(h:(R8 l p 0).2.2=0):∃t,XG.get (l.drop p)=((R8 l p 0).1,t,0)∧(R8 l p 0).2.1=p+t:=by
 unfold R8 at h ⊢;simp only at h ⊢;by_cases h1:(sT 8 l p 0).2.2=0
 ·have e1:=WX 8 l p h1;rw[h1,e1.2.1,Ei] at h ⊢;simp only at h ⊢;have g1:=Zz (Qj 8) (QL 10000 (by decide)) (l.drop p) _ _ _ _ e1.1 (by rw[QG];exact Qck _ h);exact⟨_,g1,by omega⟩
 ·rw[TV _ _ _ h1] at h;exact absurd h h1
def TxA(l:List UInt8)(v N p:Nat):Prop:=∃Z,(Qj 4).get l=(v,4,0)∧Qg (l.drop 4) 1000=(N,Z,0)∧N≠0∧p=4+Z
def Zd(l:List UInt8):Prop:=(XK.get l).2.2≠0
theorem H1{α:Type}(A:Cod α)(most:Nat)(hm:most≤2147483647)(l:List UInt8)(N Z:Nat)(X:List α)(s:Nat)(h0:Qg l most=(N,Z,0))(h:QW A.get N (l.drop Z) [] 0=(X,s,0)):(XF A most hm).get l=(X,Z+s,0):=by
 have:=GI A.get most l X s (by rw[h0]) (by rw[h0];exact h);rw[h0] at this;exact this
theorem Ek{α:Type}(A:Cod α)(most:Nat)(hm:most≤2147483647)(l:List UInt8)(N Z:Nat)(h0:Qg l most=(N,Z,0))(h:(QW A.get N (l.drop Z) [] 0).2.2≠0):((XF A most hm).get l).2.2≠0:=by
 refine WZ A.get most l (by rw[h0]) ?_;rw[h0];intro e;exact h ((VM _ _ _).1.trans e)
theorem RI{α:Type}(A:Cod α)(most:Nat)(hm:most≤2147483647)(l:List UInt8)(h:(Qg l most).2.2≠0):((XF A most hm).get l).2.2≠0:=Ko A.get most l h
theorem Td{α:Type}(A:Cod (List α))(l:List UInt8)(h:(A.get l).2.2≠0):((VA A).get l).2.2≠0:=by
 show (if (A.get l).2.2≠0 then _ else _:List α×Nat×Nat).2.2≠0;rw[Qdm h];exact h
theorem Fw{α:Type}(A:Cod (List α))(l:List UInt8)(s:Nat)(h:A.get l=([],s,0)):((VA A).get l).2.2≠0:=by
 show (if (A.get l).2.2≠0 then _ else if (A.get l).1=[] then ([],0,2) else _:List α×Nat×Nat).2.2≠0;rw[h];rw[Qdf (by simp),Qdm rfl];exact (by decide:(2:Nat)≠0)
theorem Cq{α:Type}(A:Cod (List α))(l:List UInt8)(X:List α)(s:Nat)(h:A.get l=(X,s,0))(hX:X≠[]):(VA A).get l=(X,s,0):=by
 show (if (A.get l).2.2≠0 then _ else if (A.get l).1=[] then ([],0,2) else A.get l:List α×Nat×Nat)=_;rw[h];rw[Qdf (by simp),Qdf hX]
theorem Qa7(l:List UInt8)(h:((Qj 4).get l).2.2≠0):Zd l:=Y6 _ _ _ h
theorem Qa6(l:List UInt8)(v:Nat)(h:(Qj 4).get l=(v,4,0))(h2:(Qg (l.drop 4) 1000).2.2≠0):Zd l:=
 Xy _ _ _ _ _ h (Y6 _ _ _ (Td _ _ (RI _ _ _ _ h2)))
theorem Qa5(l:List UInt8)(v Z:Nat)(h:(Qj 4).get l=(v,4,0))(h2:Qg (l.drop 4) 1000=(0,Z,0)):Zd l:=
 Xy _ _ _ _ _ h (Y6 _ _ _ (Fw _ _ _ (H1 Yn 1000 (by decide) _ 0 Z [] 0 h2 (Z5 _ _ _ _))))
theorem Qa4(l:List UInt8)(v N p:Nat)(h:TxA l v N p)(h2:(QW Yn.get N (l.drop p) [] 0).2.2≠0):Zd l:=by
 obtain⟨Z,h3,h4,h5,rfl⟩:=h;exact Xy _ _ _ _ _ h3 (Y6 _ _ _ (Td _ _ (Ek _ _ _ _ _ _ h4 (by rw[QG];exact h2))))
theorem Mg(l:List UInt8)(v N p:Nat)(X:List ZT)(s:Nat)(h:TxA l v N p)(h2:QW Yn.get N (l.drop p) [] 0=(X,s,0))(hX:X.length=N):∃t,(VA (XF Yn 1000 (by decide))).get (l.drop 4)=(X,t,0)∧p+s=4+t∧(Qj 4).get l=(v,4,0):=by
 obtain⟨Z,h3,h4,h5,rfl⟩:=h;refine⟨Z+s,Cq _ _ _ _ (H1 _ _ _ _ _ _ _ _ h4 (by rw[QG];exact h2)) ?_,by omega,h3⟩;intro e;rw[e] at hX;exact h5 hX.symm
theorem Qa3(l:List UInt8)(v N p:Nat)(X:List ZT)(s:Nat)(h:TxA l v N p)(h2:QW Yn.get N (l.drop p) [] 0=(X,s,0))(hX:X.length=N)(h3:(Qg (l.drop (p+s)) 1000).2.2≠0):Zd l:=by
 obtain⟨t,h4,h5,h6⟩:=Mg l v N p X s h h2 hX;rw[h5] at h3;exact Xy _ _ _ _ _ h6 (Xy _ _ _ _ _ h4 (Y6 _ _ _ (RI _ _ _ _ (by rw[QG];exact h3))))
def BT(l:List UInt8)(v:Nat)(X:List ZT)(M q:Nat):Prop:=∃t Z,(Qj 4).get l=(v,4,0)∧(VA (XF Yn 1000 (by decide))).get (l.drop 4)=(X,t,0)∧Qg (l.drop (4+t)) 1000=(M,Z,0)∧q=4+t+Z
theorem tx_b2(l:List UInt8)(v N p:Nat)(X:List ZT)(s M Z:Nat)(h:TxA l v N p)(h2:QW Yn.get N (l.drop p) [] 0=(X,s,0))(hX:X.length=N)(h3:Qg (l.drop (p+s)) 1000=(M,Z,0)):BT l v X M (p+s+Z):=by
 obtain⟨t,h4,h5,h6⟩:=Mg l v N p X s h h2 hX;rw[h5] at h3 ⊢;exact⟨t,Z,h6,h4,h3,rfl⟩
theorem Qa2(l:List UInt8)(v:Nat)(X:List ZT)(M q:Nat)(h:BT l v X M q)(h2:(QW XG.get M (l.drop q) [] 0).2.2≠0):Zd l:=by
 obtain⟨t,Z,h3,h4,h5,rfl⟩:=h;exact Xy _ _ _ _ _ h3 (Xy _ _ _ _ _ h4 (Y6 _ _ _ (Ek _ _ _ _ M Z (by rw[QG];exact h5) (by rw[QG,QG,←Qeb];exact h2))))
theorem Qa1(l:List UInt8)(v:Nat)(X:List ZT)(M q:Nat)(Y:List J5)(s:Nat)(h:BT l v X M q)(h2:QW XG.get M (l.drop q) [] 0=(Y,s,0))(h3:((Qj 4).get (l.drop (q+s))).2.2≠0):Zd l:=by
 obtain⟨t,Z,h4,h5,h6,rfl⟩:=h;have hr:=H1 XG 1000 (by decide) (l.drop (4+t)) M Z Y s h6 (by rw[QG];exact h2);rw[show 4+t+Z+s=4+t+(Z+s) by omega,←QG] at h3;have g3:=Xy (XF XG 1000 (by decide)) (Qj 4) (l.drop (4+t)) Y (Z+s) hr h3;rw[←QG] at g3;have g2:=Xy (VA (XF Yn 1000 (by decide))) ((XF XG 1000 (by decide)).pair (Qj 4)) (l.drop 4) X t h5 g3;unfold Zd;rw[Rr];exact Xy (Qj 4) ((VA (XF Yn 1000 (by decide))).pair ((XF XG 1000 (by decide)).pair (Qj 4))) l v 4 h4 g2
theorem Qa0(l:List UInt8)(v:Nat)(X:List ZT)(M q:Nat)(Y:List J5)(s z:Nat)(h:BT l v X M q)(h2:QW XG.get M (l.drop q) [] 0=(Y,s,0))(h3:(Qj 4).get (l.drop (q+s))=(z,4,0)):XK.get l=((v,X,Y,z),q+s+4,0):=by
 obtain⟨t,Z,h4,h5,h6,rfl⟩:=h;have hr:=H1 XG 1000 (by decide) (l.drop (4+t)) M Z Y s h6 (by rw[QG];exact h2);rw[show 4+t+Z+s=4+t+(Z+s) by omega,←QG] at h3;have g3:=Zz (XF XG 1000 (by decide)) (Qj 4) (l.drop (4+t)) Y (Z+s) z 4 hr h3;rw[←QG] at g3;have g2:=Zz (VA (XF Yn 1000 (by decide))) ((XF XG 1000 (by decide)).pair (Qj 4)) (l.drop 4) X t (Y,z) (Z+s+4) h5 g3;have g1:=Zz (Qj 4) ((VA (XF Yn 1000 (by decide))).pair ((XF XG 1000 (by decide)).pair (Qj 4))) l v 4 (X,Y,z) (t+(Z+s+4)) h4 g2;rw[show 4+(t+(Z+s+4))=4+t+(Z+s)+4 by omega] at g1;rw[show 4+t+Z+s=4+t+(Z+s) by omega,Rr];exact g1
end Go.Proofs.YthdaabapiicnhaaGreatDoor
namespace Go.Proofs.YthdaabapiicnhaaGreatDoor
open Go.RowKit
def AfterC(R:World→World→Prop)(w w':World):Prop:=∃w1 w2,Below w.heap.size w w1∧R w1 w2∧Below w2.heap.size w2 w'
def ReachC(R:World→World→Prop)(w w':World):Prop:=Below w.heap.size w w'∨AfterC R w w'
theorem AfterC.step{R:World→World→Prop}{w w' w'':World}(h:AfterC R w w')(hb:Below w'.heap.size w' w''):AfterC R w w'':=by
 obtain⟨w1,w2,h1,h2,h3⟩:=h;exact⟨w1,w2,h1,h2,bt h3 hb⟩
def QbW(P:Program)(Q:Exit→Act→World→Prop)(R:World→World→Prop)(c:Nat)(w0:World)(dsts:List (Option Tmp))(F:Nat→Value→World→Prop)(a0:Act)(i:Nat)(o:Oper):Prop:=
 (Nat.beq i c=false∧((GOk F dsts o false∧∀w,F i undef w)∨
  (GOk F dsts o true∧∀(A:Act) w' (γ:Nat→Value),ReachC R w0 w'→(∀j,(Qr o).contains j=true→F j (γ j) w')→YC dsts γ a0 o A→
   o.wp P A w' (fun a' w''=>∃u,a'=A.put o.dst u∧Below w'.heap.size w' w''∧F i u w'') Q)))∨
 (i=c∧GOk F dsts o true∧∀(A:Act) w' (γ:Nat→Value),Below w0.heap.size w0 w'→(∀j,(Qr o).contains j=true→F j (γ j) w')→YC dsts γ a0 o A→
  o.wp P A w' (fun a' w''=>∃u,a'=A.put o.dst u∧R w' w''∧F i u w'') Q)
theorem TK{P:Program}{Q:Exit→Act→World→Prop}{id:Nat}{l:List Oper}{a:Act}{w:World}(R:World→World→Prop)(c n:Nat)(hcn:Nat.blt c n=true)(dsts:List (Option Tmp))(F:Nat→Value→World→Prop)
  (hF:∀j u w1 w2,F j u w1→Below w1.heap.size w1 w2→F j u w2)
  (hFR:∀j u w1 w2,Nat.beq j c=false→F j u w1→R w1 w2→F j u w2)
  (hm:P.follows .mixedOrders=true) (hds:l.map (·.dst)=dsts) (hnd:Y9 dsts=true) (hord:ordGo 0 l=true) (hin:inD a.tmps.size dsts=true)
  (hnl:Nat.ble n l.length=true) (htail:((List.range l.length).all fun i=>Nat.blt i n||(List.range i).all fun j=>(YZ l i (QQ l i)).contains j)=true)
  (step:StepAll (QbW P Q R c w dsts F a) 0 (l.take n))
  (fin:∀γ w',AfterC R w w'→(∀j,j<n→F j (γ j) w')→wpList P l.toArray Q (l.drop n) (Fr γ (fun j=>Nat.blt j n) dsts 0 a) w'):(Code.region id l.toArray true).wp P Q a w:=by
 have hnl2:n≤l.length:=Qdn hnl;have hlen:dsts.length=l.length:=by rw[←hds,QdA]
 refine wp_region_any hm ?_;refine ZU (fun listed a' w'=>listed.size=l.length∧
  (
   ((∀j,n≤j→listed.getD j false=false)∧(∀i,listed.getD i false=true→∀j∈QQ l i,listed.getD j false=true)∧∃γ:Nat→Value,a'=Fr γ (fun j=>listed.getD j false) dsts 0 a∧((listed.getD c false=false∧Below w.heap.size w w')∨(listed.getD c false=true∧AfterC R w w'))∧∀j,listed.getD j false=true→F j (γ j) w')∨
   ((∀i,listed.getD i false=true→∀j∈QQ l i,listed.getD j false=true)∧∃m,n≤m∧m≤l.length∧(∀j,j<l.length→listed.getD j false=Nat.blt j m)∧wpList P l.toArray Q (l.drop m) a' w'))) ?_ ?_ l.toArray.size _ _ _ ?_ ?_
 ·rintro listed a' w' i ⟨hsz,hI⟩ hr;obtain⟨h0,o,ho,hall⟩:=mem_ready.1 hr;have ho':l[i]? =some o:=by simpa using ho
  have hlt:i<l.length:=(Qdt.1 ho').1;have hLi:listed.getD i false=false:=by
   have:i<listed.size:=by omega
   simp[this] at h0 ⊢;exact h0
  have hdep:∀j,(Qr o).contains j=true→listed.getD j false=true:=fun j hj=>by
   obtain⟨e,he1,he2⟩:=QdZ.1 (QdD.1 hj);obtain⟨he3,he4⟩:=Qey.1 he1;rw[←he2];exact hall e (by simpa using he3) (by simpa using he4)
  have hset:∀j,(listed.setIfInBounds i true).getD j false=if j=i then true else listed.getD j false:=fun j=>by
   by_cases e:j=i
   ·subst e;have:j<listed.size:=by omega
    simp[this]
   ·rw[getD_set_ne false (Ne.symm e),Qdf e]
  have hei:QQ l i=Qr o:=by unfold QQ;rw[ho']
  have hclo:(∀i,listed.getD i false=true→∀j∈QQ l i,listed.getD j false=true)→∀k,(listed.setIfInBounds i true).getD k false=true→∀j∈QQ l k,(listed.setIfInBounds i true).getD j false=true:=fun hc k hk j hj=>by
   rw[hset] at hk ⊢;by_cases e:j=i
   ·rw[Qdm e]
   ·rw[Qdf e];by_cases e2:k=i
    ·subst e2;rw[hei] at hj;exact hdep j (QdD.2 hj)
    ·rw[Qdf e2] at hk;exact hc k hk j hj
  have hbefore:n≤i→(∀i,listed.getD i false=true→∀j∈QQ l i,listed.getD j false=true)→∀j,j<i→listed.getD j false=true:=fun hni hc j hj=>by
   have h1:=QdG.1 htail i (QeA.2 hlt);have h2:Nat.blt i n=false:=by
    cases e:Nat.blt i n with
    | false=>rfl
    | true=>have:=Qdn e;omega
   rw[h2,Bool.false_or] at h1;have h3:=QdG.1 h1 j (QeA.2 hj);exact Ve l (fun j=>listed.getD j false) hc i (QQ l i) (fun j hj=>by rw[hei] at hj;exact hdep j (QdD.2 hj)) j (QdD.1 h3)
  have hd:dsts[i]? =some o.dst:=by rw[←hds,QdI,ho'];rfl
  rcases hI with ⟨hnone,hc,γ,rfl,hb,hFs⟩|⟨hc,m,hnm,hml,hlist,hw⟩
  ·by_cases hin2:i<n
   ·have hSF:YC dsts γ a o (Fr γ (fun j=>listed.getD j false) dsts 0 a):=
     ⟨fun j hj t ht=>Z6 γ _ t j (hdep j hj) dsts 0 a hnd (Qdw _) (by simpa using ht) (YA hin ht),fun t ht=>ZL γ _ t dsts 0 a ht⟩
    have hwant:∀{b},GOk F dsts o b→Region.wanted o (yielded l.toArray (Fr γ (fun j=>listed.getD j false) dsts 0 a).tmps)=b:=fun h=>
     h.wanted hds (fun j hj=>hFs j (hdep j hj)) (fun j hj t ht=>⟨by rw[Vt];exact YA hin ht,hSF.1 j hj t ht⟩)
    have hon:(fun j=>(listed.setIfInBounds i true).getD j false)=onL (fun j=>listed.getD j false) i:=by
     funext j;rw[hset];unfold onL;by_cases e:j=i
     ·subst e;simp
     ·simp[e]
    have key:∀u w'',((listed.setIfInBounds i true).getD c false=false∧Below w.heap.size w w''∨(listed.setIfInBounds i true).getD c false=true∧AfterC R w w'')→(∀j,j≠i→listed.getD j false=true→F j (γ j) w'')→F i u w''→(listed.setIfInBounds i true).size=l.length∧(((∀j,n≤j→(listed.setIfInBounds i true).getD j false=false)∧(∀k,(listed.setIfInBounds i true).getD k false=true→∀j∈QQ l k,(listed.setIfInBounds i true).getD j false=true)∧∃γ':Nat→Value,(Fr γ (fun j=>listed.getD j false) dsts 0 a).put o.dst u=Fr γ' (fun j=>(listed.setIfInBounds i true).getD j false) dsts 0 a∧((listed.setIfInBounds i true).getD c false=false∧Below w.heap.size w w''∨(listed.setIfInBounds i true).getD c false=true∧AfterC R w w'')∧∀j,(listed.setIfInBounds i true).getD j false=true→F j (γ' j) w'')∨
      ((∀k,(listed.setIfInBounds i true).getD k false=true→∀j∈QQ l k,(listed.setIfInBounds i true).getD j false=true)∧∃m,n≤m∧m≤l.length∧(∀j,j<l.length→(listed.setIfInBounds i true).getD j false=Nat.blt j m)∧wpList P l.toArray Q (l.drop m) ((Fr γ (fun j=>listed.getD j false) dsts 0 a).put o.dst u) w'')):=by
     intro u w'' hb2 hothers hFu;refine⟨by simpa using hsz,.inl ⟨fun j hj=>?_,hclo hc,fun j=>if j=i then u else γ j,?_,hb2,fun j hj=>?_⟩⟩
     ·rw[hset,Qdf (by omega)];exact hnone j hj
     ·rw[hon,P2 _ _ i hLi dsts 0 a o.dst hnd (Qdw _) (by simpa using hd)];simp only[QdC];congr 1;refine Xo _ _ _ _ dsts 0 a fun j _ _=>⟨rfl,fun hj=>?_⟩;by_cases e:j=i
      ·subst e;rw[hLi] at hj;cases hj
      ·simp[e]
     ·rw[hset] at hj;by_cases e:j=i
      ·subst e;simpa using hFu
      ·rw[Qdf e] at hj;simp only[e,QdV];exact hothers j e hj
    have st:=step.at i o (by rw[QeP,Qdm hin2];exact ho');simp only[Qd5] at st;unfold wpOp;rw[ho];rcases st with ⟨hic,st⟩|⟨rfl,hg,hq⟩
    ·have hci:c≠i:=fun e=>by subst e;simp at hic
     have hlc:(listed.setIfInBounds i true).getD c false=listed.getD c false:=by rw[hset,Qdf hci]
     have hreach:ReachC R w w':=hb.elim (fun h=>.inl h.2) (fun h=>.inr h.2);have hnext:∀w'',Below w'.heap.size w' w''→((listed.setIfInBounds i true).getD c false=false∧Below w.heap.size w w''∨(listed.setIfInBounds i true).getD c false=true∧AfterC R w w''):=fun w'' hb2=>by
      rw[hlc];rcases hb with ⟨h1,h2⟩|⟨h1,h2⟩
      ·exact .inl ⟨h1,bt h2 hb2⟩
      ·exact .inr ⟨h1,h2.step hb2⟩
     rcases st with ⟨hg,hu⟩|⟨hg,hq⟩
     ·simp only[hwant hg,QdN,QdV];exact key undef w' (hnext w' (Below.refl _ _)) (fun j _ hj=>hFs j hj) (hu w')
     ·simp only[hwant hg,QdC];left;refine Oper.wp_mono ?_ (hq _ w' γ hreach (fun j hj=>hFs j (hdep j hj)) hSF);rintro a'' w'' ⟨u,rfl,hbel,hFu⟩;exact key u w'' (hnext w'' hbel) (fun j _ hj=>hF j _ _ _ (hFs j hj) hbel) hFu
    ·have hbel0:Below w.heap.size w w':=by
      rcases hb with ⟨_,h2⟩|⟨h1,_⟩
      ·exact h2
      ·rw[hLi] at h1;cases h1
     simp only[hwant hg,QdC];left;refine Oper.wp_mono ?_ (hq _ w' γ hbel0 (fun j hj=>hFs j (hdep j hj)) hSF);rintro a'' w'' ⟨u,rfl,hRR,hFu⟩;refine key u w'' (.inr ⟨by rw[hset,Qdm rfl],w',w'',hbel0,hRR,Below.refl _ _⟩) (fun j hj hjl=>hFR j _ _ _ ?_ (hFs j hjl) hRR) hFu;cases e:Nat.beq j i with
     | false=>rfl
     | true=>exact absurd (Qd7 e) hj
   ·have hbef:=hbefore (by omega) hc;have hieq:i=n:=by
     rcases Qfy i n with h|h|h
     ·omega
     ·exact h
     ·have h1:=hbef n h;rw[hnone n (Qde _)] at h1;cases h1
    subst hieq;have e:Fr γ (fun j=>listed.getD j false) dsts 0 a=Fr γ (fun j=>Nat.blt j i) dsts 0 a:=by
     refine Xo _ _ _ _ dsts 0 a fun j _ hj=>⟨?_,fun _=>rfl⟩;by_cases h:j<i
     ·rw[hbef j h];exact (Qd4 h).symm
     ·rw[hnone j (by omega)];cases e:Nat.blt j i with
      | false=>rfl
      | true=>have:=Qdn e;omega
    have hlc:listed.getD c false=true:=hbef c (Qdn hcn);have hb:AfterC R w w':=by
     rcases hb with ⟨h1,_⟩|⟨_,h2⟩
     ·rw[hlc] at h1;cases h1
     ·exact h2
    have hw:=fin γ w' hb (fun j hj=>hFs j (hbef j hj));rw[←e,Qew hlt,show l[i]=o by rw[Qdk hlt] at ho';injection ho'] at hw;refine wpOp_mono ?_ (show wpOp P l.toArray Q i (wpList P l.toArray Q (l.drop (i+1))) _ w' from ?_)
    ·intro a'' w'' hh;refine⟨by simpa using hsz,.inr ⟨hclo hc,i+1,by omega,by omega,fun j hj=>?_,hh⟩⟩;rw[hset];by_cases e1:j=i
     ·subst e1;rw[Qdm rfl];exact (Qd4 (Qde _)).symm
     ·rw[Qdf e1];by_cases h:j<i
      ·rw[hbef j h];exact (Qd4 (show j+1≤i+1 by omega)).symm
      ·rw[hnone j (by omega)];cases e:Nat.blt j (i+1) with
       | false=>rfl
       | true=>have:=Qdn e;omega
    ·unfold wpOp;rw[ho];exact hw
  ·have him:i=m:=by
    rcases Qfy i m with h|h|h
    ·rw[hlist i hlt,show Nat.blt i m=true from Qd4 h] at hLi;cases hLi
    ·exact h
    ·have hbef:=hbefore (by omega) hc m h;rw[hlist m (by omega)] at hbef;have:=Qdn hbef;omega
   subst him;rw[Qew hlt,show l[i]=o by rw[Qdk hlt] at ho';injection ho'] at hw;refine wpOp_mono ?_ (show wpOp P l.toArray Q i (wpList P l.toArray Q (l.drop (i+1))) _ w' from ?_)
   ·intro a'' w'' hh;refine⟨by simpa using hsz,.inr ⟨hclo hc,i+1,by omega,by omega,fun j hj=>?_,hh⟩⟩;rw[hset];by_cases e1:j=i
    ·subst e1;rw[Qdm rfl];exact (Qd4 (Qde _)).symm
    ·rw[Qdf e1,hlist j hj];by_cases h:j<i
     ·rw[show Nat.blt j i=true from Qd4 h];exact (Qd4 (show j+1≤i+1 by omega)).symm
     ·have e3:Nat.blt j i=false:=by
       cases e:Nat.blt j i with
       | false=>rfl
       | true=>have:=Qdn e;omega
      rw[e3];cases e:Nat.blt j (i+1) with
      | false=>rfl
      | true=>have:=Qdn e;omega
   ·unfold wpOp;rw[ho];exact hw
 ·rintro listed a' w' ⟨hsz,hI⟩ hr;have hall:∀n i,i<n→i<l.length→listed.getD i false=true:=by
   intro n;induction n with
   | zero=>intro i hi;omega
   | succ n ih=>
    intro i hin' hi;cases hL:listed.getD i false with
    | true=>rfl
    | false=>
     exfalso;have hmem:i∈Region.ready .any l.toArray listed:=by
      refine mem_ready.2 ⟨?_,l[i],by simp[hi],fun e he hb=>?_⟩
      ·have:i<listed.size:=by omega
       simp[this] at hL ⊢;exact hL
      ·have hlt:=ordGo.at hord i l[i] (by simp[hi]) e.on (QdZ.2 ⟨e,Qey.2 ⟨by simpa using he,by simpa using hb⟩,rfl⟩);exact ih e.on (by omega) (by omega)
     rw[hr] at hmem;cases hmem
  rcases hI with ⟨hnone,hc,γ,rfl,hb,hFs⟩|⟨hc,m,hnm,hml,hlist,hw⟩
  ·have hln:l.length≤n:=by
    rcases Qee n l.length with h|h
    ·have h1:=hall (n+1) n (by omega) h;rw[hnone n (Qde _)] at h1;cases h1
    ·exact h
   have hsm:l.length=n:=by omega
   have e:Fr γ (fun j=>listed.getD j false) dsts 0 a=Fr γ (fun j=>Nat.blt j n) dsts 0 a:=
    Xo _ _ _ _ dsts 0 a fun j _ hj=>⟨by rw[hall (j+1) j (by omega) (by omega)];exact (Qd4 (show j+1≤n by omega)).symm,fun _=>rfl⟩
   have hlc:listed.getD c false=true:=hall (c+1) c (by omega) (by have:c+1≤n:=Qdn hcn;omega);have hb:AfterC R w w':=by
    rcases hb with ⟨h1,_⟩|⟨_,h2⟩
    ·rw[hlc] at h1;cases h1
    ·exact h2
   have hw:=fin γ w' hb (fun j hj=>hFs j (hall (j+1) j (by omega) (by omega)));rw[←e,QdY hln] at hw;exact hw
  ·have hlm:l.length≤m:=by
    rcases Qee m l.length with h|h
    ·have h1:=hall (m+1) m (by omega) h;rw[hlist m h] at h1;have:=Qdn h1;omega
    ·exact h
   rw[QdY hlm] at hw;exact hw
 ·unfold unl;exact Qdx (QeS _ _) (by simp)
 ·have e:∀j,(Array.replicate l.toArray.size false).getD j false=false:=fun j=>by
   simp only[QdK,Qeg];split <;> rfl
  refine⟨by simp,.inl ⟨fun j _=>e j,fun i hi=>(by rw[e] at hi;cases hi),fun _=>undef,?_,.inl ⟨e c,(Below.refl _ _).drew⟩,fun j hj=>(by rw[e] at hj;cases hj)⟩⟩;have:∀(r:List (Option Tmp)) (k:Nat),Fr (fun _=>undef) (fun j=>(Array.replicate l.toArray.size false).getD j false) r k a=a:=by
   intro r;induction r with
   | nil=>intro k;rfl
   | cons d r ih=>
    intro k;unfold Fr;rw[e k];exact ih (k+1)
  exact (this dsts 0).symm
theorem JW{P:Program}{Q:Exit→Act→World→Prop}{id:Nat}{l:List Oper}{a:Act}{w:World}(R:World→World→Prop)(c n:Nat)(hcn:Nat.blt c n=true)(dsts:List (Option Tmp))(F:Nat→Value→World→Prop)
  (hF:∀j u w1 w2,F j u w1→Below w1.heap.size w1 w2→F j u w2)
  (hFR:∀j u w1 w2,Nat.beq j c=false→F j u w1→R w1 w2→F j u w2)
  (hm:P.follows .mixedOrders=true) (hds:l.map (·.dst)=dsts) (hnd:Y9 dsts=true) (hord:ordGo 0 l=true) (hin:inD a.tmps.size dsts=true)
  (hnl:Nat.ble n l.length=true) (htail:((List.range l.length).all fun i=>Nat.blt i n||(List.range i).all fun j=>(YZ l i (QQ l i)).contains j)=true)
  (step:StepAll (QbW P Q R c w dsts F a) 0 (l.take n))
  (fin:∀γ w',AfterC R w w'→(∀j,j<n→F j (γ j) w')→wpList P l.toArray Q (l.drop n) (Fr γ (fun _=>true) (dsts.take n) 0 a) w'):(Code.region id l.toArray true).wp P Q a w:=
 TK R c n hcn dsts F hF hFR hm hds hnd hord hin hnl htail step fun γ w' hb hf=>by
  rw[Rl γ n dsts n 0 a (by omega)];exact fin γ w' hb hf
theorem Qbn{P:Program}{Q:Exit→Act→World→Prop}{o:Oper}{A:Act}{w:World}{R:World→World→Prop}{G:VP}(f:FuncId)(args:Array Value)(hrun:(execOp A.eval o).run P w= .ok (.enter f args) w)(h:Calls P f args w fun e w'=>∃u,e= .returned u∧R w w'∧G u w'):
  o.wp P A w (fun a' w''=>∃u,a'=A.put o.dst u∧R w w''∧G u w'') Q:=by
 unfold Oper.wp;rw[hrun,Oper.upon_enter];refine h.mono fun e w'' hh=>?_;obtain⟨u,rfl,hb,hG⟩:=hh;exact⟨u,rfl,hb,hG⟩
theorem Kp.wide{X Y:Nat→Prop}{A W W':World}(h:Kp X A W)(k:Kp Y W W')(hx:∀g,Y g→X g∨A.heap.size≤g):Kp X A W':=
 ⟨Qdx h.1 k.1,fun i hi hn=>(k.2.1 i (Qdr hi h.1) fun hy=>(hx i hy).elim hn (by omega)).trans (h.2.1 i hi hn),k.2.2.1.trans h.2.2.1,k.2.2.2.1.trans h.2.2.2.1,k.2.2.2.2.trans h.2.2.2.2⟩
theorem PO(X:Nat→Prop)(W:World):Kp X W W:=QC (Below.refl _ _)
theorem KK(W:World)(b:Nat)(cs:Array Value):Kp (fun k=>k=b) W (W.setRow b cs):=
 ⟨by simp[World.setRow],fun k hk h=>by simp[World.setRow,QeR,show b≠k from fun e=>h e.symm],rfl,rfl,rfl⟩
def RowL{α:Type}(B:Nat)(ty:TypeId)(K:Nat)(f:α→Value→List Value)(sc:α→List UInt8)(L:List (α×Value))(v:Value)(W:World):Prop:=
 W.ownsRow B ty K v L.length (L.flatMap fun x=>f x.1 x.2)∧∀x∈L,SlO (fun k=>B≤k∧some k≠v.ownBlock) (sc x.1) x.2 W
theorem RowL.nil{α:Type}(B:Nat)(ty:TypeId)(K:Nat)(f:α→Value→List Value)(sc:α→List UInt8)(W:World):RowL B ty K f sc [] (.slice none 0 0) W:=⟨QeJ _ _ _ _,fun x h=>by cases h⟩
theorem RowL.keep{α:Type}{B:Nat}{ty:TypeId}{K:Nat}{f:α→Value→List Value}{sc:α→List UInt8}{L:List (α×Value)}{v:Value}{W W':World}{X:Nat→Prop}(h:RowL B ty K f sc L v W)(k:Kp X W W')(hx:∀g,B≤g→¬X g):RowL B ty K f sc L v W':=
 ⟨Hf h.1 k fun g hg=>hx g (h.1.lt g hg).1,fun x hm=>(h.2 x hm).keep k fun g hg=>hx g hg.1⟩
theorem RowL.calls{α:Type}{B:Nat}{ty:TypeId}{K:Nat}{f:α→Value→List Value}{sc:α→List UInt8}{L:List (α×Value)}{v:Value}{W W':World}(h:RowL B ty K f sc L v W)(hb:Below W.heap.size W W'):RowL B ty K f sc L v W':=
 h.keep (X:=fun _=>False) (QC hb) fun _ _ hf=>hf
theorem RowL.push{α:Type}{B:Nat}{ty:TypeId}{K:Nat}{f:α→Value→List Value}{sc:α→List UInt8}{L:List (α×Value)}{v v' s:Value}{W W':World}{x:α}(h:RowL B ty K f sc L v W)(hc:SlO (fun k=>B≤k∧some k≠v.ownBlock) (sc x) s W)
  (hg:Grow W v W' v') (ho:W'.ownsRow B ty K v' (L.length+1) ((L++[(x,s)]).flatMap fun x=>f x.1 x.2)):RowL B ty K f sc (L++[(x,s)]) v' W':=by
 have key:∀y u,SlO (fun k=>B≤k∧some k≠v.ownBlock) y u W→SlO (fun k=>B≤k∧some k≠v'.ownBlock) y u W':=fun y u hy=>by
  have h2:SlO (fun k=>(B≤k∧some k≠v'.ownBlock)∧some k≠v.ownBlock) y u W:=hy.mono fun g hgl hO=>⟨⟨hO.1,fun e=>hg.off hgl (fun e2=>hO.2 e2.symm) e.symm⟩,hO.2⟩;exact (h2.keep (Yw hg.1) fun g hO=>hO.2).mono fun g _ hO=>hO.1
 refine⟨by rw[Qdj];exact ho,fun y hy=>?_⟩;rcases Qfi.1 hy with hy|hy
 ·exact key _ _ (h.2 y hy)
 ·obtain rfl:=QeG.1 hy;exact key _ _ hc
theorem RowL.rows{α:Type}{B:Nat}{ty:TypeId}{K:Nat}{f:α→Value→List Value}{sc:α→List UInt8}{L:List (α×Value)}{v:Value}{W:World}(h:RowL B ty K f sc L v W):RowS f sc (L.map (·.1)) v W:=
 ⟨L,rfl,fun x hx=>(h.2 x hx).clo,Wj rfl h.1⟩
theorem RowL.slice{α:Type}{B:Nat}{ty:TypeId}{K:Nat}{f:α→Value→List Value}{sc:α→List UInt8}{L:List (α×Value)}{v:Value}{W:World}(h:RowL B ty K f sc L v W):∃a c,v= .slice a L.length c:=Ya h.1
theorem PZ{P:Program}{α:Type}{f:α→List Value}{L:List α}{w:World}{ops:Array Oper}{rest:List Oper}{o:Oper}{a:Act}{Q:Exit→Act→World→Prop}{base size bytes n:Nat}{e:TypeId}{v:Value}(hown:w.ownsRow base e size v n (L.flatMap f)){g:Nat}{x:α}(hb:Blk w g e (f x).toArray)
  (hgd:o.guard=none) (s y:Operand) (t:TypeId) (ho:o.op= .call {callee:=.builtin .append,args:=#[s,y],argTypes:=#[t,t]}) (ht:P.underlying t=some (.slice e)) (i:TypeInfo) (z:Value) (hi:P.info? e=some i) (hz:i.zero=some z) (hsize:i.size=size) (hby:i.bytes=bytes) (hzs:z.cells.size=size) (hsz:0<size)
  (hlen:(f x).length=size) (h1:∀u∈f x,u.oneCell'=true) (hs:a.eval s=v) (hx:a.eval y= .slice (some ⟨g,0,none⟩) 1 1) (hn:n≤1000000) (hbb:bytes≤10000) (hbase:base≤w.heap.size)
  (k:∀v' w',w'.ownsRow base e size v' (n+1) ((L++[x]).flatMap f)→Grow w v w' v'→wpList P ops Q rest (a.put o.dst v') w'):wpList P ops Q (o::rest) a w:=by
 refine wpList_append_own_at w hgd s y t ho base e i z size bytes ht hi hz hsize hby hzs hsz v n (L.flatMap f) hs hown ⟨g,0,none⟩ 1 1 (f x) hx (by rw[hlen,Nat.one_mul]) (fun j u hu=>?_) h1 (by unfold maxLen;omega) ?_ hbase fun v' w' h3 h4 h5 h6=>?_
 ·rw[Addr.add_mid,Qd5];exact Qz hb j _ (by rw[Qdp];exact hu)
 ·have:(n+1)*bytes≤1000001*10000:=Nat.mul_le_mul (by omega) hbb;omega
 ·refine k v' w' ?_ ⟨h4,h6.imp id fun e=>⟨_,e,Qde _⟩⟩;rw[Qek];simpa using h3
theorem ReachC.blk{S:Nat}{w w':World}(h:ReachC (Kp fun k=>k=S) w w'){g:Nat}{t:TypeId}{cs:Array Value}(hb:Blk w g t cs)(hne:g≠S):Blk w' g t cs:=by
 rcases h with h|⟨w1,w2,h1,h2,h3⟩
 ·exact hb.calls h
 ·exact (h2.blk (hb.calls h1) hne).calls h3
theorem AfterC.kp{S:Nat}{w w':World}(h:AfterC (Kp fun k=>k=S) w w'):Kp (fun k=>k=S) w w':=by
 obtain⟨w1,w2,h1,h2,h3⟩:=h;exact (((QC h1).trans h2)).trans (QC h3)
theorem Qax{P:Program}{w w1:World}{ops:Array Oper}{rest:List Oper}{o:Oper}{a:Act}{Q:Exit→Act→World→Prop}{u v r:Value}(hgd:o.guard=none)(x y:Operand)(t1 t2:TypeId)(ho:o.op= .call {callee:=.builtin .copy,args:=#[x,y],argTypes:=#[t1,t2]})(hx:a.eval x=u)(hy:a.eval y=v)
  (hrun:(Builtin.copy_ #[t1,t2] o.type #[u,v]).run P w= .ok r w1) (k:wpList P ops Q rest (a.put o.dst r) w1):wpList P ops Q (o::rest) a w:=by
 refine QfB hgd fun K hK=>?_;have hr:(execOp a.eval o).run P w= .ok (.value r) w1:=by
  generalize a.eval=ρ at *;unfold execOp;simp[ho,hx,hy,hrun,go_sem]
 unfold Oper.wp;rw[hr];exact hK _ _ k
theorem Qbs(g m d:Nat)(u:Option Addr)(r:List UInt8)(hm:m=r.length)(hr32:r=[]∨r.length=32)(w:World)(hb:Blk w g 217 (inC (List.replicate 32 0,0,[],0) (.slice none 0 0)).toArray)(hr:RdS w u r)(ty:TypeId):
  ∃w',(Builtin.copy_ #[31,31] ty #[.slice (some ⟨g,0,none⟩) 32 32,.slice u m d]).run prog w= .ok (.int .i64 m) w'∧Blk w' g 217 (inC (r++List.replicate (32-r.length) 0,0,[],0) (.slice none 0 0)).toArray∧Kp (fun k=>k=g) w w':=by
 subst hm;rcases hr32 with rfl|h32
 ·cases u with
  | none=>exact⟨w,run_copy_none w _ _ ty 5 _ _ _ _ _ _ underlying31 (by kernel_rfl) (by simp),hb,PO _ _⟩
  | some ad=>exact⟨w,run_copy_none w _ _ ty 5 _ _ _ _ _ _ underlying31 (by kernel_rfl) (by simp),hb,PO _ _⟩
 ·rcases hr with hr|⟨gs,off,rfl,_,hrd⟩
  ·rw[hr] at h32;cases h32
  ·rw[h32];have h:=KY g gs off d 0 (inC (List.replicate 32 0,0,[],0) (.slice none 0 0)) r h32 (by simp[inC,Qk]) 217 w hb hrd (ty:=ty);refine⟨_,h,(hb.row _).to ?_,KK _ _ _⟩;rw[Qfb,QdU,Qe9,List.replicate_zero,QdF,Qd5];unfold inC;rw[List.drop_left' (by rw[Qf,QeV])];rfl
end Go.Proofs.YthdaabapiicnhaaGreatDoor
