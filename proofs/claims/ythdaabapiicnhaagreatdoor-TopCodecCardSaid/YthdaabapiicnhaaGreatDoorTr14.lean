/- Steps of the proof. -/
import Derived.Test.YthdaabapiicnhaaGreatDoorTr13
set_option linter.all false
set_option maxRecDepth 100000
set_option maxHeartbeats 4000000
open Go.Proofs.Tryz
namespace Go.Proofs.YthdaabapiicnhaaGreatDoor
open Go.RowKit
def QW{α:Type}(A:List UInt8→α×Nat×Nat)(k:Nat)(r:List UInt8)(X:List α)(s:Nat):List α×Nat×Nat:=
 if (Xu A k r).2.2≠0 then ([],0,(Xu A k r).2.2) else (X++(Xu A k r).1,s+(Xu A k r).2.1,0)
theorem VM{α:Type}(A:List UInt8→α×Nat×Nat)(k:Nat)(r:List UInt8):(QW A k r [] 0).2.2=(Xu A k r).2.2∧((Xu A k r).2.2=0→QW A k r [] 0=Xu A k r):=by
 unfold QW;by_cases h:(Xu A k r).2.2=0
 ·rw[Qdf (Qeh h)];exact⟨h.symm,fun _=>by rw[QdU,Qd5,←h]⟩
 ·rw[Qdm h];exact⟨rfl,fun h2=>absurd h2 h⟩
theorem Z5{α:Type}(A:List UInt8→α×Nat×Nat)(r:List UInt8)(X:List α)(s:Nat):QW A 0 r X s=(X,s,0):=by
 show (if (0:Nat)≠0 then _ else (X++[],s+0,0))=_;rw[Qdf (by simp),QdF,Qea]
theorem Wy{α:Type}(A:List UInt8→α×Nat×Nat)(k:Nat)(r:List UInt8)(X:List α)(s:Nat)(x:α)(t:Nat)(h:A r=(x,t,0)):QW A (k+1) r X s=QW A k (r.drop t) (X++[x]) (s+t):=by
 unfold QW;have e:Xu A (k+1) r=if (Xu A k (r.drop t)).2.2≠0 then ([],0,(Xu A k (r.drop t)).2.2) else (x::(Xu A k (r.drop t)).1,t+(Xu A k (r.drop t)).2.1,0):=by
  show (if (A r).2.2≠0 then _ else _)=_;rw[h,Qdf (by simp)]
 rw[e];by_cases h2:(Xu A k (r.drop t)).2.2=0
 ·rw[Qdf (Qeh h2),Qdf (by simp),Qdf (Qeh h2),Qd0,Qeb];rfl
 ·rw[Qdm h2,Qdm h2,Qdm h2]
theorem Nc{α:Type}(A:List UInt8→α×Nat×Nat)(k:Nat)(r:List UInt8)(X:List α)(s:Nat)(h:(A r).2.2≠0):(QW A (k+1) r X s).2.2≠0:=by
 have e:Xu A (k+1) r=([],0,(A r).2.2):=by
  show (if (A r).2.2≠0 then _ else _)=_;rw[Qdm h]
 unfold QW;rw[e,Qdm h];exact h
theorem QcE(r:List UInt8)(h:80<r.length)(hz:r.getD 80 0=0):(QJ.pair QV).get r=((Gn (r.take 80),()),81,0):=by
 have e1:=Lc (r.take 80) (by rw[Qds];omega) (r.drop 80);rw[QeU] at e1;show (if (QJ.get r).2.2≠0 then _ else if (QV.get (r.drop (QJ.get r).2.1)).2.2≠0 then _ else _)=_;rw[e1];have e2:QV.get (r.drop 80)=((),1,0):=by
  show Rn (r.drop 80)=_;unfold Rn;rw[Qdf (by rw[Qdq];omega),Qdf (by rw[JK];simpa using hz)]
 simp only[e2];rw[Qdf (by simp),Qdf (by simp)]
theorem QbN(r:List UInt8)(h:r.length≤80∨r.getD 80 0≠0):((QJ.pair QV).get r).2.2≠0:=by
 intro h0;have q:=(QJ.pair QV).put_get r _ _ (show (QJ.pair QV).get r=(((QJ.pair QV).get r).1,((QJ.pair QV).get r).2.1,0) by rw[←h0]);obtain⟨⟨y,u⟩,hy⟩:∃y,y=((QJ.pair QV).get r).1:=⟨_,rfl⟩;rw[←hy] at q;have hp:(QJ.pair QV).put (y,u)=hdB y++[0]:=by
  show QJ.put y++[0]=_;rw[Wt]
 have hok:Zn y:=⟨q.1.1.2.1,q.1.1.2.2.1⟩;have hl:=YJ y hok.1 hok.2;rw[hp] at q;have hlen:(hdB y++[0]).length=81:=by rw[Qdj,hl];rfl
 have h1:81≤r.length:=by have:=q.2.2.1;have:=q.2.1;omega
 rcases h with h|h
 ·omega
 ·apply h;rw[q.2.2.2,Qd0];simp[List.getD,QdB,hl]
theorem Fg(a:Option Addr)(c:Nat)(l:List UInt8)(hl:l.length=80)(hc:80≤c)(w:World)(hr:RdS w a l):
  Calls prog 53 #[.slice a 80 c] w fun e w'=>e= .returned (.tuple #[.agg (hdC (Gn l)).toArray,.int .i64 0])∧Below w.heap.size w w':=
 (Qap a 80 c l hl hc (by decide) w hr).mono fun e w' ⟨C,he,hb,hC⟩=>⟨by rw[he,hC rfl];rfl,hb⟩
def Rj(l:List UInt8)(v:Value)(q:Nat)(w:World):Prop:=
 match QZ.whole l with
 | some x=>q=0∧SlV hdC (x.map (·.1)) v w
 | none=>q≠0
theorem FY(l:List UInt8)(h:(Qg l 2000).2.2≠0):QZ.whole l=none:=by
 unfold Cod.whole;have e:QZ.get l=([],0,(Qg l 2000).2.2):=by
  show (if (Qg l 2000).2.2≠0 then _ else _)=_;rw[Qdm h]
 rw[e,Qdf (fun hh=>h hh.1)]
theorem MX(l:List UInt8)(h:(Qg l 2000).2.2=0):QZ.whole l=if (Xu (QJ.pair QV).get (Qg l 2000).1 (l.drop (Qg l 2000).2.1)).2.2=0∧(Qg l 2000).2.1+(Xu (QJ.pair QV).get (Qg l 2000).1 (l.drop (Qg l 2000).2.1)).2.1=l.length then some (Xu (QJ.pair QV).get (Qg l 2000).1 (l.drop (Qg l 2000).2.1)).1 else none:=by
 unfold Cod.whole;have e:QZ.get l=if (Xu (QJ.pair QV).get (Qg l 2000).1 (l.drop (Qg l 2000).2.1)).2.2≠0 then ([],0,(Xu (QJ.pair QV).get (Qg l 2000).1 (l.drop (Qg l 2000).2.1)).2.2) else ((Xu (QJ.pair QV).get (Qg l 2000).1 (l.drop (Qg l 2000).2.1)).1,(Qg l 2000).2.1+(Xu (QJ.pair QV).get (Qg l 2000).1 (l.drop (Qg l 2000).2.1)).2.1,0):=by
  show (if (Qg l 2000).2.2≠0 then _ else _)=_;rw[Qdf (Qeh h)]
 rw[e];generalize Xu (QJ.pair QV).get (Qg l 2000).1 (l.drop (Qg l 2000).2.1)=R;by_cases h2:R.2.2=0
 ·rw[Qdf (Qeh h2)];simp only[h2,true_and]
 ·rw[Qdm h2,Qdf (fun hh=>h2 hh.1),Qdf (fun hh=>h2 hh.1)]
theorem Cb(a:Option Addr)(n c:Nat)(l:List UInt8)(hl:l.length=n)(hc:n≤c)(hn:n≤1000000000)(hc2:c≤9223372036854775807)(w:World)(hr:RdS w a l):
  Calls prog 54 #[.slice a n c] w fun e w'=>∃(v:Value) (q:Nat),e= .returned (.tuple #[v,.int .i64 (q:Nat)])∧Below w.heap.size w w'∧(∀k,v.ownBlock=some k→w.heap.size≤k)∧Rj l v q w':=by
 have cB:=Zp a n c 2000 (by decide) l hl (by omega) w hr;have hty:=ZW l 2000;have hno:=FY l;have heq:=MX l;obtain⟨⟨N,S,E⟩,hG⟩:∃G,G=Qg l 2000:=⟨_,rfl⟩;rw[←hG] at cB hty hno heq;simp only at cB hty hno heq;have hN2:E=0→N≤2000:=fun h=>(YI (show Qg l 2000=(N,S,0) by rw[←hG,h])).1;have C:=H7 cB hno heq hty hr hl hN2;clear cB hno heq hG hty hr hl hN2;go_enter func54,ntmps54;go_wp2_with fail;refine C.out.1.mono ?_;rintro e w' ⟨rfl,rfl⟩;by_cases hE:E=0
 ·subst hE;have hNS:=C.out.2.2.2.1.2 rfl;rw[C.out.2.2.2.2.2.1] at hNS;have N31:=hNS.1;have Sn:=hNS.2;have N2:=C.out.2.2.2.2.2.2 rfl;obtain⟨W,hW⟩:=nE (QZ.whole l);have heq:=C.out.2.2.1 rfl;obtain⟨RG,hRG⟩:=nE (Xu (QJ.pair QV).get N (l.drop S));rw[←hRG,←hW,C.out.2.2.2.2.2.1] at heq;have hcs:=VM (QJ.pair QV).get N (l.drop S);rw[←hRG] at hcs;obtain⟨aS,hsl,hsr,hsn⟩:=WV a n c S Sn hc l C.out.2.2.2.2.2.1;have hrS:=hsr w' C.out.2.2.2.2.1;have hlS:(l.drop S).length=n-S:=by rw[Qdq,C.out.2.2.2.2.2.1]
  have bad:(QW (QJ.pair QV).get N (l.drop S) [] 0).2.2≠0→W=none:=fun h=>by
   rw[heq,Qdf (fun hh=>h (hcs.1.trans hh.1))]
  have good:∀X s,QW (QJ.pair QV).get N (l.drop S) [] 0=(X,s,0)→W=if S+s=n then some X else none:=fun X s h=>by
   have h0:RG.2.2=0:=by rw[←hcs.1,h]
   have e:=hcs.2 h0;rw[h] at e;rw[heq,←e];simp only[true_and]
  obtain⟨CG,hCG⟩:=nE (QW (QJ.pair QV).get N (l.drop S) [] 0);rw[←hCG] at bad good;obtain⟨iH,hi,hz0,hz1,hz2⟩:=info_parts (show (prog.info? 30).map (fun i=>(i.zero,i.size,i.bytes))=some (some (.agg zeroCells30),68,80) by kernel_rfl);have I:=H4 hi hz0 hz1 hz2;clear hi hz0 hz1 hz2;have C2:=H6 hW bad good hrS hlS hCG;clear hW bad good hrS hlS hCG hcs heq hRG hNS C hsn hsr;go_wp2_with fail;go_loopw [0,7,23] (fun b v i wr=>∃(k m c' s:Nat) (a':Option Addr) (r:List UInt8) (X:List (Hd×Unit)),k≤N∧b= .slice a' m c'∧i= .int .i64 k∧r.length=m∧RdS w' a' r∧m≤c'∧c'≤9223372036854775807∧X.length=k∧wr.ownsRow w'.heap.size 30 68 v k ((X.map (·.1)).flatMap hdC)∧Below w'.heap.size w' wr∧CG=QW (QJ.pair QV).get (N-k) r X s∧S+s+m=n) (fun _ _ i _=>N-(intOf i).toNat)
  case atStart=>exact⟨0,n-S,c-S,0,aS,l.drop S,[],Qdw _,rfl,rfl,C2.out.2.2.2.2.1,C2.out.2.2.2.1,by omega,by omega,rfl,QeJ _ _ _ _,Below.refl _ _,C2.out.2.2.2.2.2,by omega⟩
  case round=>
   obtain⟨k,m,c',s,a',r,X,hk,rfl,rfl,hrl,hrd,hm1,hm2,hX,hO,hB,hcg,hsum⟩:=hrel;obtain⟨va,vc,rfl⟩:=Ya hO;have mn:m≤1000000000:=by omega
   by_cases hlt:k<N
   ·have kN:(k:Int)<(N:Int):=by omega
    by_cases h80:m≤80
    ·have h80i:(m:Int)≤80:=by omega
     have hbad:CG.2.2≠0:=by
      rw[hcg,show N-k=(N-k-1)+1 by omega];exact Nc _ _ _ _ _ (QbN r (.inl (by omega)))
     have hWn:=C2.out.2.1 hbad;have Q:=H2 hB hWn;clear hO hB hcg hbad hWn hrd hX hrl;go_wp2;exact Qdg (v:=.tuple #[.slice none 0 0,.int .i64 1]) (by simp[results,results54,go_sem]) rfl ⟨.slice none 0 0,1,rfl,Q.out.1,(fun k h=>by cases h),by unfold Rj;rw[←C2.out.1,Q.out.2];exact (by decide:(1:Nat)≠0)⟩
    ·have h80i:¬(m:Int)≤80:=by omega
     obtain⟨g,o,rfl,hg,hrr⟩:=Zg hrd (by omega);have hr2:RdS wr (some ⟨g,o,none⟩) (r.take 80):=.inr ⟨g,o,rfl,Qdr hg hB.size,(show Rd wr g o r from fun i hi=>hrr.at hB hg i hi).take⟩;have hl80:(r.take 80).length=80:=by rw[Qds];omega
     have cG:=Fg (some ⟨g,o,none⟩) c' (r.take 80) hl80 (by omega) wr hr2;obtain⟨y,hy⟩:=nE ((r.getD 80 0).toNat);have hgd:Zn (Gn (r.take 80)):=⟨(Wr _ hl80).1.2.1,(Wr _ hl80).1.2.2.1⟩;have hlC:=Qt _ hgd.1 hgd.2;obtain⟨H,hH⟩:=nE (Gn (r.take 80));rw[←hH] at cG hgd hlC;obtain⟨CH,hCH⟩:=nE ((hdC H).toArray);rw[←hCH] at cG;have iC:(prog.info? 30).map (·.size)=some CH.size:=by rw[hCH];exact Gm _ hlC
     have zC:(zeroCells30).size=CH.size:=by rw[hCH];exact VK _ hgd.1 hgd.2
     have aC:CH.all (·.oneCell')=true:=by rw[hCH];exact GS _
     have sC:CH.size=68:=by rw[hCH,Qdv,hlC]
     have Q:=H13 hO hB hcg hrd hrr hrl cG hy hH hCH hX hgd sC;clear hO hB hcg hrd hrr hrl cG hy hH hCH hX hr2 hl80 hlC hgd sC;go_wp2_with fail;refine Q.out.2.2.2.2.2.2.1.mono ?_;rintro e w5 ⟨rfl,hb5⟩;have NN:Blk (w5.alloc (.cells zeroCells30 30)) w5.heap.size 30 zeroCells30:=Blk.new _ _ _;have zb:w'.heap.size≤wr.heap.size:=Q.out.2.1.size;have z5:wr.heap.size≤w5.heap.size:=hb5.size;have B6:Below wr.heap.size wr (World.setRow (w5.alloc (.cells zeroCells30 30)) w5.heap.size CH):=Qb (ba hb5 (.cells zeroCells30 30)) z5 CH;have Q5:=H2 NN B6;clear NN B6 hb5;go_upto_region 11 with (with_reducible refine Ql Q5.out.1 _ _ _ _ rfl rfl rfl rfl iC zC aC ?_);have Q6:=H3 (Q5.out.1.row CH) (Zi Q.out.1 Q5.out.2) (bt Q.out.2.1 Q5.out.2);have c80:=Q.out.2.2.2.2.1.at (bt Q.out.2.1 Q5.out.2) hg 80 (by have:=Q.out.2.2.2.2.2.1;omega);rw[←Q.out.2.2.2.2.2.2.2.1] at c80;have l6:wr.heap.size≤(World.setRow (w5.alloc (.cells zeroCells30 30)) w5.heap.size CH).heap.size:=Q5.out.2.size;clear Q5;generalize World.setRow _ _ _=w6 at *;generalize w5.heap.size=g8 at *;by_cases hy0:y=0
     ·subst hy0;have hz:r.getD 80 0=0:=Qfu.1 Q.out.2.2.2.2.2.2.2.1.symm;have hyes:=Wy (QJ.pair QV).get (N-k-1) r X s _ _ (QcE r (by have:=Q.out.2.2.2.2.2.1;omega) hz);have hcg2:CG=QW (QJ.pair QV).get (N-(k+1)) (r.drop 81) (X++[(H,())]) (s+81):=by
       have h:=Q.out.2.2.1;rw[show N-k=(N-k-1)+1 by omega,hyes,←Q.out.2.2.2.2.2.2.2.2.1] at h;rw[show N-(k+1)=N-k-1 by omega];exact h
      have sC:=Q.out.2.2.2.2.2.2.2.2.2.2.2.2;have QS:=H3 (show iH.size=CH.size by rw[I.out.2.2.1];exact sC.symm) (show 0<CH.size by omega) (show CH.size≤16777216 by omega);clear sC;have Q7:=H3 hcg2 (Zi Q6.out.2.1 (ba (Below.refl _ _) (.cells CH 30))) (Below.alloc Q6.out.2.2 (Q6.out.2.2.size) (.cells CH 30));clear hcg2 hyes hz;have hX1:k≤1000000:=by omega
      have z6:w'.heap.size≤(w6.alloc (.cells CH 30)).heap.size:=Q7.out.2.2.size;have X8:Blk (w6.alloc (.cells CH 30)) w6.heap.size 30 (hdC H).toArray:=(Blk.new _ _ _).to Q.out.2.2.2.2.2.2.2.2.2.1;have hzs:(Value.agg zeroCells30).cells.size=68:=by kernel_rfl
      have X9:=H2 X8 hzs;clear X8 hzs;go_wp2_with (first|(with_reducible refine Q0 Q6.out.1 _ _ rfl rfl rfl _ underlying30 iC ?_)|(with_reducible refine TN 24 30 CH iH (.agg zeroCells30) underlying24 I.out.1 I.out.2.1 QS.out.1 QS.out.2.1 QS.out.2.2 rfl _ rfl rfl ?_)|(at_builtin;refine PG (f:=hdC) (L:=X.map (·.1)) (x:=H) Q7.out.2.1 X9.out.1 rfl _ _ 24 rfl underlying24 iH (.agg zeroCells30) I.out.1 I.out.2.1 I.out.2.2.1 I.out.2.2.2 X9.out.2 (by decide) (Qt H Q.out.2.2.2.2.2.2.2.2.2.2.2.1.1 Q.out.2.2.2.2.2.2.2.2.2.2.2.1.2) (Ws H) rfl rfl hX1 (by decide) z6 ?_));intro v7 w7 o7 g7;have B7:=Qn Q7.out.2.2 g7 z6 (by intro kk hkk;exact (Q7.out.2.1.lt kk hkk).1);obtain⟨v7a,v7c,rfl⟩:=Ya o7;have hr7:RdS w' (some ⟨g,o+81,none⟩) (r.drop 81):=.inr ⟨g,o+81,rfl,hg,Q.out.2.2.2.2.1.drop⟩;have Q8:=H3 o7 B7 hr7;clear o7 B7 g7 hr7;by_cases ck:c'=81
      ·subst ck;obtain rfl:m=81:=by omega
       go_wp2;go_roundw
       case rel=>exact⟨k+1,0,0,s+81,some ⟨g,o,none⟩,r.drop 81,X++[(H,())],by omega,rfl,by go_num,by rw[Qdq,Q.out.2.2.2.2.2.1],.inl (QdY (by rw[Q.out.2.2.2.2.2.1];exact Qde _)),Qde _,by omega,by rw[Qdj,Q.out.2.2.2.2.2.2.2.2.2.2.1];rfl,by rw[QdR,Qek];simpa using Q8.out.1,Q8.out.2.1,Q7.out.1,by omega⟩
       case measure=>simp[intOf];omega
      ·go_wp2;go_roundw
       case rel=>exact⟨k+1,m-81,c'-81,s+81,some ⟨g,o+81,none⟩,r.drop 81,X++[(H,())],by omega,rfl,by go_num,by rw[Qdq,Q.out.2.2.2.2.2.1],Q8.out.2.2,by omega,by omega,by rw[Qdj,Q.out.2.2.2.2.2.2.2.2.2.2.1];rfl,by rw[QdR,Qek];simpa using Q8.out.1,Q8.out.2.1,Q7.out.1,by omega⟩
       case measure=>simp[intOf];omega
     ·have hyi:¬(y:Int)=0:=by omega
      have hbad:CG.2.2≠0:=by
       rw[Q.out.2.2.1,show N-k=(N-k-1)+1 by omega];exact Nc _ _ _ _ _ (QbN r (.inr (fun h=>hy0 (by rw[Q.out.2.2.2.2.2.2.2.1,h];rfl))))
      have hWn:=C2.out.2.1 hbad;have Q7:=H2 Q6.out.2.2 hWn;clear hbad hWn;go_wp2;exact Qdg (v:=.tuple #[.slice none 0 0,.int .i64 2]) (by simp[results,results54,go_sem]) rfl ⟨.slice none 0 0,2,rfl,Q7.out.1,(fun k h=>by cases h),by unfold Rj;rw[←C2.out.1,Q7.out.2];exact (by decide:(2:Nat)≠0)⟩
   ·obtain rfl:k=N:=by omega
    have hz:CG=(X,s,0):=by rw[hcg,Qe9];exact Z5 _ _ _ _
    have hWv:=C2.out.2.2.1 X s hz;by_cases hm0:m=0
    ·subst hm0;rw[Qdm (by omega)] at hWv;have Q:=H4 hO hB hWv hX;clear hO hB hcg hz hWv hrd hX hrl;go_wp2;exact Qdg (v:=.tuple #[.slice va k vc,.int .i64 0]) (by simp[results,results54,go_sem]) rfl ⟨.slice va k vc,0,rfl,Q.out.2.1,(fun k h=>(World.ownsRow.lt Q.out.1 k h).1),by unfold Rj;rw[←C2.out.1,Q.out.2.2.1];exact⟨rfl,Wj (by rw[QdA];exact Q.out.2.2.2) Q.out.1⟩⟩
    ·have m0:(0:Int)<(m:Int):=by omega
     rw[Qdf (by omega)] at hWv;have Q:=H2 hB hWv;clear hO hB hcg hz hWv hrd hX hrl;go_wp2;exact Qdg (v:=.tuple #[.slice none 0 0,.int .i64 2]) (by simp[results,results54,go_sem]) rfl ⟨.slice none 0 0,2,rfl,Q.out.1,(fun k h=>by cases h),by unfold Rj;rw[←C2.out.1,Q.out.2];exact (by decide:(2:Nat)≠0)⟩
 ·have hEi:¬(E:Int)=0:=by omega
  have hW:=C.out.2.1 hE;have HB:=Lib.hid hW;clear hW C;go_wp2;exact Qdg (v:=.tuple #[.slice none 0 0,.int .i64 (E:Nat)]) (by simp[results,results54,go_sem]) rfl ⟨.slice none 0 0,E,rfl,Below.refl _ _,(fun k h=>by cases h),by unfold Rj;rw[HB.out];exact hE⟩
def Qk(h:List UInt8):List Value:=h.map fun c=>Value.int .u8 (c.toNat:Int)
theorem JJ(h:List UInt8):(Qk h).toArray=Qp h:=rfl
theorem Qf(h:List UInt8):(Qk h).length=h.length:=by simp[Qk]
theorem Wv(h:List UInt8):∀u∈Qk h,u.oneCell'=true:=Jg h
theorem GZ(a:Addr)(c:Nat)(w:World):(Instr.arrayAt 27 (.slice (some a) 32 c)).run prog w= .ok (.pointer (some a)) w:=by
 unfold Instr.arrayAt;simp[Qd6 underlying27,go_sem]
def QbA{α:Type}(f:α→List Value)(R:List α×Nat×Nat)(v:Value)(s q:Nat)(w:World):Prop:=
 (∃a m c,v= .slice a m c)∧(R.2.2=0→q=0∧s=R.2.1∧SlV f R.1 v w)∧(R.2.2≠0→q≠0)
theorem F2(N:Nat)(r:List UInt8)(h:r.length<N*32):(Xu (Zh 32) N r).2.2≠0:=by
 intro h0;have q:=HJ (QU 32) N r _ _ (show Xu (Zh 32) N r=((Xu (Zh 32) N r).1,(Xu (Zh 32) N r).2.1,0) by rw[←h0]);have e:∀l:List (List UInt8),(∀y∈l,y.length=32)→(Ju (QU 32).put l).length=l.length*32:=by
  intro l;induction l with
  | nil=>intro _;rfl
  | cons x t ih=>
   intro hy;rw[Zy,Qdj,ih fun y h=>hy y (by simp[h]),show ((QU 32).put x).length=32 from hy x (by simp),QdL,Qff];omega
 have e2:=e _ q.2.1;rw[q.1] at e2;omega
theorem En(r:List UInt8)(h:32≤r.length):Zh 32 r=(r.take 32,32,0):=by
 unfold Zh;rw[Qdf (by omega)]
theorem Ko{α:Type}(A:List UInt8→α×Nat×Nat)(most:Nat)(l:List UInt8)(h:(Qg l most).2.2≠0):(JD A most l).2.2≠0:=by
 unfold JD;rw[Qdm h];exact h
theorem WZ{α:Type}(A:List UInt8→α×Nat×Nat)(most:Nat)(l:List UInt8)(h0:(Qg l most).2.2=0)(h:(Xu A (Qg l most).1 (l.drop (Qg l most).2.1)).2.2≠0):(JD A most l).2.2≠0:=by
 unfold JD;rw[Qdf (Qeh h0),Qdm h];exact h
theorem GI{α:Type}(A:List UInt8→α×Nat×Nat)(most:Nat)(l:List UInt8)(X:List α)(s:Nat)(h0:(Qg l most).2.2=0)(h:QW A (Qg l most).1 (l.drop (Qg l most).2.1) [] 0=(X,s,0)):JD A most l=(X,(Qg l most).2.1+s,0):=by
 have hc:=VM A (Qg l most).1 (l.drop (Qg l most).2.1);rw[h] at hc;have e:=hc.2 hc.1.symm;unfold JD;rw[Qdf (Qeh h0),←e,Qdf (by simp)]
theorem PD(a:Option Addr)(n c most:Nat)(hmost:most≤100000)(l:List UInt8)(hl:l.length=n)(hc:n≤c)(hn:n≤1000000000)(hc2:c≤9223372036854775807)(w:World)(hr:RdS w a l):
  Calls prog 50 #[.slice a n c,.int .u64 most] w fun e w'=>∃(v:Value) (s q:Nat),e= .returned (.tuple #[v,.int .i64 (s:Nat),.int .i64 (q:Nat)])∧Below w.heap.size w w'∧(∀k,v.ownBlock=some k→w.heap.size≤k)∧QbA Qk (JD (Zh 32) most l) v s q w':=by
 have cB:=Zp a n c most (by omega) l hl (by omega) w hr;have hty:=ZW l most;have hbad:=Ko (Zh 32) most l;have hshort:=WZ (Zh 32) most l;have hgood:=GI (Zh 32) most l;obtain⟨⟨N,S,E⟩,hG⟩:∃G,G=Qg l most:=⟨_,rfl⟩;rw[←hG] at cB hty hbad hshort hgood;simp only at cB hty hbad hshort hgood;have hN2:E=0→N≤most:=fun h=>(YI (show Qg l most=(N,S,0) by rw[←hG,h])).1;obtain⟨R,hR⟩:=nE (JD (Zh 32) most l);rw[←hR] at hbad hshort hgood ⊢;have C:=H8 cB hbad hshort hgood hty hr hl hN2;clear cB hbad hshort hgood hG hty hr hl hN2 hR;go_enter func50,ntmps50;go_wp2_with fail;refine C.out.1.mono ?_;rintro e w' ⟨rfl,rfl⟩;by_cases hE:E=0
 ·subst hE;have hNS:=C.out.2.2.2.2.1.2 rfl;rw[C.out.2.2.2.2.2.2.1] at hNS;have Sn:=hNS.2;have N2:=C.out.2.2.2.2.2.2.2 rfl;obtain⟨M,hM⟩:=nE (S+N*32);have hMi:(S:Int)+(N:Int)*32=(M:Int):=by omega
  have M9:M≤1000000000+3200000:=by omega
  by_cases hsh:n<M
  ·have hshi:(n:Int)<(M:Int):=by omega
   have hb:=C.out.2.2.1 rfl (F2 N (l.drop S) (by rw[Qdq,C.out.2.2.2.2.2.2.1];omega));have Q:=Lib.hid hb;clear hb C hNS hM;go_wp2;exact Qdg (v:=.tuple #[.slice none 0 0,.int .i64 (0:Nat),.int .i64 (1:Nat)]) (by simp[results,results50,go_sem]) rfl ⟨.slice none 0 0,0,1,rfl,Below.refl _ _,(fun k h=>by cases h),⟨_,_,_,rfl⟩,fun h=>absurd h Q.out,fun _=>(by decide:(1:Nat)≠0)⟩
  ·have hshi:¬(n:Int)<(M:Int):=by omega
   obtain⟨iH,hi,hz0,hz1,hz2⟩:=info_parts (show (prog.info? 27).map (fun i=>(i.zero,i.size,i.bytes))=some (some (.agg Z32),32,32) by kernel_rfl);have I:=H4 hi hz0 hz1 hz2;clear hi hz0 hz1 hz2;have C2:=H4 hM C.out.2.2.2.2.2.2.1 C.out.2.2.2.2.2.1 (C.out.2.2.2.1 · · rfl);clear hM C hNS;go_wp2_with fail;go_loopw [11,12] (fun v i wr=>∃(k p s:Nat) (X:List (List UInt8)),k≤N∧i= .int .i64 p∧p=S+k*32∧s=k*32∧X.length=k∧wr.ownsRow w'.heap.size 27 32 v k (X.flatMap Qk)∧Below w'.heap.size w' wr∧QW (Zh 32) N (l.drop S) [] 0=QW (Zh 32) (N-k) (l.drop p) X s) (fun _ i _=>M-(intOf i).toNat)
   case atStart=>exact⟨0,S,0,[],Qdw _,rfl,by omega,by omega,rfl,QeJ _ _ _ _,Below.refl _ _,rfl⟩
   case round=>
    obtain⟨k,p,s,X,hk,rfl,hp,hs,hX,hO,hB,hcg⟩:=hrel;obtain⟨va,vc,rfl⟩:=Ya hO;have hM:=C2.out.1;by_cases hlt:p<M
    ·have kN:k<N:=by omega
     have pMi:(p:Int)<(M:Int):=by omega
     have p32:p+32≤n:=by omega
     obtain⟨g,o,rfl,hg,hrr⟩:=Zg C2.out.2.2.1 (by have:=C2.out.2.1;omega);obtain⟨p2,hp2⟩:=nE (p+32);have hp2i:(p:Int)+32=(p2:Int):=by omega
     have hsl:=fun w=>JC g o n c p p2 (by omega) (by omega) (by omega) w;rw[show p2-p=32 by omega] at hsl;obtain⟨h,hh⟩:=nE ((l.drop p).take 32);have hlen:h.length=32:=by rw[hh,Qds,Qdq,C2.out.2.1];omega
     have hrp:Rd wr g (o+p) h:=by rw[hh];exact (show Rd wr g o l from fun i hi=>hrr.at hB hg i hi).drop.take
     have hrng:wr.rangeAt g (o+p) (Qk h):=fun j v hv=>by
      have hj:j<h.length:=by have:=(Qdt.1 hv).1;rwa [Qf] at this
      rw[hrp j hj,←hv];simp[Qk,List.getD,hj]
     have iCl:(prog.info? 27).map (·.size)=some (Qk h).length:=by rw[Qf,hlen];kernel_rfl
     have sC:(Qk h).toArray.size=32:=by rw[Qdv,Qf,hlen]
     have hcg2:QW (Zh 32) N (l.drop S) [] 0=QW (Zh 32) (N-(k+1)) (l.drop p2) (X++[h]) (s+32):=by
      rw[hcg,show N-k=(N-k-1)+1 by omega,Wy _ _ _ _ _ _ _ (En (l.drop p) (by rw[Qdq,C2.out.2.1];omega)),←hh,Qei,←hp2,show N-(k+1)=N-k-1 by omega]
     have zb:=hB.size;have Q:=H11 hrng (Zi hO (ba (Below.refl _ _) (.cells (Qk h).toArray 27))) (Below.alloc hB zb (.cells (Qk h).toArray 27)) hcg2 hX (show iH.size=(Qk h).toArray.size by rw[I.out.2.2.1,sC]) (show 0<(Qk h).toArray.size by omega) (show (Qk h).toArray.size≤16777216 by omega) (show Blk (wr.alloc (.cells (Qk h).toArray 27)) wr.heap.size 27 (Qk h).toArray from Blk.new _ _ _) (Qf h) hlen;clear hrng hO hB hcg2 hX sC hrp hcg;have z6:w'.heap.size≤(wr.alloc (.cells (Qk h).toArray 27)).heap.size:=Q.out.2.2.1.size;have hX1:k≤1000000:=by omega
     have harr:=fun w=>GZ ⟨g,o+p,none⟩ (c-p) w;have HP:=H4 hp hs hp2 hM;clear hh hp hs hp2 hM hlen;go_wp2_with (first|(with_reducible refine wpList_load_mid rfl _ _ rfl g (o+p) rfl (Qk h) _ Q.out.1 underlying27 rfl iCl ?_)|(with_reducible refine TN 25 27 (Qk h).toArray iH (.agg Z32) underlying25 I.out.1 I.out.2.1 Q.out.2.2.2.2.2.1 Q.out.2.2.2.2.2.2.1 Q.out.2.2.2.2.2.2.2.1 rfl _ rfl rfl ?_)|(at_builtin;refine PG (f:=Qk) (L:=X) (x:=h) Q.out.2.1 Q.out.2.2.2.2.2.2.2.2.1 rfl _ _ 25 rfl underlying25 iH (.agg Z32) I.out.1 I.out.2.1 I.out.2.2.1 I.out.2.2.2 rfl (by decide) (Q.out.2.2.2.2.2.2.2.2.2.1.trans Q.out.2.2.2.2.2.2.2.2.2.2) (Wv h) rfl rfl hX1 (by decide) z6 ?_));intro v7 w7 o7 g7;have B7:=Qn Q.out.2.2.1 g7 z6 (by intro kk hkk;exact (Q.out.2.1.lt kk hkk).1);obtain⟨v7a,v7c,rfl⟩:=Ya o7;have Q8:=H2 o7 B7;clear o7 B7 g7;go_wp2;go_roundw
     case rel=>
      obtain⟨hp,hs,hp2,hM⟩:=HP.out;exact⟨k+1,p2,s+32,X++[h],by omega,rfl,by omega,by omega,by rw[Qdj,Q.out.2.2.2.2.1];rfl,by rw[Qek];simpa using Q8.out.1,Q8.out.2,Q.out.2.2.2.1⟩
     case measure=>have:=HP.out.2.2.1;simp[intOf];omega
    ·have pMi:¬(p:Int)<(M:Int):=by omega
     obtain rfl:k=N:=by omega
     have hz:QW (Zh 32) k (l.drop S) [] 0=(X,s,0):=by rw[hcg,Qe9];exact Z5 _ _ _ _
     have hR:=C2.out.2.2.2 X s hz;have Q:=H4 hO hB hR hX;clear hO hB hz hcg hR hX;have HP:=H2 hp hs;clear hM hp hs;go_wp2;exact Qdg (v:=.tuple #[.slice va k vc,.int .i64 (M:Nat),.int .i64 (0:Nat)]) (by simp[results,results50,go_sem]) rfl ⟨.slice va k vc,M,0,rfl,Q.out.2.1,(fun k h=>(World.ownsRow.lt Q.out.1 k h).1),⟨_,_,_,rfl⟩,fun _=>⟨rfl,by rw[Q.out.2.2.1];show M=S+s;have:=C2.out.1;have:=HP.out.2;omega,by rw[Q.out.2.2.1];exact Wj Q.out.2.2.2 Q.out.1⟩,fun h=>absurd (by rw[Q.out.2.2.1]) h⟩
 ·have hEi:¬(E:Int)=0:=by omega
  have hb:=C.out.2.1 hE;have Q:=Lib.hid hb;clear hb C;go_wp2;exact Qdg (v:=.tuple #[.slice none 0 0,.int .i64 (0:Nat),.int .i64 (E:Nat)]) (by simp[results,results50,go_sem]) rfl ⟨.slice none 0 0,0,E,rfl,Below.refl _ _,(fun k h=>by cases h),⟨_,_,_,rfl⟩,fun h=>absurd h Q.out,fun _=>hE⟩
def Xx(x:Itm):List Value:=.int .u32 (x.1:Nat)::Qk x.2
theorem XV(x:Itm):(Xx x).length=1+x.2.length:=by simp[Xx,Qk];omega
theorem KO(x:Itm):∀u∈Xx x,u.oneCell'=true:=by
 intro u hu;rcases QdW.1 hu with rfl|hu
 ·rfl
 ·exact Wv x.2 u hu
theorem De(a:Int)(c0 c1 c2 c3 c4 c5 c6 c7 c8 c9 c10 c11 c12 c13 c14 c15 c16 c17 c18 c19 c20 c21 c22 c23 c24 c25 c26 c27 c28 c29 c30 c31:Value)(w:World):(Instr.build 106 #[(0,.int .u32 a),(1,.agg #[c0,c1,c2,c3,c4,c5,c6,c7,c8,c9,c10,c11,c12,c13,c14,c15,c16,c17,c18,c19,c20,c21,c22,c23,c24,c25,c26,c27,c28,c29,c30,c31])]).run prog w= .ok (.agg (.int .u32 a::[c0,c1,c2,c3,c4,c5,c6,c7,c8,c9,c10,c11,c12,c13,c14,c15,c16,c17,c18,c19,c20,c21,c22,c23,c24,c25,c26,c27,c28,c29,c30,c31]).toArray) w:=run_build w 106 _ _ (by kernel_rfl)
theorem Ey(a:Int)(C:List Value)(h:C.length=32)(w:World):(Instr.build 106 #[(0,.int .u32 a),(1,.agg C.toArray)]).run prog w= .ok (.agg (.int .u32 a::C).toArray) w:=by
 obtain _|⟨c0,C⟩:=C;· cases h
 obtain _|⟨c1,C⟩:=C;· cases h
 obtain _|⟨c2,C⟩:=C;· cases h
 obtain _|⟨c3,C⟩:=C;· cases h
 obtain _|⟨c4,C⟩:=C;· cases h
 obtain _|⟨c5,C⟩:=C;· cases h
 obtain _|⟨c6,C⟩:=C;· cases h
 obtain _|⟨c7,C⟩:=C;· cases h
 obtain _|⟨c8,C⟩:=C;· cases h
 obtain _|⟨c9,C⟩:=C;· cases h
 obtain _|⟨c10,C⟩:=C;· cases h
 obtain _|⟨c11,C⟩:=C;· cases h
 obtain _|⟨c12,C⟩:=C;· cases h
 obtain _|⟨c13,C⟩:=C;· cases h
 obtain _|⟨c14,C⟩:=C;· cases h
 obtain _|⟨c15,C⟩:=C;· cases h
 obtain _|⟨c16,C⟩:=C;· cases h
 obtain _|⟨c17,C⟩:=C;· cases h
 obtain _|⟨c18,C⟩:=C;· cases h
 obtain _|⟨c19,C⟩:=C;· cases h
 obtain _|⟨c20,C⟩:=C;· cases h
 obtain _|⟨c21,C⟩:=C;· cases h
 obtain _|⟨c22,C⟩:=C;· cases h
 obtain _|⟨c23,C⟩:=C;· cases h
 obtain _|⟨c24,C⟩:=C;· cases h
 obtain _|⟨c25,C⟩:=C;· cases h
 obtain _|⟨c26,C⟩:=C;· cases h
 obtain _|⟨c27,C⟩:=C;· cases h
 obtain _|⟨c28,C⟩:=C;· cases h
 obtain _|⟨c29,C⟩:=C;· cases h
 obtain _|⟨c30,C⟩:=C;· cases h
 obtain _|⟨c31,C⟩:=C;· cases h
 obtain _|⟨c32,C⟩:=C
 ·exact De a c0 c1 c2 c3 c4 c5 c6 c7 c8 c9 c10 c11 c12 c13 c14 c15 c16 c17 c18 c19 c20 c21 c22 c23 c24 c25 c26 c27 c28 c29 c30 c31 w
 ·exact absurd h (by simp)
abbrev YM:Cod Itm:=(Qj 4).pair (QU 32)
theorem Ez(x:Itm)(h:YM.ok x):(YM.put x).length=36:=by
 show (leK x.1 4++x.2).length=36;rw[Qdj,Qw,show x.2.length=32 from h.2]
theorem Lj{α:Type}(A:Cod α)(K N:Nat)(hK:∀y,A.ok y→(A.put y).length=K)(r:List UInt8)(h:r.length<N*K):(Xu A.get N r).2.2≠0:=by
 intro h0;have q:=HJ A N r _ _ (show Xu A.get N r=((Xu A.get N r).1,(Xu A.get N r).2.1,0) by rw[←h0]);have e:∀l:List α,(∀y∈l,A.ok y)→(Ju A.put l).length=l.length*K:=by
  intro l;induction l with
  | nil=>intro _;simp[Ju]
  | cons x t ih=>
   intro hy;rw[Zy,Qdj,ih fun y h=>hy y (by simp[h]),hK x (hy x (by simp)),QdL,Qff];omega
 have e2:=e _ q.2.1;rw[q.1] at e2;omega
theorem Qbb(r:List UInt8)(h:36≤r.length):YM.get r=((leN r 4,(r.drop 4).take 32),36,0):=by
 have e1:(Qj 4).get r=(leN r 4,4,0):=by show Zk 4 r=_;unfold Zk;rw[Qdf (by omega)]
 have e2:(QU 32).get (r.drop 4)=((r.drop 4).take 32,32,0):=En (r.drop 4) (by rw[Qdq];omega);show (if ((Qj 4).get r).2.2≠0 then _ else if ((QU 32).get (r.drop ((Qj 4).get r).2.1)).2.2≠0 then _ else ((((Qj 4).get r).1,((QU 32).get (r.drop ((Qj 4).get r).2.1)).1),((Qj 4).get r).2.1+((QU 32).get (r.drop ((Qj 4).get r).2.1)).2.1,0))=_;rw[e1];dsimp only;rw[e2];simp
theorem Ml(g o n c i:Nat)(hi:i≤n)(hc:n≤c)(hic:i<c)(w:World):(Instr.slice 31 (.slice (some ⟨g,o,none⟩) n c) (some (.int .i64 i)) none none).run prog w= .ok (.slice (some ⟨g,o+i,none⟩) (n-i) (c-i)) w:=by
 have hs:(sizeOf (prog.elem 31)).run prog w= .ok 1 w:=by kernel_rfl
 rw[run_slice_l w 31 (some ⟨g,o,none⟩) n c (by kernel_rfl) .i64 i (by omega) (by omega),hs];simp[sliced,Addr.add_mid,show ¬c=i by omega]
theorem Qcd{w:World}{ops:Array Oper}{rest:List Oper}{o:Oper}{a:Act}{Q:Exit→Act→World→Prop}(n:Nat)(h:List UInt8)(hl:h.length=32)(hgd:o.guard=none)(x y:Operand)(ho:o.op= .build 106 #[(0,x),(1,y)])(hx:a.eval x= .int .u32 (n:Nat))(hy:a.eval y= .agg (Qk h).toArray)(k:wpList prog ops Q rest (a.put o.dst (.agg (Xx (n,h)).toArray)) w):wpList prog ops Q (o::rest) a w:=by
 refine QfB hgd fun _ hK=>?_;have hr:=Ey (n:Nat) (Qk h) (by rw[Qf,hl]) w;have hp:(#[(0,x),(1,y)].map fun (i,z)=>(i,a.eval z))=#[(0,Value.int .u32 (n:Nat)),(1,.agg (Qk h).toArray)]:=by simp[hx,hy]
 unfold Oper.wp execOp;simp only[ho,Qdl];rw[hp,hr];exact hK _ _ k
theorem Nu(a:Option Addr)(n c:Nat)(l:List UInt8)(hl:l.length=n)(hc:n≤c)(hn:n≤1000000000)(hc2:c≤9223372036854775807)(w:World)(hr:RdS w a l):
  Calls prog 51 #[.slice a n c] w fun e w'=>∃(v:Value) (s q:Nat),e= .returned (.tuple #[v,.int .i64 (s:Nat),.int .i64 (q:Nat)])∧Below w.heap.size w w'∧(∀k,v.ownBlock=some k→w.heap.size≤k)∧QbA Xx (JD YM.get 50000 l) v s q w':=by
 have cB:=Zp a n c 50000 (by omega) l hl (by omega) w hr;have hty:=ZW l 50000;have hbad:=Ko YM.get 50000 l;have hshort:=WZ YM.get 50000 l;have hgood:=GI YM.get 50000 l;obtain⟨⟨N,S,E⟩,hG⟩:∃G,G=Qg l 50000:=⟨_,rfl⟩;rw[←hG] at cB hty hbad hshort hgood;simp only at cB hty hbad hshort hgood;have hN2:E=0→N≤50000:=fun h=>(YI (show Qg l 50000=(N,S,0) by rw[←hG,h])).1;obtain⟨R,hR⟩:=nE (JD YM.get 50000 l);rw[←hR] at hbad hshort hgood ⊢;have C:=H8 cB hbad hshort hgood hty hr hl hN2;clear cB hbad hshort hgood hG hty hr hl hN2 hR;go_enter func51,ntmps51;go_wp2_with fail;refine C.out.1.mono ?_;rintro e w' ⟨rfl,rfl⟩;by_cases hE:E=0
 ·subst hE;have hNS:=C.out.2.2.2.2.1.2 rfl;rw[C.out.2.2.2.2.2.2.1] at hNS;have Sn:=hNS.2;have N2:=C.out.2.2.2.2.2.2.2 rfl;obtain⟨M,hM⟩:=nE (S+N*36);have hMi:(S:Int)+(N:Int)*36=(M:Int):=by omega
  have M9:M≤1000000000+3600000:=by omega
  by_cases hsh:n<M
  ·have hshi:(n:Int)<(M:Int):=by omega
   have hb:=C.out.2.2.1 rfl (Lj YM 36 N Ez (l.drop S) (by rw[Qdq,C.out.2.2.2.2.2.2.1];omega));have Q:=Lib.hid hb;clear hb C hNS hM;go_wp2;exact Qdg (v:=.tuple #[.slice none 0 0,.int .i64 (0:Nat),.int .i64 (1:Nat)]) (by simp[results,results51,go_sem]) rfl ⟨.slice none 0 0,0,1,rfl,Below.refl _ _,(fun k h=>by cases h),⟨_,_,_,rfl⟩,fun h=>absurd h Q.out,fun _=>(by decide:(1:Nat)≠0)⟩
  ·have hshi:¬(n:Int)<(M:Int):=by omega
   obtain⟨iH,hi,hz0,hz1,hz2⟩:=info_parts (show (prog.info? 106).map (fun i=>(i.zero,i.size,i.bytes))=some (some (.agg Z33),33,36) by kernel_rfl);have I:=H4 hi hz0 hz1 hz2;clear hi hz0 hz1 hz2;have C2:=H4 hM C.out.2.2.2.2.2.2.1 C.out.2.2.2.2.2.1 (C.out.2.2.2.1 · · rfl);clear hM C hNS;go_wp2_with fail;go_loopw [9,10] (fun v i wr=>∃(k p s:Nat) (X:List Itm),k≤N∧i= .int .i64 p∧p=S+k*36∧s=k*36∧X.length=k∧wr.ownsRow w'.heap.size 106 33 v k (X.flatMap Xx)∧Below w'.heap.size w' wr∧QW YM.get N (l.drop S) [] 0=QW YM.get (N-k) (l.drop p) X s) (fun _ i _=>M-(intOf i).toNat)
   case atStart=>exact⟨0,S,0,[],Qdw _,rfl,by omega,by omega,rfl,QeJ _ _ _ _,Below.refl _ _,rfl⟩
   case round=>
    obtain⟨k,p,s,X,hk,rfl,hp,hs,hX,hO,hB,hcg⟩:=hrel;obtain⟨va,vc,rfl⟩:=Ya hO;have hM:=C2.out.1;by_cases hlt:p<M
    ·have kN:k<N:=by omega
     have pMi:(p:Int)<(M:Int):=by omega
     have p36:p+36≤n:=by omega
     obtain⟨g,o,rfl,hg,hrr⟩:=Zg C2.out.2.2.1 (by have:=C2.out.2.1;omega);obtain⟨p2,hp2⟩:=nE (p+36);have hp2i:(p:Int)+36=(p2:Int):=by omega
     obtain⟨p4,hp4⟩:=nE (p+4);have hp4i:(p:Int)+4=(p4:Int):=by omega
     have hsl:=fun w=>JC g o n c p4 p2 (by omega) (by omega) (by omega) w;rw[show p2-p4=32 by omega] at hsl;have hslo:=fun w=>Ml g o n c p (by omega) (by omega) (by omega) w;obtain⟨h,hh⟩:=nE (((l.drop p).drop 4).take 32);obtain⟨N4,hN4⟩:=nE (leN (l.drop p) 4);have hN4lt:N4<4294967296:=by rw[hN4];exact XQ (l.drop p) 4
     have hlen:h.length=32:=by rw[hh,Qds,Qdq,Qdq,C2.out.2.1];omega
     have hrd:Rd wr g o l:=fun i hi=>hrr.at hB hg i hi;have gwr:g<wr.heap.size:=Qdr hg hB.size;have hrp:Rd wr g (o+p4) h:=by rw[hh,Qei,←hp4];exact hrd.drop.take
     have hct:=Hr (some ⟨g,o+p,none⟩) (n-p) (c-p) 4 (by omega) (l.drop p) (by rw[Qdq,C2.out.2.1]) (by omega) wr (.inr ⟨g,o+p,rfl,gwr,hrd.drop⟩);rw[show Zk 4 (l.drop p)=(N4,4,0) by unfold Zk;rw[Qdf (by rw[Qdq,C2.out.2.1];omega),←hN4]] at hct;have hrng:wr.rangeAt g (o+p4) (Qk h):=fun j v hv=>by
      have hj:j<h.length:=by have:=(Qdt.1 hv).1;rwa [Qf] at this
      rw[hrp j hj,←hv];simp[Qk,List.getD,hj]
     have iCl:(prog.info? 27).map (·.size)=some (Qk h).length:=by rw[Qf,hlen];kernel_rfl
     have sC:(Xx (N4,h)).toArray.size=33:=by rw[Qdv,XV,hlen]
     have hcg2:QW YM.get N (l.drop S) [] 0=QW YM.get (N-(k+1)) (l.drop p2) (X++[(N4,h)]) (s+36):=by
      rw[hcg,show N-k=(N-k-1)+1 by omega,Wy _ _ _ _ _ _ _ (Qbb (l.drop p) (by rw[Qdq,C2.out.2.1];omega)),←hh,←hN4,Qei,←hp2,show N-(k+1)=N-k-1 by omega]
     have hw32:IntKind.u32.wrap (N4:Int)=(N4:Int):=by simp[IntKind.wrap,IntKind.signed,IntKind.bits];omega
     have zb:=hB.size;have Q:=H12 hrng (Zi hO (ba (Below.refl _ _) (.cells (Xx (N4,h)).toArray 106))) (Below.alloc hB zb (.cells (Xx (N4,h)).toArray 106)) hcg2 hX (show iH.size=(Xx (N4,h)).toArray.size by rw[I.out.2.2.1,sC]) (show 0<(Xx (N4,h)).toArray.size by omega) (show (Xx (N4,h)).toArray.size≤16777216 by omega) (show Blk (wr.alloc (.cells (Xx (N4,h)).toArray 106)) wr.heap.size 106 (Xx (N4,h)).toArray from Blk.new _ _ _) (show (Xx (N4,h)).length=33 by rw[XV,hlen]) hct hlen;clear hrng hO hB hcg2 hX sC hrp hcg hct hrd;have z6:w'.heap.size≤(wr.alloc (.cells (Xx (N4,h)).toArray 106)).heap.size:=Q.out.2.2.1.size;have hX1:k≤1000000:=by omega
     have harr:=fun w=>GZ ⟨g,o+p4,none⟩ (c-p4) w;have HP:=H4 hp hs hp2 hM;clear hh hp hs hp2 hM hlen hp4 hN4;go_wp2_with fail;refine Q.out.2.2.2.2.2.2.2.2.2.2.1.mono ?_;rintro e w1 ⟨rfl,rfl⟩;go_wp2_with (first|(with_reducible refine wpList_load_mid rfl _ _ rfl g (o+p4) rfl (Qk h) _ Q.out.1 underlying27 rfl iCl ?_)|(with_reducible refine Qcd N4 h Q.out.2.2.2.2.2.2.2.2.2.2.2 rfl _ _ rfl rfl rfl ?_)|(with_reducible refine TN 47 106 (Xx (N4,h)).toArray iH (.agg Z33) underlying47 I.out.1 I.out.2.1 Q.out.2.2.2.2.2.1 Q.out.2.2.2.2.2.2.1 Q.out.2.2.2.2.2.2.2.1 rfl _ rfl rfl ?_)|(at_builtin;refine PG (f:=Xx) (L:=X) (x:=(N4,h)) Q.out.2.1 Q.out.2.2.2.2.2.2.2.2.1 rfl _ _ 47 rfl underlying47 iH (.agg Z33) I.out.1 I.out.2.1 I.out.2.2.1 I.out.2.2.2 rfl (by decide) Q.out.2.2.2.2.2.2.2.2.2.1 (KO _) rfl rfl hX1 (by decide) z6 ?_));intro v7 w7 o7 g7;have B7:=Qn Q.out.2.2.1 g7 z6 (by intro kk hkk;exact (Q.out.2.1.lt kk hkk).1);obtain⟨v7a,v7c,rfl⟩:=Ya o7;have Q8:=H2 o7 B7;clear o7 B7 g7;go_wp2;go_roundw
     case rel=>
      obtain⟨hp,hs,hp2,hM⟩:=HP.out;exact⟨k+1,p2,s+36,X++[(N4,h)],by omega,rfl,by omega,by omega,by rw[Qdj,Q.out.2.2.2.2.1];rfl,by rw[Qek];simpa using Q8.out.1,Q8.out.2,Q.out.2.2.2.1⟩
     case measure=>have:=HP.out.2.2.1;simp[intOf];omega
    ·have pMi:¬(p:Int)<(M:Int):=by omega
     obtain rfl:k=N:=by omega
     have hz:QW YM.get k (l.drop S) [] 0=(X,s,0):=by rw[hcg,Qe9];exact Z5 _ _ _ _
     have hR:=C2.out.2.2.2 X s hz;have Q:=H4 hO hB hR hX;clear hO hB hz hcg hR hX;have HP:=H2 hp hs;clear hM hp hs;go_wp2;exact Qdg (v:=.tuple #[.slice va k vc,.int .i64 (M:Nat),.int .i64 (0:Nat)]) (by simp[results,results51,go_sem]) rfl ⟨.slice va k vc,M,0,rfl,Q.out.2.1,(fun k h=>(World.ownsRow.lt Q.out.1 k h).1),⟨_,_,_,rfl⟩,fun _=>⟨rfl,by rw[Q.out.2.2.1];show M=S+s;have:=C2.out.1;have:=HP.out.2;omega,by rw[Q.out.2.2.1];exact Wj Q.out.2.2.2 Q.out.1⟩,fun h=>absurd (by rw[Q.out.2.2.1]) h⟩
 ·have hEi:¬(E:Int)=0:=by omega
  have hb:=C.out.2.1 hE;have Q:=Lib.hid hb;clear hb C;go_wp2;exact Qdg (v:=.tuple #[.slice none 0 0,.int .i64 (0:Nat),.int .i64 (E:Nat)]) (by simp[results,results51,go_sem]) rfl ⟨.slice none 0 0,0,E,rfl,Below.refl _ _,(fun k h=>by cases h),⟨_,_,_,rfl⟩,fun h=>absurd h Q.out,fun _=>hE⟩
theorem L3(x:Value)(a:Option Addr)(n c:Nat)(l:List UInt8)(hl:l.length=n)(hn:n≤1000000000)(w:World)(hr:RdS w a l):
  Calls prog 27 #[.iface 22 x,.slice a n c] w fun e w'=>e= .returned (.tuple #[.iface 22 (.int .u32 ((Zk 4 l).1:Nat)),.int .i64 4,.int .i64 ((Zk 4 l).2.2:Nat)])∧w'=w:=by
 have C:=Lib.hid (Hr a n c 4 (by omega) l hl (by omega) w hr);have hv:(Zk 4 l).1<4294967296:=by
  unfold Zk;split
  ·exact (by decide:0<4294967296)
  ·exact XQ l 4
 obtain⟨⟨N,S,E⟩,hG⟩:∃G,G=Zk 4 l:=⟨_,rfl⟩;rw[←hG] at C hv ⊢;simp only at C hv ⊢;have hw32:IntKind.u32.wrap (N:Int)=(N:Int):=by simp[IntKind.wrap,IntKind.signed,IntKind.bits];omega
 clear hG hr hl;have hy:∀(v:Value) (w:World),(Instr.typeAssert (.iface 22 v) 20 22 true).run prog w= .ok (.tuple #[v,.bool true]) w:=fun v w=>by kernel_rfl
 go_enter func27,ntmps27;go_wp2_with fail;refine C.out.mono ?_;rintro e w' ⟨rfl,rfl⟩;go_wp2;exact Qdg (v:=.tuple #[.iface 22 (.int .u32 (N:Nat)),.int .i64 4,.int .i64 (E:Nat)]) (by simp[results,results27,go_sem]) rfl ⟨rfl,rfl⟩
theorem L0(x:Value)(a:Option Addr)(n c:Nat)(l:List UInt8)(hl:l.length=n)(hn:n≤1000000000)(w:World)(hr:RdS w a l):
  Calls prog 27 #[.iface 23 x,.slice a n c] w fun e w'=>e= .returned (.tuple #[.iface 23 (.int .u64 ((Zk 8 l).1:Nat)),.int .i64 8,.int .i64 ((Zk 8 l).2.2:Nat)])∧w'=w:=by
 have C:=Lib.hid (Hr a n c 8 (by omega) l hl (by omega) w hr);obtain⟨⟨N,S,E⟩,hG⟩:∃G,G=Zk 8 l:=⟨_,rfl⟩;rw[←hG] at C ⊢;simp only at C ⊢;clear hG hr hl;obtain⟨z0,hz0⟩:∃z:Value,∀(v:Value) (w:World),(Instr.typeAssert (.iface 23 v) 20 22 true).run prog w= .ok (.tuple #[z,.bool false]) w:=⟨((prog.info? 22).bind (·.zero)).getD undef,fun v w=>by kernel_rfl⟩;have hy:∀(v:Value) (w:World),(Instr.typeAssert (.iface 23 v) 20 23 true).run prog w= .ok (.tuple #[v,.bool true]) w:=fun v w=>by kernel_rfl
 go_enter func27,ntmps27;go_wp2_with fail;refine C.out.mono ?_;rintro e w' ⟨rfl,rfl⟩;go_wp2;exact Qdg (v:=.tuple #[.iface 23 (.int .u64 (N:Nat)),.int .i64 8,.int .i64 (E:Nat)]) (by simp[results,results27,go_sem]) rfl ⟨rfl,rfl⟩
theorem BL(x:Value)(a:Option Addr)(n c:Nat)(l:List UInt8)(hl:l.length=n)(hc:n≤c)(hn:n≤1000000000)(hc2:c≤9223372036854775807)(w:World)(hr:RdS w a l):
  Calls prog 27 #[.iface 47 x,.slice a n c] w fun e w'=>∃(v:Value) (s q:Nat),e= .returned (.tuple #[.iface 47 v,.int .i64 (s:Nat),.int .i64 (q:Nat)])∧Below w.heap.size w w'∧(∀k,v.ownBlock=some k→w.heap.size≤k)∧QbA Xx (Xk.get l) v s q w':=by
 have C:=Lib.hid (Nu a n c l hl hc hn hc2 w hr);rw[show JD YM.get 50000 l=Xk.get l from rfl] at C;obtain⟨R,hR⟩:=nE (Xk.get l);rw[←hR] at C ⊢;clear hR hr hl;obtain⟨z0,hz0⟩:∃z:Value,∀(v:Value) (w:World),(Instr.typeAssert (.iface 47 v) 20 22 true).run prog w= .ok (.tuple #[z,.bool false]) w:=⟨((prog.info? 22).bind (·.zero)).getD undef,fun v w=>by kernel_rfl⟩;obtain⟨z1,hz1⟩:∃z:Value,∀(v:Value) (w:World),(Instr.typeAssert (.iface 47 v) 20 23 true).run prog w= .ok (.tuple #[z,.bool false]) w:=⟨((prog.info? 23).bind (·.zero)).getD undef,fun v w=>by kernel_rfl⟩;obtain⟨z2,hz2⟩:∃z:Value,∀(v:Value) (w:World),(Instr.typeAssert (.iface 47 v) 20 27 true).run prog w= .ok (.tuple #[z,.bool false]) w:=⟨((prog.info? 27).bind (·.zero)).getD undef,fun v w=>by kernel_rfl⟩;obtain⟨z3,hz3⟩:∃z:Value,∀(v:Value) (w:World),(Instr.typeAssert (.iface 47 v) 20 155 true).run prog w= .ok (.tuple #[z,.bool false]) w:=⟨((prog.info? 155).bind (·.zero)).getD undef,fun v w=>by kernel_rfl⟩;have hy:∀(v:Value) (w:World),(Instr.typeAssert (.iface 47 v) 20 47 true).run prog w= .ok (.tuple #[v,.bool true]) w:=fun v w=>by kernel_rfl
 go_enter func27,ntmps27;go_wp2_with fail;refine C.out.mono ?_;rintro e w' ⟨v,s,q,rfl,hB,hfr,hR⟩;have Q:=H3 hB hfr hR;clear hB hR hfr C;go_wp2;exact Qdg (v:=.tuple #[.iface 47 v,.int .i64 (s:Nat),.int .i64 (q:Nat)]) (by simp[results,results27,go_sem]) rfl ⟨v,s,q,rfl,Q.out.1,Q.out.2⟩
theorem BN(x:Value)(a:Option Addr)(n c:Nat)(l:List UInt8)(hl:l.length=n)(hc:n≤c)(hn:n≤1000000000)(hc2:c≤9223372036854775807)(hno:a=none→n=0∧c=0)(w:World)(hr:RdS w a l):
  Calls prog 27 #[.iface 31 x,.slice a n c] w fun e w'=>∃u,e= .returned (.tuple #[.iface 31 u,.int .i64 ((Jq 1024 l).2.1:Nat),.int .i64 ((Jq 1024 l).2.2:Nat)])∧Below w.heap.size w w'∧CloV (Jq 1024 l).1 u w'∧(∀k,u.ownBlock=some k→w.heap.size≤k):=by
 have C:=Lib.hid (N5 a n c 1024 (by decide) l hl hc (by omega) hc2 hno w hr);obtain⟨⟨N,S,E⟩,hG⟩:∃G,G=Jq 1024 l:=⟨_,rfl⟩;rw[←hG] at C ⊢;simp only at C ⊢;clear hG hr hl;obtain⟨z0,hz0⟩:∃z:Value,∀(v:Value) (w:World),(Instr.typeAssert (.iface 31 v) 20 22 true).run prog w= .ok (.tuple #[z,.bool false]) w:=⟨((prog.info? 22).bind (·.zero)).getD undef,fun v w=>by kernel_rfl⟩;obtain⟨z1,hz1⟩:∃z:Value,∀(v:Value) (w:World),(Instr.typeAssert (.iface 31 v) 20 23 true).run prog w= .ok (.tuple #[z,.bool false]) w:=⟨((prog.info? 23).bind (·.zero)).getD undef,fun v w=>by kernel_rfl⟩;obtain⟨z2,hz2⟩:∃z:Value,∀(v:Value) (w:World),(Instr.typeAssert (.iface 31 v) 20 27 true).run prog w= .ok (.tuple #[z,.bool false]) w:=⟨((prog.info? 27).bind (·.zero)).getD undef,fun v w=>by kernel_rfl⟩;obtain⟨z3,hz3⟩:∃z:Value,∀(v:Value) (w:World),(Instr.typeAssert (.iface 31 v) 20 155 true).run prog w= .ok (.tuple #[z,.bool false]) w:=⟨((prog.info? 155).bind (·.zero)).getD undef,fun v w=>by kernel_rfl⟩;obtain⟨z4,hz4⟩:∃z:Value,∀(v:Value) (w:World),(Instr.typeAssert (.iface 31 v) 20 47 true).run prog w= .ok (.tuple #[z,.bool false]) w:=⟨((prog.info? 47).bind (·.zero)).getD undef,fun v w=>by kernel_rfl⟩;have hy:∀(v:Value) (w:World),(Instr.typeAssert (.iface 31 v) 20 31 true).run prog w= .ok (.tuple #[v,.bool true]) w:=fun v w=>by kernel_rfl
 go_enter func27,ntmps27;go_wp2_with fail;refine C.out.mono ?_;rintro e w' ⟨u,rfl,hB,hu,hfr⟩;have Q:=H3 hB hu hfr;clear hB hu hfr C;go_wp2;exact Qdg (v:=.tuple #[.iface 31 u,.int .i64 (S:Nat),.int .i64 (E:Nat)]) (by simp[results,results27,go_sem]) rfl ⟨u,rfl,Q.out.1,Q.out.2⟩
theorem BM(x:Value)(a:Option Addr)(n c:Nat)(l:List UInt8)(hl:l.length=n)(hc:n≤c)(hn:n≤1000000000)(hc2:c≤9223372036854775807)(w:World)(hr:RdS w a l):
  Calls prog 27 #[.iface 24 x,.slice a n c] w fun e w'=>∃(v:Value) (q:Nat),e= .returned (.tuple #[.iface 24 v,.int .i64 (n:Nat),.int .i64 (q:Nat)])∧Below w.heap.size w w'∧(∀k,v.ownBlock=some k→w.heap.size≤k)∧Rj l v q w':=by
 have C:=Lib.hid (Cb a n c l hl hc hn hc2 w hr);clear hr hl;obtain⟨z0,hz0⟩:∃z:Value,∀(v:Value) (w:World),(Instr.typeAssert (.iface 24 v) 20 22 true).run prog w= .ok (.tuple #[z,.bool false]) w:=⟨((prog.info? 22).bind (·.zero)).getD undef,fun v w=>by kernel_rfl⟩;obtain⟨z1,hz1⟩:∃z:Value,∀(v:Value) (w:World),(Instr.typeAssert (.iface 24 v) 20 23 true).run prog w= .ok (.tuple #[z,.bool false]) w:=⟨((prog.info? 23).bind (·.zero)).getD undef,fun v w=>by kernel_rfl⟩;obtain⟨z2,hz2⟩:∃z:Value,∀(v:Value) (w:World),(Instr.typeAssert (.iface 24 v) 20 27 true).run prog w= .ok (.tuple #[z,.bool false]) w:=⟨((prog.info? 27).bind (·.zero)).getD undef,fun v w=>by kernel_rfl⟩;obtain⟨z3,hz3⟩:∃z:Value,∀(v:Value) (w:World),(Instr.typeAssert (.iface 24 v) 20 155 true).run prog w= .ok (.tuple #[z,.bool false]) w:=⟨((prog.info? 155).bind (·.zero)).getD undef,fun v w=>by kernel_rfl⟩;obtain⟨z4,hz4⟩:∃z:Value,∀(v:Value) (w:World),(Instr.typeAssert (.iface 24 v) 20 47 true).run prog w= .ok (.tuple #[z,.bool false]) w:=⟨((prog.info? 47).bind (·.zero)).getD undef,fun v w=>by kernel_rfl⟩;obtain⟨z5,hz5⟩:∃z:Value,∀(v:Value) (w:World),(Instr.typeAssert (.iface 24 v) 20 31 true).run prog w= .ok (.tuple #[z,.bool false]) w:=⟨((prog.info? 31).bind (·.zero)).getD undef,fun v w=>by kernel_rfl⟩;obtain⟨z6,hz6⟩:∃z:Value,∀(v:Value) (w:World),(Instr.typeAssert (.iface 24 v) 20 30 true).run prog w= .ok (.tuple #[z,.bool false]) w:=⟨((prog.info? 30).bind (·.zero)).getD undef,fun v w=>by kernel_rfl⟩;have hy:∀(v:Value) (w:World),(Instr.typeAssert (.iface 24 v) 20 24 true).run prog w= .ok (.tuple #[v,.bool true]) w:=fun v w=>by kernel_rfl
 go_enter func27,ntmps27;go_wp2_with fail;refine C.out.mono ?_;rintro e w' ⟨v,q,rfl,hB,hfr,hR⟩;have Q:=H3 hB hfr hR;clear hB hR hfr C;go_wp2;exact Qdg (v:=.tuple #[.iface 24 v,.int .i64 (n:Nat),.int .i64 (q:Nat)]) (by simp[results,results27,go_sem]) rfl ⟨v,q,rfl,Q.out.1,Q.out.2⟩
theorem DF(C:Array Value)(hC:C.size=32)(h1:C.all (·.oneCell')=true)(a:Option Addr)(n c:Nat)(l:List UInt8)(hl:l.length=n)(hc:n≤c)(hn:n≤1000000000)(hc2:c≤9223372036854775807)(w:World)(hr:RdS w a l):
  Calls prog 27 #[.iface 27 (.agg C),.slice a n c] w fun e w'=>Below w.heap.size w w'∧(e= .returned (.tuple #[.nilIface,.int .i64 0,.int .i64 1])∧n<32∨e= .returned (.tuple #[.iface 27 (.agg (Qk (l.take 32)).toArray),.int .i64 32,.int .i64 0])∧32≤n):=by
 have iC:(prog.info? 27).map (·.size)=some C.size:=by rw[hC];kernel_rfl
 have NN:Blk (w.alloc (.cells Z32 27)) w.heap.size 27 Z32:=Blk.new _ _ _;have zC:(Z32:Array Value).size=C.size:=by rw[hC];rfl
 have B2:Below w.heap.size w (World.setRow (w.alloc (.cells Z32 27)) w.heap.size C):=Qb (ba (Below.refl _ _) _) (Qde _) C;have A:=H5 NN zC iC h1 B2;clear NN zC iC h1 B2;obtain⟨z0,hz0⟩:∃z:Value,∀(v:Value) (w:World),(Instr.typeAssert (.iface 27 v) 20 22 true).run prog w= .ok (.tuple #[z,.bool false]) w:=⟨((prog.info? 22).bind (·.zero)).getD undef,fun v w=>by kernel_rfl⟩;obtain⟨z1,hz1⟩:∃z:Value,∀(v:Value) (w:World),(Instr.typeAssert (.iface 27 v) 20 23 true).run prog w= .ok (.tuple #[z,.bool false]) w:=⟨((prog.info? 23).bind (·.zero)).getD undef,fun v w=>by kernel_rfl⟩;have hy:∀(v:Value) (w:World),(Instr.typeAssert (.iface 27 v) 20 27 true).run prog w= .ok (.tuple #[v,.bool true]) w:=fun v w=>by kernel_rfl
 obtain⟨k,hk⟩:=nE (l.take 32);rw[←hk];have R:=H3 hr hk hl;clear hr hk hl;go_enter func27,ntmps27;go_upto_region 12 with (with_reducible refine Ql A.out.1 _ _ _ _ rfl rfl rfl rfl A.out.2.2.1 A.out.2.1 A.out.2.2.2.1 ?_);have B:=Lib.hid A.out.2.2.2.2;clear A;generalize World.setRow _ _ _=w2 at *;by_cases h:n<32
 ·have hi:(n:Int)<32:=by omega
  go_wp2;exact Qdg (v:=.tuple #[.nilIface,.int .i64 0,.int .i64 1]) (by simp[results,results27,go_sem]) rfl ⟨B.out,.inl ⟨rfl,h⟩⟩
 ·have hi:¬(n:Int)<32:=by omega
  obtain⟨g,o,rfl,hg,hrr⟩:=Zg R.out.1 (by have:=R.out.2.2;omega);have hlen:k.length=32:=by rw[R.out.2.1,Qds,R.out.2.2];omega
  have iCl:(prog.info? 27).map (·.size)=some (Qk k).length:=by rw[Qf,hlen];kernel_rfl
  have hrd:Rd w2 g o k:=by rw[R.out.2.1];exact (show Rd _ g o l from fun i hi=>hrr.at B.out hg i hi).take
  have hrng:w2.rangeAt g o (Qk k):=fun j v hv=>by
   have hj:j<k.length:=by have:=(Qdt.1 hv).1;rwa [Qf] at this
   rw[hrd j hj,←hv];simp[Qk,List.getD,hj]
  have harr:=fun w=>GZ ⟨g,o,none⟩ c w;have Q:=Lib.hid hrng;clear hrng hrd hrr hg R;go_wp2_with (with_reducible refine wpList_load_mid rfl _ _ rfl g o rfl (Qk k) _ Q.out underlying27 rfl iCl ?_);exact Qdg (v:=.tuple #[.iface 27 (.agg (Qk k).toArray),.int .i64 32,.int .i64 0]) (by simp[results,results27,go_sem]) rfl ⟨B.out,by first|exact .inr ⟨rfl,by omega⟩|exact⟨rfl,by omega⟩|omega⟩
end Go.Proofs.YthdaabapiicnhaaGreatDoor
