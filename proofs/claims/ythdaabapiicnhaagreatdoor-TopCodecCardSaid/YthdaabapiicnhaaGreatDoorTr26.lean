/- Steps of the proof. -/
import Derived.Test.YthdaabapiicnhaaGreatDoorTr22
import Derived.Test.YthdaabapiicnhaaGreatDoorTr25
set_option linter.all false
set_option maxRecDepth 100000
set_option maxHeartbeats 4000000
open Go.Proofs.Tryz
namespace Go.Proofs.YthdaabapiicnhaaGreatDoor
open Go.RowKit
def ScR(w:World)(s:Sl)(k off:Nat)(ls:List Nat):Prop:=ls.length=s.2.1∧s.2.1≤maxLen∧(s.2.1=0∨∃g o,s.1=some ⟨g,o,none⟩∧g<w.heap.size∧∀j n,ls[j]? =some n→∃a c,w.cell? ⟨g,o+j*k+off,none⟩=some (.slice a n c))
theorem ScR.at{w:World}{a:Option Addr}{n c k off:Nat}{ls:List Nat}(h:ScR w (a,n,c) k off ls){j q:Nat}(hj:j<n)(hq:ls[j]? =some q):
  ∃g o a2 c2,a=some ⟨g,o,none⟩∧∀w',Below w.heap.size w w'→w'.cell? ⟨g,o+j*k+off,none⟩=some (.slice a2 q c2):=by
 obtain⟨h1,h2,h3⟩:=h;rcases h3 with h3|⟨g,o,e,hg,h⟩
 ·simp only at h3;omega
 ·obtain⟨a2,c2,h4⟩:=h j q hq;exact⟨g,o,a2,c2,e,fun w' hb=>(hb.cell (p:=⟨g,_,none⟩) hg).trans h4⟩
theorem ScR.calls{w w':World}{s:Sl}{k off:Nat}{ls:List Nat}(h:ScR w s k off ls)(hb:Below w.heap.size w w'):ScR w' s k off ls:=by
 obtain⟨h1,h2,h3⟩:=h;refine⟨h1,h2,?_⟩;rcases h3 with h3|⟨g,o,e,hg,h⟩
 ·exact .inl h3
 ·exact .inr ⟨g,o,e,Qdr hg hb.size,fun j n hj=>by
   obtain⟨a2,c2,h4⟩:=h j n hj;exact⟨a2,c2,(hb.cell (p:=⟨g,_,none⟩) hg).trans h4⟩⟩
theorem rc_tx(k:Int)(m:Mf)(h:m.ok){w:World}{g:Nat}{t:TypeId}(hb:Blk w g t (rc k m).toArray):w.rangeAt g 110 [.int .u32 (m.x0:Nat),slv m.s1,slv m.s2,.int .u32 (m.x3:Nat)]:=fun j v hv=>by
 have e:∀i,w.cell? ⟨g,i+1,none⟩=m.cells[i+1]? :=fun i=>(hb.cell (i+1)).trans ((Qdp ..).trans (by unfold rc;rw[Qd2];exact List.getElem?_tail));rw[show 110+j=(109+j)+1 by omega,e,show 109+j+1=107+(j+3) by omega,m.at107 h,Qd2,Qd2,Qd2];exact hv
def Tw(n1 n2:Nat)(L1 L2:List Nat):Bool:=(L1.all (fun n=>decide (n≤300))&&L2.all (fun n=>decide (n≤300)))&&(decide (n1≤20)&&decide (n2≤20))
theorem LV(x0 x3:Nat)(a1:Option Addr)(n1 k1:Nat)(a2:Option Addr)(n2 k2:Nat)(L1 L2:List Nat)(w:World)(h1:ScR w (a1,n1,k1) 35 33 L1)(h2:ScR w (a2,n2,k2) 2 1 L2):
  Calls prog 18 #[.agg #[.int .u32 (x0:Nat),.slice a1 n1 k1,.slice a2 n2 k2,.int .u32 (x3:Nat)]] w fun e w'=>e= .returned (.bool (Tw n1 n2 L1 L2))∧Below w.heap.size w w':=by
 have X0:Blk (w.alloc (.cells #[.int .u32 (x0:Nat),.slice a1 n1 k1,.slice a2 n2 k2,.int .u32 (x3:Nat)] 37)) w.heap.size 37 #[.int .u32 (x0:Nat),.slice a1 n1 k1,.slice a2 n2 k2,.int .u32 (x3:Nat)]:=Blk.new _ _ _;have B0:Below w.heap.size w (w.alloc (.cells #[.int .u32 (x0:Nat),.slice a1 n1 k1,.slice a2 n2 k2,.int .u32 (x3:Nat)] 37)):=ba (Below.refl _ _) _;have m1:n1≤9223372036854775807:=h1.2.1;have m2:n2≤9223372036854775807:=h2.2.1;have X:=H2 X0 B0;clear X0 B0;have S1:=Lib.hid h1;have S2:=Lib.hid h2;clear h1 h2;go_enter func18,ntmps18;go_upto_region 2 with fail;go_loopw [3] (fun i wr=>∃j:Nat,j≤n1∧i= .int .i64 j∧Below w.heap.size w wr∧Blk wr w.heap.size 37 #[.int .u32 (x0:Nat),.slice a1 n1 k1,.slice a2 n2 k2,.int .u32 (x3:Nat)]∧(L1.take j).all (fun n=>decide (n≤300))=true) (fun i _=>n1-(intOf i).toNat)
 case atStart=>exact⟨0,Qdw _,rfl,X.out.2,X.out.1,by simp⟩
 case round=>
  obtain⟨j,hj,rfl,hB,hX,hal⟩:=hrel;have cc:wr.cell? ⟨w.heap.size,1,none⟩=some (.slice a1 n1 k1):=hX.cell 1;by_cases hlt:j<n1
  ·obtain⟨q,hq⟩:∃q,L1[j]? =some q:=⟨_,Qdk (by have:=S1.out.1;have e:n1=((a1,n1,k1):Sl).2.1:=rfl;omega)⟩;obtain⟨g,o,as0,cs0,hae,hce⟩:=S1.out.at hlt hq;have hce:=hce wr hB;have hidx:=fun w=>YV (P:=prog) 34 144 35 underlying34 (by kernel_rfl) g o n1 k1 j hlt w;rw[←hae] at hidx;obtain⟨p,hp⟩:=nE (o+j*35);rw[←hp] at hidx hce;have hjn:(j:Int)<(n1:Int):=by omega
   have Y:=H4 hB hX hal hq;clear hB hX hal hq hp hae;by_cases h3:q≤300
   ·have h3':¬(300:Int)<(q:Int):=by omega
    go_wp2_with fail;go_roundw
    case rel=>
     refine⟨j+1,by omega,by go_num,Y.out.1,Y.out.2.1,?_⟩;rw[J8 Y.out.2.2.2,Qfv,Y.out.2.2.1];simp[h3]
    case measure=>simp[intOf];omega
   ·have h3':(300:Int)<(q:Int):=by omega
    go_wp2_with fail;refine Qdg (v:=.bool false) (by simp[results,results18,go_sem]) rfl ⟨?_,Y.out.1⟩;have:L1.all (fun n=>decide (n≤300))=false:=by
     cases h:L1.all (fun n=>decide (n≤300)) with
     | false=>rfl
     | true=>exact absurd (Qer (QdG.1 h q (QdT Y.out.2.2.2))) h3
    unfold Tw;rw[this];rfl
  ·have hje:j=n1:=by omega
   have hnn:¬(j:Int)<(n1:Int):=by omega
   have hal2:L1.all (fun n=>decide (n≤300))=true:=by
    rwa [Qd8 (by have:=S1.out.1;have e:n1=((a1,n1,k1):Sl).2.1:=rfl;omega)] at hal
   have Y1:=H3 hX hB hal2;clear hX hB hal hal2;go_wp2_with fail;clear X hnn hje hj cc;have Xb:=H2 Y1.out.1 Y1.out.2.1;go_loopw [4] (fun i wr=>∃j:Nat,j≤n2∧i= .int .i64 j∧Below w.heap.size w wr∧Blk wr w.heap.size 37 #[.int .u32 (x0:Nat),.slice a1 n1 k1,.slice a2 n2 k2,.int .u32 (x3:Nat)]∧(L2.take j).all (fun n=>decide (n≤300))=true) (fun i _=>n2-(intOf i).toNat)
   case atStart=>exact⟨0,Qdw _,rfl,Xb.out.2,Xb.out.1,by simp⟩
   case round=>
    obtain⟨j,hj,rfl,hB,hX,hal⟩:=hrel;have cc:wr.cell? ⟨w.heap.size,2,none⟩=some (.slice a2 n2 k2):=hX.cell 2;by_cases hlt:j<n2
    ·obtain⟨q,hq⟩:∃q,L2[j]? =some q:=⟨_,Qdk (by have:=S2.out.1;have e:n2=((a2,n2,k2):Sl).2.1:=rfl;omega)⟩;obtain⟨g,o,as0,cs0,hae,hce⟩:=S2.out.at hlt hq;have hce:=hce wr hB;have hidx:=fun w=>YV (P:=prog) 35 146 2 underlying35 (by kernel_rfl) g o n2 k2 j hlt w;rw[←hae] at hidx;obtain⟨p,hp⟩:=nE (o+j*2);rw[←hp] at hidx hce;have hjn:(j:Int)<(n2:Int):=by omega
     have Y:=H4 hB hX hal hq;clear hB hX hal hq hp hae;by_cases h3:q≤300
     ·have h3':¬(300:Int)<(q:Int):=by omega
      go_wp2_with fail;go_roundw
      case rel=>
       refine⟨j+1,by omega,by go_num,Y.out.1,Y.out.2.1,?_⟩;rw[J8 Y.out.2.2.2,Qfv,Y.out.2.2.1];simp[h3]
      case measure=>simp[intOf];omega
     ·have h3':(300:Int)<(q:Int):=by omega
      go_wp2_with fail;refine Qdg (v:=.bool false) (by simp[results,results18,go_sem]) rfl ⟨?_,Y.out.1⟩;have:L2.all (fun n=>decide (n≤300))=false:=by
       cases h:L2.all (fun n=>decide (n≤300)) with
       | false=>rfl
       | true=>exact absurd (Qer (QdG.1 h q (QdT Y.out.2.2.2))) h3
      unfold Tw;rw[this];cases L1.all (fun n=>decide (n≤300)) <;> rfl
    ·have hje:j=n2:=by omega
     have hnn:¬(j:Int)<(n2:Int):=by omega
     have hal2:L2.all (fun n=>decide (n≤300))=true:=by
      rwa [Qd8 (by have:=S2.out.1;have e:n2=((a2,n2,k2):Sl).2.1:=rfl;omega)] at hal
     have Y2:=H3 hX hB hal2;clear hX hB hal hal2;go_upto_region 11 with fail;clear hnn hje hj cc;have hlt:=Y2.out.1.lt;have c1:wr.cell? ⟨w.heap.size,1,none⟩=some (.slice a1 n1 k1):=Y2.out.1.cell 1;have c2:wr.cell? ⟨w.heap.size,2,none⟩=some (.slice a2 n2 k2):=Y2.out.1.cell 2;obtain⟨b38,hb38⟩:=nE (decide ((n1:Int)≤(20:Int)));obtain⟨b43,hb43⟩:=nE (decide ((n2:Int)≤(20:Int)));obtain⟨r44,hr44⟩:=nE ((b38&&b43));refine YE [some 35,some 36,some 37,some 38,some 39,some 40,some 41,some 42,some 43,some 44,some 2] (FL [EqV (.pointer (some ⟨w.heap.size,1,none⟩)),EqV (.slice a1 n1 k1),EqV (.int .i64 n1),EqV (.bool b38),EqV (.bool b38),ItV ((b38==true)) (.pointer (some ⟨w.heap.size,2,none⟩)),ItV ((b38==true)) (.slice a2 n2 k2),ItV ((b38==true)) (.int .i64 n2),ItV ((b38==true)) (.bool b43),EqV (.bool r44),EqV (.bool r44)]) (QO ⟨Qa _,Qa _,Qa _,Qa _,Qa _,Qc _ _,Qc _ _,Qc _ _,Qc _ _,Qa _,Qa _,trivial⟩) rfl rfl rfl rfl ⟨Xc (.inr ⟨gk0 rfl,fun A w' γ hb hF hs=>Qd (Qs 37 (.tmp 1) 1 1 rfl (w.heap.size) ((hs.2 1 rfl).trans rfl) fun _ _=>by kernel_rfl)⟩),Xc (.inr ⟨gk0 rfl,fun A w' γ hb hF hs=>Qd (Qq 34 (.tmp 35) rfl _ ((hs.1 0 rfl 35 rfl).trans (hF 0 rfl)) _ ((hb.cell (p:=⟨w.heap.size,1,none⟩) hlt).trans c1) _ underlying34 rfl)⟩),Xc (.inr ⟨gk0 rfl,fun A w' γ hb hF hs=>Qd (Yb (.tmp 36) 34 _ a1 n1 k1 rfl ((hs.1 1 rfl 36 rfl).trans (hF 1 rfl)) underlying34)⟩),Xc (.inr ⟨gk0 rfl,fun A w' γ hb hF hs=>Qd (Hh 3 _ (.tmp 37) (.const (.int .i64 20)) .i64 (n1) (20) b38 rfl ((hs.1 2 rfl 37 rfl).trans (hF 2 rfl)) rfl hb38.symm)⟩),Xc (.inr ⟨gk0 rfl,fun A w' γ hb hF hs=>Qd (Qe (.tmp 38) (.inl rfl) ((hs.1 3 rfl 38 rfl).trans (hF 3 rfl)))⟩),Qx 4 true (b38) rfl rfl 39 rfl (fun _ _ h=>h) (fun h0 w=>Qi h0 w) (fun hw A w' γ hb hF hs=>Qo hw (Qd (Qs 37 (.tmp 1) 2 2 rfl (w.heap.size) ((hs.2 1 rfl).trans rfl) fun _ _=>by kernel_rfl))),Qx 4 true (b38) rfl rfl 39 rfl (fun _ _ h=>h) (fun h0 w=>Qi h0 w) (fun hw A w' γ hb hF hs=>Qo hw (Qd (Qq 35 (.tmp 40) rfl _ ((hs.1 5 rfl 40 rfl).trans (itv (w:=w') (hF 5 rfl) hw)) _ ((hb.cell (p:=⟨w.heap.size,2,none⟩) hlt).trans c2) _ underlying35 rfl))),Qx 4 true (b38) rfl rfl 39 rfl (fun _ _ h=>h) (fun h0 w=>Qi h0 w) (fun hw A w' γ hb hF hs=>Qo hw (Qd (Yb (.tmp 41) 35 _ a2 n2 k2 rfl ((hs.1 6 rfl 41 rfl).trans (itv (w:=w') (hF 6 rfl) hw)) underlying35))),Qx 4 true (b38) rfl rfl 39 rfl (fun _ _ h=>h) (fun h0 w=>Qi h0 w) (fun hw A w' γ hb hF hs=>Qo hw (Qd (Hh 3 _ (.tmp 42) (.const (.int .i64 20)) .i64 (n2) (20) b43 rfl ((hs.1 7 rfl 42 rfl).trans (itv (w:=w') (hF 7 rfl) hw)) rfl hb43.symm))),Xc (.inr ⟨gk0 rfl,fun A w' γ hb hF hs=>Qd (Qy (.tmp 39) (.tmp 43) (b38) (b43) r44 rfl ((hs.1 4 rfl 39 rfl).trans (hF 4 rfl)) (fun hp=>((hs.1 8 rfl 43 rfl).trans (itv (w:=w') (hF 8 rfl) hp))) hr44.symm)⟩),Xc (.inr ⟨gk0 rfl,fun A w' γ hb hF hs=>Qd (Qe (.tmp 44) (.inr rfl) ((hs.1 9 rfl 44 rfl).trans (hF 9 rfl)))⟩),trivial⟩ ?_;intro γ wx hb hF;have ez:γ 10= .bool r44:=hF 10 (by decide);simp only[Fr,QdC,Act.put,Qdh,Qdy,Qdz,Nat.reduceAdd];rw[ez];clear ez hF;have B:=Lib.hid (bt Y2.out.2.1 hb);have hR:Tw n1 n2 L1 L2=r44:=by
      unfold Tw;have e1:decide ((n1:Int)≤20)=decide (n1≤20):=decide_eq_decide.2 (by omega);have e2:decide ((n2:Int)≤20)=decide (n2≤20):=decide_eq_decide.2 (by omega);rw[Y1.out.2.2,Y2.out.2.2,hr44,hb43,hb38,e1,e2];rfl
     clear c1 c2 hb hlt hb38 hb43 hr44;go_wp2_with fail;exact Qdg (v:=.bool r44) (by simp[results,results18,go_sem]) rfl ⟨by rw[hR],B.out⟩
theorem LU(k:Int)(m:Mf)(hm:m.ok)(L1 L2:List Nat)(w:World)(h1:ScR w m.s1 35 33 L1)(h2:ScR w m.s2 2 1 L2):
  Calls prog 5 #[.agg (rc k m).toArray] w fun e w'=>QbX w (m.s4.2.1≤40∧m.s5.2.1≤150∧m.s7.2.1≤100∧m.s8.2.1≤100∧m.s9.2.1≤1100) e w':=by
 have X0:Blk (w.alloc (.cells (rc k m).toArray 39)) w.heap.size 39 (rc k m).toArray:=Blk.new _ _ _;have B0:Below w.heap.size w (w.alloc (.cells (rc k m).toArray 39)):=ba (Below.refl _ _) _;have hcel:=TX k m hm X0;have htx:=rc_tx k m hm X0;obtain⟨a5,n5,k5,e5⟩:∃a n c,m.s5=(a,n,c):=⟨_,_,_,rfl⟩;obtain⟨a4,n4,k4,e4⟩:∃a n c,m.s4=(a,n,c):=⟨_,_,_,rfl⟩;obtain⟨a7,n7,k7,e7⟩:∃a n c,m.s7=(a,n,c):=⟨_,_,_,rfl⟩;obtain⟨a8,n8,k8,e8⟩:∃a n c,m.s8=(a,n,c):=⟨_,_,_,rfl⟩;obtain⟨a9,n9,k9,e9⟩:∃a n c,m.s9=(a,n,c):=⟨_,_,_,rfl⟩;obtain⟨a1,n1,k1,e1⟩:∃a n c,m.s1=(a,n,c):=⟨_,_,_,rfl⟩;obtain⟨a2,n2,k2,e2⟩:∃a n c,m.s2=(a,n,c):=⟨_,_,_,rfl⟩;rw[e1] at h1;rw[e2] at h2;rw[e5,e4,e7,e8,e9];simp only[e5,e4,e7,e8,e9,e1,e2,slv] at hcel htx;have hfew:=fun w' (h:Below (w.alloc (.cells (rc k m).toArray 39)).heap.size (w.alloc (.cells (rc k m).toArray 39)) w')=>LV m.x0 m.x3 a1 n1 k1 a2 n2 k2 L1 L2 w' ((h1.calls B0).calls h) ((h2.calls B0).calls h);obtain⟨fw,hfw⟩:=nE (Tw n1 n2 L1 L2);rw[←hfw] at hfew;have iT:(prog.info? 37).map (·.size)=some ([.int .u32 (m.x0:Nat),.slice a1 n1 k1,.slice a2 n2 k2,.int .u32 (m.x3:Nat)]:List Value).length:=by kernel_rfl
 obtain⟨R,hR⟩:∃R:List Value,R=[.int .u32 (m.x0:Nat),.slice a1 n1 k1,.slice a2 n2 k2,.int .u32 (m.x3:Nat)]:=⟨_,rfl⟩;rw[←hR] at iT htx;have hfew:∀w',Below (w.alloc (.cells (rc k m).toArray 39)).heap.size (w.alloc (.cells (rc k m).toArray 39)) w'→Calls prog 18 #[.agg R.toArray] w' fun e w''=>e= .returned (.bool fw)∧Below w'.heap.size w' w'':=by rw[hR];exact hfew
 clear hR;obtain⟨C,hC⟩:=nE ((rc k m).toArray);rw[←hC] at X0 B0 hcel htx hfew ⊢;have hlt:=X0.lt;have E:=H4 hfew iT hcel htx;clear hfew iT hcel htx;have X:=H2 X0 B0;clear X0 B0 hC hm e5 e4 e7 e8 e9 e1 e2 h1 h2 hfw;go_enter func5,ntmps5;go_upto_region 1 with fail;obtain⟨hfew,iT,⟨c0,c1,c2,c3,c4,c5,c38,c107,c108,c109,c110,c111,c112,c113,r6,r39⟩,r110⟩:=E.out;obtain⟨b6,hb6⟩:=nE (decide ((n4:Int)≤(40:Int)));obtain⟨b11,hb11⟩:=nE (decide ((n5:Int)≤(150:Int)));obtain⟨r12,hr12⟩:=nE ((b6&&b11));obtain⟨b17,hb17⟩:=nE (decide ((n7:Int)≤(100:Int)));obtain⟨r18,hr18⟩:=nE ((r12&&b17));obtain⟨b24,hb24⟩:=nE (decide ((n8:Int)≤(100:Int)));obtain⟨r25,hr25⟩:=nE ((r18&&b24));obtain⟨b31,hb31⟩:=nE (decide ((n9:Int)≤(1100:Int)));obtain⟨r32,hr32⟩:=nE ((r25&&b31));obtain⟨r37,hr37⟩:=nE ((r32&&fw));refine YE [some 3,some 4,some 5,some 6,some 7,some 8,some 9,some 10,some 11,some 12,some 13,some 14,some 15,some 16,some 17,some 18,some 19,some 20,some 21,some 22,some 23,some 24,some 25,some 26,some 27,some 28,some 29,some 30,some 31,some 32,some 33,some 34,some 35,some 36,some 37,some 2] (FL [EqV (.pointer (some ⟨w.heap.size,4,none⟩)),EqV (.slice a4 n4 k4),EqV (.int .i64 n4),EqV (.bool b6),EqV (.bool b6),ItV ((b6==true)) (.pointer (some ⟨w.heap.size,5,none⟩)),ItV ((b6==true)) (.slice a5 n5 k5),ItV ((b6==true)) (.int .i64 n5),ItV ((b6==true)) (.bool b11),EqV (.bool r12),EqV (.bool r12),ItV ((r12==true)) (.pointer (some ⟨w.heap.size,38,none⟩)),ItV ((r12==true)) (.slice a7 n7 k7),ItV ((r12==true)) (.int .i64 n7),ItV ((r12==true)) (.bool b17),EqV (.bool r18),EqV (.bool r18),ItV ((r18==true)) (.pointer (some ⟨w.heap.size,39,none⟩)),ItV ((r18==true)) (.pointer (some ⟨w.heap.size,39+69,none⟩)),ItV ((r18==true)) (.slice a8 n8 k8),ItV ((r18==true)) (.int .i64 n8),ItV ((r18==true)) (.bool b24),EqV (.bool r25),EqV (.bool r25),ItV ((r25==true)) (.pointer (some ⟨w.heap.size,39,none⟩)),ItV ((r25==true)) (.pointer (some ⟨w.heap.size,39+70,none⟩)),ItV ((r25==true)) (.slice a9 n9 k9),ItV ((r25==true)) (.int .i64 n9),ItV ((r25==true)) (.bool b31),EqV (.bool r32),EqV (.bool r32),ItV ((r32==true)) (.pointer (some ⟨w.heap.size,110,none⟩)),ItV ((r32==true)) (.agg (R).toArray),ItV ((r32==true)) (.bool fw),EqV (.bool r37),EqV (.bool r37)]) (QO ⟨Qa _,Qa _,Qa _,Qa _,Qa _,Qc _ _,Qc _ _,Qc _ _,Qc _ _,Qa _,Qa _,Qc _ _,Qc _ _,Qc _ _,Qc _ _,Qa _,Qa _,Qc _ _,Qc _ _,Qc _ _,Qc _ _,Qc _ _,Qa _,Qa _,Qc _ _,Qc _ _,Qc _ _,Qc _ _,Qc _ _,Qa _,Qa _,Qc _ _,Qc _ _,Qc _ _,Qa _,Qa _,trivial⟩) rfl rfl rfl rfl ⟨Xc (.inr ⟨gk0 rfl,fun A w' γ hb hF hs=>Qd (Qs 39 (.tmp 1) 4 4 rfl (w.heap.size) ((hs.2 1 rfl).trans rfl) fun _ _=>by kernel_rfl)⟩),Xc (.inr ⟨gk0 rfl,fun A w' γ hb hF hs=>Qd (Qq 24 (.tmp 3) rfl _ ((hs.1 0 rfl 3 rfl).trans (hF 0 rfl)) _ ((hb.cell (p:=⟨w.heap.size,4,none⟩) hlt).trans c4) _ underlying24 rfl)⟩),Xc (.inr ⟨gk0 rfl,fun A w' γ hb hF hs=>Qd (Yb (.tmp 4) 24 _ a4 n4 k4 rfl ((hs.1 1 rfl 4 rfl).trans (hF 1 rfl)) underlying24)⟩),Xc (.inr ⟨gk0 rfl,fun A w' γ hb hF hs=>Qd (Hh 3 _ (.tmp 5) (.const (.int .i64 40)) .i64 (n4) (40) b6 rfl ((hs.1 2 rfl 5 rfl).trans (hF 2 rfl)) rfl hb6.symm)⟩),Xc (.inr ⟨gk0 rfl,fun A w' γ hb hF hs=>Qd (Qe (.tmp 6) (.inl rfl) ((hs.1 3 rfl 6 rfl).trans (hF 3 rfl)))⟩),Qx 4 true (b6) rfl rfl 7 rfl (fun _ _ h=>h) (fun h0 w=>Qi h0 w) (fun hw A w' γ hb hF hs=>Qo hw (Qd (Qs 39 (.tmp 1) 5 5 rfl (w.heap.size) ((hs.2 1 rfl).trans rfl) fun _ _=>by kernel_rfl))),Qx 4 true (b6) rfl rfl 7 rfl (fun _ _ h=>h) (fun h0 w=>Qi h0 w) (fun hw A w' γ hb hF hs=>Qo hw (Qd (Qq 25 (.tmp 8) rfl _ ((hs.1 5 rfl 8 rfl).trans (itv (w:=w') (hF 5 rfl) hw)) _ ((hb.cell (p:=⟨w.heap.size,5,none⟩) hlt).trans c5) _ underlying25 rfl))),Qx 4 true (b6) rfl rfl 7 rfl (fun _ _ h=>h) (fun h0 w=>Qi h0 w) (fun hw A w' γ hb hF hs=>Qo hw (Qd (Yb (.tmp 9) 25 _ a5 n5 k5 rfl ((hs.1 6 rfl 9 rfl).trans (itv (w:=w') (hF 6 rfl) hw)) underlying25))),Qx 4 true (b6) rfl rfl 7 rfl (fun _ _ h=>h) (fun h0 w=>Qi h0 w) (fun hw A w' γ hb hF hs=>Qo hw (Qd (Hh 3 _ (.tmp 10) (.const (.int .i64 150)) .i64 (n5) (150) b11 rfl ((hs.1 7 rfl 10 rfl).trans (itv (w:=w') (hF 7 rfl) hw)) rfl hb11.symm))),Xc (.inr ⟨gk0 rfl,fun A w' γ hb hF hs=>Qd (Qy (.tmp 7) (.tmp 11) (b6) (b11) r12 rfl ((hs.1 4 rfl 7 rfl).trans (hF 4 rfl)) (fun hp=>((hs.1 8 rfl 11 rfl).trans (itv (w:=w') (hF 8 rfl) hp))) hr12.symm)⟩),Xc (.inr ⟨gk0 rfl,fun A w' γ hb hF hs=>Qd (Qe (.tmp 12) (.inl rfl) ((hs.1 9 rfl 12 rfl).trans (hF 9 rfl)))⟩),Qx 10 true (r12) rfl rfl 13 rfl (fun _ _ h=>h) (fun h0 w=>Qi h0 w) (fun hw A w' γ hb hF hs=>Qo hw (Qd (Qs 39 (.tmp 1) 7 38 rfl (w.heap.size) ((hs.2 1 rfl).trans rfl) fun _ _=>by kernel_rfl))),Qx 10 true (r12) rfl rfl 13 rfl (fun _ _ h=>h) (fun h0 w=>Qi h0 w) (fun hw A w' γ hb hF hs=>Qo hw (Qd (Qq 28 (.tmp 14) rfl _ ((hs.1 11 rfl 14 rfl).trans (itv (w:=w') (hF 11 rfl) hw)) _ ((hb.cell (p:=⟨w.heap.size,38,none⟩) hlt).trans c38) _ underlying28 rfl))),Qx 10 true (r12) rfl rfl 13 rfl (fun _ _ h=>h) (fun h0 w=>Qi h0 w) (fun hw A w' γ hb hF hs=>Qo hw (Qd (Yb (.tmp 15) 28 _ a7 n7 k7 rfl ((hs.1 12 rfl 15 rfl).trans (itv (w:=w') (hF 12 rfl) hw)) underlying28))),Qx 10 true (r12) rfl rfl 13 rfl (fun _ _ h=>h) (fun h0 w=>Qi h0 w) (fun hw A w' γ hb hF hs=>Qo hw (Qd (Hh 3 _ (.tmp 16) (.const (.int .i64 100)) .i64 (n7) (100) b17 rfl ((hs.1 13 rfl 16 rfl).trans (itv (w:=w') (hF 13 rfl) hw)) rfl hb17.symm))),Xc (.inr ⟨gk0 rfl,fun A w' γ hb hF hs=>Qd (Qy (.tmp 13) (.tmp 17) (r12) (b17) r18 rfl ((hs.1 10 rfl 13 rfl).trans (hF 10 rfl)) (fun hp=>((hs.1 14 rfl 17 rfl).trans (itv (w:=w') (hF 14 rfl) hp))) hr18.symm)⟩),Xc (.inr ⟨gk0 rfl,fun A w' γ hb hF hs=>Qd (Qe (.tmp 18) (.inl rfl) ((hs.1 15 rfl 18 rfl).trans (hF 15 rfl)))⟩),Qx 16 true (r18) rfl rfl 19 rfl (fun _ _ h=>h) (fun h0 w=>Qi h0 w) (fun hw A w' γ hb hF hs=>Qo hw (Qd (Qs 39 (.tmp 1) 8 39 rfl (w.heap.size) ((hs.2 1 rfl).trans rfl) fun _ _=>by kernel_rfl))),Qx 16 true (r18) rfl rfl 19 rfl (fun _ _ h=>h) (fun h0 w=>Qi h0 w) (fun hw A w' γ hb hF hs=>Qo hw (Qd (Zt 33 (.tmp 20) 2 69 rfl (w.heap.size) (39) ((hs.1 17 rfl 20 rfl).trans (itv (w:=w') (hF 17 rfl) hw)) fun _ _ _=>by kernel_rfl))),Qx 16 true (r18) rfl rfl 19 rfl (fun _ _ h=>h) (fun h0 w=>Qi h0 w) (fun hw A w' γ hb hF hs=>Qo hw (Qd (Qq 25 (.tmp 21) rfl _ ((hs.1 18 rfl 21 rfl).trans (itv (w:=w') (hF 18 rfl) hw)) _ ((hb.cell (p:=⟨w.heap.size,39+69,none⟩) hlt).trans c108) _ underlying25 rfl))),Qx 16 true (r18) rfl rfl 19 rfl (fun _ _ h=>h) (fun h0 w=>Qi h0 w) (fun hw A w' γ hb hF hs=>Qo hw (Qd (Yb (.tmp 22) 25 _ a8 n8 k8 rfl ((hs.1 19 rfl 22 rfl).trans (itv (w:=w') (hF 19 rfl) hw)) underlying25))),Qx 16 true (r18) rfl rfl 19 rfl (fun _ _ h=>h) (fun h0 w=>Qi h0 w) (fun hw A w' γ hb hF hs=>Qo hw (Qd (Hh 3 _ (.tmp 23) (.const (.int .i64 100)) .i64 (n8) (100) b24 rfl ((hs.1 20 rfl 23 rfl).trans (itv (w:=w') (hF 20 rfl) hw)) rfl hb24.symm))),Xc (.inr ⟨gk0 rfl,fun A w' γ hb hF hs=>Qd (Qy (.tmp 19) (.tmp 24) (r18) (b24) r25 rfl ((hs.1 16 rfl 19 rfl).trans (hF 16 rfl)) (fun hp=>((hs.1 21 rfl 24 rfl).trans (itv (w:=w') (hF 21 rfl) hp))) hr25.symm)⟩),Xc (.inr ⟨gk0 rfl,fun A w' γ hb hF hs=>Qd (Qe (.tmp 25) (.inl rfl) ((hs.1 22 rfl 25 rfl).trans (hF 22 rfl)))⟩),Qx 23 true (r25) rfl rfl 26 rfl (fun _ _ h=>h) (fun h0 w=>Qi h0 w) (fun hw A w' γ hb hF hs=>Qo hw (Qd (Qs 39 (.tmp 1) 8 39 rfl (w.heap.size) ((hs.2 1 rfl).trans rfl) fun _ _=>by kernel_rfl))),Qx 23 true (r25) rfl rfl 26 rfl (fun _ _ h=>h) (fun h0 w=>Qi h0 w) (fun hw A w' γ hb hF hs=>Qo hw (Qd (Zt 33 (.tmp 27) 3 70 rfl (w.heap.size) (39) ((hs.1 24 rfl 27 rfl).trans (itv (w:=w') (hF 24 rfl) hw)) fun _ _ _=>by kernel_rfl))),Qx 23 true (r25) rfl rfl 26 rfl (fun _ _ h=>h) (fun h0 w=>Qi h0 w) (fun hw A w' γ hb hF hs=>Qo hw (Qd (Qq 31 (.tmp 28) rfl _ ((hs.1 25 rfl 28 rfl).trans (itv (w:=w') (hF 25 rfl) hw)) _ ((hb.cell (p:=⟨w.heap.size,39+70,none⟩) hlt).trans c109) _ underlying31 rfl))),Qx 23 true (r25) rfl rfl 26 rfl (fun _ _ h=>h) (fun h0 w=>Qi h0 w) (fun hw A w' γ hb hF hs=>Qo hw (Qd (Yb (.tmp 29) 31 _ a9 n9 k9 rfl ((hs.1 26 rfl 29 rfl).trans (itv (w:=w') (hF 26 rfl) hw)) underlying31))),Qx 23 true (r25) rfl rfl 26 rfl (fun _ _ h=>h) (fun h0 w=>Qi h0 w) (fun hw A w' γ hb hF hs=>Qo hw (Qd (Hh 3 _ (.tmp 30) (.const (.int .i64 1100)) .i64 (n9) (1100) b31 rfl ((hs.1 27 rfl 30 rfl).trans (itv (w:=w') (hF 27 rfl) hw)) rfl hb31.symm))),Xc (.inr ⟨gk0 rfl,fun A w' γ hb hF hs=>Qd (Qy (.tmp 26) (.tmp 31) (r25) (b31) r32 rfl ((hs.1 23 rfl 26 rfl).trans (hF 23 rfl)) (fun hp=>((hs.1 28 rfl 31 rfl).trans (itv (w:=w') (hF 28 rfl) hp))) hr32.symm)⟩),Xc (.inr ⟨gk0 rfl,fun A w' γ hb hF hs=>Qd (Qe (.tmp 32) (.inl rfl) ((hs.1 29 rfl 32 rfl).trans (hF 29 rfl)))⟩),Qx 30 true (r32) rfl rfl 33 rfl (fun _ _ h=>h) (fun h0 w=>Qi h0 w) (fun hw A w' γ hb hF hs=>Qo hw (Qd (Qs 39 (.tmp 1) 9 110 rfl (w.heap.size) ((hs.2 1 rfl).trans rfl) fun _ _=>by kernel_rfl))),Qx 30 true (r32) rfl rfl 33 rfl (fun _ _ h=>h) (fun h0 w=>Qi h0 w) (fun hw A w' γ hb hF hs=>Qo hw (Qd (Zb 37 (.tmp 34) rfl _ (110) ((hs.1 31 rfl 34 rfl).trans (itv (w:=w') (hF 31 rfl) hw)) (R) _ (QY r110 hb hlt) underlying37 rfl iT))),Qx 30 true (r32) rfl rfl 33 rfl (fun _ _ h=>h) (fun h0 w=>Qi h0 w) (fun hw A w' γ hb hF hs=>Qo hw (Qd (Zj 18 #[.agg (R).toArray] (QH _ 18 #[.agg (R).toArray] rfl rfl (Hl ((hs.1 32 rfl 35 rfl).trans (itv (w:=w') (hF 32 rfl) hw))) func18 rfl rfl) (hfew _ hb)))),Xc (.inr ⟨gk0 rfl,fun A w' γ hb hF hs=>Qd (Qy (.tmp 33) (.tmp 36) (r32) (fw) r37 rfl ((hs.1 30 rfl 33 rfl).trans (hF 30 rfl)) (fun hp=>((hs.1 33 rfl 36 rfl).trans (itv (w:=w') (hF 33 rfl) hp))) hr37.symm)⟩),Xc (.inr ⟨gk0 rfl,fun A w' γ hb hF hs=>Qd (Qe (.tmp 37) (.inr rfl) ((hs.1 34 rfl 37 rfl).trans (hF 34 rfl)))⟩),trivial⟩ ?_;intro γ wx hb hF;have ez:γ 35= .bool r37:=hF 35 (by decide);simp only[Fr,QdC,Act.put,Qdh,Qdy,Qdz,Nat.reduceAdd];rw[ez];clear ez hF;have B:=Lib.hid (bt X.out.2 hb);clear hfew iT c0 c1 c2 c3 c4 c5 c38 c107 c108 c109 c110 c111 c112 c113 r6 r39 r110 hb hlt;have hR:r37=true→n4≤40∧n5≤150∧n7≤100∧n8≤100∧n9≤1100:=by
  intro h;rw[hr37,hr32,hb31,hr25,hb24,hr18,hb17,hr12,hb11,hb6] at h;simp only[Qdo,QdM] at h;omega
 clear hb6 hb11 hr12 hb17 hr18 hb24 hr25 hb31 hr32 hr37;go_wp2_with fail;exact Qdg (v:=.bool r37) (by simp[results,results5,go_sem]) rfl ⟨r37,rfl,B.out,hR⟩
end Go.Proofs.YthdaabapiicnhaaGreatDoor
namespace Go.Proofs.YthdaabapiicnhaaGreatDoor
open Go.ChangeShapes Go.WideShapes Go.ChangeAt Go.RowKit Go.Deep
theorem Rq{k:Int}(h:(Lit.int .u32 k).wf=true):∃n:Nat,k=n∧n<4294967296:=by
 simp[Lit.wf,IntKind.min,IntKind.max,IntKind.signed,IntKind.bits] at h;exact⟨k.toNat,by omega,by omega⟩
theorem ZS{α:Type}(cs:List α)(o n q:Nat)(h:o+n=q):cs.drop o=(cs.drop o).take n++cs.drop q:=by
 subst h;rw[←Qei,QeU]
section
variable {H:Type} {enc:TypeId×Value→H} {w:World} {sp:Nat→Bool} {held:Bool}
theorem Z1{α:Type}(f:α→List Value)(Q:α→Prop){P:Program}{t e:TypeId}{k:Nat}(ht:P.underlying t=some (.slice e))(hc:P.cellsOf e=k)(hk:0<k)(hlen:∀x,Q x→(f x).length=k)
  (elem:∀n cs y,DataW.trod enc P w 0 (fun _=>true) held n e cs=some y→∃x,cs=f x∧Q x) {n:Nat} {cs:List Value} {y:DataW H×List MemPlace} (h:DataW.trod enc P w 0 (fun _=>true) held n t cs=some y):
  ∃(a:Option Addr) (c:Nat) (L:List α),cs=[.slice a L.length c]∧SlV f L (.slice a L.length c) w∧∀x∈L,Q x:=by
 rcases open_slice ht h with ⟨hcs,hx⟩|⟨a,len,cap,m,n,D,Pl,hcs,_,hl,hcm,hm,hx,hel⟩
 ·exact⟨none,0,[],hcs,⟨none,0,rfl,.inl rfl,Qde _,Qdw _,fun _=>⟨rfl,rfl⟩⟩,fun x hx=>by cases hx⟩
 ·simp only[QdC] at hm;rw[hc] at hel;obtain⟨L,hL,hLq⟩:=So (fun i (x:α)=>w.cells? 0 (a.add (i*k)) k=some (f x)∧Q x) len (fun i hi=>by
   obtain⟨cs',h1,h2⟩:=hel i (by omega);obtain⟨x,e,hq⟩:=elem _ _ _ h2;exact⟨x,by rw[h1,e],hq⟩)
  have hq:∀x∈L,Q x:=fun x hx=>by
   obtain⟨i,hi⟩:=List.mem_iff_getElem?.1 hx;exact (hLq i x hi).2
  refine⟨some a,cap,L,by rw[hL];exact hcs,⟨some a,cap,rfl,?_,by rw[hL];exact hl,hcm,fun h=>by cases h⟩,hq⟩;by_cases h0:len=0
  ·left;have:L=[]:=QdO.1 (by omega);rw[this];rfl
  ·right;obtain⟨y0,hy0⟩:∃y,L[0]? =some y:=⟨_,Qdk (by omega)⟩;obtain⟨_,hl0,hcell⟩:=World.cells?_some (hLq 0 y0 hy0).1;have hc0:=hcell 0 (by omega);have ha0:(a.add (0*k)).add 0=a:=by simp[Addr.add]
   rw[ha0,Qdk (by omega)] at hc0;have sq:=Tc (w:=w) (a:=a) hc0;refine⟨a.block,a.off,by rw[←sq.1],sq.2,fun j u hu=>?_⟩;have hj:j<L.length*k:=by rw[←Gp fun x hx=>hlen x (hq x hx)];exact (Qdt.1 hu).1
   have hjk:j/k<L.length:=Nat.div_lt_of_lt_mul (by rw[Qf0];exact hj);have hjm:j%k<k:=Qen _ hk;have hjd:j=j/k*k+j%k:=by rw[Qf0];exact (Qft j k).symm
   obtain⟨y,hy⟩:∃y,L[j/k]? =some y:=⟨_,Qdk hjk⟩;obtain⟨_,hly,hcell⟩:=World.cells?_some (hLq (j/k) y hy).1;have h3:=hcell (j%k) hjm;have ea:(a.add (j/k*k)).add (j%k)=⟨a.block,a.off+j,none⟩:=by
    have:=sq.1;generalize a.block=ab at *;generalize a.off=ao at *;rw[this];simp only[Addr.add_mid,Qeb];rw[←hjd]
   rw[ea] at h3;rw[h3,←Gq (fun x hx=>hlen x (hq x hx)) hy hjm,←hjd];exact hu
theorem fld{P:Program}{u:TypeId}{c n off:Nat}{cs:List Value}{y:Option (DataW H×List MemPlace)}(hc:P.cellsOf u=c)(h:DataW.trod enc P w 0 sp held n u ((cs.drop off).take (P.cellsOf u))=y):DataW.trod enc P w 0 sp held n u ((cs.drop off).take c)=y:=by
 rw[←hc];exact h
theorem Sv{u:TypeId}{k:IntKind}{n:Nat}{cs:List Value}{y:DataW H×List MemPlace}(hu:prog.underlying u=some (.int k))(h:DataW.trod enc prog w 0 sp held n u cs=some y):∃z,cs=[.int k z]∧(Lit.int k z).wf=true:=by
 obtain⟨z,hz1,_,hz3⟩:=DataW.trod_int hu h;exact⟨z,hz1,hz3⟩
theorem J7{n:Nat}{cs:List Value}{y:DataW H×List MemPlace}(h:DataW.trod enc prog w 0 sp held n 22 cs=some y):∃z:Nat,cs=[.int .u32 (z:Nat)]∧z<4294967296:=by
 obtain⟨z,h1,h2⟩:=Sv underlying22 h;obtain⟨m,rfl,h3⟩:=Rq h2;exact⟨m,h1,h3⟩
theorem Qce{n:Nat}{cs:List Value}{y:DataW H×List MemPlace}(h:DataW.trod enc prog w 0 sp held n 23 cs=some y):∃z:Nat,cs=[.int .u64 (z:Nat)]∧z<18446744073709551616:=by
 obtain⟨z,h1,h2⟩:=Sv underlying23 h;simp[Lit.wf,IntKind.min,IntKind.max,IntKind.signed,IntKind.bits] at h2;exact⟨z.toNat,by rw[h1,Int.toNat_of_nonneg (by omega)],by omega⟩
theorem Wu{n:Nat}{cs:List Value}{y:DataW H×List MemPlace}(hl:cs.length=32)(h:DataW.trod enc prog w 0 sp held n 27 cs=some y):∃b:List UInt8,b.length=32∧cs=Qk b:=by
 have hc8:prog.cellsOf 5=1:=by kernel_rfl
 obtain⟨xs,m,_,_,h1,h2,hg⟩:=DataW.trod_array underlying27 h;obtain⟨b,hb,hbq⟩:=So (fun j (c:UInt8)=>cs[j]? =some (.int .u8 (c.toNat:Int))) 32 (fun j hj=>by
  have h3:=hg j hj;rw[hc8,Qe2] at h3;have e:(cs.drop j).take 1=[cs[j]'(by omega)]:=by
   apply List.ext_getElem?;intro i;cases i with
   | zero=>simp[QeP,QeH,Qdk (show j<cs.length by omega)]
   | succ i=>simp[QeP]
  rw[e,Qdk (by omega)] at h3;obtain⟨z,hz1,_,hz3⟩:=DataW.trod_int underlying5 h3;refine⟨UInt8.ofNat z.toNat,?_⟩;rw[Qdk (by omega)];injection hz1 with hz1
  rw[hz1,←Me z hz3])
 refine⟨b,hb,?_⟩;apply List.ext_getElem?;intro j;by_cases hj:j<32
 ·rw[hbq j _ (Qdk (by omega))];unfold Qk;rw[QdI,Qdk (by omega)];rfl
 ·rw[List.getElem?_eq_none (by omega),List.getElem?_eq_none (by rw[Qf];omega)]
theorem QbO{n:Nat}{cs:List Value}{y:DataW H×List MemPlace}(h:DataW.trod enc prog w 0 sp held n 30 cs=some y):∃hd:Hd,cs=hdC hd∧QJ.ok hd:=by
 obtain⟨xs,k,_,rfl,hl,hlen,hf⟩:=DataW.trod_struct underlying30 h;have hl68:cs.length=68:=hl.trans (by kernel_rfl);have hlen6:xs.length=6:=hlen;have hx:∀(i:Nat) (hi:i<6),xs[i]? =some (xs[i]'(by omega)):=fun i hi=>Qdk (by omega);have c32:prog.cellsOf 22=1:=by kernel_rfl
 have cH:prog.cellsOf 27=32:=by kernel_rfl
 have g0:DataW.trod enc prog w 0 sp held k 22 ((cs.drop 0).take 1)=some (_):=fld c32 ((hf 0 _ rfl).trans (hx 0 (by omega)));have g1:DataW.trod enc prog w 0 sp held k 27 ((cs.drop 1).take 32)=some (_):=fld cH ((hf 1 _ rfl).trans (hx 1 (by omega)));have g2:DataW.trod enc prog w 0 sp held k 27 ((cs.drop 33).take 32)=some (_):=fld cH ((hf 2 _ rfl).trans (hx 2 (by omega)));have g3:DataW.trod enc prog w 0 sp held k 22 ((cs.drop 65).take 1)=some (_):=fld c32 ((hf 3 _ rfl).trans (hx 3 (by omega)));have g4:DataW.trod enc prog w 0 sp held k 22 ((cs.drop 66).take 1)=some (_):=fld c32 ((hf 4 _ rfl).trans (hx 4 (by omega)));have g5:DataW.trod enc prog w 0 sp held k 22 ((cs.drop 67).take 1)=some (_):=fld c32 ((hf 5 _ rfl).trans (hx 5 (by omega)));obtain⟨z0,e0,w0⟩:=J7 g0;obtain⟨b1,l1,e1⟩:=Wu (by rw[Qds,Qdq];omega) g1;obtain⟨b2,l2,e2⟩:=Wu (by rw[Qds,Qdq];omega) g2;obtain⟨z3,e3,w3⟩:=J7 g3;obtain⟨z4,e4,w4⟩:=J7 g4;obtain⟨z5,e5,w5⟩:=J7 g5;refine⟨(z0,b1,b2,z3,z4,z5),?_,w0,l1,l2,w3,w4,w5⟩;have k0:=ZS cs 0 1 1 rfl;have k1:=ZS cs 1 32 33 rfl;have k2:=ZS cs 33 32 65 rfl;have k3:=ZS cs 65 1 66 rfl;have k4:=ZS cs 66 1 67 rfl;have k5:=ZS cs 67 1 68 rfl;rw[e0] at k0;rw[e1] at k1;rw[e2] at k2;rw[e3] at k3;rw[e4] at k4;rw[e5,QfJ (show cs.length≤68 by omega)] at k5;rw[k5] at k4;rw[k4] at k3;rw[k3] at k2;rw[k2] at k1;rw[k1] at k0;exact k0
theorem Qbc{n:Nat}{cs:List Value}{y:DataW H×List MemPlace}(h:DataW.trod enc prog w 0 sp held n 105 cs=some y):∃x:Itm,cs=Xx x∧((Qj 4).pair (QU 32)).ok x:=by
 obtain⟨xs,k,_,rfl,hl,hlen,hf⟩:=DataW.trod_struct underlying105 h;have hl33:cs.length=33:=hl.trans (by kernel_rfl);have hlen2:xs.length=2:=hlen;have hx:∀(i:Nat) (hi:i<2),xs[i]? =some (xs[i]'(by omega)):=fun i hi=>Qdk (by omega);have c32:prog.cellsOf 22=1:=by kernel_rfl
 have cH:prog.cellsOf 27=32:=by kernel_rfl
 have g0:DataW.trod enc prog w 0 sp held k 22 ((cs.drop 0).take 1)=some (_):=fld c32 ((hf 0 _ rfl).trans (hx 0 (by omega)));have g1:DataW.trod enc prog w 0 sp held k 27 ((cs.drop 1).take 32)=some (_):=fld cH ((hf 1 _ rfl).trans (hx 1 (by omega)));obtain⟨z0,e0,w0⟩:=J7 g0;obtain⟨b1,l1,e1⟩:=Wu (by rw[Qds,Qdq];omega) g1;refine⟨(z0,b1),?_,w0,l1⟩;have k0:=ZS cs 0 1 1 rfl;have k1:=ZS cs 1 32 33 rfl;rw[e0] at k0;rw[e1,QfJ (show cs.length≤33 by omega),QdF] at k1;rw[k1] at k0;exact k0
theorem Lm{n:Nat}{cs:List Value}{y:DataW H×List MemPlace}(h:DataW.trod enc prog w 0 (fun _=>true) held n 31 cs=some y):∃(a:Option Addr) (c:Nat) (l:List UInt8),cs=[.slice a l.length c]∧CloV l (.slice a l.length c) w:=by
 obtain⟨a,c,L,h1,h2,h3⟩:=Z1 (fun b:UInt8=>[Value.int .u8 (b.toNat:Int)]) (fun _=>True) underlying31 (show prog.cellsOf 5=1 by kernel_rfl) (by omega) (fun _ _=>rfl) (fun n cs y h=>by
  obtain⟨z,hz1,hz2⟩:=Sv underlying5 h;exact⟨UInt8.ofNat z.toNat,by rw[hz1,←Me z hz2],trivial⟩) h
 obtain⟨a',c',e,h5,h6,h7,h8⟩:=h2;injection e with e1 e2 e3
 subst e1 e3;refine⟨a,c,L,h1,a,c,rfl,?_,h6,h7,h8⟩;rcases h5 with h5|⟨g,o,q1,q2,q3⟩
 ·left;cases L with
  | nil=>rfl
  | cons x t=>simp at h5
 ·refine .inr ⟨g,o,q1,q2,fun i hi=>?_⟩;have:=Gq (f:=fun b:UInt8=>[Value.int .u8 (b.toNat:Int)]) (k:=1) (fun x hx=>rfl) (L:=L) (i:=i) (j:=0) (x:=L.getD i 0) (by rw[List.getD,Qdk hi];rfl) (by omega);rw[Qe2,Qea] at this;exact q3 i _ this
def Qaj(k off:Nat)(x:List Value×Nat):Prop:=x.1.length=k∧∃a c,x.1[off]? =some (.slice a x.2 c)
theorem Mp{k off:Nat}(hk:off<k){L:List (List Value×Nat)}{a:Option Addr}{c:Nat}(hq:∀x∈L,Qaj k off x)(h:SlV (fun x:List Value×Nat=>x.1) L (.slice a L.length c) w):ScR w (a,L.length,c) k off (L.map (·.2)):=by
 obtain⟨a',c',e,h5,h6,h7,h8⟩:=h;injection e with e1 e2 e3
 subst e1 e3;refine⟨by simp,Qdx h6 h7,?_⟩;rcases h5 with h5|⟨g,o,q1,q2,q3⟩
 ·left;have:=Gp (f:=fun x:List Value×Nat=>x.1) (k:=k) (L:=L) fun x hx=>(hq x hx).1;rw[h5] at this;simp only[Qe7] at this;rcases Nat.eq_zero_or_pos L.length with h0|h0
  ·exact h0
  ·have:=Nat.mul_pos h0 (show 0<k by omega);omega
 ·refine .inr ⟨g,o,q1,q2,fun j n hj=>?_⟩;rw[QdI] at hj;obtain⟨x,hx,rfl⟩:=QdJ.1 hj;obtain⟨_,b,d,hb⟩:=hq x (QdT hx);refine⟨b,d,?_⟩;have:=q3 (j*k+off) (.slice b x.2 d) (by rw[Gq (fun x hx=>(hq x hx).1) hx hk];exact hb)
  rwa [Qeb]
theorem Ki{t e:TypeId}(ht:prog.underlying t=some (.slice e)){n:Nat}{cs:List Value}{y:DataW H×List MemPlace}(h:DataW.trod enc prog w 0 (fun _=>true) held n t cs=some y):∃a n c,cs=[.slice a n c]:=by
 rcases open_slice ht h with ⟨hcs,_⟩|⟨a,len,cap,_,_,_,_,hcs,_⟩
 ·exact⟨_,_,_,hcs⟩
 ·exact⟨_,_,_,hcs⟩
theorem Ep{α:Type}{cs:List α}{o:Nat}{v:α}(h:(cs.drop o).take 1=[v]):cs[o]? =some v:=by
 have:=congrArg (·[0]?) h;simpa[QeP,QeH] using this
theorem in_ok{n:Nat}{cs:List Value}{y:DataW H×List MemPlace}(h:DataW.trod enc prog w 0 (fun _=>true) held n 144 cs=some y):∃x:List Value×Nat,cs=x.1∧Qaj 35 33 x:=by
 obtain⟨xs,k,_,rfl,hl,hlen,hf⟩:=DataW.trod_struct underlying144 h;have hl35:cs.length=35:=hl.trans (by kernel_rfl);have hlen4:xs.length=4:=hlen;have cB:prog.cellsOf 31=1:=by kernel_rfl
 have g2:DataW.trod enc prog w 0 (fun _=>true) held k 31 ((cs.drop 33).take 1)=some (_):=fld cB ((hf 2 _ rfl).trans (Qdk (by omega)));obtain⟨a,m,c,e⟩:=Ki underlying31 g2;exact⟨(cs,m),rfl,hl35,a,c,Ep e⟩
theorem Qcs{n:Nat}{cs:List Value}{y:DataW H×List MemPlace}(h:DataW.trod enc prog w 0 (fun _=>true) held n 146 cs=some y):∃x:List Value×Nat,cs=x.1∧Qaj 2 1 x:=by
 obtain⟨xs,k,_,rfl,hl,hlen,hf⟩:=DataW.trod_struct underlying146 h;have hl35:cs.length=2:=hl.trans (by kernel_rfl);have hlen4:xs.length=2:=hlen;have cB:prog.cellsOf 31=1:=by kernel_rfl
 have g2:DataW.trod enc prog w 0 (fun _=>true) held k 31 ((cs.drop 1).take 1)=some (_):=fld cB ((hf 1 _ rfl).trans (Qdk (by omega)));obtain⟨a,m,c,e⟩:=Ki underlying31 g2;exact⟨(cs,m),rfl,hl35,a,c,Ep e⟩
structure M9 (w:World) (m:Mf) where
 ok:m.ok
 p:m.p<4294967296
 n:m.n<18446744073709551616
 h:m.h<4294967296
 tot:m.tot<4294967296
 hd:QJ.ok m.hd
 hds:∃L:List Hd,SlV hdC L (slv m.s4) w∧∀x∈L,QJ.ok x
 loc:∃L:List (List UInt8),SlV Qk L (slv m.s5) w∧∀x∈L,x.length=32
 its:∃L:List Itm,SlV Xx L (slv m.s7) w∧∀x∈L,((Qj 4).pair (QU 32)).ok x
 hs:∃L:List (List UInt8),SlV Qk L (slv m.s8) w∧∀x∈L,x.length=32
 fl:∃l:List UInt8,CloV l (slv m.s9) w
 ins:∃L,ScR w m.s1 35 33 L
 outs:∃L,ScR w m.s2 2 1 L
theorem m9_ok{n:Nat}{cs:List Value}{y:DataW H×List MemPlace}(h:DataW.trod enc prog w 0 (fun _=>true) held n 39 cs=some y):
  ∃(k:Int) (m:Mf),cs=rc k m∧(Lit.int .i64 k).wf=true∧M9 w m:=by
 obtain⟨xs,q,_,rfl,hl,hlen,hf⟩:=DataW.trod_struct underlying39 h;have hl114:cs.length=114:=hl.trans (by kernel_rfl);have hlen10:xs.length=10:=hlen;have hx:∀(i:Nat) (hi:i<10),xs[i]? =some (xs[i]'(by omega)):=fun i hi=>Qdk (by omega);have ci:prog.cellsOf 3=1:=by kernel_rfl
 have c32:prog.cellsOf 22=1:=by kernel_rfl
 have c64:prog.cellsOf 23=1:=by kernel_rfl
 have cH:prog.cellsOf 27=32:=by kernel_rfl
 have cs4:prog.cellsOf 24=1:=by kernel_rfl
 have cs5:prog.cellsOf 25=1:=by kernel_rfl
 have cs7:prog.cellsOf 28=1:=by kernel_rfl
 have cB:prog.cellsOf 31=1:=by kernel_rfl
 have cHd:prog.cellsOf 30=68:=by kernel_rfl
 have cBk:prog.cellsOf 33=71:=by kernel_rfl
 have cT:prog.cellsOf 37=4:=by kernel_rfl
 have ch:prog.cellsOf 105=33:=by kernel_rfl
 have cIn:prog.cellsOf 34=1:=by kernel_rfl
 have cOut:prog.cellsOf 35=1:=by kernel_rfl
 have g0:DataW.trod enc prog w 0 (fun _=>true) held q 3 ((cs.drop 0).take 1)=some (_):=fld ci ((hf 0 _ rfl).trans (hx 0 (by omega)));have g1:DataW.trod enc prog w 0 (fun _=>true) held q 22 ((cs.drop 1).take 1)=some (_):=fld c32 ((hf 1 _ rfl).trans (hx 1 (by omega)));have g2:DataW.trod enc prog w 0 (fun _=>true) held q 23 ((cs.drop 2).take 1)=some (_):=fld c64 ((hf 2 _ rfl).trans (hx 2 (by omega)));have g3:DataW.trod enc prog w 0 (fun _=>true) held q 22 ((cs.drop 3).take 1)=some (_):=fld c32 ((hf 3 _ rfl).trans (hx 3 (by omega)));have g4:DataW.trod enc prog w 0 (fun _=>true) held q 24 ((cs.drop 4).take 1)=some (_):=fld cs4 ((hf 4 _ rfl).trans (hx 4 (by omega)));have g5:DataW.trod enc prog w 0 (fun _=>true) held q 25 ((cs.drop 5).take 1)=some (_):=fld cs5 ((hf 5 _ rfl).trans (hx 5 (by omega)));have g6:DataW.trod enc prog w 0 (fun _=>true) held q 27 ((cs.drop 6).take 32)=some (_):=fld cH ((hf 6 _ rfl).trans (hx 6 (by omega)));have g7:DataW.trod enc prog w 0 (fun _=>true) held q 28 ((cs.drop 38).take 1)=some (_):=fld cs7 ((hf 7 _ rfl).trans (hx 7 (by omega)));have g8:DataW.trod enc prog w 0 (fun _=>true) held q 33 ((cs.drop 39).take 71)=some (_):=fld cBk ((hf 8 _ rfl).trans (hx 8 (by omega)));have g9:DataW.trod enc prog w 0 (fun _=>true) held q 37 ((cs.drop 110).take 4)=some (_):=fld cT ((hf 9 _ rfl).trans (hx 9 (by omega)));obtain⟨k,e0,wk⟩:=Sv underlying3 g0;obtain⟨p,e1,wp⟩:=J7 g1;obtain⟨nn,e2,wn⟩:=Qce g2;obtain⟨hh,e3,wh⟩:=J7 g3;obtain⟨a4,k4,L4,e4,s4,q4⟩:=Z1 hdC QJ.ok underlying24 cHd (by omega) (fun x hx=>Qt x hx.2.1 hx.2.2.1) (fun n cs y h=>QbO h) g4;obtain⟨a5,k5,L5,e5,s5,q5⟩:=Z1 Qk (fun x=>x.length=32) underlying25 cH (by omega) (fun x hx=>by rw[Qf];exact hx) (fun n cs y h=>by
  have hl:=DataW.trod_array underlying27 h;obtain⟨_,_,_,_,h1,_⟩:=hl;obtain⟨b,hb,e⟩:=Wu (h1.trans cH) h;exact⟨b,e,hb⟩) g5
 obtain⟨st,lst,e6⟩:=Wu (by rw[Qds,Qdq];omega) g6;obtain⟨a7,k7,L7,e7,s7,q7⟩:=Z1 Xx ((Qj 4).pair (QU 32)).ok underlying28 ch (by omega) (fun x hx=>by rw[XV,show x.2.length=32 from hx.2]) (fun n cs y h=>Qbc h) g7;obtain⟨ys,qb,_,_,hlB,hlenB,hfB⟩:=DataW.trod_struct underlying33 g8;obtain⟨zs,qt,_,_,hlT,hlenT,hfT⟩:=DataW.trod_struct underlying37 g9;have hlB2:ys.length=4:=hlenB;have hlT2:zs.length=4:=hlenT;have hxB:∀(i:Nat) (hi:i<4),ys[i]? =some (ys[i]'(by omega)):=fun i hi=>Qdk (by omega);have hxT:∀(i:Nat) (hi:i<4),zs[i]? =some (zs[i]'(by omega)):=fun i hi=>Qdk (by omega);have gb0:DataW.trod enc prog w 0 (fun _=>true) held qb 30 ((((cs.drop 39).take 71).drop 0).take 68)=some (_):=fld cHd ((hfB 0 _ rfl).trans (hxB 0 (by omega)));have gb1:DataW.trod enc prog w 0 (fun _=>true) held qb 22 ((((cs.drop 39).take 71).drop 68).take 1)=some (_):=fld c32 ((hfB 1 _ rfl).trans (hxB 1 (by omega)));have gb2:DataW.trod enc prog w 0 (fun _=>true) held qb 25 ((((cs.drop 39).take 71).drop 69).take 1)=some (_):=fld cs5 ((hfB 2 _ rfl).trans (hxB 2 (by omega)));have gb3:DataW.trod enc prog w 0 (fun _=>true) held qb 31 ((((cs.drop 39).take 71).drop 70).take 1)=some (_):=fld cB ((hfB 3 _ rfl).trans (hxB 3 (by omega)));have gt0:DataW.trod enc prog w 0 (fun _=>true) held qt 22 ((((cs.drop 110).take 4).drop 0).take 1)=some (_):=fld c32 ((hfT 0 _ rfl).trans (hxT 0 (by omega)));have gt1:DataW.trod enc prog w 0 (fun _=>true) held qt 34 ((((cs.drop 110).take 4).drop 1).take 1)=some (_):=fld cIn ((hfT 1 _ rfl).trans (hxT 1 (by omega)));have gt2:DataW.trod enc prog w 0 (fun _=>true) held qt 35 ((((cs.drop 110).take 4).drop 2).take 1)=some (_):=fld cOut ((hfT 2 _ rfl).trans (hxT 2 (by omega)));have gt3:DataW.trod enc prog w 0 (fun _=>true) held qt 22 ((((cs.drop 110).take 4).drop 3).take 1)=some (_):=fld c32 ((hfT 3 _ rfl).trans (hxT 3 (by omega)));obtain⟨hd,b0,wb0⟩:=QbO gb0;obtain⟨tot,b1,wb1⟩:=J7 gb1;obtain⟨a8,k8,L8,b2,s8,q8⟩:=Z1 Qk (fun x=>x.length=32) underlying25 cH (by omega) (fun x hx=>by rw[Qf];exact hx) (fun n cs y h=>by
  have hl:=DataW.trod_array underlying27 h;obtain⟨_,_,_,_,h1,_⟩:=hl;obtain⟨b,hb,e⟩:=Wu (h1.trans cH) h;exact⟨b,e,hb⟩) gb2
 obtain⟨a9,k9,L9,b3,s9⟩:=Lm gb3;obtain⟨x0,t0,wt0⟩:=J7 gt0;obtain⟨a1,k1,L1,t1,s1,q1⟩:=Z1 (fun x:List Value×Nat=>x.1) (Qaj 35 33) underlying34 (show prog.cellsOf 144=35 by kernel_rfl) (by omega) (fun x hx=>hx.1) (fun n cs y h=>in_ok h) gt1;obtain⟨a2,k2,L2,t2,s2,q2⟩:=Z1 (fun x:List Value×Nat=>x.1) (Qaj 2 1) underlying35 (show prog.cellsOf 146=2 by kernel_rfl) (by omega) (fun x hx=>hx.1) (fun n cs y h=>Qcs h) gt2;obtain⟨x3,t3,wt3⟩:=J7 gt3;have eB:∀o n,o+n≤71→(((cs.drop 39).take 71).drop o).take n=(cs.drop (39+o)).take n:=fun o n h=>by
  rw[List.drop_take,List.take_take,Qei,QfT (by omega)]
 have eT:∀o n,o+n≤4→(((cs.drop 110).take 4).drop o).take n=(cs.drop (110+o)).take n:=fun o n h=>by
  rw[List.drop_take,List.take_take,Qei,QfT (by omega)]
 replace b0:(cs.drop 39).take 68=hdC hd:=(eB 0 68 (by omega)).symm.trans b0;replace b1:(cs.drop 107).take 1=[.int .u32 (tot:Nat)]:=(eB 68 1 (by omega)).symm.trans b1;replace b2:(cs.drop 108).take 1=[.slice a8 L8.length k8]:=(eB 69 1 (by omega)).symm.trans b2;replace b3:(cs.drop 109).take 1=[.slice a9 L9.length k9]:=(eB 70 1 (by omega)).symm.trans b3;replace t0:(cs.drop 110).take 1=[.int .u32 (x0:Nat)]:=(eT 0 1 (by omega)).symm.trans t0;replace t1:(cs.drop 111).take 1=[.slice a1 L1.length k1]:=(eT 1 1 (by omega)).symm.trans t1;replace t2:(cs.drop 112).take 1=[.slice a2 L2.length k2]:=(eT 2 1 (by omega)).symm.trans t2;replace t3:(cs.drop 113).take 1=[.int .u32 (x3:Nat)]:=(eT 3 1 (by omega)).symm.trans t3;refine⟨k,⟨0,p,nn,hh,(a4,L4.length,k4),(a5,L5.length,k5),st,(a7,L7.length,k7),hd,tot,(a8,L8.length,k8),(a9,L9.length,k9),x0,(a1,L1.length,k1),(a2,L2.length,k2),x3⟩,?_,wk,
  {ok:=⟨lst,wb0.2.1,wb0.2.2.1⟩,p:=wp,n:=wn,h:=wh,tot:=wb1,hd:=wb0,hds:=⟨L4,s4,q4⟩,loc:=⟨L5,s5,q5⟩,its:=⟨L7,s7,q7⟩,hs:=⟨L8,s8,q8⟩,fl:=⟨L9,s9⟩,ins:=⟨_,Mp (by omega) q1 s1⟩,outs:=⟨_,Mp (by omega) q2 s2⟩}⟩
 have j0:=ZS cs 0 1 1 rfl;have j1:=ZS cs 1 1 2 rfl;have j2:=ZS cs 2 1 3 rfl;have j3:=ZS cs 3 1 4 rfl;have j4:=ZS cs 4 1 5 rfl;have j5:=ZS cs 5 1 6 rfl;have j6:=ZS cs 6 32 38 rfl;have j7:=ZS cs 38 1 39 rfl;have j8:=ZS cs 39 68 107 rfl;have j9:=ZS cs 107 1 108 rfl;have j10:=ZS cs 108 1 109 rfl;have j11:=ZS cs 109 1 110 rfl;have j12:=ZS cs 110 1 111 rfl;have j13:=ZS cs 111 1 112 rfl;have j14:=ZS cs 112 1 113 rfl;have j15:=ZS cs 113 1 114 rfl;rw[e0] at j0;rw[e1] at j1;rw[e2] at j2;rw[e3] at j3;rw[e4] at j4;rw[e5] at j5;rw[e6] at j6;rw[e7] at j7;rw[b0] at j8;rw[b1] at j9;rw[b2] at j10;rw[b3] at j11;rw[t0] at j12;rw[t1] at j13;rw[t2] at j14;rw[t3,QfJ (show cs.length≤114 by omega)] at j15;rw[j15] at j14;rw[j14] at j13;rw[j13] at j12;rw[j12] at j11;rw[j11] at j10;rw[j10] at j9;rw[j9] at j8;rw[j8] at j7;rw[j7] at j6;rw[j6] at j5;rw[j5] at j4;rw[j4] at j3;rw[j3] at j2;rw[j2] at j1;rw[j1] at j0;exact j0
theorem QaN{r:Reach}{b0:Nat}{v:Value}{d:DataW H}{p:List MemPlace}(hv:Value.okWide prog w r b0 39 v)(h:DataW.Trod enc prog w 0 (fun _=>true) true 39 v d p):
  ∃(k:Int) (m:Mf),v= .agg (rc k m).toArray∧(Lit.int .i64 k).wf=true∧M9 w m:=by
 have hc:(prog.cellTypes prog.depth 39).map (·.length)=some 114:=by kernel_rfl
 obtain⟨ts,hct,hts⟩:=QdJ.1 hc;obtain⟨cs,rfl,hsz,_⟩:=NL underlying39 hct (by rw[hts];kernel_rfl) hv;obtain⟨fuel,hf⟩:=h;obtain⟨k,m,hcs,h2⟩:=m9_ok (cs:=cs.toList) hf;refine⟨k,m,?_,h2⟩;have:cs=(rc k m).toArray:=by
  apply QeO.1;rw[hcs]
 rw[this]
end
end Go.Proofs.YthdaabapiicnhaaGreatDoor
namespace Go.Proofs.YthdaabapiicnhaaGreatDoor
open Go.RowKit
theorem RK{α:Type}(A:Cod α)(K:Nat):∀l:List α,(∀y∈l,(A.put y).length=K)→(Ju A.put l).length=l.length*K
 | [],_=>by simp[Ju]
 | x::t,h=>by rw[Zy,Qdj,RK A K t fun y hy=>h y (by simp[hy]),h x (by simp),QdL,Qff];omega
theorem Hz{α:Type}(A:Cod α)(most:Nat)(hm:most≤2147483647)(K:Nat)(l:List α)(h:∀y∈l,(A.put y).length=K):((XF A most hm).put l).length≤9+l.length*K:=by
 show (QE l.length++Ju A.put l).length≤_;rw[Qdj,RK A K l h,Xd];have:=Xp l.length;omega
theorem E5(x:Hd)(h:QJ.ok x):(QJ.put x).length=80:=by
 show (leK x.1 4++(x.2.1++(x.2.2.1++(leK x.2.2.2.1 4++(leK x.2.2.2.2.1 4++leK x.2.2.2.2.2 4))))).length=80;simp only[Qdj,Qw,show x.2.1.length=32 from h.2.1,show x.2.2.1.length=32 from h.2.2.1]
theorem zr_my(m:Mf)(s:Sl)(hs:s.2.1=m.s7.2.1)(h:Zr (oth m)):Zr (oth {m with s7:=s,x0:=0,s1:=(none,0,0),s2:=(none,0,0),x3:=0}):=by
 obtain⟨k,p,n,q,s4,s5,st,s7,hd,tot,s8,s9,x0,s1,s2,x3⟩:=m;simp only at hs;unfold oth at h ⊢;simp only at h ⊢
 repeat' split
 all_goals (unfold Zr at h ⊢;simp_all)
theorem bd_of(w:World)(m:Mf)(hM:M9 w m)(kn:Nat)(h9:kn≤9)(f4:m.s4.2.1≤40)(f5:m.s5.2.1≤101)(f7:m.s7.2.1≤100)(f8:m.s8.2.1≤100)(f9:m.s9.2.1≤1024)(K:List Itm)(h7:SlV Xx K (slv m.s7) w)(hK:∀x∈K,YM.ok x)(hz:Zr (oth {m with k:=kn})):
  ∃b,PC kn b∧(bdP b).length≤1000000∧∀(s:Sl) (w':World),Below w.heap.size w w'→SlV Xx K (slv s) w'→MsgV kn b {m with k:=kn,s7:=s,x0:=0,s1:=(none,0,0),s2:=(none,0,0),x3:=0} w':=by
 have hk7:m.s7.2.1=K.length:=SlV.len (a:=m.s7.1) (c:=m.s7.2.2) h7;obtain⟨LH,hH,hHq⟩:=hM.hds;obtain⟨LL,hLo,hLq⟩:=hM.loc;obtain⟨LS,hS,hSq⟩:=hM.hs;obtain⟨LF,hF⟩:=hM.fl;have l4:m.s4.2.1=LH.length:=SlV.len (a:=m.s4.1) (c:=m.s4.2.2) hH;have l5:m.s5.2.1=LL.length:=SlV.len (a:=m.s5.1) (c:=m.s5.2.2) hLo;have l8:m.s8.2.1=LS.length:=SlV.len (a:=m.s8.1) (c:=m.s8.2.2) hS;have l9:m.s9.2.1=LF.length:=by
  obtain⟨a,c,e,_⟩:=hF;injection e
 have fin:∀b,(∀(s:Sl) (w':World),Below w.heap.size w w'→SlV Xx K (slv s) w'→bodyV w' {m with k:=kn,s7:=s,x0:=0,s1:=(none,0,0),s2:=(none,0,0),x3:=0} b)→∀(s:Sl) (w':World),Below w.heap.size w w'→SlV Xx K (slv s) w'→MsgV kn b {m with k:=kn,s7:=s,x0:=0,s1:=(none,0,0),s2:=(none,0,0),x3:=0} w':=fun b hb s w' h1 h2=>
  ⟨rfl,hM.ok,hb s w' h1 h2,zr_my {m with k:=kn} s (by rw[hk7];exact SlV.len (a:=s.1) (c:=s.2.2) h2) hz⟩
 rcases (show kn=0∨kn=1∨(kn=2∨kn=3)∨kn=4∨kn=5∨(kn=6∨kn=7∨kn=8)∨kn=9 by omega) with h|h|h|h|h|h|h
 ·refine⟨.ver (m.p,m.n,m.h),⟨h,hM.p,hM.n,hM.h⟩,?_,fin _ fun s w' h1 h2=>⟨rfl,rfl,rfl⟩⟩;show (leK m.p 4++(leK m.n 8++leK m.h 4)).length≤_;simp only[Qdj,Qw];omega
 ·exact⟨.nil,h,Qdw _,fin _ fun s w' h1 h2=>trivial⟩
 ·refine⟨.non m.n,⟨h,hM.n⟩,?_,fin _ fun s w' h1 h2=>rfl⟩;show (leK m.n 8).length≤_;rw[Qw];omega
 ·refine⟨.ask (m.p,LL,m.st),⟨h,hM.p,⟨show LL.length≤101 by omega,fun x hx=>hLq x hx⟩,hM.ok.1⟩,?_,fin _ fun s w' h1 h2=>⟨rfl,hLo.calls h1,rfl⟩⟩;show (leK m.p 4++((Xq 101 (by decide)).put LL++m.st)).length≤_;have:=Hz (QU 32) 101 (by decide) 32 LL fun y hy=>hLq y hy;have e:((Xq 101 (by decide)).put LL).length≤9+LL.length*32:=this;simp only[Qdj,Qw,hM.ok.1];omega
 ·refine⟨.hds (LH.map fun x=>(x,())),⟨h,by rw[QdA];omega,fun x hx=>?_⟩,?_,fin _ fun s w' h1 h2=>?_⟩
  ·obtain⟨y,hy,rfl⟩:=QdZ.1 hx;exact⟨hHq y hy,trivial⟩
  ·have:=Hz (QJ.pair QV) 2000 (by decide) 81 (LH.map fun x=>(x,())) fun y hy=>by
    obtain⟨z,hz,rfl⟩:=QdZ.1 hy;show (QJ.put z++[0]).length=81;rw[Qdj,E5 z (hHq z hz)];rfl
   rw[QdA] at this;have e:(QZ.put (LH.map fun x=>(x,()))).length≤9+LH.length*81:=this;show (QZ.put (LH.map fun x=>(x,()))).length≤_;omega
  ·show SlV hdC ((LH.map fun x=>(x,())).map (·.1)) (slv m.s4) w';rw[List.map_map];have:(LH.map ((fun x:Hd×Unit=>x.1) ∘ fun x=>(x,())))=LH:=List.map_id LH;rw[this];exact hH.calls h1
 ·refine⟨.its K,⟨h,by omega,hK⟩,?_,fin _ fun s w' h1 h2=>h2⟩;have:=Hz ((Qj 4).pair (QU 32)) 50000 (by decide) 36 K fun y hy=>Ez y (hK y hy);have e:(Xk.put K).length≤9+K.length*36:=this;show (Xk.put K).length≤_;omega
 ·refine⟨.mkl (m.hd,m.tot,LS,LF),⟨h,hM.hd,hM.tot,⟨show LS.length≤4096 by omega,fun x hx=>hSq x hx⟩,show LF.length≤1024 by omega,fun x hx=>trivial⟩,?_,fin _ fun s w' h1 h2=>⟨rfl,rfl,hS.calls h1,hF.keep h1⟩⟩;show (QJ.put m.hd++(leK m.tot 4++((Xq 4096 (by decide)).put LS++(QL 1024 (by decide)).put LF))).length≤_;have e:((Xq 4096 (by decide)).put LS).length≤9+LS.length*32:=Hz (QU 32) 4096 (by decide) 32 LS fun y hy=>hSq y hy;have e2:((QL 1024 (by decide)).put LF).length≤9+LF.length*1:=Hz PQ 1024 (by decide) 1 LF fun y hy=>rfl;simp only[Qdj,Qw,E5 m.hd hM.hd];omega
end Go.Proofs.YthdaabapiicnhaaGreatDoor
