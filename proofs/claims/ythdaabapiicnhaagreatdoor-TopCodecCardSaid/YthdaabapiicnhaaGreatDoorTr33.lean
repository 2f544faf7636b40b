/- Steps of the proof. -/
import Derived.Test.YthdaabapiicnhaaGreatDoorTr32
set_option linter.all false
set_option maxRecDepth 100000
set_option maxHeartbeats 4000000
open Go.Proofs.Tryz
namespace Go.Proofs.YthdaabapiicnhaaGreatDoor.Av
open Go.RowKit
section
variable {H:Nat→AS} {T:Nat→Tr AV} {V:Nat→AV} {O:Nat→AS} {E:Nat→SS}
theorem Yi:∀{n:Nat} {r:Rec},r∈VD H T V O E n↔∃k,k<n∧r=Je H T V O E k
 | 0,r=>by simp[VD]
 | n+1,r=>by
  unfold VD;rw[QdW,Yi];constructor
  ·rintro (rfl|⟨k,hk,rfl⟩)
   ·exact⟨n,by omega,rfl⟩
   ·exact⟨k,by omega,rfl⟩
  ·rintro ⟨k,hk,rfl⟩;by_cases e:k=n
   ·subst e;exact .inl rfl
   ·exact .inr ⟨k,by omega,rfl⟩
theorem Kt{bs:List Nat}:∀{n:Nat},HT bs (VD H T V O E n)=true→∀j k,j<k→k<n→(bs.getD k 0).testBit j=true∨(WS H O j).disj (WS H O k)=true
 | 0,_,j,k,_,hk=>by omega
 | n+1,h,j,k,hj,hk=>by
  simp only[VD,HT,Qdo,QdG,Qex] at h;by_cases e:k=n
  ·subst e;exact h.1 _ (Yi.2 ⟨j,hj,rfl⟩)
  ·exact Kt h.2 j k hj (by omega)
theorem JM{D:SS}{m b:Nat}:∀{l:List Rec},(ZK D m l).hd b=true↔D.hd b=true∨∃r∈l,m.testBit r.i=false∧r.ws.hd b=true
 | []=>by simp[ZK]
 | r::l=>by
  unfold ZK;cases hb:m.testBit r.i with
  | true=>
   rw[QdE,JM];constructor
   ·rintro (h|⟨q,h1,h2⟩)
    ·exact .inl h
    ·exact .inr ⟨q,Qel _ h1,h2⟩
   ·rintro (h|⟨q,h1,h2⟩)
    ·exact .inl h
    ·rcases QdW.1 h1 with rfl|h1
     ·rw[hb] at h2;cases h2.1
     ·exact .inr ⟨q,h1,h2⟩
  | false=>
   rw[cond_false,SS.add_hd,Qex,JM];constructor
   ·rintro ((h|⟨q,h1,h2⟩)|h)
    ·exact .inl h
    ·exact .inr ⟨q,Qel _ h1,h2⟩
    ·exact .inr ⟨r,Qeq,hb,h⟩
   ·rintro (h|⟨q,h1,h2⟩)
    ·exact .inl (.inl h)
    ·rcases QdW.1 h1 with rfl|h1
     ·exact .inr h2.2
     ·exact .inl (.inr ⟨q,h1,h2⟩)
theorem JN{D:SS}{m b x:Nat}:∀{l:List Rec},(ZK D m l).cl b x=true↔D.cl b x=true∨∃r∈l,m.testBit r.i=false∧r.ws.cl b x=true
 | []=>by simp[ZK]
 | r::l=>by
  unfold ZK;cases hb:m.testBit r.i with
  | true=>
   rw[QdE,JN];constructor
   ·rintro (h|⟨q,h1,h2⟩)
    ·exact .inl h
    ·exact .inr ⟨q,Qel _ h1,h2⟩
   ·rintro (h|⟨q,h1,h2⟩)
    ·exact .inl h
    ·rcases QdW.1 h1 with rfl|h1
     ·rw[hb] at h2;cases h2.1
     ·exact .inr ⟨q,h1,h2⟩
  | false=>
   rw[cond_false,SS.add_cl,Qex,JN];constructor
   ·rintro ((h|⟨q,h1,h2⟩)|h)
    ·exact .inl h
    ·exact .inr ⟨q,Qel _ h1,h2⟩
    ·exact .inr ⟨r,Qeq,hb,h⟩
   ·rintro (h|⟨q,h1,h2⟩)
    ·exact .inl (.inl h)
    ·rcases QdW.1 h1 with rfl|h1
     ·exact .inr h2.2
     ·exact .inl (.inr ⟨q,h1,h2⟩)
theorem Gj{bs:List Nat}{j b:Nat}:∀{l:List Rec},(later bs j l).hd b=true↔∃r∈l,j<r.i∧(bs.getD r.i 0).testBit j=false∧r.o.lg.hd b=true
 | []=>by simp[later,SS.emp_hd]
 | r::l=>by
  unfold later;cases hb:(Nat.blt j r.i&&!(bs.getD r.i 0).testBit j) with
  | true=>
   rw[QdE,SS.add_hd,Qex,Gj];simp only[Qdo,Qe5] at hb;constructor
   ·rintro (h|⟨q,h1,h2⟩)
    ·exact⟨r,Qeq,Xf hb.1,hb.2,h⟩
    ·exact⟨q,Qel _ h1,h2⟩
   ·rintro ⟨q,h1,h2⟩;rcases QdW.1 h1 with rfl|h1
    ·exact .inl h2.2.2
    ·exact .inr ⟨q,h1,h2⟩
  | false=>
   rw[cond_false,Gj];constructor
   ·rintro ⟨q,h1,h2⟩;exact⟨q,Qel _ h1,h2⟩
   ·rintro ⟨q,h1,h2⟩;rcases QdW.1 h1 with rfl|h1
    ·rw[show Nat.blt j q.i=true from Qd4 h2.1,h2.2.1] at hb;cases hb
    ·exact⟨q,h1,h2⟩
theorem Gk{bs:List Nat}{j b x:Nat}:∀{l:List Rec},(later bs j l).cl b x=true↔∃r∈l,j<r.i∧(bs.getD r.i 0).testBit j=false∧r.o.lg.cl b x=true
 | []=>by simp[later,SS.emp_cl]
 | r::l=>by
  unfold later;cases hb:(Nat.blt j r.i&&!(bs.getD r.i 0).testBit j) with
  | true=>
   rw[QdE,SS.add_cl,Qex,Gk];simp only[Qdo,Qe5] at hb;constructor
   ·rintro (h|⟨q,h1,h2⟩)
    ·exact⟨r,Qeq,Xf hb.1,hb.2,h⟩
    ·exact⟨q,Qel _ h1,h2⟩
   ·rintro ⟨q,h1,h2⟩;rcases QdW.1 h1 with rfl|h1
    ·exact .inl h2.2.2
    ·exact .inr ⟨q,h1,h2⟩
  | false=>
   rw[cond_false,Gk];constructor
   ·rintro ⟨q,h1,h2⟩;exact⟨q,Qel _ h1,h2⟩
   ·rintro ⟨q,h1,h2⟩;rcases QdW.1 h1 with rfl|h1
    ·rw[show Nat.blt j q.i=true from Qd4 h2.1,h2.2.1] at hb;cases hb
    ·exact⟨q,h1,h2⟩
theorem KB{b:Nat}:∀{l:List Rec},(∀r∈l,(FM l).hd b=false→r.o.lg.hd b=false)∧∀r∈l,∀i,(FM l).cl b i=false→r.o.lg.cl b i=false
 | []=>⟨fun r h=>(by cases h),fun r h=>(by cases h)⟩
 | q::l=>by
  obtain⟨h1,h2⟩:=KB (b:=b) (l:=l);refine⟨fun r hr h=>?_,fun r hr i h=>?_⟩
  ·rw[FM,SS.add_hd,QdP] at h;rcases QdW.1 hr with rfl|hr
   ·exact h.1
   ·exact h1 r hr h.2
  ·rw[FM,SS.add_cl,QdP] at h;rcases QdW.1 hr with rfl|hr
   ·exact h.1
   ·exact h2 r hr i h.2
end
theorem VL{p:Bool}(h:p=true→False):p=false:=by cases p <;> simp_all
theorem Dj{P:Program}{c:YK}{D:SS}{nt:Nat}{ops:Array Oper}{tm tm':Tr AV}{s s':AS}(h:EW P (G1 P c) D nt ops tm s=some (tm',s')):
  ∃bs H T V O X,Fx P c D nt ops bs ops.size H T V O X∧H 0=⟨s.hp,s.nx,SS.emp⟩∧T 0=tm∧T ops.size=tm'∧s'.hp=(H ops.size).hp∧s'.nx=(H ops.size).nx∧
   (∀b,s'.lg.hd b=false→s.lg.hd b=false∧∀j,j<ops.size→(O j).lg.hd b=false)∧∀b i,s'.lg.cl b i=false→s.lg.cl b i=false∧∀j,j<ops.size→(O j).lg.cl b i=false:=by
 unfold EW at h;obtain⟨bs,hbs⟩:=nE (QcX ops.toList []);simp only[←hbs] at h;cases ht:Ke ops bs [] ops.toList 0 with
 | false=>rw[ht] at h;cases h
 | true=>
 rw[ht] at h;simp only[QdE] at h;split at h
 ·rename_i tm1 s1 R hgo;cases hq:(HT bs R&&R.all (Mu P ops bs R)) with
  | false=>rw[hq] at h;cases h
  | true=>
  rw[hq] at h;simp only[QdE,Option.some.injEq,Prod.mk.injEq] at h;obtain⟨rfl,rfl⟩:=h;simp only[Qdo,QdG] at hq;obtain⟨H,T,V,O,E,q1,q2,q3,q4,q5,q6,q7⟩:=EC (P:=P) ops.toList 0 (fun _=>⟨s.hp,s.nx,SS.emp⟩) (fun _=>tm) (fun _=>.tup []) (fun _=>s) (fun _=>D) hgo (fun i=>by rw[Qd5];simp)
   ⟨fun k _=>rfl,fun k hk=>by omega,fun k o hk=>by omega,fun k o hk=>by omega⟩ rfl rfl (fun j hj=>by omega)
  rw[Qd5,Qeo] at q1 q2 q3 q4 q5;have htx:=fun k o (ho:ops[k]? =some o)=>Tb ht rfl k o (by simpa using ho);simp only[Qd5,QdU] at htx;have hmask:=fun k o (ho:ops[k]? =some o)=>FJ (htx k o ho).1;have hop:∀k,k<ops.size→∃o,ops[k]? =some o:=fun k hk=>⟨_,Qev hk⟩;have hbl:∀k,k<ops.size→∀j,Bf bs k j→j<k:=fun k hk j hj=>by
   obtain⟨o,ho⟩:=hop k hk;exact ((hmask k o ho).1 j hj).1
  obtain⟨X,hX⟩:∃X:Nat→SS,X=fun j=>if (later bs j R).isEmp then E j else (E j).add (later bs j R):=⟨_,rfl⟩
  have hXle:∀k b,((X k).hd b=false↔(E k).hd b=false∧(later bs k R).hd b=false)∧∀i,(X k).cl b i=false↔(E k).cl b i=false∧(later bs k R).cl b i=false:=fun k b=>by
   rw[hX];simp only;split
   ·rename_i he;exact⟨⟨fun h=>⟨h,SS.isEmp_hd he b⟩,fun h=>h.1⟩,fun i=>⟨fun h=>⟨h,SS.isEmp_cl he b i⟩,fun h=>h.1⟩⟩
   ·exact⟨by rw[SS.add_hd,QdP],fun i=>by rw[SS.add_cl,QdP]⟩
  refine⟨bs,H,T,V,O,X,⟨rfl,q1.lg,q1.hp,q1.tm,fun k o hk ho=>?_,hbl,fun k o hk ho=>⟨fun j hj=>((hmask k o ho).1 j hj).2,(hmask k o ho).2⟩,fun j k q o hj hk hq ho=>?_,fun j k hj hk=>?_,fun k hk b=>?_,fun k hk j hj hne n1 n2 b=>?_,fun k hk b=>?_⟩,q6,q7,q3,by rw[q2],by rw[q2],fun b hb=>?_,fun b i hb=>?_⟩
  ·
   rcases q1.run k o hk ho with ⟨hw,hr⟩|hr
   ·left;refine⟨hw,?_⟩;rw[hX];simp only;split
    ·exact hr
    ·rename_i he;have hrec:=hq.2 (Je H T V O E k) (by rw[q4];exact Yi.2 ⟨k,hk,rfl⟩);unfold Mu at hrec;simp only[Je,Qex,ho] at hrec;rcases hrec with hrec|hrec|hrec
     ·exact absurd hrec he
     ·rw[hw] at hrec;cases hrec
     ·have key:∀(c':YK) D',(match o.op with
        | .call {callee:=.value _,..}=>False
        | _=>True)→G1 P c' D' (H k).nx o (aev (some (Y8 ops o)) (T k)) (H k)=aop P D' (H k).nx (aev (some (Y8 ops o)) (T k)) o (H k):=fun c' D' hno=>by
       rw[Bz];unfold SM;split
       ·rename_i hop;rw[hop] at hno;exact hno.elim
       ·rfl
      have hno:(match o.op with
        | .call {callee:=.value _,..}=>False
        | _=>True):=by
       split
       ·rename_i hop;rw[hop] at hrec;cases hrec
       ·trivial
      have hch:(EG P ((E k).add (later bs k R)) (H k).nx (aev (some (Y8 ops o)) (T k)) o (H k)).isSome=true:=by
       split at hrec
       ·cases hrec
       ·exact hrec
      obtain⟨r,hr2⟩:=Qem.1 hch;rw[key c _ hno] at hr ⊢;have e1:=Nd (Qah (E k) (later bs k R)) hr2;have e2:=Nd (A:=(E k).add (later bs k R)) ⟨fun _ _ _ h=>h,fun _ h=>h,fun _ h=>h⟩ hr2;rw[hr] at e1;rw[e2,e1]
   ·exact .inr hr
  ·have:=(htx k o ho).2 j q (by simpa using hq) hj;exact this
  ·rw[q4] at hq;exact Kt hq.1 j k hj hk
  ·refine⟨fun hx=>VL fun hd=>?_,fun i hx=>VL fun hd=>?_⟩
   ·have:=((hXle k b).1.1 hx).1;rw[q5 k hk,JM.2 (.inl hd)] at this;cases this
   ·have:=(((hXle k b).2 i).1 hx).1;rw[q5 k hk,JN.2 (.inl hd)] at this;cases this
  ·refine⟨fun hx=>⟨fun hjk=>VL fun hw=>?_,fun hkj=>VL fun hw=>?_⟩,fun i hx=>VL fun hw=>?_⟩
   ·have:=((hXle k b).1.1 hx).1;rw[q5 k hk,JM.2 (.inr ⟨Je H T V O E j,Yi.2 ⟨j,hjk,rfl⟩,Qfz.2 n2,hw⟩)] at this;cases this
   ·have:=((hXle k b).1.1 hx).2;rw[Gj.2 ⟨Je H T V O E j,by rw[q4];exact Yi.2 ⟨j,hj,rfl⟩,hkj,Qfz.2 n1,hw⟩] at this;cases this
   ·rcases Nat.lt_or_gt_of_ne hne with hjk|hkj
    ·have:=(((hXle k b).2 i).1 hx).1;rw[q5 k hk,JN.2 (.inr ⟨Je H T V O E j,Yi.2 ⟨j,hjk,rfl⟩,Qfz.2 n2,hw⟩)] at this;cases this
    ·have:=(((hXle k b).2 i).1 hx).2;rw[Gk.2 ⟨Je H T V O E j,by rw[q4];exact Yi.2 ⟨j,hj,rfl⟩,hkj,Qfz.2 n1,hw⟩] at this;cases this
  ·have lt1:∀j,j<k→(bs.getD k 0).testBit j=false→j≠k∧¬Bf bs j k∧¬Bf bs k j:=fun j hj hb=>⟨by omega,(fun h=>by have:=hbl j (by omega) k h;omega),(fun h=>by unfold Bf at h;rw[hb] at h;cases h)⟩;have lt2:∀j,k<j→j<ops.size→(bs.getD j 0).testBit k=false→j≠k∧¬Bf bs j k∧¬Bf bs k j:=fun j hj hjn hb=>⟨by omega,(fun h=>by unfold Bf at h;rw[hb] at h;cases h),(fun h=>by have:=hbl k hk j h;omega)⟩;refine⟨fun hx=>?_,fun i hx=>?_⟩
   ·have:(E k).hd b=true∨(later bs k R).hd b=true:=by
     cases h1:(E k).hd b with
     | true=>exact .inl rfl
     | false=>
      cases h2:(later bs k R).hd b with
      | true=>exact .inr rfl
      | false=>rw[(hXle k b).1.2 ⟨h1,h2⟩] at hx;cases hx
    rcases this with h1|h1
    ·rw[q5 k hk] at h1;rcases JM.1 h1 with h1|⟨r,hr,h2,h3⟩
     ·exact .inl h1
     ·obtain⟨j,hj,rfl⟩:=Yi.1 hr;obtain⟨n0,n1,n2⟩:=lt1 j hj h2;exact .inr ⟨j,by omega,n0,n1,n2,h3⟩
    ·obtain⟨r,hr,h2,h3,h4⟩:=Gj.1 h1;rw[q4] at hr;obtain⟨j,hj,rfl⟩:=Yi.1 hr;obtain⟨n0,n1,n2⟩:=lt2 j h2 hj h3;refine .inr ⟨j,hj,n0,n1,n2,?_⟩;have h4':(O j).lg.hd b=true:=h4;rw[EZ,wh,h4',Bool.or_true]
   ·have:(E k).cl b i=true∨(later bs k R).cl b i=true:=by
     cases h1:(E k).cl b i with
     | true=>exact .inl rfl
     | false=>
      cases h2:(later bs k R).cl b i with
      | true=>exact .inr rfl
      | false=>rw[((hXle k b).2 i).2 ⟨h1,h2⟩] at hx;cases hx
    rcases this with h1|h1
    ·rw[q5 k hk] at h1;rcases JN.1 h1 with h1|⟨r,hr,h2,h3⟩
     ·exact .inl h1
     ·obtain⟨j,hj,rfl⟩:=Yi.1 hr;obtain⟨n0,n1,n2⟩:=lt1 j hj h2;exact .inr ⟨j,by omega,n0,n1,n2,h3⟩
    ·obtain⟨r,hr,h2,h3,h4⟩:=Gk.1 h1;rw[q4] at hr;obtain⟨j,hj,rfl⟩:=Yi.1 hr;obtain⟨n0,n1,n2⟩:=lt2 j h2 hj h3;exact .inr ⟨j,hj,n0,n1,n2,h4⟩
  ·simp only[SS.add_hd,QdP] at hb;exact⟨hb.2,fun j hj=>(KB (b:=b)).1 _ (by rw[q4];exact Yi.2 ⟨j,hj,rfl⟩) hb.1⟩
  ·simp only[SS.add_cl,QdP] at hb;exact⟨hb.2,fun j hj=>(KB (b:=b)).2 _ (by rw[q4];exact Yi.2 ⟨j,hj,rfl⟩) i hb.1⟩
 ·cases h
theorem Bl{ops:Array Oper}{o:Oper}{listed:Array Bool}(h:∀e∈o.after,Region.binds .any e=true→listed.getD e.on false=true):∀e∈Qr o,listed.getD e false=true:=fun e he=>by
 obtain⟨x,hx,rfl⟩:=QdZ.1 he;obtain⟨h1,h2⟩:=Qey.1 hx;exact h x (by simpa using h1) h2
theorem OI{P:Program}{c:YK}{W0:World}{nG:Nat}(hc:Zo P W0 nG c)(hmo:P.follows .mixedOrders=true){D:SS}{mk nt:Nat}{ops:Array Oper}{tm tm':Tr AV}{s s':AS}(h:EW P (G1 P c) D nt ops tm s=some (tm',s'))(hm:mk≤s.nx):
  APost mk s s'∧∀ρ ω w (a:Act),WG W0 nG s ω w→RT ρ nt tm a→Sim P ρ ω D.hd D.cl s.hp.get w→Frs ρ s s'→∀id Q,(∀a' w' ρ' ω',RT ρ' nt tm' a'→RPost P D mk ρ ω w s s' ρ' ω' w'→Q .normal a' w')→(Code.region id ops true).wp P Q a w:=by
 obtain⟨bs,H,T,V,O,X,F,hH0,hT0,hTn,hhp,hnx,hlh,hlc⟩:=Dj h;have hnx0:(H 0).nx=s.nx:=by rw[hH0]
 have hhp0:(H 0).hp=s.hp:=by rw[hH0]
 have hmono:=fun {j k:Nat}=>F.nx hc (j:=j) (k:=k);have hWH:∀j,j<ops.size→∀b,wh mk s'.nx s'.lg b=false→(WS H O j).hd b=false:=fun j hj b hb=>by
  obtain⟨h1,h2⟩:=YG.1 hb;rw[EZ,YG];refine⟨?_,(hlh b h2).2 j hj⟩;rcases h1 with h1|h1
  ·have:=hmono (Qdw j) (by omega);left;omega
  ·right;rw[hnx] at h1;exact Qdx (F.nxo hc hj (Qde _)) h1
 have hWC:∀j,j<ops.size→∀b i,s'.lg.cl b i=false→(WS H O j).cl b i=false:=fun j hj b i hb=>(hlc b i hb).2 j hj;refine⟨⟨?_,fun b hb=>(hlh b hb).1,fun b i hb=>(hlc b i hb).1,fun hn b hb=>?_,fun b hb=>?_⟩,fun ρ ω w a hwf0 hrt hs hfr id Q hQ=>?_⟩
 ·rw[hnx,←hnx0];exact hmono (Qdw _) (Qde _)
 ·rw[hhp];rw[hnx] at hb;exact F.wf hc (by rw[hH0];exact hn) (Qde _) b hb
 ·rw[hhp,←hhp0];exact F.same hc (Qdw _) (Qde _) (fun j _ hj=>hWH j hj b hb) _ fun i hi j _ hj=>hWC j hj b i hi
 have hwf:WF (H 0):=by rw[hH0];exact hwf0.1
 have hF0:∀b,(H 0).nx≤b→b<(H ops.size).nx→ρ b=none:=fun b h1 h2=>hfr b (by omega) (by omega);refine wp_region_any hmo ?_;refine ZU (fun listed a' w'=>listed.size=ops.size∧∃ρ' ω',DI P D nt ops bs ops.size H T O (wh mk s'.nx s'.lg) s'.lg.cl ρ ω w (fun j=>listed.getD j false) ρ' ω' a' w') ?_ ?_ ops.size _ _ _ ?_ ?_
 ·rintro listed a' w' i ⟨hsz,ρ',ω',I⟩ hr;obtain⟨h0,o,ho,hall⟩:=mem_ready.1 hr;have hlt:i<ops.size:=(QdQ.1 ho).1;have hLi:listed.getD i false=false:=by
   have:i<listed.size:=by omega
   simp[this] at h0 ⊢;exact h0
  refine wpOp_mono (fun a'' w'' h=>?_) (F.step hc hwf hwf0.2 hF0 hWH hWC I ho hLi (Bl (ops:=ops) hall) Q);obtain⟨ρ'',ω'',I'⟩:=h;have hon:(fun j=>(listed.setIfInBounds i true).getD j false)=onL (fun j=>listed.getD j false) i:=by
   funext j;have hi:i<listed.size:=by omega
   unfold onL;by_cases e:j=i
   ·subst e;simp[hi]
   ·rw[getD_set_ne false (Ne.symm e)];simp[e]
  refine⟨by simpa using hsz,ρ'',ω'',?_⟩;rw[hon];exact I'
 ·rintro listed a' w' ⟨hsz,ρ',ω',I⟩ hr;have hall:∀m i,i<m→i<ops.size→listed.getD i false=true:=by
   intro m;induction m with
   | zero=>intro i hi;omega
   | succ m ih=>
    intro i him hi;cases hL:listed.getD i false with
    | true=>rfl
    | false=>
     exfalso;obtain⟨o,ho⟩:=F.op hi;have hmem:i∈Region.ready .any ops listed:=by
      refine mem_ready.2 ⟨?_,o,ho,fun e he hb=>?_⟩
      ·have:i<listed.size:=by omega
       simp[this] at hL ⊢;exact hL
      ·have hlt:=(F.be i o hi ho).2 e.on (QdZ.2 ⟨e,Qey.2 ⟨by simpa using he,by simpa using hb⟩,rfl⟩);exact ih e.on (by omega) (by omega)
     rw[hr] at hmem;cases hmem
  have hdone:∀j,j<ops.size→¬bad bs ops.size ops.size (fun j=>listed.getD j false) j:=fun j hj hb=>by
   rcases hb with hb|⟨_,hb⟩
   ·omega
   ·have hb':listed.getD j false=false:=hb;rw[hall (j+1) j (by omega) hj] at hb';cases hb'
  refine hQ a' w' ρ' ω' ⟨I.sz,I.df,fun t=>?_⟩ ⟨?_,I.fr,fun b h1 h2=>?_⟩
  ·rw[←hTn];exact I.tm ops.size (Qde _) (fun h=>by omega) t (fun o h=>by omega) fun j q hj hSj _ _=>by
    have hb':listed.getD j false=false:=hSj;rw[hall (j+1) j (by omega) hj] at hb';cases hb'
  ·intro b ao hD hb;rw[hhp] at hb;obtain⟨g,k1,k2,k3,k4⟩:=I.sim ops.size (Qde _) (fun h=>by omega) b ao (ZV.2 ⟨hD,fun j hj hb=>absurd hb (hdone j hj)⟩) hb;exact⟨g,k1,k2,k3,k4.weak fun i hi=>Y7.2 ⟨hi,fun j hj hb=>absurd hb (hdone j hj)⟩⟩
  ·obtain⟨j,q1,q2,q3,q4⟩:=I.rng b h1 h2;have:=hmono (Qdw j) (show j≤ops.size by omega);have:=F.nxo hc q1 (Qde _);omega
 ·unfold unl;exact Qdx (QeS _ _) (by simp)
 ·have hrep:∀j,(Array.replicate ops.size false).getD j false=false:=fun j=>by
   simp only[QdK,Qeg];split <;> rfl
  refine⟨by simp,ρ,ω,⟨fun k hk _ b ao hdn hHk=>?_,hrt.size,hrt.defers,fun k hk _ t huse hnb=>?_,Fm.drew _ _ _ _ _,fun b h1 h2=>absurd h1 h2,fun k _ hS=>by
   have hS':(Array.replicate ops.size false).getD k false=true:=hS;rw[hrep] at hS';cases hS'⟩⟩
  ·obtain⟨hD,hdn⟩:=ZV.1 hdn;have hbad:∀j,j<k→bad bs ops.size k (fun j=>(Array.replicate ops.size false).getD j false) j:=fun j hj=>by
    rcases Qee k ops.size with h|h
    ·by_cases hb:Bf bs k j
     ·exact .inr ⟨.inr hb,hrep j⟩
     ·exact .inl ⟨h,by omega,fun h2=>by have:=F.bl j (by omega) k h2;omega,hb⟩
    ·exact .inr ⟨.inl (by omega),hrep j⟩
   have sm:=F.same hc (m:=0) (k:=k) (b:=b) (Qdw _) hk (fun j _ hj=>hdn j (by omega) (hbad j hj)) (dnC D bs ops.size H O k (fun j=>(Array.replicate ops.size false).getD j false) b) fun x hx j _ hj=>(Y7.1 hx).2 j (by omega) (hbad j hj);rw[hHk,hhp0] at sm;rcases Hs sm with ⟨t,c1,c2,opn,e1,rfl,e3,e4⟩|⟨es,m,e1,rfl⟩|⟨t,cs,e1,rfl⟩
   ·obtain⟨g,h1,h2,h3,c0,k1,k2,k3,k4,k5⟩:=hs b _ hD e1;exact⟨g,h1,h2,h3,c0,k1,by omega,k3,k4,fun x av hx hdx=>k5 x av (by rw[←e4 x hdx];exact hx) (Y7.1 hdx).1⟩
   ·obtain⟨g,h1,h2,h3,k1⟩:=hs b _ hD e1;exact⟨g,h1,h2,h3,k1⟩
   ·obtain⟨g,h1,h2,h3,k1⟩:=hs b _ hD e1;exact⟨g,h1,h2,h3,k1⟩
  ·rw[F.tsame (m:=0) (Qdw _) hk fun j q _ hj hq hd=>?_,hT0]
   ·exact hrt.get t
   ·have hkj:k=ops.size∨Bf bs k j:=by
     rcases Qee k ops.size with h|h
     ·obtain⟨ok,hok⟩:=F.op h;rcases F.ts j k q ok hj h hq hok with hb|⟨hb,_⟩
      ·exact .inr hb
      ·have:=(hb t hd).1;rw[huse ok h hok] at this;cases this
     ·left;omega
    exact hnb j q (by omega) (hrep j) hkj hq hd
def opK2(next:Tr AV→AS→Option (Tr AV×AS))(s':AS):Option (Tr AV)→Option (Tr AV×AS)
 | some tm'=>next tm' s'
 | none=>none
def opK(nt:Nat)(d:Option Tmp)(tm:Tr AV)(next:Tr AV→AS→Option (Tr AV×AS)):Option (AV×AS)→Option (Tr AV×AS)
 | some (v,s')=>opK2 next s' (TO nt tm d v)
 | none=>none
def OB(P:Program)(c:YK)(D:SS)(mk nt:Nat)(ops:Array Oper):List Oper→Tr AV→AS→Option (Tr AV×AS)
 | [],tm,s=>some (tm,s)
 | o::l,tm,s=>opK nt o.dst tm (OB P c D mk nt ops l) (bif YW ops tm o then G1 P c D mk o (aev none tm) s else some (.tup [],s))
theorem Frs.left{ρ:Rh}{a b c:AS}(h:Frs ρ a c)(hn:b.nx≤c.nx):Frs ρ a b:=fun x h1 h2=>h x h1 (by omega)
theorem Frs.right{P:Program}{D:SS}{mk:Nat}{ρ ρ':Rh}{ω ω':Nat→Option Nat}{w w':World}{a b c:AS}(h:Frs ρ a c)(ha:a.nx≤b.nx)(hp:RPost P D mk ρ ω w a b ρ' ω' w'):Frs ρ' b c:=fun x h1 h2=>by
 have h0:=h x (by omega) h2;cases hx:ρ' x with
 | none=>rfl
 | some g=>
  have:=hp.rng x h0 (by rw[hx];simp);omega
theorem SL{P:Program}{c:YK}{W0:World}{nG:Nat}(hc:Zo P W0 nG c){D:SS}{mk nt:Nat}{ops:Array Oper}{Q:Exit→Act→World→Prop}:∀{l:List Oper} {k:Nat} {tm tm':Tr AV} {s s':AS},OB P c D mk nt ops l tm s=some (tm',s')→(∀i,l[i]? =ops[k+i]?)→k+l.length=ops.size→mk≤s.nx→
  APost mk s s'∧∀ρ ω w (a:Act),WG W0 nG s ω w→RT ρ nt tm a→Sim P ρ ω D.hd D.cl s.hp.get w→Frs ρ s s'→(∀a' w' ρ' ω',RT ρ' nt tm' a'→RPost P D mk ρ ω w s s' ρ' ω' w'→Q .normal a' w')→wpOps P ops Q (List.range' k l.length) a w
 | [],k,tm,tm',s,s',h,hl,hn,hm=>by
  simp only[OB,Option.some.injEq,Prod.mk.injEq] at h;obtain⟨rfl,rfl⟩:=h;refine⟨APost.refl _ _,fun ρ ω w a hwf hrt hs hfr hQ=>?_⟩;simp only[Qe7,List.range'_zero,wpOps];exact hQ a w ρ ω hrt (RPost.refl hs)
 | o::l,k,tm,tm',s,s',h,hl,hn,hm=>by
  have ho:ops[k]? =some o:=by have:=hl 0;simpa using this.symm
  simp only[OB] at h;unfold opK at h;split at h
  ·rename_i v s1 hr;unfold opK2 at h;split at h
   ·rename_i tm1 ht;have hpost:APost mk s s1:=by
     cases hw:YW ops tm o with
     | true=>rw[hw] at hr;exact (Gz hc hr hm).1
     | false=>rw[hw] at hr;cases hr;exact APost.refl _ _
    obtain⟨p2,q2⟩:=SL hc (k:=k+1) h (fun i=>by have:=hl (i+1);rw[Qd2] at this;rw[this];congr 1;omega) (by simp at hn;omega) (Qdx hm hpost.nx);refine⟨hpost.trans p2,fun ρ ω w a hwf hrt hs hfr hQ=>?_⟩;rw[QdL,List.range'_succ,wpOps_cons];unfold wpOp;rw[ho];simp only;have hw:=Ni (ρ:=ρ) (ops:=ops) (tm:=tm) (a:=a) (o:=o) fun t _=>hrt.get t;rw[hw];have next:∀v' w' ρ' ω',RV ρ' v v'→RPost P D mk ρ ω w s s1 ρ' ω' w'→wpOps P ops Q (List.range' (k+1) l.length) (a.put o.dst v') w':=fun v' w' ρ' ω' hv hp=>
     q2 ρ' ω' w' _ (hwf.step hpost hp) ((hrt.mono hp.fr.ext).put ht hv) hp.sim (hfr.right hpost.nx hp) fun a'' w'' ρ'' ω'' h1 h2=>hQ a'' w'' ρ'' ω'' h1 (hp.trans h2 hpost p2)
    cases hwt:YW ops tm o with
    | true=>
     rw[hwt] at hr;rw[Qdm rfl];left;exact (Gz hc hr hm).2 ρ ω w a hwf (SR fun t _=>hrt.get t) hs (hfr.left p2.nx) _ Q next
    | false=>
     rw[hwt] at hr;cases hr;simp only[QdN,QdV];exact next undef w ρ ω VB (RPost.refl hs)
   ·cases h
  ·cases h
inductive AEx where
 | normal
 | exit (id:Nat)
 | ret
def AEx.to:AEx→Exit
 | .normal=>.normal
 | .exit id=>.exit id
 | .ret=>.ret
abbrev CR:=Option (AEx×Tr AV×AS)
def Mo(f:Tr AV→AS→CR):CR→CR
 | some (.normal,tm',s')=>f tm' s'
 | r=>r
def QbS(x y:CR):Option AV→CR
 | some (.bool true)=>x
 | some (.bool false)=>y
 | _=>none
def O7(id:Nat):CR→CR
 | some (.exit id',tm',s')=>bif Nat.beq id' id then some (.normal,tm',s') else some (.exit id',tm',s')
 | r=>r
def QbL:Option (Tr AV×AS)→CR
 | some (tm',s')=>some (.normal,tm',s')
 | none=>none
def Yl(P:Program)(c:YK)(D:SS)(mk nt:Nat):Nat→Code→Tr AV→AS→CR
 | 0,_,_,_=>none
 | n+1,cd,tm,s=>match cd with
  | .skip=>some (.normal,tm,s)
  | .label _=>some (.normal,tm,s)
  | .seq x y=>Mo (Yl P c D mk nt n y) (Yl P c D mk nt n x tm s)
  | .cond b x y=>QbS (Yl P c D mk nt n x tm s) (Yl P c D mk nt n y tm s) (aev none tm b)
  | .block id x=>O7 id (Yl P c D mk nt n x tm s)
  | .loop x=>Mo (Yl P c D mk nt n (.loop x)) (Yl P c D mk nt n x tm s)
  | .scope x=>Yl P c D mk nt n x tm s
  | .exit id=>some (.exit id,tm,s)
  | .ret=>some (.ret,tm,s)
  | .region _ ops draw=>QbL (bif draw then EW P (G1 P c) D nt ops tm s else OB P c D mk nt ops ops.toList tm s)
  | _=>none
theorem Fj{P:Program}{Q:Exit→Act→World→Prop}{c:Code}(I:Nat→Act→World→Prop)(round:∀n a w,I n a w→c.wp P (Exit.then (fun a' w'=>∃m,m<n∧I m a' w') Q) a w){n:Nat}{a:Act}{w:World}(h:I n a w):(Code.loop c).wp P Q a w:=by
 intro b k cs;have key:∀n a w,I n a w→∃e a' w',Q e a' w'∧Arrives P (lone (b.at a (.code c::.inLoop c::k)) cs w) b k cs e a' w':=by
  intro n;induction n using Nat.strongRecOn with
  | _ n ih=>
   intro a w hI;obtain⟨e,a₁,w₁,hq,harr⟩:=round n a w hI b (.inLoop c::k) cs;cases e with
   | normal=>
    obtain⟨m,hlt,hI₁⟩:=hq;obtain⟨e₂,a₂,w₂,hq₂,harr₂⟩:=ih m hlt a₁ w₁ hI₁;exact⟨e₂,a₂,w₂,hq₂,.of_steps (Steps.trans harr (.one step_inLoop)) harr₂⟩
   | exit id=>exact⟨_,a₁,w₁,hq,.pass (x:=.inLoop c) rfl (fun _ _=>.inl (by simp)) harr⟩
   | goto l=>exact⟨_,a₁,w₁,hq,.pass (x:=.inLoop c) rfl (fun _ _=>.inl (by simp)) harr⟩
   | ret=>exact⟨_,a₁,w₁,hq,.pass (x:=.inLoop c) rfl (fun _ _=>.inl (by simp)) harr⟩
   | panic ch=>exact⟨_,a₁,w₁,hq,.pass (x:=.inLoop c) rfl (fun _ _=>.inl (by simp)) harr⟩
   | outgrown=>exact⟨_,a₁,w₁,hq,.pass (x:=.inLoop c) rfl (fun _ _=>.inl (by simp)) harr⟩
 obtain⟨e,a',w',hq,harr⟩:=key n a w h;exact⟨e,a',w',hq,.of_steps (.one step_loop) harr⟩
theorem BF{P:Program}{c:YK}{W0:World}{nG:Nat}(hc:Zo P W0 nG c)(hmo:P.follows .mixedOrders=true){D:SS}{mk nt:Nat}:∀(n:Nat) (cd:Code) (tm:Tr AV) (s:AS) (e:AEx) (tm':Tr AV) (s':AS),Yl P c D mk nt n cd tm s=some (e,tm',s')→mk≤s.nx→
  APost mk s s'∧∀ρ ω w (a:Act),WG W0 nG s ω w→RT ρ nt tm a→Sim P ρ ω D.hd D.cl s.hp.get w→Frs ρ s s'→∀Q:Exit→Act→World→Prop,(∀a' w' ρ' ω',RT ρ' nt tm' a'→RPost P D mk ρ ω w s s' ρ' ω' w'→Q e.to a' w')→cd.wp P Q a w:=by
 intro n;induction n using Nat.strongRecOn with
 | _ n ih=>
 intro cd tm s e tm' s' h hm;cases n with
 | zero=>cases h
 | succ n=>
 have IH:=fun m (hm:m<n+1)=>ih m hm;cases cd with
 | skip=>
  simp only[Yl,Option.some.injEq,Prod.mk.injEq] at h;obtain⟨rfl,rfl,rfl⟩:=h;exact⟨APost.refl _ _,fun ρ ω w a _ hrt hs _ Q hQ=>wp_skip (hQ a w ρ ω hrt (RPost.refl hs))⟩
 | label l=>
  simp only[Yl,Option.some.injEq,Prod.mk.injEq] at h;obtain⟨rfl,rfl,rfl⟩:=h;exact⟨APost.refl _ _,fun ρ ω w a _ hrt hs _ Q hQ=>wp_label (hQ a w ρ ω hrt (RPost.refl hs))⟩
 | exit id=>
  simp only[Yl,Option.some.injEq,Prod.mk.injEq] at h;obtain⟨rfl,rfl,rfl⟩:=h;exact⟨APost.refl _ _,fun ρ ω w a _ hrt hs _ Q hQ=>wp_exit (hQ a w ρ ω hrt (RPost.refl hs))⟩
 | ret=>
  simp only[Yl,Option.some.injEq,Prod.mk.injEq] at h;obtain⟨rfl,rfl,rfl⟩:=h;exact⟨APost.refl _ _,fun ρ ω w a _ hrt hs _ Q hQ=>wp_ret (hQ a w ρ ω hrt (RPost.refl hs))⟩
 | scope x=>
  simp only[Yl] at h;obtain⟨p,q⟩:=IH n (Qec n) x tm s e tm' s' h hm;refine⟨p,fun ρ ω w a hwf hrt hs hfr Q hQ=>wp_scope_straight (q ρ ω w a hwf hrt hs hfr _ fun a' w' ρ' ω' h1 h2=>?_)⟩;have:=hQ a' w' ρ' ω' h1 h2;cases e <;> exact this
 | seq x y=>
  simp only[Yl] at h;unfold Mo at h;split at h
  ·rename_i tm1 s1 h1;obtain⟨p1,q1⟩:=IH n (Qec n) x tm s _ tm1 s1 h1 hm;obtain⟨p2,q2⟩:=IH n (Qec n) y tm1 s1 e tm' s' h (Qdx hm p1.nx);refine⟨p1.trans p2,fun ρ ω w a hwf hrt hs hfr Q hQ=>wp_seq (q1 ρ ω w a hwf hrt hs (hfr.left p2.nx) _ fun a' w' ρ' ω' r1 r2=>?_)⟩;exact q2 ρ' ω' w' a' (hwf.step p1 r2) r1 r2.sim (hfr.right p1.nx r2) Q fun a'' w'' ρ'' ω'' r3 r4=>hQ a'' w'' ρ'' ω'' r3 (r2.trans r4 p1 p2)
  ·rename_i hne;obtain⟨p,q⟩:=IH n (Qec n) x tm s e tm' s' h hm;refine⟨p,fun ρ ω w a hwf hrt hs hfr Q hQ=>wp_seq (q ρ ω w a hwf hrt hs hfr _ fun a' w' ρ' ω' r1 r2=>?_)⟩;have:=hQ a' w' ρ' ω' r1 r2;cases e with
   | normal=>exact absurd h (hne _ _)
   | exit id=>exact this
   | ret=>exact this
 | cond b x y=>
  simp only[Yl] at h;unfold QbS at h;split at h
  ·rename_i hb;obtain⟨p,q⟩:=IH n (Qec n) x tm s e tm' s' h hm;refine⟨p,fun ρ ω w a hwf hrt hs hfr Q hQ=>wp_cond_true ?_ (q ρ ω w a hwf hrt hs hfr Q hQ)⟩;have:=SR (ρ:=ρ) (u:=none) (tm:=tm) (a:=a) (fun t _=>hrt.get t) b _ hb;simpa only[RV] using this
  ·rename_i hb;obtain⟨p,q⟩:=IH n (Qec n) y tm s e tm' s' h hm;refine⟨p,fun ρ ω w a hwf hrt hs hfr Q hQ=>wp_cond_false ?_ (q ρ ω w a hwf hrt hs hfr Q hQ)⟩;have:=SR (ρ:=ρ) (u:=none) (tm:=tm) (a:=a) (fun t _=>hrt.get t) b _ hb;simpa only[RV] using this
  ·cases h
 | block id x=>
  simp only[Yl] at h;unfold O7 at h;split at h
  ·rename_i id' tm1 s1 h1;obtain⟨p,q⟩:=IH n (Qec n) x tm s _ tm1 s1 h1 hm;cases hb:Nat.beq id' id with
   | true=>
    rw[hb] at h;simp only[QdE,Option.some.injEq,Prod.mk.injEq] at h;obtain⟨rfl,rfl,rfl⟩:=h;have:=Qd7 hb;refine⟨p,fun ρ ω w a hwf hrt hs hfr Q hQ=>wp_block (q ρ ω w a hwf hrt hs hfr _ fun a' w' ρ' ω' r1 r2=>?_)⟩;show (if id'=id then Q .normal a' w' else Q (.exit id') a' w');rw[Qdm this];exact hQ a' w' ρ' ω' r1 r2
   | false=>
    rw[hb] at h;simp only[cond_false,Option.some.injEq,Prod.mk.injEq] at h;obtain⟨rfl,rfl,rfl⟩:=h;have:=QdS hb;refine⟨p,fun ρ ω w a hwf hrt hs hfr Q hQ=>wp_block (q ρ ω w a hwf hrt hs hfr _ fun a' w' ρ' ω' r1 r2=>?_)⟩;show (if id'=id then Q .normal a' w' else Q (.exit id') a' w');rw[Qdf this];exact hQ a' w' ρ' ω' r1 r2
  ·rename_i hne;obtain⟨p,q⟩:=IH n (Qec n) x tm s e tm' s' h hm;refine⟨p,fun ρ ω w a hwf hrt hs hfr Q hQ=>wp_block (q ρ ω w a hwf hrt hs hfr _ fun a' w' ρ' ω' r1 r2=>?_)⟩;have:=hQ a' w' ρ' ω' r1 r2;cases e with
   | normal=>exact this
   | exit id=>exact absurd h (hne _ _ _)
   | ret=>exact this
 | region id ops draw=>
  simp only[Yl] at h;unfold QbL at h;cases draw with
  | true=>
   simp only[QdE] at h;split at h
   ·rename_i tm1 s1 h1;simp only[Option.some.injEq,Prod.mk.injEq] at h;obtain⟨rfl,rfl,rfl⟩:=h;obtain⟨p,q⟩:=OI hc hmo h1 hm;exact⟨p,fun ρ ω w a hwf hrt hs hfr Q hQ=>q ρ ω w a hwf hrt hs hfr id Q hQ⟩
   ·cases h
  | false=>
   simp only[cond_false] at h;split at h
   ·rename_i tm1 s1 h1;simp only[Option.some.injEq,Prod.mk.injEq] at h;obtain⟨rfl,rfl,rfl⟩:=h;have p:=(SL (Q:=fun _ _ _=>True) hc h1 (k:=0) (fun i=>by rw[Qd5];simp) (by simp) hm).1;refine⟨p,fun ρ ω w a hwf hrt hs hfr Q hQ=>wp_region ?_⟩;have:=(SL (Q:=Q) hc h1 (k:=0) (fun i=>by rw[Qd5];simp) (by simp) hm).2 ρ ω w a hwf hrt hs hfr hQ;rw[Qeo,←List.range_eq_range'] at this;exact this
   ·cases h
 | loop x=>
  have h0:=h;simp only[Yl] at h;unfold Mo at h;have hp:APost mk s s':=by
   split at h
   ·rename_i tm1 s1 h1;have p1:=(IH n (Qec n) x tm s _ tm1 s1 h1 hm).1;exact p1.trans (IH n (Qec n) (.loop x) tm1 s1 e tm' s' h (Qdx hm p1.nx)).1
   ·exact (IH n (Qec n) x tm s e tm' s' h hm).1
  refine⟨hp,fun ρ ω w a hwf hrt hs hfr Q hQ=>?_⟩;refine Fj (fun m a1 w1=>m≤n+1∧∃tm1 s1 ρ1 ω1,Yl P c D mk nt m (.loop x) tm1 s1=some (e,tm',s')∧RT ρ1 nt tm1 a1∧APost mk s s1∧RPost P D mk ρ ω w s s1 ρ1 ω1 w1∧Frs ρ1 s1 s'∧WG W0 nG s1 ω1 w1) ?_ (n:=n+1) ⟨Qde _,tm,s,ρ,ω,h0,hrt,APost.refl _ _,RPost.refl hs,hfr,hwf⟩;rintro m a1 w1 ⟨hle,tm1,s1,ρ1,ω1,hl,hrt1,hp1,hr1,hf1,hw1⟩;cases m with
  | zero=>cases hl
  | succ m=>
  simp only[Yl] at hl;unfold Mo at hl;split at hl
  ·rename_i tm2 s2 h2;obtain⟨p2,q2⟩:=IH m (by omega) x tm1 s1 _ tm2 s2 h2 (Qdx hm hp1.nx);have p3:=(IH m (by omega) (.loop x) tm2 s2 e tm' s' hl (Qdx hm (Qdx hp1.nx p2.nx))).1;refine q2 ρ1 ω1 w1 a1 hw1 hrt1 hr1.sim (hf1.left p3.nx) _ fun a' w' ρ' ω' r1 r2=>?_;exact⟨m,Qec m,by omega,tm2,s2,ρ',ω',hl,r1,hp1.trans p2,hr1.trans r2 hp1 p2,hf1.right p2.nx r2,hw1.step p2 r2⟩
  ·rename_i hne;obtain⟨p2,q2⟩:=IH m (by omega) x tm1 s1 e tm' s' hl (Qdx hm hp1.nx);refine q2 ρ1 ω1 w1 a1 hw1 hrt1 hr1.sim hf1 _ fun a' w' ρ' ω' r1 r2=>?_;have:=hQ a' w' ρ' ω' r1 (hr1.trans r2 hp1 p2);cases e with
   | normal=>exact absurd hl (hne _ _)
   | exit id=>exact this
   | ret=>exact this
 | rangeFunc f ps x y=>simp[Yl] at h
 | goto l=>simp[Yl] at h
 | refuse w=>simp[Yl] at h
def JQ:List AV→Nat→Tr AV→Tr AV
 | [],_,t=>t
 | a::l,k,t=>JQ l (k+1) (t.set 20 k (some a))
theorem Gw:∀(l:List AV) (k:Nat) (t:Tr AV),k+l.length<1048576→∀j,YH (JQ l k t) j=if k≤j∧j<k+l.length then l.getD (j-k) (.tup []) else YH t j
 | [],k,t,h,j=>by
  unfold JQ;rw[Qdf (by simp)]
 | a::l,k,t,h,j=>by
  unfold JQ;simp only[QdL] at h;rw[Gw l (k+1) _ (by omega)];have e:YH (t.set 20 k (some a)) j=if j=k then a else YH t j:=by
   unfold YH;rw[Tr.get_set _ _ _ _ (by omega)];by_cases e:j=k
   ·rw[Qdm e,Qdm e]
   ·rw[Qdf e,Qdf e]
  by_cases h1:k+1≤j∧j<k+1+l.length
  ·rw[Qdm h1,Qdm (by simp;omega),show j-k=(j-(k+1))+1 by omega];simp
  ·rw[Qdf h1,e];by_cases h2:j=k
   ·subst h2;simp
   ·rw[Qdf h2,Qdf (by simp;omega)]
def D6(P:Program)(D:SS)(tm:Tr AV)(s:AS):List ResultVar→Option (List AV)
 | []=>some []
 | .tmp t::r=>match D6 P D tm s r with
  | some l=>some (YH tm t::l)
  | none=>none
 | .cell a t::r=>match G4 P D s t (YH tm a),D6 P D tm s r with
  | some v,some l=>some (v::l)
  | _,_=>none
def VN(P:Program)(D:SS)(fn:Func)(tm:Tr AV)(s:AS):Option AV:=
 match D6 P D tm s fn.results.toList with
 | some [v]=>some v
 | some l=>some (.tup l)
 | none=>none
theorem PR{P:Program}{D:SS}{ρ:Rh}{ω:Nat→Option Nat}{w:World}{nt:Nat}{tm:Tr AV}{s:AS}{a:Act}(hs:Sim P ρ ω D.hd D.cl s.hp.get w)(hrt:RT ρ nt tm a)(F:ResultVar→Sem Value)(f1:∀t,F (.tmp t)=pure (a.tmps.getD t undef))(f2:∀x t,F (.cell x t)=(do loadVar t (←asAddr (a.tmps.getD x undef)))):
  ∀{rs:List ResultVar} {l:List AV},D6 P D tm s rs=some l→∃vs,(rs.mapM F).run P w= .ok vs w∧RVs ρ l vs
 | [],l,h=>by
  simp only[D6,Option.some.injEq] at h;subst h;exact⟨[],rfl,RVs.nil⟩
 | .tmp t::r,l,h=>by
  simp only[D6] at h;split at h
  ·rename_i l' hl;cases h;obtain⟨vs,h1,h2⟩:=PR hs hrt F f1 f2 hl;refine⟨a.tmps.getD t undef::vs,?_,RVs.cons (hrt.get t) h2⟩;simp only[List.mapM_cons,f1,Qdl,Qd1,Qdi,h1]
  ·cases h
 | .cell x t::r,l,h=>by
  simp only[D6] at h;split at h
  ·rename_i v l' hv hl;cases h;obtain⟨vs,h1,h2⟩:=PR hs hrt F f1 f2 hl;have hx:=hrt.get x;obtain⟨v',k1,k2⟩:=BD hv hs hx;have hp:∃b o,YH tm x= .ptr b o:=by
    unfold G4 at hv;split at hv
    ·rename_i b o e;exact⟨b,o,e⟩
    ·cases hv
   obtain⟨b,o,e⟩:=hp;rw[e] at hx;simp only[RV] at hx;obtain⟨g,_,ex⟩:=hx;rw[ex] at k1;refine⟨v'::vs,?_,RVs.cons k2 h2⟩;have k1':(loadVar t ⟨g.blk,g.off+o,none⟩).run P w= .ok v' w:=by
    simpa only[Instr.loadAt,Instr.sureAddr,Qdl,Qd1,Qdi] using k1
   have k3:(F (.cell x t)).run P w= .ok v' w:=by
    rw[f2,ex];simp only[asAddr,Qdl,Qd1,Qdi,k1']
   simp only[List.mapM_cons,Qdl,k3,Qdi,h1,Qd1]
  ·cases h
theorem RC{P:Program}{w:World}{fn:Func}{tmps:Array Value}:∃F:ResultVar→Sem Value,(∀t,F (.tmp t)=pure (tmps.getD t undef))∧(∀x t,F (.cell x t)=(do loadVar t (←asAddr (tmps.getD x undef))))∧
  ∀vs,(fn.results.toList.mapM F).run P w= .ok vs w→(results fn tmps).run P w= .ok (if h:vs.toArray.size=1 then vs.toArray[0] else .tuple vs.toArray) w:=by
 refine⟨fun | .tmp t=>pure (tmps.getD t undef) | .cell a t=>do loadVar t (←asAddr (tmps.getD a undef)),fun _=>rfl,fun _ _=>rfl,fun vs hv=>?_⟩;unfold results;rw[Qdl,Array.mapM_eq_mapM_toList,Sem.run_map];erw[hv];rfl
theorem Bx{P:Program}{D:SS}{ρ:Rh}{ω:Nat→Option Nat}{w:World}{nt:Nat}{tm:Tr AV}{s:AS}{a:Act}{fn:Func}{v:AV}(hs:Sim P ρ ω D.hd D.cl s.hp.get w)(hrt:RT ρ nt tm a)(h:VN P D fn tm s=some v):
  ∃v',(results fn a.tmps).run P w= .ok v' w∧RV ρ v v':=by
 obtain⟨F,f1,f2,run⟩:=RC (P:=P) (w:=w) (fn:=fn) (tmps:=a.tmps);unfold VN at h;split at h
 ·rename_i v0 hv;cases h;obtain⟨vs,h1,h2⟩:=PR hs hrt F f1 f2 hv;simp only[RVs] at h2;obtain⟨v',r,rfl,h3,rfl⟩:=h2;exact⟨v',by rw[run _ h1];rfl,h3⟩
 ·rename_i l hne hv;cases h;obtain⟨vs,h1,h2⟩:=PR hs hrt F f1 f2 hv;refine⟨.tuple vs.toArray,?_,by simp only[RV];exact⟨vs,rfl,h2⟩⟩;rw[run _ h1,dif_neg];intro e;have:=h2.length;simp only[Qdv] at e;rw[e] at this
  match l,this,hne with
  | [x],_,hne=>exact hne x rfl
 ·cases h
def El(s':AS):Option AV→Option (AV×AS)
 | some v=>some (v,s')
 | none=>none
def resK(P:Program)(D:SS)(fn:Func):CR→Option (AV×AS)
 | some (.normal,tm',s')=>El s' (VN P D fn tm' s')
 | some (.ret,tm',s')=>El s' (VN P D fn tm' s')
 | _=>none
def Np(P:Program)(isO:FuncId→Bool)(orc:YK):Nat→YK
 | 0,_,_,_,_,_=>none
 | n+1,D,mk,f,args,s=>bif isO f then orc D mk f args s else
  match P.funcs[f]? with
  | some fn=>match fn.body with
   | some cd=>bif Nat.blt args.length 1000000 then resK P D fn (Yl P (Np P isO orc n) D mk (args.length+(fn.ntmps-args.length)) n cd (JQ args 0 .nil) s) else none
   | none=>none
  | none=>none
theorem BG{P:Program}{W0:World}{nG:Nat}{isO:FuncId→Bool}{orc:YK}(hmo:P.follows .mixedOrders=true) (ho:∀f,isO f=true→∀D mk args s v s',orc D mk f args s=some (v,s')→mk≤s.nx→APost mk s s'∧
  ∀ρ ω w xs,WG W0 nG s ω w→Sim P ρ ω D.hd D.cl s.hp.get w→Frs ρ s s'→RVs ρ args xs→Calls P f xs.toArray w fun e w'=>∃v' ρ' ω',e= .returned v'∧RV ρ' v v'∧RPost P D mk ρ ω w s s' ρ' ω' w'):∀n,Zo P W0 nG (Np P isO orc n)
 | 0=>fun D mk f args s v s' h=>by cases h
 | n+1=>fun D mk f args s v s' h hm=>by
  have hc:=BG hmo ho n;unfold Np at h;cases hf:isO f with
  | true=>
   rw[hf] at h;exact ho f hf D mk args s v s' h hm
  | false=>
  rw[hf] at h;simp only[cond_false] at h;split at h
  ·rename_i fn hfn;split at h
   ·rename_i cd hcd;cases hl:Nat.blt args.length 1000000 with
    | false=>rw[hl] at h;cases h
    | true=>
    rw[hl] at h;simp only[QdE] at h;have hl':=Xf hl;have go:∀{e:AEx} {tm':Tr AV} {s1:AS},Yl P (Np P isO orc n) D mk (args.length+(fn.ntmps-args.length)) n cd (JQ args 0 .nil) s=some (e,tm',s1)→(e= .normal∨e= .ret)→
      El s1 (VN P D fn tm' s1)=some (v,s')→APost mk s s'∧∀ρ ω w xs,WG W0 nG s ω w→Sim P ρ ω D.hd D.cl s.hp.get w→Frs ρ s s'→RVs ρ args xs→Calls P f xs.toArray w fun e w'=>∃v' ρ' ω',e= .returned v'∧RV ρ' v v'∧RPost P D mk ρ ω w s s' ρ' ω' w':=fun {e tm' s1} h1 he h2=>by
     unfold El at h2;split at h2
     ·rename_i v0 hv;cases h2;obtain⟨p,q⟩:=BF hc hmo n cd _ s e tm' s' h1 hm;refine⟨p,fun ρ ω w xs hwf hs hfr hxs=>?_⟩;have hxl:=hxs.length;refine calls_of_wp hfn hcd (q ρ ω w _ hwf ⟨by simp[hxl],rfl,fun t=>?_⟩ hs hfr _ fun a' w' ρ' ω' r1 r2=>?_)
      ·rw[Gw args 0 .nil (by omega)];by_cases ht:t<args.length
       ·rw[Qdm ⟨by omega,by omega⟩];obtain⟨x,hx⟩:∃x,args[t]? =some x:=⟨_,Qdk ht⟩;obtain⟨v',k1,k2⟩:=hxs.get hx;rw[QfS,QeC,hx];have:(xs.toArray++Array.replicate (fn.ntmps-xs.toArray.size) undef).getD t undef=v':=by
         rw[QdK,Qf6 (by simp;omega)];simp[k1]
        rw[this];exact k2
       ·rw[Qdf (by omega)];have:(xs.toArray++Array.replicate (fn.ntmps-xs.toArray.size) undef).getD t undef=undef:=by
         rw[QdK,Array.getElem?_append_right (by simp;omega),Qeg];split <;> rfl
        rw[this];exact VB
      ·obtain⟨v',k1,k2⟩:=Bx r2.sim r1 hv;have:bodyPost P fn (fun e w'=>∃v' ρ' ω',e= .returned v'∧RV ρ' v v'∧RPost P D mk ρ ω w s s' ρ' ω' w') .ret a' w':=⟨r1.defers,v',k1,v',ρ',ω',rfl,k2,r2⟩;rcases he with rfl|rfl
       ·exact this
       ·exact this
     ·cases h2
    unfold resK at h;split at h
    ·rename_i tm' s1 h1;exact go h1 (.inl rfl) h
    ·rename_i tm' s1 h1;exact go h1 (.inr rfl) h
    ·cases h
   ·cases h
  ·cases h
end Go.Proofs.YthdaabapiicnhaaGreatDoor.Av
