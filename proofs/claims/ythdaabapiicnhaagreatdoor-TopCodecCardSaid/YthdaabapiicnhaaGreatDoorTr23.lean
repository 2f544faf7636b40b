/- Steps of the proof. -/
import Derived.Test.YthdaabapiicnhaaGreatDoorTr20
set_option linter.all false
set_option maxRecDepth 100000
set_option maxHeartbeats 4000000
open Go.Proofs.Tryz
namespace Go.Proofs.YthdaabapiicnhaaGreatDoor
open Go.RowKit
def VV(w0:World)(p:Value)(bs:List UInt8):Prop:=∀(v:Value) (m:Nat) (xs:List UInt8) (w:World),m≤800000000→Below w0.heap.size w0 w→w.ownsRow w0.heap.size 5 1 v m (xs.map fun c=>Value.int .u8 (c.toNat:Int))→
 Calls prog 57 #[v,p] w fun e w'=>∃u,e= .returned u∧w'.ownsRow w0.heap.size 5 1 u (m+bs.length) ((xs++bs).map fun c=>Value.int .u8 (c.toNat:Int))∧Below w0.heap.size w w'
def Lays(w0:World):List Value→List (List UInt8)→Prop
 | [],[]=>True
 | p::ps,b::bs=>VV w0 p b∧Lays w0 ps bs
 | [],_::_=>False
 | _::_,[]=>False
theorem Lays.len{w0:World}:∀{ps:List Value} {bs:List (List UInt8)},Lays w0 ps bs→ps.length=bs.length
 | [],[],_=>rfl
 | p::ps,b::bs,h=>congrArg (· +1) (Lays.len h.2)
 | [],_::_,h=>h.elim
 | _::_,[],h=>h.elim
theorem Lays.at{w0:World}:∀{ps:List Value} {bs:List (List UInt8)},Lays w0 ps bs→∀{j:Nat} {p:Value},ps[j]? =some p→∃b,VV w0 p b∧(bs.take (j+1)).flatten=(bs.take j).flatten++b
 | [],[],_,j,p,h=>by simp at h
 | q::ps,b::bs,h,0,p,e=>by
  obtain rfl:q=p:=by simpa using e
  exact⟨b,h.1,by simp⟩
 | q::ps,b::bs,h,j+1,p,e=>by
  obtain⟨b',h1,h2⟩:=Lays.at h.2 (j:=j) (p:=p) (by simpa using e);refine⟨b',h1,?_⟩;rw[Qfa,Qfa,QfG,QfG,h2,Qd0]
 | [],_::_,h,_,_,_=>h.elim
 | _::_,[],h,_,_,_=>h.elim
theorem Hw:∀(bs:List (List UInt8)) (j:Nat),(bs.take j).flatten.length≤bs.flatten.length
 | [],j=>by simp
 | b::bs,0=>by simp
 | b::bs,j+1=>by
  rw[Qfa,QfG,QfG,Qdj,Qdj];have:=Hw bs j;omega
theorem PN(w0:World)(n:Nat)(hn:n<4294967296):VV w0 (.iface 22 (.int .u32 n)) (leK n 4):=fun v m xs w hm hb ho=>by
 rw[Qw];exact Qac w0.heap.size v m xs n hn (by omega) w hb.size ho
theorem Ev(w0:World)(n:Nat):VV w0 (.iface 23 (.int .u64 n)) (leK n 8):=fun v m xs w hm hb ho=>by
 rw[Qw];exact Qab w0.heap.size v m xs n (by omega) w hb.size ho
theorem MP(w0:World)(h:List UInt8)(hl:h.length=32):VV w0 (.iface 27 (.agg (Qk h).toArray)) h:=fun v m xs w hm hb ho=>by
 rw[hl];exact LO w0.heap.size v m xs h hl (by omega) w hb.size ho
theorem Dc(w0:World)(h:Hd)(hg:Zn h):VV w0 (.iface 30 (.agg (hdC h).toArray)) (hdB h):=fun v m xs w hm hb ho=>by
 rw[YJ h hg.1 hg.2];exact BQ w0.heap.size v m xs h hg (by omega) w hb.size ho
theorem FO(w0:World)(K:List Hd)(s:Sl)(hg:∀h∈K,Zn h)(hn:K.length≤2000)(hs:SlV hdC K (slv s) w0):VV w0 (.iface 24 (slv s)) (QE K.length++VJ K):=fun v m xs w hm hb ho=>by
 have e:=Va hs;rw[Qdj,Xd,VI K hg,←e];exact DT w0 v m xs K hg s.1 s.2.1 s.2.2 (by omega) hs (by omega) w hb ho
theorem KJ(w0:World)(K:List (List UInt8))(s:Sl)(most:Nat)(hg:∀h∈K,h.length=32)(hn:K.length≤100000)(hs:SlV Qk K (slv s) w0):VV w0 (.iface 155 (.agg #[slv s,.int .u64 most])) (QE K.length++GQ K):=fun v m xs w hm hb ho=>by
 have e:=Va hs;have e2:(GQ K).length=K.length*32:=by
  clear hs hn e ho;unfold GQ;induction K with
  | nil=>rfl
  | cons x K ih=>rw[QeK,Qdj,ih (fun h hh=>hg h (Qel _ hh)),hg x (Qeq ..),QdL];omega
 rw[Qdj,Xd,e2,←e];exact BR w0 v m xs K hg most s.1 s.2.1 s.2.2 (by omega) hs (by omega) w hb ho
theorem FN(w0:World)(K:List Itm)(s:Sl)(hg:∀h∈K,Ri h)(hn:K.length≤100000)(hs:SlV Xx K (slv s) w0):VV w0 (.iface 47 (slv s)) (QE K.length++P7 K):=fun v m xs w hm hb ho=>by
 have e:=Va hs;have e2:(P7 K).length=K.length*36:=by
  clear hs hn e ho;unfold P7;induction K with
  | nil=>rfl
  | cons x K ih=>rw[QeK,Qdj,ih (fun h hh=>hg h (Qel _ hh)),Qdj,Qw,(hg x (Qeq ..)).2,QdL];omega
 rw[Qdj,Xd,e2,←e];exact DS w0 v m xs K hg s.1 s.2.1 s.2.2 (by omega) hs (by omega) w hb ho
theorem FP(w0:World)(l:List UInt8)(s:Sl)(hn:l.length≤100000)(hs:CloV l (slv s) w0):VV w0 (.iface 31 (slv s)) (QE l.length++l):=fun v m xs w hm hb ho=>by
 obtain⟨s1,s2,s3⟩:=s;obtain⟨a,c,e,h1,h2,h3,h4⟩:=hs;injection e with e1 e2 e3
 simp only at e1 e2 e3;subst e1 e2 e3;have hlow:l≠[]→∀g o,s1=some ⟨g,o,none⟩→g<w0.heap.size:=fun hl g o hd=>by
  rcases h1 with h1|⟨g',o',h5,h6,_⟩
  ·exact absurd h1 hl
  ·rw[h5] at hd;injection hd with hd
   injection hd with hd
   omega
 have h1':RdS w s1 l:=by
  rcases h1 with h1|⟨g',o',h5,h6,h7⟩
  ·exact .inl h1
  ·exact .inr ⟨g',o',h5,Qdr h6 hb.size,fun i hi=>h7.at hb h6 i hi⟩
 refine (DU w0.heap.size v m xs s1 l.length s3 l rfl h4 (by omega) (by omega) w h1' hlow hb.size ho).mono ?_;rintro e w' ⟨u,h5,h6,h7⟩;exact⟨u,h5,by rw[Qdj,Xd,←Qeb,←Qd0];exact h6,h7⟩
theorem Qc8(w0:World)(x:TxM)(C:List Value)(hg:Pf x)(hx:TxV x C w0)(hsz:(XK.put x).length≤100000000):VV w0 (.iface 52 (.agg C.toArray)) (XK.put x):=fun v m xs w hm hb ho=>Qb9 w0 v m xs x hg C hx hsz (by omega) w hb ho
theorem FX(x:List (Hd×Unit)):QZ.put x=QE x.length++VJ (x.map (·.1)):=by
 show QE x.length++x.flatMap _=_;unfold VJ;rw[List.flatMap_map];refine congrArg (QE x.length++·) (congrArg (x.flatMap ·) (funext fun y=>?_));show QJ.put y.1++QV.put y.2=_;rw[Wt];rfl
theorem F7{k:Nat}{b:Bd}{m:Mf}{w0:World}(hb:PC k b)(hv:MsgV k b m w0)(hs:(bdP b).length≤100000000):∃bs,Lays w0 (QF m) bs∧bs.flatten=bdP b:=by
 obtain⟨hk,hm,hB,_⟩:=hv;unfold QF;rw[hk];cases b with
 | ver x=>
  obtain⟨rfl,h1,h2,h3⟩:=hb;obtain⟨e1,e2,e3⟩:=hB;rw[e1,e2,e3];exact⟨[leK x.1 4,leK x.2.1 8,leK x.2.2 4],⟨PN _ _ h1,Ev _ _,PN _ _ h3,trivial⟩,by show leK x.1 4++(leK x.2.1 8++(leK x.2.2 4++[]))=_;rw[QdF];rfl⟩
 | nil=>
  cases hb;exact⟨[],trivial,rfl⟩
 | non x=>
  have e1:m.n=x:=hB;obtain⟨rfl|rfl,h1⟩:=hb <;>
  (rw[e1];exact⟨[leK x 8],⟨Ev _ _,trivial⟩,by show leK x 8++[]=_;rw[QdF];rfl⟩)
 | ask x=>
  obtain⟨rfl,h1,h2,h3⟩:=hb;obtain⟨e1,e2,e3⟩:=hB;rw[e1,e3];exact⟨[leK x.1 4,QE x.2.1.length++GQ x.2.1,x.2.2],⟨PN _ _ h1,KJ _ _ _ _ h2.2 (Qdx h2.1 (by decide)) e2,MP _ _ h3,trivial⟩,by show leK x.1 4++((QE x.2.1.length++GQ x.2.1)++(x.2.2++[]))=_;rw[QdF];rfl⟩
 | hds x=>
  obtain⟨rfl,h1⟩:=hb;have h2:x.length≤2000:=h1.1;refine⟨[QE (x.map (·.1)).length++VJ (x.map (·.1))],⟨FO _ _ _ ?_ (by rw[QdA];exact h2) hB,trivial⟩,?_⟩
  ·intro h hh;obtain⟨y,hy,rfl⟩:=QdZ.1 hh;obtain⟨⟨_,i2,i3,_⟩,_⟩:=h1.2 y hy;exact⟨i2,i3⟩
  ·show (QE (x.map (·.1)).length++VJ (x.map (·.1)))++[]=QZ.put x;rw[QdF,FX,QdA]
 | its x=>
  obtain⟨hk3,h1⟩:=hb;have h2:x.length≤50000:=h1.1;have hI:∀y∈x,Ri y:=fun y hy=>h1.2 y hy;have hL:=FN w0 x m.s7 hI (by omega) hB;rcases hk3 with rfl|rfl|rfl <;>
  exact⟨[QE x.length++P7 x],⟨hL,trivial⟩,by show (QE x.length++P7 x)++[]=_;rw[QdF];rfl⟩
 | mkl x=>
  obtain⟨rfl,h1,h2,h3,h4⟩:=hb;obtain⟨e1,e2,e3,e4⟩:=hB;rw[e1,e2];refine⟨[hdB x.1,leK x.2.1 4,QE x.2.2.1.length++GQ x.2.2.1,QE x.2.2.2.length++x.2.2.2],⟨Dc _ _ ⟨h1.2.1,h1.2.2.1⟩,PN _ _ h2,KJ _ _ _ _ h3.2 (Qdx h3.1 (by decide)) e3,FP _ _ _ (Qdx h4.1 (by decide)) e4,trivial⟩,?_⟩;show hdB x.1++(leK x.2.1 4++((QE x.2.2.1.length++GQ x.2.2.1)++((QE x.2.2.2.length++x.2.2.2)++[])))=GM.put x;rw[QdF,←Wt,←GW 1024 (by decide)];rfl
 | txm x=>
  obtain⟨rfl,h1⟩:=hb;exact⟨[XK.put x],⟨Qc8 w0 x m.txC (NZ h1) hB hs,trivial⟩,by show XK.put x++[]=_;rw[QdF];rfl⟩
theorem OP{k:Nat}{b:Bd}(m:Mf)(w:World)(hb:PC k b)(hv:MsgV k b m w)(hs:(bdP b).length≤100000000):
  Calls prog 29 #[.agg m.cells.toArray] w fun e w'=>∃u,e= .returned (.tuple #[u,.int .i64 0])∧Below w.heap.size w w'∧CloV (bdP b) u w':=by
 have hk11:=W7 hb;have hm:=hv.2.1;have X0:Blk (w.alloc (.cells m.cells.toArray 54)) w.heap.size 54 m.cells.toArray:=Blk.new _ _ _;have B0:Below w.heap.size w (w.alloc (.cells m.cells.toArray 54)):=ba (Below.refl _ _) _;have hfit:=fun w' (h:Below w.heap.size w w')=>LQ m w' hb (hv.calls h);have hpar:=fun w'=>Nv m hm (by rw[hv.1];exact hk11) w';have hlay:=fun w' (h:Below w.heap.size w w')=>F7 hb (hv.calls h) hs;have iM:=m.info hm;obtain⟨C,hC⟩:=nE (m.cells.toArray);rw[←hC] at X0 B0 hfit hpar iM ⊢;have E:=H4 hfit hpar hlay iM;clear hfit hpar hlay iM;have X:=H2 X0 B0;clear X0 B0 hv hb hm hC hk11;go_enter func29,ntmps29;go_wp2_with (with_reducible refine Q0 X.out.1 _ _ rfl rfl rfl _ underlying54 E.out.2.2.2 ?_);refine (E.out.1 _ X.out.2).mono ?_;rintro e w2 ⟨rfl,hb2⟩;have X2:=H2 (X.out.1.calls hb2) (bt X.out.2 hb2);clear hb2;go_wp2_with (with_reducible refine Q0 X2.out.1 _ _ rfl rfl rfl _ underlying54 E.out.2.2.2 ?_);refine (E.out.2.1 _).mono ?_;rintro e w3 ⟨v,rfl,hb3,hv3⟩;obtain⟨bs,hl,hbs⟩:=E.out.2.2.1 w3 (bt X2.out.2 hb3);obtain⟨n,hn⟩:=nE ((QF m).length);obtain⟨a,c,rfl,hv4⟩:∃a c,v= .slice a n c∧SlV XP (QF m) (.slice a n c) w3:=by
  obtain⟨a,c,h1,h2⟩:=hv3;subst hn;exact⟨a,c,h1,a,c,rfl,h2⟩
 have hn4:n≤4:=by
  rw[hn];unfold QF
  repeat' split
  all_goals simp only[QdL,Qe7] <;> omega
 have X3:=H5 hv4 (bt X2.out.2 hb3) hl hbs hn;clear hv3 hv4 hb3 hl hbs hn;go_wp2_with fail;generalize hw3:w3=w4 at *;clear hw3;go_loopw [4,13] (fun v i wr=>∃j:Nat,j≤n∧i= .int .i64 j∧wr.ownsRow w4.heap.size 5 1 v (bs.take j).flatten.length ((bs.take j).flatten.map fun c=>Value.int .u8 (c.toNat:Int))∧Below w4.heap.size w4 wr) (fun _ i _=>n-(intOf i).toNat)
 case atStart=>exact⟨0,Qdw _,rfl,⟨by simp,.inl ⟨rfl,by simp⟩⟩,Below.refl _ _⟩
 case round=>
  obtain⟨j,hj,rfl,hO,hB⟩:=hrel;by_cases hlt:j<n
  ·obtain⟨p,hp⟩:∃p,(QF m)[j]? =some p:=⟨_,Qdk (by have:=X3.out.2.2.2.2;omega)⟩;obtain⟨b1,hb1,hb2⟩:=X3.out.2.2.1.at hp;obtain⟨g,o,rfl,hgl,hrng⟩:=X3.out.1.at (k:=1) (fun _ _=>rfl) hp (by decide);have hcell:=(QY hrng hB hgl) 0 p rfl;have hidx:=fun w=>YV (P:=prog) 94 20 1 underlying94 (by kernel_rfl) g o n c j hlt w;have hle:=Hw bs j;obtain⟨q,hq⟩:=nE (o+j*1);rw[←hq] at hidx hcell;rw[Qea] at hcell;have hjn:(j:Int)<(n:Int):=by omega
   obtain⟨q1,hq1⟩:=nE ((bs.take j).flatten.length);obtain⟨q2,hq2⟩:=nE ((bs.take j).flatten);have hq0:q1≤100000000:=by rw[hq1];exact Qdx hle (by rw[X3.out.2.2.2.1];exact hs)
   rw[←hq1,←hq2] at hO;rw[←hq2] at hb2;have cl:=hb1 _ _ _ _ (by omega) hB hO;have R:=H5 cl hb2 hq2 hB hq1;clear cl hb1 hb2 hq2 hB hO hq hle hp hgl hrng hq1;go_upto_region 7 with fail;go_wp2_with fail;refine R.out.1.mono ?_;rintro e w6 ⟨u,rfl,hO6,hB6⟩;have R6:=H2 hO6 hB6;clear hO6 hB6;go_wp2_with fail;go_roundw
   case rel=>
    refine⟨j+1,by omega,by go_num,?_,?_⟩
    ·have:=R6.out.1;rw[R.out.2.1,Qdj,←show q1=q2.length by rw[R.out.2.2.2.2,R.out.2.2.1]];exact this
    ·exact Below.trans R.out.2.2.2.1 R6.out.2
   case measure=>simp[intOf];omega
  ·obtain rfl:j=n:=by omega
   have hnn:¬(j:Int)<(j:Int):=by omega
   have R:=H2 hO hB;clear hO hB;go_wp2_with fail;refine Qdg (v:=.tuple #[_,.int .i64 0]) (by simp[results,results29,go_sem];rfl) rfl ⟨_,rfl,bt X3.out.2.1 R.out.2,?_⟩;have hO:=R.out.1;rw[Qd8 (by have h1:=X3.out.2.2.1.len;have h2:=X3.out.2.2.2.2;omega),X3.out.2.2.2.1] at hO;obtain⟨a,c,h1,h2,h3,h4,h5,h6⟩:=Wk hO;exact⟨a,c,h1,h3,h4,h5,h6⟩
def RStep(P:Program)(Q:Exit→Act→World→Prop)(R:World→World→Prop)(w0:World)(dsts:List (Option Tmp))(F:Nat→Value→World→Prop)(a0:Act)(i:Nat)(o:Oper):Prop:=
 (GOk F dsts o false∧∀w,F i undef w)∨
 (GOk F dsts o true∧∀(A:Act) w' (γ:Nat→Value),R w0 w'→(∀j,(Qr o).contains j=true→F j (γ j) w')→YC dsts γ a0 o A→
  o.wp P A w' (fun a' w''=>∃u,a'=A.put o.dst u∧R w' w''∧F i u w'') Q)
theorem Jv{P:Program}{Q:Exit→Act→World→Prop}{id:Nat}{l:List Oper}{a:Act}{w:World}(R:World→World→Prop)(hR:∀a b,Below a.heap.size a b→R a b)(hT:∀a b c,R a b→R b c→R a c)(dsts:List (Option Tmp))(F:Nat→Value→World→Prop)
  (hF:∀j u w1 w2,F j u w1→R w1 w2→F j u w2)
  (hm:P.follows .mixedOrders=true) (hds:l.map (·.dst)=dsts) (hnd:Y9 dsts=true) (hord:ordGo 0 l=true) (hin:inD a.tmps.size dsts=true)
  (step:StepAll (RStep P Q R w dsts F a) 0 l)
  (fin:∀γ w',R w w'→(∀j,j<l.length→F j (γ j) w')→Q .normal (Fr γ (fun _=>true) dsts 0 a) w'):(Code.region id l.toArray true).wp P Q a w:=by
 refine wp_region_any hm ?_;refine ZU (fun listed a' w'=>listed.size=l.length∧∃γ:Nat→Value,a'=Fr γ (fun j=>listed.getD j false) dsts 0 a∧R w w'∧∀j,listed.getD j false=true→F j (γ j) w') ?_ ?_ l.toArray.size _ _ _ ?_ ?_
 ·rintro listed a' w' i ⟨hsz,γ,rfl,hb,hFs⟩ hr;obtain⟨h0,o,ho,hall⟩:=mem_ready.1 hr;have ho':l[i]? =some o:=by simpa using ho
  have hlt:i<l.length:=(Qdt.1 ho').1;have hLi:listed.getD i false=false:=by
   have:i<listed.size:=by omega
   simp[this] at h0 ⊢;exact h0
  have hdep:∀j,(Qr o).contains j=true→listed.getD j false=true:=fun j hj=>by
   obtain⟨e,he1,he2⟩:=QdZ.1 (QdD.1 hj);obtain⟨he3,he4⟩:=Qey.1 he1;rw[←he2];exact hall e (by simpa using he3) (by simpa using he4)
  have hSF:YC dsts γ a o (Fr γ (fun j=>listed.getD j false) dsts 0 a):=
   ⟨fun j hj t ht=>Z6 γ _ t j (hdep j hj) dsts 0 a hnd (Qdw _) (by simpa using ht) (YA hin ht),fun t ht=>ZL γ _ t dsts 0 a ht⟩
  have hwant:∀{b},GOk F dsts o b→Region.wanted o (yielded l.toArray (Fr γ (fun j=>listed.getD j false) dsts 0 a).tmps)=b:=fun h=>
   h.wanted hds (fun j hj=>hFs j (hdep j hj)) (fun j hj t ht=>⟨by rw[Vt];exact YA hin ht,hSF.1 j hj t ht⟩)
  have hon:(fun j=>(listed.setIfInBounds i true).getD j false)=onL (fun j=>listed.getD j false) i:=by
   funext j;have hi:i<listed.size:=by omega
   unfold onL;by_cases e:j=i
   ·subst e;simp[hi]
   ·rw[getD_set_ne false (Ne.symm e)];simp[e]
  have hd:dsts[i]? =some o.dst:=by rw[←hds,QdI,ho'];rfl
  have key:∀u w'',R w' w''→F i u w''→(listed.setIfInBounds i true).size=l.length∧∃γ':Nat→Value,(Fr γ (fun j=>listed.getD j false) dsts 0 a).put o.dst u=Fr γ' (fun j=>(listed.setIfInBounds i true).getD j false) dsts 0 a∧R w w''∧∀j,(listed.setIfInBounds i true).getD j false=true→F j (γ' j) w'':=by
   intro u w'' hb2 hFu;refine⟨by simpa using hsz,fun j=>if j=i then u else γ j,?_,hT _ _ _ hb hb2,fun j hj=>?_⟩
   ·rw[hon,P2 _ _ i hLi dsts 0 a o.dst hnd (Qdw _) (by simpa using hd)];simp only[QdC];congr 1;refine Xo _ _ _ _ dsts 0 a fun j _ _=>⟨rfl,fun hj=>?_⟩;by_cases e:j=i
    ·subst e;rw[hLi] at hj;cases hj
    ·simp[e]
   ·by_cases e:j=i
    ·subst e;simpa using hFu
    ·have hj':listed.getD j false=true:=by rw[getD_set_ne false (Ne.symm e)] at hj;exact hj
     simp only[e,QdV];exact hF j _ _ _ (hFs j hj') hb2
  have st:=step.at i o ho';simp only[Qd5] at st;unfold wpOp;rw[ho];rcases st with ⟨hg,hu⟩|⟨hg,hq⟩
  ·simp only[hwant hg,QdN,QdV];exact key undef w' (hR _ _ (Below.refl _ _)) (hu w')
  ·simp only[hwant hg,QdC];left;refine Oper.wp_mono ?_ (hq _ w' γ hb (fun j hj=>hFs j (hdep j hj)) hSF);rintro a'' w'' ⟨u,rfl,hbel,hFu⟩;exact key u w'' hbel hFu
 ·rintro listed a' w' ⟨hsz,γ,rfl,hb,hFs⟩ hr;have hall:∀n i,i<n→i<l.length→listed.getD i false=true:=by
   intro n;induction n with
   | zero=>intro i hi;omega
   | succ n ih=>
    intro i hin' hi;cases hL:listed.getD i false with
    | true=>rfl
    | false=>
     exfalso;have hmem:i∈Region.ready .any l.toArray listed:=by
      refine mem_ready.2 ⟨?_,l[i],by simp[hi],fun e he hb=>?_⟩
      ·have:i<listed.size:=by omega
       simp[this] at hL ⊢;exact hL
      ·have hlt:=ordGo.at hord i l[i] (by simp[hi]) e.on (QdZ.2 ⟨e,Qey.2 ⟨by simpa using he,by simpa using hb⟩,rfl⟩);exact ih e.on (by omega) (by omega)
     rw[hr] at hmem;cases hmem
  have hlen:dsts.length=l.length:=by rw[←hds,QdA]
  have e:Fr γ (fun j=>listed.getD j false) dsts 0 a=Fr γ (fun _=>true) dsts 0 a:=
   Xo _ _ _ _ dsts 0 a fun j _ hj=>⟨hall (j+1) j (by omega) (by omega),fun _=>rfl⟩
  rw[e];exact fin γ w' hb (fun j hj=>hFs j (hall (j+1) j (by omega) hj))
 ·unfold unl;exact Qdx (QeS _ _) (by simp)
 ·refine⟨by simp,fun _=>undef,?_,hR _ _ (Below.refl _ _).drew,fun j hj=>?_⟩
  ·have:∀(r:List (Option Tmp)) (k:Nat),Fr (fun _=>undef) (fun j=>(Array.replicate l.toArray.size false).getD j false) r k a=a:=by
    intro r;induction r with
    | nil=>intro k;rfl
    | cons d r ih=>
     intro k;unfold Fr;have e:(Array.replicate l.toArray.size false).getD k false=false:=by
      simp only[QdK,Qeg];split <;> rfl
     rw[e];exact ih (k+1)
   exact (this dsts 0).symm
  ·have e:(Array.replicate l.toArray.size false).getD j false=false:=by
    simp only[QdK,Qeg];split <;> rfl
   rw[e] at hj;cases hj
def Qam(R:World→World→Prop)(G:VP):Prop:=∀u w1 w2,G u w1→R w1 w2→G u w2
theorem Qm(R:World→World→Prop)(v:Value):Qam R (EqV v):=fun _ _ _ h _=>h
def BX(R:World→World→Prop):List VP→Prop
 | []=>True
 | G::r=>Qam R G∧BX R r
theorem VY{R:World→World→Prop}:∀{l:List VP},BX R l→∀j u w1 w2,FL l j u w1→R w1 w2→FL l j u w2
 | [],_,_,_,_,_,h,_=>h
 | G::l,hk,0,u,w1,w2,h,hb=>hk.1 u w1 w2 h hb
 | G::l,hk,j+1,u,w1,w2,h,hb=>VY (l:=l) hk.2 j u w1 w2 h hb
def RB(B:Nat)(T:Array Value)(w1 w2:World):Prop:=B<w1.heap.size→(Below B w1 w2∧∀(t:TypeId) (cs1:Array Value),Blk w1 B t cs1→∃cs2:Array Value,Blk w2 B t cs2∧cs2.size=cs1.size∧∀i:Nat,cs2[i]? =cs1[i]?∨cs2[i]? =T[i]?)
theorem QD(B:Nat)(T:Array Value)(a b:World)(h:Below a.heap.size a b):RB B T a b:=fun hB=>
 ⟨h.mono (QeM hB),fun t cs hc=>⟨cs,hc.below h hB,rfl,fun _=>.inl rfl⟩⟩
theorem GA(B:Nat)(T:Array Value)(a b c:World)(h:RB B T a b)(k:RB B T b c):RB B T a c:=fun hB=>by
 obtain⟨h1,h2⟩:=h hB;obtain⟨k1,k2⟩:=k (Qdr hB h1.size);refine⟨h1.trans k1,fun t cs hc=>?_⟩;obtain⟨cs2,e1,e2,e3⟩:=h2 t cs hc;obtain⟨cs3,f1,f2,f3⟩:=k2 t cs2 e1;exact⟨cs3,f1,f2.trans e2,fun i=>(f3 i).elim (fun e=>(e3 i).imp e.trans e.trans) .inr⟩
def StF(B:Nat)(T:Array Value)(t:TypeId)(off n:Nat):VP:=fun _ w=>∃cs:Array Value,Blk w B t cs∧∀i:Nat,off≤i→i<off+n→cs[i]? =T[i]?
theorem StF.keep(B:Nat)(T:Array Value)(t:TypeId)(off n:Nat):Qam (RB B T) (StF B T t off n):=fun u w1 w2 ⟨cs,h1,h2⟩ hb=>by
 obtain⟨cs2,e1,_,e3⟩:=(hb h1.lt).2 t cs h1;exact⟨cs2,e1,fun i h3 h4=>(e3 i).elim (fun e=>e.trans (h2 i h3 h4)) id⟩
section
variable {P:Program} {Q:Exit→Act→World→Prop} {o:Oper} {A:Act} {w:World} {u:Value}
theorem Xs{R:World→World→Prop}(hR:∀a b,Below a.heap.size a b→R a b)(h:o.wp P A w (fun a' w''=>a'=A.put o.dst u∧Below w.heap.size w w'') Q):o.wp P A w (fun a' w''=>∃u',a'=A.put o.dst u'∧R w w''∧EqV u u' w'') Q:=by
 refine Oper.wp_mono ?_ h;rintro a' w'' ⟨rfl,hb⟩;exact⟨u,rfl,hR _ _ hb,rfl⟩
theorem WL(x:Operand)(src t:TypeId)(v:Value)(ho:o.op= .typeAssert x src t false)(hx:A.eval x= .iface t v)(hr:∀w,(Instr.typeAssert (.iface t v) src t false).run P w= .ok v w):o.wp P A w (fun a' w''=>a'=A.put o.dst v∧Below w.heap.size w w'') Q:=by
 refine Xe ?_;have hr:=hr w;generalize A.eval=ρ at *;unfold execOp;simp only[ho];simp[hx,hr,go_sem]
theorem Tn(t:TypeId)(x:Operand)(k:Nat)(v y:Value)(ho:o.op= .field t x k)(hx:A.eval x=y)(hr:∀w,(Instr.field t y k).run P w= .ok v w):o.wp P A w (fun a' w''=>a'=A.put o.dst v∧Below w.heap.size w w'') Q:=by
 refine Xe ?_;have hr:=hr w;generalize A.eval=ρ at *;unfold execOp;simp only[ho];simp[hx,hr,go_sem]
theorem WJ{B:Nat}{T:Array Value}{t:TypeId}{cs:Array Value}(hb:Blk w B t cs)(ty:TypeId)(x y:Operand)(off:Nat)(c:Array Value)(ho:o.op= .store ty x y)
  (hx:A.eval x= .pointer (some ⟨B,off,none⟩)) (v:Value) (hy:A.eval y=v) (hvc:v.cells=c) (hi:(P.info? ty).map (·.size)=some c.size) (hs:off+c.size≤cs.size) (h1:c.all (·.oneCell')=true) (n:Nat) (hn:n=c.size)
  (hT:∀i,i<n→T[off+i]? =c[i]?):o.wp P A w (fun a' w''=>∃u,a'=A.put o.dst u∧RB B T w w''∧StF B T t off n u w'') Q:=by
 subst hn;have hr:=run_storeCells_at (P:=P) B off t c.toList 0 cs w hb (by simpa using hs) (fun v hv=>(QdX.1 h1) v (by simpa using hv));have hst:(Instr.storeAt ty (.pointer (some ⟨B,off,none⟩)) v).run P w= .ok () (w.setRow B (cs.toList.take off++c.toList++cs.toList.drop (off+c.size)).toArray):=by
  cases hq:P.info? ty with
  | none=>simp[hq] at hi
  | some i=>
   have hsz:c.size=i.size:=by simp[hq] at hi;omega
   simp only[Qea,Qeo] at hr;simp only[Instr.storeAt,Instr.sureAddr,Qdl,Qd1,Qdi];simp[storeVar,sizeOf,typeInfo,hq,hvc,hsz,hr] at hr ⊢
 unfold Oper.wp execOp;simp only[ho,hx,hy,Qdl,hst];have key:∀i:Nat,(off≤i∧i<off+c.size→(cs.toList.take off++c.toList++cs.toList.drop (off+c.size)).toArray[i]? =T[i]?)∧(¬(off≤i∧i<off+c.size)→(cs.toList.take off++c.toList++cs.toList.drop (off+c.size)).toArray[i]? =cs[i]?):=by
  intro i;rw[Qdp,Qd0];have hlt:(cs.toList.take off).length=off:=by rw[Qds,Qeo];omega
  refine⟨fun ⟨h2,h3⟩=>?_,fun h=>?_⟩
  ·have:=hT (i-off) (by omega);rw[show off+(i-off)=i by omega] at this;rw[this,QdB (by omega),hlt,Qd3 (by rw[Qeo];omega),QeT]
  ·by_cases h2:i<off
   ·rw[Qd3 (by omega),QdH h2,QeT]
   ·rw[QdB (by omega),hlt,QdB (by rw[Qeo];omega),Qeo,QeH,QeT];congr 1;omega
 have hsz:(cs.toList.take off++c.toList++cs.toList.drop (off+c.size)).toArray.size=cs.size:=by
  rw[Qdv,Qdj,Qdj,Qds,Qdq,Qeo,Qeo];omega
 refine⟨undef,rfl,fun hB=>⟨Qb (Below.refl _ _) (Qde _) _,fun t' cs1 hc=>?_⟩,⟨_,hb.row _,fun i h2 h3=>(key i).1 ⟨h2,h3⟩⟩⟩;obtain⟨rfl,rfl⟩:t'=t∧cs1=cs:=by
  have:=hc.symm.trans hb;injection this with this
  injection this with h1 h2
  exact⟨h2,h1⟩
 refine⟨_,hc.row _,hsz,fun i=>?_⟩;by_cases h:off≤i∧i<off+c.size
 ·exact .inr ((key i).1 h)
 ·exact .inl ((key i).2 h)
end
end Go.Proofs.YthdaabapiicnhaaGreatDoor
