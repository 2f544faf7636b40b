/- Steps of the proof. -/
import Derived.Test.YthdaabapiicnhaaGreatDoorTr11
set_option linter.all false
set_option maxRecDepth 100000
set_option maxHeartbeats 4000000
open Go.Proofs.Tryz
namespace Go.Proofs.YthdaabapiicnhaaGreatDoor
open Go.RowKit
theorem ZY(n:Nat)(h:n≤9223372036854775807):IntKind.u64.wrap (n:Int)=(n:Int):=Ye n (by omega)
theorem Nw(base:Nat)(v:Value)(m:Nat)(xs:List UInt8)(n:Nat)(hn:n≤2147483647)(hm:m≤1000000000)(w:World)(hb:base≤w.heap.size)(ho:w.ownsRow base 5 1 v m (xs.map fun c=>Value.int .u8 (c.toNat:Int))):
  Calls prog 91 #[v,.int .i64 n] w fun e w'=>∃u,e= .returned u∧w'.ownsRow base 5 1 u (m+QI n) ((xs++QE n).map fun c=>Value.int .u8 (c.toNat:Int))∧Below base w w':=by
 obtain⟨va,vc,rfl⟩:=Qh ho;obtain⟨i0,hi,hz0,hz1,hz2⟩:=info_parts (show (prog.info? 5).map (fun i=>(i.zero,i.size,i.bytes))=some (some (.int .u8 0),1,1) by kernel_rfl);have I:=H4 hi hz0 hz1 hz2;clear hi hz0 hz1 hz2;have cP:=fun w=>GC n (by omega) w;have hu:=ZY n (by omega);have hsz:=Xd n;have hs9:=Xp n;obtain⟨P,hP⟩:=nE (QE n);obtain⟨S,hS⟩:=nE (QI n);rw[←hP] at cP hsz ⊢;rw[←hS] at hsz hs9 ⊢;have O:=H3 ho cP hsz;clear ho cP hP hS hsz;go_enter func91,ntmps91;go_wp2_with fail;refine (O.out.2.1 _).mono ?_;rintro e w1 ⟨u,rfl,hb1,hu1,_⟩;obtain⟨a1,c1,rfl,r1,r2,r3,r4⟩:=hu1;rw[O.out.2.2] at r2 r4 ⊢;have B1:Below base w w1:=hb1.mono hb;have z1:base≤w1.heap.size:=by have:=hb1.size;omega
 have R:=H5 (Xa O.out.1 hb1) B1 r1 r2 r3;clear r1 r2 r3 hb1 B1;go_wp2_with (at_builtin;refine XW R.out.1 rfl _ _ 31 rfl underlying31 i0 I.out.1 I.out.2.1 I.out.2.2.1 I.out.2.2.2 rfl a1 S c1 P rfl R.out.2.2.1 O.out.2.2 r4 (by omega) z1 ?_);intro v2 w2 o2 g2 _;have B2:=Qn R.out.2.1 g2 z1 (by intro k hk;exact (R.out.1.lt k hk).1);obtain⟨a2,c2,rfl⟩:=Qh o2;have R2:=H2 o2 B2;clear o2 B2 g2;go_wp2;go_ret;exact⟨_,rfl,by rw[QdR];exact R2.out.1,R2.out.2⟩
theorem Hr(a:Option Addr)(n c k:Nat)(hk:k≤8)(l:List UInt8)(hl:l.length=n)(hn:n≤140737488355328)(w:World)(hr:RdS w a l):
  Calls prog 49 #[.slice a n c,.int .i64 k] w fun e w'=>e= .returned (.tuple #[.int .u64 ((Zk k l).1:Nat),.int .i64 ((Zk k l).2.2:Nat)])∧w'=w:=by
 by_cases hs:n<k
 ·have e:Zk k l=(0,k,1):=by unfold Zk;rw[Qdm (by omega)]
  have E:=Lib.hid e;clear e hr hl;have hsi:(n:Int)<(k:Int):=by omega
  go_enter func49,ntmps49;go_wp2;exact Qdg (v:=.tuple #[.int .u64 0,.int .i64 1]) (by simp[results,results49,go_sem]) rfl ⟨by rw[E.out];rfl,rfl⟩
 have e:Zk k l=(leN l k,k,0):=by unfold Zk;rw[Qdf (by omega)]
 have E:=H3 e hr hl;clear e hr hl;have hsi:¬(n:Int)<(k:Int):=by omega
 go_enter func49,ntmps49;go_wp2_with fail;go_loopw [6,13] (fun v i wq=>∃j:Nat,j≤k∧i= .int .i64 j∧v= .int .u64 (leN l j:Nat)∧wq=w) (fun _ i _=>k-(intOf i).toNat)
 case atStart=>exact⟨0,by omega,rfl,rfl,rfl⟩
 case round=>
  obtain⟨j,hj,rfl,rfl,rfl⟩:=hrel;by_cases hlt:j<k
  ·obtain⟨g,off,rfl,hg,hrd⟩:=Zg E.out.2.1 (by have:=E.out.2.2;omega);obtain⟨s,hs⟩:=nE (8*j);have hsi2:(8:Int)*(j:Int)=(s:Int):=by omega
   have pn:j<n:=by omega
   have pni:(j:Int)<(n:Int):=by omega
   have s64:s<64:=by omega
   have jk:(j:Int)<(k:Int):=by omega
   obtain⟨y,hy⟩:=nE ((l.getD j 0).toNat);have hy8:y<256:=by rw[hy];exact (l.getD j 0).toNat_lt
   have c2:=hrd j (by have:=E.out.2.2;omega);rw[←hy] at c2;obtain⟨A,hA⟩:=nE (leN l j);have hA2:A<2^s:=by
    have:=XQ l j;rw[hA,hs,Qe3];exact this
   have ev:=Gc A y s hA2 hy8 (by omega);have hnx:leN l (j+1)=A+y*2^s:=by
    rw[XC,←hA,←hy,hs,Qe3]
   rw[←hA];have HX:=H6 hA hnx ev hy hs hA2;clear hA hnx ev hy hs hA2 hrd;go_wp2;obtain⟨hA,hnx,ev,hy,hs,hA2⟩:=HX.out;go_roundw
   case rel=>exact⟨j+1,by omega,by go_num,by rw[hnx,←ev,Ye y (by omega)],trivial⟩
   case measure=>simp[intOf];omega
  ·obtain rfl:j=k:=by omega
   go_wp2;exact Qdg (v:=.tuple #[.int .u64 (leN l j:Nat),.int .i64 0]) (by simp[results,results49,go_sem]) rfl ⟨by rw[E.out.1];rfl,rfl⟩
theorem E6(l:List UInt8):(Zq l).1<18446744073709551616∧(Zq l).2.1≤9:=by
 unfold Zq;split
 ·exact⟨by decide,by decide⟩
 ·split
  ·have:=(l.getD 0 0).toNat_lt;exact⟨by show (l.getD 0 0).toNat<_;omega,by show 1≤9;decide⟩
  ·split
   ·exact⟨by decide,by decide⟩
   ·split
    ·exact⟨by decide,by decide⟩
    ·have hk:QA (l.getD 0 0).toNat≤8:=by
                             unfold QA;split;· omega
                             ·split;· omega
                              ·split <;> omega
     have h1:=XQ (l.drop 1) (QA (l.getD 0 0).toNat);have h2:(256:Nat)^(QA (l.getD 0 0).toNat)≤256^8:=Qep (by decide) hk;exact⟨by show leN _ _<_;omega,by show 1+_≤9;omega⟩
theorem Zp(a:Option Addr)(n c most:Nat)(hmost:most<18446744073709551616)(l:List UInt8)(hl:l.length=n)(hn:n≤140737488355328)(w:World)(hr:RdS w a l):
  Calls prog 81 #[.slice a n c,.int .u64 most] w fun e w'=>e= .returned (.tuple #[.int .i64 ((Qg l most).1:Nat),.int .i64 ((Qg l most).2.1:Nat),.int .i64 ((Qg l most).2.2:Nat)])∧w'=w:=by
 have cG:=Qau a n c l hl hn w hr;have hty:=E6 l;have hb:Qg l most=if (Zq l).2.2≠0 then (0,0,(Zq l).2.2) else if most<(Zq l).1∨2147483647<(Zq l).1 then (0,0,3) else Zq l:=rfl
 obtain⟨⟨N,S,E⟩,hG⟩:∃G,G=Zq l:=⟨_,rfl⟩;rw[←hG] at cG hty hb;simp only at cG hty hb;obtain⟨B,hB⟩:=nE (Qg l most);rw[←hB] at hb ⊢;have C:=H3 cG hb hty;clear cG hb hG hB hty hr hmost;go_enter func81,ntmps81;go_wp2_with fail;refine C.out.1.mono ?_;rintro e w' ⟨rfl,rfl⟩;by_cases hE:E=0
 ·subst hE;have hb:=C.out.2.1;rw[Qdf (by simp)] at hb;by_cases h1:most<N
  ·rw[Qdm (.inl h1)] at hb;have h1i:(most:Int)<(N:Int):=by omega
   have HB:=Lib.hid hb;clear hb C;go_wp2;exact Qdg (v:=.tuple #[.int .i64 0,.int .i64 0,.int .i64 3]) (by simp[results,results81,go_sem]) rfl ⟨by rw[HB.out];rfl,rfl⟩
  ·have h1i:¬(most:Int)<(N:Int):=by omega
   by_cases h2:2147483647<N
   ·rw[Qdm (.inr h2)] at hb;have h2i:(2147483647:Int)<(N:Int):=by omega
    have HB:=Lib.hid hb;clear hb C;go_wp2;exact Qdg (v:=.tuple #[.int .i64 0,.int .i64 0,.int .i64 3]) (by simp[results,results81,go_sem]) rfl ⟨by rw[HB.out];rfl,rfl⟩
   ·rw[Qdf (by omega)] at hb;have h2i:¬(2147483647:Int)<(N:Int):=by omega
    have hw:IntKind.i64.wrap (N:Int)=(N:Int):=by simp[IntKind.wrap,IntKind.signed,IntKind.bits];omega
    have HB:=Lib.hid hb;clear hb C;go_wp2;exact Qdg (v:=.tuple #[.int .i64 (N:Nat),.int .i64 (S:Nat),.int .i64 0]) (by simp[results,results81,go_sem]) rfl ⟨by rw[HB.out];rfl,rfl⟩
 ·have hEi:¬(E:Int)=0:=by omega
  have hb:=C.out.2.1;rw[Qdm hE] at hb;have HB:=Lib.hid hb;clear hb C;go_wp2;exact Qdg (v:=.tuple #[.int .i64 0,.int .i64 0,.int .i64 (E:Nat)]) (by simp[results,results81,go_sem]) rfl ⟨by rw[HB.out];rfl,rfl⟩
theorem TC(k:Nat)(w:World)(hk:k<11):Calls prog 31 #[.int .i64 k] w fun e w'=>e= .returned (.string (Xg (YL k)))∧w'=w:=by
 rcases (show k=0∨k=1∨k=2∨k=3∨k=4∨k=5∨k=6∨k=7∨k=8∨k=9∨k=10 by omega) with rfl|rfl|rfl|rfl|rfl|rfl|rfl|rfl|rfl|rfl|rfl <;>
 ·go_enter func31,ntmps31;go_wp2;go_ret;exact⟨rfl,rfl⟩
def Grow(w:World)(v:Value)(w':World)(v':Value):Prop:=w.grownBy w' v.ownBlock∧(v'.ownBlock=v.ownBlock∨∃k,v'.ownBlock=some k∧w.heap.size≤k)
theorem Grow.refl(w:World)(v:Value):Grow w v w v:=⟨⟨rfl,rfl,rfl,Qde _,fun _ _ _=>rfl⟩,.inl rfl⟩
theorem Grow.trans{a b c:World}{u v x:Value}(h:Grow a u b v)(k:Grow b v c x):Grow a u c x:=by
 refine⟨⟨k.1.os.trans h.1.os,k.1.tape.trans h.1.tape,k.1.output.trans h.1.output,Qdx h.1.size k.1.size,fun i hi hne=>(k.1.block i (Qdr hi h.1.size) fun e=>?_).trans (h.1.block i hi hne)⟩,?_⟩
 ·rcases h.2 with h2|⟨j,h2,h3⟩
  ·exact hne (e.trans h2)
  ·rw[h2] at e;injection e with e
   omega
 ·rcases k.2 with k2|⟨j,k2,k3⟩
  ·rw[k2];exact h.2
  ·exact .inr ⟨j,k2,Qdx h.1.size k3⟩
theorem Grow.of_below{w w':World}(h:Below w.heap.size w w')(v:Value):Grow w v w' v:=⟨⟨h.os,h.tape,h.output,h.size,fun k hk _=>h.block k hk⟩,.inl rfl⟩
theorem Grow.size{w w':World}{v v':Value}(h:Grow w v w' v'):w.heap.size≤w'.heap.size:=h.1.size
theorem Grow.below{B:Nat}{w0 w w':World}{v v':Value}(h:Grow w v w' v')(hB:Below B w0 w)(hb:B≤w.heap.size)(ho:∀k,v.ownBlock=some k→B≤k):Below B w0 w':=Qn hB h.1 hb ho
theorem Grow.obj{w w':World}{v v':Value}(h:Grow w v w' v'){k:Nat}{o:Obj}(ho:w.heap[k]? =some o)(hne:v.ownBlock≠some k):w'.heap[k]? =some o:=
 (h.1.block k (QdQ.1 ho).1 fun e=>hne e.symm).trans ho
theorem Grow.blk{w w':World}{v v':Value}(h:Grow w v w' v'){g:Nat}{t:TypeId}{cs:Array Value}(hb:Blk w g t cs)(hne:v.ownBlock≠some g):Blk w' g t cs:=h.obj hb hne
theorem Grow.off{w w':World}{v v':Value}(h:Grow w v w' v'){g:Nat}(hg:g<w.heap.size)(hne:v.ownBlock≠some g):v'.ownBlock≠some g:=by
 rcases h.2 with h2|⟨j,h2,h3⟩
 ·rw[h2];exact hne
 ·rw[h2];intro e;injection e with e
  omega
theorem Ga{w:World}{base k:Nat}{e:TypeId}{v:Value}{n:Nat}{xs:List Value}(h:w.ownsRow base e k v n xs){g:Nat}(hg:w.heap.size≤g):v.ownBlock≠some g:=fun e=>by have:=(h.lt g e).2;omega
theorem PH{P:Program}{w:World}{ops:Array Oper}{rest:List Oper}{o:Oper}{a:Act}{Q:Exit→Act→World→Prop}{base:Nat}{e:TypeId}{v:Value}{n:Nat}{xs:List UInt8}(hown:w.ownsRow base e 1 v n (xs.map fun c=>Value.int .u8 (c.toNat:Int)))
  (hgd:o.guard=none) (s x:Operand) (t:TypeId) (ho:o.op= .call {callee:=.builtin .append,args:=#[s,x],argTypes:=#[t,t]}) (ht:P.underlying t=some (.slice e)) (i:TypeInfo) (hi:P.info? e=some i) (hz:i.zero=some (.int .u8 0)) (h1:i.size=1) (hby:i.bytes=1)
  (hs:a.eval s=v) (a2:Option Addr) (m c:Nat) (l:List UInt8) (hx:a.eval x= .slice a2 m c) (hr:RdS w a2 l) (hl:l.length=m) (hno:a2=none→m=0∧c=0) (hn:n+m≤140737488355328) (hbase:base≤w.heap.size)
  (k:∀v' w',w'.ownsRow base e 1 v' (n+m) ((xs++l).map fun c=>Value.int .u8 (c.toNat:Int))→Grow w v w' v'→wpList P ops Q rest (a.put o.dst v') w'):wpList P ops Q (o::rest) a w:=by
 cases a2 with
 | none=>
  obtain⟨h2,h3⟩:=hno rfl;subst h2 h3;have hl0:l=[]:=QdO.1 hl;subst hl0;exact wpList_append_own_none hgd s x t ho base e i 1 ht hi v n _ hs hown hx (k v w (by rw[QdF];exact hown) (Grow.refl _ _))
 | some ad=>
  refine wpList_append_own_at w hgd s x t ho base e i (.int .u8 0) 1 1 ht hi hz h1 hby rfl (by omega) v n _ hs hown ad m c (l.map fun c=>Value.int .u8 (c.toNat:Int)) hx (by rw[QdA,hl,Qe2]) (fun j u hu=>PI hr j u hu) (Jg l) (by unfold maxLen;omega) (by omega) hbase fun v' w' h2 h3 h4 h5=>?_;exact k v' w' (by rw[QdR];exact h2) ⟨h3,h5.imp id fun e=>⟨_,e,Qde _⟩⟩
theorem Ec{P:Program}{w:World}{ops:Array Oper}{rest:List Oper}{o:Oper}{a:Act}{Q:Exit→Act→World→Prop}{base:Nat}{e:TypeId}{v:Value}{n:Nat}{xs:List UInt8}(hown:w.ownsRow base e 1 v n (xs.map fun c=>Value.int .u8 (c.toNat:Int)))
  (hgd:o.guard=none) (s x:Operand) (t:TypeId) (ho:o.op= .call {callee:=.builtin .append,args:=#[s,x],argTypes:=#[t,t]}) (ht:P.underlying t=some (.slice e)) (i:TypeInfo) (hi:P.info? e=some i) (hz:i.zero=some (.int .u8 0)) (h1:i.size=1) (hby:i.bytes=1)
  (hs:a.eval s=v) (g c:Nat) (ch:UInt8) (hx:a.eval x= .slice (some ⟨g,0,none⟩) 1 c) (hc:w.cell? ⟨g,0,none⟩=some (.int .u8 ch.toNat)) (hn:n+1≤140737488355328) (hbase:base≤w.heap.size)
  (k:∀v' w',w'.ownsRow base e 1 v' (n+1) ((xs++[ch]).map fun c=>Value.int .u8 (c.toNat:Int))→Grow w v w' v'→wpList P ops Q rest (a.put o.dst v') w'):wpList P ops Q (o::rest) a w:=by
 refine wpList_append_own_at w hgd s x t ho base e i (.int .u8 0) 1 1 ht hi hz h1 hby rfl (by omega) v n _ hs hown ⟨g,0,none⟩ 1 c [Value.int .u8 (ch.toNat:Int)] hx rfl (fun j u hu=>?_) (fun u hu=>?_) (by unfold maxLen;omega) (by omega) hbase fun v' w' h2 h3 h4 h5=>?_
 ·match j with
  | 0=>injection hu with hu;subst hu;exact hc
  | j+1=>cases hu
 ·obtain rfl:=QeG.1 hu;rfl
 ·exact k v' w' (by rw[QdR];exact h2) ⟨h3,h5.imp id fun e=>⟨_,e,Qde _⟩⟩
theorem LN(base:Nat)(v:Value)(m:Nat)(xs:List UInt8)(n k:Nat)(hk:k≤8)(hm:m≤1000000000)(w:World)(hb:base≤w.heap.size)(ho:w.ownsRow base 5 1 v m (xs.map fun c=>Value.int .u8 (c.toNat:Int))):
  Calls prog 90 #[v,.int .u64 n,.int .i64 k] w fun e w'=>∃u,e= .returned u∧w'.ownsRow base 5 1 u (m+k) ((xs++leK n k).map fun c=>Value.int .u8 (c.toNat:Int))∧Grow w v w' u:=by
 obtain⟨va,vc,rfl⟩:=Qh ho;obtain⟨i0,hi,hz0,hz1,hz2⟩:=info_parts (show (prog.info? 5).map (fun i=>(i.zero,i.size,i.bytes))=some (some (.int .u8 0),1,1) by kernel_rfl);have I:=H4 hi hz0 hz1 hz2;clear hi hz0 hz1 hz2;have O:=H2 ho hb;clear ho;go_enter func90,ntmps90;go_wp2;go_loopw [0,9] (fun v i wr=>∃j:Nat,j≤k∧i= .int .i64 j∧wr.ownsRow base 5 1 v (m+j) ((xs++leK n j).map fun c=>Value.int .u8 (c.toNat:Int))∧Grow w (.slice va m vc) wr v) (fun _ i _=>k-(intOf i).toNat)
 case atStart=>exact⟨0,Qdw _,rfl,by rw[Gh,QdF];exact O.out.1,Grow.refl _ _⟩
 case round=>
  obtain⟨j,hj,rfl,hO,hB⟩:=hrel;obtain⟨a4,c4,rfl⟩:=Qh hO;by_cases hlt:j<k
  ·obtain⟨s,hs⟩:=nE (8*j);have hsi:(8:Int)*(j:Int)=(s:Int):=by omega
   have s64:s<64:=by omega
   have jk:(j:Int)<(k:Int):=by omega
   have hv:=J1 n s j hs;obtain⟨ch,hch⟩:=nE (UInt8.ofNat (n/256^j%256));rw[←hch] at hv;have hbs:=Zm (ch.toNat:Int) wr;have hO':=Xa hO (ba (Below.refl _ _) (.cells #[.int .u8 (ch.toNat:Int)] 5));have zb:base≤wr.heap.size:=by have:=hB.size;omega
   have hzz:base≤(wr.alloc (.cells #[.int .u8 (ch.toNat:Int)] 5)).heap.size:=by rw[Qdu];omega
   have R:=H4 hO' hB hs hch;clear hO hO' hB hs hch;go_wp2_with (at_builtin;refine Ec R.out.1 rfl _ _ 31 rfl underlying31 i0 I.out.1 I.out.2.1 I.out.2.2.1 I.out.2.2.2 rfl wr.heap.size 1 ch rfl (by rw[(Blk.new wr _ _).cell];rfl) (by omega) hzz ?_);intro v5 w5 o5 g5;have B5:=(R.out.2.1.trans (Grow.of_below (ba (Below.refl _ _) (.cells #[.int .u8 (ch.toNat:Int)] 5)) _)).trans g5;obtain⟨a5,c5,rfl⟩:=Qh o5;replace o5:w5.ownsRow base 5 1 (.slice a5 (m+j+1) c5) (m+(j+1)) ((xs++leK n (j+1)).map fun c=>Value.int .u8 (c.toNat:Int)):=by rw[Jl,←Qd0,←R.out.2.2.2];simpa[Qeb] using o5
   have R5:=H2 o5 B5;clear o5 B5 g5 hbs;go_wp2;go_roundw
   case rel=>exact⟨j+1,by omega,by go_num,R5.out.1,R5.out.2⟩
   case measure=>simp[intOf];omega
  ·obtain rfl:j=k:=by omega
   have R:=H2 hO hB;clear hO hB;go_wp2;go_ret;exact⟨_,rfl,R.out.1,R.out.2⟩
theorem Qad(base:Nat)(v:Value)(m:Nat)(xs:List UInt8)(n:Nat)(hn:n≤2147483647)(hm:m≤1000000000)(w:World)(hb:base≤w.heap.size)(ho:w.ownsRow base 5 1 v m (xs.map fun c=>Value.int .u8 (c.toNat:Int))):
  Calls prog 91 #[v,.int .i64 n] w fun e w'=>∃u,e= .returned u∧w'.ownsRow base 5 1 u (m+QI n) ((xs++QE n).map fun c=>Value.int .u8 (c.toNat:Int))∧Grow w v w' u:=by
 obtain⟨va,vc,rfl⟩:=Qh ho;obtain⟨i0,hi,hz0,hz1,hz2⟩:=info_parts (show (prog.info? 5).map (fun i=>(i.zero,i.size,i.bytes))=some (some (.int .u8 0),1,1) by kernel_rfl);have I:=H4 hi hz0 hz1 hz2;clear hi hz0 hz1 hz2;have cP:=fun w=>GC n (by omega) w;have hu:=ZY n (by omega);have hsz:=Xd n;have hs9:=Xp n;obtain⟨P,hP⟩:=nE (QE n);obtain⟨S,hS⟩:=nE (QI n);rw[←hP] at cP hsz ⊢;rw[←hS] at hsz hs9 ⊢;have O:=H3 ho cP hsz;clear ho cP hP hS hsz;go_enter func91,ntmps91;go_wp2_with fail;refine (O.out.2.1 _).mono ?_;rintro e w1 ⟨u,rfl,hb1,hu1,_⟩;obtain⟨a1,c1,rfl,r1,r2,r3,r4⟩:=hu1;rw[O.out.2.2] at r2 r4 ⊢;have B1:Grow w (.slice va m vc) w1 (.slice va m vc):=Grow.of_below hb1 _;have z1:base≤w1.heap.size:=by have:=hb1.size;omega
 have R:=H5 (Xa O.out.1 hb1) B1 r1 r2 r3;clear r1 r2 r3 hb1 B1;go_wp2_with (at_builtin;refine PH R.out.1 rfl _ _ 31 rfl underlying31 i0 I.out.1 I.out.2.1 I.out.2.2.1 I.out.2.2.2 rfl a1 S c1 P rfl R.out.2.2.1 O.out.2.2 r4 (by omega) z1 ?_);intro v2 w2 o2 g2;have B2:=R.out.2.1.trans g2;obtain⟨a2,c2,rfl⟩:=Qh o2;have R2:=H2 o2 B2;clear o2 B2 g2;go_wp2;go_ret;exact⟨_,rfl,by rw[QdR];exact R2.out.1,R2.out.2⟩
theorem Ti:∀(n:Nat) (l:List UInt8),Xu Tz n l=if l.length<n then ([],0,1) else (l.take n,n,0)
 | 0,l=>rfl
 | n+1,l=>by
  unfold Xu;have ih:=Ti n (l.drop 1);cases l with
  | nil=>rfl
  | cons x t=>
   have e:Tz (x::t)=(x,1,0):=rfl;rw[e];simp only[Qf7,List.drop_zero] at ih ⊢;rw[ih,Qdf (by simp)];by_cases h:t.length<n
   ·rw[Qdm h,Qdm (by simp),Qdm (by rw[QdL];omega)]
   ·rw[Qdf h,Qdf (by simp),Qdf (by rw[QdL];omega),Qfa,QfR 1 n]
def Jq(most:Nat)(l:List UInt8):List UInt8×Nat×Nat:=
 if (Qg l most).2.2≠0 then ([],0,(Qg l most).2.2) else if l.length-(Qg l most).2.1<(Qg l most).1 then ([],0,1)
 else ((l.drop (Qg l most).2.1).take (Qg l most).1,(Qg l most).2.1+(Qg l most).1,0)
theorem Gu(most:Nat)(h:most≤2147483647)(l:List UInt8):(QL most h).get l=Jq most l:=by
 show JD Tz most l=Jq most l;unfold JD Jq;rw[Ti,Qdq];by_cases h1:(Qg l most).2.2≠0
 ·rw[Qdm h1,Qdm h1]
 ·rw[Qdf h1,Qdf h1];by_cases h2:l.length-(Qg l most).2.1<(Qg l most).1
  ·simp[h2]
  ·simp[h2]
theorem ZW(l:List UInt8)(most:Nat):(Qg l most).2.1≤9∧((Qg l most).2.2=0→(Qg l most).1≤2147483647∧(Qg l most).2.1≤l.length):=by
 have hty:=E6 l;unfold Qg;split
 ·rename_i h;exact⟨Qdw _,fun h2=>absurd h2 h⟩
 ·split
  ·exact⟨Qdw _,fun h=>by cases h⟩
  ·rename_i h1 h2;refine⟨hty.2,fun _=>⟨by omega,?_⟩⟩;have:=RQ (show Zq l=((Zq l).1,(Zq l).2.1,0) by rw[←Classical.not_not.1 h1]);exact this.2.2.1
theorem Te(a:Option Addr)(n c i j:Nat)(hij:i≤j)(hj:j≤n)(hc:n≤c)(l:List UInt8)(hl:l.length=n):
  ∃a':Option Addr,(∀w,(Instr.slice 31 (.slice a n c) (some (.int .i64 i)) (some (.int .i64 j)) none).run prog w= .ok (.slice a' (j-i) (c-i)) w)∧(∀w,RdS w a l→RdS w a' ((l.drop i).take (j-i)))∧(a'=none↔a=none):=by
 have hs:∀w:World,(sizeOf (prog.elem 31)).run prog w= .ok 1 w:=fun w=>by kernel_rfl
 refine⟨if c=i then a else a.map (·.add (i*1)),fun w=>?_,fun w hr=>?_,?_⟩
 ·have:=run_slice_lh (P:=prog) w 31 a n c (by kernel_rfl) .i64 .i64 i j (by omega) (by omega) (by omega);rw[hs] at this;refine this.trans ?_;by_cases h:c=i <;> simp[sliced,h]
 ·by_cases h:c=i
  ·rw[Qdm h];exact .inl (List.eq_nil_of_length_eq_zero (by rw[Qds];omega))
  ·rw[Qdf h];rcases hr with hr|⟨g,off,rfl,hg,hr⟩
   ·exact .inl (by rw[hr];simp)
   ·refine .inr ⟨g,off+i,?_,hg,hr.drop.take⟩;rw[Qf9,Qe2,Addr.add_mid]
 ·split
  ·rfl
  ·cases a <;> simp
theorem WV(a:Option Addr)(n c i:Nat)(hi:i≤n)(hc:n≤c)(l:List UInt8)(hl:l.length=n):
  ∃a':Option Addr,(∀w,(Instr.slice 31 (.slice a n c) (some (.int .i64 i)) none none).run prog w= .ok (.slice a' (n-i) (c-i)) w)∧(∀w,RdS w a l→RdS w a' (l.drop i))∧(a'=none↔a=none):=by
 have hs:∀w:World,(sizeOf (prog.elem 31)).run prog w= .ok 1 w:=fun w=>by kernel_rfl
 refine⟨if c=i then a else a.map (·.add (i*1)),fun w=>?_,fun w hr=>?_,?_⟩
 ·have:=run_slice_l (P:=prog) w 31 a n c (by kernel_rfl) .i64 i (by omega) (by omega);rw[hs] at this;refine this.trans ?_;by_cases h:c=i <;> simp[sliced,h]
 ·by_cases h:c=i
  ·rw[Qdm h];exact .inl (QdY (by omega))
  ·rw[Qdf h];rcases hr with hr|⟨g,off,rfl,hg,hr⟩
   ·exact .inl (by rw[hr];simp)
   ·refine .inr ⟨g,off+i,?_,hg,hr.drop⟩;rw[Qf9,Qe2,Addr.add_mid]
 ·split
  ·rfl
  ·cases a <;> simp
theorem N5(a:Option Addr)(n c most:Nat)(hmost:most≤1000000)(l:List UInt8)(hl:l.length=n)(hc:n≤c)(hn:n≤140737488355328)(hc2:c≤9223372036854775807)(hno:a=none→n=0∧c=0)(w:World)(hr:RdS w a l):
  Calls prog 52 #[.slice a n c,.int .i64 most] w fun e w'=>∃u,e= .returned (.tuple #[u,.int .i64 ((Jq most l).2.1:Nat),.int .i64 ((Jq most l).2.2:Nat)])∧Below w.heap.size w w'∧CloV (Jq most l).1 u w'∧(∀k,u.ownBlock=some k→w.heap.size≤k):=by
 have cB:=Zp a n c most (by omega) l hl hn w hr;have hty:=ZW l most;have hb:Jq most l=if (Qg l most).2.2≠0 then ([],0,(Qg l most).2.2) else if l.length-(Qg l most).2.1<(Qg l most).1 then ([],0,1) else ((l.drop (Qg l most).2.1).take (Qg l most).1,(Qg l most).2.1+(Qg l most).1,0):=rfl
 obtain⟨⟨N,S,E⟩,hG⟩:∃G,G=Qg l most:=⟨_,rfl⟩;rw[←hG] at cB hty hb;simp only at cB hty hb;obtain⟨B,hB⟩:=nE (Jq most l);rw[←hB] at hb ⊢;rw[hl] at hb hty;have hmx:max (most:Int) 0=(most:Int):=by omega
 have hu:=ZY most (by omega);have C:=H5 cB hb hty hr hl;clear cB hb hG hB hty hr hl;have nilc:CloV [] (.slice none 0 0) w:=⟨none,0,rfl,.inl rfl,Qde _,Qdw _,fun _=>⟨rfl,rfl⟩⟩;have NC:=Lib.hid nilc;clear nilc;have most0:¬(most:Int)<0:=by omega
 go_enter func52,ntmps52;go_wp2_with fail;refine C.out.1.mono ?_;rintro e w' ⟨rfl,rfl⟩;by_cases hE:E=0
 ·subst hE;have hb:=C.out.2.1;rw[Qdf (by simp)] at hb;have hNS:=C.out.2.2.1.2 rfl;have N31:=hNS.1;have Sn:=hNS.2;have S9:=C.out.2.2.1.1;by_cases h1:n-S<N
  ·rw[Qdm h1] at hb;have h1i:(n:Int)-(S:Int)<(N:Int):=by omega
   have HB:=Lib.hid hb;clear hb C hNS h1;go_wp2;exact Qdg (v:=.tuple #[.slice none 0 0,.int .i64 0,.int .i64 1]) (by simp[results,results52,go_sem]) rfl ⟨.slice none 0 0,by rw[HB.out];rfl,Below.refl _ _,by rw[HB.out];exact NC.out,fun k h=>by cases h⟩
  ·rw[Qdf h1] at hb;have h1i:¬(n:Int)-(S:Int)<(N:Int):=by omega
   obtain⟨J,hJ⟩:=nE (S+N);have hJi:(S:Int)+(N:Int)=(J:Int):=by omega
   have Jn:J≤n:=by omega
   obtain⟨a',hsl,hsr,hsn⟩:=Te a n c S J (by omega) Jn hc l C.out.2.2.2.2;rw[show J-S=N by omega] at hsl hsr;have hrd:=hsr w' C.out.2.2.2.1;have hlen:((l.drop S).take N).length=N:=by rw[Qds,Qdq,C.out.2.2.2.2];omega
   have cC:=WB a' N (c-S) ((l.drop S).take N) hlen (by omega) (fun h=>by have:=hno (hsn.1 h);omega) w' hrd;have HB:=H4 hb cC hJ hlen;clear hb cC hJ hrd hsr hsn hNS h1 hlen;go_wp2_with fail;refine HB.out.2.1.mono ?_;rintro e w2 ⟨u,rfl,hb2,hu2,hfr⟩;have HU:=H3 hb2 hu2 hfr;clear hb2 hu2 hfr;obtain⟨ua,uc,rfl,_⟩:=HU.out.2.1;go_wp2;exact Qdg (v:=.tuple #[.slice ua ((l.drop S).take N).length uc,.int .i64 (J:Nat),.int .i64 0]) (by simp[results,results52,go_sem]) rfl ⟨_,by rw[HB.out.1,HB.out.2.2.1];rfl,HU.out.1,by rw[HB.out.1];exact HU.out.2.1,fun k h=>by
    cases ua with
    | none=>cases h
    | some ad=>injection h with h;rw[←h];exact HU.out.2.2 ad _ _ rfl⟩
 ·have hEi:¬(E:Int)=0:=by omega
  have hb:=C.out.2.1;rw[Qdm hE] at hb;have HB:=Lib.hid hb;clear hb C;go_wp2;exact Qdg (v:=.tuple #[.slice none 0 0,.int .i64 0,.int .i64 (E:Nat)]) (by simp[results,results52,go_sem]) rfl ⟨.slice none 0 0,by rw[HB.out];rfl,Below.refl _ _,by rw[HB.out];exact NC.out,fun k h=>by cases h⟩
theorem O0(a b:List UInt8):((Xg a).toList==(Xg b).toList)=decide (a=b):=by
 rw[J2,J2,QeE];simp
def Ex(c:List UInt8):Value:=match JH c with|some k=>.tuple #[.int .i64 (k:Nat),.bool true]|none=>.tuple #[.int .i64 0,.bool false]
theorem LP(c:List UInt8)(w:World):Calls prog 25 #[.string (Xg c)] w fun e w'=>e= .returned (Ex c)∧w'=w:=by
 have cN:=fun (k:Nat) (hk:k<11) (w:World)=>TC k w hk;have hv:∀k,k≤11→YR c (11-k) k=JH c→k<11→YR c (11-(k+1)) (k+1)=JH c∨YL k=c:=fun k _ h hk=>by
  rw[show 11-k=(11-(k+1))+1 by omega] at h;unfold YR at h;by_cases e:YL k=c
  ·exact .inr e
  ·rw[Qdf e] at h;exact .inl h
 have hy:∀k,k<11→YR c (11-k) k=JH c→YL k=c→JH c=some k:=fun k hk h e=>by
  rw[←h,show 11-k=(11-(k+1))+1 by omega];unfold YR;rw[Qdm e]
 have hcmp:=fun k=>O0 (YL k) c;obtain⟨S,hS⟩:=nE (Xg c);rw[←hS] at hcmp ⊢;have H:=H4 cN hv hy hcmp;clear cN hv hy hcmp hS;go_enter func25,ntmps25;go_wp2;go_loopw [5] (fun i wr=>∃k:Nat,k≤11∧i= .int .i64 k∧YR c (11-k) k=JH c∧wr=w) (fun i _=>11-(intOf i).toNat)
 case atStart=>exact⟨0,by omega,rfl,rfl,rfl⟩
 case round=>
  obtain⟨k,hk,rfl,hq,rfl⟩:=hrel;by_cases hlt:k<11
  ·have ki:(k:Int)<11:=by omega
   have cN:=H.out.1 k hlt;have hcmp:=H.out.2.2.2 k;obtain⟨NM,hNM⟩:=nE (Xg (YL k));rw[←hNM] at cN hcmp;by_cases e:YL k=c
   ·rw[decide_eq_true e] at hcmp;have K:=H2 cN (H.out.2.2.1 k hlt hq e);clear cN hq e hNM;go_wp2_with fail;refine (K.out.1 _).mono ?_;rintro q w' ⟨rfl,rfl⟩;go_wp2;exact Qdg (v:=.tuple #[.int .i64 (k:Nat),.bool true]) (by simp[results,results25,go_sem]) rfl ⟨by unfold Ex;rw[K.out.2],rfl⟩
   ·rw[decide_eq_false e] at hcmp;have K:=H2 cN ((H.out.2.1 k (by omega) hq hlt).resolve_right e);clear cN hq e hNM;go_wp2_with fail;refine (K.out.1 _).mono ?_;rintro q w' ⟨rfl,rfl⟩;go_wp2;go_roundw
    case rel=>exact⟨k+1,by omega,by go_num,K.out.2,trivial⟩
    case measure=>simp[intOf];omega
  ·obtain rfl:k=11:=by omega
   have K:=Lib.hid hq;clear hq;go_wp2;exact Qdg (v:=.tuple #[.int .i64 0,.bool false]) (by simp[results,results25,go_sem]) rfl ⟨by unfold Ex;rw[←K.out];rfl,rfl⟩
theorem CL(a x s:Nat)(ha:a<2^s)(hx:x<256)(hs:s≤24):bits .or .u32 (a:Int) (IntKind.u32.wrap (IntKind.u32.wrap (x:Int)*2^s))=((a+x*2^s:Nat):Int):=by
 have h24:(2:Nat)^s≤2^24:=Qep (by decide) hs;have hx2:x*2^s≤255*2^24:=Nat.mul_le_mul (by omega) h24;have w1:IntKind.u32.wrap (x:Int)=(x:Int):=by simp[IntKind.wrap,IntKind.signed,IntKind.bits];omega
 have w2:IntKind.u32.wrap ((x:Int)*2^s)=((x*2^s:Nat):Int):=by
  have e:(x:Int)*2^s=((x*2^s:Nat):Int):=by push_cast;rfl
  rw[e];generalize x*2^s=y at *;simp[IntKind.wrap,IntKind.signed,IntKind.bits];omega
 rw[w1,w2];have e2:bits .or .u32 (a:Int) ((x*2^s:Nat):Int)=((a||| (x*2^s):Nat):Int):=u32_or_nat a (x*2^s) (by omega) (by omega);rw[e2];congr 1;rw[Nat.or_comm,←Qf2,←QeZ ha];omega
theorem J6(a:Option Addr)(n c:Nat)(l:List UInt8)(hl:l.length=n)(h4:4≤n)(hn:n≤140737488355328)(w:World)(hr:RdS w a l):
  Calls prog 82 #[.slice a n c] w fun e w'=>e= .returned (.int .u32 (leN l 4:Nat))∧w'=w:=by
 obtain⟨g,off,rfl,hg,hrd⟩:=Zg hr (by omega);have E:=H2 hrd hl;clear hr hl hrd;go_enter func82,ntmps82;go_wp2_with fail;go_loopw [3,5] (fun v i wq=>∃j:Nat,j≤4∧i= .int .i64 j∧v= .int .u32 (leN l j:Nat)∧wq=w) (fun _ i _=>4-(intOf i).toNat)
 case atStart=>exact⟨0,by omega,rfl,rfl,rfl⟩
 case round=>
  obtain⟨j,hj,rfl,rfl,rfl⟩:=hrel;by_cases hlt:j<4
  ·obtain⟨s,hs⟩:=nE (8*j);have hsi2:(8:Int)*(j:Int)=(s:Int):=by omega
   have pn:j<n:=by omega
   have pni:(j:Int)<(n:Int):=by omega
   have s64:s<32:=by omega
   have jk:(j:Int)<4:=by omega
   obtain⟨y,hy⟩:=nE ((l.getD j 0).toNat);have hy8:y<256:=by rw[hy];exact (l.getD j 0).toNat_lt
   have c2:=E.out.1 j (by have:=E.out.2;omega);rw[←hy] at c2;obtain⟨A,hA⟩:=nE (leN l j);have hA2:A<2^s:=by
    have:=XQ l j;rw[hA,hs,Qe3];exact this
   have ev:=CL A y s hA2 hy8 (by omega);have hnx:leN l (j+1)=A+y*2^s:=by
    rw[XC,←hA,←hy,hs,Qe3]
   have hw32:IntKind.u32.wrap (y:Int)=(y:Int):=by simp[IntKind.wrap,IntKind.signed,IntKind.bits];omega
   rw[hw32] at ev;rw[←hA];have HX:=H6 hA hnx ev hy hs hA2;clear hA hnx ev hy hs hA2 hw32;go_wp2;obtain⟨hA,hnx,ev,hy,hs,hA2⟩:=HX.out;go_roundw
   case rel=>exact⟨j+1,by omega,by go_num,by rw[hnx,←ev,IntKind.wrap_u32],trivial⟩
   case measure=>simp[intOf];omega
  ·obtain rfl:j=4:=by omega
   go_wp2;go_ret;exact⟨rfl,rfl⟩
def bz(p:List UInt8)(z:Nat):Array Value:=Qp (p++List.replicate z (0:UInt8))
theorem PP(p:List UInt8)(z:Nat):(bz p z).size=p.length+z:=by unfold bz;rw[XE,Qdj,QeV]
theorem QcU(p:List UInt8)(z:Nat):(bz p z).all (·.oneCell')=true:=Xh _
theorem QcT(p:List UInt8)(z:Nat)(ch:UInt8):(bz p (z+1)).setIfInBounds p.length (.int .u8 (ch.toNat:Int))=bz (p++[ch]) z:=by
 unfold bz Qp;rw[Qfp];simp
theorem Qan(g:Nat)(p:List UInt8)(z n len c:Nat)(hz:4≤z)(h4:4≤len)(hlen:len≤1000)(hp:p.length≤1000)(t:TypeId)(w:World)(hb:Blk w g t (bz p z)):
  Calls prog 72 #[.slice (some ⟨g,p.length,none⟩) len c,.int .u32 n] w fun e w'=>e= .returned (.tuple #[])∧Blk w' g t (bz (p++leK n 4) (z-4))∧Kp (fun k=>k=g) w w':=by
 obtain⟨q,hq⟩:=nE (p.length);rw[←hq];have E:=H2 hb hq;clear hb;rw[←hq] at hp;clear hq;go_enter func72,ntmps72;go_wp2_with fail;go_loopw [5] (fun i wq=>∃j:Nat,j≤4∧i= .int .i64 j∧Blk wq g t (bz (p++leK n j) (z-j))∧Kp (fun k=>k=g) w wq) (fun i _=>4-(intOf i).toNat)
 case atStart=>exact⟨0,by omega,rfl,by rw[Gh,QdF];exact E.out.1,QC (Below.refl _ _)⟩
 case round=>
  obtain⟨j,hj,rfl,hb,hk⟩:=hrel;by_cases hlt:j<4
  ·obtain⟨s,hs⟩:=nE (8*j);have hsi2:(8:Int)*(j:Int)=(s:Int):=by omega
   have pni:(j:Int)<(len:Int):=by omega
   have s64:s<32:=by omega
   have jk:(j:Int)<4:=by omega
   have hv:=J1 n s j hs;obtain⟨ch,hch⟩:=nE (UInt8.ofNat (n/256^j%256));rw[←hch] at hv;obtain⟨y,hy⟩:∃y,z-j=y+1:=⟨z-j-1,by omega⟩;rw[hy] at hb;have c2:wr.cell? ⟨g,q+j,none⟩=some (.int .u8 0):=by
    rw[hb.cell];have hl:(p++leK n j).length=q+j:=by rw[Qdj,Qw,E.out.2]
    unfold bz Qp;rw[←hl];simp[Qfp]
   have f2:=hb.frozen (q+j);have HX:=H5 hb hk hs hch hy;clear hb hk hs hch hy;go_wp2;go_roundw
   case rel=>
    obtain⟨hb,hk,hs,hch,hy⟩:=HX.out;have hl:q+j=(p++leK n j).length:=by rw[Qdj,Qw,E.out.2]
    refine⟨j+1,by omega,by go_num,?_,hk.trans (QN _ _ _ _)⟩;have h:=hb.set_ (q+j) (.int .u8 (ch.toNat:Int));rw[Jl,←hch,←Qd0,show z-(j+1)=y by omega,←QcT,←hl];exact h
   case measure=>simp[intOf];omega
  ·obtain rfl:j=4:=by omega
   have HX:=H2 hb hk;clear hb hk;go_wp2;go_end0;exact⟨rfl,HX.out.1,HX.out.2⟩
def GrowB(B:Nat)(w:World)(v:Value)(w':World)(v':Value):Prop:=Kp (fun k=>k=B∨v.ownBlock=some k) w w'∧(v'.ownBlock=v.ownBlock∨∃k,v'.ownBlock=some k∧w.heap.size≤k)
theorem GrowB.refl(B:Nat)(w:World)(v:Value):GrowB B w v w v:=⟨QC (Below.refl _ _),.inl rfl⟩
theorem GrowB.trans{B:Nat}{a b c:World}{u v x:Value}(hB:B<a.heap.size)(h:GrowB B a u b v)(k:GrowB B b v c x):GrowB B a u c x:=by
 refine⟨⟨Qdx h.1.1 k.1.1,fun i hi hx=>?_,k.1.2.2.1.trans h.1.2.2.1,k.1.2.2.2.1.trans h.1.2.2.2.1,k.1.2.2.2.2.trans h.1.2.2.2.2⟩,?_⟩
 ·refine (k.1.2.1 i (Qdr hi h.1.1) fun e=>?_).trans (h.1.2.1 i hi hx);rcases e with e|e
  ·exact hx (.inl e)
  ·rcases h.2 with h2|⟨j,h2,h3⟩
   ·exact hx (.inr (h2.symm.trans e))
   ·rw[h2] at e;injection e with e
    omega
 ·rcases k.2 with k2|⟨j,k2,k3⟩
  ·rw[k2];exact h.2
  ·exact .inr ⟨j,k2,Qdx h.1.1 k3⟩
theorem GrowB.of_below{w w':World}(B:Nat)(h:Below w.heap.size w w')(v:Value):GrowB B w v w' v:=⟨QC h,.inl rfl⟩
theorem GrowB.of_grow{w w':World}{v v':Value}(B:Nat)(h:Grow w v w' v'):GrowB B w v w' v':=⟨(Yw h.1).mono fun k hk=>.inr hk.symm,h.2⟩
theorem GrowB.of_set(B:Nat)(w:World)(v u:Value):GrowB B w v (w.setCell ⟨B,0,none⟩ u) v:=⟨(QN w B 0 u).mono fun k hk=>.inl hk,.inl rfl⟩
theorem GrowB.size{B:Nat}{w w':World}{v v':Value}(h:GrowB B w v w' v'):w.heap.size≤w'.heap.size:=h.1.1
theorem GrowB.below{B b:Nat}{w0 w w':World}{v v':Value}(h:GrowB B w v w' v')(hb:Below b w0 w)(h1:b≤w.heap.size)(h2:b≤B)(h3:∀k,v.ownBlock=some k→b≤k):Below b w0 w':=
 h.1.below hb h1 fun k hk e=>by
  rcases e with e|e
  ·omega
  ·have:=h3 k e;omega
theorem GrowB.blk{B:Nat}{w w':World}{v v':Value}(h:GrowB B w v w' v'){g:Nat}{t:TypeId}{cs:Array Value}(hb:Blk w g t cs)(h1:g≠B)(h2:v.ownBlock≠some g):Blk w' g t cs:=
 h.1.blk hb fun e=>e.elim h1 h2
theorem GrowB.off{B:Nat}{w w':World}{v v':Value}(h:GrowB B w v w' v'){g:Nat}(hg:g<w.heap.size)(hne:v.ownBlock≠some g):v'.ownBlock≠some g:=by
 rcases h.2 with h2|⟨j,h2,h3⟩
 ·rw[h2];exact hne
 ·rw[h2];intro e;injection e with e
  omega
def TxB(B base m:Nat)(xs:List UInt8)(v:Value)(w:World):Prop:=Blk w B 31 #[v]∧w.ownsRow base 5 1 v m (xs.map fun c=>Value.int .u8 (c.toNat:Int))∧v.ownBlock≠some B∧base≤B
theorem TxB.calls{B base m:Nat}{xs:List UInt8}{v:Value}{w w':World}(h:TxB B base m xs v w)(hb:Below w.heap.size w w'):TxB B base m xs v w':=⟨h.1.calls hb,Xa h.2.1 hb,h.2.2⟩
theorem TxB.size{B base m:Nat}{xs:List UInt8}{v:Value}{w:World}(h:TxB B base m xs v w):base≤w.heap.size:=Qdx h.2.2.2 (QeM h.1.lt)
theorem TxB.from{B base m:Nat}{xs:List UInt8}{v:Value}{w:World}(h:TxB B base m xs v w):∀k,v.ownBlock=some k→base≤k:=fun k hk=>(h.2.1.lt k hk).1
theorem TxB.put{B base m m':Nat}{xs xs':List UInt8}{v v':Value}{w w':World}(h:TxB B base m xs v w)(hg:Grow w v w' v')(ho:w'.ownsRow base 5 1 v' m' (xs'.map fun c=>Value.int .u8 (c.toNat:Int))):TxB B base m' xs' v' (w'.setCell ⟨B,0,none⟩ v')∧GrowB B w v (w'.setCell ⟨B,0,none⟩ v') v':=by
 have h1:Blk w' B 31 #[v]:=hg.blk h.1 h.2.2.1;have h2:v'.ownBlock≠some B:=hg.off h.1.lt h.2.2.1;refine⟨⟨(h1.set_ 0 v').to rfl,Hf ho (QN w' B 0 v') fun g hgv e=>h2 (by rw[hgv,e]),h2,h.2.2.2⟩,?_⟩;exact (GrowB.of_grow B hg).trans h.1.lt (GrowB.of_set B w' v' v')
section
variable {P:Program} {Q:Exit→Act→World→Prop} {o:Oper} {A:Act} {w:World} {u:Value}
theorem Qcw(t r:TypeId)(x y:Operand)(k yk:IntKind)(m n s:Int)(ho:o.op= .binOp .shr t x y r)(hx:A.eval x= .int k m)(hy:A.eval y= .int yk n)(h0:0≤n)(h1:n≤k.bits)(hs:m/2^n.toNat=s):o.wp P A w (fun a' w''=>a'=A.put o.dst (.int k s)∧Below w.heap.size w w'') Q:=by
 have hrun:(binOp .shr t (.int k m) (.int yk n)).run P w= .ok (.int k s) w:=by
  rw[binOp_shr,shift_shr k yk m n h0 h1,hs];rfl
 refine Xe ?_;generalize A.eval=ρ at *;unfold execOp;simp only[ho,hx,hy,eqGuard_shr,Qdl,Qd1,Qdi,hrun]
end
def QbF(B:Nat)(ch:Int)(u:Value)(w:World):Prop:=∃g,u= .slice (some ⟨g,0,none⟩) 1 1∧B≤g∧Blk w g 5 #[.int .u8 ch]
theorem CX(B:Nat)(ch:Int):VW (QbF B ch):=fun u w1 w2 ⟨g,h1,h2,h3⟩ hb=>⟨g,h1,h2,h3.calls hb⟩
theorem g_bs1{Q:Exit→Act→World→Prop}{o:Oper}{A:Act}{w0 w:World}(x:Operand)(ch:Int)(ho:o.op= .buildSlice 31 1 #[(0,x)])(hx:A.eval x= .int .u8 ch)(hb:Below w0.heap.size w0 w):
  o.wp prog A w (fun a' w''=>∃u,a'=A.put o.dst u∧Below w.heap.size w w''∧QbF w0.heap.size ch u w'') Q:=by
 have hr:=Zm ch w;unfold Oper.wp execOp;have hp:(#[(0,x)].map fun (y:Nat×Operand)=>(y.1,A.eval y.2))=#[(0,Value.int .u8 ch)]:=by simp[hx]
 simp only[ho,Qdl];rw[show (#[(0,x)].map fun (i,x)=>(i,A.eval x))=#[(0,Value.int .u8 ch)] from hp,hr];exact⟨_,rfl,ba (Below.refl _ _) _,_,rfl,hb.size,Blk.new _ _ _⟩
theorem Oq(x b:Int)(h:x%256=b)(w:World):(convert 23 5 (.int .u64 x)).run prog w= .ok (.int .u8 b) w:=by
 subst h;go_simp;rw[IntKind.wrap_u8]
theorem JU(B base m:Nat)(xs:List UInt8)(n k:Nat)(hk:k≤8)(hm:m≤1000000000)(v:Value)(w:World)(h:TxB B base m xs v w):
  Calls prog 126 #[.int .u64 n,.int .i64 k,.pointer (some ⟨B,0,none⟩)] w fun e w'=>e= .returned (.tuple #[])∧∃u,TxB B base (m+k) (xs++leK n k) u w'∧GrowB B w v w' u:=by
 obtain⟨i0,hi,hz0',hz1',hz2'⟩:=info_parts (show (prog.info? 5).map (fun i=>(i.zero,i.size,i.bytes))=some (some (.int .u8 0),1,1) by kernel_rfl);have J:=H4 hi hz0' hz1' hz2';clear hi hz0' hz1' hz2';have O:=Lib.hid h;clear h;go_enter func126,ntmps126;go_wp2;go_loopw [7] (fun i wr=>∃(j:Nat) (u:Value),j≤k∧i= .int .i64 j∧TxB B base (m+j) (xs++leK n j) u wr∧GrowB B w v wr u) (fun i _=>k-(intOf i).toNat)
 case atStart=>exact⟨0,v,Qdw _,rfl,by rw[Gh,QdF];exact O.out,GrowB.refl _ _ _⟩
 case round=>
  obtain⟨j,u,hj,rfl,hT,hG⟩:=hrel;obtain⟨a4,c4,rfl⟩:=Qh hT.2.1;by_cases hlt:j<k
  ·obtain⟨s,hs⟩:=nE (8*j);have s64:s<64:=by omega
   have jk:(j:Int)<(k:Int):=by omega
   have hv:=J1 n s j hs;obtain⟨ch,hch⟩:=nE (UInt8.ofNat (n/256^j%256));rw[←hch] at hv;have hcv:∀w',(convert 23 5 (.int .u64 ((n:Int)/(2:Int)^s))).run prog w'= .ok (.int .u8 ch.toNat) w':=fun w'=>Oq _ _ hv w';have K:=H2 hcv hch;clear hcv hch hv;have T:=H2 hG hT;clear hT hG;go_wp2;refine Zf 7 [some 10,some 11,some 12,some 13,some 14,some 15,some 16,some 17,none] (FL [EqV (.slice a4 (m+j) c4),EqV (.int .u64 n),EqV (.int .i64 j),EqV (.int .i64 s),EqV (.int .u64 ((n:Int)/(2:Int)^s)),EqV (.int .u8 ch.toNat),
     QbF wr.heap.size (ch.toNat:Int)
    ]) (QO ⟨Qa _,Qa _,Qa _,Qa _,Qa _,Qa _,CX _ _,trivial⟩) (by kernel_rfl) rfl rfl rfl rfl rfl (by kernel_rfl) ⟨.inr ⟨gk0 rfl,fun A w' γ hb hF hs=>Qd (Qq 31 (.tmp 2) rfl _ ((hs.2 2 rfl).trans rfl) _ ((T.out.2.1.calls hb).cell 0) _ underlying31 rfl)⟩,.inr ⟨gk0 rfl,fun A w' γ hb hF hs=>Qd (Qe (.tmp 0) (.inl rfl) ((hs.2 0 rfl).trans rfl))⟩,.inr ⟨gk0 rfl,fun A w' γ hb hF hs=>Qd (Qe (.tmp 5) (.inl rfl) ((hs.2 5 rfl).trans rfl))⟩,.inr ⟨gk0 rfl,fun A w' γ hb hF hs=>Qd (Qcy _ _ _ _ .i64 8 j s rfl rfl ((hs.1 2 rfl 12 rfl).trans (hF 2 rfl)) (by rw[IntKind.wrap_i64];omega))⟩,.inr ⟨gk0 rfl,fun A w' γ hb hF hs=>Qd (Qcw _ _ _ _ .u64 .i64 n s ((n:Int)/(2:Int)^s) rfl ((hs.1 1 rfl 11 rfl).trans (hF 1 rfl)) ((hs.1 3 rfl 13 rfl).trans (hF 3 rfl)) (by omega) (by show (s:Int)≤64;omega) rfl)⟩,.inr ⟨gk0 rfl,fun A w' γ hb hF hs=>Qd (PM 23 5 (.tmp 14) rfl ((hs.1 4 rfl 14 rfl).trans (hF 4 rfl)) (K.out.1 _))⟩,.inr ⟨gk0 rfl,fun A w' γ hb hF hs=>g_bs1 _ _ rfl ((hs.1 5 rfl 15 rfl).trans (hF 5 rfl)) hb⟩,trivial⟩ ?_
   intro γ wx hb hF;have ez0:γ 0= .slice a4 (m+j) c4:=hF 0 (by decide);have ez1:γ 1= .int .u64 n:=hF 1 (by decide);have ez2:γ 2= .int .i64 j:=hF 2 (by decide);have ez3:γ 3= .int .i64 s:=hF 3 (by decide);have ez4:γ 4= .int .u64 ((n:Int)/(2:Int)^s):=hF 4 (by decide);have ez5:γ 5= .int .u8 ch.toNat:=hF 5 (by decide);have hp6:(QbF wr.heap.size (ch.toNat:Int)) (γ 6) wx:=hF 6 (by decide);simp only[List.take,List.drop,Fr,QdC,Act.put,Qdh,Qdy,Qdz,Nat.reduceAdd];rw[ez0,ez1,ez2,ez3,ez4,ez5];clear ez0 ez1 ez2 ez3 ez4 ez5 hF;obtain⟨gn,hgn,hgb,hgB⟩:=hp6;rw[hgn];have T2:=T.out.2.calls hb;have bsz:=T2.size;have c0:wx.cell? ⟨gn,0,none⟩=some (.int .u8 ch.toNat):=(hgB.cell 0).trans rfl;have G2:=T.out.1.trans (show B<w.heap.size from O.out.1.lt) (GrowB.of_below B hb _);have K2:=H5 T2 G2 c0 hs K.out.2;clear T2 G2 c0 hgn hgb hgB hs K T hb;go_wp2_with (at_builtin;refine Ec K2.out.1.2.1 rfl _ _ 31 rfl underlying31 i0 J.out.1 J.out.2.1 J.out.2.2.1 J.out.2.2.2 rfl gn 1 ch rfl K2.out.2.2.1 (by omega) bsz ?_);intro v5 w5 o5 g5;obtain⟨a5,c5,rfl⟩:=Qh o5;replace o5:w5.ownsRow base 5 1 (.slice a5 (m+j+1) c5) (m+j+1) ((xs++leK n j++[ch]).map fun c=>Value.int .u8 (c.toNat:Int)):=by simpa[Qd0] using o5
   have B5:=g5.blk K2.out.1.1 K2.out.1.2.2.1;have c5':w5.cell? ⟨B,0,none⟩=some (.slice a4 (m+j) c4):=(B5.cell 0).trans rfl;have f5:=B5.frozen 0;have Z:=TxB.put K2.out.1 g5 o5;have Z2:=H2 Z.1 (K2.out.2.1.trans O.out.1.lt Z.2);clear Z g5 o5 B5;go_wp2;go_roundw
   case rel=>
    refine⟨j+1,_,by omega,by go_num,?_,Z2.out.2⟩;have h:=Z2.out.1;rw[Jl,←K2.out.2.2.2.2,←Qd0];exact h
   case measure=>simp[intOf];omega
  ·obtain rfl:j=k:=by omega
   have Q:=H2 hT hG;clear hT hG;go_wp2;go_end0;exact⟨rfl,_,Q.out.1,Q.out.2⟩
def BV(B:Nat)(l:List UInt8)(u:Value)(w:World):Prop:=CloV l u w∧∀k,u.ownBlock=some k→B≤k
theorem Jk(B:Nat)(l:List UInt8):VW (BV B l):=fun u w1 w2 h hb=>⟨h.1.keep hb,h.2⟩
theorem Qbr(n:Nat)(h:n≤9223372036854775807)(w:World):(convert 3 23 (.int .i64 n)).run prog w= .ok (.int .u64 n) w:=by
 go_simp;exact ZY n h
theorem Pg(B base m:Nat)(xs:List UInt8)(n:Nat)(hn:n≤1000000000)(hm:m≤1000000000)(v:Value)(w:World)(h:TxB B base m xs v w):
  Calls prog 127 #[.int .i64 n,.pointer (some ⟨B,0,none⟩)] w fun e w'=>e= .returned (.tuple #[])∧∃u,TxB B base (m+QI n) (xs++QE n) u w'∧GrowB B w v w' u:=by
 obtain⟨i0,hi,hz0',hz1',hz2'⟩:=info_parts (show (prog.info? 5).map (fun i=>(i.zero,i.size,i.bytes))=some (some (.int .u8 0),1,1) by kernel_rfl);have J:=H4 hi hz0' hz1' hz2';clear hi hz0' hz1' hz2';obtain⟨va,vc,rfl⟩:=Qh h.2.1;have T:=H2 h (Qbr n (by omega));clear h;have hs9:=Xp n;have hpl:=Xd n;obtain⟨S,hS⟩:=nE (QI n);rw[←hS] at hpl hs9 ⊢;clear hS;go_enter func127,ntmps127;go_wp2;refine Zf 4 [some 3,some 4,some 5,some 6,some 7,none] (FL [EqV (.slice va m vc),EqV (.int .i64 n),EqV (.int .u64 n),
   BV w.heap.size (QE n)
  ]) (QO ⟨Qa _,Qa _,Qa _,Jk _ _,trivial⟩) (by kernel_rfl) rfl rfl rfl rfl rfl (by kernel_rfl) ⟨.inr ⟨gk0 rfl,fun A w' γ hb hF hs=>Qd (Qq 31 (.tmp 1) rfl _ ((hs.2 1 rfl).trans rfl) _ ((T.out.1.calls hb).1.cell 0) _ underlying31 rfl)⟩,.inr ⟨gk0 rfl,fun A w' γ hb hF hs=>Qd (Qe (.tmp 0) (.inl rfl) ((hs.2 0 rfl).trans rfl))⟩,.inr ⟨gk0 rfl,fun A w' γ hb hF hs=>Qd (PM 3 23 (.tmp 4) rfl ((hs.1 1 rfl 4 rfl).trans (hF 1 rfl)) (T.out.2 _))⟩,.inr ⟨gk0 rfl,fun A w' γ hb hF hs=>GT 125 #[.slice none 0 0,.int .u64 n] (QH _ 125 #[.slice none 0 0,.int .u64 n] rfl rfl (Jj rfl ((hs.1 2 rfl 5 rfl).trans (hF 2 rfl))) func125 rfl rfl) (((GC n (by omega) _).mono fun e w2 ⟨u,he,hb2,hc,ho,_⟩=>⟨u,he,hb2,hc,fun k hk=>Qdx hb.size (ho k hk)⟩))⟩,trivial⟩ ?_
 intro γ wx hb hF;have ez0:γ 0= .slice va m vc:=hF 0 (by decide);have ez1:γ 1= .int .i64 n:=hF 1 (by decide);have ez2:γ 2= .int .u64 n:=hF 2 (by decide);have hp3:(BV w.heap.size (QE n)) (γ 3) wx:=hF 3 (by decide);simp only[List.take,List.drop,Fr,QdC,Act.put,Qdh,Qdy,Qdz,Nat.reduceAdd];rw[ez0,ez1,ez2];clear ez0 ez1 ez2 hF;obtain⟨⟨a1,c1,hg1,r1,r2,r3,r4⟩,hfr⟩:=hp3;rw[hg1];have T2:=T.out.1.calls hb;have bsz:=T2.size;rw[hpl] at r2 r4 ⊢;have K2:=H5 T2 (GrowB.of_below B hb (.slice va m vc)) r1 hpl T.out.1.1.lt;clear T2 hg1 T hb r1 hpl hfr;go_wp2_with (at_builtin;refine PH K2.out.1.2.1 rfl _ _ 31 rfl underlying31 i0 J.out.1 J.out.2.1 J.out.2.2.1 J.out.2.2.2 rfl a1 S c1 (QE n) rfl K2.out.2.2.1 K2.out.2.2.2.1 r4 (by omega) bsz ?_);intro v5 w5 o5 g5;obtain⟨a5,c5,rfl⟩:=Qh o5;replace o5:w5.ownsRow base 5 1 (.slice a5 (m+S) c5) (m+S) ((xs++QE n).map fun c=>Value.int .u8 (c.toNat:Int)):=by simpa[Qd0] using o5
 have B5:=g5.blk K2.out.1.1 K2.out.1.2.2.1;have c5':w5.cell? ⟨B,0,none⟩=some (.slice va m vc):=(B5.cell 0).trans rfl;have f5:=B5.frozen 0;have Z:=TxB.put K2.out.1 g5 o5;have Z2:=H2 Z.1 (K2.out.2.1.trans K2.out.2.2.2.2 Z.2);clear Z g5 o5 B5;go_wp2;go_end0;exact⟨rfl,_,Z2.out.1,Z2.out.2⟩
theorem TF(B C base m:Nat)(xs:List UInt8)(a:Option Addr)(n c:Nat)(l:List UInt8)(hl:l.length=n)(hn:n≤1000000)(hno:a=none→n=0∧c=0)(hm:m≤900000000)(v:Value)(w:World)(h:TxB B base m xs v w)(hC:Blk w C 250 #[.func (.func 127) #[] #[.pointer (some ⟨B,0,none⟩)]])(hCB:C≠B)(hCv:v.ownBlock≠some C)(hr:RdS w a l)(hlow:l≠[]→∀ad,a=some ad→ad.block≠B∧v.ownBlock≠some ad.block):
  Calls prog 128 #[.slice a n c,.pointer (some ⟨C,0,none⟩),.pointer (some ⟨B,0,none⟩)] w fun e w'=>e= .returned (.tuple #[])∧∃u,TxB B base (m+QI n+n) (xs++(QE n++l)) u w'∧GrowB B w v w' u:=by
 obtain⟨i0,hi,hz0',hz1',hz2'⟩:=info_parts (show (prog.info? 5).map (fun i=>(i.zero,i.size,i.bytes))=some (some (.int .u8 0),1,1) by kernel_rfl);have J:=H4 hi hz0' hz1' hz2';clear hi hz0' hz1' hz2';have hs9:=Xp n;have cP:=Pg B base m xs n (by omega) (by omega) v w h;have cC:w.cell? ⟨C,0,none⟩=some (.func (.func 127) #[] #[.pointer (some ⟨B,0,none⟩)]):=(hC.cell 0).trans rfl;obtain⟨S,hS⟩:=nE (QI n);obtain⟨P,hP⟩:=nE (QE n);rw[←hS,←hP] at cP;rw[←hS] at hs9;rw[←hS,←hP];have T:=H5 h cP hr hl hlow;clear h cP hr hl hlow hS hP;go_enter func128,ntmps128;go_wp2_with fail;refine T.out.2.1.mono ?_;rintro e w2 ⟨rfl,u,hT2,hG2⟩;obtain⟨ua,uc,rfl⟩:=Qh hT2.2.1;have r2:RdS w2 a l:=by
  rcases T.out.2.2.1 with h|⟨g,off,h1,h2,h3⟩
  ·exact .inl h
  ·refine .inr ⟨g,off,h1,Qdr h2 hG2.size,fun i hi=>?_⟩;have hne:=T.out.2.2.2.2 (fun e=>by rw[e] at hi;simp at hi) _ h1;exact (Qf5 (a:=⟨g,off+i,none⟩) (hG2.1.2.1 g h2 fun e=>e.elim hne.1 hne.2)).trans (h3 i hi)
 have c2:w2.cell? ⟨B,0,none⟩=some (.slice ua (m+S) uc):=(hT2.1.cell 0).trans rfl;have f2:=hT2.1.frozen 0;have bsz:=hT2.size;have K2:=H3 hT2 hG2 r2;clear hT2 hG2 r2 cC hC;go_wp2_with (at_builtin;refine PH K2.out.1.2.1 rfl _ _ 31 rfl underlying31 i0 J.out.1 J.out.2.1 J.out.2.2.1 J.out.2.2.2 rfl a n c l rfl K2.out.2.2 T.out.2.2.2.1 hno (by omega) bsz ?_);intro v5 w5 o5 g5;obtain⟨a5,c5,rfl⟩:=Qh o5;replace o5:w5.ownsRow base 5 1 (.slice a5 (m+S+n) c5) (m+S+n) ((xs++P++l).map fun c=>Value.int .u8 (c.toNat:Int)):=by simpa[Qd0] using o5
 have B5:=g5.blk K2.out.1.1 K2.out.1.2.2.1;have c5':w5.cell? ⟨B,0,none⟩=some (.slice ua (m+S) uc):=(B5.cell 0).trans rfl;have f5:=B5.frozen 0;have Z:=TxB.put K2.out.1 g5 o5;have Z2:=H2 Z.1 (K2.out.2.1.trans T.out.1.1.lt Z.2);clear Z g5 o5 B5 c2 f2;go_wp2;go_end0;exact⟨rfl,_,by rw[←Qd0];exact Z2.out.1,Z2.out.2⟩
end Go.Proofs.YthdaabapiicnhaaGreatDoor
