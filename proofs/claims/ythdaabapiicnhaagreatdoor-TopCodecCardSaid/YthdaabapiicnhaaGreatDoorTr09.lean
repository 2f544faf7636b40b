/- Steps of the proof. -/
import Derived.Maps.AppendAt
import Derived.Great.BuildSlice
import Derived.Great.FillDense
import Derived.Test.YthdaabapiicnhaaGreatDoorTr08
set_option linter.all false
set_option maxRecDepth 100000
set_option maxHeartbeats 4000000
open Go.Proofs.Tryz
namespace Go.Proofs.YthdaabapiicnhaaGreatDoor
open Go.RowKit
def RdV(W:World)(a:Option Addr)(cs:List Value):Prop:=cs=[]∨∃g o,a=some ⟨g,o,none⟩∧g<W.heap.size∧W.rangeAt g o cs
theorem QY{B:Nat}{w w':World}{b o:Nat}{r:List Value}(h:w.rangeAt b o r)(hb:Below B w w')(hB:b<B):w'.rangeAt b o r:=fun j v hv=>by
 rw[hb.cell (p:=⟨b,o+j,none⟩) hB];exact h j v hv
theorem RdV.below{B:Nat}{w w':World}{a:Option Addr}{cs:List Value}(h:RdV w a cs)(hb:Below B w w')(hB:w.heap.size≤B):RdV w' a cs:=by
 rcases h with h|⟨g,o,h1,h2,h3⟩
 ·exact .inl h
 ·exact .inr ⟨g,o,h1,Qdr h2 hb.size,QY h3 hb (Qdr h2 hB)⟩
theorem RdV.calls{w w':World}{a:Option Addr}{cs:List Value}(h:RdV w a cs)(hb:Below w.heap.size w w'):RdV w' a cs:=h.below hb (Qde _)
def SlV{α:Type}(f:α→List Value)(L:List α)(v:Value)(w:World):Prop:=∃(a:Option Addr) (c:Nat),v= .slice a L.length c∧RdV w a (L.flatMap f)∧L.length≤c∧c≤maxLen∧(a=none→L.length=0∧c=0)
theorem SlV.calls{α:Type}{f:α→List Value}{L:List α}{v:Value}{w w':World}(h:SlV f L v w)(hb:Below w.heap.size w w'):SlV f L v w':=by
 obtain⟨a,c,h1,h2,h3⟩:=h;exact⟨a,c,h1,h2.calls hb,h3⟩
theorem SlV.nil{α:Type}(f:α→List Value)(w:World):SlV f [] (.slice none 0 0) w:=⟨none,0,rfl,.inl rfl,Qde _,Qdw _,fun _=>⟨rfl,rfl⟩⟩
theorem Gq{α:Type}{f:α→List Value}{k:Nat}:∀{L:List α},(∀x∈L,(f x).length=k)→∀{i j:Nat} {x:α},L[i]? =some x→j<k→(L.flatMap f)[i*k+j]? =(f x)[j]?
 | [],_,i,j,x,h,_=>by simp at h
 | y::L,hk,0,j,x,h,hj=>by
  obtain rfl:y=x:=by simpa using h
  rw[QeK,QfD,Qd5,Qd3 (by rw[hk y (by simp)];exact hj)]
 | y::L,hk,i+1,j,x,h,hj=>by
  rw[Qd2] at h;rw[QeK,QdB (by rw[hk y (by simp),Qff];omega),hk y (by simp),show (i+1)*k+j-k=i*k+j by rw[Qff];omega];exact Gq (fun x hx=>hk x (by simp[hx])) h hj
theorem Gp{α:Type}{f:α→List Value}{k:Nat}:∀{L:List α},(∀x∈L,(f x).length=k)→(L.flatMap f).length=L.length*k
 | [],_=>by simp
 | y::L,hk=>by rw[QeK,Qdj,hk y (by simp),Gp (fun x hx=>hk x (by simp[hx])),QdL,Qff];omega
theorem SlV.at{α:Type}{f:α→List Value}{L:List α}{k:Nat}(hk:∀x∈L,(f x).length=k){a:Option Addr}{n c:Nat}{w:World}(h:SlV f L (.slice a n c) w){i:Nat}{x:α}(hi:L[i]? =some x)(hk0:0<k):
  ∃g o,a=some ⟨g,o,none⟩∧g<w.heap.size∧w.rangeAt g (o+i*k) (f x):=by
 obtain⟨a',c',e,h2,_⟩:=h;injection e with e1 e2 e3
 subst e1;have hil:i<L.length:=(Qdt.1 hi).1;rcases h2 with h2|⟨g,o,h3,h4,h5⟩
 ·have:=Gp hk;rw[h2] at this;have h0:0<L.length*k:=Nat.mul_pos (by omega) hk0;simp only[Qe7] at this;omega
 ·refine⟨g,o,h3,h4,fun j v hv=>?_⟩;have hj:j<k:=by
   have h1:=(Qdt.1 hv).1;rw[hk x (QdT hi)] at h1;exact h1
  rw[Qeb];exact h5 (i*k+j) v (by rw[Gq hk hi hj];exact hv)
theorem SlV.len{α:Type}{f:α→List Value}{L:List α}{a:Option Addr}{n c:Nat}{w:World}(h:SlV f L (.slice a n c) w):n=L.length:=by
 obtain⟨a',c',e,_⟩:=h;injection e
theorem Wj{α:Type}{f:α→List Value}{L:List α}{w:World}{base k n:Nat}{e:TypeId}{v:Value}(hn:L.length=n)(h:w.ownsRow base e k v n (L.flatMap f)):SlV f L v w:=by
 subst hn;obtain⟨h0,⟨hv,hz⟩|⟨g,cap,cur,hv,hb,hg,q1,q2,q3,q4⟩⟩:=h
 ·refine⟨none,0,by rw[hv,hz],.inl (QdO.1 (by rw[h0,hz,QfD])),by omega,Qdw _,fun _=>⟨hz,rfl⟩⟩
 ·refine⟨some ⟨g,0,none⟩,cap,hv,.inr ⟨g,0,rfl,(show Blk w g _ cur from hg).lt,fun j u hu=>?_⟩,q1,q2,fun h=>by cases h⟩;rw[Qd5];refine Qz (show Blk w g _ cur from hg) j _ ?_;rw[←q4,QeP] at hu;split at hu
  ·simpa using hu
  ·cases hu
theorem Ya{w:World}{base k:Nat}{e:TypeId}{v:Value}{n:Nat}{xs:List Value}(h:w.ownsRow base e k v n xs):∃a c,v= .slice a n c:=by
 obtain⟨_,⟨rfl,rfl⟩|⟨g,cap,_,rfl,_⟩⟩:=h
 ·exact⟨_,_,rfl⟩
 ·exact⟨_,_,rfl⟩
theorem Zi{w w':World}{base k:Nat}{e:TypeId}{v:Value}{n:Nat}{xs:List Value}(h:w.ownsRow base e k v n xs)(hb:Below w.heap.size w w'):w'.ownsRow base e k v n xs:=
 h.kept (row:=none) ⟨hb.os,hb.tape,hb.output,hb.size,fun k hk _=>hb.block k hk⟩ (by cases hv:v.ownBlock <;> simp)
theorem PG{P:Program}{α:Type}{f:α→List Value}{L:List α}{w:World}{ops:Array Oper}{rest:List Oper}{o:Oper}{a:Act}{Q:Exit→Act→World→Prop}{base size bytes n:Nat}{e:TypeId}{v:Value}(hown:w.ownsRow base e size v n (L.flatMap f)){g:Nat}{x:α}(hb:Blk w g e (f x).toArray)
  (hgd:o.guard=none) (s y:Operand) (t:TypeId) (ho:o.op= .call {callee:=.builtin .append,args:=#[s,y],argTypes:=#[t,t]}) (ht:P.underlying t=some (.slice e)) (i:TypeInfo) (z:Value) (hi:P.info? e=some i) (hz:i.zero=some z) (hsize:i.size=size) (hby:i.bytes=bytes) (hzs:z.cells.size=size) (hsz:0<size)
  (hlen:(f x).length=size) (h1:∀u∈f x,u.oneCell'=true) (hs:a.eval s=v) (hx:a.eval y= .slice (some ⟨g,0,none⟩) 1 1) (hn:n≤1000000) (hbb:bytes≤10000) (hbase:base≤w.heap.size)
  (k:∀v' w',w'.ownsRow base e size v' (n+1) ((L++[x]).flatMap f)→w.grownBy w' v.ownBlock→wpList P ops Q rest (a.put o.dst v') w'):wpList P ops Q (o::rest) a w:=by
 refine wpList_append_own_at w hgd s y t ho base e i z size bytes ht hi hz hsize hby hzs hsz v n (L.flatMap f) hs hown ⟨g,0,none⟩ 1 1 (f x) hx (by rw[hlen,Nat.one_mul]) (fun j u hu=>?_) h1 (by unfold maxLen;omega) ?_ hbase fun v' w' h3 h4 h5 h6=>?_
 ·rw[Addr.add_mid,Qd5];exact Qz hb j _ (by rw[Qdp];exact hu)
 ·have:(n+1)*bytes≤1000001*10000:=Nat.mul_le_mul (by omega) hbb;omega
 ·refine k v' w' ?_ h4;rw[Qek];simpa using h3
theorem Dr{P:Program}(w:World)(t e:TypeId)(C:Array Value)(ie:TypeInfo)(z:Value)(hu:P.underlying t=some (.slice e))(hie:P.info? e=some ie)(hz:ie.zero=some z)(hs:ie.size=C.size)(h0:0<C.size)(hsm:C.size≤16777216):
  (Instr.buildSlice t 1 #[(0,.agg C)]).run P w= .ok (.slice (some ⟨w.heap.size,0,none⟩) 1 1) (w.alloc (.cells C e)):=by
 refine _root_.Go.run_buildSlice w t e 1 _ C ie z hu hie hz (by omega) (by omega) ?_;rw[hs];have h:=_root_.Go.Great.fill_whole h0 [.agg C] ((Array.range (1*C.size)).map (z.cells[· % z.cells.size]!)) (fun v hv=>by obtain rfl:=QeG.1 hv;rfl) (by simp);have e:(([Value.agg C].zipIdx 0).map fun x=>(x.2,x.1))=(#[(0,Value.agg C)]:Array (Nat×Value)).toList:=rfl;rw[e] at h;rw[h];simp[Value.cells]
theorem TN{P:Program}{w:World}{ops:Array Oper}{rest:List Oper}{o:Oper}{a:Act}{Q:Exit→Act→World→Prop}(t e:TypeId)(C:Array Value)(ie:TypeInfo)(z:Value)(hu:P.underlying t=some (.slice e))(hie:P.info? e=some ie)(hz:ie.zero=some z)(hs:ie.size=C.size)(h0:0<C.size)(hsm:C.size≤16777216)
  (hgd:o.guard=none) (x:Operand) (ho:o.op= .buildSlice t 1 #[(0,x)]) (hx:a.eval x= .agg C) (k:wpList P ops Q rest (a.put o.dst (.slice (some ⟨w.heap.size,0,none⟩) 1 1)) (w.alloc (.cells C e))):wpList P ops Q (o::rest) a w:=by
 refine QfB hgd fun _ hK=>?_;have h:=Dr w t e C ie z hu hie hz hs h0 hsm;have hp:(#[(0,x)].map fun (y:Nat×Operand)=>(y.1,a.eval y.2))=#[(0,Value.agg C)]:=by simp[hx]
 unfold Oper.wp execOp;simp only[ho,Qdl];rw[show (#[(0,x)].map fun (i,x)=>(i,a.eval x))=#[(0,Value.agg C)] from hp,h];exact hK _ _ k
end Go.Proofs.YthdaabapiicnhaaGreatDoor
namespace Go.Proofs.YthdaabapiicnhaaGreatDoor
def leK(n k:Nat):List UInt8:=(List.range k).map fun i=>UInt8.ofNat (n/256^i%256)
theorem Qw(n k:Nat):(leK n k).length=k:=by simp[leK]
theorem Gh(n:Nat):leK n 0=[]:=rfl
theorem Jl(n k:Nat):leK n (k+1)=leK n k++[UInt8.ofNat (n/256^k%256)]:=by
 unfold leK;rw[List.range_succ,QdR];rfl
theorem Sr(n k i:Nat)(h:i<k):(leK n k).getD i 0=UInt8.ofNat (n/256^i%256):=by
 unfold leK;simp[List.getD,h]
theorem Wp{l m:List UInt8}{k:Nat}(h:∀i,i<k→l.getD i 0=m.getD i 0):leN l k=leN m k:=by
 induction k with
 | zero=>rfl
 | succ k ih=>rw[XC,XC,ih fun i hi=>h i (by omega),h k (by omega)]
theorem NQ{l r:List UInt8}{i:Nat}(h:i<l.length):(l++r).getD i 0=l.getD i 0:=by
 simp[List.getD,Qd3 h]
theorem QaY(n k:Nat):leN (leK n k) k=n%256^k:=by
 induction k with
 | zero=>rw[MO,QfQ,Nat.mod_one]
 | succ k ih=>
  have e:leN (leK n (k+1)) k=leN (leK n k) k:=Wp fun i hi=>by rw[Sr n (k+1) i (by omega),Sr n k i hi]
  rw[XC,e,ih,Sr n (k+1) k (by omega)];have h1:(UInt8.ofNat (n/256^k%256)).toNat=n/256^k%256:=by simp[Qfw]
  rw[h1,QfC,Nat.mod_mul,Qf0]
theorem Eu(n k:Nat)(r:List UInt8)(h:n<256^k):leN (leK n k++r) k=n:=by
 rw[Wp (m:=leK n k) fun i hi=>NQ (by rw[Qw];exact hi),QaY,Qez h]
theorem Vi(l:List UInt8)(k:Nat)(h:k≤l.length):leK (leN l k) k=l.take k:=by
 apply Qfd
 ·rw[Qw,Qds];omega
 ·intro i h1 h2;have hi:i<k:=by rw[Qw] at h1;exact h1
  have e1:(leK (leN l k) k)[i]=(leK (leN l k) k).getD i 0:=by simp[List.getD,h1]
  have e2:l[i]'(by omega)=l.getD i 0:=by simp[List.getD,(show i<l.length by omega)]
  rw[e1,Sr _ _ _ hi,List.getElem_take,e2];apply Qfu.1;rw[MN l k i hi];have:=(l.getD i 0).toNat_lt;simp[Qfw,Qez this]
def QI(n:Nat):Nat:=if n<253 then 1 else if n≤65535 then 3 else if n≤4294967295 then 5 else 9
def QA(m:Nat):Nat:=if m=253 then 2 else if m=254 then 4 else if m=255 then 8 else 0
def QE(n:Nat):List UInt8:=if n<253 then [UInt8.ofNat n] else if n≤65535 then 253::leK n 2 else if n≤4294967295 then 254::leK n 4 else 255::leK n 8
theorem Xd(n:Nat):(QE n).length=QI n:=by
 unfold QE QI;split
 ·rfl
 ·split
  ·rw[QdL,Qw]
  ·split <;> rw[QdL,Qw]
theorem Xp(n:Nat):1≤QI n∧QI n≤9:=by
                               unfold QI;split;· omega
                               ·split;· omega
                                ·split <;> omega
def Zq(l:List UInt8):Nat×Nat×Nat:=
 if l.length=0 then (0,0,1)
 else if QA (l.getD 0 0).toNat=0 then ((l.getD 0 0).toNat,1,0)
 else if l.length<1+QA (l.getD 0 0).toNat then (0,0,1)
 else if QI (leN (l.drop 1) (QA (l.getD 0 0).toNat))≠1+QA (l.getD 0 0).toNat then (0,0,2)
 else (leN (l.drop 1) (QA (l.getD 0 0).toNat),1+QA (l.getD 0 0).toNat,0)
theorem Oh(n:Nat)(r:List UInt8)(h:n<18446744073709551616):Zq (QE n++r)=(n,QI n,0):=by
 have hl:(QE n++r).length=QI n+r.length:=by rw[Qdj,Xd]
 have hp:=Xp n;unfold Zq;rw[Qdf (by omega)];by_cases h1:n<253
 ·have e:QE n=[UInt8.ofNat n]:=by unfold QE;rw[Qdm h1]
  have e0:((QE n++r).getD 0 0).toNat=n:=by rw[e];simp[List.getD,Qfw];omega
  have hs:QI n=1:=by unfold QI;rw[Qdm h1]
  have hb:QA n=0:=by unfold QA;rw[Qdf (by omega),Qdf (by omega),Qdf (by omega)]
  rw[e0,Qdm hb,hs]
 ·have key:∀(m k:Nat) (q:UInt8),QE n=q::leK n k→q.toNat=m→QA m=k→k≠0→n<256^k→QI n=1+k→(if QA ((QE n++r).getD 0 0).toNat=0 then (((QE n++r).getD 0 0).toNat,1,0)
    else if (QE n++r).length<1+QA ((QE n++r).getD 0 0).toNat then (0,0,1)
    else if QI (leN ((QE n++r).drop 1) (QA ((QE n++r).getD 0 0).toNat))≠1+QA ((QE n++r).getD 0 0).toNat then (0,0,2)
    else (leN ((QE n++r).drop 1) (QA ((QE n++r).getD 0 0).toNat),1+QA ((QE n++r).getD 0 0).toNat,0))=(n,QI n,0):=by
   intro m k q e hq hb hk hn hs;have e0:((QE n++r).getD 0 0).toNat=m:=by rw[e,Qe0];simpa[List.getD] using hq
   have ed:(QE n++r).drop 1=leK n k++r:=by rw[e,Qe0];rfl
   rw[e0,hb,ed,Eu n k r hn,Qdf hk,Qdf (by omega),Qdf (by omega),hs]
  by_cases h2:n≤65535
  ·exact key 253 2 253 (by unfold QE;rw[Qdf h1,Qdm h2]) rfl rfl (by decide) (by omega) (by unfold QI;rw[Qdf h1,Qdm h2])
  ·by_cases h3:n≤4294967295
   ·exact key 254 4 254 (by unfold QE;rw[Qdf h1,Qdf h2,Qdm h3]) rfl rfl (by decide) (by omega) (by unfold QI;rw[Qdf h1,Qdf h2,Qdm h3])
   ·exact key 255 8 255 (by unfold QE;rw[Qdf h1,Qdf h2,Qdf h3]) rfl rfl (by decide) (by omega) (by unfold QI;rw[Qdf h1,Qdf h2,Qdf h3])
theorem Dz(m:Nat)(h:QA m=0):m<253∨255<m:=by
 unfold QA at h;split at h
 ·cases h
 ·split at h
  ·cases h
  ·split at h
   ·cases h
   ·omega
theorem Wz(l:List UInt8)(h:l.length≠0):l=l.getD 0 0::l.drop 1:=by
 cases l with
 | nil=>exact absurd rfl h
 | cons x t=>rfl
theorem RQ{l:List UInt8}{n s:Nat}(h:Zq l=(n,s,0)):n<18446744073709551616∧s=QI n∧s≤l.length∧l=QE n++l.drop s:=by
 unfold Zq at h;split at h
 ·injection h with h1 h2;injection h2 with h2 h3;cases h3
 rename_i h0;have hx:=(l.getD 0 0).toNat_lt;split at h
 ·rename_i hb;injection h with h1 h2
  injection h2 with h2 h3
  subst h1 h2;have hlt:(l.getD 0 0).toNat<253:=by have:=Dz _ hb;omega
  refine⟨by omega,by unfold QI;rw[Qdm hlt],by omega,?_⟩;have e:QE (l.getD 0 0).toNat=[l.getD 0 0]:=by unfold QE;rw[Qdm hlt];simp
  rw[e,Qe0,QdU];exact Wz l h0
 rename_i hb;split at h
 ·injection h with h1 h2;injection h2 with h2 h3;cases h3
 rename_i hs;split at h
 ·injection h with h1 h2;injection h2 with h2 h3;cases h3
 rename_i hz;injection h with h1 h2
 injection h2 with h2 h3
 subst h1 h2;have hz':=Classical.not_not.1 hz;have hd:QA (l.getD 0 0).toNat≤(l.drop 1).length:=by rw[Qdq];omega
 have hlt:=XQ (l.drop 1) (QA (l.getD 0 0).toNat);have hk:=Vi (l.drop 1) _ hd;have key:∀(m k:Nat),(l.getD 0 0).toNat=m→QA m=k→(QE (leN (l.drop 1) k)=UInt8.ofNat m::leK (leN (l.drop 1) k) k)→k≤8→
   leN (l.drop 1) (QA (l.getD 0 0).toNat)<18446744073709551616∧1+QA (l.getD 0 0).toNat=QI (leN (l.drop 1) (QA (l.getD 0 0).toNat))∧1+QA (l.getD 0 0).toNat≤l.length∧l=QE (leN (l.drop 1) (QA (l.getD 0 0).toNat))++l.drop (1+QA (l.getD 0 0).toNat):=by
  intro m k hm hbk hp hk8;have e0:l.getD 0 0=UInt8.ofNat m:=by rw[←hm];simp
  rw[hm,hbk] at hlt hk hz' hs hd ⊢;refine⟨?_,hz'.symm,by omega,?_⟩
  ·have:256^k≤256^8:=Qep (by decide) hk8;omega
  ·rw[hp,hk,←e0,Qe0,←Qei,QeU];exact Wz l h0
 have hbs:∀m,QA m≠0→m=253∨m=254∨m=255:=fun m hne=>by
  unfold QA at hne;split at hne
  ·omega
  ·split at hne
   ·omega
   ·split at hne
    ·omega
    ·exact absurd rfl hne
 rcases hbs _ hb with hm|hm|hm
 ·refine key 253 2 hm rfl ?_ (by decide);rw[hm] at hz';have hz2:QI (leN (l.drop 1) 2)=3:=hz';unfold QE;unfold QI at hz2;split at hz2
  ·cases hz2
  ·rename_i h1;split at hz2
   ·rename_i h2;rw[Qdf h1,Qdm h2];rfl
   ·split at hz2 <;> cases hz2
 ·refine key 254 4 hm rfl ?_ (by decide);rw[hm] at hz';have hz2:QI (leN (l.drop 1) 4)=5:=hz';unfold QE;unfold QI at hz2;split at hz2
  ·cases hz2
  ·rename_i h1;split at hz2
   ·cases hz2
   ·rename_i h2;split at hz2
    ·rename_i h3;rw[Qdf h1,Qdf h2,Qdm h3];rfl
    ·cases hz2
 ·refine key 255 8 hm rfl ?_ (by decide);rw[hm] at hz';have hz2:QI (leN (l.drop 1) 8)=9:=hz';unfold QE;unfold QI at hz2;split at hz2
  ·cases hz2
  ·rename_i h1;split at hz2
   ·cases hz2
   ·rename_i h2;split at hz2
    ·cases hz2
    ·rename_i h3;rw[Qdf h1,Qdf h2,Qdf h3];rfl
def Qg(l:List UInt8)(most:Nat):Nat×Nat×Nat:=
 if (Zq l).2.2≠0 then (0,0,(Zq l).2.2) else if most<(Zq l).1∨2147483647<(Zq l).1 then (0,0,3) else Zq l
theorem Ds(n:Nat)(r:List UInt8)(most:Nat)(h:n≤most)(h2:n≤2147483647):Qg (QE n++r) most=(n,QI n,0):=by
 have e:=Oh n r (by omega);unfold Qg;rw[e,Qdf (by simp),Qdf (by simp;omega)]
theorem YI{l:List UInt8}{most n s:Nat}(h:Qg l most=(n,s,0)):n≤most∧n≤2147483647∧s=QI n∧s≤l.length∧l=QE n++l.drop s:=by
 unfold Qg at h;split at h
 ·rename_i h1;injection h with h2 h3;injection h3 with h3 h4;exact absurd h4 h1
 ·split at h
  ·injection h with h2 h3;injection h3 with h3 h4;cases h4
  ·rename_i h2;have h3:=RQ h;rw[h] at h2;simp only at h2;exact⟨by omega,by omega,h3.2⟩
end Go.Proofs.YthdaabapiicnhaaGreatDoor
namespace Go.Proofs.YthdaabapiicnhaaGreatDoor
open Go.RowKit
theorem TG(n:Nat)(h:n<18446744073709551616)(w:World):Calls prog 161 #[.int .u64 n] w fun e w'=>e= .returned (.int .i64 (QI n:Nat))∧w'=w:=by
 have hs:QI n=if n<253 then 1 else if n≤65535 then 3 else if n≤4294967295 then 5 else 9:=rfl
 obtain⟨S,hS⟩:=nE (QI n);rw[←hS] at hs ⊢;clear hS;by_cases h1:n<253
 ·rw[Qdm h1] at hs;subst hs;have h1':(n:Int)<253:=by omega
  clear h;go_enter func161,ntmps161;go_wp2;go_ret;exact⟨rfl,rfl⟩
 ·rw[Qdf h1] at hs;by_cases h2:n≤65535
  ·rw[Qdm h2] at hs;subst hs;have h1':¬(n:Int)<253:=by omega
   have h2':(n:Int)≤65535:=by omega
   clear h;go_enter func161,ntmps161;go_wp2;go_ret;exact⟨rfl,rfl⟩
  ·rw[Qdf h2] at hs;by_cases h3:n≤4294967295
   ·rw[Qdm h3] at hs;subst hs;have h2':¬(n:Int)≤65535:=by omega
    have h3':(n:Int)≤4294967295:=by omega
    go_enter func161,ntmps161;go_wp2;go_ret;exact⟨rfl,rfl⟩
   ·rw[Qdf h3] at hs;subst hs;have h3':¬(n:Int)≤4294967295:=by omega
    go_enter func161,ntmps161;go_wp2;go_ret;exact⟨rfl,rfl⟩
theorem Dy(m:Nat)(w:World):Calls prog 160 #[.int .u8 m] w fun e w'=>e= .returned (.int .i64 (QA m:Nat))∧w'=w:=by
 by_cases h1:m=253
 ·subst h1;go_enter func160,ntmps160;go_wp2;go_ret;exact⟨rfl,rfl⟩
 by_cases h2:m=254
 ·subst h2;go_enter func160,ntmps160;go_wp2;go_ret;exact⟨rfl,rfl⟩
 by_cases h3:m=255
 ·subst h3;go_enter func160,ntmps160;go_wp2;go_ret;exact⟨rfl,rfl⟩
 have e:QA m=0:=by unfold QA;rw[Qdf h1,Qdf h2,Qdf h3]
 have h1':¬(m:Int)=253:=by omega
 have h2':¬(m:Int)=254:=by omega
 have h3':¬(m:Int)=255:=by omega
 rw[e];clear e h1 h2 h3;go_enter func160,ntmps160;go_wp2;go_ret;exact⟨rfl,rfl⟩
theorem Zg{w:World}{a:Option Addr}{l:List UInt8}(h:RdS w a l)(hl:l.length≠0):∃g off,a=some ⟨g,off,none⟩∧g<w.heap.size∧Rd w g off l:=by
 rcases h with h|h
 ·rw[h] at hl;exact absurd rfl hl
 ·exact h
theorem Qau(a:Option Addr)(n c:Nat)(l:List UInt8)(hl:l.length=n)(hn:n≤140737488355328)(w:World)(hr:RdS w a l):
  Calls prog 124 #[.slice a n c] w fun e w'=>e= .returned (.tuple #[.int .u64 ((Zq l).1:Nat),.int .i64 ((Zq l).2.1:Nat),.int .i64 ((Zq l).2.2:Nat)])∧w'=w:=by
 by_cases h0:n=0
 ·have e:Zq l=(0,0,1):=by unfold Zq;rw[Qdm (by omega)]
  rw[e];subst h0;clear hr e hl;go_enter func124,ntmps124;go_wp2;exact Qdg (v:=.tuple #[.int .u64 0,.int .i64 0,.int .i64 1]) (by simp[results,results124,go_sem]) rfl ⟨rfl,rfl⟩
 obtain⟨g,off,rfl,hg,hrd⟩:=Zg hr (by omega);obtain⟨x,hx⟩:=nE ((l.getD 0 0).toNat);have hx8:x<256:=by rw[hx];exact (l.getD 0 0).toNat_lt
 obtain⟨k,hk⟩:=nE (QA x);have hk8:k≤8:=by
             rw[hk];unfold QA;split;· omega
             ·split;· omega
              ·split <;> omega
 have c0:w.cell? ⟨g,off,none⟩=some (.int .u8 x):=by have:=hrd 0 (by omega);rw[Qea,←hx] at this;exact this
 have cB:=fun w=>Dy x w;rw[←hk] at cB;have e1:Zq l=if k=0 then (x,1,0) else if n<1+k then (0,0,1) else if QI (leN (l.drop 1) k)≠1+k then (0,0,2) else (leN (l.drop 1) k,1+k,0):=by
  rw[hk,hx,←hl];unfold Zq;rw[Qdf (by omega)]
 have h0i:¬(n:Int)=0:=by omega
 have h1i:(0:Int)<(n:Int):=by omega
 have u64x:IntKind.u64.wrap (x:Int)=(x:Int):=Ye x (by omega);have B:=H5 cB e1 hrd hl hk;clear cB e1 hrd hl hk hr hx;go_enter func124,ntmps124;go_wp2_with fail;refine (B.out.1 _).mono ?_;rintro e w' ⟨rfl,rfl⟩;by_cases hk0:k=0
 ·have e1:=B.out.2.1;rw[Qdm hk0] at e1;subst hk0;have E:=Lib.hid e1;clear B e1;go_wp2;exact Qdg (v:=.tuple #[.int .u64 x,.int .i64 1,.int .i64 0]) (by simp[results,results124,go_sem]) rfl ⟨by rw[E.out];rfl,rfl⟩
 have hk0i:¬(k:Int)=0:=by omega
 by_cases hs:n<1+k
 ·have e1:=B.out.2.1;rw[Qdf hk0,Qdm hs] at e1;have hsi:(n:Int)<1+(k:Int):=by omega
  have E:=Lib.hid e1;clear B e1;go_wp2;exact Qdg (v:=.tuple #[.int .u64 0,.int .i64 0,.int .i64 1]) (by simp[results,results124,go_sem]) rfl ⟨by rw[E.out];rfl,rfl⟩
 have hsi:¬(n:Int)<1+(k:Int):=by omega
 go_wp2_with fail;go_loopw [6,27] (fun v i wq=>∃j:Nat,j≤k∧i= .int .i64 j∧v= .int .u64 (leN (l.drop 1) j:Nat)∧wq=w') (fun _ i _=>k-(intOf i).toNat)
 case atStart=>exact⟨0,by omega,rfl,rfl,rfl⟩
 case round=>
  obtain⟨j,hj,rfl,rfl,rfl⟩:=hrel;by_cases hlt:j<k
  ·obtain⟨p,hp⟩:=nE (1+j);obtain⟨s,hs⟩:=nE (8*j);have hpi:(1:Int)+(j:Int)=(p:Int):=by omega
   have hsi2:(8:Int)*(j:Int)=(s:Int):=by omega
   have pn:p<n:=by omega
   have pni:(p:Int)<(n:Int):=by omega
   have s64:s<64:=by omega
   have jk:(j:Int)<(k:Int):=by omega
   obtain⟨y,hy⟩:=nE ((l.getD p 0).toNat);have hy8:y<256:=by rw[hy];exact (l.getD p 0).toNat_lt
   have c2:=B.out.2.2.1 p (by have:=B.out.2.2.2.1;omega);rw[←hy] at c2;obtain⟨A,hA⟩:=nE (leN (l.drop 1) j);have hA2:A<2^s:=by
    have:=XQ (l.drop 1) j;rw[hA,hs,Qe3];exact this
   have ev:=Gc A y s hA2 hy8 (by omega);have hnx:leN (l.drop 1) (j+1)=A+y*2^s:=by
    rw[XC,←hA,JK,←hp,←hy,hs,Qe3]
   rw[←hA];have HX:=H7 hA hnx ev hy hs hp hA2;clear hA hnx ev hy hs hp hA2;go_wp2;obtain⟨hA,hnx,ev,hy,hs,hp,hA2⟩:=HX.out;go_roundw
   case rel=>exact⟨j+1,by omega,by go_num,by rw[hnx,←ev,Ye y (by omega)],trivial⟩
   case measure=>simp[intOf];omega
  ·obtain rfl:j=k:=by omega
   obtain⟨N,hN⟩:=nE (leN (l.drop 1) j);have hN64:N<18446744073709551616:=by
    have h1:=XQ (l.drop 1) j;have h2:(256:Nat)^j≤256^8:=Qep (by decide) hk8;omega
   have cS:=fun w=>TG N hN64 w;obtain⟨S,hS⟩:=nE (QI N);rw[←hS] at cS;rw[←hN];have e1:=B.out.2.1;rw[Qdf hk0,Qdf hs,←hN,←hS] at e1;have CS:=H2 cS e1;clear cS e1 hN hS hj;go_wp2_with fail;refine (CS.out.1 _).mono ?_;rintro e w' ⟨rfl,rfl⟩;by_cases hq:S=1+j
   ·have hqi:(S:Int)=1+(j:Int):=by omega
    have e1:=CS.out.2;rw[Qdf (Qeh hq)] at e1;obtain⟨z,hz⟩:=nE (1+j);have hzi:1+(j:Int)=(z:Int):=by omega
    rw[←hz] at e1;have E:=Lib.hid e1;clear CS e1 B hz hq;go_wp2;exact Qdg (v:=.tuple #[.int .u64 N,.int .i64 z,.int .i64 0]) (by simp[results,results124,go_sem]) rfl ⟨by rw[E.out];rfl,rfl⟩
   ·have hqi:¬(S:Int)=1+(j:Int):=by omega
    have e1:=CS.out.2;rw[Qdm hq] at e1;have E:=Lib.hid e1;clear CS e1 B;go_wp2;exact Qdg (v:=.tuple #[.int .u64 0,.int .i64 0,.int .i64 2]) (by simp[results,results124,go_sem]) rfl ⟨by rw[E.out];rfl,rfl⟩
def ME(D:Nat)(W2:World)(Post:World→Prop):Exit→Act→World→Prop
 | .normal,_,W3=>W3.heap[D+1]? =W2.heap[D+1]?∧W3.heap[D]? =W2.heap[D]?∧Post W3
 | _,_,_=>False
def Rb(D:Nat)(ps:Array Tmp)(assign body:Code)(tmps:Array Value)(args:Array Value)(W:World)(Post:World→Prop):Prop:=
 ∀m,assign.wpIn (Fence.wide.inRound (D+1)) m prog (Exit.then (fun a1 W1=>Kp (fun _=>False) W W1∧∀W2,Kp (fun k=>k=D+1) W1 W2→body.wpIn (Fence.wide.inRound (D+1)) m prog (ME D W2 Post) a1 W2) (fun _ _ _=>False))
  {tmps:=(ps.zip args).foldl (fun t (p,v)=>t.setIfInBounds p v) tmps,defers:=[]} W
theorem Cx{g:Operand}{ps:Array Tmp}{assign body:Code}{Q:Exit→Act→World→Prop}{a:Act}{w:World}{n:Nat}(h6:6≤n)(magic:Nat)(hm:magic<4294967296)(K:Nat)(hK:K≤4000000)(Bm Bc Bb:Nat)(hBb:Bb<w.heap.size)
  (hg:a.eval g= .func (.func 217) #[] #[.pointer (some ⟨Bm,0,none⟩),.pointer (some ⟨Bc,0,none⟩),.pointer (some ⟨Bb,0,none⟩)]) (hps:ps.size=2)
  (I:List UInt8→World→Prop) (J:List UInt8→Nat→World→Prop) (Fn:World→Prop)
  (kI:∀rest W W',I rest W→Kp (fun k=>k=w.heap.size+1) W W'→I rest W') (kJ:∀rest k W W',J rest k W→Kp (fun k=>k=w.heap.size+1) W W'→J rest k W') (kF:∀W W',Fn W→Kp (fun k=>k=w.heap.size+1) W W'→Fn W')
  (hI:∀rest W,I rest W→W.cell? ⟨Bm,0,none⟩=some (.int .u32 magic)∧W.cell? ⟨Bc,0,none⟩=some (.int .i64 K)∧Laid W∧∃a c,W.cell? ⟨Bb,0,none⟩=some (.slice a rest.length c)∧RdS W a rest∧rest.length≤c∧(rest.length≤140737488355328∧c≤9223372036854775807)∧(a=none→rest.length=0∧c=0))
  (hyes:∀rest W0 W c p u,I rest W0→w.heap.size+1<W0.heap.size→Below W0.heap.size W0 W→XA magic K rest= .yes c p→CloV p u W→(∀ad n c,u= .slice (some ad) n c→W0.heap.size≤ad.block)→Rb w.heap.size ps assign body a.tmps #[.agg (NO c u),.int .i64 0] W (fun W3=>J rest (24+p.length) W3))
  (hJ:∀rest k W,J rest k W→∃a c,W.cell? ⟨Bb,0,none⟩=some (.slice a rest.length c)∧W.frozen? ⟨Bb,0,none⟩=false∧rest.length≤c∧c≤9223372036854775807∧I (rest.drop k) (W.setCell ⟨Bb,0,none⟩ (.slice (if c=k then a else Option.map (fun x=>x.add k) a) (rest.length-k) (c-k))))
  (hno:∀rest W e,I rest W→w.heap.size+1<W.heap.size→XA magic K rest= .no e→Rb w.heap.size ps assign body a.tmps #[.agg #[.string ⟨#[]⟩,.slice none 0 0],.int .i64 (e:Nat)] W Fn)
  (rest0:List UInt8) (h0:I rest0 w)
  (hdone:∀W,Fn W→W.heap[w.heap.size]? =some (.deferred (some []))→Q .normal {a with defers:={target:=.collected w.heap.size,args:=#[]}::a.defers} W):
  (Code.rangeFunc g ps assign body).wpIn Fence.wide n prog Q a w:=by
 refine wpIn_rangeFunc ?_;intro fn hfn;show ∃_,_;obtain⟨rec,hrec⟩:∃rec:LoopState→Option Code→Loop,rec=fun st pe=>{state:=st,pending:=pe,fn,tmps:=a.tmps,params:=ps,assign,body,defers:=w.heap.size}:=⟨_,rfl⟩;obtain⟨W1,hW1⟩:∃W1,(w.alloc (.deferred (some []))).alloc (.loop (rec .ready none))=W1:=⟨_,rfl⟩;have hL1:W1.heap[w.heap.size+1]? =some (.loop (rec .ready none)):=by
  rw[←hW1];have:=World.alloc_heap_new (w.alloc (.deferred (some []))) (.loop (rec .ready none));rwa [Qdu] at this
 have hK1:W1.heap[w.heap.size]? =some (.deferred (some [])):=by
  rw[←hW1];exact (Below.heap_alloc _ _ _ (by simp)).trans (World.alloc_heap_new w _)
 have hI1:I rest0 W1:=kI _ _ _ h0 (by rw[←hW1];exact (Xt _ _ _).trans (Xt _ _ _));refine⟨w.heap.size+1,[{target:=.collected w.heap.size,args:=#[]}],W1,{target:=.fn (.func 217) #[.pointer (some ⟨Bm,0,none⟩),.pointer (some ⟨Bc,0,none⟩),.pointer (some ⟨Bb,0,none⟩)],args:=#[.func (.yield (w.heap.size+1)) #[] #[]]},W1,217,
  #[.func (.yield (w.heap.size+1)) #[] #[],.pointer (some ⟨Bm,0,none⟩),.pointer (some ⟨Bc,0,none⟩),.pointer (some ⟨Bb,0,none⟩)],W1,?_,?_,?_,?_,fun hh=>(by cases hh),?_⟩
 ·rw[←hW1,hrec];exact run_enterLoop_outer _ _ _ _ _
 ·simp only[resolve,hg];simp[go_sem]
 ·intro f' hf';trivial
 ·simp[invoke,go_sem]
 ·have round:∀(args:Array Value) (W:World) (Post:World→Prop),args.size=2→W.heap[w.heap.size+1]? =some (.loop (rec .ready none))→W.heap[w.heap.size]? =some (.deferred (some []))→(∀W W',Post W→Kp (fun k=>k=w.heap.size+1) W W'→Post W')→
    Rb w.heap.size ps assign body a.tmps args W Post→YieldAt Fence.wide (n-1-1) prog (w.heap.size+1) args W fun e W'=>e= .returned (.bool true)∧Post W'∧W'.heap[w.heap.size+1]? =some (.loop (rec .ready none))∧W'.heap[w.heap.size]? =some (.deferred (some [])):=by
   intro args W Post hsz hl hk hP hr;have hy:=run_yield (P:=prog) (args:=args) hl (by rw[hrec];exact hsz.trans hps.symm);rw[hrec] at hy;refine⟨fn,_,assign,body,hy,roundIn_of_wpIn trivial (wpIn_mono (hr _) ?_)⟩;rintro e a1 W2 hp;cases e with
   | normal=>
    obtain⟨hkp,hb⟩:=hp;have hl2:=hkp.obj hl (fun h=>h);have hk2:=hkp.obj hk (fun h=>h);have hlt:w.heap.size+1<W2.heap.size:=(QdQ.1 hl2).1;refine⟨_,run_beginRound hl2 (by rw[hrec]),wpIn_mono (hb _ (KL _ _ _)) ?_⟩;have hl3:(W2.putObj (w.heap.size+1) (.loop {rec .ready none with state:=.busy})).heap[w.heap.size+1]? =some (.loop {rec .ready none with state:=.busy}):=World.putObj_heap_same hlt;have hk3:(W2.putObj (w.heap.size+1) (.loop {rec .ready none with state:=.busy})).heap[w.heap.size]? =some (.deferred (some [])):=(World.putObj_heap_other (by omega)).trans hk2;rintro e3 a3 W3 hp3;cases e3 with
    | normal=>
     obtain⟨e1,e2,hpost⟩:=hp3;have hl4:=e1.trans hl3;have hend:=run_endRound (P:=prog) none hl4;refine⟨_,_,hend,rfl,hP _ _ hpost (KL _ _ _),?_,(World.putObj_heap_other (by omega)).trans (e2.trans hk3)⟩;rw[World.putObj_heap_same (QdQ.1 hl4).1,hrec];rfl
    | ret=>exact hp3.elim
    | exit id=>exact hp3.elim
    | goto t=>exact hp3.elim
    | panic ch=>exact hp3.elim
    | outgrown=>exact hp3.elim
   | ret=>exact hp.elim
   | exit id=>exact hp.elim
   | goto t=>exact hp.elim
   | panic ch=>exact hp.elim
   | outgrown=>exact hp.elim
  refine (Qai magic hm K hK Bm Bc Bb (w.heap.size+1) (n-1) (by omega)
   (fun rest W=>I rest W∧W.heap[w.heap.size+1]? =some (.loop (rec .ready none))∧W.heap[w.heap.size]? =some (.deferred (some [])))
   (fun rest k W=>J rest k W∧W.heap[w.heap.size+1]? =some (.loop (rec .ready none))∧W.heap[w.heap.size]? =some (.deferred (some [])))
   (fun W=>Fn W∧W.heap[w.heap.size+1]? =some (.loop (rec .ready none))∧W.heap[w.heap.size]? =some (.deferred (some [])))
   (fun rest W h=>hI rest W h.1)
   (fun rest W W' h hb=>⟨kI _ _ _ h.1 (QC hb),(QC (X:=fun _=>False) hb).obj h.2.1 (fun h=>h),(QC (X:=fun _=>False) hb).obj h.2.2 (fun h=>h)⟩)
   (fun rest W0 W c p u h hb hg' hu hf=>(round _ W _ rfl ((QC (X:=fun _=>False) hb).obj h.2.1 (fun h=>h)) ((QC (X:=fun _=>False) hb).obj h.2.2 (fun h=>h)) (fun A B hA hB=>kJ _ _ _ _ hA hB) (hyes rest W0 W c p u h.1 (QdQ.1 h.2.1).1 hb hg' hu hf)))
   (fun rest k W h=>by
    obtain⟨a2,c2,x1,x2,x3,x4,x5⟩:=hJ rest k W h.1;exact⟨a2,c2,x1,x2,x3,x4,x5,(Below.heap_setCell W ⟨Bb,0,none⟩ _ _ (by show _≠Bb;omega)).trans h.2.1,(Below.heap_setCell W ⟨Bb,0,none⟩ _ _ (by show _≠Bb;omega)).trans h.2.2⟩)
   (fun rest W e h hg'=>(round _ W _ rfl h.2.1 h.2.2 (fun A B hA hB=>kF _ _ hA hB) (hno rest W e h.1 (QdQ.1 h.2.1).1 hg')))
   rest0 W1 ⟨hI1,hL1,hK1⟩).mono ?_
  rintro e W2 ⟨⟨v,rfl⟩,hF,hl,hk⟩;exact⟨none,_,by have:=run_endLoop (P:=prog) hl (by rw[hrec];simp);rw[hrec] at this;exact this,hdone _ (kF _ _ hF (KL _ _ _)) ((World.putObj_heap_other (by omega)).trans hk)⟩
end Go.Proofs.YthdaabapiicnhaaGreatDoor
