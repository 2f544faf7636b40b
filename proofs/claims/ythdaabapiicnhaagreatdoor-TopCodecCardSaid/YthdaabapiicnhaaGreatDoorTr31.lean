/- Steps of the proof. -/
import Derived.Scope
import Derived.Test.YthdaabapiicnhaaGreatDoorTr30
set_option linter.all false
set_option maxRecDepth 100000
set_option maxHeartbeats 4000000
open Go.Proofs.Tryz
namespace Go.Proofs.YthdaabapiicnhaaGreatDoor.Av
open Go.RowKit
theorem Tu(m:Nat):∀(r c:Nat),Builtin.growBy m r c≤max c (2*m+192)
 | 0,c=>Nat.le_max_left _ _
 | r+1,c=>by
  unfold Builtin.growBy;split
  ·exact Nat.le_max_left _ _
  ·have:=Tu m r (c+(c+768)/4);omega
theorem CV{need old:Nat}(h:old<need):Builtin.nextslicecap need old≤2*need+192:=by
 unfold Builtin.nextslicecap;split
 ·omega
 ·split
  ·omega
  ·have:=Tu need 4 old;omega
def Tq:TypeDesc→Bool
 | .int _=>true
 | _=>false
theorem WI{P:Program}{w:World}{ts:Array TypeId}{tt t e:TypeId}{i:TypeInfo}{x':Value}{n len c:Nat}{g o:Nat}{cs:Array Value}(ht:ts[0]? =some t)(hd:P.underlying t=some (.slice e))(hi:P.info? e=some i)
  (hz:∃t1 d1,ts[1]? =some t1∧P.underlying t1=some d1∧Tq d1=false) (hn:(Builtin.lenOf x').run P w= .ok n w) (hc:(Builtin.firstCells i.size n x').run P w= .ok cs w) (hle:len+n≤c)
  {b:Array Value} {tb:TypeId} (hb:w.heap[g]? =some (.cells b tb (0,0))) (hr:o+len*i.size+cs.size≤b.size) (h1:∀v∈cs.toList,v.oneCell'=true):
  (Builtin.append_ ts tt #[.slice (some ⟨g,o,none⟩) len c,x']).run P w= .ok (.slice (some ⟨g,o,none⟩) (len+n) c) (w.setRow g (b.toList.take (o+len*i.size)++cs.toList++b.toList.drop (o+len*i.size+cs.toList.length)).toArray):=by
 obtain⟨t1,d1,hz1,hz2,hz3⟩:=hz;cases d1 <;> first|(cases hz3;done)|skip
 all_goals
  unfold Builtin.append_;simp only[ht,Qdp,Qe6,Qd2,Qdl,Qd6 hd,Qdi,run_sizeOf w hi,Qu hi,hz1,Qd6 hz2,Qd1,QdN,QdV,hn,Qfc,QdC];rw[Qdm hle];simp only[Qdl,hc,Qdi,VR];rw[Jc hb (by simpa using hr) h1];rfl
theorem Jd{P:Program}{w:World}{ts:Array TypeId}{tt t e:TypeId}{i:TypeInfo}{x' z:Value}{n len c:Nat}{a:Option Addr}{cs old:Array Value}(ht:ts[0]? =some t)(hd:P.underlying t=some (.slice e))(hi:P.info? e=some i)
  (hz:∃t1 d1,ts[1]? =some t1∧P.underlying t1=some d1∧Tq d1=false) (hn:(Builtin.lenOf x').run P w= .ok n w) (hc:(Builtin.firstCells i.size n x').run P w.drew= .ok cs w.drew) (hle:c<len+n)
  (ho:(Builtin.firstCells i.size len (.slice a len c)).run P w.drew= .ok old w.drew) (hb:(2*(len+n)+192)*i.bytes≤281474976710656) (hb2:len+n≤281474976710656) (hzz:(zeroValue e).run P w.drew= .ok z w.drew):
  ∃cap,len+n≤cap∧cap<9223372036854775808∧(Builtin.append_ ts tt #[.slice a len c,x']).run P w= .ok (.slice (some ⟨w.heap.size,0,none⟩) (len+n) cap) (w.drew.alloc (.cells (old++cs++Builtin.zeroCells z.cells (cap-(len+n))) e)):=by
 obtain⟨t1,d1,hz1,hz2,hz3⟩:=hz;obtain⟨cap,hcap⟩:=nE ((Question.appendCap (len+n) c e).cut (w.tape w.drawn (.appendCap (len+n) c e)));refine⟨cap,by rw[hcap];exact Nat.le_add_right _ _,?_,?_⟩
 ·rw[hcap];have:(2:Nat)^63=9223372036854775808:=rfl;show len+n+_%(2^63-(len+n))<_;have:=Qen (w.tape w.drawn (.appendCap (len+n) c e)) (show 2^63-(len+n) > 0 by omega);omega
 cases d1 <;> first|(cases hz3;done)|skip
 all_goals
  unfold Builtin.append_;simp only[ht,Qdp,Qe6,Qd2,Qdl,Qd6 hd,Qdi,run_sizeOf w hi,Qu hi,hz1,Qd6 hz2,Qd1,QdN,QdV,hn,Qfc,QdC];rw[Qdf (by omega)];simp only[Qdl,run_typeInfo w hi,Qdi,false_or];rw[Qdf (by
   rintro ⟨h1,_⟩;have:IntKind.i64.max=((9223372036854775807:Nat):Int):=rfl;rw[this] at h1;have:=Int.ofNat_lt.1 h1;omega)]
  simp only[Qdl,run_typeInfo w hi,Qdi];rw[Qdf (by
   have h1:=QeW i.bytes (CV hle);have:(2:Nat)^48=281474976710656:=rfl;omega)]
  have hch:(choose (.appendCap (len+n) c e)).run P w= .ok cap w.drew:=by
   rw[run_choose,hcap];rfl
  simp only[Qdl,hch,Qdi,run_askRoom,ho,hc,hzz,run_typeInfo w.drew hi];rfl
def Ly(P:Program)(D:SS)(mk:Nat)(s:AS)(ts:Array TypeId)(x y:AV):Option (AV×AS):=
 match ts[0]?,ts[1]? with
 | some t,some t1=>match P.underlying t,P.underlying t1 with
  | some (.slice e),some d1=>bif Tq d1 then none else match P.info? e with
   | none=>none
   | some i=>match Pv P e with
    | none=>none
    | some z=>bif Nat.beq z.length i.size then match Qb2 D s i.size y with
    | none=>none
    | some (n,f)=>match f n with
     | none=>none
     | some l=>bif l.all one&&Nat.beq l.length (n*i.size) then
      match x with
      | .nils=>bif Nat.beq n 0 then some (.nils,s) else
       bif Nat.ble ((2*n+192)*i.bytes) 281474976710656&&Nat.ble n 281474976710656 then
        match B9 s e l true with
        | some s'=>some (.slo s.nx n,s')
        | none=>none
       else none
      | .slc b o len c=>bif Nat.ble (len+n) c then
        match s.wr D mk b (o+len*i.size) l with
        | some s'=>some (.slc b o (len+n) c,s')
        | none=>none
       else bif Nat.ble ((2*(len+n)+192)*i.bytes) 281474976710656&&Nat.ble (len+n) 281474976710656 then
        match s.rd D b o (len*i.size) with
        | some old=>match B9 s e (old++l) true with
         | some s'=>some (.slo s.nx (len+n),s')
         | none=>none
        | none=>none
       else none
      | .slo b len=>bif Nat.ble ((2*(len+n)+192)*i.bytes) 281474976710656&&(Nat.ble (len+n) 281474976710656&&!Nat.beq n 0) then
        match s.hp.get b with
        | some (.row tb cs true)=>bif Nat.beq tb e then match s.app D mk b (len*i.size) l with
         | some s'=>some (.slo s.nx (len+n),s')
         | none=>none
         else none
        | _=>none
       else none
      | _=>none
      else none
    else none
  | _,_=>none
 | _,_=>none
theorem YD(z:Array Value)(n:Nat):(Builtin.zeroCells z n).size=n*z.size:=by simp[Builtin.zeroCells]
theorem Qb8{P:Program}{D:SS}{mk:Nat}{ρ:Rh}{ω:Nat→Option Nat}{w:World}{s s':AS}{ts:Array TypeId}{tt:TypeId}{x y v:AV}(h:Ly P D mk s ts x y=some (v,s'))(hm:mk≤s.nx)(hs:Sim P ρ ω D.hd D.cl s.hp.get w)(hf:Frs ρ s s'){x' y':Value}(hx:RV ρ x x')(hy:RV ρ y y'):
  APost mk s s'∧∃v' w' ρ' ω',(Builtin.append_ ts tt #[x',y']).run P w= .ok v' w'∧RV ρ' v v'∧RPost P D mk ρ ω w s s' ρ' ω' w':=by
 unfold Ly at h;split at h
 ·rename_i t t1 ht ht1;split at h
  ·rename_i e d1 hd hd1;cases hq:Tq d1 with
   | true=>rw[hq] at h;cases h
   | false=>
   rw[hq] at h;simp only[cond_false] at h;have hz:∃t1 d1,ts[1]? =some t1∧P.underlying t1=some d1∧Tq d1=false:=⟨t1,d1,ht1,hd1,hq⟩;split at h
   ·cases h
   rename_i i hi;split at h
   ·cases h
   rename_i z hzz;cases hzl:Nat.beq z.length i.size with
   | false=>rw[hzl] at h;cases h
   | true=>
   rw[hzl] at h;simp only[QdE] at h;have hzl':=Qd7 hzl;obtain⟨z',hz1,hz2⟩:=JR (ρ:=ρ) hzz w.drew;have hzs:z'.cells.size=i.size:=hz2.length.trans hzl';split at h
   ·cases h
   rename_i n f hsrc;split at h
   ·cases h
   rename_i l hl;cases hlb:(l.all one&&Nat.beq l.length (n*i.size)) with
   | false=>rw[hlb] at h;cases h
   | true=>
   rw[hlb] at h;simp only[QdE] at h;simp only[Qdo] at hlb;have hll:=Qd7 hlb.2;obtain⟨hn,cs,hcs,hrv⟩:=SI hsrc hl hs hy;obtain⟨_,cs',hcs',hrv'⟩:=SI hsrc hl (w:=w.drew) hs hy;have hcl:cs.size=n*i.size:=by rw[←hll];exact hrv.length
   have hcl':cs'.size=n*i.size:=by rw[←hll];exact hrv'.length
   split at h
   ·
    simp only[RV] at hx;subst hx;cases hn0:Nat.beq n 0 with
    | true=>
     rw[hn0] at h;cases h;have:=Qd7 hn0;subst this;refine⟨APost.refl _ _,.slice none 0 0,w,ρ,ω,?_,by simp only[RV],RPost.refl hs⟩;cases d1 <;> first|(cases hq;done)|skip
     all_goals
      unfold Builtin.append_;simp only[ht,Qdp,Qe6,Qd2,Qdl,Qd6 hd,Qdi,run_sizeOf w hi,Qu hi,ht1,Qd6 hd1,Qd1,QdN,QdV,hn,Qfc,QdC];rw[Qdm (by omega)];simp only[Qdl,hcs,Qdi,Qea];rfl
    | false=>
     rw[hn0] at h;simp only[cond_false] at h;have hn0':=QdS hn0;cases hb:(Nat.ble ((2*n+192)*i.bytes) 281474976710656&&Nat.ble n 281474976710656) with
     | false=>rw[hb] at h;cases h
     | true=>
     rw[hb] at h;simp only[QdE] at h;simp only[Qdo] at hb;split at h
     ·rename_i s1 ha;cases h;have hfr:ρ s.nx=none:=hf s.nx (Qde _) (by have:=(AS.new_get ha).1;omega);obtain⟨cap,c1,c3,c2⟩:=Jd (tt:=tt) (len:=0) (a:=none) (c:=0) ht hd hi hz hn hcs' (by omega) (old:=#[]) rfl (by rw[Qd5];exact Qdn hb.1) (by rw[Qd5];exact Qdn hb.2) hz1;rw[Qd5] at c1 c2;refine⟨APost.new ha hm,_,_,_,_,c2,?_,RPost.drew_pre (RPost.new cap c3 ha (Sim.drew hs) hfr rfl ?_)⟩
      ·simp only[RV];exact⟨_,Yu _ _ _,c1,rfl⟩
      ·refine⟨_,rfl,?_,rfl,fun _=>?_,fun j a hj _=>?_⟩
       ·simp only[Qfl,YD,hcl',hll];omega
       ·simp only[Qfl,YD,hcl',hzs,Qu hi];rw[Nat.sub_mul,show (#[]:Array Value).size=0 from rfl];have:=QeW i.size c1;omega
       ·obtain⟨v,k1,k2⟩:=hrv'.get hj;refine⟨v,?_,k2⟩;rw[Qf6 (by simp only[Qfl];have:=(Qdt.1 k1).1;simp at this;simp;omega)];simpa using k1
     ·cases h
   ·
    rename_i b o len c;simp only[RV] at hx;obtain⟨g,hg,rfl⟩:=hx;cases hr:Nat.ble (len+n) c with
    | true=>
     rw[hr] at h;simp only[QdE] at h;have hle:=Qdn hr;split at h
     ·rename_i s1 hw;cases h;obtain⟨g',tt',c',m1,m0,m2,m3,m4⟩:=RPost.wr hw hs hrv;rw[hg] at m1;cases m1;rw[m0,Qd5];refine⟨APost.wr hw,_,_,_,_,WI ht hd hi hz hn hcs hle m2 (by simpa using m3) (Gf hlb.1 hrv),by simp only[RV];exact⟨g,hg,by rw[m0,Qd5]⟩,m4⟩
     ·cases h
    | false=>
     rw[hr] at h;simp only[cond_false] at h;have hlt:c<len+n:=QfO fun hle=>by rw[Qd4 hle] at hr;cases hr
     cases hb:(Nat.ble ((2*(len+n)+192)*i.bytes) 281474976710656&&Nat.ble (len+n) 281474976710656) with
     | false=>rw[hb] at h;cases h
     | true=>
     rw[hb] at h;simp only[QdE] at h;simp only[Qdo] at hb;split at h
     ·rename_i old hold;split at h
      ·rename_i s1 ha;cases h;have hfr:ρ s.nx=none:=hf s.nx (Qde _) (by have:=(AS.new_get ha).1;omega);obtain⟨g',vs,k1,k2,k3,k4⟩:=AS.rd_ok (w:=w.drew) hs hold;rw[hg] at k1;cases k1;have hof:(Builtin.firstCells i.size len (.slice (some ⟨g.blk,g.off+o,none⟩) len c)).run P w.drew= .ok vs.toArray w.drew:=by
        unfold Builtin.firstCells;simp only;rw[←k4,←k3.length];exact Yh k2
       obtain⟨cap,c1,c3,c2⟩:=Jd (tt:=tt) ht hd hi hz hn hcs' hlt hof (Qdn hb.1) (Qdn hb.2) hz1;refine⟨APost.new ha hm,_,_,_,_,c2,?_,RPost.drew_pre (RPost.new cap c3 ha (Sim.drew hs) hfr rfl ?_)⟩
       ·simp only[RV];exact⟨_,Yu _ _ _,c1,rfl⟩
       ·have hvl:vs.length=len*i.size:=k3.length.trans k4;refine⟨_,rfl,?_,rfl,fun _=>?_,fun j a hj _=>?_⟩
        ·simp only[Qfl,YD,hcl',hll,Qdv,hvl,Qdj,k4];omega
        ·simp only[Qfl,YD,hcl',hzs,Qu hi,Qdv,hvl];rw[Nat.sub_mul,QfH];have:=QeW i.size c1;rw[QfH] at this;omega
        ·obtain⟨v,k5,k6⟩:=(k3.append hrv').get hj;refine⟨v,?_,k6⟩;have hlt2:=(Qdt.1 k5).1;simp at hlt2;rw[Qf6 (by simp only[Qfl,Qdv];omega),←k5];rw[←QeT];simp
      ·cases h
     ·cases h
   ·
    rename_i b len;simp only[RV] at hx;obtain⟨g,hg,hgc,rfl⟩:=hx;cases hb:(Nat.ble ((2*(len+n)+192)*i.bytes) 281474976710656&&(Nat.ble (len+n) 281474976710656&&!Nat.beq n 0)) with
    | false=>rw[hb] at h;cases h
    | true=>
    rw[hb] at h;simp only[QdE] at h;simp only[Qdo] at hb;split at h
    ·rename_i tb cs0 hrow;cases hte:Nat.beq tb e with
     | false=>rw[hte] at h;cases h
     | true=>
     rw[hte] at h;have:=Qd7 hte;subst this;simp only[QdE] at h;split at h
     ·rename_i s1 ha;cases h;obtain⟨ta,ca,hk⟩:=AS.app_is ha;have e1:=hk.old.symm.trans hrow;simp only[Option.some.injEq,AO.row.injEq,and_true] at e1;obtain⟨rfl,rfl⟩:=e1;have hfr:ρ s.nx=none:=hf s.nx (Qde _) (by have:=hk.nx;omega);have hwf:=SS.whole_free hk.free;obtain⟨g',q1,q2,q3,c0,q4,q5,q6,q7,q8⟩:=hs b _ hwf.1 hk.old;rw[hg] at q1;cases q1;have q7:=q7 rfl;rw[Qu hi] at q7;rw[q6];have q9:=hk.le;refine⟨APost.app ha hm,?_⟩;by_cases hle:len+n≤g.cap
      ·have hfit:len*i.size+cs.size≤c0.size:=by
        rw[q7,hcl,←QfH];exact QeW _ hle
       have run:=WI (tt:=tt) (o:=0) ht hd hi hz hn hcs hle q4 (by rw[Qd5];exact hfit) (Gf hlb.1 hrv);rw[Qd5] at run;refine⟨_,_,_,_,run,?_,RPost.app_in ha hs hfr hrv hk hg q4 (by simpa using hfit)⟩;simp only[RV];exact⟨g,Yu _ _ _,hle,by rw[q6]⟩
      ·obtain⟨old,o1,o2,o3⟩:∃old:List Value,(loadCells ⟨g.blk,0,none⟩ (len*i.size)).run P w.drew= .ok old.toArray w.drew∧RVs ρ (ca.take (len*i.size)) old∧old.length=len*i.size:=by
        have hl2:(c0.toList.take (len*i.size)).length=len*i.size:=by simp;omega
        refine⟨c0.toList.take (len*i.size),?_,RVs.of (by simp;omega) fun j a v hj hv=>?_,hl2⟩
        ·have:=Yh (P:=P) (w:=w.drew) (g:=g.blk) (o:=0) (vs:=c0.toList.take (len*i.size)) fun j v hv=>by
          have hj:j<len*i.size:=by have:=(Qdt.1 hv).1;omega
          rw[QdH hj] at hv;rw[World.cell?_drew];simp only[World.cell?,q4,Option.isSome_none,QdN,QdV,Qd5];simpa using hv
         rwa [hl2] at this
        ·have hj2:j<len*i.size:=by have:=(Qdt.1 hv).1;omega
         rw[QdH hj2] at hj hv;obtain⟨v',r1,r2⟩:=q8 j a hj (hwf.2 j);have:v'=v:=by
          have:c0.toList[j]? =some v':=by simpa using r1
          rw[this] at hv;exact Option.some.inj hv
         exact this▸r2
       obtain⟨cap,c1,c3,c2⟩:=Jd (tt:=tt) (a:=some ⟨g.blk,0,none⟩) (c:=g.cap) ht hd hi hz hn hcs' (by omega) (old:=old.toArray) (by unfold Builtin.firstCells;exact o1) (Qdn hb.1) (Qdn hb.2.1) hz1;have post:=RPost.app_new (w:=w.drew) ha (Sim.drew hs) hfr (vs:=cs'.toList) hrv' hk (old:=old) o2 (hlt:=c3) (rest:=(Builtin.zeroCells z'.cells (cap-(len+n))).toList) (cap:=cap) (by
        simp only[Qdj,Qeo,YD,hcl',hzs,Qu hi,o3];rw[Nat.sub_mul,QfH];have:=QeW i.size c1;rw[QfH] at this;omega)
       have ea:(old++cs'.toList++(Builtin.zeroCells z'.cells (cap-(len+n))).toList).toArray=old.toArray++cs'++Builtin.zeroCells z'.cells (cap-(len+n)):=by
        apply QeO.1;simp
       rw[ea] at post;refine⟨_,_,_,_,c2,?_,RPost.drew_pre post⟩;simp only[RV];exact⟨_,Yu _ _ _,c1,rfl⟩
     ·cases h
    ·cases h
   ·cases h
  ·cases h
 ·cases h
def T1:List (AV×AV×Nat)→Option (List MapEntry)
 | []=>some []
 | a::r=>match vof a.1,vof a.2.1,T1 r with
  | some k,some v,some l=>some (⟨k,v,a.2.2⟩::l)
  | _,_,_=>none
theorem No{ρ:Rh}:∀{l:List (AV×AV×Nat)} {es fs:List MapEntry},REs ρ l es→T1 l=some fs→es=fs
 | [],es,fs,h,k=>by simp only[T1,Option.some.injEq] at k;rw[←k];exact h
 | a::r,es,fs,h,k=>by
  obtain⟨e,es',rfl,⟨h1,h2,h3⟩,h4⟩:=h;simp only[T1] at k;split at k
  ·rename_i x y l hx hy hl;simp only[Option.some.injEq] at k;rw[←k,No h4 hl];congr 1;cases e;simp only at h1 h2 h3;rw[ZH _ _ _ h1 hx,ZH _ _ _ h2 hy,h3]
  ·cases k
def EV(P:Program)(D:SS)(s:AS)(t:TypeId)(x k:AV)(ok:Bool):Option AV:=
 match P.underlying t,x with
 | some (.map kt et),.map b=>match s.mget D b,vof k with
  | some (es,_),some k'=>match T1 es with
   | some fs=>match Hy P (Instr.checkKey fs.toArray.isEmpty 10000 kt k'),Hy P (Instr.findKey kt k' fs) with
    | some _,some (some (_,v))=>match av 8 v with
     | some a=>some (bif ok then .tup [a,.bool true] else a)
     | none=>none
    | some _,some none=>match P.info? et with
     | some i=>match i.zero with
      | some z=>match av 8 z with
       | some a=>some (bif ok then .tup [a,.bool false] else a)
       | none=>none
      | none=>none
     | none=>none
    | _,_=>none
   | none=>none
  | _,_=>none
 | _,_=>none
theorem WY{P:Program}{w:World}{r n:Nat}{es:Array MapEntry}(h:w.heap[r]? =some (.map es n)):(getObj r).run P w= .ok (.map es n) w:=by
 simp only[getObj,Sem.run,h]
theorem OF{P:Program}{D:SS}{ρ:Rh}{ω:Nat→Option Nat}{w:World}{s:AS}{t:TypeId}{x k v:AV}{ok:Bool}(h:EV P D s t x k ok=some v)(hs:Sim P ρ ω D.hd D.cl s.hp.get w){x' k':Value}(hx:RV ρ x x')(hk:RV ρ k k'):
  ∃v',(Instr.lookup t x' k' ok).run P w= .ok v' w∧RV ρ v v':=by
 unfold EV at h;split at h
 ·rename_i kt et b hd;simp only[RV] at hx;obtain⟨g,hg,rfl⟩:=hx;split at h
  ·rename_i es n kv hm hkv;split at h
   ·rename_i fs hfs;obtain⟨g',es',k1,k2,k3,k4⟩:=AS.mget_ok hs hm;rw[hg] at k1;cases k1;have:=No k4 hfs;subst this;have:=ZH _ _ _ hk hkv;subst this;split at h
    ·rename_i u i vv hc hf;split at h
     ·rename_i a ha;cases h;have hav:=Nj (ρ:=ρ) 8 _ _ ha;refine⟨if ok then .tuple #[vv,.bool true] else vv,?_,?_⟩
      ·unfold Instr.lookup;simp only[Qdl,Qd6 hd,Qdi,WY k3,Qd1,YT hc,QeD,YT hf]
      ·cases ok
       ·exact hav
       ·simp only[RV];exact⟨[vv,.bool true],rfl,RVs.cons hav (RVs.cons XU RVs.nil)⟩
     ·cases h
    ·rename_i u hc hf;split at h
     ·rename_i i hi;split at h
      ·rename_i z hz;split at h
       ·rename_i a ha;cases h;have hav:=Nj (ρ:=ρ) 8 _ _ ha;refine⟨if ok then .tuple #[z,.bool false] else z,?_,?_⟩
        ·unfold Instr.lookup;simp only[Qdl,Qd6 hd,Qdi,WY k3,Qd1,YT hc,QeD,YT hf,zeroValue,run_typeInfo w hi,hz]
        ·cases ok
         ·exact hav
         ·simp only[RV];exact⟨[z,.bool false],rfl,RVs.cons hav (RVs.cons XU RVs.nil)⟩
       ·cases h
      ·cases h
     ·cases h
    ·cases h
   ·cases h
  ·cases h
 ·cases h
theorem REs.append{ρ:Rh}{a:AV×AV×Nat}{e:MapEntry}(ha:RE ρ a e):∀{l:List (AV×AV×Nat)} {es:List MapEntry},REs ρ l es→REs ρ (l++[a]) (es++[e])
 | [],es,h=>by simp only[REs] at h;subst h;exact⟨e,[],rfl,ha,rfl⟩
 | x::l,es,h=>by
  obtain⟨y,r,rfl,h1,h2⟩:=h;exact⟨y,r++[e],rfl,h1,h2.append ha⟩
def Pb(P:Program)(D:SS)(mk:Nat)(s:AS)(t:TypeId)(x k v:AV):Option AS:=
 match P.underlying t,x with
 | some (.map kt _),.map b=>match s.mget D b,vof k with
  | some (es,n),some k'=>match T1 es with
   | some fs=>match Hy P (Instr.checkKey false 10000 kt k'),Hy P (Instr.findKey kt k' fs) with
    | some _,some none=>s.mset D mk b (es++[(k,v,n)]) (n+1)
    | _,_=>none
   | none=>none
  | _,_=>none
 | _,_=>none
theorem Lq{P:Program}{D:SS}{mk:Nat}{ρ:Rh}{ω:Nat→Option Nat}{w:World}{s s':AS}{t:TypeId}{x k v:AV}(h:Pb P D mk s t x k v=some s')(hs:Sim P ρ ω D.hd D.cl s.hp.get w){x' k' v':Value}(hx:RV ρ x x')(hk:RV ρ k k')(hv:RV ρ v v'):
  APost mk s s'∧∃w',(Instr.mapUpdate t x' k' v').run P w= .ok () w'∧RPost P D mk ρ ω w s s' ρ ω w':=by
 unfold Pb at h;split at h
 ·rename_i kt et b hd;simp only[RV] at hx;obtain⟨g,hg,rfl⟩:=hx;split at h
  ·rename_i es n kv hm hkv;split at h
   ·rename_i fs hfs;split at h
    ·rename_i u hc hf;obtain⟨g',es',k1,k2,k3,k4⟩:=AS.mget_ok hs hm;rw[hg] at k1;cases k1;have:=No k4 hfs;subst this;have:=ZH _ _ _ hk hkv;subst this;refine⟨APost.mset h,_,?_,RPost.mset h hs (REs.append (e:=⟨k',v',n⟩) ⟨hk,hv,rfl⟩ k4) hg⟩;unfold Instr.mapUpdate;simp only[Qdl,Qd6 hd,Qdi,WY k3,Qd1,YT hc,QeD,YT hf];simp only[setObj,Sem.run,k3,List.push_toArray]
    ·cases h
   ·cases h
  ·cases h
 ·cases h
theorem Lp{P:Program}{D:SS}{mk:Nat}{ρ:Rh}{ω:Nat→Option Nat}{w:World}{s s':AS}{t:TypeId}(h:s.new (.mp [] 0)=some s')(hm:mk≤s.nx)(hs:Sim P ρ ω D.hd D.cl s.hp.get w)(hf:Frs ρ s s'):
  APost mk s s'∧∃v' w' ρ' ω',(Instr.makeMap t none).run P w= .ok v' w'∧RV ρ' (.map s.nx) v'∧RPost P D mk ρ ω w s s' ρ' ω' w':=by
 have hn:ρ s.nx=none:=hf s.nx (Qde _) (by have:=(AS.new_get h).1;omega);exact⟨APost.new h hm,_,_,_,_,rfl,by simp only[RV];exact⟨_,Yu _ _ _,rfl⟩,RPost.new 0 (by decide) h hs hn rfl ⟨[],rfl,rfl⟩⟩
def Ys(s:AS):Option AV→Option (AV×AS)
 | some v=>some (v,s)
 | none=>none
def Hv:Option AS→Option (AV×AS)
 | some s'=>some (.tup [],s')
 | none=>none
def Cz(n:Nat):Option AS→Option (AV×AS)
 | some s'=>some (.ptr n 0,s')
 | none=>none
def QaU(n:Nat):Option AS→Option (AV×AS)
 | some s'=>some (.map n,s')
 | none=>none
def on1(f:AV→Option (AV×AS)):Option AV→Option (AV×AS)
 | some a=>f a
 | none=>none
def on2(f:AV→AV→Option (AV×AS)):Option AV→Option AV→Option (AV×AS)
 | some a,some b=>f a b
 | _,_=>none
def on3(f:AV→AV→AV→Option (AV×AS)):Option AV→Option AV→Option AV→Option (AV×AS)
 | some a,some b,some c=>f a b c
 | _,_,_=>none
def onP(f:List (Nat×AV)→Option (AV×AS)):Option (List (Nat×AV))→Option (AV×AS)
 | some l=>f l
 | none=>none
def Ba(f:AV→AV→Option (AV×AS)):Option (List AV)→Option (AV×AS)
 | some [a,b]=>f a b
 | _=>none
def onZ(s:AS)(t:TypeId):Option (List AV)→Option (AV×AS)
 | some z=>Cz s.nx (B9 s t z false)
 | none=>none
def mop(P:Program)(D:SS)(mk:Nat)(ae:AE)(o:Oper)(s:AS):Option (AV×AS):=
 match o.op with
 | .load t x=>on1 (fun a=>Ys s (G4 P D s t a)) (ae x)
 | .store t x y=>on2 (fun a b=>Hv (Vp P D mk s t a b)) (ae x) (ae y)
 | .alloc t=>onZ s t (Pv P t)
 | .box t x=>on1 (fun a=>Cz s.nx (B9 s t (Ym a) false)) (ae x)
 | .buildSlice t len parts=>onP (WA P s t len) (VO ae parts.toList)
 | .makeSlice t x y=>on2 (T0 P s t) (ae x) (ae y)
 | .convert src dst x=>on1 (fun a=>Ys s (Qb1 P D s src dst a)) (ae x)
 | .call {callee:=.builtin .append,args,argTypes}=>Ba (Ly P D mk s argTypes) (aes ae args.toList)
 | .call {callee:=.builtin .copy,args,argTypes}=>Ba (T7 P D mk s argTypes) (aes ae args.toList)
 | .makeMap t none=>QaU s.nx (s.new (.mp [] 0))
 | .lookup t x k ok=>on2 (fun a b=>Ys s (EV P D s t a b ok)) (ae x) (ae k)
 | .mapUpdate t m k x=>on3 (fun a b c=>Hv (Pb P D mk s t a b c)) (ae m) (ae k) (ae x)
 | _=>none
section
variable {P:Program} {D:SS} {mk:Nat} {s s':AS} {v:AV}
theorem Bv{t:TypeId}{x y:AV}(h:Vp P D mk s t x y=some s'):APost mk s s':=by
 unfold Vp at h;split at h
 ·rename_i b o i hi;cases hb:(Nat.beq (Ym y).length i.size&&(Ym y).all one) with
  | false=>rw[hb] at h;cases h
  | true=>rw[hb] at h;exact APost.wr h
 ·cases h
theorem SU{t:TypeId}{len:Nat}{parts:List (Nat×AV)}(h:WA P s t len parts=some (v,s'))(hm:mk≤s.nx):APost mk s s':=by
 unfold WA at h;split at h
 ·split at h
  ·rename_i z i hz hi;cases hb:(Nat.beq z.length i.size&&Nat.ble (len*i.size) 16777216) with
   | false=>rw[hb] at h;cases h
   | true=>
    rw[hb] at h;simp only[QdE] at h;split at h
    ·split at h
     ·rename_i s1 hn;cases h;exact APost.new hn hm
     ·cases h
    ·cases h
  ·cases h
 ·cases h
theorem D8{t:TypeId}{x y:AV}(h:T0 P s t x y=some (v,s'))(hm:mk≤s.nx):APost mk s s':=by
 unfold T0 at h;split at h
 ·rename_i e n c hd hn hc;split at h
  ·rename_i z i hz hi;cases hb:(Nat.beq z.length i.size&&(Nat.ble n c&&(Nat.ble (i.bytes*c) 281474976710656&&Nat.ble c 281474976710656))) with
   | false=>rw[hb] at h;cases h
   | true=>
    rw[hb] at h;simp only[QdE] at h;split at h
    ·rename_i s1 hn;cases h;exact APost.new hn hm
    ·cases h
  ·cases h
 ·cases h
theorem DA{ts:Array TypeId}{x y:AV}(h:T7 P D mk s ts x y=some (v,s')):APost mk s s':=by
 unfold T7 at h;split at h
 ·cases h
 split at h
 ·split at h
  ·cases h
  split at h
  ·cases h
  rename_i n f hsrc;have go:∀{b o k:Nat},(match f (Nat.min n k) with
      | none=>none
      | some l=>bif l.all one then match s.wr D mk b o l with
       | some s'=>some (AV.int .i64 (.ofNat (Nat.min n k)),s')
       | none=>none else none)=some (v,s')→APost mk s s':=fun {b o k} h=>by
   split at h
   ·cases h
   rename_i l hl;cases ho:l.all one with
   | false=>rw[ho] at h;cases h
   | true=>
    rw[ho] at h;simp only[QdE] at h;split at h
    ·rename_i s1 hw;cases h;exact APost.wr hw
    ·cases h
  simp only at h;split at h
  ·exact go h
  ·exact go h
  ·exact go h
  ·cases h
 ·cases h
theorem Lx{ts:Array TypeId}{x y:AV}(h:Ly P D mk s ts x y=some (v,s'))(hm:mk≤s.nx):APost mk s s':=by
 unfold Ly at h;split at h
 ·split at h
  ·rename_i e d1 hd hd1;cases hq:Tq d1 with
   | true=>rw[hq] at h;cases h
   | false=>
   rw[hq] at h;simp only[cond_false] at h;split at h
   ·cases h
   rename_i i hi;split at h
   ·cases h
   rename_i z hzz;cases hzl:Nat.beq z.length i.size with
   | false=>rw[hzl] at h;cases h
   | true=>
   rw[hzl] at h;simp only[QdE] at h;split at h
   ·cases h
   rename_i n f hsrc;split at h
   ·cases h
   rename_i l hl;cases hlb:(l.all one&&Nat.beq l.length (n*i.size)) with
   | false=>rw[hlb] at h;cases h
   | true=>
   rw[hlb] at h;simp only[QdE] at h;split at h
   ·cases hn0:Nat.beq n 0 with
    | true=>rw[hn0] at h;cases h;exact APost.refl _ _
    | false=>
     rw[hn0] at h;simp only[cond_false] at h;cases hb:(Nat.ble ((2*n+192)*i.bytes) 281474976710656&&Nat.ble n 281474976710656) with
     | false=>rw[hb] at h;cases h
     | true=>
     rw[hb] at h;simp only[QdE] at h;split at h
     ·rename_i s1 ha;cases h;exact APost.new ha hm
     ·cases h
   ·rename_i b o len c;cases hr:Nat.ble (len+n) c with
    | true=>
     rw[hr] at h;simp only[QdE] at h;split at h
     ·rename_i s1 hw;cases h;exact APost.wr hw
     ·cases h
    | false=>
     rw[hr] at h;simp only[cond_false] at h;cases hb:(Nat.ble ((2*(len+n)+192)*i.bytes) 281474976710656&&Nat.ble (len+n) 281474976710656) with
     | false=>rw[hb] at h;cases h
     | true=>
     rw[hb] at h;simp only[QdE] at h;split at h
     ·split at h
      ·rename_i s1 ha;cases h;exact APost.new ha hm
      ·cases h
     ·cases h
   ·rename_i b len;cases hb:(Nat.ble ((2*(len+n)+192)*i.bytes) 281474976710656&&(Nat.ble (len+n) 281474976710656&&!Nat.beq n 0)) with
    | false=>rw[hb] at h;cases h
    | true=>
    rw[hb] at h;simp only[QdE] at h;split at h
    ·rename_i tb cs0 hrow;cases hte:Nat.beq tb e with
     | false=>rw[hte] at h;cases h
     | true=>
     rw[hte] at h;simp only[QdE] at h;split at h
     ·rename_i s1 ha;cases h;exact APost.app ha hm
     ·cases h
    ·cases h
   ·cases h
  ·cases h
 ·cases h
theorem BC{t:TypeId}{x k u:AV}(h:Pb P D mk s t x k u=some s'):APost mk s s':=by
 unfold Pb at h;split at h
 ·split at h
  ·split at h
   ·split at h
    ·exact APost.mset h
    ·cases h
   ·cases h
  ·cases h
 ·cases h
theorem MK{ae:AE}{o:Oper}(h:mop P D mk ae o s=some (v,s'))(hm:mk≤s.nx):APost mk s s':=by
 unfold mop at h;split at h
 ·unfold on1 at h;split at h
  ·unfold Ys at h;dsimp only at h;split at h
   ·cases h;exact APost.refl _ _
   ·cases h
  ·cases h
 ·unfold on2 at h;split at h
  ·unfold Hv at h;dsimp only at h;split at h
   ·rename_i s1 hst;cases h;exact Bv hst
   ·cases h
  ·cases h
 ·unfold onZ at h;split at h
  ·unfold Cz at h;split at h
   ·rename_i s1 hst;cases h;exact APost.new hst hm
   ·cases h
  ·cases h
 ·unfold on1 at h;split at h
  ·unfold Cz at h;dsimp only at h;split at h
   ·rename_i s1 hst;cases h;exact APost.new hst hm
   ·cases h
  ·cases h
 ·unfold onP at h;split at h
  ·exact SU h hm
  ·cases h
 ·unfold on2 at h;split at h
  ·exact D8 h hm
  ·cases h
 ·unfold on1 at h;split at h
  ·unfold Ys at h;dsimp only at h;split at h
   ·cases h;exact APost.refl _ _
   ·cases h
  ·cases h
 ·unfold Ba at h;split at h
  ·exact Lx h hm
  ·cases h
 ·unfold Ba at h;split at h
  ·exact DA h
  ·cases h
 ·unfold QaU at h;split at h
  ·rename_i s1 hst;cases h;exact APost.new hst hm
  ·cases h
 ·unfold on2 at h;split at h
  ·unfold Ys at h;dsimp only at h;split at h
   ·cases h;exact APost.refl _ _
   ·cases h
  ·cases h
 ·unfold on3 at h;split at h
  ·unfold Hv at h;dsimp only at h;split at h
   ·rename_i s1 hst;cases h;exact BC hst
   ·cases h
  ·cases h
 ·cases h
end
def orS(s:AS)(r:Option (AV×AS)):Option AV→Option (AV×AS)
 | some v=>some (v,s)
 | none=>r
def aop(P:Program)(D:SS)(mk:Nat)(ae:AE)(o:Oper)(s:AS):Option (AV×AS):=orS s (mop P D mk ae o s) (pop P ae o)
theorem Qc3{P:Program}{D:SS}{mk:Nat}{ρ:Rh}{ω:Nat→Option Nat}{w:World}{s s':AS}{ae:AE}{e:Operand→Value}{o:Oper}{v:AV}(h:mop P D mk ae o s=some (v,s'))(he:∀x a,ae x=some a→RV ρ a (e x))(hm:mk≤s.nx)(hs:Sim P ρ ω D.hd D.cl s.hp.get w)(hf:Frs ρ s s'):
  APost mk s s'∧OpR P D mk ρ ω w s s' v ((execOp e o).run P w):=by
 obtain⟨dst,op,type,pos,after,guard⟩:=o;unfold mop at h;simp only at h;split at h
 ·unfold on1 at h;split at h
  ·rename_i a ha;unfold Ys at h;dsimp only at h;split at h
   ·rename_i v0 hv;cases h;obtain⟨v',h1,h2⟩:=BD hv hs (he _ _ ha);exact⟨APost.refl _ _,OpR.value h1 h2 (RPost.refl hs)⟩
   ·cases h
  ·cases h
 ·unfold on2 at h;split at h
  ·rename_i a b ha hb;unfold Hv at h;dsimp only at h;split at h
   ·rename_i s1 hst;cases h;obtain⟨h1,w',h2,h3⟩:=Ln hst hs (he _ _ ha) (he _ _ hb);exact⟨h1,OpR.unit h2 h3⟩
   ·cases h
  ·cases h
 ·unfold onZ at h;split at h
  ·rename_i z hz;unfold Cz at h;split at h
   ·rename_i s1 hn;cases h;obtain⟨z',hz1,hz2⟩:=JR (ρ:=ρ) hz w;obtain⟨k1,ρ',g,k2,k3,k4,k5,k6⟩:=PS hn hm hs hf hz2;refine⟨k1,OpR.value (v':=.pointer (some ⟨g.blk,0,none⟩)) ?_ (by simp only[RV];exact⟨g,k4,by rw[k5.2]⟩) k6⟩;unfold Instr.alloc;simp only[Qdl,hz1,Qdi,newVar,k2,Qd1,k5.1]
   ·cases h
  ·cases h
 ·unfold on1 at h;split at h
  ·rename_i a ha;unfold Cz at h;dsimp only at h;split at h
   ·rename_i s1 hn;cases h;obtain⟨k1,ρ',g,k2,k3,k4,k5,k6⟩:=PS hn hm hs hf (Pc (he _ _ ha));refine⟨k1,OpR.value (v':=.pointer (some ⟨g.blk,0,none⟩)) ?_ (by simp only[RV];exact⟨g,k4,by rw[k5.2]⟩) k6⟩;unfold Instr.box;simp only[Qdl,newVar,k2,Qdi,Qd1,k5.1]
   ·cases h
  ·cases h
 ·rename_i t len parts;unfold onP at h;split at h
  ·rename_i l hl;obtain⟨k1,v',w',ρ',ω',k2,k3,k4⟩:=DD h hm hs hf (Pa he hl);refine⟨k1,OpR.value ?_ k3 k4⟩;rw[←k2];congr 2;exact QeO.1 (by simp)
  ·cases h
 ·unfold on2 at h;split at h
  ·rename_i a b ha hb;obtain⟨k1,v',w',ρ',ω',k2,k3,k4⟩:=OE h hm hs hf (he _ _ ha) (he _ _ hb);exact⟨k1,OpR.value k2 k3 k4⟩
  ·cases h
 ·unfold on1 at h;split at h
  ·rename_i a ha;unfold Ys at h;dsimp only at h;split at h
   ·rename_i v0 hv;cases h;obtain⟨v',h1,h2⟩:=Qb0 hv hs (he _ _ ha);exact⟨APost.refl _ _,OpR.value h1 h2 (RPost.refl hs)⟩
   ·cases h
  ·cases h
 ·rename_i args ts;unfold Ba at h;split at h
  ·rename_i a b hl;have hr:=Hp he hl;simp only[RVs] at hr;obtain⟨a',r,er,hra,b',r',rfl,hrb,rfl⟩:=hr;obtain⟨k1,v',w',ρ',ω',k2,k3,k4⟩:=Qb8 (tt:=type) h hm hs hf hra hrb;refine⟨k1,v',w',ρ',ω',.inl ?_,k3,k4⟩;have ea:args.map e=#[a',b']:=QeO.1 (by simp[er]);simp only[execOp,resolve,Qdl,Qd1,Qdi,invoke,ea,builtin,k2]
  ·cases h
 ·rename_i args ts;unfold Ba at h;split at h
  ·rename_i a b hl;have hr:=Hp he hl;simp only[RVs] at hr;obtain⟨a',r,er,hra,b',r',rfl,hrb,rfl⟩:=hr;obtain⟨k1,v',w',k2,k3,k4⟩:=OK (tt:=type) h hs hra hrb;refine⟨k1,v',w',ρ,ω,.inl ?_,k3,k4⟩;have ea:args.map e=#[a',b']:=QeO.1 (by simp[er]);simp only[execOp,resolve,Qdl,Qd1,Qdi,invoke,ea,builtin,k2]
  ·cases h
 ·unfold QaU at h;split at h
  ·rename_i s1 hn;cases h;obtain⟨k1,v',w',ρ',ω',k2,k3,k4⟩:=Lp (t:=_) hn hm hs hf;exact⟨k1,OpR.value k2 k3 k4⟩
  ·cases h
 ·unfold on2 at h;split at h
  ·rename_i a b ha hb;unfold Ys at h;dsimp only at h;split at h
   ·rename_i v0 hv;cases h;obtain⟨v',h1,h2⟩:=OF hv hs (he _ _ ha) (he _ _ hb);exact⟨APost.refl _ _,OpR.value h1 h2 (RPost.refl hs)⟩
   ·cases h
  ·cases h
 ·unfold on3 at h;split at h
  ·rename_i a b c ha hb hc;unfold Hv at h;dsimp only at h;split at h
   ·rename_i s1 hst;cases h;obtain⟨h1,w',h2,h3⟩:=Lq hst hs (he _ _ ha) (he _ _ hb) (he _ _ hc);exact⟨h1,OpR.unit h2 h3⟩
   ·cases h
  ·cases h
 ·cases h
theorem QcZ{P:Program}{D:SS}{mk:Nat}{ρ:Rh}{ω:Nat→Option Nat}{w:World}{s s':AS}{ae:AE}{e:Operand→Value}{o:Oper}{v:AV}(h:aop P D mk ae o s=some (v,s'))(he:∀x a,ae x=some a→RV ρ a (e x))(hm:mk≤s.nx)(hs:Sim P ρ ω D.hd D.cl s.hp.get w)(hf:Frs ρ s s'):
  APost mk s s'∧OpR P D mk ρ ω w s s' v ((execOp e o).run P w):=by
 unfold aop orS at h;split at h
 ·rename_i v0 hp;cases h;obtain⟨v',h1,h2⟩:=Qcq hp he w;exact⟨APost.refl _ _,v',w,ρ,ω,.inl h1,h2,RPost.refl hs⟩
 ·exact Qc3 h he hm hs hf
theorem OC{P:Program}{D:SS}{mk:Nat}{s s':AS}{ae:AE}{o:Oper}{v:AV}(h:aop P D mk ae o s=some (v,s'))(hm:mk≤s.nx):APost mk s s':=by
 unfold aop orS at h;split at h
 ·cases h;exact APost.refl _ _
 ·exact MK h hm
def YH(tm:Tr AV)(t:Nat):AV:=match tm.get t with
 | some v=>v
 | none=>.tup []
def aev(u:Option Nat)(tm:Tr AV):Operand→Option AV
 | .tmp t=>match u with
  | none=>some (YH tm t)
  | some m=>bif m.testBit t then some (YH tm t) else none
 | .const v=>av 8 v
 | .func f=>some (.fn f [] [])
 | .global _=>none
def TO(nt:Nat)(tm:Tr AV)(d:Option Tmp)(v:AV):Option (Tr AV):=
 match d with
 | none=>some tm
 | some d=>bif Nat.blt d nt&&Nat.blt (d+1) 1048576 then some (tm.set 20 d (some v)) else none
theorem VB{ρ:Rh}:RV ρ (.tup []) undef:=by simp only[RV];exact⟨[],rfl,RVs.nil⟩
theorem SR{ρ:Rh}{u:Option Nat}{tm:Tr AV}{a:Act}(h:∀t,(∀m,u=some m→m.testBit t=true)→RV ρ (YH tm t) (a.tmps.getD t undef)):∀x v,aev u tm x=some v→RV ρ v (a.eval x):=by
 intro x v hx;cases x with
 | tmp t=>
  simp only[aev] at hx;cases u with
  | none=>cases hx;exact h t (fun m e=>by cases e)
  | some m=>
   cases hb:m.testBit t with
   | false=>simp only[hb] at hx;cases hx
   | true=>simp only[hb] at hx;cases hx;exact h t (fun m' e=>by cases e;exact hb)
 | const c=>exact Nj 8 c v hx
 | func f=>simp only[aev] at hx;cases hx;simp only[RV,Act.eval];exact⟨[],[],rfl,RVs.nil,RVs.nil⟩
 | global g=>cases hx
theorem Kd{nt:Nat}{tm tm':Tr AV}{d:Option Tmp}{v:AV}(h:TO nt tm d v=some tm')(t:Nat):YH tm' t=if d=some t then v else YH tm t:=by
 unfold TO at h;split at h
 ·cases h;rw[Qdf (by simp)]
 ·rename_i d;cases hb:(Nat.blt d nt&&Nat.blt (d+1) 1048576) with
  | false=>rw[hb] at h;cases h
  | true=>
   rw[hb] at h;cases h;simp only[Qdo] at hb;unfold YH;rw[Tr.get_set _ _ _ _ (Xf hb.2)];by_cases e:t=d
   ·subst e;simp
   ·rw[Qdf e,Qdf (fun e'=>e (Option.some.inj e').symm)]
theorem Ee{nt:Nat}{tm tm':Tr AV}{d:Tmp}{v:AV}(h:TO nt tm (some d) v=some tm'):d<nt:=by
 unfold TO at h;simp only at h;cases hb:(Nat.blt d nt&&Nat.blt (d+1) 1048576) with
 | false=>rw[hb] at h;cases h
 | true=>simp only[Qdo] at hb;exact Xf hb.1
structure RT (ρ:Rh) (nt:Nat) (tm:Tr AV) (a:Act):Prop where
 size:a.tmps.size=nt
 defers:a.defers=[]
 get:∀t,RV ρ (YH tm t) (a.tmps.getD t undef)
theorem RT.mono{ρ ρ':Rh}{nt:Nat}{tm:Tr AV}{a:Act}(h:RT ρ nt tm a)(e:Ext ρ ρ'):RT ρ' nt tm a:=⟨h.size,h.defers,fun t=>(h.get t).mono e⟩
theorem put_get(a:Act)(d:Option Tmp)(v:Value)(t:Nat)(h:∀x,d=some x→x<a.tmps.size):(a.put d v).tmps.getD t undef=if d=some t then v else a.tmps.getD t undef:=by
 cases d with
 | none=>rfl
 | some x=>
  by_cases e:x=t
  ·subst e;rw[Qdm rfl];exact RN a v x (h x rfl)
  ·rw[Qdf (fun e'=>e (Option.some.inj e'))];exact Tj a (some x) v t (by simp[Js,e])
theorem RT.put{ρ:Rh}{nt:Nat}{tm tm':Tr AV}{a:Act}{d:Option Tmp}{v:AV}{v':Value}(h:RT ρ nt tm a)(hp:TO nt tm d v=some tm')(hv:RV ρ v v'):RT ρ nt tm' (a.put d v'):=by
 refine⟨by rw[HG];exact h.size,by rw[Kq];exact h.defers,fun t=>?_⟩;rw[Kd hp,put_get a d v' t (fun x e=>by subst e;rw[h.size];exact Ee hp)];split
 ·exact hv
 ·exact h.get t
def WF(s:AS):Prop:=∀b,s.nx≤b→s.hp.get b=none
structure Gl (W0:World) (nG:Nat) (ω:Nat→Option Nat) (w:World):Prop where
 bel:Below nG W0 w
 own:∀r,r<nG→ω r=none∧r<w.heap.size
theorem Gl.fm{W0:World}{nG:Nat}{ρ ρ':Rh}{ω ω':Nat→Option Nat}{w w':World}{wh:Nat→Bool}{wc:Nat→Nat→Bool}(h:Gl W0 nG ω w)(f:Fm ρ ω w wh wc ρ' ω' w'):Gl W0 nG ω' w':=
 ⟨⟨f.os.trans h.bel.os,f.tape.trans h.bel.tape,f.out.trans h.bel.output,Qdx h.bel.size f.size,fun k hk=>((f.fgn k (h.own k hk).2 (h.own k hk).1).2).trans (h.bel.block k hk)⟩,
  fun r hr=>⟨(f.fgn r (h.own r hr).2 (h.own r hr).1).1,Qdr (h.own r hr).2 f.size⟩⟩
def WG(W0:World)(nG:Nat)(s:AS)(ω:Nat→Option Nat)(w:World):Prop:=WF s∧Gl W0 nG ω w
theorem WG.step{W0:World}{nG mk:Nat}{P:Program}{D:SS}{s s':AS}{ρ ρ':Rh}{ω ω':Nat→Option Nat}{w w':World}(h:WG W0 nG s ω w)(a:APost mk s s')(r:RPost P D mk ρ ω w s s' ρ' ω' w'):WG W0 nG s' ω' w':=⟨a.hpn h.1,h.2.fm r.fr⟩
abbrev YK:=SS→Nat→FuncId→List AV→AS→Option (AV×AS)
def Zo(P:Program)(W0:World)(nG:Nat)(c:YK):Prop:=∀D mk f args s v s',c D mk f args s=some (v,s')→mk≤s.nx→APost mk s s'∧
 ∀ρ ω w xs,WG W0 nG s ω w→Sim P ρ ω D.hd D.cl s.hp.get w→Frs ρ s s'→RVs ρ args xs→Calls P f xs.toArray w fun e w'=>∃v' ρ' ω',e= .returned v'∧RV ρ' v v'∧RPost P D mk ρ ω w s s' ρ' ω' w'
def QcH(P:Program)(f:FuncId):Bool:=
 match P.funcs[f]? with
 | some fn => fn.body.isSome && !(fn.name == "runtime.NumGoroutine")
 | none=>false
def SN(P:Program)(c:YK)(D:SS)(mk:Nat)(s:AS):Option AV→Option (List AV)→Option (AV×AS)
 | some (.fn g x y),some l=>bif QcH P g then c D mk g (x++l++y) s else none
 | _,_=>none
def SM(P:Program)(c:YK)(D:SS)(mk:Nat)(o:Oper)(ae:AE)(s:AS):Option (AV×AS):=
 match o.op with
 | .call {callee:=.value f,args,argTypes}=>SN P c D mk s (ae f) (aes ae args.toList)
 | _=>aop P D mk ae o s
inductive Cmd where
 | p0 (x:Operand)
 | pick (c a b:Operand)
 | p1 (f:Option AV→Option AV) (x:Operand)
 | p2 (f:Option AV→Option AV→Option AV) (x y:Operand)
 | p4 (f:Option AV→Option (Option AV)→Option (Option AV)→Option (Option AV)→Option AV) (x:Operand) (a b c:Option Operand)
 | pp (f:Option (List (Nat×AV))→Option AV) (l:List (Nat×Operand))
 | pl (f:Option (List AV)→Option AV) (l:List Operand)
 | fn (f:FuncId) (a b:Array Operand)
 | m0 (f:AS→Option (AV×AS))
 | m1 (f:SS→Nat→AS→Option AV→Option (AV×AS)) (x:Operand)
 | m2 (f:SS→Nat→AS→Option AV→Option AV→Option (AV×AS)) (x y:Operand)
 | m3 (f:SS→Nat→AS→Option AV→Option AV→Option AV→Option (AV×AS)) (x y z:Operand)
 | mp (f:AS→Option (List (Nat×AV))→Option (AV×AS)) (l:List (Nat×Operand))
 | ml (f:SS→Nat→AS→Option (List AV)→Option (AV×AS)) (l:List Operand)
 | call (f:Operand) (l:List Operand)
 | bad
def Ot(P:Program)(ty:TypeId)(k:Call):Cmd:=
 match k.callee with
 | .value f=>.call f k.args.toList
 | .builtin .append=>.ml (fun D mk s l=>orS s (Ba (Ly P D mk s k.argTypes) l) (RR P .append k.argTypes ty l)) k.args.toList
 | .builtin .copy=>.ml (fun D mk s l=>orS s (Ba (T7 P D mk s k.argTypes) l) (RR P .copy k.argTypes ty l)) k.args.toList
 | .builtin b=>.pl (RR P b k.argTypes ty) k.args.toList
 | _=>.bad
def cvFn(a b:Array Operand):Fn→Cmd
 | .func f=>.fn f a b
 | _=>.bad
def QbR(r:Option Operand):Cmd:=
 match r with
 | none=>.m0 (fun s=>QaU s.nx (s.new (.mp [] 0)))
 | _=>.bad
def cv(P:Program)(o:Oper):Cmd:=
 match o.op with
 | .move x=>.p0 x
 | .assign x=>.p0 x
 | .pick c a b=>.pick c a b
 | .binOp op t x y _=>.p2 (CE P op t x y) x y
 | .unOp op _ x=>.p1 (My P op) x
 | .convert s d x=>.m1 (fun D _ st a=>orS st (on1 (fun a=>Ys st (Qb1 P D st s d a)) a) (P5 (EX P s d) a)) x
 | .makeInterface t x=>.p1 (CA P t) x
 | .makeFunc f a b=>cvFn a b f
 | .extract x i=>.p1 (CD i) x
 | .field t x f=>.p1 (P5 fun a=>SQ P t a f) x
 | .index t x i=>.p2 (F6 (SO P t)) x i
 | .fieldAddr t x f=>.p1 (P5 fun a=>Vr P t a f) x
 | .indexAddr t x i=>.p2 (F6 (Vq P t)) x i
 | .slice t x lo hi mx=>.p4 (Mz P t) x lo hi mx
 | .nilCheck x=>.p1 C4 x
 | .typeAssert x _ t ok=>.p1 (P5 fun a=>ES P a t ok) x
 | .build t parts=>.pp (Kr P t) parts.toList
 | .call k=>Ot P o.type k
 | .load t x=>.m1 (fun D _ s=>on1 fun a=>Ys s (G4 P D s t a)) x
 | .store t x y=>.m2 (fun D mk s=>on2 fun a b=>Hv (Vp P D mk s t a b)) x y
 | .alloc t=>.m0 (fun s=>onZ s t (Pv P t))
 | .box t x=>.m1 (fun _ _ s=>on1 fun a=>Cz s.nx (B9 s t (Ym a) false)) x
 | .buildSlice t len parts=>.mp (fun s=>onP (WA P s t len)) parts.toList
 | .makeSlice t x y=>.m2 (fun _ _ s=>on2 (T0 P s t)) x y
 | .makeMap _ r=>QbR r
 | .lookup t x k ok=>.m2 (fun D _ s=>on2 fun a b=>Ys s (EV P D s t a b ok)) x k
 | .mapUpdate t m k x=>.m3 (fun D mk s=>on3 fun a b c=>Hv (Pb P D mk s t a b c)) m k x
 | _=>.bad
def Kn(P:Program)(c:YK)(D:SS)(mk:Nat)(ae:AE)(s:AS):Cmd→Option (AV×AS)
 | .p0 x=>Ys s (ae x)
 | .pick t a b=>Ys s (TZ ae a b (ae t))
 | .p1 f x=>Ys s (f (ae x))
 | .p2 f x y=>Ys s (f (ae x) (ae y))
 | .p4 f x a b d=>Ys s (f (ae x) (SK ae a) (SK ae b) (SK ae d))
 | .pp f l=>Ys s (f (VO ae l))
 | .pl f l=>Ys s (f (aes ae l))
 | .fn f a b=>Ys s (M0 ae f a b)
 | .m0 f=>f s
 | .m1 f x=>f D mk s (ae x)
 | .m2 f x y=>f D mk s (ae x) (ae y)
 | .m3 f x y z=>f D mk s (ae x) (ae y) (ae z)
 | .mp f l=>f s (VO ae l)
 | .ml f l=>f D mk s (aes ae l)
 | .call f l=>SN P c D mk s (ae f) (aes ae l)
 | .bad=>none
def G1(P:Program)(c:YK)(D:SS)(mk:Nat)(o:Oper)(ae:AE)(s:AS):Option (AV×AS):=Kn P c D mk ae s (cv P o)
theorem Kw(s:AS)(x:Option AV):orS s none x=Ys s x:=by cases x <;> rfl
theorem Bz(P:Program)(c:YK)(D:SS)(mk:Nat)(o:Oper)(ae:AE)(s:AS):G1 P c D mk o ae s=SM P c D mk o ae s:=by
 obtain⟨dst,op,type,pos,after,guard⟩:=o;unfold G1 SM aop;cases op
 case call k=>
  obtain⟨cal,args,ts⟩:=k;cases cal with
  | value f=>rfl
  | invoke r m=>rfl
  | builtin b=>
   cases b <;> simp only[cv,Ot,Kn,pop,mop,Kw]
 case makeFunc f a b=>
  cases f <;> simp only[cv,cvFn,Kn,pop,mop,Kw,Ys]
 case makeMap t r=>
  cases r <;> simp only[cv,QbR,Kn,pop,mop,orS]
 all_goals simp only[cv,Kn,pop,mop,Kw,orS,Ys]
theorem Gz{P:Program}{c:YK}{W0:World}{nG:Nat}(hc:Zo P W0 nG c){D:SS}{mk:Nat}{o:Oper}{ae:AE}{s s':AS}{v:AV}(h:G1 P c D mk o ae s=some (v,s'))(hm:mk≤s.nx):
  APost mk s s'∧∀ρ ω w (a:Act),WG W0 nG s ω w→(∀x b,ae x=some b→RV ρ b (a.eval x))→Sim P ρ ω D.hd D.cl s.hp.get w→Frs ρ s s'→∀K Q,(∀v' w' ρ' ω',RV ρ' v v'→RPost P D mk ρ ω w s s' ρ' ω' w'→K (a.put o.dst v') w')→o.wp P a w K Q:=by
 rw[Bz] at h;unfold SM at h;split at h
 ·rename_i f args ts hop;unfold SN at h;split at h
  ·rename_i g x y l hf hl;cases hg:QcH P g with
   | false=>rw[hg] at h;cases h
   | true=>
    rw[hg] at h;obtain⟨h1,h2⟩:=hc _ _ _ _ _ _ _ h hm;refine⟨h1,fun ρ ω w a hwf he hs hfr K Q hK=>?_⟩;have ef:=he _ _ hf;simp only[RV] at ef;obtain⟨xs,ys,ef,hx,hy⟩:=ef;have el:=Hp he hl;unfold QcH at hg;split at hg
    ·rename_i fn hfn;simp only[Qdo,Qe5] at hg;obtain⟨cd,hcd⟩:=Qem.1 hg.1;have run:(execOp a.eval o).run P w= .ok (.enter g (xs++args.toList.map a.eval++ys).toArray) w:=by
      unfold execOp;simp only[hop,resolve,ef,Deferred.ofValue,Qdl,Qd1,Qdi,invoke];unfold callFunc;simp only[Qdl,run_program,Qdi,hfn,hg.2,QdN,QdV,hcd,Option.isNone_some,Qd1];congr 3;exact QeO.1 (by simp)
     unfold Oper.wp;rw[run,Oper.upon_enter];refine (h2 ρ ω w _ hwf hs hfr ((hx.append el).append hy)).mono ?_;rintro e w' ⟨v',ρ',ω',rfl,k1,k2⟩;exact hK v' w' ρ' ω' k1 k2
    ·cases hg
  ·cases h
 ·refine⟨?_,fun ρ ω w a hwf he hs hfr K Q hK=>?_⟩
  ·exact OC h hm
  ·obtain⟨h1,v',w',ρ',ω',h2,h3,h4⟩:=QcZ h he hm hs hfr;unfold Oper.wp;rcases h2 with h2|⟨h2,rfl⟩
   ·rw[h2,Oper.upon_value];exact hK v' w' ρ' ω' h3 h4
   ·rw[h2,Oper.upon_skip];exact hK _ w' ρ' ω' h3 h4
end Go.Proofs.YthdaabapiicnhaaGreatDoor.Av
