/- Steps of the proof. -/
import Derived.Laws.EntriesVeiled
import Derived.Test.YthdaabapiicnhaaGreatDoorTr15
set_option linter.all false
set_option maxRecDepth 100000
set_option maxHeartbeats 4000000
open Go.Proofs.Tryz
namespace Go.Proofs.YthdaabapiicnhaaGreatDoor
open Go.RowKit
def inC(x:ZT)(v:Value):List Value:=Qk x.1++[.int .u32 (x.2.1:Nat),v,.int .u32 (x.2.2.2:Nat)]
def Vy(x:J5)(v:Value):List Value:=[.int .u64 (x.1:Nat),v]
def inS(x:ZT):List UInt8:=x.2.2.1
def RX(x:J5):List UInt8:=x.2
def RowS{α:Type}(f:α→Value→List Value)(sc:α→List UInt8)(T:List α)(v:Value)(w:World):Prop:=∃L:List (α×Value),L.map (·.1)=T∧(∀x∈L,CloV (sc x.1) x.2 w)∧SlV (fun x:α×Value=>f x.1 x.2) L v w
theorem RowS.calls{α:Type}{f:α→Value→List Value}{sc:α→List UInt8}{T:List α}{v:Value}{w w':World}(h:RowS f sc T v w)(hb:Below w.heap.size w w'):RowS f sc T v w':=by
 obtain⟨L,h1,h2,h3⟩:=h;exact⟨L,h1,fun x hx=>(h2 x hx).keep hb,h3.calls hb⟩
def TxV(x:TxM)(C:List Value)(w:World):Prop:=∃vi vo,C=[.int .u32 (x.1:Nat),vi,vo,.int .u32 (x.2.2.2:Nat)]∧RowS inC inS x.2.1 vi w∧RowS Vy RX x.2.2.1 vo w
theorem TxV.calls{x:TxM}{C:List Value}{w w':World}(h:TxV x C w)(hb:Below w.heap.size w w'):TxV x C w':=by
 obtain⟨vi,vo,h1,h2,h3⟩:=h;exact⟨vi,vo,h1,h2.calls hb,h3.calls hb⟩
theorem Jm(x:ZT)(v:Value)(h:x.1.length=32):(inC x v).length=35:=by simp[inC,Qk,h]
theorem Sy(x:ZT)(v:Value)(hv:v.oneCell'=true):(inC x v).toArray.all (·.oneCell')=true:=by
 rw[QdX];intro u hu;have hu:u∈inC x v:=by simpa using hu
 unfold inC at hu;rcases Qfi.1 hu with h|h
 ·exact Wv _ u h
 ·simp only[QdW,Qf3,or_false] at h;rcases h with rfl|rfl|rfl
  ·rfl
  ·exact hv
  ·rfl
theorem KT(x:ZT)(v:Value)(h:x.1.length=32):(inC x v).toArray[32]? =some (.int .u32 (x.2.1:Nat))∧(inC x v).toArray[33]? =some v∧(inC x v).toArray[34]? =some (.int .u32 (x.2.2.2:Nat)):=by
 have e:(Qk x.1).length=32:=by rw[Qf,h]
 refine⟨?_,?_,?_⟩ <;> (rw[Qdp];unfold inC;rw[QdB (by omega),e];rfl)
theorem W6{l:List UInt8}{u:Value}{w:World}(h:CloV l u w):∃a c,u= .slice a l.length c∧RdS w a l∧l.length≤c∧c≤maxLen∧(a=none→l.length=0∧c=0):=h
theorem RowS.at{α:Type}{f:α→Value→List Value}{sc:α→List UInt8}{T:List α}{a:Option Addr}{n c:Nat}{w:World}{K:Nat}(h:RowS f sc T (.slice a n c) w)(hK:∀x∈T,∀v,(f x v).length=K)(hK0:0<K){k:Nat}{x:α}(hx:T[k]? =some x):
  ∃g o v,a=some ⟨g,o,none⟩∧g<w.heap.size∧w.rangeAt g (o+k*K) (f x v)∧CloV (sc x) v w:=by
 obtain⟨L,rfl,h2,h3⟩:=h;rw[QdI] at hx;cases hl:L[k]? with
 | none=>rw[hl] at hx;cases hx
 | some y=>
  rw[hl] at hx;injection hx with hx
  subst hx;obtain⟨g,o,h4,h5,h6⟩:=SlV.at (fun z hz=>hK _ (List.mem_map_of_mem hz) z.2) h3 hl hK0;exact⟨g,o,y.2,h4,h5,h6,h2 y (QdT hl)⟩
theorem RowS.slice{α:Type}{f:α→Value→List Value}{sc:α→List UInt8}{T:List α}{v:Value}{w:World}(h:RowS f sc T v w):∃a c,v= .slice a T.length c∧T.length≤c:=by
 obtain⟨L,rfl,_,a,c,h3,_,h4,_⟩:=h;exact⟨a,c,by rw[QdA];exact h3,by rw[QdA];exact h4⟩
def Qdc(x:ZT):Prop:=x.1.length=32∧x.2.1<4294967296∧x.2.2.1.length≤10000∧x.2.2.2<4294967296
def QbD(x:J5):Prop:=x.1<18446744073709551616∧x.2.length≤10000
def Pf(x:TxM):Prop:=x.1<4294967296∧1≤x.2.1.length∧x.2.1.length≤1000∧(∀y∈x.2.1,Qdc y)∧x.2.2.1.length≤1000∧(∀y∈x.2.2.1,QbD y)∧x.2.2.2<4294967296
theorem TE(x:TxM)(hg:Pf x)(C:List Value)(w:World)(hx:TxV x C w):
  Calls prog 87 #[.agg C.toArray] w fun e w'=>e= .returned (.bool true)∧Below w.heap.size w w':=by
 obtain⟨vi,vo,rfl,hi,ho⟩:=hx;obtain⟨ai,ci,rfl,hci⟩:=hi.slice;obtain⟨ao,co,rfl,hco⟩:=ho.slice;obtain⟨ni,hni⟩:=nE (x.2.1.length);obtain⟨no,hno⟩:=nE (x.2.2.1.length);rw[←hni] at hi ⊢;rw[←hno] at ho ⊢;have n1:1≤ni:=by rw[hni];exact hg.2.1
 have n2:ni≤1000:=by rw[hni];exact hg.2.2.1
 have n3:no≤1000:=by rw[hno];exact hg.2.2.2.2.1
 have E:=H5 hi ho hg hni hno;clear hi ho hg hni hno hci hco;have m1:¬(ni:Int)<1:=by omega
 have m2:¬(1000:Int)<(ni:Int):=by omega
 have m3:¬(1000:Int)<(no:Int):=by omega
 have X0:Blk (w.alloc (.cells #[.int .u32 (x.1:Nat),.slice ai ni ci,.slice ao no co,.int .u32 (x.2.2.2:Nat)] 52)) w.heap.size 52 #[.int .u32 (x.1:Nat),.slice ai ni ci,.slice ao no co,.int .u32 (x.2.2.2:Nat)]:=Blk.new _ _ _;have B0:Below w.heap.size w (w.alloc (.cells #[.int .u32 (x.1:Nat),.slice ai ni ci,.slice ao no co,.int .u32 (x.2.2.2:Nat)] 52)):=ba (Below.refl _ _) _;have XX:=H2 X0 B0;clear X0 B0;go_enter func87,ntmps87;go_wp2_with fail;generalize w.alloc _=w1 at *;go_loopw [26] (fun i wr=>∃k:Nat,k≤ni∧i= .int .i64 k∧Blk wr w.heap.size 52 #[.int .u32 (x.1:Nat),.slice ai ni ci,.slice ao no co,.int .u32 (x.2.2.2:Nat)]∧Below w.heap.size w wr) (fun i _=>ni-(intOf i).toNat)
 case atStart=>exact⟨0,Qdw _,rfl,XX.out⟩
 case round=>
  obtain⟨k,hk,rfl,hX,hB⟩:=hrel;by_cases hlt:k<ni
  ·obtain⟨y,hy⟩:∃y,(x.2.1)[k]? =some y:=⟨(x.2.1)[k]'(by have:=E.out.2.2.2.1;omega),Qdk _⟩;have hgd:=E.out.2.2.1.2.2.2.1 y (QdT hy);obtain⟨g,o,v,rfl,hgl,hrng,hclo⟩:=E.out.1.at (K:=35) (fun z hz u=>Jm z u (E.out.2.2.1.2.2.2.1 z hz).1) (by decide) hy;obtain⟨sa,sc',rfl,-,-,-,-⟩:=W6 hclo;obtain⟨q,hq⟩:=nE ((inS y).length);have q1:q≤10000:=by rw[hq];exact hgd.2.2.1
   have q2:¬(10000:Int)<(q:Int):=by omega
   rw[←hq] at hrng hclo;have hrng2:=QY hrng hB hgl;have hidx:=fun w=>YV (P:=prog) 49 217 35 underlying49 (by kernel_rfl) g o ni ci k hlt w;have hkn:(k:Int)<(ni:Int):=by omega
   obtain⟨C,hC⟩:=nE ((inC y (.slice sa q sc')).toArray);have hlC:(inC y (.slice sa q sc')).length=35:=Jm _ _ hgd.1;have sC:C.size=35:=by rw[hC,Qdv,hlC]
   have iC:(prog.info? 217).map (·.size)=some C.size:=by rw[sC];kernel_rfl
   have iCl:(prog.info? 217).map (·.size)=some (inC y (.slice sa q sc')).length:=(show (prog.info? 217).map (·.size)=some 35 by kernel_rfl).trans (congrArg some hlC.symm);have zC:(ZIn:Array Value).size=C.size:=by rw[sC];rfl
   have aC:C.all (·.oneCell')=true:=by rw[hC];exact Sy _ _ rfl
   obtain⟨j35,hj⟩:=nE (o+k*35);rw[←hj] at hrng2 hidx;have NN:Blk (wr.alloc (.cells ZIn 217)) wr.heap.size 217 ZIn:=Blk.new _ _ _;have B5:Below wr.heap.size wr (World.setRow (wr.alloc (.cells ZIn 217)) wr.heap.size C):=Qb (ba (Below.refl _ _) _) (Qde _) C;have b5:=hB.size;have Q:=H7 hrng2 hC NN (bt (show Below w.heap.size w wr from hB) B5) hX hgd.1 B5;clear hrng hrng2 hC NN B5 hX hB hgd hy hclo hj hq sC hlC;go_upto_region 6 with (first|(with_reducible refine wpList_load_mid rfl _ _ rfl g j35 rfl (inC y (.slice sa q sc')) _ Q.out.1 underlying217 rfl iCl ?_)|(rw[←Q.out.2.1];with_reducible refine Ql Q.out.2.2.1 _ _ _ _ rfl rfl rfl rfl iC zC aC ?_));have h33:(World.setRow (wr.alloc (.cells ZIn 217)) wr.heap.size C).cell? ⟨wr.heap.size,33,none⟩=some (.slice sa q sc'):=((Q.out.2.2.1.row C).cell 33).trans (by rw[Q.out.2.1];exact (KT y (.slice sa q sc') Q.out.2.2.2.2.2.1).2.1);have hX5:=Q.out.2.2.2.2.1.calls Q.out.2.2.2.2.2.2;have Q5:=H2 Q.out.2.2.2.1 hX5;clear hX5;generalize World.setRow _ _ _=w5 at *;generalize wr.heap.size=g6 at *;go_wp2_with fail;go_roundw
   case rel=>exact⟨k+1,by omega,by go_num,Q5.out.2,Q5.out.1⟩
   case measure=>simp[intOf];omega
  ·obtain rfl:k=ni:=by omega
   have cX2:wr.cell? ⟨w.heap.size,2,none⟩=some (.slice ao no co):=(hX.cell 2).trans rfl;have XX:=H2 hX hB;clear hX hB;go_wp2_with fail;go_loopw [38] (fun i wr=>∃k:Nat,k≤no∧i= .int .i64 k∧Below w.heap.size w wr) (fun i _=>no-(intOf i).toNat)
   case atStart=>exact⟨0,Qdw _,rfl,XX.out.2⟩
   case round=>
    clear cX2;obtain⟨k,hk,rfl,hB⟩:=hrel;by_cases hlt:k<no
    ·obtain⟨y,hy⟩:∃y,(x.2.2.1)[k]? =some y:=⟨(x.2.2.1)[k]'(by have:=E.out.2.2.2.2;omega),Qdk _⟩;have hgd:=E.out.2.2.1.2.2.2.2.2.1 y (QdT hy);obtain⟨g,o,v,rfl,hgl,hrng,hclo⟩:=E.out.2.1.at (K:=2) (fun z hz u=>rfl) (by decide) hy;obtain⟨sa,sc',rfl,-,-,-,-⟩:=W6 hclo;obtain⟨q,hq⟩:=nE ((RX y).length);have q1:q≤10000:=by rw[hq];exact hgd.2
     have q2:¬(10000:Int)<(q:Int):=by omega
     rw[←hq] at hrng hclo;have hrng2:=QY hrng hB hgl;have hidx:=fun w=>YV (P:=prog) 50 219 2 underlying50 (by kernel_rfl) g o no co k hlt w;have hkn:(k:Int)<(no:Int):=by omega
     obtain⟨C,hC⟩:=nE ((Vy y (.slice sa q sc')).toArray);have hlC:(Vy y (.slice sa q sc')).length=2:=rfl;have sC:C.size=2:=by rw[hC,Qdv,hlC]
     have iC:(prog.info? 219).map (·.size)=some C.size:=by rw[sC];kernel_rfl
     have iCl:(prog.info? 219).map (·.size)=some (Vy y (.slice sa q sc')).length:=(show (prog.info? 219).map (·.size)=some 2 by kernel_rfl).trans (congrArg some hlC.symm);have zC:(#[.int .u64 0,.slice none 0 0]:Array Value).size=C.size:=by rw[sC];rfl
     have aC:C.all (·.oneCell')=true:=by rw[hC];simp[Vy,Value.oneCell']
     obtain⟨j35,hj⟩:=nE (o+k*2);rw[←hj] at hrng2 hidx;have NN:Blk (wr.alloc (.cells #[.int .u64 0,.slice none 0 0] 219)) wr.heap.size 219 #[.int .u64 0,.slice none 0 0]:=Blk.new _ _ _;have B5:Below wr.heap.size wr (World.setRow (wr.alloc (.cells #[.int .u64 0,.slice none 0 0] 219)) wr.heap.size C):=Qb (ba (Below.refl _ _) _) (Qde _) C;have b5:=hB.size;have Q:=H4 hrng2 hC NN (bt (show Below w.heap.size w wr from hB) B5);clear hrng hrng2 hC NN B5 hB hgd hy hclo hj hq sC hlC;go_upto_region 12 with (first|(with_reducible refine wpList_load_mid rfl _ _ rfl g j35 rfl (Vy y (.slice sa q sc')) _ Q.out.1 underlying219 rfl iCl ?_)|(rw[←Q.out.2.1];with_reducible refine Ql Q.out.2.2.1 _ _ _ _ rfl rfl rfl rfl iC zC aC ?_));have h33:(World.setRow (wr.alloc (.cells #[.int .u64 0,.slice none 0 0] 219)) wr.heap.size C).cell? ⟨wr.heap.size,1,none⟩=some (.slice sa q sc'):=((Q.out.2.2.1.row C).cell 1).trans (by rw[Q.out.2.1];rfl);have Q5:=Lib.hid Q.out.2.2.2;generalize World.setRow _ _ _=w5 at *;generalize wr.heap.size=g6 at *;go_wp2_with fail;go_roundw
     case rel=>exact⟨k+1,by omega,by go_num,Q5.out⟩
     case measure=>simp[intOf];omega
    ·obtain rfl:k=no:=by omega
     have XX:=Lib.hid hB;clear hB;go_wp2_with fail;exact Qdg (v:=.bool true) (by simp[results,results87,go_sem]) rfl ⟨rfl,XX.out⟩
def TxI(w:World)(G0 B C:Nat)(X:Array Value)(m:Nat)(xs:List UInt8)(v:Value)(W:World):Prop:=
 TxB B w.heap.size m xs v W∧Blk W C 250 #[.func (.func 127) #[] #[.pointer (some ⟨B,0,none⟩)]]∧v.ownBlock≠some C∧Blk W G0 52 X∧v.ownBlock≠some G0∧Below w.heap.size w W
theorem TxI.calls{w:World}{G0 B C:Nat}{X:Array Value}{m:Nat}{xs:List UInt8}{v:Value}{W W':World}(h:TxI w G0 B C X m xs v W)(hb:Below W.heap.size W W'):TxI w G0 B C X m xs v W':=
 ⟨h.1.calls hb,h.2.1.calls hb,h.2.2.1,h.2.2.2.1.calls hb,h.2.2.2.2.1,bt h.2.2.2.2.2 hb⟩
theorem TxI.step{w:World}{G0 B C:Nat}{X:Array Value}{m m':Nat}{xs xs':List UInt8}{v u:Value}{W W':World}(h:TxI w G0 B C X m xs v W)(hg:GrowB B W v W' u)(ht:TxB B w.heap.size m' xs' u W')(h1:C≠B)(h2:G0≠B):TxI w G0 B C X m' xs' u W':=
 ⟨ht,hg.blk h.2.1 h1 h.2.2.1,hg.off h.2.1.lt h.2.2.1,hg.blk h.2.2.2.1 h2 h.2.2.2.2.1,hg.off h.2.2.2.1.lt h.2.2.2.2.1,hg.below h.2.2.2.2.2 h.2.2.2.2.2.size ht.2.2.2 h.1.from⟩
def inB(y:ZT):List UInt8:=y.1++(leK y.2.1 4++((QE y.2.2.1.length++y.2.2.1)++leK y.2.2.2 4))
def CI(y:J5):List UInt8:=leK y.1 8++(QE y.2.length++y.2)
theorem Qbg(y:ZT):Yn.put y=inB y:=by
 show y.1++(leK y.2.1 4++((QL 10000 _).put y.2.2.1++leK y.2.2.2 4))=_;rw[GW];rfl
theorem MC(y:J5):XG.put y=CI y:=by
 show leK y.1 8++(QL 10000 _).put y.2=_;rw[GW];rfl
theorem Qa8(x:TxM):XK.put x=leK x.1 4++QE x.2.1.length++x.2.1.flatMap inB++QE x.2.2.1.length++x.2.2.1.flatMap CI++leK x.2.2.2 4:=by
 have e1:Yn.put=inB:=funext Qbg;have e2:XG.put=CI:=funext MC;show leK x.1 4++(Cu Yn.put x.2.1++(Cu XG.put x.2.2.1++leK x.2.2.2 4))=_;rw[e1,e2];unfold Cu Ju;simp only[Qd0]
theorem Tv{α:Type}(f:α→List UInt8)(T:List α)(k:Nat)(y:α)(h:T[k]? =some y):(T.take (k+1)).flatMap f=(T.take k).flatMap f++f y:=by
 rw[QeI,h,Qek];simp
theorem EF{l:List UInt8}{a:Option Addr}{n c:Nat}{w:World}(h:CloV l (.slice a n c) w):l≠[]→∀ad,a=some ad→ad.block<w.heap.size:=fun hl ad hd=>by
 obtain⟨a',c',e,h1,_⟩:=h;injection e with e1
 subst e1;rcases h1 with h1|⟨g,off,h1,h2,_⟩
 ·exact absurd h1 hl
 ·rw[h1] at hd;injection hd with hd
  subst hd;exact h2
theorem Mm(g:Nat)(w:World):(Instr.sliceAt 27 (.pointer (some ⟨g,0,none⟩)) none none none).run prog w= .ok (.slice (some ⟨g,0,none⟩) 32 32) w:=by kernel_rfl
theorem Qaf(x:TxM)(hg:Pf x)(C:List Value)(w:World)(hx:TxV x C w):
  Calls prog 94 #[.agg C.toArray] w fun e w'=>∃u,e= .returned (.tuple #[u,.int .i64 0])∧Below w.heap.size w w'∧CloV (XK.put x) u w'∧(∀k,u.ownBlock=some k→w.heap.size≤k):=by
 obtain⟨i0,hi,hz0',hz1',hz2'⟩:=info_parts (show (prog.info? 5).map (fun i=>(i.zero,i.size,i.bytes))=some (some (.int .u8 0),1,1) by kernel_rfl);have J:=H4 hi hz0' hz1' hz2';clear hi hz0' hz1' hz2';have cS:=TE x hg C;obtain⟨vi,vo,rfl,hi,ho⟩:=hx;obtain⟨ai,ci,rfl,hci⟩:=hi.slice;obtain⟨ao,co,rfl,hco⟩:=ho.slice;obtain⟨ni,hni⟩:=nE (x.2.1.length);obtain⟨no,hno⟩:=nE (x.2.2.1.length);obtain⟨p,hp⟩:=nE (x.1);obtain⟨z,hz⟩:=nE (x.2.2.2);rw[←hni] at hi;rw[←hno] at ho;rw[←hni,←hno,←hp,←hz] at cS;rw[←hni,←hno,←hp,←hz];have n1:1≤ni:=by rw[hni];exact hg.2.1
 have n2:ni≤1000:=by rw[hni];exact hg.2.2.1
 have n3:no≤1000:=by rw[hno];exact hg.2.2.2.2.1
 have p1:p<4294967296:=by rw[hp];exact hg.1
 have z1:z<4294967296:=by rw[hz];exact hg.2.2.2.2.2.2
 have cS2:=fun w' (hb:Below w.heap.size w w')=>cS w' ⟨.slice ai ni ci,.slice ao no co,by rw[←hp,←hz],hi.calls hb,ho.calls hb⟩;have E:=H8 hi ho hg hni hno hp hz cS2;clear hi ho hg hni hno hci hco hp hz cS cS2;have X0:Blk (w.alloc (.cells #[.int .u32 (p:Nat),.slice ai ni ci,.slice ao no co,.int .u32 (z:Nat)] 52)) w.heap.size 52 #[.int .u32 (p:Nat),.slice ai ni ci,.slice ao no co,.int .u32 (z:Nat)]:=Blk.new _ _ _;have B0:Below w.heap.size w (w.alloc (.cells #[.int .u32 (p:Nat),.slice ai ni ci,.slice ao no co,.int .u32 (z:Nat)] 52)):=ba (Below.refl _ _) _;have XX:=H2 X0 B0;clear X0 B0;go_enter func94,ntmps94;go_wp2_with fail;refine (E.out.2.2.2.2.2.2.2 _ XX.out.2).mono ?_;rintro e w1 ⟨rfl,hb1⟩;have X1:=XX.out.1.calls hb1;have B1:=bt XX.out.2 hb1;have c10:w1.cell? ⟨w.heap.size,0,none⟩=some (.int .u32 (p:Nat)):=(X1.cell 0).trans rfl;have XX1:=H2 X1 B1;clear XX X1 B1 hb1;have V0:Blk ((w1.alloc (.cells #[.slice none 0 0] 31)).alloc (.cells #[.func (.func 127) #[] #[.pointer (some ⟨w1.heap.size,0,none⟩)]] 250)) w1.heap.size 31 #[.slice none 0 0]:=(Blk.new _ _ _).alloc _;have V1:Blk ((w1.alloc (.cells #[.slice none 0 0] 31)).alloc (.cells #[.func (.func 127) #[] #[.pointer (some ⟨w1.heap.size,0,none⟩)]] 250)) (w1.heap.size+1) 250 #[.func (.func 127) #[] #[.pointer (some ⟨w1.heap.size,0,none⟩)]]:=Blk.newAt _ _ _ (by simp only[Qdu]);have V2:Below w1.heap.size w1 ((w1.alloc (.cells #[.slice none 0 0] 31)).alloc (.cells #[.func (.func 127) #[] #[.pointer (some ⟨w1.heap.size,0,none⟩)]] 250)):=ba (ba (Below.refl _ _) _) _;have X2:=XX1.out.1.calls V2;have c20:((w1.alloc (.cells #[.slice none 0 0] 31)).alloc (.cells #[.func (.func 127) #[] #[.pointer (some ⟨w1.heap.size,0,none⟩)]] 250)).cell? ⟨w.heap.size,0,none⟩=some (.int .u32 (p:Nat)):=(X2.cell 0).trans rfl;have hp64:IntKind.u64.wrap (p:Int)=(p:Int):=Ye p (by omega);have lt0:w.heap.size<w1.heap.size:=XX1.out.1.lt;have TI:TxI w w.heap.size w1.heap.size (w1.heap.size+1) #[.int .u32 (p:Nat),.slice ai ni ci,.slice ao no co,.int .u32 (z:Nat)] 0 [] (.slice none 0 0) ((w1.alloc (.cells #[.slice none 0 0] 31)).alloc (.cells #[.func (.func 127) #[] #[.pointer (some ⟨w1.heap.size,0,none⟩)]] 250)):=
  ⟨⟨V0,QeJ _ _ _ _,by simp[Value.ownBlock],by omega⟩,V1,by simp[Value.ownBlock],X2,by simp[Value.ownBlock],bt XX1.out.2 V2⟩
 have cP1:=JU w1.heap.size w.heap.size 0 [] p 4 (by omega) (by omega) (.slice none 0 0) _ TI.1;have K0:=H2 TI cP1;clear V0 V1 V2 X2 TI cP1 XX1;go_wp2_with fail;refine K0.out.2.mono ?_;rintro e w3 ⟨rfl,u,hT,hG⟩;have T3:=K0.out.1.step hG hT (by omega) (by omega);rw[QdU,Qd5] at T3;clear K0 hT hG c10 c20;generalize w1.heap.size=B at *;have c31:w3.cell? ⟨w.heap.size,1,none⟩=some (.slice ai ni ci):=(T3.2.2.2.1.cell 1).trans rfl;have c3c:w3.cell? ⟨B+1,0,none⟩=some (.func (.func 127) #[] #[.pointer (some ⟨B,0,none⟩)]):=(T3.2.1.cell 0).trans rfl;have cP2:=Pg B w.heap.size 4 (leK p 4) ni (by omega) (by omega) u w3 T3.1;have K1:=H2 T3 cP2;clear T3 cP2;go_wp2_with fail;refine K1.out.2.mono ?_;rintro e w4 ⟨rfl,u4,hT,hG⟩;have T4:=K1.out.1.step hG hT (by omega) (by omega);clear c31 c3c;have c31:w4.cell? ⟨w.heap.size,1,none⟩=some (.slice ai ni ci):=(T4.2.2.2.1.cell 1).trans rfl;have hsn:=Xp ni;have hso:=Xp no;obtain⟨Pi,hPi⟩:=nE (leK p 4++QE ni);rw[←hPi] at T4;have K2:=Lib.hid T4;clear K1 T4 hT hG w3 u;go_wp2_with fail;go_loopw [31] (fun i wr=>∃(k m:Nat) (v:Value),k≤ni∧i= .int .i64 k∧m≤20+k*10100∧TxI w w.heap.size B (B+1) #[.int .u32 (p:Nat),.slice ai ni ci,.slice ao no co,.int .u32 (z:Nat)] m (Pi++(x.2.1.take k).flatMap inB) v wr) (fun i _=>ni-(intOf i).toNat)
 case atStart=>exact⟨0,4+QI ni,u4,Qdw _,rfl,by omega,by rw[Qfb];show TxI _ _ _ _ _ _ (Pi++[]) _ _;rw[QdF];exact K2.out⟩
 case round=>
  clear c31 K2;obtain⟨k,m,v,hk,rfl,hm,hT⟩:=hrel;have hB:Below w.heap.size w wr:=hT.2.2.2.2.2;have mB:m≤20+1000*10100:=by omega
  have lB:B<wr.heap.size:=hT.1.1.lt;obtain⟨va,vc,rfl⟩:=Qh hT.1.2.1;by_cases hlt:k<ni
  ·obtain⟨y,hy⟩:∃y,(x.2.1)[k]? =some y:=⟨(x.2.1)[k]'(by have:=E.out.2.2.2.1;omega),Qdk _⟩;have hgd:=E.out.2.2.1.2.2.2.1 y (QdT hy);obtain⟨g,o,v,rfl,hgl,hrng,hclo⟩:=E.out.1.at (K:=35) (fun z hz u=>Jm z u (E.out.2.2.1.2.2.2.1 z hz).1) (by decide) hy;obtain⟨sa,sc',rfl,-,-,-,-⟩:=W6 hclo;obtain⟨q,hq⟩:=nE ((inS y).length);have q1:q≤10000:=by rw[hq];exact hgd.2.2.1
   have q2:¬(10000:Int)<(q:Int):=by omega
   rw[←hq] at hrng hclo;have hrng2:=QY hrng hB hgl;have hidx:=fun w=>YV (P:=prog) 49 217 35 underlying49 (by kernel_rfl) g o ni ci k hlt w;have hkn:(k:Int)<(ni:Int):=by omega
   obtain⟨C,hC⟩:=nE ((inC y (.slice sa q sc')).toArray);have hlC:(inC y (.slice sa q sc')).length=35:=Jm _ _ hgd.1;have sC:C.size=35:=by rw[hC,Qdv,hlC]
   have iC:(prog.info? 217).map (·.size)=some C.size:=by rw[sC];kernel_rfl
   have iCl:(prog.info? 217).map (·.size)=some (inC y (.slice sa q sc')).length:=(show (prog.info? 217).map (·.size)=some 35 by kernel_rfl).trans (congrArg some hlC.symm);have zC:(ZIn:Array Value).size=C.size:=by rw[sC];rfl
   have aC:C.all (·.oneCell')=true:=by rw[hC];exact Sy _ _ rfl
   obtain⟨j35,hj⟩:=nE (o+k*35);rw[←hj] at hrng2 hidx;have NN:Blk (wr.alloc (.cells ZIn 217)) wr.heap.size 217 ZIn:=Blk.new _ _ _;have B5:Below wr.heap.size wr (World.setRow (wr.alloc (.cells ZIn 217)) wr.heap.size C):=Qb (ba (Below.refl _ _) _) (Qde _) C;have b5:=hB.size;have f6:=Ga hT.1.2.1 (Qde _);have hlo:inS y≠[]→∀ad,sa=some ad→ad.block<w.heap.size:=EF hclo;have Q:=H10 hrng2 hC NN hT B5 hgd hclo hq hy f6;clear hrng hrng2 hC NN B5 hT hB hgd hy hclo hj hq sC hlC f6;go_upto_region 12 with (first|(with_reducible refine wpList_load_mid rfl _ _ rfl g j35 rfl (inC y (.slice sa q sc')) _ Q.out.1 underlying217 rfl iCl ?_)|(rw[←Q.out.2.1];with_reducible refine Ql Q.out.2.2.1 _ _ _ _ rfl rfl rfl rfl iC zC aC ?_));have NB:=(Q.out.2.2.1.row C).to Q.out.2.1;have T5:=Q.out.2.2.2.1.calls Q.out.2.2.2.2.1;have Q5:=H2 T5 NB;clear T5 NB;generalize World.setRow _ _ _=w5 at *;generalize wr.heap.size=g6 at *;have e32:=(KT y (.slice sa q sc') Q.out.2.2.2.2.2.1.1);obtain⟨yi,hyi⟩:=nE (y.2.1);obtain⟨yz,hyz⟩:=nE (y.2.2.2);rw[←hyi,←hyz] at e32;have yi4:yi<4294967296:=by rw[hyi];exact Q.out.2.2.2.2.2.1.2.1
   have yz4:yz<4294967296:=by rw[hyz];exact Q.out.2.2.2.2.2.1.2.2.2
   have yi64:IntKind.u64.wrap (yi:Int)=(yi:Int):=Ye yi (by omega);have yz64:IntKind.u64.wrap (yz:Int)=(yz:Int):=Ye yz (by omega);have EY:=H3 e32 hyi hyz;clear e32 hyi hyz;have hsq:=Xp q;go_wp2_with fail;refine Zf 3 [some 35,some 36,some 37,some 38,none] (FL [EqV (.slice va m vc),EqV (.pointer (some ⟨g6,0,none⟩)),EqV (.slice (some ⟨g6,0,none⟩) 32 32)]) (QO ⟨Qa _,Qa _,Qa _,trivial⟩) (by kernel_rfl) rfl rfl rfl rfl rfl (by kernel_rfl) ⟨.inr ⟨gk0 rfl,fun A w' γ hb hF hs=>Qd (Qq 31 (.tmp 4) rfl _ ((hs.2 4 rfl).trans rfl) _ ((Q5.out.1.calls hb).1.1.cell 0) _ underlying31 rfl)⟩,.inr ⟨gk0 rfl,fun A w' γ hb hF hs=>Qd (Qs 217 (.tmp 9) 0 0 rfl (g6) ((hs.2 9 rfl).trans rfl) fun _ _=>by kernel_rfl)⟩,.inr ⟨gk0 rfl,fun A w' γ hb hF hs=>Qd (ZO _ (.tmp 36) none none rfl ((hs.1 1 rfl 36 rfl).trans (hF 1 rfl)) rfl rfl (Mm g6 w'))⟩,trivial⟩ ?_;intro γ wx hb hF;have ez0:γ 0= .slice va m vc:=hF 0 (by decide);have ez1:γ 1= .pointer (some ⟨g6,0,none⟩):=hF 1 (by decide);have ez2:γ 2= .slice (some ⟨g6,0,none⟩) 32 32:=hF 2 (by decide);simp only[List.take,List.drop,Fr,QdC,Act.put,Qdh,Qdy,Qdz,Nat.reduceAdd];rw[ez0,ez1,ez2];clear ez0 ez1 ez2 hF;have T6:=Q5.out.1.calls hb;have N6:=Q5.out.2.calls hb;have rd6:RdS wx (some ⟨g6,0,none⟩) y.1:=.inr ⟨g6,0,rfl,N6.lt,fun i hi=>by
    rw[N6.cell,Qdp,Qd5];unfold inC;rw[Qd3 (by rw[Qf];exact hi)];simp[Qk,List.getD,hi]⟩
   have bsz:=T6.1.size;have K6:=H3 T6 N6 rd6;clear T6 N6 rd6 Q5 hb;refine PH K6.out.1.1.2.1 rfl _ _ 31 rfl underlying31 i0 J.out.1 J.out.2.1 J.out.2.2.1 J.out.2.2.2 rfl (some ⟨g6,0,none⟩) 32 32 y.1 rfl K6.out.2.2 Q.out.2.2.2.2.2.1.1 (fun h=>by cases h) (by omega) bsz ?_;intro v7 w7 o7 g7;obtain⟨a7,c7,rfl⟩:=Qh o7;replace o7:w7.ownsRow w.heap.size 5 1 (.slice a7 (m+32) c7) (m+32) ((Pi++(x.2.1.take k).flatMap inB++y.1).map fun c=>Value.int .u8 (c.toNat:Int)):=by simpa[Qd0] using o7
   have B7:=g7.blk K6.out.1.1.1 K6.out.1.1.2.2.1;have c7':w7.cell? ⟨B,0,none⟩=some (.slice va m vc):=(B7.cell 0).trans rfl;have f7:=B7.frozen 0;have Z:=TxB.put K6.out.1.1 g7 o7;have T8:=K6.out.1.step Z.2 Z.1 (by omega) (by omega);have N8:=Z.2.blk K6.out.2.1 (by omega) Q.out.2.2.2.2.2.2.2.2.2;have f8:=Z.2.off (show g6<wx.heap.size from K6.out.2.1.lt) Q.out.2.2.2.2.2.2.2.2.2;have c32:(w7.setCell ⟨B,0,none⟩ (.slice a7 (m+32) c7)).cell? ⟨g6,32,none⟩=some (.int .u32 (yi:Nat)):=(N8.cell 32).trans EY.out.1.1;have cP:=JU B w.heap.size (m+32) _ yi 4 (by omega) (by omega) _ _ T8.1;have K8:=H4 T8 N8 f8 cP;clear T8 N8 f8 cP Z B7 o7 g7;go_wp2_with fail;refine K8.out.2.2.2.mono ?_;rintro e w9 ⟨rfl,u9,hT9,hG9⟩;have T9:=K8.out.1.step hG9 hT9 (by omega) (by omega);have N9:=hG9.blk K8.out.2.1 (by omega) K8.out.2.2.1;have f9:=hG9.off K8.out.2.1.lt K8.out.2.2.1;clear c7' f7 c32 K8 hG9 hT9 K6;obtain⟨a9,c9,rfl⟩:=Qh T9.1.2.1;have c33:w9.cell? ⟨g6,33,none⟩=some (.slice sa q sc'):=(N9.cell 33).trans EY.out.1.2.1;have hclo9:=(show CloV (inS y) (.slice sa q sc') w from Q.out.2.2.2.2.2.2.1).keep T9.2.2.2.2.2;obtain⟨sa',sc2,e9,r1,r2,r3,r4⟩:=hclo9;injection e9 with e1 e2 e3
   subst e1 e3;rw[←e2] at r2 r4;have cc9:w9.cell? ⟨B+1,0,none⟩=some (.func (.func 127) #[] #[.pointer (some ⟨B,0,none⟩)]):=(T9.2.1.cell 0).trans rfl;have cP:=TF B (B+1) w.heap.size (m+32+4) _ sa q sc' (inS y) e2.symm (by omega) r4 (by omega) _ w9 T9.1 T9.2.1 (by omega) T9.2.2.1 r1 (fun hl ad hd=>⟨by have:=hlo hl ad hd;omega,fun h=>by have:=T9.1.from _ h;have:=hlo hl ad hd;omega⟩);rw[e2] at cP;rw[←e2] at cP;have K9:=H5 T9 N9 f9 cP e2;clear T9 N9 f9 cP r1 r2 r3 r4 e2 cc9;go_wp2_with fail;refine K9.out.2.2.2.1.mono ?_;rintro e w10 ⟨rfl,u10,hT,hG⟩;have T10:=K9.out.1.step hG hT (by omega) (by omega);have N10:=hG.blk K9.out.2.1 (by omega) K9.out.2.2.1;have e2:=K9.out.2.2.2.2;clear c33 K9 hG hT;obtain⟨a10,c10,rfl⟩:=Qh T10.1.2.1;have c34:w10.cell? ⟨g6,34,none⟩=some (.int .u32 (yz:Nat)):=(N10.cell 34).trans EY.out.1.2.2;have cP:=JU B w.heap.size _ _ yz 4 (by omega) (by omega) _ _ T10.1;have K10:=H3 T10 cP e2;clear T10 cP N10 e2;go_wp2_with fail;refine K10.out.2.1.mono ?_;rintro e w11 ⟨rfl,u11,hT,hG⟩;have T11:=K10.out.1.step hG hT (by omega) (by omega);have e2:=K10.out.2.2;clear c34 K10 hG hT;have htk:=Tv inB x.2.1 k y Q.out.2.2.2.2.2.2.2.2.1;have K11:=H3 T11 htk e2;clear T11 htk e2;go_wp2_with fail;go_roundw
   case rel=>
    refine⟨k+1,m+32+4+QI q+q+4,u11,by omega,by go_num,by omega,?_⟩;rw[K11.out.2.1];have h:=K11.out.1;have e2:=K11.out.2.2;rw[show inB y=y.1++(leK y.2.1 4++((QE y.2.2.1.length++y.2.2.1)++leK y.2.2.2 4)) from rfl];rw[←EY.out.2.1,←EY.out.2.2];simp only[←Qd0] at h ⊢;unfold inS at e2 h;rw[←e2];exact h
   case measure=>simp[intOf];omega
  ·have hkn:ni=k:=by omega
   subst hkn;rw[Qd8 (Qfg E.out.2.2.2.1.symm)] at hT;have cX2:wr.cell? ⟨w.heap.size,2,none⟩=some (.slice ao no co):=(hT.2.2.2.1.cell 2).trans rfl;have c3c:wr.cell? ⟨B+1,0,none⟩=some (.func (.func 127) #[] #[.pointer (some ⟨B,0,none⟩)]):=(hT.2.1.cell 0).trans rfl;have cP2:=Pg B w.heap.size m _ no (by omega) (by omega) _ wr hT.1;have K1:=H2 hT cP2;clear hT cP2 hB;go_wp2_with fail;refine K1.out.2.mono ?_;rintro e w4 ⟨rfl,u4,hT,hG⟩;have T4:=K1.out.1.step hG hT (by omega) (by omega);have c42:w4.cell? ⟨w.heap.size,2,none⟩=some (.slice ao no co):=(T4.2.2.2.1.cell 2).trans rfl;obtain⟨Po,hPo⟩:=nE (Pi++x.2.1.flatMap inB++QE no);rw[←hPo] at T4;obtain⟨m4,hm4⟩:=nE (m+QI no);rw[←hm4] at T4;have K2:=Lib.hid T4;clear K1 T4 hT hG cX2 c3c;go_wp2_with fail;go_loopw [62] (fun i wr=>∃(k m:Nat) (v:Value),k≤no∧i= .int .i64 k∧m≤20+1000*10100+10+k*10100∧TxI w w.heap.size B (B+1) #[.int .u32 (p:Nat),.slice ai ni ci,.slice ao no co,.int .u32 (z:Nat)] m (Po++(x.2.2.1.take k).flatMap CI) v wr) (fun i _=>no-(intOf i).toNat)
   case atStart=>exact⟨0,m4,u4,Qdw _,rfl,by omega,by rw[Qfb];show TxI _ _ _ _ _ _ (Po++[]) _ _;rw[QdF];exact K2.out⟩
   case round=>
    clear c42 K2;obtain⟨k,m,v,hk,rfl,hm,hT⟩:=hrel;have hB:Below w.heap.size w wr:=hT.2.2.2.2.2;have mB:m≤20+2000*10100+10:=by omega
    have lB:B<wr.heap.size:=hT.1.1.lt;obtain⟨va,vc,rfl⟩:=Qh hT.1.2.1;by_cases hlt:k<no
    ·obtain⟨y,hy⟩:∃y,(x.2.2.1)[k]? =some y:=⟨(x.2.2.1)[k]'(by have:=E.out.2.2.2.2.1;omega),Qdk _⟩;have hgd:=E.out.2.2.1.2.2.2.2.2.1 y (QdT hy);obtain⟨g,o,v,rfl,hgl,hrng,hclo⟩:=E.out.2.1.at (K:=2) (fun z hz u=>rfl) (by decide) hy;obtain⟨sa,sc',rfl,-,-,-,-⟩:=W6 hclo;obtain⟨q,hq⟩:=nE ((RX y).length);have q1:q≤10000:=by rw[hq];exact hgd.2
     have q2:¬(10000:Int)<(q:Int):=by omega
     rw[←hq] at hrng hclo;have hrng2:=QY hrng hB hgl;have hidx:=fun w=>YV (P:=prog) 50 219 2 underlying50 (by kernel_rfl) g o no co k hlt w;have hkn:(k:Int)<(no:Int):=by omega
     obtain⟨C,hC⟩:=nE ((Vy y (.slice sa q sc')).toArray);have hlC:(Vy y (.slice sa q sc')).length=2:=rfl;have sC:C.size=2:=by rw[hC,Qdv,hlC]
     have iC:(prog.info? 219).map (·.size)=some C.size:=by rw[sC];kernel_rfl
     have iCl:(prog.info? 219).map (·.size)=some (Vy y (.slice sa q sc')).length:=(show (prog.info? 219).map (·.size)=some 2 by kernel_rfl).trans (congrArg some hlC.symm);have zC:(#[.int .u64 0,.slice none 0 0]:Array Value).size=C.size:=by rw[sC];rfl
     have aC:C.all (·.oneCell')=true:=by rw[hC];simp[Vy,Value.oneCell']
     obtain⟨j35,hj⟩:=nE (o+k*2);rw[←hj] at hrng2 hidx;have NN:Blk (wr.alloc (.cells #[.int .u64 0,.slice none 0 0] 219)) wr.heap.size 219 #[.int .u64 0,.slice none 0 0]:=Blk.new _ _ _;have B5:Below wr.heap.size wr (World.setRow (wr.alloc (.cells #[.int .u64 0,.slice none 0 0] 219)) wr.heap.size C):=Qb (ba (Below.refl _ _) _) (Qde _) C;have b5:=hB.size;have f6:=Ga hT.1.2.1 (Qde _);have hlo:RX y≠[]→∀ad,sa=some ad→ad.block<w.heap.size:=EF hclo;have Q:=H10 hrng2 hC NN hT B5 hgd hclo hq hy f6;clear hrng hrng2 hC NN B5 hT hB hgd hy hclo hj hq sC hlC f6;go_upto_region 21 with (first|(with_reducible refine wpList_load_mid rfl _ _ rfl g j35 rfl (Vy y (.slice sa q sc')) _ Q.out.1 underlying219 rfl iCl ?_)|(rw[←Q.out.2.1];with_reducible refine Ql Q.out.2.2.1 _ _ _ _ rfl rfl rfl rfl iC zC aC ?_));have NB:=(Q.out.2.2.1.row C).to Q.out.2.1;have T5:=Q.out.2.2.2.1.calls Q.out.2.2.2.2.1;obtain⟨yi,hyi⟩:=nE (y.1);have f6:=Q.out.2.2.2.2.2.2.2.2.2;have htk:=Tv CI x.2.2.1 k y Q.out.2.2.2.2.2.2.2.2.1;have hclo:=Q.out.2.2.2.2.2.2.1;have Q5:=H6 T5 NB f6 hyi htk hclo;clear T5 NB f6 hyi htk hclo;generalize World.setRow _ _ _=w5 at *;generalize wr.heap.size=g6 at *;clear Q;have hsq:=Xp q;have c50:w5.cell? ⟨g6,0,none⟩=some (.int .u64 (yi:Nat)):=(Q5.out.2.1.cell 0).trans (by rw[Q5.out.2.2.2.1];rfl);have cP:=JU B w.heap.size m _ yi 8 (by omega) (by omega) _ _ Q5.out.1.1;have K8:=Lib.hid cP;clear cP;go_wp2_with fail;refine K8.out.mono ?_;rintro e w9 ⟨rfl,u9,hT9,hG9⟩;have T9:=Q5.out.1.step hG9 hT9 (by omega) (by omega);have N9:=hG9.blk Q5.out.2.1 (by omega) Q5.out.2.2.1;clear c50 K8 hG9 hT9;obtain⟨a9,c9,rfl⟩:=Qh T9.1.2.1;have c33:w9.cell? ⟨g6,1,none⟩=some (.slice sa q sc'):=(N9.cell 1).trans rfl;have hclo9:=(show CloV (RX y) (.slice sa q sc') w from Q5.out.2.2.2.2.2).keep T9.2.2.2.2.2;obtain⟨sa',sc2,e9,r1,r2,r3,r4⟩:=hclo9;injection e9 with e1 e2 e3
     subst e1 e3;rw[←e2] at r2 r4;have cc9:w9.cell? ⟨B+1,0,none⟩=some (.func (.func 127) #[] #[.pointer (some ⟨B,0,none⟩)]):=(T9.2.1.cell 0).trans rfl;have cP:=TF B (B+1) w.heap.size (m+8) _ sa q sc' (RX y) e2.symm (by omega) r4 (by omega) _ w9 T9.1 T9.2.1 (by omega) T9.2.2.1 r1 (fun hl ad hd=>⟨by have:=hlo hl ad hd;omega,fun h=>by have:=T9.1.from _ h;have:=hlo hl ad hd;omega⟩);have K9:=H3 T9 cP e2;clear T9 N9 cP r1 r2 r3 r4 e2 cc9;go_wp2_with fail;refine K9.out.2.1.mono ?_;rintro e w11 ⟨rfl,u11,hT,hG⟩;have T11:=K9.out.1.step hG hT (by omega) (by omega);have e2:=K9.out.2.2;clear c33 K9 hG hT;have K11:=H3 T11 Q5.out.2.2.2.2.1 e2;clear T11 e2;go_wp2_with fail;go_roundw
     case rel=>
      refine⟨k+1,m+8+QI q+q,u11,by omega,by go_num,by omega,?_⟩;rw[K11.out.2.1];have h:=K11.out.1;have e2:=K11.out.2.2;rw[show CI y=leK y.1 8++(QE y.2.length++y.2) from rfl];rw[←Q5.out.2.2.2.1];simp only[←Qd0] at h ⊢;unfold RX at e2 h;rw[←e2];exact h
     case measure=>simp[intOf];omega
    ·have hkn:no=k:=by omega
     subst hkn;rw[Qd8 (Qfg E.out.2.2.2.2.1.symm)] at hT;have cX3:wr.cell? ⟨w.heap.size,3,none⟩=some (.int .u32 (z:Nat)):=(hT.2.2.2.1.cell 3).trans rfl;have hz64:IntKind.u64.wrap (z:Int)=(z:Int):=Ye z (by omega);have cP:=JU B w.heap.size m _ z 4 (by omega) (by omega) _ wr hT.1;have K1:=H2 hT cP;clear hT cP hB;go_wp2_with fail;refine K1.out.2.mono ?_;rintro e w4 ⟨rfl,u4,hT,hG⟩;have T4:=K1.out.1.step hG hT (by omega) (by omega);obtain⟨a9,c9,rfl⟩:=Qh T4.1.2.1;have c4B:w4.cell? ⟨B,0,none⟩=some (.slice a9 (m+4) c9):=(T4.1.1.cell 0).trans rfl;have K2:=Lib.hid T4;clear K1 T4 hT hG cX3;go_wp2_with fail;obtain⟨a',c',e,e1,e2,e3,e5,e6⟩:=Wk K2.out.1.2.1;injection e with e7 _ e8
     subst e7 e8;have hby:XK.put x=Po++x.2.2.1.flatMap CI++leK z 4:=by rw[Qa8,hPo,hPi,E.out.2.2.2.1,E.out.2.2.2.2.1,E.out.2.2.2.2.2.1,E.out.2.2.2.2.2.2.1]
     exact Qdg (v:=.tuple #[.slice a9 (m+4) c9,.int .i64 0]) (by simp[results,results94,go_sem]) rfl ⟨_,rfl,K2.out.2.2.2.2.2,by rw[hby];exact⟨a9,c9,by rw[e1],e2,by rw[e1];exact e3,e5,by rw[e1];exact e6⟩,K2.out.1.from⟩
section
variable {P:Program} {Q:Exit→Act→World→Prop} {o:Oper} {A:Act} {w:World}
theorem Hg(x:Operand)(ad:Addr)(ho:o.op= .nilCheck x)(hx:A.eval x= .pointer (some ad)):o.wp P A w (fun a' w''=>a'=A.put o.dst (.pointer (some ad))∧Below w.heap.size w w'') Q:=by
 refine Xe ?_;generalize A.eval=ρ at *;unfold execOp;simp[ho,hx,go_sem]
end
def LY(B:Nat)(Y:List UInt8)(Z E:Nat)(v:Value)(w:World):Prop:=∃u,v= .tuple #[u,.int .i64 (Z:Nat),.int .i64 (E:Nat)]∧CloV Y u w∧∀k,u.ownBlock=some k→B≤k
theorem Ho(B:Nat)(Y:List UInt8)(Z E:Nat):VW (LY B Y Z E):=fun u w1 w2 ⟨g,h1,h2,h3⟩ hb=>⟨g,h1,h2.keep hb,h3⟩
def GD(v:Value)(p e:Nat):Array Value:=#[v,.int .i64 p,.int .i64 e]
def sT(k:Nat)(l:List UInt8)(p e:Nat):List UInt8×Nat×Nat:=if e≠0 then ([],p,e) else if l.length-p<k then ([],p,1) else ((l.drop p).take k,p+k,0)
theorem Kk(k:Nat)(l:List UInt8)(p e:Nat)(h:p≤l.length):(sT k l p e).2.1≤l.length∧(sT k l p e).1.length≤k:=by
 unfold sT;split
 ·exact⟨h,Qdw _⟩
 ·split
  ·exact⟨h,Qdw _⟩
  ·exact⟨by show p+k≤_;omega,by rw[Qds];omega⟩
def sC(most:Nat)(l:List UInt8)(p e:Nat):Nat×Nat×Nat:=if e≠0 then (0,p,e) else ((Qg (l.drop p) most).1,p+(Qg (l.drop p) most).2.1,(Qg (l.drop p) most).2.2)
def sS(l:List UInt8)(p e:Nat):List UInt8×Nat×Nat:=if e≠0 then ([],p,e) else ((Jq 10000 (l.drop p)).1,p+(Jq 10000 (l.drop p)).2.1,(Jq 10000 (l.drop p)).2.2)
theorem TD(S:Nat)(a:Option Addr)(n c:Nat)(l:List UInt8)(hl:l.length=n)(hc:n≤c)(hn:n≤1000000000)(hc2:c≤9223372036854775807)(p e k:Nat)(hp:p≤n)(hk:k≤100)(w:World)(hS:Blk w S 213 (GD (.slice a n c) p e))(hr:RdS w a l)(hne:l≠[]→∀ad,a=some ad→ad.block≠S):
  Calls prog 84 #[.pointer (some ⟨S,0,none⟩),.int .i64 k] w fun en w'=>∃u m d,en= .returned (.slice u m d)∧Kp (fun q=>q=S) w w'∧Blk w' S 213 (GD (.slice a n c) (sT k l p e).2.1 (sT k l p e).2.2)∧m=(sT k l p e).1.length∧RdS w' u (sT k l p e).1∧m≤d:=by
 have c0:w.cell? ⟨S,0,none⟩=some (.slice a n c):=(hS.cell 0).trans rfl;have c1:w.cell? ⟨S,1,none⟩=some (.int .i64 p):=(hS.cell 1).trans rfl;have c2:w.cell? ⟨S,2,none⟩=some (.int .i64 e):=(hS.cell 2).trans rfl;have f1:=hS.frozen 1;have f2:=hS.frozen 2;by_cases he:e=0
 ·subst he;by_cases hs:n-p<k
  ·have es:sT k l p 0=([],p,1):=by unfold sT;rw[Qdf (by simp),Qdm (by omega)]
   rw[es];have E:=H2 hS es;clear hS es hr hne;have hsi:(n:Int)-(p:Int)<(k:Int):=by omega
   go_enter func84,ntmps84;go_wp2_with fail;go_quiet (fail);go_wp2_with fail;exact Qdg (v:=.slice none 0 0) (by simp[results,results84,go_sem]) rfl ⟨none,0,0,rfl,(QC (bdN (Below.refl _ _) nq)).trans (QN _ _ _ _),((E.out.1.drewN nq).set_ 2 _).to rfl,rfl,.inl rfl,Qde _⟩
  ·have es:sT k l p 0=((l.drop p).take k,p+k,0):=by unfold sT;rw[Qdf (by simp),Qdf (by omega)]
   rw[es];obtain⟨q,hq⟩:=nE (p+k);obtain⟨a',hsl,hsr,hsn⟩:=Te a n c p q (by omega) (by omega) hc l hl;have hqk:(q:Int)-(k:Int)=(p:Int):=by omega
   have hpk:(p:Int)+(k:Int)=(q:Int):=by omega
   have hlen:((l.drop p).take k).length=k:=by rw[Qds,Qdq];omega
   rw[show q-p=k by omega] at hsr hsl;have E:=H6 hS hr hne hq hsr hlen;clear hS es hr hne hq hsr hlen;have hsi:¬(n:Int)-(p:Int)<(k:Int):=by omega
   go_enter func84,ntmps84;go_wp2_with fail;go_quiet (fail);go_wp2_with fail;have hS2:Blk ((w.drewN nq).setCell ⟨S,1,none⟩ (.int .i64 q)) S 213 (GD (.slice a n c) q 0):=((E.out.1.drewN nq).set_ 1 _).to rfl;have K2:Kp (fun q=>q=S) w ((w.drewN nq).setCell ⟨S,1,none⟩ (.int .i64 q)):=(QC (bdN (Below.refl _ _) nq)).trans (QN _ _ _ _);have r2:RdS ((w.drewN nq).setCell ⟨S,1,none⟩ (.int .i64 q)) a l:=by
    by_cases h0:l=[]
    ·exact .inl h0
    ·exact Vf (show RdS (w.drewN nq) a l from E.out.2.1) (E.out.2.2.1 h0) _
   have E2:=H2 K2 (E.out.2.2.2.2.1 _ r2);clear K2 r2 c0 c1 c2 f1 f2;generalize World.setCell _ _ _=w2 at *;have c0:w2.cell? ⟨S,0,none⟩=some (.slice a n c):=(hS2.cell 0).trans rfl;have c1:w2.cell? ⟨S,1,none⟩=some (.int .i64 q):=(hS2.cell 1).trans rfl;have E3:=Lib.hid hS2;clear hS2;go_quiet (fail);go_wp2_with fail;exact Qdg (v:=.slice a' k (c-p)) (by simp[results,results84,go_sem]) rfl ⟨a',k,c-p,rfl,E2.out.1.trans (QC (bdN (Below.refl _ _) nq)),by rw[←E.out.2.2.2.1];exact E3.out.drewN nq,E.out.2.2.2.2.2.symm,E2.out.2,by omega⟩
 ·have es:sT k l p e=([],p,e):=by unfold sT;rw[Qdm he]
  rw[es];have E:=Lib.hid hS;clear hS es hr hne;have hei:decide ((e:Int)=0)=false:=by simp[he]
  go_enter func84,ntmps84;go_wp2_with fail;go_quiet (fail);go_wp2_with fail;exact Qdg (v:=.slice none 0 0) (by simp[results,results84,go_sem]) rfl ⟨none,0,0,rfl,QC (bdN (Below.refl _ _) nq),E.out.drewN nq,rfl,.inl rfl,Qde _⟩
theorem QbK(most:Nat)(l:List UInt8)(p e:Nat)(h:p≤l.length):(sC most l p e).2.1≤l.length∧((sC most l p e).2.2=0→(sC most l p e).1≤most):=by
 unfold sC;split
 ·exact⟨h,fun h0=>absurd h0 (by assumption)⟩
 ·by_cases h0:(Qg (l.drop p) most).2.2=0
  ·have q:=YI (show Qg (l.drop p) most=((Qg (l.drop p) most).1,(Qg (l.drop p) most).2.1,0) by rw[←h0]);rw[Qdq] at q;exact⟨by show p+_≤_;omega,fun _=>q.1⟩
  ·refine⟨?_,fun h1=>absurd h1 h0⟩;show p+(Qg (l.drop p) most).2.1≤_;have:(Qg (l.drop p) most).2.1=0:=by
    unfold Qg at h0 ⊢;split
    ·rfl
    ·rename_i h2;rw[Qdf h2] at h0;split
     ·rfl
     ·rename_i h3;rw[Qdf h3] at h0;exact absurd h0 h2
   omega
theorem Mq(l:List UInt8)(p e:Nat)(h:p≤l.length):(sS l p e).2.1≤l.length∧(sS l p e).1.length≤10000:=by
 unfold sS;split
 ·exact⟨h,Qdw _⟩
 ·have hb:=ZW (l.drop p) 10000;unfold Jq;split
  ·exact⟨by show p+0≤_;omega,Qdw _⟩
  ·rename_i h0;have h0:(Qg (l.drop p) 10000).2.2=0:=Classical.not_not.1 h0;have q:=YI (show Qg (l.drop p) 10000=((Qg (l.drop p) 10000).1,(Qg (l.drop p) 10000).2.1,0) by rw[←h0]);rw[Qdq] at q;split
   ·exact⟨by show p+0≤_;omega,Qdw _⟩
   ·rename_i h1;rw[Qdq] at h1;exact⟨by show p+(_+_)≤_;omega,by show (List.take _ _).length≤_;rw[Qds];omega⟩
theorem Nz(S:Nat)(a:Option Addr)(n c:Nat)(l:List UInt8)(hl:l.length=n)(hc:n≤c)(hn:n≤1000000000)(p e most:Nat)(hp:p≤n)(hm:most≤1000000)(w:World)(hS:Blk w S 213 (GD (.slice a n c) p e))(hr:RdS w a l):
  Calls prog 85 #[.pointer (some ⟨S,0,none⟩),.int .u64 most] w fun en w'=>en= .returned (.int .i64 ((sC most l p e).1:Nat))∧Kp (fun q=>q=S) w w'∧Blk w' S 213 (GD (.slice a n c) (sC most l p e).2.1 (sC most l p e).2.2):=by
 have c0:w.cell? ⟨S,0,none⟩=some (.slice a n c):=(hS.cell 0).trans rfl;have c1:w.cell? ⟨S,1,none⟩=some (.int .i64 p):=(hS.cell 1).trans rfl;have c2:w.cell? ⟨S,2,none⟩=some (.int .i64 e):=(hS.cell 2).trans rfl;have f1:=hS.frozen 1;have f2:=hS.frozen 2;by_cases he:e=0
 ·subst he;have es:sC most l p 0=((Qg (l.drop p) most).1,p+(Qg (l.drop p) most).2.1,(Qg (l.drop p) most).2.2):=by unfold sC;rw[Qdf (by simp)]
  rw[es];obtain⟨a',hsl,hsr,hsn⟩:=WV a n c p hp hc l hl;have cB:=fun w' (h:RdS w' a l)=>Zp a' (n-p) (c-p) most (by omega) (l.drop p) (by rw[Qdq,hl]) (by omega) w' (hsr w' h);have hty:=ZW (l.drop p) most;obtain⟨⟨N,Z,E⟩,hG⟩:∃G,G=Qg (l.drop p) most:=⟨_,rfl⟩;rw[←hG] at cB hty ⊢;simp only at cB hty ⊢;obtain⟨q,hq⟩:=nE (p+Z);have hpq:(p:Int)+(Z:Int)=(q:Int):=by omega
  have hz:=hty.1;rw[←hq];have cBn:∀k,Calls prog 81 #[.slice a' (n-p) (c-p),.int .u64 most] (w.drewN k) fun e w'=>e= .returned (.tuple #[.int .i64 (N:Nat),.int .i64 (Z:Nat),.int .i64 (E:Nat)])∧w'=w.drewN k:=fun k=>cB (w.drewN k) hr;have EE:=H3 hS hr cBn;clear hS es hr hG hq hsr cB cBn hty;go_enter func85,ntmps85;go_wp2_with fail;go_quiet ((go_at_call 81;with_reducible exact Calls.quiet_of_same (EE.out.2.2 _)));go_wp2_with fail;exact Qdg (v:=.int .i64 (N:Nat)) (by simp[results,results85,go_sem]) rfl ⟨rfl,((QC (bdN (Below.refl _ _) nq)).trans (QN _ _ _ _)).trans (QN _ _ _ _),(((EE.out.1.drewN nq).set_ 1 _).set_ 2 _).to rfl⟩
 ·have es:sC most l p e=(0,p,e):=by unfold sC;rw[Qdm he]
  rw[es];have E:=Lib.hid hS;clear hS es hr;have hei:decide ((e:Int)=0)=false:=by simp[he]
  go_enter func85,ntmps85;go_wp2_with fail;exact Qdg (v:=.int .i64 0) (by simp[results,results85,go_sem]) rfl ⟨rfl,QC (Below.refl _ _),E.out⟩
theorem Pz(S:Nat)(a:Option Addr)(n c:Nat)(l:List UInt8)(hl:l.length=n)(hc:n≤c)(hn:n≤1000000000)(hc2:c≤9223372036854775807)(hno:a=none→n=0∧c=0)(p e:Nat)(hp:p≤n)(w:World)(hS:Blk w S 213 (GD (.slice a n c) p e))(hr:RdS w a l):
  Calls prog 86 #[.pointer (some ⟨S,0,none⟩)] w fun en w'=>∃u,en= .returned u∧Kp (fun q=>q=S) w w'∧Blk w' S 213 (GD (.slice a n c) (sS l p e).2.1 (sS l p e).2.2)∧BV w.heap.size (sS l p e).1 u w':=by
 have c0:w.cell? ⟨S,0,none⟩=some (.slice a n c):=(hS.cell 0).trans rfl;have c1:w.cell? ⟨S,1,none⟩=some (.int .i64 p):=(hS.cell 1).trans rfl;have c2:w.cell? ⟨S,2,none⟩=some (.int .i64 e):=(hS.cell 2).trans rfl;by_cases he:e=0
 ·subst he;have es:sS l p 0=((Jq 10000 (l.drop p)).1,p+(Jq 10000 (l.drop p)).2.1,(Jq 10000 (l.drop p)).2.2):=by unfold sS;rw[Qdf (by simp)]
  have hz:=(Mq l p 0 (by omega)).1;rw[es] at hz ⊢;simp only at hz;obtain⟨a',hsl,hsr,hsn⟩:=WV a n c p hp hc l hl;have cB:∀w',Below w.heap.size w w'→Calls prog 52 #[.slice a' (n-p) (c-p),.int .i64 10000] w' fun e w''=>∃u,e= .returned u∧Below w'.heap.size w' w''∧LY w.heap.size (Jq 10000 (l.drop p)).1 (Jq 10000 (l.drop p)).2.1 (Jq 10000 (l.drop p)).2.2 u w'':=fun w' hb=>
   (N5 a' (n-p) (c-p) 10000 (by decide) (l.drop p) (by rw[Qdq,hl]) (by omega) (by omega) (by omega) (fun h=>by have:=hno (hsn.1 h);omega) w' (hsr w' (hr.calls hb))).mono
    fun e w'' ⟨u,he,hb2,hc,ho⟩=>⟨_,he,hb2,u,rfl,hc,fun k hk=>Qdx hb.size (ho k hk)⟩
  obtain⟨⟨Y,Z,E⟩,hG⟩:∃G,G=Jq 10000 (l.drop p):=⟨_,rfl⟩;rw[←hG] at cB hz ⊢;simp only at cB hz ⊢;obtain⟨q,hq⟩:=nE (p+Z);have hpq:(p:Int)+(Z:Int)=(q:Int):=by omega
  rw[←hq];have EE:=H5 hS hr cB hsl hq;clear es hr hG hq hsr cB hsl;go_enter func86,ntmps86;go_wp2_with fail;refine Zf 17 [some 12,some 13,some 14,some 15,some 16,some 17,some 18,some 19,some 20,some 21,some 11,some 22,some 23,some 24,some 3,some 4,some 5] (FL [EqV (.pointer (some ⟨S,0,none⟩)),EqV (.pointer (some ⟨S,0,none⟩)),EqV (.pointer (some ⟨S,0,none⟩)),EqV (.slice a n c),EqV (.pointer (some ⟨S,0,none⟩)),EqV (.pointer (some ⟨S,0,none⟩)),EqV (.pointer (some ⟨S,1,none⟩)),EqV (.int .i64 p),EqV (.slice a' (n-p) (c-p)),
    LY w.heap.size Y Z E,
    LY w.heap.size Y Z E,
    BV w.heap.size Y,
    EqV (.int .i64 (Z:Nat)),EqV (.int .i64 (E:Nat)),
    BV w.heap.size Y,
    EqV (.int .i64 (Z:Nat)),EqV (.int .i64 (E:Nat))
   ]) (QO ⟨Qa _,Qa _,Qa _,Qa _,Qa _,Qa _,Qa _,Qa _,Qa _,Ho _ _ _ _,Ho _ _ _ _,Jk _ _,Qa _,Qa _,Jk _ _,Qa _,Qa _,trivial⟩) (by kernel_rfl) rfl rfl rfl rfl rfl (by kernel_rfl) ⟨.inr ⟨gk0 rfl,fun A w' γ hb hF hs=>Qd (Qe (.tmp 0) (.inl rfl) ((hs.2 0 rfl).trans rfl))⟩,.inr ⟨gk0 rfl,fun A w' γ hb hF hs=>Qd (Hg (.tmp 12) ⟨S,0,none⟩ rfl ((hs.1 0 rfl 12 rfl).trans (hF 0 rfl)))⟩,.inr ⟨gk0 rfl,fun A w' γ hb hF hs=>Qd (Qs 213 (.tmp 13) 0 0 rfl (S) ((hs.1 1 rfl 13 rfl).trans (hF 1 rfl)) fun _ _=>by kernel_rfl)⟩,.inr ⟨gk0 rfl,fun A w' γ hb hF hs=>Qd (Qq 31 (.tmp 14) rfl _ ((hs.1 2 rfl 14 rfl).trans (hF 2 rfl)) _ ((EE.out.1.calls hb).cell 0) _ underlying31 rfl)⟩,.inr ⟨gk0 rfl,fun A w' γ hb hF hs=>Qd (Qe (.tmp 0) (.inl rfl) ((hs.2 0 rfl).trans rfl))⟩,.inr ⟨gk0 rfl,fun A w' γ hb hF hs=>Qd (Hg (.tmp 16) ⟨S,0,none⟩ rfl ((hs.1 4 rfl 16 rfl).trans (hF 4 rfl)))⟩,.inr ⟨gk0 rfl,fun A w' γ hb hF hs=>Qd (Qs 213 (.tmp 17) 1 1 rfl (S) ((hs.1 5 rfl 17 rfl).trans (hF 5 rfl)) fun _ _=>by kernel_rfl)⟩,.inr ⟨gk0 rfl,fun A w' γ hb hF hs=>Qd (Qq 3 (.tmp 18) rfl _ ((hs.1 6 rfl 18 rfl).trans (hF 6 rfl)) _ ((EE.out.1.calls hb).cell 1) _ underlying3 rfl)⟩,.inr ⟨gk0 rfl,fun A w' γ hb hF hs=>Qd (ZO 31 (.tmp 15) (some (.tmp 19)) none rfl ((hs.1 3 rfl 15 rfl).trans (hF 3 rfl)) (congrArg some ((hs.1 7 rfl 19 rfl).trans (hF 7 rfl))) rfl (EE.out.2.2.2.1 w'))⟩,.inr ⟨gk0 rfl,fun A w' γ hb hF hs=>GT 52 #[.slice a' (n-p) (c-p),.int .i64 10000] (QH _ 52 #[.slice a' (n-p) (c-p),.int .i64 10000] rfl rfl (Jj ((hs.1 8 rfl 20 rfl).trans (hF 8 rfl)) rfl) func52 rfl rfl) ((EE.out.2.2.1 _ hb))⟩,.inr ⟨gk0 rfl,fun A w' γ hb hF hs=>Qbm (Ho _ _ _ _) (Qe (.tmp 21) (.inl rfl) (hs.1 9 rfl 21 rfl)) (hF 9 rfl)⟩,.inr ⟨gk0 rfl,fun A w' γ hb hF hs=>(match hF 10 rfl with|⟨u,e,h1,h2⟩=>Qbm (Jk _ _) (Hi (.tmp 11) 0 _ rfl ((hs.1 10 rfl 11 rfl).trans e) rfl) ⟨h1,h2⟩)⟩,.inr ⟨gk0 rfl,fun A w' γ hb hF hs=>Qd ((match hF 10 rfl with|⟨u,e,h1,h2⟩=>Hi (.tmp 11) 1 _ rfl ((hs.1 10 rfl 11 rfl).trans e) rfl))⟩,.inr ⟨gk0 rfl,fun A w' γ hb hF hs=>Qd ((match hF 10 rfl with|⟨u,e,h1,h2⟩=>Hi (.tmp 11) 2 _ rfl ((hs.1 10 rfl 11 rfl).trans e) rfl))⟩,.inr ⟨gk0 rfl,fun A w' γ hb hF hs=>Qbm (Jk _ _) (Qe (.tmp 22) (.inr rfl) (hs.1 11 rfl 22 rfl)) (hF 11 rfl)⟩,.inr ⟨gk0 rfl,fun A w' γ hb hF hs=>Qd (Qe (.tmp 23) (.inr rfl) ((hs.1 12 rfl 23 rfl).trans (hF 12 rfl)))⟩,.inr ⟨gk0 rfl,fun A w' γ hb hF hs=>Qd (Qe (.tmp 24) (.inr rfl) ((hs.1 13 rfl 24 rfl).trans (hF 13 rfl)))⟩,trivial⟩ ?_
  intro γ wx hb hF;have ez0:γ 0= .pointer (some ⟨S,0,none⟩):=hF 0 (by decide);have ez1:γ 1= .pointer (some ⟨S,0,none⟩):=hF 1 (by decide);have ez2:γ 2= .pointer (some ⟨S,0,none⟩):=hF 2 (by decide);have ez3:γ 3= .slice a n c:=hF 3 (by decide);have ez4:γ 4= .pointer (some ⟨S,0,none⟩):=hF 4 (by decide);have ez5:γ 5= .pointer (some ⟨S,0,none⟩):=hF 5 (by decide);have ez6:γ 6= .pointer (some ⟨S,1,none⟩):=hF 6 (by decide);have ez7:γ 7= .int .i64 p:=hF 7 (by decide);have ez8:γ 8= .slice a' (n-p) (c-p):=hF 8 (by decide);have hp9:(LY w.heap.size Y Z E) (γ 9) wx:=hF 9 (by decide);have hp10:(LY w.heap.size Y Z E) (γ 10) wx:=hF 10 (by decide);have hp11:(BV w.heap.size Y) (γ 11) wx:=hF 11 (by decide);have ez12:γ 12= .int .i64 (Z:Nat):=hF 12 (by decide);have ez13:γ 13= .int .i64 (E:Nat):=hF 13 (by decide);have hp14:(BV w.heap.size Y) (γ 14) wx:=hF 14 (by decide);have ez15:γ 15= .int .i64 (Z:Nat):=hF 15 (by decide);have ez16:γ 16= .int .i64 (E:Nat):=hF 16 (by decide);simp only[List.take,List.drop,Fr,QdC,Act.put,Qdh,Qdy,Qdz,Nat.reduceAdd];rw[ez0,ez1,ez2,ez3,ez4,ez5,ez6,ez7,ez8,ez12,ez13,ez15,ez16];clear ez0 ez1 ez2 ez3 ez4 ez5 ez6 ez7 ez8 ez12 ez13 ez15 ez16 hF;have hSx:=hS.calls hb;have c1x:wx.cell? ⟨S,1,none⟩=some (.int .i64 p):=(hSx.cell 1).trans rfl;have f1x:=hSx.frozen 1;have f2x:=hSx.frozen 2;have c2x:wx.cell? ⟨S,2,none⟩=some (.int .i64 0):=(hSx.cell 2).trans rfl;generalize γ 14=u at *;have K:=H3 hSx hb hp14;clear hSx hb hp9 hp10 hp11 hp14 hS c0 c1 c2;go_wp2_with fail;refine Qdg (v:=u) (by simp[results,results86,go_sem]) rfl ⟨u,rfl,((QC K.out.2.1).trans (QN _ _ _ _)).trans (QN _ _ _ _),((K.out.1.set_ 1 _).set_ 2 _).to rfl,?_⟩;obtain⟨⟨au,cu,rfl,r1,r2⟩,r3⟩:=K.out.2.2;have hfar:∀ad,au=some ad→ad.block≠S:=fun ad hd=>by
   subst hd;have:=r3 ad.block rfl;have:=EE.out.1.lt;omega
  exact⟨⟨au,cu,rfl,Vf (Vf r1 hfar _) hfar _,r2⟩,r3⟩
 ·have es:sS l p e=([],p,e):=by unfold sS;rw[Qdm he]
  rw[es];have E:=Lib.hid hS;clear hS es hr;have hei:decide ((e:Int)=0)=false:=by simp[he]
  go_enter func86,ntmps86;go_wp2_with fail;exact Qdg (v:=.slice none 0 0) (by simp[results,results86,go_sem]) rfl ⟨_,rfl,QC (Below.refl _ _),E.out,⟨none,0,rfl,.inl rfl,Qde _,Qdw _,fun _=>⟨rfl,rfl⟩⟩,fun k hk=>by cases hk⟩
end Go.Proofs.YthdaabapiicnhaaGreatDoor
