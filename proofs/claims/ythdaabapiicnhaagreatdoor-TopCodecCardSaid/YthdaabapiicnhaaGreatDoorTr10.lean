/- Steps of the proof. -/
import Derived.Test.YthdaabapiicnhaaGreatDoorTr09
set_option linter.all false
set_option maxRecDepth 100000
set_option maxHeartbeats 4000000
open Go.Proofs.Tryz
namespace Go.Proofs.YthdaabapiicnhaaGreatDoor
open Go.RowKit
def Lh(magic K:Nat)(all:List UInt8):List (List UInt8×List UInt8)×List UInt8×Int:=
 ((JL magic K all).1,if (JL magic K all).2.2=1 then (JL magic K all).2.1 else [],if (JL magic K all).2.2=1 then 0 else ((JL magic K all).2.2:Int))
def Bj(magic:Nat)(m:Int)(rest:List UInt8)(bad:Int)(c:List UInt8):List (List UInt8×List UInt8)×List UInt8×Int:=
 if Tf magic m rest bad=true then (if bad=0 then Lh magic (YN m) (rest++c) else ([],[],bad)) else Lh magic (YN m) c
def bufI(magic:Nat)(m:Int)(v:Value)(bad:Int):Array Value:=#[.int .u32 magic,.int .i64 m,v,.int .i64 bad]
def FedV(w0:World)(magic K:Nat)(r:List (List UInt8×List UInt8)×List UInt8×Int)(v:Value)(w:World):Prop:=
 ∃u vl b0,v= .tuple #[.agg (bufI magic K u r.2.2),vl]∧CloV r.2.1 u w∧MsgL b0 r.1 vl w∧w0.heap.size≤b0∧SlO (fun g=>w0.heap.size≤g∧some g≠vl.ownBlock) r.2.1 u w
theorem XZ{fn:Func}{p s:Tmp}{ty:TypeId}(h:fn.results=#[.cell p ty,.tmp s]){P:Program}(tmps:Array Value)(w:World)(g:Nat)(t:TypeId)(cs:Array Value){fs:Array Field}
  (hp:tmps.getD p undef= .pointer (some ⟨g,0,none⟩)) (hg:Blk w g t cs) (hu:P.underlying ty=some (.struct fs)) (hi:(P.info? ty).map (·.size)=some cs.size):(results fn tmps).run P w= .ok (.tuple #[.agg cs,tmps.getD s undef]) w:=by
 have hp':tmps[p]?.getD undef= .pointer (some ⟨g,0,none⟩):=by simpa using hp
 simp[results,h,hp',asAddr,run_loadVar_row w g t ty cs (0,0) _ hg hu rfl hi]
theorem F4{F:Fence}{n:Nat}{P:Program}{fn:Func}{R:Ending→World→Prop}{a:Act}{w:World}{v:Value}(hd:a.defers=[])(hr:(results fn a.tmps).run P w= .ok v w)(h:R (.returned v) w):bodyPostM F n P fn R .ret a w:=by
 show LeavesInM F n P fn a.tmps R a.defers .returning w;rw[hd];exact⟨v,hr,h⟩
theorem QaK{O:Nat→Prop}{w W:World}{a:Option Addr}{l:List UInt8}(h:RdS w a l)(hb:Below w.heap.size w W)(ho:∀g,g<w.heap.size→O g):RdO O W a l:=by
 rcases h with h|⟨g,off,h1,h2,h3⟩
 ·exact .inl h
 ·exact .inr ⟨g,off,h1,ho g h2,Qdr h2 hb.size,fun i hi=>h3.at hb h2 i hi⟩
theorem Qbo{w0 w:World}{magic K:Nat}{b:Int}{a:Option Addr}{n c:Nat}(hn:n=0)(h1:n≤c)(h2:c≤9223372036854775807)(h3:a=none→n=0∧c=0):FedV w0 magic K ([],[],b) (.tuple #[.agg #[.int .u32 magic,.int .i64 (K:Nat),.slice a n c,.int .i64 b],.slice none 0 0]) w:=by
 subst hn;exact⟨_,_,w0.heap.size,rfl,⟨a,c,rfl,.inl rfl,h1,by unfold maxLen;omega,h3⟩,MsgL.nil _ _,Qde _,⟨a,c,rfl,.inl rfl,h1,by unfold maxLen;omega,h3⟩⟩
theorem Er{g g' o n c:Nat}(e:(Value.slice (some ⟨g,o,none⟩) n c).ownBlock=some g'):g=g':=by injection e
theorem Hf{X:Nat→Prop}{W W':World}{base:Nat}{e:TypeId}{size:Nat}{v:Value}{n:Nat}{xs:List Value}(h:W.ownsRow base e size v n xs)(k:Kp X W W')(hx:∀g,v.ownBlock=some g→¬X g):W'.ownsRow base e size v n xs:=by
 refine⟨h.1,?_⟩;rcases h.2 with e|⟨g,cap,cur,hv,hb,hg,rest⟩
 ·exact .inl e
 ·exact .inr ⟨g,cap,cur,hv,hb,k.obj hg (hx g (by rw[hv];rfl)),rest⟩
def SBf(s g6:Nat)(w:World)(C0 C1:Array Value)(v:Value)(wx:World):Prop:=Blk wx s 117 C0∧Blk wx (s+1) 117 C1∧Below s w wx∧Blk wx g6 31 #[v]
theorem SBf.set{s g6:Nat}{w wx:World}{C0 C1:Array Value}{v:Value}(h:SBf s g6 w C0 C1 v wx)(hg:s+1<g6)(u:Value):SBf s g6 w C0 C1 u (wx.setCell ⟨g6,0,none⟩ u):=
 ⟨h.1.far (by omega) _,h.2.1.far (by omega) _,h.2.2.1.setCell (show s≤g6 by omega) _,(h.2.2.2.set_ 0 u).to rfl⟩
theorem SBf.grow{s g6:Nat}{w wx wy:World}{C0 C1:Array Value}{v:Value}{row:Option Nat}(h:SBf s g6 w C0 C1 v wx)(hg:s+1<g6)(hw:wx.grownBy wy row)(hr:∀k,row=some k→g6<k):SBf s g6 w C0 C1 v wy:=
 ⟨(
  Yw hw).blk h.1 fun e=>by have:=hr _ e.symm;omega,(Yw hw).blk h.2.1 fun e=>by have:=hr _ e.symm;omega,
  ⟨hw.os.trans h.2.2.1.os,hw.tape.trans h.2.2.1.tape,hw.output.trans h.2.2.1.output,Qdx h.2.2.1.size hw.size,fun k hk=>(hw.block k (by have:=h.1.lt;omega) fun e=>by have:=hr _ e.symm;omega).trans (h.2.2.1.block k hk)⟩,
  (Yw hw).blk h.2.2.2 fun e=>by have:=hr _ e.symm;omega⟩
theorem Li{w w2:World}{s q magic K N:Nat}{all:List UInt8}{a:Option Addr}{c:Nat}(hs:s+1<q∧q<w2.heap.size)(z4:Blk w2 (s+1) 117 #[.int .u32 0,.int .i64 0,.slice none 0 0,.int .i64 0])(bl:Below s w w2)
  (b6:Blk w2 q 31 #[.slice a N c]) (hrd:RdO (fun g=>g<s∨q<g∧g<w2.heap.size) w2 a all) (hN:N=all.length) (h1:N≤c) (h2:c≤9223372036854775807) (h3:a=none→N=0∧c=0):
  FdI w s q w2.heap.size magic K all all [] (.slice none 0 0) (.slice none 0 0) (((((w2.alloc (.cells #[.int .u32 magic,.int .i64 (K:Nat),.slice none 0 0,.int .i64 0] 117)).alloc (.cells #[.slice none 0 0] 306)).alloc (.cells #[.int .u32 magic] 22)).alloc (.cells #[.int .i64 (K:Nat)] 3)).alloc (.cells #[.slice a N c] 31)):=by
 subst hN;have k:Kp (fun _=>False) w2 (((((w2.alloc (.cells #[.int .u32 magic,.int .i64 (K:Nat),.slice none 0 0,.int .i64 0] 117)).alloc (.cells #[.slice none 0 0] 306)).alloc (.cells #[.int .u32 magic] 22)).alloc (.cells #[.int .i64 (K:Nat)] 3)).alloc (.cells #[.slice a all.length c] 31)):=
  ((((Xt _ _ _).trans (Xt _ _ _)).trans (Xt _ _ _)).trans (Xt _ _ _)).trans (Xt _ _ _)
 have hrd':=hrd.keep k (fun g _ h=>h);refine⟨⟨a,c,k.blk b6 (fun h=>h),hrd',h1,h2,h3⟩,⟨a,c,Blk.newAt _ _ _ (by simp),hrd',h1,h2,h3⟩,((((Blk.new w2 _ _).alloc _).alloc _).alloc _).alloc _,?_,MsgL.nil _ _,?_,?_,k.blk z4 (fun h=>h),k.below bl (by omega) (fun g _ h=>h)⟩
 ·exact (((Blk.newAt _ _ _ (by simp)).alloc _).alloc _).alloc _
 ·exact ((Blk.newAt _ _ _ (by simp)).alloc _).alloc _
 ·exact (Blk.newAt _ _ _ (by simp)).alloc _
theorem M6{magic K N:Nat}{all:List UInt8}(hN:N=all.length):PK magic K N all all []:=⟨by simp[hN],rfl⟩
theorem Qcr{magic K N:Nat}{all rest c p:List UInt8}{T:List (List UInt8×List UInt8)}(h:PK magic K N all rest T)(hg:XA magic K rest= .yes c p):PK magic K N all (rest.drop (24+p.length)) (T++[(c,p)]):=by
 have h1:=(Yy hg).1;refine⟨?_,?_⟩
 ·have:=h.1;rw[Qdj,Qdq];simp only[QdL,Qe7];omega
 ·rw[h.2,Bk magic K rest,hg];simp
theorem pk_no{magic K N:Nat}{all rest:List UInt8}{e:Nat}{T:List (List UInt8×List UInt8)}(h:PK magic K N all rest T)(hg:XA magic K rest= .no e):Lh magic K all=(T,if e=1 then rest else [],if e=1 then 0 else (e:Int)):=by
 unfold Lh;rw[h.2,Bk magic K rest,hg];simp
theorem news2(W:World)(t:TypeId)(x y:Value):∀(j:Nat) (u:Value),[x,y][j]? =some u→(W.alloc (.cells #[x,y] t)).cell? ((⟨W.heap.size,0,none⟩:Addr).add j)=some u:=by
 intro j u hu
 match j with
 | 0=>injection hu with hu;subst hu;exact (Blk.new W t #[x,y]).cell 0
 | 1=>injection hu with hu;subst hu;exact (Blk.new W t #[x,y]).cell 1
 | j+2=>cases hu
theorem Qbt(s:ByteArray)(a:Option Addr)(n c:Nat)(w:World):(Instr.buildSlice 306 1 #[(0,.agg #[.string s,.slice a n c])]).run prog w= .ok (.slice (some ⟨w.heap.size,0,none⟩) 1 1) (w.alloc (.cells #[.string s,.slice a n c] 43)):=by
 obtain⟨i,hi⟩:=Qem.1 (show (prog.info? 43).isSome=true by kernel_rfl);have h1:i.size=2:=by
  have:(prog.info? 43).map (·.size)=some 2:=by kernel_rfl
  rw[hi] at this;simpa using this
 unfold Instr.buildSlice;simp[Qd6 underlying306,go_sem,sizeOf,typeInfo,hi,h1,Tryz.zeroValue43,Instr.fill,Value.cells,newRow]
theorem QaM{W9 W8 W3:World}{X:Nat→Prop}{b0:Nat}{v u:Value}{p:List UInt8}(hu:CloV p u W8)(hf:∀ad n c,u= .slice (some ad) n c→W9.heap.size≤ad.block)(k:Kp X W8 W3)(hx:∀g,X g→g<W9.heap.size)(hb:b0≤W9.heap.size)(hv:∀g,v.ownBlock=some g→g<W9.heap.size):
  SlO (fun k=>b0≤k∧some k≠v.ownBlock) p u W3:=by
 have h1:SlO (fun k=>W9.heap.size≤k) p u W8:=hu.slo fun ad n c e _=>hf ad n c e;exact (h1.keep k fun g hg hx'=>by have:=hx g hx';omega).mono fun g _ hg=>⟨by omega,fun e=>by have:=hv g e.symm;omega⟩
structure FdF (w:World) (s S magic K:Nat) (R:List (List UInt8×List UInt8)×List UInt8×Int) (v u:Value) (W:World):Prop where
 out:Blk W S 117 #[.int .u32 magic,.int .i64 (K:Nat),u,.int .i64 R.2.2]
 cl:SlO (fun g=>S+7≤g∧some g≠v.ownBlock) R.2.1 u W
 row:Blk W (S+1) 306 #[v]
 ms:MsgL (S+7) R.1 v W
 z4:Blk W (s+1) 117 #[.int .u32 0,.int .i64 0,.slice none 0 0,.int .i64 0]
 bl:Below s w W
theorem FdF.keep{X:Nat→Prop}{w W W':World}{s S magic K:Nat}{R:List (List UInt8×List UInt8)×List UInt8×Int}{v u:Value}(h:FdF w s S magic K R v u W)(k:Kp X W W')(hs:s+1<S)(hx:∀g,X g→g=S+5∨g=S+6):FdF w s S magic K R v u W':=by
 have hlt:=h.z4.lt;have ng:∀g,g<S+5→¬X g:=fun g hg hx'=>by have:=hx g hx';omega
 have nr:∀g,S+7≤g→¬X g:=fun g hg hx'=>by have:=hx g hx';omega
 exact⟨k.blk h.out (ng _ (by omega)),h.cl.keep k (fun g hg=>nr g hg.1),k.blk h.row (ng _ (by omega)),h.ms.keep k nr,k.blk h.z4 (ng _ (by omega)),k.below h.bl (by omega) (fun g hg=>ng g (by omega))⟩
theorem To{D:Nat}{W2 W3:World}{Post:World→Prop}{a:Act}(h1:W3.heap[D+1]? =W2.heap[D+1]?)(h2:W3.heap[D]? =W2.heap[D]?)(h3:Post W3):ME D W2 Post .normal a W3:=⟨h1,h2,h3⟩
theorem FdF.of1{w W:World}{s q S magic K:Nat}{r6 rb L:List UInt8}{T:List (List UInt8×List UInt8)}{v u:Value}{R:List (List UInt8×List UInt8)×List UInt8×Int}(h:FdI w s q S magic K r6 rb T v v W)(hs:s+1<q∧q<S)(hu:SlO (fun g=>S+7≤g∧some g≠v.ownBlock) L u W)(hR:R=(T,L,0)):
  FdF w s S magic K R v u (W.setCell ⟨S,2,none⟩ u):=by
 subst hR;have k:=QN W S 2 u;have hlt:=h.z4.lt;exact⟨(h.out.set_ 2 _).to rfl,hu.keep k (fun g hg=>by omega),k.blk h.row (by omega),h.ms.keep k (fun g hg=>by omega),k.blk h.z4 (by omega),k.below h.bl (by omega) (fun g hg=>by omega)⟩
theorem FdF.of2{w W:World}{s q S magic K:Nat}{r6 rb:List UInt8}{T:List (List UInt8×List UInt8)}{v:Value}{R:List (List UInt8×List UInt8)×List UInt8×Int}{e:Int}(h:FdI w s q S magic K r6 rb T v v W)(hs:s+1<q∧q<S)(hR:R=(T,[],e)):
  FdF w s S magic K R v (.slice none 0 0) (W.setCell ⟨S,3,none⟩ (.int .i64 e)):=by
 subst hR;have k:=QN W S 3 (.int .i64 e);have hlt:=h.z4.lt;exact⟨(h.out.set_ 3 _).to rfl,⟨none,0,rfl,.inl rfl,Qde _,Qdw _,fun _=>⟨rfl,rfl⟩⟩,k.blk h.row (by omega),h.ms.keep k (fun g hg=>by omega),k.blk h.z4 (by omega),k.below h.bl (by omega) (fun g hg=>by omega)⟩
theorem C3{F:Fence}{n:Nat}{P:Program}{fn:Func}{R:Ending→World→Prop}{a:Act}{w:World}{v:Value}{D:Nat}(hd:a.defers=[{target:=.collected D,args:=#[]}])(hD:w.heap[D]? =some (.deferred (some [])))(hr:(results fn a.tmps).run P (w.putObj D (.deferred none))= .ok v (w.putObj D (.deferred none)))
  (h:R (.returned v) (w.putObj D (.deferred none))):bodyPostM F n P fn R .ret a w:=by
 show LeavesInM F n P fn a.tmps R a.defers .returning w;rw[hd];exact⟨by simp,.inl ⟨_,_,rfl,run_takeDeferred hD,⟨v,hr,h⟩⟩⟩
theorem kp4(W:World)(b:Nat)(x y z t:Value):Kp (fun k=>k=b) W ((((W.setCell ⟨b,0,none⟩ x).setCell ⟨b,1,none⟩ y).setCell ⟨b,2,none⟩ z).setCell ⟨b,3,none⟩ t):=
 (((QN W b 0 x).trans (QN _ b 1 y)).trans (QN _ b 2 z)).trans (QN _ b 3 t)
theorem kp5(W:World)(b D:Nat)(o:Obj)(x y z t:Value):Kp (fun k=>k=b∨k=D) W (((((W.setCell ⟨b,0,none⟩ x).setCell ⟨b,1,none⟩ y).setCell ⟨b,2,none⟩ z).setCell ⟨b,3,none⟩ t).drew.putObj D o):=
 (((kp4 W b x y z t).mono fun k h=>.inl h).trans (QC (Below.refl _ _).drew)).trans ((KL _ D o).mono fun k h=>.inr h)
theorem Qaq(magic:Nat)(hm:magic<4294967296)(m bad:Int)(ar:Option Addr)(nr cr:Nat)(rest:List UInt8)(ac:Option Addr)(nc cc:Nat)(cs:List UInt8)
  (hl1:rest.length=nr) (hl2:cs.length=nc) (hr1:nr≤cr) (hr2:cr≤9223372036854775807) (hc1:nc≤cc) (hc2:cc≤9223372036854775807) (hn1:nr≤1000000) (hn2:nc≤1000000)
  (hno1:ar=none→nr=0∧cr=0) (hno2:ac=none→nc=0∧cc=0) (w:World) (hR1:RdS w ar rest) (hR2:RdS w ac cs) (hL:Laid w):
  Calls prog 170 #[.agg #[.int .u32 magic,.int .i64 m,.slice ar nr cr,.int .i64 bad],.slice ac nc cc] w fun e w'=>∃v,e= .returned v∧Below w.heap.size w w'∧FedV w magic (YN m) (Bj magic m rest bad cs) v w':=by
 have cS:=fun w' (h:Below w.heap.size w w')=>LW magic hm m bad ar nr cr rest hl1 hr1 ⟨by omega,by omega⟩ hno1 w' (hR1.calls h) (hL.below h (Qde _));have cN:=fun w'=>Fe magic m w';have B0:Below w.heap.size w ((w.alloc (.cells #[.int .u32 magic,.int .i64 m,.slice ar nr cr,.int .i64 bad] 117)).alloc (.cells #[.int .u32 0,.int .i64 0,.slice none 0 0,.int .i64 0] 117)):=ba (ba (Below.refl _ _) _) _;obtain⟨K,hK⟩:=nE (YN m);obtain⟨R,hR⟩:=nE (Bj magic m rest bad cs);rw[←hK,←hR];have F:=H8 cS cN B0 hR1 hR2 hL hK hR;clear cS cN B0 hR1 hR2 hL hK hR;refine (callsIn_wide (n:=6)).1 (callsIn_of_wp_marks func170 rfl trivial ?_ rfl);refine wpIn_wide.2 ?_;simp only[ntmps170,Qdv,QdL,Qe7,Nat.reduceAdd,Nat.reduceSub,Array.replicate_succ,Array.replicate_zero,List.push_toArray,List.append_toArray,QdU,Qe0];go_wp2_with fail;refine (F.out.1 _ F.out.2.2.1).mono ?_;rintro e w1 ⟨rfl,hb1⟩;have A0:=((Blk.newAt w 117 #[.int .u32 magic,.int .i64 m,.slice ar nr cr,.int .i64 bad] rfl).alloc (.cells #[.int .u32 0,.int .i64 0,.slice none 0 0,.int .i64 0] 117)).calls hb1;have A1:Blk w1 (w.heap.size+1) 117 #[.int .u32 0,.int .i64 0,.slice none 0 0,.int .i64 0]:=(Blk.second w _ _ _).calls hb1;have AB:Below w.heap.size w w1:=bt F.out.2.2.1 hb1;have z1:=A1.lt;obtain⟨sv,hsv⟩:=nE (Tf magic m rest bad);rw[←hsv];have hK:=F.out.2.2.2.2.2.2.1;have c0:w1.cell? ⟨w.heap.size,0,none⟩=some (.int .u32 magic):=A0.cell 0;have c1:w1.cell? ⟨w.heap.size,1,none⟩=some (.int .i64 m):=A0.cell 1;have c2:w1.cell? ⟨w.heap.size,2,none⟩=some (.slice ar nr cr):=A0.cell 2;have c3:w1.cell? ⟨w.heap.size,3,none⟩=some (.int .i64 bad):=A0.cell 3;have G:=H5 A0 A1 AB hsv hK;clear A0 A1 AB hsv hb1 hK
 go_upto_if 13 with fail
 go_cut [] from 14 to 18 (fun wx=>∃(r1:List UInt8) (a1:Option Addr) (n1 c1:Nat) (b1:Int),Blk wx w.heap.size 117 #[.int .u32 magic,.int .i64 (K:Nat),.slice a1 n1 c1,.int .i64 b1]∧Blk wx (w.heap.size+1) 117 #[.int .u32 0,.int .i64 0,.slice none 0 0,.int .i64 0]∧Below w.heap.size w wx∧
  R=(if b1=0 then Lh magic K (r1++cs) else ([],[],b1))∧r1.length=n1∧RdS w a1 r1∧n1≤c1∧c1≤9223372036854775807∧n1≤1000000∧(a1=none→n1=0∧c1=0)∧(b1≠0→n1=0))
 case first=>
  cases sv with
  | true=>
   go_wp2_with fail;go_meet;obtain⟨A0,A1,AB,hsv,hK⟩:=G.out;have hs:=hsv;unfold Tf at hs;have hmK:m=(K:Int):=by
    rw[hK];by_cases h:m=(YN m:Int)
    ·exact h
    ·rw[Qdf h] at hs;cases hs
   refine⟨rest,ar,nr,cr,bad,A0.to (by rw[←hmK]),A1,AB,?_,hl1,F.out.2.2.2.1,hr1,hr2,hn1,hno1,fun hb=>?_⟩
   ·rw[F.out.2.2.2.2.2.2.2];unfold Bj;rw[←hsv,hK,Qdm rfl]
   ·rw[Qdm (by rw[←hK];exact hmK),Qdf hb] at hs;have:=Qer hs.symm;omega
  | false=>
   have CN:=F.out.2.1;rw[←G.out.2.2.2.2] at CN;have f0:=G.out.1.frozen 0;have f1:=G.out.1.frozen 1;have f2:=G.out.1.frozen 2;have f3:=G.out.1.frozen 3;have CN2:=Lib.hid CN;clear CN f0 f1 f2 f3;go_wp2_with fail;refine (CN2.out _).mono ?_;rintro e w2 ⟨rfl,hb2⟩;have B0:=G.out.1.calls hb2;have B1:=G.out.2.1.calls hb2;have BB:=bt G.out.2.2.1 hb2;have c0:w2.cell? ⟨w.heap.size,0,none⟩=some (.int .u32 magic):=B0.cell 0;have c1:w2.cell? ⟨w.heap.size,1,none⟩=some (.int .i64 m):=B0.cell 1;have c2:w2.cell? ⟨w.heap.size,2,none⟩=some (.slice ar nr cr):=B0.cell 2;have c3:w2.cell? ⟨w.heap.size,3,none⟩=some (.int .i64 bad):=B0.cell 3;have f0:=B0.frozen 0;have f1:=B0.frozen 1;have f2:=B0.frozen 2;have f3:=B0.frozen 3;have HB:=H3 B0 B1 BB;clear B0 B1 BB hb2;unfold QcV;go_wp2_with fail;go_meet;have hK:=G.out.2.2.2.2;refine⟨[],none,0,0,0,((((HB.out.1.set_ 0 _).set_ 1 _).set_ 2 _).set_ 3 _).to rfl,(((HB.out.2.1.far (by omega) _).far (by omega) _).far (by omega) _).far (by omega) _,(((HB.out.2.2.setCell (Qde _) _).setCell (Qde _) _).setCell (Qde _) _).setCell (Qde _) _,?_,rfl,.inl rfl,Qde _,by omega,by omega,fun _=>⟨rfl,rfl⟩,fun _=>rfl⟩;rw[F.out.2.2.2.2.2.2.2,Qdm rfl];unfold Bj;rw[←G.out.2.2.2.1,Qdf (by simp),←hK];rfl
 case rest=>
  obtain⟨r1,a1,n1,c1,b1,A0,A1,AB,hR,hl,hr,h1,h2,h3,h4,h5⟩:=hcut
  rename World=>wa
  have c0:wa.cell? ⟨w.heap.size,0,none⟩=some (.int .u32 magic):=A0.cell 0;have c1':wa.cell? ⟨w.heap.size,1,none⟩=some (.int .i64 (K:Nat)):=A0.cell 1;have c2:wa.cell? ⟨w.heap.size,2,none⟩=some (.slice a1 n1 c1):=A0.cell 2;have c3:wa.cell? ⟨w.heap.size,3,none⟩=some (.int .i64 b1):=A0.cell 3;have f0:=A1.frozen 0;have f1:=A1.frozen 1;have f2:=A1.frozen 2;have f3:=A1.frozen 3;have d0:wa.cell? ⟨w.heap.size+1,0,none⟩=some (.int .u32 0):=A1.cell 0;have d1:wa.cell? ⟨w.heap.size+1,1,none⟩=some (.int .i64 0):=A1.cell 1;have d2:wa.cell? ⟨w.heap.size+1,2,none⟩=some (.slice none 0 0):=A1.cell 2;have d3:wa.cell? ⟨w.heap.size+1,3,none⟩=some (.int .i64 0):=A1.cell 3;have z2:=A1.lt;have z3:w.heap.size<wa.heap.size:=by omega
  clear G;by_cases hb:b1=0
  ·subst hb;have H:=H7 A0 A1 AB hR hl hr h5;clear A0 A1 AB hR hl hr h5
   go_upto_if 27 with fail
   obtain⟨N,hN⟩:=nE (n1+nc);have hNi:(n1:Int)+(nc:Int)=(N:Int):=by omega
   have N2:N≤2000000:=by omega
   have HN:=Lib.hid hN;clear hN;go_cut [] from 27 to 41 (fun wx=>∃(a:Option Addr) (c:Nat),Blk wx w.heap.size 117 #[.int .u32 magic,.int .i64 (K:Nat),.slice a1 n1 c1,.int .i64 0]∧Blk wx (w.heap.size+1) 117 #[.int .u32 0,.int .i64 0,.slice none 0 0,.int .i64 0]∧Below w.heap.size w wx∧
    Blk wx wa.heap.size 31 #[.slice a N c]∧RdO (fun g=>g<w.heap.size∨wa.heap.size<g) wx a (r1++cs)∧N≤c∧c≤9223372036854775807∧(a=none→N=0∧c=0))
   case first=>
    by_cases hn0:n1=0
    ·subst hn0;go_wp2_with fail;go_meet;obtain⟨A0,A1,AB,hR,hl,hr,h5⟩:=H.out;have e:r1=[]:=QdO.1 hl;have eN:N=nc:=by have:=HN.out;omega
     subst e eN;have z6:w.heap.size≤wa.heap.size:=by omega
     refine⟨ac,cc,A0.alloc _,A1.alloc _,ba AB _,Blk.new _ _ _,QaK F.out.2.2.2.2.1 (ba AB _) (fun g hg=>.inl hg),hc1,by omega,hno2⟩
    ·have hn0':(0:Int)<(n1:Int):=by omega
     obtain⟨i0,hi,hz0,hz1,hz2⟩:=info_parts (show (prog.info? 5).map (fun i=>(i.zero,i.size,i.bytes))=some (some (.int .u8 0),1,1) by kernel_rfl);have I:=H4 hi hz0 hz1 hz2;clear hi hz0 hz1 hz2;go_wp2_with (at_make;refine wpList_make_own _ rfl _ _ 31 rfl (wa.heap.size+1) 5 i0 (.int .u8 0) 1 underlying31 I.out.1 I.out.2.1 I.out.2.2.1 .i64 .i64 _ N rfl rfl rfl (by rw[I.out.2.2.2];omega) (by unfold maxLen;omega) (by simp) ?_);obtain⟨A0,A1,AB,hR,hl,hr,h5⟩:=H.out;have S1:SBf w.heap.size wa.heap.size w #[.int .u32 magic,.int .i64 (K:Nat),.slice a1 n1 c1,.int .i64 0] #[.int .u32 0,.int .i64 0,.slice none 0 0,.int .i64 0] (.slice ac nc cc) (wa.alloc (.cells #[.slice ac nc cc] 31)):=⟨A0.alloc _,A1.alloc _,ba AB _,Blk.new _ _ _⟩;clear A0 A1 AB hR h5;intro w2 hw2 hg2;have S2:=S1.grow z2 hg2 (fun k e=>by cases e);have S3:=S2.set z2 (.slice (some ⟨wa.heap.size+1,0,none⟩) 0 N);have O3:(w2.setCell ⟨wa.heap.size,0,none⟩ (.slice (some ⟨wa.heap.size+1,0,none⟩) 0 N)).ownsRow (wa.heap.size+1) 5 1 (.slice (some ⟨wa.heap.size+1,0,none⟩) 0 N) 0 (([]:List UInt8).map fun c=>Value.int .u8 (c.toNat:Int)):=Hf hw2 (QN _ _ _ _) (fun g e h=>by have e:=Er e;have h':g=wa.heap.size:=h;omega);have k6:=S2.2.2.2.cell 0;have kf:=S2.2.2.2.frozen 0;have k2:w2.cell? ⟨w.heap.size,2,none⟩=some (.slice a1 n1 c1):=S2.1.cell 2;have z5:wa.heap.size<w2.heap.size:=S2.2.2.2.lt;have ne6:w.heap.size≠wa.heap.size:=by omega
     have R1:=hr.calls S3.2.2.1;have R2:=H5 S3 O3 R1 hl hr;clear S1 S2 S3 O3 R1 hr hl hw2 hg2;go_wp2_with (at_builtin;refine XW R2.out.2.1 rfl _ _ 31 rfl underlying31 i0 I.out.1 I.out.2.1 I.out.2.2.1 I.out.2.2.2 rfl a1 n1 c1 r1 rfl R2.out.2.2.1 R2.out.2.2.2.1 h4 (by omega) (by rw[World.size_setCell];exact z5) ?_);intro v1 w4 hw4 hg4 hn4;replace hw4:w4.ownsRow (wa.heap.size+1) 5 1 v1 n1 (r1.map fun c=>Value.int .u8 (c.toNat:Int)):=by simpa using hw4
     have hv1:¬v1= .slice none 0 0:=by simpa using hn4
     obtain⟨g4,cap4,cur4,rfl,hgb4,hbg4,_,_,_,_⟩:=ZR hw4 hv1;have S4:=R2.out.1.grow z2 hg4 (fun k e=>by have:=Er e;omega);have S5:=S4.set z2 (.slice (some ⟨g4,0,none⟩) n1 cap4);have O5:(w4.setCell ⟨wa.heap.size,0,none⟩ (.slice (some ⟨g4,0,none⟩) n1 cap4)).ownsRow (wa.heap.size+1) 5 1 (.slice (some ⟨g4,0,none⟩) n1 cap4) n1 (r1.map fun c=>Value.int .u8 (c.toNat:Int)):=Hf hw4 (QN _ _ _ _) (fun g e h=>by have e:=Er e;have h':g=wa.heap.size:=h;omega);have k6':=S4.2.2.2.cell 0;have kf':=S4.2.2.2.frozen 0;have z6:wa.heap.size<w4.heap.size:=S4.2.2.2.lt;have R3:=H3 S5 O5 (F.out.2.2.2.2.1.calls S5.2.2.1);clear S4 S5 O5 hw4 hg4 hn4 hv1 hbg4;go_wp2_with (at_builtin;refine XW R3.out.2.1 rfl _ _ 31 rfl underlying31 i0 I.out.1 I.out.2.1 I.out.2.2.1 I.out.2.2.2 rfl ac nc cc cs rfl R3.out.2.2 hl2 hno2 (by omega) (by rw[World.size_setCell];exact z6) ?_);intro v2 w6 hw6 hg6 hn6;have hv2:¬v2= .slice none 0 0:=by simpa using hn6
     rw[←HN.out] at hw6;replace hw6:w6.ownsRow (wa.heap.size+1) 5 1 v2 N ((r1++cs).map fun c=>Value.int .u8 (c.toNat:Int)):=by simpa using hw6
     have hw6':=hw6;obtain⟨g6,cap6,cur6,rfl,hgb6,hbg6,hq1,hq2,hq3,hq4⟩:=ZR hw6 hv2;have S6:=R3.out.1.grow z2 hg6 (fun k e=>by have:=Er e;omega);have S7:=S6.set z2 (.slice (some ⟨g6,0,none⟩) N cap6);have k6'':=S6.2.2.2.cell 0;have kf'':=S6.2.2.2.frozen 0;have ne7:g6≠wa.heap.size:=by omega
     have rd7:Rd (w6.setCell ⟨wa.heap.size,0,none⟩ (.slice (some ⟨g6,0,none⟩) N cap6)) g6 0 (r1++cs):=fun i hi=>((hbg6.far ne7 _).cell (0+i)).trans (by rw[Qd5];exact hq4 i hi);have lt7:=(hbg6.far ne7 (b:=wa.heap.size) (i:=0) (.slice (some ⟨g6,0,none⟩) N cap6)).lt;have R4:=H3 S7 rd7 lt7;clear S6 S7 rd7 lt7 hw6 hg6 hn6 hv2 hbg6 hw6' hq4;go_wp2_with fail;go_meet;exact⟨some ⟨g6,0,none⟩,cap6,R4.out.1.1,R4.out.1.2.1,R4.out.1.2.2.1,R4.out.1.2.2.2,.inr ⟨g6,0,rfl,.inr (by omega),R4.out.2.2,R4.out.2.1⟩,hq1,by unfold maxLen at hq2;omega,fun h=>by cases h⟩
   case rest=>
    obtain⟨a,c,A0,A1,AB,A6,hrd,q1,q2,q3⟩:=hcut;have K4:K≤4000000:=by rw[F.out.2.2.2.2.2.2.1];exact EI m
    have cN:=fun w'=>Fe magic (K:Int) w';rw[Ty K K4] at cN;have c0:wc.cell? ⟨w.heap.size,0,none⟩=some (.int .u32 magic):=A0.cell 0;have c1':wc.cell? ⟨w.heap.size,1,none⟩=some (.int .i64 (K:Nat)):=A0.cell 1;have k6:wc.cell? ⟨wa.heap.size,0,none⟩=some (.slice a N c):=A6.cell 0;have z7:=A6.lt;have z8:w.heap.size<wc.heap.size:=by omega
    have HH:=H9 A0 A1 AB A6 hrd q1 q2 q3 cN;clear A0 A1 AB A6 hrd q1 q2 q3 cN;clear f0 f1 f2 f3 d0 d1 d2 d3 c3;go_wp2_with fail;refine (HH.out.2.2.2.2.2.2.2.2 _).mono ?_;rintro e w2 ⟨rfl,hb2⟩;have B0:=HH.out.1.calls hb2;have B1:=HH.out.2.1.calls hb2;have B6:=HH.out.2.2.2.1.calls hb2;have BB:=bt HH.out.2.2.1 hb2;have hrd2:RdO (fun g=>g<w.heap.size∨wa.heap.size<g∧g<wc.heap.size) w2 a (r1++cs):=by
     have:=hb2;rcases HH.out.2.2.2.2.1 with h|⟨g,off,e1,e2,e3,e4⟩
     ·exact .inl h
     ·exact .inr ⟨g,off,e1,e2.imp id (fun h=>⟨h,e3⟩),Qdr e3 hb2.size,fun i hi=>e4.at hb2 e3 i hi⟩
    have c0:w2.cell? ⟨w.heap.size,0,none⟩=some (.int .u32 magic):=B0.cell 0;have c1':w2.cell? ⟨w.heap.size,1,none⟩=some (.int .i64 (K:Nat)):=B0.cell 1;have k6:w2.cell? ⟨wa.heap.size,0,none⟩=some (.slice a N c):=B6.cell 0;have z9:=B6.lt;have z10:w.heap.size<w2.heap.size:=by omega
    have z11:wc.heap.size≤w2.heap.size:=hb2.size;have HB:=H5 B0 B1 B6 BB hrd2;clear B0 B1 B6 BB hb2 hrd2;unfold QcV;go_wp2_with fail;refine (Rg magic K a N c _).mono ?_;rintro e w3 ⟨rfl,rfl⟩;go_wp2_with fail;have hs:w.heap.size+1<wa.heap.size∧wa.heap.size<w2.heap.size:=⟨z2,z9⟩;have hNl:N=(r1++cs).length:=by rw[Qdj,H.out.2.2.2.2.1,hl2];exact HN.out
    have hRv:R=Lh magic K (r1++cs):=by simpa using H.out.2.2.2.1
    have I0:=Li (magic:=magic) (K:=K) hs HB.out.2.1 HB.out.2.2.2.1 HB.out.2.2.1 (HB.out.2.2.2.2.mono (fun g _ hg=>hg.imp id fun h=>⟨h.1,Qdr h.2 (by omega)⟩)) hNl HH.out.2.2.2.2.2.1 HH.out.2.2.2.2.2.2.1 HH.out.2.2.2.2.2.2.2.1;have F':=F.out.2.2.2.2.2.1;clear hs;obtain⟨W0,hW0⟩:=nE ((((((w2.alloc (.cells #[.int .u32 magic,.int .i64 (K:Nat),.slice none 0 0,.int .i64 0] 117)).alloc (.cells #[.slice none 0 0] 306)).alloc (.cells #[.int .u32 magic] 22)).alloc (.cells #[.int .i64 (K:Nat)] 3)).alloc (.cells #[.slice a N c] 31)));have hS0:W0.heap.size=w2.heap.size+5:=by rw[hW0];simp
    rw[←hW0] at I0 ⊢;clear hW0;refine (wpIn_wide (n:=6)).1 (Cx (Qde _) magic hm K K4 (w2.heap.size+2) (w2.heap.size+3) (w2.heap.size+4) (by omega) rfl rfl
     (fun rest W=>∃T a c,FdI w w.heap.size wa.heap.size w2.heap.size magic K rest rest T (.slice a T.length c) (.slice a T.length c) W∧PK magic K N (r1++cs) rest T)
     (fun rest k W=>k≤rest.length∧∃T a c,FdI w w.heap.size wa.heap.size w2.heap.size magic K (rest.drop k) rest T (.slice a T.length c) (.slice a T.length c) W∧PK magic K N (r1++cs) (rest.drop k) T)
     (fun W=>∃v u,FdF w w.heap.size w2.heap.size magic K R v u W)
     ?_ ?_ ?_ ?_ ?_ ?_ ?_ (r1++cs) ⟨[],none,0,I0,M6 hNl⟩ ?_)
    ·rintro rest W W' ⟨T,av,cv,h,hp⟩ k;exact⟨T,av,cv,h.keep k ⟨z2,z9⟩ (fun g hg=>.inr (by omega)),hp⟩
    ·rintro rest j W W' ⟨h1,T,av,cv,h,hp⟩ k;exact⟨h1,T,av,cv,h.keep k ⟨z2,z9⟩ (fun g hg=>.inr (by omega)),hp⟩
    ·rintro W W' ⟨v,u,h⟩ k;exact⟨v,u,h.keep k (by omega) (fun g hg=>.inr (by omega))⟩
    ·rintro rest W ⟨T,av,cv,h,hp⟩;obtain⟨a,c,e1,e2,e3,e4,e5⟩:=h.xb;have hn:=hp.1;exact⟨h.bm.cell 0,h.bc.cell 0,F'.below h.bl (Qde _),a,c,e1.cell 0,e2.rds,e3,⟨by omega,e4⟩,e5⟩
    ·clear HB HH HN H F c0 c1' k6 hNl hRv I0 F';rintro rest W9 W8 cm p u ⟨T,av,cv,h,hp⟩ hsz hb hg hu hf m9;obtain⟨ua,uc,rfl,hu2⟩:=hu;have h8:=h.keep (QC (X:=fun _=>False) hb) ⟨z2,z9⟩ (fun g hg=>hg.elim);have Y:=H8 h8 hp hsz hb hg hu2 hf h;clear h8 hp hsz hb hg hu2 hf h;simp only[List.zip_toArray,List.zip_cons_cons,List.zip_nil_right,NO,Qdv,QdL,Qe7,Nat.reduceAdd,List.foldl_toArray',Qf8,List.foldl_nil,Qdh,Qdz,Qdy];gi_wp2_with (rw[Oper.semAt_eq _ _ _ (fun c h=>by cases h)];go_simp;try go_bits);refine⟨Xt _ _ _,fun W2 kp2=>?_⟩;have hsz:=Y.out.2.2.1;have hle:=Y.out.2.2.2.1.size;have k8:Kp (fun k=>k=W0.heap.size+1) W8 W2:=(Xt _ _ _).trans kp2;have h2:=Y.out.1.keep k8 ⟨z2,z9⟩ (fun g hg=>.inr (by omega));have M2:Blk W2 W8.heap.size 43 #[.string (Xg cm),.slice ua p.length uc]:=kp2.blk (Blk.new _ _ _) (show ¬W8.heap.size=W0.heap.size+1 by omega);have hz2:W8.heap.size<W2.heap.size:=M2.lt;have k3:Kp (fun k=>k=W0.heap.size+1) W8 (W2.alloc (.cells #[.string (Xg cm),.slice ua p.length uc] 43)):=k8.trans (Xt _ _ _);obtain⟨L,l1,l2,l3⟩:=h2.ms.keep (Xt (fun _=>False) W2 (.cells #[.string (Xg cm),.slice ua p.length uc] 43)) (fun g _ h=>h);have hvb:∀g,(Value.slice av T.length cv).ownBlock=some g→w2.heap.size+7≤g∧g<W9.heap.size:=by
      obtain⟨_,_,q2,_⟩:=Y.out.2.2.2.2.2.2.2.ms;exact q2.lt
     have hpay:=QaM (v:=.slice av T.length cv) (b0:=w2.heap.size+7) ⟨ua,uc,rfl,Y.out.2.2.2.2.2.1⟩ Y.out.2.2.2.2.2.2.1 k3 (fun g hg=>by have hg':g=W0.heap.size+1:=hg;omega) (by omega) (fun g hg=>(hvb g hg).2);obtain⟨a6,c6,e1,e2,e3,e4,e5⟩:=h2.x6;have r0:W2.cell? ⟨w2.heap.size+1,0,none⟩=some (.slice av T.length cv):=h2.row.cell 0;have r1f:=h2.row.frozen 0;have m0:W2.cell? ⟨W8.heap.size,0,none⟩=some (.string (Xg cm)):=M2.cell 0;have m1:W2.cell? ⟨W8.heap.size,1,none⟩=some (.slice ua p.length uc):=M2.cell 1;have hbs:=fun w=>Qbt (Xg cm) ua p.length uc w;obtain⟨iM,hi,hz0,hz1,hz2'⟩:=info_parts (show (prog.info? 43).map (fun i=>(i.zero,i.size,i.bytes))=some (some (.agg #[.string ⟨#[]⟩,.slice none 0 0]),2,40) by kernel_rfl);have hTn:=Y.out.2.1.1;have U:=H14 h2 M2 l1 l2 l3 hvb hpay e1 e2 e5 hi hz0 hz1 hz2';clear h2 M2 l1 l2 l3 hvb hpay e1 e2 e5 hi hz0 hz1 hz2' kp2 k8 k3;gi_wp2_with (first|(gi_at_builtin;refine wpListIn_append_own_at _ rfl _ _ 306 rfl (w2.heap.size+7) 43 iM (.agg #[.string ⟨#[]⟩,.slice none 0 0]) 2 40 underlying306 U.out.2.2.2.2.2.2.2.2.2.2.1 U.out.2.2.2.2.2.2.2.2.2.2.2.1 U.out.2.2.2.2.2.2.2.2.2.2.2.2.1 U.out.2.2.2.2.2.2.2.2.2.2.2.2.2 rfl (by omega) (.slice av T.length cv) T.length (Tp L) rfl U.out.2.2.2.1 ⟨W2.heap.size,0,none⟩ 1 1 [.string (Xg cm),.slice ua p.length uc] rfl rfl (news2 W2 _ _ _) (by simp[Value.oneCell']) (by unfold maxLen;omega) (by omega) (by simp;omega) ?_)|(rw[Oper.semAt_eq _ _ _ (fun c h=>by cases h)];go_simp;try go_bits));intro v4 W4 o4 g4 _ ob4;obtain⟨a4,c4,rfl⟩:=Ku o4;have ms4:=MsgL.push (c:=cm) U.out.2.2.1 U.out.2.2.2.2.1 U.out.2.2.2.2.2.2.1 g4 (by rw[Qdu];exact ob4) o4;have kg:=Yw g4;have hX:∀g,some g=(Value.slice av T.length cv).ownBlock→w2.heap.size+7≤g∧g<W9.heap.size:=fun g e=>U.out.2.2.2.2.2.1 g e.symm;have i4:=(U.out.1.keep (Xt (fun _=>False) W2 (.cells #[.string (Xg cm),.slice ua p.length uc] 43)) ⟨z2,z9⟩ (fun g hg=>hg.elim)).grow kg ⟨z2,z9⟩ (fun g e=>by have:=hX g e;omega) ms4;have M4:Blk W4 W8.heap.size 43 #[.string (Xg cm),.slice ua p.length uc]:=kg.blk (U.out.2.1.alloc _) (fun e=>by have:=hX _ e;omega);have kW:Kp (fun g=>some g=(Value.slice av T.length cv).ownBlock) W2 W4:=(Xt _ _ _).trans kg;have hW2:w2.heap.size+6<W2.heap.size:=by omega
     have kD0:=kW.2.1 (w2.heap.size+5) (by omega) (fun e=>by have:=hX _ e;omega);have kD1:=kW.2.1 (w2.heap.size+6) (by omega) (fun e=>by have:=hX _ e;omega);obtain⟨a7,c7,y1,y2,y3,y4,y5⟩:=i4.x6;have r4:W4.cell? ⟨w2.heap.size+1,0,none⟩=some (.slice av T.length cv):=i4.row.cell 0;have r4f:=i4.row.frozen 0;have m1':W4.cell? ⟨W8.heap.size,1,none⟩=some (.slice ua p.length uc):=M4.cell 1;have k7:W4.cell? ⟨wa.heap.size,0,none⟩=some (.slice a7 rest.length c7):=y1.cell 0;have k7f:=y1.frozen 0;have ne1:wa.heap.size≠w2.heap.size+1:=by omega
     have ne2:W8.heap.size≠w2.heap.size+1:=by omega
     obtain⟨k,hk⟩:=nE (24+p.length);have hki:(24:Int)+(p.length:Int)=(k:Int):=by omega
     have hkr:k≤rest.length:=by rw[hk];exact (Yy Y.out.2.2.2.2.1).1
     have hk30:k≤2000000:=by omega
     have no1:∀g,(g<w.heap.size∨wa.heap.size<g∧g<w2.heap.size)→¬g=w2.heap.size+1:=fun g hg hx=>by omega
     have fin:∀V,V= .slice (if c7=k then a7 else Option.map (fun x=>x.add k) a7) (rest.length-k) (c7-k)→
       ((W4.setCell ⟨w2.heap.size+1,0,none⟩ (.slice a4 (T.length+1) c4)).setCell ⟨wa.heap.size,0,none⟩ V).heap[W0.heap.size+1]? =W2.heap[W0.heap.size+1]?∧((W4.setCell ⟨w2.heap.size+1,0,none⟩ (.slice a4 (T.length+1) c4)).setCell ⟨wa.heap.size,0,none⟩ V).heap[W0.heap.size]? =W2.heap[W0.heap.size]?∧
       24+p.length≤rest.length∧∃TT a c,FdI w w.heap.size wa.heap.size w2.heap.size magic K (rest.drop (24+p.length)) rest TT (.slice a TT.length c) (.slice a TT.length c) ((W4.setCell ⟨w2.heap.size+1,0,none⟩ (.slice a4 (T.length+1) c4)).setCell ⟨wa.heap.size,0,none⟩ V)∧PK magic K N (r1++cs) (rest.drop (24+p.length)) TT:=by
      intro V hV;subst hV;rw[←hk,hS0];refine⟨(Below.heap_setCell _ ⟨wa.heap.size,0,none⟩ _ _ (by show _≠wa.heap.size;omega)).trans ((Below.heap_setCell _ ⟨w2.heap.size+1,0,none⟩ _ _ (by show _≠w2.heap.size+1;omega)).trans kD1),(Below.heap_setCell _ ⟨wa.heap.size,0,none⟩ _ _ (by show _≠wa.heap.size;omega)).trans ((Below.heap_setCell _ ⟨w2.heap.size+1,0,none⟩ _ _ (by show _≠w2.heap.size+1;omega)).trans kD0),hkr,T++[(cm,p)],a4,c4,?_,?_⟩
      ·have eT:(T++[(cm,p)]).length=T.length+1:=by rw[Qdj];rfl
       rw[eT];refine (i4.setr ⟨z2,z9⟩).set6 ⟨z2,z9⟩ Qdq.symm ((y2.keep (QN _ _ _ _) no1).from rfl hkr y3) (by omega) (by omega) ?_;intro hh;have ha:a7=none:=by
        split at hh
        ·exact hh
        ·simpa using hh
       have:=y5 ha;omega
      ·have:=Qcr Y.out.2.1 Y.out.2.2.2.2.1;rw[←hk] at this;exact this
     have Z:=Lib.hid fin;clear fin i4 y1 y2 y5 hk kD0 kD1 M4 kW kg hX ms4 o4 g4 ob4 r0 r1f m0 m1;by_cases e7:c7=k
     ·gi_wp2_with (rw[Oper.semAt_eq _ _ _ (fun c h=>by cases h)];go_simp;try go_bits);exact Z.out _ (by rw[Qdm e7,e7,Qe9])
     ·gi_wp2_with (rw[Oper.semAt_eq _ _ _ (fun c h=>by cases h)];go_simp;try go_bits);exact Z.out _ (by rw[Qdf e7])
    ·rintro rest j W ⟨h1,T,av,cv,h,hp⟩;obtain⟨a,c,e1,e2,e3,e4,e5⟩:=h.xb;refine⟨a,c,e1.cell 0,e1.frozen 0,e3,e4,T,av,cv,h.setb ⟨z2,z9⟩ Qdq.symm (e2.from rfl h1 e3) (by omega) (by omega) ?_,hp⟩;intro hh;have ha:a=none:=by
      split at hh
      ·exact hh
      ·simpa using hh
     have:=e5 ha;omega
    ·clear HB HH HN H F c0 c1' k6 hNl I0 F';rintro rest W8 e ⟨T,av,cv,h,hp⟩ hsz hg m9;have he:=SA hg;have hr5:=pk_no hp hg;have Y:=H3 h hp hr5;clear h hp hg hr5;simp only[List.zip_toArray,List.zip_cons_cons,List.zip_nil_right,NO,Qdv,QdL,Qe7,Nat.reduceAdd,List.foldl_toArray',Qf8,List.foldl_nil,Qdh,Qdz,Qdy];gi_wp2_with (rw[Oper.semAt_eq _ _ _ (fun c h=>by cases h)];go_simp;try go_bits);refine⟨Xt _ _ _,fun W2 kp2=>?_⟩;have k8:Kp (fun k=>k=W0.heap.size+1) W8 W2:=(Xt _ _ _).trans kp2;have h2:=Y.out.1.keep k8 ⟨z2,z9⟩ (fun g hg=>.inr (by omega));have hz2:=k8.1;have f3:=h2.out.frozen 3;have o0:W2.cell? ⟨w2.heap.size,0,none⟩=some (.int .u32 magic):=h2.out.cell 0;have o1:W2.cell? ⟨w2.heap.size,1,none⟩=some (.int .i64 K):=h2.out.cell 1;have o2:W2.cell? ⟨w2.heap.size,2,none⟩=some (.slice none 0 0):=h2.out.cell 2;have o3:W2.cell? ⟨w2.heap.size,3,none⟩=some (.int .i64 0):=h2.out.cell 3;obtain⟨a6,c6,y1,y2,y3,y4,y5⟩:=h2.x6;have k7:W2.cell? ⟨wa.heap.size,0,none⟩=some (.slice a6 rest.length c6):=y1.cell 0;have he0:¬(e:Int)=0:=by omega
     have hlen:=Y.out.2.1.1;have hRR:R=(T,if e=1 then rest else [],if e=1 then 0 else (e:Int)):=hRv.trans Y.out.2.2;have U:=H5 h2 y1 y2 y5 hRR;clear h2 y1 y2 y5 kp2 k8 hRR;by_cases e1:e=1
     ·subst e1;gi_wp2_with (rw[Oper.semAt_eq _ _ _ (fun c h=>by cases h)];go_simp;try go_bits);refine⟨trivial,fun hh=>(by cases hh),CallsIn.inRound _ (callsIn_wide.2 ?_)⟩;refine (WB a6 rest.length c6 rest rfl (by omega) U.out.2.2.2.1 W2 U.out.2.2.1.rds).mono ?_;rintro e' W5 ⟨u,rfl,hb5,hu5,hf5⟩;obtain⟨ua,uc,rfl,hu6⟩:=hu5;have i5:=U.out.1.keep (QC (X:=fun _=>False) hb5) ⟨z2,z9⟩ (fun g hg=>hg.elim);have o2':W5.cell? ⟨w2.heap.size,2,none⟩=some (.slice none 0 0):=i5.out.cell 2;have f2':=i5.out.frozen 2;have ow5:∀g,(Value.slice av T.length cv).ownBlock=some g→g<W2.heap.size:=by
       obtain⟨_,_,q2,_⟩:=U.out.1.ms;exact fun g hg=>(q2.lt g hg).2
      have us5:SlO (fun g=>w2.heap.size+7≤g∧some g≠(Value.slice av T.length cv).ownBlock) rest (.slice ua rest.length uc) W5:=CloV.slo ⟨ua,uc,rfl,hu6⟩ (fun ad n c h _=>⟨by have:=hf5 ad n c h;omega,fun e=>by have:=hf5 ad n c h;have:=ow5 _ e.symm;omega⟩);have kD0:=hb5.block W0.heap.size (by omega);have kD1:=hb5.block (W0.heap.size+1) (by omega);have Z:=H4 i5 us5 kD0 kD1;clear i5 us5 kD0 kD1 hb5 hu6 hf5 ow5;gi_wp2_with (rw[Oper.semAt_eq _ _ _ (fun c h=>by cases h)];go_simp;try go_bits);exact To ((Below.heap_setCell _ ⟨w2.heap.size,2,none⟩ _ _ (by show _≠w2.heap.size;omega)).trans Z.out.2.2.2) ((Below.heap_setCell _ ⟨w2.heap.size,2,none⟩ _ _ (by show _≠w2.heap.size;omega)).trans Z.out.2.2.1) ⟨_,_,FdF.of1 Z.out.1 ⟨z2,z9⟩ Z.out.2.1 (by have:=U.out.2.2.2.2;simpa using this)⟩
     ·have e1':¬(e:Int)=1:=by omega
      gi_wp2_with (rw[Oper.semAt_eq _ _ _ (fun c h=>by cases h)];go_simp;try go_bits);exact To (Below.heap_setCell _ ⟨w2.heap.size,3,none⟩ _ _ (by show _≠w2.heap.size;omega)) (Below.heap_setCell _ ⟨w2.heap.size,3,none⟩ _ _ (by show _≠w2.heap.size;omega)) ⟨_,_,FdF.of2 U.out.1 ⟨z2,z9⟩ (by have:=U.out.2.2.2.2;simpa[e1] using this)⟩
    ·rintro W ⟨v,u,h⟩ hD;obtain⟨ua,uc,rfl,hu2⟩:=h.cl;obtain⟨va,vc,rfl⟩:∃a c,v= .slice a R.1.length c:=by
      obtain⟨L,_,q2,_⟩:=h.ms;exact Ku q2
     have o0:W.cell? ⟨w2.heap.size,0,none⟩=some (.int .u32 magic):=h.out.cell 0;have o1:W.cell? ⟨w2.heap.size,1,none⟩=some (.int .i64 K):=h.out.cell 1;have o2:W.cell? ⟨w2.heap.size,2,none⟩=some (.slice ua R.2.1.length uc):=h.out.cell 2;have o3:W.cell? ⟨w2.heap.size,3,none⟩=some (.int .i64 R.2.2):=h.out.cell 3;have r0:W.cell? ⟨w2.heap.size+1,0,none⟩=some (.slice va R.1.length vc):=h.row.cell 0;have d0:W.cell? ⟨w.heap.size+1,0,none⟩=some (.int .u32 0):=h.z4.cell 0;have d1:W.cell? ⟨w.heap.size+1,1,none⟩=some (.int .i64 0):=h.z4.cell 1;have d2:W.cell? ⟨w.heap.size+1,2,none⟩=some (.slice none 0 0):=h.z4.cell 2;have d3:W.cell? ⟨w.heap.size+1,3,none⟩=some (.int .i64 0):=h.z4.cell 3;have f0:=h.z4.frozen 0;have f1:=h.z4.frozen 1;have f2:=h.z4.frozen 2;have f3:=h.z4.frozen 3;have zz:=h.z4.lt;have zr:=h.row.lt;have Y:=H3 h hu2 hD;clear h hu2 hD HB HH HN H F c0 c1' k6 hNl hRv I0 F';obtain⟨x1,hx1⟩:=nE (R.1.length);obtain⟨x2,hx2⟩:=nE (R.2.1.length);obtain⟨x3,hx3⟩:=nE (R.2.2);rw[←hx1] at r0;rw[←hx2] at o2;rw[←hx3] at o3;have X:=H3 hx1 hx2 hx3;clear hx1 hx2 hx3;go_wp2_with fail;go_region;go_wp2_with fail;have iB:=QbM #[.int .u32 magic,.int .i64 (K:Nat),.slice ua x2 uc,.int .i64 x3] rfl;have hDs:W0.heap.size<W.heap.size:=(QdQ.1 Y.out.2.2).1;have hne:W0.heap.size≠w.heap.size+1:=by omega
     refine C3 (v:=.tuple #[.agg #[.int .u32 magic,.int .i64 (K:Nat),.slice ua x2 uc,.int .i64 x3],.slice va x1 vc]) rfl (((kp4 W (w.heap.size+1) _ _ _ _).2.1 _ hDs hne).trans Y.out.2.2) ?_ ⟨_,rfl,?_,?_⟩
     ·refine Eq.trans (XZ rfl _ _ (w.heap.size+1) _ _ ?_ ((KL _ _ _).blk ((((((Y.out.1.z4.set_ 0 _).set_ 1 _).set_ 2 _).set_ 3 _).to rfl)) hne.symm) underlying117 iB) ?_ <;> rfl
     ·exact (kp5 W (w.heap.size+1) W0.heap.size _ _ _ _ _).below Y.out.1.bl (by omega) (fun g hg=>by omega)
     ·obtain⟨e1,e2,e3⟩:=X.out;subst e1 e2 e3;exact⟨_,_,w2.heap.size+7,rfl,(Y.out.1.cl.keep (kp5 W (w.heap.size+1) W0.heap.size _ _ _ _ _) (fun g hg=>by omega)).clo,Y.out.1.ms.keep (kp5 W (w.heap.size+1) W0.heap.size _ _ _ _ _) (fun g hg=>by omega),by omega,(Y.out.1.cl.keep (kp5 W (w.heap.size+1) W0.heap.size _ _ _ _ _) (fun g hg=>by omega)).mono (fun g _ hg=>⟨by have:=hg.1;omega,hg.2⟩)⟩
  ·have H:=H7 A0 A1 AB hR hl hr h5;clear A0 A1 AB hR hl hr h5;go_wp2_with fail;have iB:=QbM #[.int .u32 magic,.int .i64 (K:Nat),.slice a1 n1 c1,.int .i64 b1] rfl;obtain⟨A0,A1,AB,hR,hl,hr,h5⟩:=H.out;refine F4 (v:=.tuple #[.agg #[.int .u32 magic,.int .i64 (K:Nat),.slice a1 n1 c1,.int .i64 b1],.slice none 0 0]) rfl ?_ ⟨_,rfl,(((AB.setCell (Qd9 _) _).setCell (Qd9 _) _).setCell (Qd9 _) _).setCell (Qd9 _) _,?_⟩
   ·refine Eq.trans (XZ rfl _ _ (w.heap.size+1) _ _ ?_ (((((A1.set_ 0 _).set_ 1 _).set_ 2 _).set_ 3 _).to rfl) underlying117 iB) ?_ <;> rfl
   ·rw[hR,Qdf hb];exact Qbo (h5 hb) h1 h2 h4
end Go.Proofs.YthdaabapiicnhaaGreatDoor
