/- Steps of the proof. -/
import Derived.Laws.AppendOwn
import Derived.Laws.AppendOwnNone
import Derived.Deep.DeepCutAuto
import Derived.ChangeSlices
import Derived.Test.YthdaabapiicnhaaGreatDoorTr03
set_option linter.all false
set_option maxRecDepth 100000
set_option maxHeartbeats 4000000
open Go.Proofs.Tryz
namespace Go.Proofs.YthdaabapiicnhaaGreatDoor
open Go.RowKit
def RdS(w:World)(a:Option Addr)(l:List UInt8):Prop:=l=[]∨∃g off,a=some ⟨g,off,none⟩∧g<w.heap.size∧Rd w g off l
theorem RdS.below{w w':World}{a:Option Addr}{l:List UInt8}{B:Nat}(h:RdS w a l)(hb:Below B w w')(hB:w.heap.size≤B):RdS w' a l:=by
 rcases h with h|⟨g,off,e,hg,hr⟩
 ·exact .inl h
 ·exact .inr ⟨g,off,e,Qdr hg hb.size,fun i hi=>hr.at hb (Qdr hg hB) i hi⟩
theorem RdS.calls{w w':World}{a:Option Addr}{l:List UInt8}(h:RdS w a l)(hb:Below w.heap.size w w'):RdS w' a l:=h.below hb (Qde _)
theorem JK(l:List UInt8)(k i:Nat):(l.drop k).getD i 0=l.getD (k+i) 0:=by simp[List.getD]
theorem Rd.drop{w:World}{g off k:Nat}{l:List UInt8}(h:Rd w g off l):Rd w g (off+k) (l.drop k):=fun i hi=>by
 rw[JK];have:=h (k+i) (by simp at hi;omega);rw[←Qeb] at this;exact this
theorem Rd.take{w:World}{g off k:Nat}{l:List UInt8}(h:Rd w g off l):Rd w g off (l.take k):=fun i hi=>by
 have hi':i<k∧i<l.length:=by rw[Qds] at hi;omega
 have:=h i hi'.2;rw[this];simp[List.getD,hi'.1]
theorem Cr(a:Option Addr)(l:List UInt8)(n c k:Nat)(hn:l.length=n)(hk:k≤n)(hc:n≤c):
  ∃a',(∀w,(Instr.slice 31 (.slice a n c) (some (.int .i64 k)) none none).run prog w= .ok (.slice a' (n-k:Nat) (c-k:Nat)) w)∧(∀w,RdS w a l→RdS w a' (l.drop k))∧(a'=none→a=none):=by
 have h0:∀w,(Instr.slice 31 (.slice a n c) (some (.int .i64 k)) none none).run prog w= .ok (sliced a k n c 1) w:=by
  intro w;have hs:(sizeOf (prog.elem 31)).run prog w= .ok 1 w:=by kernel_rfl
  rw[run_slice_l w 31 a n c (by kernel_rfl) .i64 k (by omega) (by omega),hs];rfl
 refine⟨if c=k then a else a.map (·.add (k*1)),fun w=>?_,fun w hr=>?_,fun h=>by split at h <;> cases a <;> simp_all⟩
 ·rw[h0 w];rfl
 ·by_cases e:k=n
  ·exact .inl (by rw[e,←hn];exact QeN)
  ·rcases hr with hr|⟨g,off,he,hg,hr⟩
   ·exact .inl (by rw[hr];exact List.drop_nil)
   ·refine .inr ⟨g,off+k,?_,hg,hr.drop⟩;rw[Qdf (by omega),he];simp[Addr.add_mid]
theorem Jb(a:Option Addr)(l:List UInt8)(n c k:Nat)(hn:l.length=n)(hk:k≤n)(hc:n≤c):
  ∃a',(∀w,(Instr.slice 31 (.slice a n c) none (some (.int .i64 k)) none).run prog w= .ok (.slice a' k c) w)∧(∀w,RdS w a l→RdS w a' (l.take k))∧(a=none↔a'=none)∧((∃g off,a=some ⟨g,off,none⟩)→∃g off,a'=some ⟨g,off,none⟩):=by
 have h0:∀w,(Instr.slice 31 (.slice a n c) none (some (.int .i64 k)) none).run prog w= .ok (sliced a 0 k c 1) w:=by
  intro w;have hs:(sizeOf (prog.elem 31)).run prog w= .ok 1 w:=by kernel_rfl
  rw[run_slice_h w 31 a n c (by kernel_rfl) .i64 k (by omega) (by omega),hs];rfl
 refine⟨if c=0 then a else a.map (·.add (0*1)),fun w=>?_,fun w hr=>?_,?_,fun ⟨g,off,h⟩=>?_⟩
 ·rw[h0 w];rfl
 ·rcases hr with hr|⟨g,off,he,hg,hr⟩
  ·exact .inl (by rw[hr];exact List.take_nil)
  ·refine .inr ⟨g,off,?_,hg,hr.take⟩;rw[he];split
   ·rfl
   ·simp[Addr.add_mid]
 ·split
  ·exact Iff.rfl
  ·cases a <;> simp
 ·refine⟨g,off,?_⟩;rw[h];split
  ·rfl
  ·simp[Addr.add_mid]
def Vk(l:List UInt8):Nat→List Wd→List Wd
 | 0,H=>H
 | k+1,H=>blk (Vk l k H) ((l.drop (64*k)).take 64)
theorem ZF(l:List UInt8)(k:Nat)(H:List Wd)(h:H.length=8):(Vk l k H).length=8:=by
 induction k with
 | zero=>exact h
 | succ k ih=>exact Vl _ _ ih
def YO(H:List Wd)(l:List UInt8):List Wd:=Vk l (l.length/64) H
def XJ(l:List UInt8):List UInt8:=l.drop (64*(l.length/64))
theorem J3(l:List UInt8):(XJ l).length=l.length%64:=by
 unfold XJ;rw[Qdq];omega
theorem Yj(l:List UInt8)(j:Nat):(l.drop (64*j)).length=l.length-64*j:=Qdq
theorem ST(n m:Nat)(hn:n<W64):IntKind.u64.wrap ((n:Int)+(m:Int))=(((n+m)%W64:Nat):Int):=by
 rw[IntKind.wrap_u64];unfold W64;omega
theorem Blk.setsFar{g b:Nat}{t:TypeId}{cs:Array Value}(hne:g≠b):∀(vs:List Value) (o:Nat) {w:World},Blk w g t cs→Blk (w.setCells b o vs) g t cs
 | [],_,_,h=>h
 | v::vs,o,_,h=>Blk.setsFar hne vs (o+1) (h.far hne v)
theorem Vn{B b:Nat}{w0:World}(hb:B≤b):∀(vs:List Value) (o:Nat) {w:World},Below B w0 w→Below B w0 (w.setCells b o vs)
 | [],_,_,h=>h
 | v::vs,o,_,h=>Vn hb vs (o+1) (h.setCell hb v)
theorem Blk.setWords{w:World}{g:Nat}{t:TypeId}{H r:List Wd}{v:Value}{n:Nat}(h:Blk w g t (stC H v n))(hH:H.length=8)(hr:r.length=8):Blk (w.setCells g 0 (Q4 r).toList) g t (stC r v n):=by
 obtain⟨x0,x1,x2,x3,x4,x5,x6,x7,rfl⟩:=Gs H hH;obtain⟨y0,y1,y2,y3,y4,y5,y6,y7,rfl⟩:=Gs r hr;have e:(Q4 [y0,y1,y2,y3,y4,y5,y6,y7]).toList=[.int .u32 (wn y0),.int .u32 (wn y1),.int .u32 (wn y2),.int .u32 (wn y3),.int .u32 (wn y4),.int .u32 (wn y5),.int .u32 (wn y6),.int .u32 (wn y7)]:=rfl;rw[e];simp only[World.setCells,Qd5,Nat.reduceAdd];refine ((((((((h.set_ 0 _).set_ 1 _).set_ 2 _).set_ 3 _).set_ 4 _).set_ 5 _).set_ 6 _).set_ 7 _).to ?_;simp[stC]
theorem Jw{w:World}{g:Nat}{t:TypeId}{H:List Wd}{v:Value}{n:Nat}(h:Blk w g t (stC H v n))(hH:H.length=8):w.rangeAt g 0 (Q4 H).toList:=by
 intro j u hu;have hj:j<8:=by
  have:=(Qdt.1 hu).1;simp[Q4,hH] at this;exact this
 rw[Qd5,h.cell,Rz H v n j hH hj];have e:=We H j (by omega);rw[←QeT,hu] at e;exact e.symm
theorem V6{w:World}{g:Nat}{t:TypeId}{H:List Wd}{v:Value}{n:Nat}(h:Blk w g t (stC H v n))(hH:H.length=8):w.there g 0 8:=fun j hj=>by
 rw[Qd5,h.cell,Rz H v n j hH hj];exact⟨rfl,h.frozen j⟩
theorem Zb{P:Program}{Q:Exit→Act→World→Prop}{o:Oper}{A:Act}{w:World}(ty:TypeId)(x:Operand)(ho:o.op= .load ty x)(b f:Nat)(hx:A.eval x= .pointer (some ⟨b,f,none⟩))(cs:List Value)(d:TypeDesc)(hc:w.rangeAt b f cs)
  (hu:P.underlying ty=some d) (hd:d.isRow=true) (hi:(P.info? ty).map (·.size)=some cs.length):o.wp P A w (fun a' w''=>a'=A.put o.dst (.agg cs.toArray)∧Below w.heap.size w w'') Q:=
 wp_load_mid ty x ho b f hx cs d hc hu hd hi ⟨rfl,Below.refl _ _⟩
theorem Wl{Q:Exit→Act→World→Prop}{o:Oper}{A:Act}{w:World}(x:Operand)(ho:o.op= .fieldAddr 205 x 0)(g:Nat)(hx:A.eval x= .pointer (some ⟨g,0,none⟩)):
  o.wp prog A w (fun a' w''=>a'=A.put o.dst (.pointer (some ⟨g,0,none⟩))∧Below w.heap.size w w'') Q:=by
 have hf:(Instr.fieldAt 205 (.pointer (some ⟨g,0,none⟩)) 0).run prog w= .ok (.pointer (some ⟨g,0,none⟩)) w:=by kernel_rfl
 refine Xe ?_;unfold execOp;simp only[ho,hx,Qdl,hf];rfl
theorem Yq{P:Program}{Q:Exit→Act→World→Prop}{o:Oper}{A:Act}{w:World}(t:TypeId)(x:Operand)(lo hi:Option Operand)(ho:o.op= .slice t x lo hi none){xv u:Value}{lv hv:Option Value}(hx:A.eval x=xv)(hl:lo.map A.eval=lv)(hh:hi.map A.eval=hv)
  (ht:P.underlying t=some (.slice (P.elem t))) (hrun:(Instr.slice t xv lv hv none).run P w= .ok u w):o.wp P A w (fun a' w''=>a'=A.put o.dst u∧Below w.heap.size w w'') Q:=by
 refine Xe ?_;unfold execOp;simp only[ho,hx,hl,hh,Option.map_none,Qdl,run_sliceAt_slice w t xv lv hv none ht,hrun];rfl
theorem KA{A:Act}{x y:Operand}{u v:Value}(h1:A.eval x=u)(h2:A.eval y=v):#[x,y].map A.eval=#[u,v]:=by simp[h1,h2]
theorem Qc4{A:Act}{x:Operand}{u:Value}(h1:A.eval x=u):#[x].map A.eval=#[u]:=by simp[h1]
def Sq:Value→Nat
 | .slice _ n _=>n
 | _=>0
theorem RdS.from{w:World}{a:Option Addr}{l:List UInt8}{n c k:Nat}(h:RdS w a l)(hn:l.length=n)(hk:k≤n)(hc:n≤c):RdS w (if c=k then a else Option.map (fun x=>({block:=x.block,off:=x.off+k}:Addr)) a) (l.drop k):=by
 by_cases e:k=n
 ·exact .inl (by rw[e,←hn];exact QeN)
 ·rcases h with h|⟨g,off,he,hg,hr⟩
  ·exact .inl (by rw[h];exact List.drop_nil)
  ·refine .inr ⟨g,off+k,?_,hg,hr.drop⟩;rw[Qdf (by omega),he];rfl
theorem ZR{w:World}{base:Nat}{e:TypeId}{v:Value}{n:Nat}{l:List UInt8}(h:w.ownsRow base e 1 v n (l.map fun c=>Value.int .u8 c.toNat))(hv:¬v= .slice none 0 0):
  ∃g cap cur,v= .slice (some ⟨g,0,none⟩) n cap∧base≤g∧Blk w g e cur∧n≤cap∧cap≤maxLen∧l.length=n∧∀i,i<l.length→cur[i]? =some (.int .u8 (l.getD i 0).toNat):=by
 obtain⟨h1,h2|⟨g,cap,cur,h3,h4,h5,h6,h7,h8,h9⟩⟩:=h
 ·exact absurd h2.1 hv
 ·refine⟨g,cap,cur,h3,h4,h5,h6,h7,by simpa using h1,fun i hi=>?_⟩;have e:(cur.toList.take (n*1))[i]? =some (.int .u8 (l.getD i 0).toNat):=by rw[h9];simp[hi]
  rw[QeP] at e;split at e
  ·simpa using e
  ·cases e
theorem Blk.grown{w w':World}{g:Nat}{t:TypeId}{cs:Array Value}{row:Option Nat}(h:Blk w g t cs)(hg:w.grownBy w' row)(hne:some g≠row):Blk w' g t cs:=(hg.block g h.lt hne).trans h
theorem Qn{w0 w w':World}{B:Nat}{row:Option Nat}(h:Below B w0 w)(hg:w.grownBy w' row)(hB:B≤w.heap.size)(hr:∀k,row=some k→B≤k):Below B w0 w':=
 h.trans ⟨hg.os,hg.tape,hg.output,hg.size,fun k hk=>hg.block k (by omega) (fun e=>by have:=hr k e.symm;omega)⟩
theorem PI{w:World}{a:Addr}{l:List UInt8}(h:RdS w (some a) l):∀j u,(l.map fun c=>Value.int .u8 (c.toNat:Int))[j]? =some u→w.cell? (a.add j)=some u:=by
 intro j u hu;have hj:j<l.length:=by simpa using (Qdt.1 hu).1
 rcases h with h|⟨g,off,he,hg,hr⟩
 ·rw[h] at hj;cases hj
 ·injection he with he
  subst he;rw[Addr.add_mid,hr j hj];simp[hj] at hu;rw[←hu];simp[hj]
theorem ZB(H:List Wd)(v v':Value)(n:Nat)(h:H.length=8):(stC H v n).setIfInBounds 8 v'=stC H v' n:=by
 obtain⟨x0,x1,x2,x3,x4,x5,x6,x7,rfl⟩:=Gs H h;rw[YS,YS];rfl
theorem Jg(l:List UInt8):∀u∈(l.map fun c=>Value.int .u8 (c.toNat:Int)),u.oneCell'=true:=by
 intro u hu;obtain⟨c,_,rfl⟩:=QdZ.1 hu;rfl
theorem XW{P:Program}{w:World}{ops:Array Oper}{rest:List Oper}{o:Oper}{a:Act}{Q:Exit→Act→World→Prop}{base:Nat}{e:TypeId}{v:Value}{n:Nat}{xs:List UInt8}(hown:w.ownsRow base e 1 v n (xs.map fun c=>Value.int .u8 (c.toNat:Int)))
  (hgd:o.guard=none) (s x:Operand) (t:TypeId) (ho:o.op= .call {callee:=.builtin .append,args:=#[s,x],argTypes:=#[t,t]}) (ht:P.underlying t=some (.slice e)) (i:TypeInfo) (hi:P.info? e=some i) (hz:i.zero=some (.int .u8 0)) (h1:i.size=1) (hby:i.bytes=1)
  (hs:a.eval s=v) (a2:Option Addr) (m c:Nat) (l:List UInt8) (hx:a.eval x= .slice a2 m c) (hr:RdS w a2 l) (hl:l.length=m) (hno:a2=none→m=0∧c=0) (hn:n+m≤140737488355328) (hbase:base≤w.heap.size)
  (k:∀v' w',w'.ownsRow base e 1 v' (n+m) ((xs++l).map fun c=>Value.int .u8 (c.toNat:Int))→w.grownBy w' v.ownBlock→(¬v= .slice none 0 0→¬v'= .slice none 0 0)→wpList P ops Q rest (a.put o.dst v') w'):wpList P ops Q (o::rest) a w:=by
 cases a2 with
 | none=>
  obtain⟨h2,h3⟩:=hno rfl;subst h2 h3;have hl0:l=[]:=QdO.1 hl;subst hl0;exact wpList_append_own_none hgd s x t ho base e i 1 ht hi v n _ hs hown hx (k v w (by rw[QdF];exact hown) ⟨rfl,rfl,rfl,Qde _,fun _ _ _=>rfl⟩ id)
 | some ad=>
  refine wpList_append_own w hgd s x t ho base e i (.int .u8 0) 1 1 ht hi hz h1 hby rfl (by omega) v n _ hs hown ad m c (l.map fun c=>Value.int .u8 (c.toNat:Int)) hx (by rw[QdA,hl,Qe2]) (fun j u hu=>PI hr j u hu) (Jg l) (by unfold maxLen;omega) (by omega) hbase fun v' w' h2 h3 h4=>?_;refine k v' w' (by rw[QdR];exact h2) h3 fun h5 h6=>h5 (h4.1 h6).1
theorem Pd(H:List Wd)(l:List UInt8)(h:64≤l.length):YO H l=YO (blk H (l.take 64)) (l.drop 64):=by
 have hb:∀k,Vk l (k+1) H=Vk (l.drop 64) k (blk H (l.take 64)):=by
  intro k;induction k with
  | zero=>rfl
  | succ k ih=>
   rw[Vk,ih,Vk,Qei,show 64+64*k=64*(k+1) by omega]
 unfold YO;rw[Qdq,←hb,show (l.length-64)/64+1=l.length/64 by omega]
theorem JT(l:List UInt8)(h:64≤l.length):XJ l=XJ (l.drop 64):=by
 unfold XJ;rw[Qdq,Qei];congr 1;omega
theorem BI(H:List Wd)(l:List UInt8)(h:l.length<64):YO H l=H:=by
 unfold YO;rw[show l.length/64=0 by omega];rfl
theorem G8(l:List UInt8)(h:l.length<64):XJ l=l:=by
 unfold XJ;rw[show l.length/64=0 by omega];rfl
theorem Ps(n c:Nat)(hnc:n≤c)(hn:c≤140737488355328)(w:World):
  (Instr.makeSlice 31 (.int .i64 n) (.int .i64 c)).run prog w= .ok (.slice (some ⟨w.heap.size,0,none⟩) n c) (w.alloc (.cells (Array.replicate c (.int .u8 0)) 5)):=by
 obtain⟨i0,hi,hz0,hz1,hz2⟩:=info_parts (show (prog.info? 5).map (fun i=>(i.zero,i.size,i.bytes))=some (some (.int .u8 0),1,1) by kernel_rfl);rw[run_make w 31 5 i0 (.int .u8 0) underlying31 hi hz0 .i64 .i64 n c (by omega) (by omega) (by rw[hz2];omega) (by omega),hz1,Qe4,Qe4,Qe2];exact congrArg (fun cs=>Result.ok _ (w.alloc (.cells cs 5))) (WM _ c)
end Go.Proofs.YthdaabapiicnhaaGreatDoor
namespace Go.Proofs.YthdaabapiicnhaaGreatDoor
open Go.ChangeShapes Go.WideShapes Go.ChangeAt Go.RowKit
theorem Tc{w:World}{a:Addr}{v:Value}(h:w.cell? a=some v):a=⟨a.block,a.off,none⟩∧a.block<w.heap.size:=by
 obtain⟨b,o,s⟩:=a;unfold World.cell? at h;cases hb:w.heap[b]? with
 | none=>rw[hb] at h;cases h
 | some ob=>
  have hlt:b<w.heap.size:=(QdQ.1 hb).1;rw[hb] at h;cases s with
  | none=>exact⟨rfl,hlt⟩
  | some k=>
   cases ob <;> simp at h
theorem Me(n:Int)(h:(Lit.int .u8 n).wf=true):n=((UInt8.ofNat n.toNat).toNat:Int):=by
 simp[Lit.wf,IntKind.min,IntKind.max,IntKind.signed,IntKind.bits] at h;simp;omega
theorem CO{H:Type}{enc:TypeId×Value→H}{P:Program}{w:World}{r:Reach}{b0:Nat}{t e:TypeId}{v:Value}{d:DataW H}{p:List MemPlace}(ht:P.underlying t=some (.slice e))(he:P.underlying e=some (.int .u8))(hc:P.cellsOf e=1)(hby:P.bytesOf e=1)
  (hv:Value.okWide P w r b0 t v) (h:DataW.Trod enc P w 0 (fun _=>true) true t v d p) (hwt:(DataW.weights P t d).all (·≤reachBytes)=true):
  ∃(a:Option Addr) (n c:Nat) (l:List UInt8),v= .slice a n c∧l.length=n∧n≤c∧c≤140737488355328∧(a=none→n=0∧c=0)∧RdS w a l:=by
 obtain⟨a0,len,cap,rfl⟩:=okWide_slice ht hv;obtain⟨fuel,hf⟩:=h;rcases open_ints ht he hc hf with ⟨hcs,hx⟩|⟨a,len',cap',zs,hcs,_,hl,hm,hz,hx,hcell,hwz⟩
 ·simp[Value.cells] at hcs;obtain⟨rfl,rfl,rfl⟩:=hcs;exact⟨none,0,0,[],rfl,rfl,Qde _,by omega,fun _=>⟨rfl,rfl⟩,.inl rfl⟩
 ·simp[Value.cells] at hcs;obtain⟨rfl,rfl,rfl⟩:=hcs;simp only[QdC] at hz;simp only[Prod.mk.injEq] at hx;obtain⟨rfl,rfl⟩:=hx;have hcap:cap≤140737488355328:=by
   simp only[DataW.weights,ht,QfK,Qdo,QdM] at hwt;have h1:=hwt.1;rw[hby,Qe2] at h1;have e1:(lits (H:=H) IntKind.u8 (zs.take len)).length+(lits (H:=H) IntKind.u8 (zs.drop len)).length=cap:=by
    simp[lits];omega
   rw[e1] at h1;unfold reachBytes at h1;omega
  have hlz:len≤zs.length:=by rw[hz];exact hl
  refine⟨some a,len,cap,(zs.take len).map fun z=>UInt8.ofNat z.toNat,rfl,by simp;omega,hl,hcap,fun h=>(by cases h),?_⟩;by_cases h0:len=0
  ·left;subst h0;rfl
  ·right;have hc0:=hcell 0 (by omega);obtain⟨e1,e2⟩:=Tc (w:=w) (a:=a) (by simpa[Addr.add] using hc0);refine⟨a.block,a.off,by rw[←e1],e2,fun i hi=>?_⟩;have hi':i<len:=by simp at hi;omega
   have hci:=hcell i (by omega);have ea:a.add i=⟨a.block,a.off+i,none⟩:=by
    unfold Addr.add;split
    ·rename_i h;subst h;exact e1
    ·rfl
   rw[ea] at hci;rw[hci];have hzi:zs.getD i 0=zs[i]'(by omega):=by simp[List.getD,Qdk (show i<zs.length by omega)]
   have hgd:(((zs.take len).map fun z=>UInt8.ofNat z.toNat).getD i 0)=UInt8.ofNat (zs[i]'(by omega)).toNat:=by
    rw[List.getD,QdI,QdH hi',Qdk (by omega)];rfl
   rw[hgd,hzi,←Me _ (hwz _ (QfL _))]
section
variable {P:Program} {w:World} {r:Reach} {b0:Nat}
theorem NL{t:TypeId}{fs:Array Field}{v:Value}{ts:List TypeId}(ht:P.underlying t=some (.struct fs))(hct:P.cellTypes P.depth t=some ts)(hsz:P.cellsOf t=ts.length)(hv:Value.okWide P w r b0 t v):
  ∃cs:Array Value,v= .agg cs∧cs.size=ts.length∧∀(i:Nat) (u:TypeId),ts[i]? =some u→∃x,cs[i]? =some x∧Cell.okWide P w r b0 u x:=by
 simp only[Value.okWide,ht] at hv;obtain⟨cs,rfl,h2,ts',h3,_,h5⟩:=hv;rw[hct] at h3;obtain rfl:ts=ts':=Option.some.inj h3;rw[hsz] at h2;refine⟨cs,rfl,h2,fun i u hu=>?_⟩;have hi:i<ts.length:=(Qdt.1 hu).1;have hc:cs[i]? =some (cs[i]'(by omega)):=Qev (by omega);obtain⟨u',hu',hk⟩:=h5 i _ hc;rw[Qez hi,hu] at hu';obtain rfl:=Option.some.inj hu';exact⟨_,hc,hk⟩
end
end Go.Proofs.YthdaabapiicnhaaGreatDoor
namespace Go.Proofs.YthdaabapiicnhaaGreatDoor
open Go.RowKit
theorem JX{P:Program}{w:World}{ops:Array Oper}{rest:List Oper}{o:Oper}{a:Act}{Q:Exit→Act→World→Prop}{base:Nat}{e:TypeId}{v:Value}{n:Nat}{xs:List UInt8}(hown:w.ownsRow base e 1 v n (xs.map fun c=>Value.int .u8 (c.toNat:Int)))
  (hgd:o.guard=none) (s x:Operand) (t:TypeId) (ho:o.op= .call {callee:=.builtin .append,args:=#[s,x],argTypes:=#[t,t]}) (ht:P.underlying t=some (.slice e)) (i:TypeInfo) (hi:P.info? e=some i) (hz:i.zero=some (.int .u8 0)) (h1:i.size=1) (hby:i.bytes=1)
  (hs:a.eval s=v) (g c:Nat) (ch:UInt8) (hx:a.eval x= .slice (some ⟨g,0,none⟩) 1 c) (hc:w.cell? ⟨g,0,none⟩=some (.int .u8 ch.toNat)) (hn:n+1≤140737488355328) (hbase:base≤w.heap.size)
  (k:∀v' w',w'.ownsRow base e 1 v' (n+1) ((xs++[ch]).map fun c=>Value.int .u8 (c.toNat:Int))→w.grownBy w' v.ownBlock→¬v'= .slice none 0 0→wpList P ops Q rest (a.put o.dst v') w'):wpList P ops Q (o::rest) a w:=by
 refine wpList_append_own w hgd s x t ho base e i (.int .u8 0) 1 1 ht hi hz h1 hby rfl (by omega) v n _ hs hown ⟨g,0,none⟩ 1 c [Value.int .u8 (ch.toNat:Int)] hx rfl (fun j u hu=>?_) (fun u hu=>?_) (by unfold maxLen;omega) (by omega) hbase fun v' w' h2 h3 h4=>?_
 ·match j with
  | 0=>injection hu with hu;subst hu;exact hc
  | j+1=>cases hu
 ·obtain rfl:=QeG.1 hu;rfl
 ·refine k v' w' (by rw[QdR];exact h2) h3 fun h5=>by have:=(h4.1 h5).2;omega
theorem Qh{w:World}{base:Nat}{e:TypeId}{v:Value}{n:Nat}{xs:List Value}(h:w.ownsRow base e 1 v n xs):∃a c,v= .slice a n c:=by
 obtain⟨_,⟨rfl,rfl⟩|⟨g,cap,_,rfl,_⟩⟩:=h
 ·exact⟨_,_,rfl⟩
 ·exact⟨_,_,rfl⟩
theorem Wk{w:World}{base:Nat}{e:TypeId}{v:Value}{n:Nat}{l:List UInt8}(h:w.ownsRow base e 1 v n (l.map fun c=>Value.int .u8 (c.toNat:Int))):
  ∃(a:Option Addr) (c:Nat),v= .slice a n c∧l.length=n∧RdS w a l∧n≤c∧c≤maxLen∧(a=none→n=0∧c=0):=by
 by_cases hv:v= .slice none 0 0
 ·obtain⟨h1,h2|⟨g,cap,cur,h3,_⟩⟩:=h
  ·obtain⟨h3,rfl⟩:=h2;refine⟨none,0,hv,by simpa using h1,.inl ?_,Qde _,Qdw _,fun _=>⟨rfl,rfl⟩⟩;simpa using h1
  ·rw[hv] at h3;cases h3
 ·obtain⟨g,cap,cur,rfl,hb,hbg,h1,h2,h3,h4⟩:=ZR h hv;exact⟨some ⟨g,0,none⟩,cap,rfl,h3,.inr ⟨g,0,rfl,hbg.lt,fun i hi=>(hbg.cell (0+i)).trans (by rw[Qd5];exact h4 i hi)⟩,h1,h2,fun h=>by cases h⟩
def Pe(w:World)(He:List Wd)(t:List UInt8)(N:Nat)(e:Ending)(w':World):Prop:=
 ∃(a:Option Addr) (c:Nat),e= .returned (.agg (stC (YO He t) (.slice a (XJ t).length c) N))∧RdS w' a (XJ t)∧(XJ t).length≤c∧c≤maxLen∧Below w.heap.size w w'
theorem Px(H:List Wd)(hH:H.length=8)(a:Option Addr)(len c n:Nat)(hn:n<W64)(hlen:len≤9223372036854775807)(He:List Wd)(hHe:He.length=8)(ae:Option Addr)(ce ne:Nat)(hne:ne<W64)(hce:ce≤maxLen)
  (hE:(len=n%64∧He=H∧ae=a∧ce=c∧ne=n∧len=0)∨(len≠n%64∧He=HI∧ae=none∧ce=0∧ne=0))
  (a':Option Addr) (t:List UInt8) (m c':Nat) (hm:t.length=m) (hc:m≤c') (hc2:m≤140737488355328∧c'≤9223372036854775807) (hno:a'=none→m=0∧c'=0) (w:World) (hr:RdS w a' t) (hL:Laid w):
  Calls prog 79 #[.agg (stC H (.slice a len c) n),.slice a' m c'] w (Pe w He t ((ne+m)%W64)):=by
 obtain⟨b,hb⟩:∃b,decide (len=n%64)=b:=⟨_,rfl⟩;have iS:=Z4 (stC H (.slice a len c) n) (XT _ _ _ hH);have cS:=fun w=>G9 H hH a len c n hn hlen b hb w;obtain⟨S,hS⟩:=nE (stC H (.slice a len c) n);have sS:S.size=10:=by rw[hS];exact XT _ _ _ hH
 rw[←hS] at iS cS ⊢;obtain⟨SE,hSE⟩:=nE (stC He (.slice ae 0 ce) ne);have hcase:(b=true∧S=SE)∨(b=false∧stC HI (.slice none 0 0) 0=SE):=by
  rcases hE with ⟨h1,h2,h3,h4,h5,h6⟩|⟨h1,h2,h3,h4,h5⟩
  ·refine .inl ⟨by rw[←hb];simpa using h1,?_⟩;rw[hS,hSE,h2,h3,h4,h5,h6]
  ·refine .inr ⟨by rw[←hb];simpa using h1,?_⟩;rw[hSE,h2,h3,h4,h5]
 have sE:SE.size=10:=by rw[hSE];exact XT _ _ _ hHe
 have iE:=Z4 SE sE;have aE:SE.all (·.oneCell')=true:=by rw[hSE];exact ZQ _ _ _ _ _
 have sSE:S.size=SE.size:=by rw[sS,sE]
 have F:=H8 hSE hS hb hr hL hHe hm hn;have CS:=Lib.hid cS;clear hSE hS hb hr hL hE hH hn hHe hm cS sS sE;go_enter func79,ntmps79;go_wp2_with (with_reducible refine V7 ((Blk.newAt w _ S rfl).alloc _) _ _ rfl rfl rfl _ underlying205 iS ?_);refine (CS.out _).mono ?_;rintro e w1 ⟨rfl,hb1⟩;have A0:Blk w1 w.heap.size 205 S:=((Blk.newAt w _ S rfl).alloc _).calls hb1;have A1:Blk w1 (w.heap.size+1) 205 (XY 0):=by rw[ZA];exact (Blk.second w _ _ _).calls hb1
 have AB:Below w.heap.size w w1:=bt (ba (ba (Below.refl _ _) _) _) hb1;have z0:=A0.lt;have z1:=A1.lt;clear hb1
 go_upto_if 10 with fail
 go_cut [] (fun wx=>Blk wx w.heap.size 205 SE∧Blk wx (w.heap.size+1) 205 (XY 0)∧Below w.heap.size w wx)
 case first=>
  rcases hcase with ⟨h1,h2⟩|⟨h1,h2⟩
  ·subst h1;rw[h2] at A0;have HA:=H3 A0 A1 AB;clear A0 A1 AB h2;go_wp2_with fail;go_meet;exact HA.out
  ·subst h1;have HA:=H3 A0 A1 AB;clear A0 A1 AB;have h2':=Lib.hid h2;clear h2;go_wp2_with fail;refine (Ph _ (F.out.2.2.2.2.1.below HA.out.2.2 (Qde _))).mono ?_;rintro e w2 ⟨rfl,hb2⟩;rw[h2'.out];have B0:=HA.out.1.calls hb2;have B1:=HA.out.2.1.calls hb2;have BB:=bt HA.out.2.2 hb2;have HB:=H3 B0 B1 BB;clear B0 B1 BB hb2 HA;go_wp2_with (with_reducible refine Ql HB.out.1 _ _ _ _ rfl rfl rfl rfl iE sSE aE ?_);go_meet;exact⟨HB.out.1.row _,HB.out.2.1.rowFar (by omega) _,Qb HB.out.2.2 (by omega) _⟩
 case rest=>
  obtain⟨B0,B1,BB⟩:=hcut;clear hcase iE aE sSE iS A0 A1 AB CS z0 z1;have z0:=B0.lt;have z1:=B1.lt;obtain⟨N,hN⟩:=nE ((ne+m)%W64);have hNi:=ST ne m hne;rw[←hN] at hNi;obtain⟨x0,x1,x2,x3,x4,x5,x6,x7,h8⟩:=Gs He F.out.2.2.2.2.2.1;have B0':=B0;rw[F.out.1,h8,YS] at B0';have cc:=B0'.cell;have hm0:0≤(m:Int):=by omega
  have hmb:m≤140737488355328:=by omega
  have G:=H5 hN h8 B0 B1 BB;clear hN h8 B0 B0' B1 BB;go_wp2;have FIN:=Lib.hid (fun (a:Option Addr) (c:Nat) (w2:World) (h1:RdS w2 a (XJ t)) (h2:(XJ t).length≤c) (h3:c≤maxLen) (h4:Below w.heap.size w w2)=>show Pe w He t ((ne+m)%W64) (.returned (.agg (stC (YO He t) (.slice a (XJ t).length c) N))) w2 from ⟨a,c,by rw[G.out.1],h1,h2,h3,h4⟩);have A5:Blk _ wc.heap.size 205 (stC He (.slice none 0 0) N):=Blk.new wc 205 (stC He (.slice none 0 0) N);have A1:Blk _ (w.heap.size+1) 205 (XY 0):=G.out.2.2.2.1.alloc (.cells (stC He (.slice none 0 0) N) 205);have AB:Below w.heap.size w _:=ba G.out.2.2.2.2 (.cells (stC He (.slice none 0 0) N) 205);have HA:=H3 A5 A1 AB;clear A5 A1 AB;have hq:=G.out.2.1;rw[hq,YS] at HA;clear hq cc;generalize wc.alloc _=w3 at *;go_loopw [1] (fun s wr=>∃(j:Nat) (a1:Option Addr) (c1 p:Nat),p=m-64*j∧64*j≤m∧s= .slice a1 p c1∧p≤c1∧(p≤140737488355328∧c1≤9223372036854775807)∧RdS w a1 (t.drop (64*j))∧(a1=none→p=0∧c1=0)∧Blk wr (w.heap.size+1) 205 (XY 0)∧Blk wr wc.heap.size 205 (stC (Vk t j He) (.slice none 0 0) N)∧Below w.heap.size w wr) (fun s _=>Sq s)
  case atStart=>
   obtain⟨A5,A1,AB⟩:=HA.out;refine⟨0,a',c',m,by omega,by omega,rfl,hc,hc2,F.out.2.2.2.1,hno,A1,?_,AB⟩;rw[G.out.2.1,Vk,YS];exact A5
  case round=>
   clear HA;obtain⟨j,a1,c1,p,hp,hj,rfl,hpc,hc1,hr1,hno1,h1,h5,hb⟩:=hrel;have hpi:(p:Int)≤140737488355328:=by omega
   by_cases h64:64≤p
   ·obtain⟨a2,hs2,hr2,_,_⟩:=Jb a1 (t.drop (64*j)) p c1 64 (by rw[Yj,F.out.2.2.2.2.2.2.1,hp]) h64 hpc;obtain⟨Hj,hHj⟩:=nE (Vk t j He);have hHl:Hj.length=8:=by rw[hHj];exact ZF t j He F.out.2.2.2.2.2.1
    obtain⟨r,hrr⟩:=nE (blk Hj ((t.drop (64*j)).take 64));have hnext:Vk t (j+1) He=r:=by rw[Vk,←hHj,hrr]
    have hrl:r.length=8:=by rw[hrr];exact Vl _ _ hHl
    have htl:((t.drop (64*j)).take 64).length=64:=by rw[Qds,Yj,F.out.2.2.2.2.2.2.1,←hp];omega
    obtain⟨g2,o2,ha2,hg2,hrd2⟩:∃g off,a2=some ⟨g,off,none⟩∧g<w.heap.size∧Rd w g off ((t.drop (64*j)).take 64):=by
     rcases hr2 w hr1 with hh|hh
     ·rw[hh] at htl;cases htl
     ·exact hh
    subst ha2;have hcall:∀w',Below w.heap.size w w'→Calls prog 122 #[.agg (Q4 Hj),.slice (some ⟨g2,o2,none⟩) 64 c1] w' fun e w''=>e= .returned (.agg (Q4 r))∧Below w'.heap.size w' w'':=fun w' hw'=>by
     rw[hrr];exact Pj Hj hHl g2 o2 c1 _ w' (fun i hi=>hrd2.at hw' hg2 i hi) (Qdr hg2 hw'.size) htl (F.out.2.2.2.2.1.below hw' (Qde _))
    rw[←hHj] at h5;have l5:=h5.lt;have l1:=h1.lt;have i8H:=is8 (Q4 Hj) (by rw[XI,hHl]);have s8r:(Q4 r).size=8:=by rw[XI,hrl]
    have i8r:=is8 (Q4 r) s8r;have a8r:=ZZ r;have hpm:(p:Int)-64=((p-64:Nat):Int):=by omega
    have K:=H13 h1 h5 hb hp hHj hHl hrr hnext hrl htl hr1 hr1 s8r;clear h1 h5 hb hp hHj hHl hrr hnext hrl htl hr1 hr2 s8r;have KC:=Lib.hid hcall;clear hcall;have KS:=Lib.hid hs2;clear hs2;go_wp2_with fail;refine V4 [some 61,some 62,some 63,some 64,some 65,some 66,none] (fun i=>([.pointer (some ⟨wc.heap.size,0,none⟩),.agg (Q4 Hj),.slice a1 p c1,.slice (some ⟨g2,o2,none⟩) 64 c1,.agg (Q4 r),.pointer (some ⟨wc.heap.size,0,none⟩),undef]:List Value).getD i undef) 6 (fun w'=>∃wq,Below wr.heap.size wr wq∧w'=wq.setCells wc.heap.size 0 (Q4 r).toList) (by kernel_rfl) rfl rfl rfl rfl rfl rfl ⟨.inr ⟨rfl,fun A w' hb hs=>Wl (.tmp 5) rfl wc.heap.size ((hs.2 5 rfl).trans rfl)⟩,.inr ⟨rfl,fun A w' hb hs=>Zb _ (.tmp 61) rfl wc.heap.size 0 (hs.1 0 rfl 61 rfl) (Q4 Hj).toList _ (Jw (K.out.2.1.below hb K.out.2.1.lt) K.out.2.2.2.2.2.1) underlying203 rfl (by simpa using i8H)⟩,.inr ⟨rfl,fun A w' hb hs=>Qe (.tmp 1) (.inl rfl) ((hs.2 1 rfl).trans rfl)⟩,.inr ⟨rfl,fun A w' hb hs=>Yq _ (.tmp 63) none (some (.const (.int .i64 64))) rfl (hs.1 2 rfl 63 rfl) rfl rfl (by kernel_rfl) (KS.out w')⟩,.inr ⟨rfl,fun A w' hb hs=>Zj 122 _ (QH _ 122 _ rfl rfl (KA (hs.1 1 rfl 62 rfl) (hs.1 3 rfl 64 rfl)) func122 rfl rfl) (KC.out w' (bt K.out.2.2.1 hb))⟩,.inr ⟨rfl,fun A w' hb hs=>Wl (.tmp 5) rfl wc.heap.size ((hs.2 5 rfl).trans rfl)⟩,.inl ⟨rfl,rfl,fun A w' hb hs=>wp_store_mid _ (.tmp 66) (.tmp 65) rfl wc.heap.size 0 (Q4 r) (hs.1 5 rfl 66 rfl) (hs.1 4 rfl 65 rfl) (by rw[K.out.2.2.2.2.2.2.2.2.2.2.2.2];exact V6 (K.out.2.1.below hb K.out.2.1.lt) K.out.2.2.2.2.2.1) i8r a8r ⟨rfl,w',hb,rfl⟩⟩,trivial⟩ ?_;rintro _ ⟨wq,hbq,rfl⟩;simp only[Fr,QdC,Act.put,Qdh,Qdy,Qdz,Qej,Qed];have D1:=(K.out.1.below hbq l1).setsFar (b:=wc.heap.size) (by omega) (Q4 r).toList 0;have D5:=(K.out.2.1.below hbq l5).setWords K.out.2.2.2.2.2.1 K.out.2.2.2.2.2.2.2.2.1;have DB:=Vn (b:=wc.heap.size) (show w.heap.size≤wc.heap.size by omega) (Q4 r).toList 0 (bt K.out.2.2.1 hbq);have D:=H3 D1 D5 DB;clear D1 D5 DB hbq;generalize wq.setCells _ _ _=w6 at *;go_wp2;obtain⟨D1,D5,DB⟩:=D.out;obtain⟨_,_,_,hp,hHj,_,_,hnext,_,_,hr1,_,_⟩:=K.out;go_roundw
    case rel=>
     refine⟨j+1,_,c1-64,p-64,by omega,by omega,rfl,by omega,by omega,?_,?_,D1,by rw[hnext];exact D5,DB⟩
     ·have:=hr1.from (n:=p) (c:=c1) (k:=64) (by rw[Yj,F.out.2.2.2.2.2.2.1,hp]) h64 hpc;rw[Qei,show 64*j+64=64*(j+1) by omega] at this;exact this
     ·intro hnone;exfalso;have hsome:=hno1;cases a1 with
      | none=>have:=(hno1 rfl).1;omega
      | some ad=>split at hnone <;> cases hnone
    case measure=>simp[Sq];omega
   ·have hjj:t.length/64=j:=by rw[F.out.2.2.2.2.2.2.1];omega
    have hpl:p=(XJ t).length:=by rw[J3,F.out.2.2.2.2.2.2.1];omega
    have hdr:t.drop (64*j)=XJ t:=by unfold XJ;rw[hjj]
    have hHH:Vk t j He=YO He t:=by unfold YO;rw[hjj]
    rw[hdr] at hr1;rw[hHH] at h5;clear hjj hdr hHH;have hRl:(XJ t).length=p:=hpl.symm;have hmx:(XJ t).length≤maxLen:=by rw[hRl];unfold maxLen;omega
    obtain⟨i0,hi,hz0,hz1,hz2⟩:=info_parts (show (prog.info? 5).map (fun i=>(i.zero,i.size,i.bytes))=some (some (.int .u8 0),1,1) by kernel_rfl);have l5:=h5.lt;have l1:=h1.lt;have hHl:(YO He t).length=8:=ZF _ _ _ F.out.2.2.2.2.2.1;obtain⟨HH,hHH⟩:=nE (YO He t);obtain⟨R,hR⟩:=nE (XJ t);rw[←hHH] at h5 hHl;rw[←hR] at hr1 hRl hmx;have K:=H10 h1 h5 hb hp hHH hHl hR hRl hr1 hmx;clear h1 h5 hb hp hHH hHl hR hRl hr1 hpl hmx;have HI0:=H4 hi hz0 hz1 hz2;clear hi hz0 hz1 hz2;cases a1 with
    | none=>
     obtain⟨hp0,hc0⟩:=hno1 rfl;subst hp0 hc0;have R0:R=[]:=QdO.1 K.out.2.2.2.2.2.2.2.1;obtain⟨C,hC⟩:=nE (stC HH (.slice (some ⟨wr.heap.size,0,none⟩) 0 0) N);have sC:C.size=10:=by rw[hC];exact XT _ _ _ K.out.2.2.2.2.2.1
     have iC:=Z4 C sC;have s1:(XY 0).size=C.size:=by rw[sC];rfl
     have aC:C.all (·.oneCell')=true:=by rw[hC];exact ZQ _ _ _ _ _
     have B5:=K.out.2.1.alloc (.cells #[] 5);have c8:=Qz B5 8 _ (V8 _ _ _ K.out.2.2.2.2.2.1);have f8:=B5.frozen 8;have M5:Blk _ wc.heap.size 205 C:=((K.out.2.1.set_ 8 (.slice (some ⟨wr.heap.size,0,none⟩) 0 0)).to (show _=C by rw[hC];exact ZB _ _ _ _ K.out.2.2.2.2.2.1)).alloc (.cells #[] 5);have M1:=(K.out.1.far (show w.heap.size+1≠wc.heap.size by omega) (i:=8) (.slice (some ⟨wr.heap.size,0,none⟩) 0 0)).alloc (.cells #[] 5);have MB:=ba (K.out.2.2.1.setCell (show w.heap.size≤(⟨wc.heap.size,8,none⟩:Addr).block by show w.heap.size≤wc.heap.size;omega) (.slice (some ⟨wr.heap.size,0,none⟩) 0 0)) (.cells #[] 5);have M:=H5 M5 M1 MB hC R0;clear M5 M1 MB B5 hC sC R0;go_wp2_with (first|(at_builtin;refine wpList_append_own_none rfl _ _ 31 rfl wr.heap.size 5 i0 1 underlying31 HI0.out.1 _ 0 [] rfl (QeQ wr #[] 0 (Qde _) (by omega) rfl) rfl ?_)|with_reducible refine V7 M.out.1 _ _ rfl rfl rfl _ underlying205 iC ?_|with_reducible refine Ql M.out.2.1 _ _ _ _ rfl rfl rfl rfl iC s1 aC ?_);obtain⟨M5,M1,MB,hC,R0⟩:=M.out;have hRR:=K.out.2.2.2.2.2.2.1;have hHH:=K.out.2.2.2.2.1;rw[R0] at hRR;have hCC:C=stC (YO He t) (.slice (some ⟨wr.heap.size,0,none⟩) (XJ t).length 0) N:=by rw[hC,hHH,←hRR];rfl
     refine Qdg (v:=.agg C) ?_ rfl (by rw[hCC];exact FIN.out _ _ _ (.inl hRR.symm) (by rw[←hRR];exact Qde _) (by unfold maxLen;omega) (Qb MB (by omega) _));exact results_cell_row rfl _ _ _ _ _ (0,0) _ rfl (M1.row _) underlying205 rfl iC
    | some ad=>
     clear hno1;have hmb2:p≤maxLen:=by unfold maxLen;omega
     have hmb3:(0+p)*1≤140737488355328:=by omega
     go_wp2_with (at_builtin;go_loud (refine wpList_append_own _ rfl _ _ 31 rfl wr.heap.size 5 i0 (.int .u8 0) 1 1 underlying31 HI0.out.1 HI0.out.2.1 HI0.out.2.2.1 HI0.out.2.2.2 rfl (by omega) _ 0 [] rfl (QeQ wr #[] 0 (Qde _) (by omega) rfl) ad p c1 (R.map fun c=>Value.int .u8 (c.toNat:Int)) rfl (by rw[QdA,K.out.2.2.2.2.2.2.2.1,Qe2]) (fun j u hu=>PI ((K.out.2.2.2.2.2.2.2.2.1.below K.out.2.2.1 (Qde _)).below ((Below.refl _ _).alloc (Qde _) _) (Qde _)) j u hu) (Jg R) (by omega) hmb3 (by simp) ?_));intro v' w' ho hg hnil;obtain⟨g,cap,cur,rfl,hgb,hbg,hpc2,hcm3,hRp,hrd⟩:=ZR ho hnil;clear ho hnil;have B5:=(K.out.2.1.alloc (.cells #[] 5)).grown hg (by simp[Value.ownBlock];omega);have B1:=(K.out.1.alloc (.cells #[] 5)).grown hg (by simp[Value.ownBlock];omega);have BB:=Qn (ba K.out.2.2.1 (.cells #[] 5)) hg (by simp;omega) (by intro k hk;simp[Value.ownBlock] at hk;omega);clear hg;obtain⟨C,hC⟩:=nE (stC HH (.slice (some ⟨g,0,none⟩) p cap) N);have sC:C.size=10:=by rw[hC];exact XT _ _ _ K.out.2.2.2.2.2.1
     have iC:=Z4 C sC;have s1:(XY 0).size=C.size:=by rw[sC];rfl
     have aC:C.all (·.oneCell')=true:=by rw[hC];exact ZQ _ _ _ _ _
     have c8:=Qz B5 8 _ (V8 _ _ _ K.out.2.2.2.2.2.1);have f8:=B5.frozen 8;have M5:Blk _ wc.heap.size 205 C:=(B5.set_ 8 (.slice (some ⟨g,0,none⟩) p cap)).to (show _=C by rw[hC];exact ZB _ _ _ _ K.out.2.2.2.2.2.1);have M1:=B1.far (show w.heap.size+1≠wc.heap.size by omega) (i:=8) (.slice (some ⟨g,0,none⟩) p cap);have MG:=hbg.far (show g≠wc.heap.size by omega) (i:=8) (.slice (some ⟨g,0,none⟩) p cap);have MB:=BB.setCell (show w.heap.size≤(⟨wc.heap.size,8,none⟩:Addr).block by show w.heap.size≤wc.heap.size;omega) (.slice (some ⟨g,0,none⟩) p cap);have M:=H6 M5 M1 MB hC MG hrd;clear M5 M1 MB B5 B1 BB hbg hC sC MG hrd;go_wp2_with (first|with_reducible refine V7 M.out.1 _ _ rfl rfl rfl _ underlying205 iC ?_|with_reducible refine Ql M.out.2.1 _ _ _ _ rfl rfl rfl rfl iC s1 aC ?_);obtain⟨M5,M1,MB,hC,MG,hrd⟩:=M.out;have hRR:=K.out.2.2.2.2.2.2.1;have hHH:=K.out.2.2.2.2.1;have hRl:=K.out.2.2.2.2.2.2.2.1;have hCC:C=stC (YO He t) (.slice (some ⟨g,0,none⟩) (XJ t).length cap) N:=by rw[hC,hHH,←hRR,hRl]
     refine Qdg (v:=.agg C) ?_ rfl (by
      rw[hCC];refine FIN.out _ _ _ (.inr ⟨g,0,rfl,(MG.rowFar (show g≠w.heap.size+1 by omega) _).lt,?_⟩) (by rw[←hRR,hRl];exact hpc2) hcm3 (Qb MB (by omega) _);intro i hi;rw[←hRR] at hi ⊢;exact ((MG.rowFar (show g≠w.heap.size+1 by omega) _).cell (0+i)).trans (by rw[Qd5];exact hrd i hi))
     exact results_cell_row rfl _ _ _ _ _ (0,0) _ rfl (M1.row _) underlying205 rfl iC
end Go.Proofs.YthdaabapiicnhaaGreatDoor
