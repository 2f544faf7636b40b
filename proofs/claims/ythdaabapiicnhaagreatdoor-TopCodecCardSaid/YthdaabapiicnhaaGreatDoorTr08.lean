/- Steps of the proof. -/
import Derived.RangeFuncNested
import Derived.RangeFuncBound
import Derived.RangeFuncCalls
import Derived.RangeFuncLeaves
import Derived.Shelf.Abstract
import Derived.Shelf.RegionOpen
import Derived.OwnWalkIn
import Derived.TacticsInMore
import Derived.LoopNIn
import Derived.LoopIn
import Derived.RangeFuncKeeps
import Derived.Maps.OwnIn
import Derived.Deep.Slices
import Derived.Laws.Small
import Derived.Test.YthdaabapiicnhaaGreatDoorTr07
set_option linter.all false
set_option maxRecDepth 100000
set_option maxHeartbeats 4000000
open Go.Proofs.Tryz
namespace Go.Proofs.YthdaabapiicnhaaGreatDoor
open Go.RowKit Go.Shelf
attribute [local go_sem] Oper.semAt_some
theorem Rg(magic:Nat)(m:Int)(a:Option Addr)(k c:Nat)(w:World):Calls prog 199 #[.int .u32 magic,.int .i64 m,.slice a k c] w fun e w'=>e= .returned (.func (.func 217) #[] #[.pointer (some ⟨w.heap.size,0,none⟩),.pointer (some ⟨w.heap.size+1,0,none⟩),.pointer (some ⟨w.heap.size+2,0,none⟩)])∧
  w'=((w.alloc (.cells #[.int .u32 magic] 22)).alloc (.cells #[.int .i64 m] 3)).alloc (.cells #[.slice a k c] 31):=by
 have hmf:∀(fn:Fn) (first cap:Array Value) (w:World),(Instr.makeFunc fn first cap).run prog w= .ok (.func fn first cap) w:=fun _ _ _ _=>rfl;go_enter func199,ntmps199;go_wp2;go_ret;exact⟨rfl,rfl⟩
theorem SA{magic cap:Nat}{b:List UInt8}{e:Nat}(h:XA magic cap b= .no e):1≤e∧e≤5:=by
 unfold XA at h
 repeat' split at h
 all_goals first|(cases h;omega)|cases h
def MM(w:World)(b:Nat):Nat:=match w.cell? ⟨b,0,none⟩ with|some v=>Sq v|none=>0
theorem Qai(magic:Nat)(hm:magic<4294967296)(cap:Nat)(hcap:cap≤4000000)(Bm Bc Bb l n:Nat)(hn:3≤n)(A:List UInt8→World→Prop)(B:List UInt8→Nat→World→Prop)(Fin:World→Prop)
  (hA:∀rest W,A rest W→W.cell? ⟨Bm,0,none⟩=some (.int .u32 magic)∧W.cell? ⟨Bc,0,none⟩=some (.int .i64 cap)∧Laid W∧∃a c,W.cell? ⟨Bb,0,none⟩=some (.slice a rest.length c)∧RdS W a rest∧rest.length≤c∧(rest.length≤140737488355328∧c≤9223372036854775807)∧(a=none→rest.length=0∧c=0))
  (hAb:∀rest W W',A rest W→Below W.heap.size W W'→A rest W')
  (hyes:∀rest W0 W c p u,A rest W0→Below W0.heap.size W0 W→XA magic cap rest= .yes c p→CloV p u W→(∀ad n c,u= .slice (some ad) n c→W0.heap.size≤ad.block)→YieldAt Fence.wide (n-1) prog l #[.agg (NO c u),.int .i64 0] W fun e W'=>e= .returned (.bool true)∧B rest (24+p.length) W')
  (hB:∀rest k W,B rest k W→∃a c,W.cell? ⟨Bb,0,none⟩=some (.slice a rest.length c)∧W.frozen? ⟨Bb,0,none⟩=false∧rest.length≤c∧c≤9223372036854775807∧A (rest.drop k) (W.setCell ⟨Bb,0,none⟩ (.slice (if c=k then a else Option.map (fun x=>x.add k) a) (rest.length-k) (c-k))))
  (hno:∀rest W e,A rest W→XA magic cap rest= .no e→YieldAt Fence.wide (n-1) prog l #[.agg #[.string ⟨#[]⟩,.slice none 0 0],.int .i64 (e:Nat)] W fun e' W'=>e'= .returned (.bool true)∧Fin W')
  (rest0:List UInt8) (W:World) (h0:A rest0 W):
  CallsIn Fence.wide n prog 217 #[.func (.yield l) #[] #[],.pointer (some ⟨Bm,0,none⟩),.pointer (some ⟨Bc,0,none⟩),.pointer (some ⟨Bb,0,none⟩)] W fun e W'=>(∃v,e= .returned v)∧Fin W':=by
 refine callsIn_of_wp func217 rfl trivial ?_ rfl;simp only[ntmps217,Qdv,QdL,Qe7,Nat.reduceAdd,Nat.reduceSub,Array.replicate_succ,Array.replicate_zero,List.push_toArray,List.append_toArray,QdU,Qe0];gi_wp2
 gi_loopw [5,6,7] (fun _ _ _ wr=>∃rest,A rest wr) (fun _ _ _ wr=>MM wr Bb)
 case atStart=>exact⟨rest0,h0⟩
 case round=>
  obtain⟨rest,hA1⟩:=hrel;obtain⟨c1,c2,hL,a,c,c3,hr,hc,hc2,hno1⟩:=hA rest _ hA1;have G:=H4 hA1 hL hr hno1;clear hA1 hL hr hno1;have mB:=hm;have HA:=H5 hAb hB hyes hno hA;clear hA hAb hB hyes hno;gi_wp2_with fail;refine⟨trivial,fun hh=>(by cases hh),?_⟩;refine (callsIn_wide.2 (PU magic mB cap a rest.length c rest rfl hc hc2 G.out.2.2.2 _ G.out.2.2.1 G.out.2.1)).mono ?_;rintro e w' ⟨v,rfl,hb1,hv⟩;rw[Ty cap hcap] at hv;have hA2:=HA.out.1 rest wr w' G.out.1 hb1;cases hg:XA magic cap rest with
  | no e=>
   have he:=SA hg;have he':¬(e:Int)=0:=by omega
   simp only[GetV,hg] at hv;subst hv;obtain⟨fn,tmps,assign,body,hy,hR⟩:=HA.out.2.2.2.1 rest _ e (HA.out.1 rest w' _ hA2 (ba (Below.refl _ _) (.cells #[.string ⟨#[]⟩,.slice none 0 0] 43))) hg;have GG:=H3 hg hA2 hR;clear hg hA2 hR he;gi_wp2_with fail;refine⟨fun hh=>(by cases hh),?_⟩;refine GG.out.2.2.mono ?_;rintro e' W' ⟨rfl,hF⟩;have HF:=Lib.hid hF;clear hF hy;gi_wp2_with fail;exact Qdg (results_none rfl _ _ _) rfl ⟨⟨_,rfl⟩,HF.out⟩
  | yes cm p=>
   simp only[GetV,hg] at hv;obtain⟨u,rfl,hu,hfr⟩:=hv;obtain⟨fn,tmps,assign,body,hy,hR⟩:=HA.out.2.2.1 rest wr _ cm p u G.out.1 (ba hb1 (.cells (NO cm u) 43)) hg (hu.keep (ba (Below.refl _ _) _)) hfr;have hB:=HA.out.2.1 rest (24+p.length);obtain⟨k,hk⟩:=nE (24+p.length);have hk2:=(Yy hg).1;rw[←hk] at hk2 hR hB ⊢;have k30:k≤4000024:=by have:=(Yy hg).2.1;omega
   have hmc:NO cm u=#[.string (Xg cm),u]:=rfl;rw[hmc] at hy ⊢;obtain⟨ua,uc,rfl,hu2⟩:=hu;have GG:=H7 hg hA2 hu2 hfr hR hB hk;clear hg hA2 hu2 hfr hR hB hk hmc;gi_wp2_with fail;refine⟨fun hh=>(by cases hh),?_⟩;refine GG.out.2.2.2.2.1.mono ?_;rintro e' W' ⟨rfl,hF⟩;obtain⟨a2,c2,hc1,hc2,hc3,hc4,hc5⟩:=GG.out.2.2.2.2.2.1 W' hF;have HF:=H2 hF hc5;clear hF hc5 hy;gi_wp2_with fail;refine⟨⟨rest.drop k,HF.out.2⟩,?_⟩;have e1:MM wr Bb=rest.length:=by simp[MM,c3,Sq]
   have e2:(W'.setCell ⟨Bb,0,none⟩ (.slice (if c2=k then a2 else Option.map (fun x=>x.add k) a2) (rest.length-k) (c2-k))).cell? ⟨Bb,0,none⟩=some (.slice (if c2=k then a2 else Option.map (fun x=>x.add k) a2) (rest.length-k) (c2-k)):=World.cell?_setCell_same' _ _ _ (by rw[hc1];rfl);have e3:MM (W'.setCell ⟨Bb,0,none⟩ (.slice (if c2=k then a2 else Option.map (fun x=>x.add k) a2) (rest.length-k) (c2-k))) Bb=rest.length-k:=by unfold MM;rw[e2];simp[Sq]
   rw[e1,e3];have:=GG.out.2.2.2.2.2.2;omega
end Go.Proofs.YthdaabapiicnhaaGreatDoor
namespace Go.Proofs.YthdaabapiicnhaaGreatDoor
open Go.RowKit
def ekG:GR→Nat
 | .no e=>e
 | .yes _ _=>0
theorem beqN(a:Nat)(b:Int)(c:Nat)(h:b=(c:Int)):((a:Int)==b)=decide (a=c):=by
 subst h;rw[QeE,beq_iff_eq,decide_eq_true_iff];omega
def Tf(magic:Nat)(m:Int)(l:List UInt8)(bad:Int):Bool:=
 if m=(YN m:Int) then if bad=0 then decide (ekG (XA magic (YN m) l)=1) else decide (l.length=0) else false
theorem GetV.ek{base magic cap:Nat}{b:List UInt8}{v:Value}{w:World}(h:GetV base magic cap b v w):∃s a n c y,v= .tuple #[.agg #[.string s,.slice a n c],.int .i64 (y:Nat),.int .i64 (ekG (XA magic cap b):Nat)]:=by
 unfold GetV at h;cases hg:XA magic cap b with
 | no e=>rw[hg] at h;exact⟨_,_,_,_,0,h⟩
 | yes c p=>
  rw[hg] at h;obtain⟨u,rfl,⟨a,c,rfl,_⟩,_⟩:=h;exact⟨_,_,_,_,_,rfl⟩
theorem LW(magic:Nat)(hm:magic<4294967296)(m bad:Int)(a:Option Addr)(n c:Nat)(l:List UInt8)(hl:l.length=n)(hc:n≤c)(hc2:n≤140737488355328∧c≤9223372036854775807)(hno:a=none→n=0∧c=0)(w:World)(hr:RdS w a l)(hL:Laid w):
  Calls prog 198 #[.agg #[.int .u32 magic,.int .i64 m,.slice a n c,.int .i64 bad]] w fun e w'=>e= .returned (.bool (Tf magic m l bad))∧Below w.heap.size w w':=by
 have cB:=fun w=>VZ m w;obtain⟨k,hk⟩:=nE (YN m);have cG:=fun w' (h:Below w.heap.size w w')=>PU magic hm m a n c l hl hc hc2 hno w' (hr.calls h) (hL.below h (Qde _));obtain⟨s,hs⟩:=nE (Tf magic m l bad);rw[←hs];unfold Tf at hs;rw[←hk] at cB cG hs;clear hk;have CB:=Lib.hid cB;clear cB;have F:=H3 cG hs hl;clear cG hs hl hr hL hno;have B0:Below w.heap.size w (w.alloc (.cells #[.int .u32 magic,.int .i64 m,.slice a n c,.int .i64 bad] 117)):=ba (Below.refl _ _) _;have BB:=Lib.hid B0;clear B0;go_enter func198,ntmps198;by_cases h1:m=(k:Int)
 ·subst h1;by_cases h2:bad=0
  ·subst h2;go_wp2_with fail;go_quiet ((go_at_call 21;with_reducible exact Calls.quiet_of_same (CB.out _)));go_wp2_with fail;refine (F.out.1 _ (bdN BB.out _)).mono ?_;rintro e w' ⟨v,rfl,hb,hv⟩;obtain⟨S,a',n',c',y,rfl⟩:=hv.ek;obtain⟨E,hE⟩:=nE (ekG (XA magic k l));rw[←hE];have HE:=H3 hE hb hv;clear hE hb hv;have hbb:=bt (bdN BB.out _) HE.out.2.1;have HB:=Lib.hid hbb;clear hbb;go_wp2_with fail;refine Qdg (v:=.bool s) ?_ rfl ⟨rfl,ba HB.out _⟩;have es:s=decide (E=1):=by have:=F.out.2.1;rw[←HE.out.1] at this;simpa using this
   rw[es];simp[results,results198,go_sem];exact beqN _ _ 1 rfl
  ·go_wp2_with fail;go_quiet ((go_at_call 21;with_reducible exact Calls.quiet_of_same (CB.out _)));go_wp2_with fail;refine Qdg (v:=.bool s) ?_ rfl ⟨rfl,bdN BB.out _⟩;have es:s=decide (n=0):=by have:=F.out.2.1;rw[F.out.2.2] at this;simpa[h2] using this
   rw[es];simp[results,results198,go_sem];exact beqN _ _ 0 rfl
 ·go_wp2_with fail;go_quiet ((go_at_call 21;with_reducible exact Calls.quiet_of_same (CB.out _)));go_wp2_with fail;refine Qdg (v:=.bool s) ?_ rfl ⟨rfl,bdN BB.out _⟩;have es:s=false:=by have:=F.out.2.1;simpa[h1] using this
  rw[es];simp[results,results198,go_sem]
def Kp(X:Nat→Prop)(W W':World):Prop:=W.heap.size≤W'.heap.size∧(∀k,k<W.heap.size→¬X k→W'.heap[k]? =W.heap[k]?)∧W'.os=W.os∧W'.tape=W.tape∧W'.output=W.output
theorem Xt(X:Nat→Prop)(W:World)(o:Obj):Kp X W (W.alloc o):=⟨by simp,fun k hk _=>Below.heap_alloc W o k hk,rfl,rfl,rfl⟩
theorem QN(W:World)(b i:Nat)(v:Value):Kp (fun k=>k=b) W (W.setCell ⟨b,i,none⟩ v):=⟨by simp,fun k _ h=>Below.heap_setCell W ⟨b,i,none⟩ v k h,rfl,rfl,rfl⟩
theorem KL(W:World)(l:Nat)(o:Obj):Kp (fun k=>k=l) W (W.putObj l o):=⟨by simp,fun k _ h=>World.putObj_heap_other h,rfl,rfl,rfl⟩
theorem Yw{W W':World}{row:Option Nat}(h:W.grownBy W' row):Kp (fun k=>some k=row) W W':=⟨h.size,fun k hk hx=>h.block k hk hx,h.os,h.tape,h.output⟩
theorem QC{X:Nat→Prop}{W W':World}(h:Below W.heap.size W W'):Kp X W W':=⟨h.size,fun k hk _=>h.block k hk,h.os,h.tape,h.output⟩
theorem Kp.mono{X Y:Nat→Prop}{W W':World}(h:Kp X W W')(hx:∀k,X k→Y k):Kp Y W W':=⟨h.1,fun k hk hy=>h.2.1 k hk fun hx'=>hy (hx k hx'),h.2.2⟩
theorem Kp.trans{X:Nat→Prop}{A B C:World}(h:Kp X A B)(k:Kp X B C):Kp X A C:=⟨Qdx h.1 k.1,fun i hi hx=>(k.2.1 i (Qdr hi h.1) hx).trans (h.2.1 i hi hx),k.2.2.1.trans h.2.2.1,k.2.2.2.1.trans h.2.2.2.1,k.2.2.2.2.trans h.2.2.2.2⟩
theorem Kp.below{X:Nat→Prop}{B:Nat}{A W W':World}(k:Kp X W W')(h:Below B A W)(hB:B≤W.heap.size)(hx:∀k,k<B→¬X k):Below B A W':=
 ⟨k.2.2.1.trans h.os,k.2.2.2.1.trans h.tape,k.2.2.2.2.trans h.output,Qdx h.size k.1,fun i hi=>(k.2.1 i (Qdr hi hB) (hx i hi)).trans (h.block i hi)⟩
theorem Kp.obj{X:Nat→Prop}{W W':World}(h:Kp X W W'){k:Nat}{o:Obj}(ho:W.heap[k]? =some o)(hx:¬X k):W'.heap[k]? =some o:=
 (h.2.1 k (QdQ.1 ho).1 hx).trans ho
theorem Kp.blk{X:Nat→Prop}{W W':World}(h:Kp X W W'){g:Nat}{t:TypeId}{cs:Array Value}(hb:Blk W g t cs)(hx:¬X g):Blk W' g t cs:=h.obj hb hx
def RdO(O:Nat→Prop)(W:World)(a:Option Addr)(l:List UInt8):Prop:=l=[]∨∃g off,a=some ⟨g,off,none⟩∧O g∧g<W.heap.size∧Rd W g off l
theorem RdO.rds{O:Nat→Prop}{W:World}{a:Option Addr}{l:List UInt8}(h:RdO O W a l):RdS W a l:=by
 rcases h with h|⟨g,off,h1,_,h2,h3⟩
 ·exact .inl h
 ·exact .inr ⟨g,off,h1,h2,h3⟩
theorem RdO.keep{O X:Nat→Prop}{W W':World}{a:Option Addr}{l:List UInt8}(h:RdO O W a l)(k:Kp X W W')(hx:∀g,O g→¬X g):RdO O W' a l:=by
 rcases h with h|⟨g,off,h1,ho,h2,h3⟩
 ·exact .inl h
 ·exact .inr ⟨g,off,h1,ho,Qdr h2 k.1,fun i hi=>(Qf5 (a:=⟨g,off+i,none⟩) (k.2.1 g h2 (hx g ho))).trans (h3 i hi)⟩
theorem RdO.mono{O O':Nat→Prop}{W:World}{a:Option Addr}{l:List UInt8}(h:RdO O W a l)(ho:∀g,g<W.heap.size→O g→O' g):RdO O' W a l:=by
 rcases h with h|⟨g,off,h1,h4,h2,h3⟩
 ·exact .inl h
 ·exact .inr ⟨g,off,h1,ho g h2 h4,h2,h3⟩
theorem RdS.rdo{O:Nat→Prop}{W:World}{a:Option Addr}{l:List UInt8}(h:RdS W a l)(ho:∀g off,a=some ⟨g,off,none⟩→g<W.heap.size→O g):RdO O W a l:=by
 rcases h with h|⟨g,off,h1,h2,h3⟩
 ·exact .inl h
 ·exact .inr ⟨g,off,h1,ho g off h1 h2,h2,h3⟩
theorem RdO.from{O:Nat→Prop}{W:World}{a:Option Addr}{l:List UInt8}{n c k:Nat}(h:RdO O W a l)(hn:l.length=n)(hk:k≤n)(hc:n≤c):RdO O W (if c=k then a else Option.map (fun x=>x.add k) a) (l.drop k):=by
 by_cases e:k=n
 ·exact .inl (by rw[QfU];omega)
 ·rcases h with h|⟨g,off,rfl,ho,h2,h3⟩
  ·subst h;simp at hn;omega
  ·rw[Qdf (by omega)];exact .inr ⟨g,off+k,by simp[Addr.add_mid],ho,h2,h3.drop⟩
def SlO(O:Nat→Prop)(l:List UInt8)(v:Value)(W:World):Prop:=∃(a:Option Addr) (c:Nat),v= .slice a l.length c∧RdO O W a l∧l.length≤c∧c≤maxLen∧(a=none→l.length=0∧c=0)
theorem SlO.keep{O X:Nat→Prop}{W W':World}{v:Value}{l:List UInt8}(h:SlO O l v W)(k:Kp X W W')(hx:∀g,O g→¬X g):SlO O l v W':=by
 obtain⟨a,c,h1,h2,h3⟩:=h;exact⟨a,c,h1,h2.keep k hx,h3⟩
theorem SlO.mono{O O':Nat→Prop}{W:World}{v:Value}{l:List UInt8}(h:SlO O l v W)(ho:∀g,g<W.heap.size→O g→O' g):SlO O' l v W:=by
 obtain⟨a,c,h1,h2,h3⟩:=h;exact⟨a,c,h1,h2.mono ho,h3⟩
theorem CloV.slo{O:Nat→Prop}{l:List UInt8}{v:Value}{W:World}(h:CloV l v W)(ho:∀ad n c,v= .slice (some ad) n c→ad.block<W.heap.size→O ad.block):SlO O l v W:=by
 obtain⟨a,c,rfl,h2,h3⟩:=h;exact⟨a,c,rfl,h2.rdo (fun g off e hg=>ho _ _ _ (by rw[e]) hg),h3⟩
theorem SlO.clo{O:Nat→Prop}{l:List UInt8}{v:Value}{W:World}(h:SlO O l v W):CloV l v W:=by
 obtain⟨a,c,h1,h2,h3⟩:=h;exact⟨a,c,h1,h2.rds,h3⟩
def Tp(L:List ((List UInt8×List UInt8)×Value)):List Value:=L.flatMap fun x=>[.string (Xg x.1.1),x.2]
def MsgL(b0:Nat)(T:List (List UInt8×List UInt8))(v:Value)(W:World):Prop:=
 ∃L:List ((List UInt8×List UInt8)×Value),L.map (·.1)=T∧W.ownsRow b0 43 2 v T.length (Tp L)∧∀x∈L,SlO (fun k=>b0≤k∧some k≠v.ownBlock) x.1.2 x.2 W
theorem MsgL.nil(b0:Nat)(W:World):MsgL b0 [] (.slice none 0 0) W:=⟨[],rfl,QeJ _ _ _ _,fun x h=>by cases h⟩
theorem MsgL.keep{X:Nat→Prop}{b0:Nat}{T:List (List UInt8×List UInt8)}{v:Value}{W W':World}(h:MsgL b0 T v W)(k:Kp X W W')(hx:∀g,b0≤g→¬X g):MsgL b0 T v W':=by
 obtain⟨L,h1,h2,h3⟩:=h;refine⟨L,h1,⟨h2.1,?_⟩,fun x hm=>(h3 x hm).keep k fun g hg=>hx g hg.1⟩;rcases h2.2 with e|⟨g,cap,cur,hv,hb,hg,rest⟩
 ·exact .inl e
 ·exact .inr ⟨g,cap,cur,hv,hb,k.obj hg (hx g hb),rest⟩
theorem MsgL.push{b0:Nat}{T:List (List UInt8×List UInt8)}{v v':Value}{W W':World}{c p:List UInt8}{u:Value}{L:List ((List UInt8×List UInt8)×Value)}
  (h1:L.map (·.1)=T) (h3:∀x∈L,SlO (fun k=>b0≤k∧some k≠v.ownBlock) x.1.2 x.2 W) (hu:SlO (fun k=>b0≤k∧some k≠v.ownBlock) p u W)
  (hg:W.grownBy W' v.ownBlock) (ho:v'.ownBlock=v.ownBlock∨v'.ownBlock=some W.heap.size) (hr:W'.ownsRow b0 43 2 v' (T.length+1) (Tp L++[.string (Xg c),u])):MsgL b0 (T++[(c,p)]) v' W':=by
 have keep:∀l x,SlO (fun k=>b0≤k∧some k≠v.ownBlock) l x W→SlO (fun k=>b0≤k∧some k≠v'.ownBlock) l x W':=fun l x h=>by
  have h':SlO (fun k=>(b0≤k∧some k≠v.ownBlock)∧k<W.heap.size) l x W:=h.mono fun g hg ho=>⟨ho,hg⟩;refine (h'.keep (Yw hg) fun g hg=>hg.1.2).mono fun g _ hg=>⟨hg.1.1,?_⟩;rcases ho with e|e
  ·rw[e];exact hg.1.2
  ·rw[e];intro h;injection h with h;omega
 refine⟨L++[((c,p),u)],by rw[QdR,h1];rfl,?_,fun x hx=>?_⟩
 ·rw[Qdj];have e:Tp (L++[((c,p),u)])=Tp L++[.string (Xg c),u]:=by unfold Tp;rw[Qek];rfl
  rw[e];exact hr
 ·rcases Qfi.1 hx with hx|hx
  ·exact keep _ _ (h3 x hx)
  ·obtain rfl:=QeG.1 hx;exact keep _ _ hu
theorem Ku{w:World}{base:Nat}{e:TypeId}{v:Value}{n:Nat}{xs:List Value}(h:w.ownsRow base e 2 v n xs):∃a c,v= .slice a n c:=by
 obtain⟨_,⟨rfl,rfl⟩|⟨g,cap,_,rfl,_⟩⟩:=h
 ·exact⟨_,_,rfl⟩
 ·exact⟨_,_,rfl⟩
def SlB(O:Nat→Prop)(b:Nat)(r:List UInt8)(W:World):Prop:=∃(a:Option Addr) (c:Nat),Blk W b 31 #[.slice a r.length c]∧RdO O W a r∧r.length≤c∧c≤9223372036854775807∧(a=none→r.length=0∧c=0)
theorem SlB.keep{O X:Nat→Prop}{b:Nat}{r:List UInt8}{W W':World}(h:SlB O b r W)(k:Kp X W W')(hb:¬X b)(hx:∀g,O g→¬X g):SlB O b r W':=by
 obtain⟨a,c,h1,h2,h3⟩:=h;exact⟨a,c,k.blk h1 hb,h2.keep k hx,h3⟩
structure FdI (w:World) (s q S magic K:Nat) (r6 rb:List UInt8) (T:List (List UInt8×List UInt8)) (v vm:Value) (W:World):Prop where
 x6:SlB (fun g=>g<s∨q<g∧g<S) q r6 W
 xb:SlB (fun g=>g<s∨q<g∧g<S) (S+4) rb W
 out:Blk W S 117 #[.int .u32 magic,.int .i64 (K:Nat),.slice none 0 0,.int .i64 0]
 row:Blk W (S+1) 306 #[v]
 ms:MsgL (S+7) T vm W
 bm:Blk W (S+2) 22 #[.int .u32 magic]
 bc:Blk W (S+3) 3 #[.int .i64 (K:Nat)]
 z4:Blk W (s+1) 117 #[.int .u32 0,.int .i64 0,.slice none 0 0,.int .i64 0]
 bl:Below s w W
def PK(magic K N:Nat)(all rest:List UInt8)(T:List (List UInt8×List UInt8)):Prop:=T.length+rest.length≤N∧JL magic K all=(T++(JL magic K rest).1,(JL magic K rest).2)
section
variable {X:Nat→Prop} {w W W':World} {s q S magic K:Nat} {r6 rb:List UInt8} {T T':List (List UInt8×List UInt8)} {v vm vm':Value}
theorem FdI.grow(h:FdI w s q S magic K r6 rb T v vm W)(k:Kp X W W')(hs:s+1<q∧q<S)(hx:∀g,X g→S+5≤g)(ms:MsgL (S+7) T' vm' W'):FdI w s q S magic K r6 rb T' v vm' W':=by
 have hlt:=h.z4.lt;have ng:∀g,g<S+5→¬X g:=fun g hg hx'=>by have:=hx g hx';omega
 have no:∀g,(g<s∨q<g∧g<S)→¬X g:=fun g hg hx'=>by have:=hx g hx';omega
 exact⟨h.x6.keep k (ng _ (by omega)) no,h.xb.keep k (ng _ (by omega)) no,k.blk h.out (ng _ (by omega)),k.blk h.row (ng _ (by omega)),ms,k.blk h.bm (ng _ (by omega)),k.blk h.bc (ng _ (by omega)),
  k.blk h.z4 (ng _ (by omega)),k.below h.bl (by omega) (fun g hg=>ng g (by omega))⟩
theorem FdI.keep(h:FdI w s q S magic K r6 rb T v vm W)(k:Kp X W W')(hs:s+1<q∧q<S)(hx:∀g,X g→g=S+5∨g=S+6):FdI w s q S magic K r6 rb T v vm W':=
 h.grow k hs (fun g hg=>by have:=hx g hg;omega) (h.ms.keep k fun g hg hx'=>by have:=hx g hx';omega)
theorem FdI.setb(h:FdI w s q S magic K r6 rb T v vm W)(hs:s+1<q∧q<S){a:Option Addr}{n c:Nat}{r:List UInt8}(hn:n=r.length)(hr:RdO (fun g=>g<s∨q<g∧g<S) W a r)(h1:n≤c)(h2:c≤9223372036854775807)(h3:a=none→n=0∧c=0):
  FdI w s q S magic K r6 r T v vm (W.setCell ⟨S+4,0,none⟩ (.slice a n c)):=by
 subst hn;have k:=QN W (S+4) 0 (.slice a r.length c);have hlt:=h.z4.lt;have no:∀g,(g<s∨q<g∧g<S)→¬g=S+4:=fun g hg hx'=>by omega
 obtain⟨a0,c0,e1,_⟩:=h.xb;exact⟨h.x6.keep k (by omega) no,⟨a,c,(e1.set_ 0 _).to rfl,hr.keep k no,h1,h2,h3⟩,k.blk h.out (by omega),k.blk h.row (by omega),h.ms.keep k (fun g hg=>by omega),k.blk h.bm (by omega),k.blk h.bc (by omega),k.blk h.z4 (by omega),k.below h.bl (by omega) (fun g hg=>by omega)⟩
theorem FdI.set6(h:FdI w s q S magic K r6 rb T v vm W)(hs:s+1<q∧q<S){a:Option Addr}{n c:Nat}{r:List UInt8}(hn:n=r.length)(hr:RdO (fun g=>g<s∨q<g∧g<S) W a r)(h1:n≤c)(h2:c≤9223372036854775807)(h3:a=none→n=0∧c=0):
  FdI w s q S magic K r rb T v vm (W.setCell ⟨q,0,none⟩ (.slice a n c)):=by
 subst hn;have k:=QN W q 0 (.slice a r.length c);have hlt:=h.z4.lt;have no:∀g,(g<s∨q<g∧g<S)→¬g=q:=fun g hg hx'=>by omega
 obtain⟨a0,c0,e1,_⟩:=h.x6;exact⟨⟨a,c,(e1.set_ 0 _).to rfl,hr.keep k no,h1,h2,h3⟩,h.xb.keep k (by omega) no,k.blk h.out (by omega),k.blk h.row (by omega),h.ms.keep k (fun g hg=>by omega),k.blk h.bm (by omega),k.blk h.bc (by omega),k.blk h.z4 (by omega),k.below h.bl (by omega) (fun g hg=>by omega)⟩
theorem FdI.setr(h:FdI w s q S magic K r6 rb T v vm W)(hs:s+1<q∧q<S):FdI w s q S magic K r6 rb T vm vm (W.setCell ⟨S+1,0,none⟩ vm):=by
 have k:=QN W (S+1) 0 vm;have hlt:=h.z4.lt;have no:∀g,(g<s∨q<g∧g<S)→¬g=S+1:=fun g hg hx'=>by omega
 exact⟨h.x6.keep k (by omega) no,h.xb.keep k (by omega) no,k.blk h.out (by omega),(h.row.set_ 0 _).to rfl,h.ms.keep k (fun g hg=>by omega),k.blk h.bm (by omega),k.blk h.bc (by omega),k.blk h.z4 (by omega),k.below h.bl (by omega) (fun g hg=>by omega)⟩
end
structure SB where
 i:Nat
 g:Nat
 t:TypeId
 z:Array Value
 c:Array Value
section
variable {P:Program} {Q:Exit→Act→World→Prop} {o:Oper} {A:Act} {w:World} {u:Value}
theorem YU(t:TypeId)(x i:Operand)(ho:o.op= .indexAddr t x i){vx vi:Value}(hx:A.eval x=vx)(hi:A.eval i=vi)(hrun:(Instr.indexAt t vx vi).run P w= .ok u w):o.wp P A w (fun a' w''=>a'=A.put o.dst u∧Below w.heap.size w w'') Q:=by
 refine Xe ?_;unfold execOp;simp only[ho,hx,hi,Qdl,hrun];rfl
end
section
variable {P:Program} {Q:Exit→Act→World→Prop} {o:Oper} {A:Act} {w:World} {u:Value}
theorem Qcy(t r:TypeId)(x y:Operand)(k:IntKind)(m n s:Int)(ho:o.op= .binOp .mul t x y r)(hx:A.eval x= .int k m)(hy:A.eval y= .int k n)(hb:k.wrap (m*n)=s):o.wp P A w (fun a' w''=>a'=A.put o.dst (.int k s)∧Below w.heap.size w w'') Q:=by
 refine Xe ?_;generalize A.eval=ρ at *;unfold execOp;subst hb;simp[ho,hx,hy,eqGuard,binOp,Op.intArith,go_sem]
end
section
variable {P:Program} {Q:Exit→Act→World→Prop} {o:Oper} {A:Act} {w:World} {u:Value}
theorem Ll{P:Program}(w:World)(a:Addr)(ty:TypeId)(v:Value)(d:TypeDesc)(hc:w.cell? a=some v)(hu:P.underlying ty=some d)(hd:(match d with | .struct _ | .array _ _=>false|_=>true)=true):
  (loadVar ty a).run P w= .ok v w:=by
 have hagg:(isAgg ty).run P w= .ok false w:=by
  unfold isAgg;rw[Qdl,Qd6 hu w];cases d <;> simp_all
 simp[loadVar,Qdl,hagg,hc]
theorem Qq(ty:TypeId)(x:Operand)(ho:o.op= .load ty x)(b:Addr)(hx:A.eval x= .pointer (some b))(v:Value)(hc:w.cell? b=some v)(d:TypeDesc)(hu:P.underlying ty=some d)
  (hd:(match d with | .struct _ | .array _ _=>false|_=>true)=true):o.wp P A w (fun a' w''=>a'=A.put o.dst v∧Below w.heap.size w w'') Q:=by
 refine Xe ?_;unfold execOp;simp only[ho,hx,Instr.loadAt,Instr.sureAddr,Qdl,Qd1,Qdi,Ll w b ty v d hc hu hd]
theorem Qs(T:TypeId)(x:Operand)(k off:Nat)(ho:o.op= .fieldAddr T x k)(g:Nat)(hx:A.eval x= .pointer (some ⟨g,0,none⟩))(hf:∀(g:Nat) (w:World),(Instr.fieldAt T (.pointer (some ⟨g,0,none⟩)) k).run P w= .ok (.pointer (some ⟨g,off,none⟩)) w):
  o.wp P A w (fun a' w''=>a'=A.put o.dst (.pointer (some ⟨g,off,none⟩))∧Below w.heap.size w w'') Q:=by
 refine Xe ?_;unfold execOp;simp only[ho,hx,Qdl,hf];rfl
theorem Hl{x:Operand}{u:Value}(h1:A.eval x=u):#[x].map A.eval=#[u]:=by simp[h1]
theorem Jj{x y:Operand}{u v:Value}(h1:A.eval x=u)(h2:A.eval y=v):#[x,y].map A.eval=#[u,v]:=by simp[h1,h2]
end
section
variable {P:Program} {Q:Exit→Act→World→Prop} {o:Oper} {A:Act} {w:World} {u:Value}
theorem Zt(T:TypeId)(x:Operand)(k off:Nat)(ho:o.op= .fieldAddr T x k)(g f:Nat)(hx:A.eval x= .pointer (some ⟨g,f,none⟩))(hf:∀(g f:Nat) (w:World),(Instr.fieldAt T (.pointer (some ⟨g,f,none⟩)) k).run P w= .ok (.pointer (some ⟨g,f+off,none⟩)) w):
  o.wp P A w (fun a' w''=>a'=A.put o.dst (.pointer (some ⟨g,f+off,none⟩))∧Below w.heap.size w w'') Q:=by
 refine Xe ?_;unfold execOp;simp only[ho,hx,Qdl,hf];rfl
theorem Qcx(t r:TypeId)(x y:Operand)(m n:ByteArray)(b:Bool)(ho:o.op= .binOp .neq t x y r)(hx:A.eval x= .string m)(hy:A.eval y= .string n)(hb:(!(m.toList==n.toList))=b):o.wp P A w (fun a' w''=>a'=A.put o.dst (.bool b)∧Below w.heap.size w w'') Q:=by
 refine Xe ?_;generalize A.eval=ρ at *;unfold execOp;subst hb;simp[ho,hx,hy,eqGuard,binOp,Op.stringOp,go_sem]
end
end Go.Proofs.YthdaabapiicnhaaGreatDoor
namespace Go.Proofs.YthdaabapiicnhaaGreatDoor
open Go.ChangeShapes Go.WideShapes Go.ChangeAt Go.RowKit Go.Deep
theorem So{α:Type}(Q:Nat→α→Prop):∀n,(∀i,i<n→∃x,Q i x)→∃L:List α,L.length=n∧∀i x,L[i]? =some x→Q i x
 | 0,_=>⟨[],rfl,fun i x h=>by simp at h⟩
 | n+1,h=>by
  obtain⟨L,h1,h2⟩:=So Q n (fun i hi=>h i (by omega));obtain⟨y,hy⟩:=h n (by omega);refine⟨L++[y],by rw[Qdj,h1];rfl,fun i x hx=>?_⟩;by_cases hi:i<n
  ·rw[Qd3 (by omega)] at hx;exact h2 i x hx
  ·rw[QdB (by omega)] at hx;obtain rfl:i=n:=by
    have:=(Qdt.1 hx).1;simp at this;omega
   rw[h1,Qe9] at hx;injection hx with hx
   exact hx▸hy
end Go.Proofs.YthdaabapiicnhaaGreatDoor
namespace Go.Proofs.YthdaabapiicnhaaGreatDoor
open Go.RowKit
def DY(P:Program)(Q:Exit→Act→World→Prop)(w0:World)(dsts:List (Option Tmp))(F:Nat→Value→World→Prop)(a0:Act)(i:Nat)(o:Oper):Prop:=
 ∃b:Bool,GOk F dsts o b∧(b=false→∀w,F i undef w)∧(b=true→∀(A:Act) w' (γ:Nat→Value),Below w0.heap.size w0 w'→(∀j,(Qr o).contains j=true→F j (γ j) w')→YC dsts γ a0 o A→
  o.wp P A w' (fun a' w''=>∃u,a'=A.put o.dst u∧Below w'.heap.size w' w''∧F i u w'') Q)
theorem V5{P:Program}{Q:Exit→Act→World→Prop}{id:Nat}{l:List Oper}{a:Act}{w:World}(dsts:List (Option Tmp))(F:Nat→Value→World→Prop)
  (hF:∀j u w1 w2,F j u w1→Below w1.heap.size w1 w2→F j u w2)
  (hds:l.map (·.dst)=dsts) (hnd:Y9 dsts=true) (hord:ordGo 0 l=true) (hin:inD a.tmps.size dsts=true)
  (step:StepAll (DY P Q w dsts F a) 0 l)
  (fin:∀γ w',Below w.heap.size w w'→(∀j,j<l.length→F j (γ j) w')→Q .normal (Fr γ (fun _=>true) dsts 0 a) w'):(Code.region id l.toArray false).wp P Q a w:=by
 refine wp_region_lit ?_;have hlen:dsts.length=l.length:=by rw[←hds,QdA]
 have main:∀(n k:Nat),l.length-k=n→k≤l.length→∀γ w',Below w.heap.size w w'→(∀j,j<k→F j (γ j) w')→wpList P l.toArray Q (l.drop k) (Fr γ (fun j=>decide (j<k)) dsts 0 a) w':=by
  intro n;induction n with
  | zero=>
   intro k hk hkl γ w' hb hFs;obtain rfl:k=l.length:=by omega
   rw[QeN];have e:Fr γ (fun j=>decide (j<l.length)) dsts 0 a=Fr γ (fun _=>true) dsts 0 a:=
    Xo _ _ _ _ dsts 0 a fun j _ hj=>⟨decide_eq_true (by omega),fun _=>rfl⟩
   rw[e];exact wpList_nil (fin γ w' hb hFs)
  | succ n ih=>
   intro k hk hkl γ w' hb hFs;have hlt:k<l.length:=by omega
   have ho:l[k]? =some l[k]:=Qdk hlt;rw[Qew hlt];generalize l[k]=o at ho;have hdep:∀j,(Qr o).contains j=true→j<k:=fun j hj=>by
    have:=ordGo.at hord k o ho j (QdD.1 hj);omega
   have hSF:YC dsts γ a o (Fr γ (fun j=>decide (j<k)) dsts 0 a):=
    ⟨fun j hj t ht=>Z6 γ _ t j (decide_eq_true (hdep j hj)) dsts 0 a hnd (Qdw _) (by simpa using ht) (YA hin ht),fun t ht=>ZL γ _ t dsts 0 a ht⟩
   have hd:dsts[k]? =some o.dst:=by rw[←hds,QdI,ho];rfl
   have hon:(fun j=>decide (j<k+1))=onL (fun j=>decide (j<k)) k:=by
    funext j;unfold onL;by_cases e:j=k
    ·subst e;simp
    ·have:decide (j<k+1)=decide (j<k):=by simp;omega
     rw[this];simp[e]
   have key:∀u w'',Below w'.heap.size w' w''→F k u w''→wpList P l.toArray Q (l.drop (k+1)) ((Fr γ (fun j=>decide (j<k)) dsts 0 a).put o.dst u) w'':=by
    intro u w'' hb2 hFu;have e:(Fr γ (fun j=>decide (j<k)) dsts 0 a).put o.dst u=Fr (fun j=>if j=k then u else γ j) (fun j=>decide (j<k+1)) dsts 0 a:=by
     rw[hon,P2 _ _ k (by simp) dsts 0 a o.dst hnd (Qdw _) (by simpa using hd)];simp only[QdC];congr 1;refine Xo _ _ _ _ dsts 0 a fun j _ _=>⟨rfl,fun hj=>?_⟩;have:j<k:=Qer hj;rw[Qdf (by omega)]
    rw[e];refine ih (k+1) (by omega) (by omega) _ w'' (bt hb hb2) fun j hj=>?_;by_cases e2:j=k
    ·subst e2;simpa using hFu
    ·simp only[e2,QdV];exact hF j _ _ _ (hFs j (by omega)) hb2
   have st:=step.at k o ho;simp only[Qd5] at st;obtain⟨b,hg,h0,h1⟩:=st;have hwant:Region.wanted o (yielded l.toArray (Fr γ (fun j=>decide (j<k)) dsts 0 a).tmps)=b:=
    hg.wanted hds (fun j hj=>hFs j (hdep j hj)) (fun j hj t ht=>⟨by rw[Vt];exact YA hin ht,hSF.1 j hj t ht⟩)
   unfold wpList;rw[hwant];cases b
   ·rw[Qdf (by decide)];exact key undef w' (Below.refl _ _) (h0 rfl w')
   ·rw[Qdm rfl];left;refine Oper.wp_mono ?_ (h1 rfl _ w' γ hb (fun j hj=>hFs j (hdep j hj)) hSF);rintro a'' w'' ⟨u,rfl,hbel,hFu⟩;exact key u w'' hbel hFu
 have h:=main l.length 0 (by omega) (Qdw _) (fun _=>undef) w (Below.refl _ _) (fun j hj=>by omega);have e0:∀(r:List (Option Tmp)) (k:Nat),Fr (fun _=>undef) (fun j=>decide (j<0)) r k a=a:=by
  intro r;induction r with
  | nil=>intro k;rfl
  | cons d r ih=>
   intro k;unfold Fr;simp only[Nat.not_lt_zero,decide_false];exact ih (k+1)
 rw[e0] at h;exact h
section
variable {P:Program} {Q:Exit→Act→World→Prop} {o:Oper} {w0 w:World} {dsts:List (Option Tmp)} {F:Nat→Value→World→Prop} {a0:Act} {i:Nat}
theorem VE(h:Cc P Q w0 dsts F a0 i o):DY P Q w0 dsts F a0 i o:=by
 rcases h with ⟨h1,h2⟩|⟨h1,h2⟩
 ·exact⟨false,h1,fun _=>h2,fun h=>by cases h⟩
 ·exact⟨true,h1,fun h=>by (cases h),fun _=>h2⟩
theorem P4(j:Nat)(want c:Bool)(h:o.guard=some (j,want))(he:(Qr o).contains j=true)(t:Tmp)(ht:dsts[j]? =some (some t))(hc:∀u w,F j u w→u= .bool c)
  (h0:(c==want)=false→∀w,F i undef w) (h1:(c==want)=true→∀(A:Act) w' (γ:Nat→Value),Below w0.heap.size w0 w'→(∀j,(Qr o).contains j=true→F j (γ j) w')→YC dsts γ a0 o A→
   o.wp P A w' (fun a' w''=>∃u,a'=A.put o.dst u∧Below w'.heap.size w' w''∧F i u w'') Q):DY P Q w0 dsts F a0 i o:=
 ⟨c==want,.inr ⟨j,want,c,h,he,⟨t,ht⟩,hc,rfl⟩,h0,h1⟩
end
def IfV(c:Bool)(v:Value):VP:=fun u _=>c=true→u=v
section
variable {P:Program} {Q:Exit→Act→World→Prop} {o:Oper} {A:Act} {w:World}
theorem P8{c:Bool}{v:Value}(h:o.wp P A w (fun a' w''=>∃u,a'=A.put o.dst u∧Below w.heap.size w w''∧EqV v u w'') Q):o.wp P A w (fun a' w''=>∃u,a'=A.put o.dst u∧Below w.heap.size w w''∧IfV c v u w'') Q:=
 Oper.wp_mono (fun _ _ ⟨u,h1,h2,h3⟩=>⟨u,h1,h2,fun _=>h3⟩) h
theorem Xm(c x:Operand)(p q r:Bool)(ho:o.op= .pick c (.const (.bool true)) x)(hc:A.eval c= .bool p)(hx:(p==false)=true→A.eval x= .bool q)(hr:(p||q)=r):o.wp P A w (fun a' w''=>a'=A.put o.dst (.bool r)∧Below w.heap.size w w'') Q:=by
 refine Yr c _ x p ho hc ?_;subst hr;cases p
 ·exact hx rfl
 ·rfl
theorem Qy(c x:Operand)(p q r:Bool)(ho:o.op= .pick c x (.const (.bool false)))(hc:A.eval c= .bool p)(hx:(p==true)=true→A.eval x= .bool q)(hr:(p&&q)=r):o.wp P A w (fun a' w''=>a'=A.put o.dst (.bool r)∧Below w.heap.size w w'') Q:=by
 refine Yr c x _ p ho hc ?_;subst hr;cases p
 ·rfl
 ·exact hx rfl
end
theorem Yx(c:Bool)(v:Value):VW (IfV c v):=fun _ _ _ h _=>h
def QQ(l:List Oper)(k:Nat):List Nat:=match l[k]? with|some o=>Qr o|none=>[]
def YZ(l:List Oper):Nat→List Nat→List Nat
 | 0,s=>s
 | k+1,s=>YZ l k (if s.contains k then s++QQ l k else s)
theorem Ve(l:List Oper)(L:Nat→Bool)(hcl:∀i,L i=true→∀j∈QQ l i,L j=true):∀k s,(∀j∈s,L j=true)→∀j∈YZ l k s,L j=true
 | 0,s,hs=>hs
 | k+1,s,hs=>by
  unfold YZ;refine Ve l L hcl k _ fun j hj=>?_;split at hj
  ·rename_i hk;rcases Qfi.1 hj with h|h
   ·exact hs j h
   ·exact hcl k (hs k (QdD.1 hk)) j h
  ·exact hs j hj
theorem Kh{R:Nat→Oper→Prop}:∀(l:List Oper) (k:Nat),(∀i o,l[i]? =some o→R (k+i) o)→StepAll R k l
 | [],_,_=>trivial
 | o::r,k,h=>⟨h 0 o rfl,Kh r (k+1) fun i o' ho=>by rw[Nat.add_right_comm];exact h (i+1) o' ho⟩
def Qak(P:Program)(Q:Exit→Act→World→Prop)(w0:World)(dsts:List (Option Tmp))(vals:Nat→Value)(a0:Act)(n:Nat)(T:World→Prop)(i:Nat)(o:Oper):Prop:=
 (i=n∧∀(A:Act) w',Below w0.heap.size w0 w'→YC dsts vals a0 o A→o.wp P A w' (fun a' w''=>a'=A.put o.dst (vals i)∧T w'') Q)∨
 (Nat.beq i n=false∧∀(A:Act) w',Below w0.heap.size w0 w'→YC dsts vals a0 o A→o.wp P A w' (fun a' w''=>a'=A.put o.dst (vals i)∧Below w'.heap.size w' w'') Q)
theorem Xv{P:Program}{Q:Exit→Act→World→Prop}{id:Nat}{l:List Oper}{a:Act}{w:World}(dsts:List (Option Tmp))(vals:Nat→Value)(n:Nat)(T:World→Prop)
  (hm:P.follows .mixedOrders=true) (hds:l.map (·.dst)=dsts) (hnd:Y9 dsts=true) (hng:(l.all fun o=>o.guard.isNone)=true) (hord:ordGo 0 l=true) (hin:inD a.tmps.size dsts=true) (hn:l.length=n+1)
  (hreach:((List.range n).all fun j=>(YZ l n (QQ l n)).contains j)=true)
  (step:StepAll (Qak P Q w dsts vals a n T) 0 l) (fin:∀w',T w'→Q .normal (Fr vals (fun _=>true) dsts 0 a) w'):(Code.region id l.toArray true).wp P Q a w:=by
 refine Z7 (Γ:=Unit) dsts (fun _=>vals) (fun _ L w'=>(∀i,L i=true→∀j∈QQ l i,L j=true)∧((L n=false∧Below w.heap.size w w')∨(L n=true∧(∀j,j<n→L j=true)∧T w'))) hm hds hnd hng hord () ⟨(fun i h=>by cases h),.inl ⟨rfl,(Below.refl _ _).drew⟩⟩ ?_ ?_
 ·refine Kh l 0 fun k o ho=>?_;rw[Qd5];have hs:=step.at k o ho;rw[Qd5] at hs;intro γ L w' hI hL hdep;have hkl:k<l.length:=(Qdt.1 ho).1;have hkn:k≤n:=by omega
  have hon:∀j,L j=true→onL L k j=true:=fun j hj=>by
   by_cases e:j=k
   ·rw[e,ZD]
   ·rw[Yc e,hj]
  have hcl:∀i,onL L k i=true→∀j∈QQ l i,onL L k j=true:=fun i hi j hj=>by
   by_cases e:i=k
   ·subst e;unfold QQ at hj;rw[ho] at hj;exact hon j (hdep j hj)
   ·rw[Yc e] at hi;exact hon j (hI.1 i hi j hj)
  have hln:L n=false:=by
   cases e:L n with
   | false=>rfl
   | true=>
    rcases hI.2 with ⟨h,_⟩|⟨_,h,_⟩
    ·rw[e] at h;cases h
    ·by_cases hk2:k=n
     ·rw[hk2,e] at hL;cases hL
     ·rw[h k (by omega)] at hL;cases hL
  have hb:Below w.heap.size w w':=by
   rcases hI.2 with ⟨_,h⟩|⟨h,_⟩
   ·exact h
   ·rw[hln] at h;cases h
  have hSF:YC dsts vals a o (Fr vals L dsts 0 a):=
   ⟨fun j hj t ht=>Z6 vals L t j (hdep j (QdD.1 hj)) dsts 0 a hnd (Qdw _) (by simpa using ht) (YA hin ht),fun t ht=>ZL vals L t dsts 0 a ht⟩
  rcases hs with ⟨rfl,hq⟩|⟨hne,hq⟩
  ·refine Oper.wp_mono ?_ (hq _ w' hb hSF);rintro a' w'' ⟨rfl,hT⟩;refine⟨(),fun _ _=>rfl,rfl,hcl,.inr ⟨ZD,fun j hj=>?_,hT⟩⟩;have h1:=QdG.1 hreach j (QeA.2 hj);have h2:=Ve l (onL L k) hcl k (QQ l k) (fun j hj=>hcl k ZD j hj) j (QdD.1 h1);exact h2
  ·refine Oper.wp_mono ?_ (hq _ w' hb hSF);rintro a' w'' ⟨rfl,hbel⟩;refine⟨(),fun _ _=>rfl,rfl,hcl,.inl ⟨?_,bt hb hbel⟩⟩;have hne':n≠k:=fun e=>by subst e;simp at hne
   rw[Yc hne',hln]
 ·rintro γ L w' hL ⟨_,hI⟩;rcases hI with ⟨h,_⟩|⟨_,_,h⟩
  ·rw[hL n (by omega)] at h;cases h
  ·exact fin w' h
theorem TJ{P:Program}{Q:Exit→Act→World→Prop}{id:Nat}{l:List Oper}{a:Act}{w:World}(n:Nat)(dsts:List (Option Tmp))(F:Nat→Value→World→Prop)
  (hF:∀j u w1 w2,F j u w1→Below w1.heap.size w1 w2→F j u w2)
  (hm:P.follows .mixedOrders=true) (hds:l.map (·.dst)=dsts) (hnd:Y9 dsts=true) (hord:ordGo 0 l=true) (hin:inD a.tmps.size dsts=true)
  (hnl:Nat.ble n l.length=true) (htail:((List.range l.length).all fun i=>Nat.blt i n||(List.range i).all fun j=>(YZ l i (QQ l i)).contains j)=true)
  (step:StepAll (Cc P Q w dsts F a) 0 (l.take n))
  (fin:∀γ w',Below w.heap.size w w'→(∀j,j<n→F j (γ j) w')→wpList P l.toArray Q (l.drop n) (Fr γ (fun j=>Nat.blt j n) dsts 0 a) w'):(Code.region id l.toArray true).wp P Q a w:=by
 have hnl2:n≤l.length:=Qdn hnl;have hlen:dsts.length=l.length:=by rw[←hds,QdA]
 refine wp_region_any hm ?_;refine ZU (fun listed a' w'=>listed.size=l.length∧
  (
   ((∀j,n≤j→listed.getD j false=false)∧(∀i,listed.getD i false=true→∀j∈QQ l i,listed.getD j false=true)∧∃γ:Nat→Value,a'=Fr γ (fun j=>listed.getD j false) dsts 0 a∧Below w.heap.size w w'∧∀j,listed.getD j false=true→F j (γ j) w')∨
   ((∀i,listed.getD i false=true→∀j∈QQ l i,listed.getD j false=true)∧∃m,n≤m∧m≤l.length∧(∀j,j<l.length→listed.getD j false=Nat.blt j m)∧wpList P l.toArray Q (l.drop m) a' w'))) ?_ ?_ l.toArray.size _ _ _ ?_ ?_
 ·rintro listed a' w' i ⟨hsz,hI⟩ hr;obtain⟨h0,o,ho,hall⟩:=mem_ready.1 hr;have ho':l[i]? =some o:=by simpa using ho
  have hlt:i<l.length:=(Qdt.1 ho').1;have hLi:listed.getD i false=false:=by
   have:i<listed.size:=by omega
   simp[this] at h0 ⊢;exact h0
  have hdep:∀j,(Qr o).contains j=true→listed.getD j false=true:=fun j hj=>by
   obtain⟨e,he1,he2⟩:=QdZ.1 (QdD.1 hj);obtain⟨he3,he4⟩:=Qey.1 he1;rw[←he2];exact hall e (by simpa using he3) (by simpa using he4)
  have hset:∀j,(listed.setIfInBounds i true).getD j false=if j=i then true else listed.getD j false:=fun j=>by
   by_cases e:j=i
   ·subst e;have:j<listed.size:=by omega
    simp[this]
   ·rw[getD_set_ne false (Ne.symm e),Qdf e]
  have hei:QQ l i=Qr o:=by unfold QQ;rw[ho']
  have hclo:(∀i,listed.getD i false=true→∀j∈QQ l i,listed.getD j false=true)→∀k,(listed.setIfInBounds i true).getD k false=true→∀j∈QQ l k,(listed.setIfInBounds i true).getD j false=true:=fun hc k hk j hj=>by
   rw[hset] at hk ⊢;by_cases e:j=i
   ·rw[Qdm e]
   ·rw[Qdf e];by_cases e2:k=i
    ·subst e2;rw[hei] at hj;exact hdep j (QdD.2 hj)
    ·rw[Qdf e2] at hk;exact hc k hk j hj
  have hbefore:n≤i→(∀i,listed.getD i false=true→∀j∈QQ l i,listed.getD j false=true)→∀j,j<i→listed.getD j false=true:=fun hni hc j hj=>by
   have h1:=QdG.1 htail i (QeA.2 hlt);have h2:Nat.blt i n=false:=by
    cases e:Nat.blt i n with
    | false=>rfl
    | true=>have:=Qdn e;omega
   rw[h2,Bool.false_or] at h1;have h3:=QdG.1 h1 j (QeA.2 hj);exact Ve l (fun j=>listed.getD j false) hc i (QQ l i) (fun j hj=>by rw[hei] at hj;exact hdep j (QdD.2 hj)) j (QdD.1 h3)
  have hd:dsts[i]? =some o.dst:=by rw[←hds,QdI,ho'];rfl
  rcases hI with ⟨hnone,hc,γ,rfl,hb,hFs⟩|⟨hc,m,hnm,hml,hlist,hw⟩
  ·by_cases hin2:i<n
   ·have hSF:YC dsts γ a o (Fr γ (fun j=>listed.getD j false) dsts 0 a):=
     ⟨fun j hj t ht=>Z6 γ _ t j (hdep j hj) dsts 0 a hnd (Qdw _) (by simpa using ht) (YA hin ht),fun t ht=>ZL γ _ t dsts 0 a ht⟩
    have hwant:∀{b},GOk F dsts o b→Region.wanted o (yielded l.toArray (Fr γ (fun j=>listed.getD j false) dsts 0 a).tmps)=b:=fun h=>
     h.wanted hds (fun j hj=>hFs j (hdep j hj)) (fun j hj t ht=>⟨by rw[Vt];exact YA hin ht,hSF.1 j hj t ht⟩)
    have hon:(fun j=>(listed.setIfInBounds i true).getD j false)=onL (fun j=>listed.getD j false) i:=by
     funext j;rw[hset];unfold onL;by_cases e:j=i
     ·subst e;simp
     ·simp[e]
    have key:∀u w'',Below w'.heap.size w' w''→F i u w''→(listed.setIfInBounds i true).size=l.length∧(((∀j,n≤j→(listed.setIfInBounds i true).getD j false=false)∧(∀k,(listed.setIfInBounds i true).getD k false=true→∀j∈QQ l k,(listed.setIfInBounds i true).getD j false=true)∧∃γ':Nat→Value,(Fr γ (fun j=>listed.getD j false) dsts 0 a).put o.dst u=Fr γ' (fun j=>(listed.setIfInBounds i true).getD j false) dsts 0 a∧Below w.heap.size w w''∧∀j,(listed.setIfInBounds i true).getD j false=true→F j (γ' j) w'')∨
      ((∀k,(listed.setIfInBounds i true).getD k false=true→∀j∈QQ l k,(listed.setIfInBounds i true).getD j false=true)∧∃m,n≤m∧m≤l.length∧(∀j,j<l.length→(listed.setIfInBounds i true).getD j false=Nat.blt j m)∧wpList P l.toArray Q (l.drop m) ((Fr γ (fun j=>listed.getD j false) dsts 0 a).put o.dst u) w'')):=by
     intro u w'' hb2 hFu;refine⟨by simpa using hsz,.inl ⟨fun j hj=>?_,hclo hc,fun j=>if j=i then u else γ j,?_,bt hb hb2,fun j hj=>?_⟩⟩
     ·rw[hset,Qdf (by omega)];exact hnone j hj
     ·rw[hon,P2 _ _ i hLi dsts 0 a o.dst hnd (Qdw _) (by simpa using hd)];simp only[QdC];congr 1;refine Xo _ _ _ _ dsts 0 a fun j _ _=>⟨rfl,fun hj=>?_⟩;by_cases e:j=i
      ·subst e;rw[hLi] at hj;cases hj
      ·simp[e]
     ·rw[hset] at hj;by_cases e:j=i
      ·subst e;simpa using hFu
      ·rw[Qdf e] at hj;simp only[e,QdV];exact hF j _ _ _ (hFs j hj) hb2
    have st:=step.at i o (by rw[QeP,Qdm hin2];exact ho');simp only[Qd5] at st;unfold wpOp;rw[ho];rcases st with ⟨hg,hu⟩|⟨hg,hq⟩
    ·simp only[hwant hg,QdN,QdV];exact key undef w' (Below.refl _ _) (hu w')
    ·simp only[hwant hg,QdC];left;refine Oper.wp_mono ?_ (hq _ w' γ hb (fun j hj=>hFs j (hdep j hj)) hSF);rintro a'' w'' ⟨u,rfl,hbel,hFu⟩;exact key u w'' hbel hFu
   ·have hbef:=hbefore (by omega) hc;have hieq:i=n:=by
     rcases Qfy i n with h|h|h
     ·omega
     ·exact h
     ·have h1:=hbef n h;rw[hnone n (Qde _)] at h1;cases h1
    subst hieq;have e:Fr γ (fun j=>listed.getD j false) dsts 0 a=Fr γ (fun j=>Nat.blt j i) dsts 0 a:=by
     refine Xo _ _ _ _ dsts 0 a fun j _ hj=>⟨?_,fun _=>rfl⟩;by_cases h:j<i
     ·rw[hbef j h];exact (Qd4 h).symm
     ·rw[hnone j (by omega)];cases e:Nat.blt j i with
      | false=>rfl
      | true=>have:=Qdn e;omega
    have hw:=fin γ w' hb (fun j hj=>hFs j (hbef j hj));rw[←e,Qew hlt,show l[i]=o by rw[Qdk hlt] at ho';injection ho'] at hw;refine wpOp_mono ?_ (show wpOp P l.toArray Q i (wpList P l.toArray Q (l.drop (i+1))) _ w' from ?_)
    ·intro a'' w'' hh;refine⟨by simpa using hsz,.inr ⟨hclo hc,i+1,by omega,by omega,fun j hj=>?_,hh⟩⟩;rw[hset];by_cases e1:j=i
     ·subst e1;rw[Qdm rfl];exact (Qd4 (Qde _)).symm
     ·rw[Qdf e1];by_cases h:j<i
      ·rw[hbef j h];exact (Qd4 (show j+1≤i+1 by omega)).symm
      ·rw[hnone j (by omega)];cases e:Nat.blt j (i+1) with
       | false=>rfl
       | true=>have:=Qdn e;omega
    ·unfold wpOp;rw[ho];exact hw
  ·have him:i=m:=by
    rcases Qfy i m with h|h|h
    ·rw[hlist i hlt,show Nat.blt i m=true from Qd4 h] at hLi;cases hLi
    ·exact h
    ·have hbef:=hbefore (by omega) hc m h;rw[hlist m (by omega)] at hbef;have:=Qdn hbef;omega
   subst him;rw[Qew hlt,show l[i]=o by rw[Qdk hlt] at ho';injection ho'] at hw;refine wpOp_mono ?_ (show wpOp P l.toArray Q i (wpList P l.toArray Q (l.drop (i+1))) _ w' from ?_)
   ·intro a'' w'' hh;refine⟨by simpa using hsz,.inr ⟨hclo hc,i+1,by omega,by omega,fun j hj=>?_,hh⟩⟩;rw[hset];by_cases e1:j=i
    ·subst e1;rw[Qdm rfl];exact (Qd4 (Qde _)).symm
    ·rw[Qdf e1,hlist j hj];by_cases h:j<i
     ·rw[show Nat.blt j i=true from Qd4 h];exact (Qd4 (show j+1≤i+1 by omega)).symm
     ·have e3:Nat.blt j i=false:=by
       cases e:Nat.blt j i with
       | false=>rfl
       | true=>have:=Qdn e;omega
      rw[e3];cases e:Nat.blt j (i+1) with
      | false=>rfl
      | true=>have:=Qdn e;omega
   ·unfold wpOp;rw[ho];exact hw
 ·rintro listed a' w' ⟨hsz,hI⟩ hr;have hall:∀n i,i<n→i<l.length→listed.getD i false=true:=by
   intro n;induction n with
   | zero=>intro i hi;omega
   | succ n ih=>
    intro i hin' hi;cases hL:listed.getD i false with
    | true=>rfl
    | false=>
     exfalso;have hmem:i∈Region.ready .any l.toArray listed:=by
      refine mem_ready.2 ⟨?_,l[i],by simp[hi],fun e he hb=>?_⟩
      ·have:i<listed.size:=by omega
       simp[this] at hL ⊢;exact hL
      ·have hlt:=ordGo.at hord i l[i] (by simp[hi]) e.on (QdZ.2 ⟨e,Qey.2 ⟨by simpa using he,by simpa using hb⟩,rfl⟩);exact ih e.on (by omega) (by omega)
     rw[hr] at hmem;cases hmem
  rcases hI with ⟨hnone,hc,γ,rfl,hb,hFs⟩|⟨hc,m,hnm,hml,hlist,hw⟩
  ·have hln:l.length≤n:=by
    rcases Qee n l.length with h|h
    ·have h1:=hall (n+1) n (by omega) h;rw[hnone n (Qde _)] at h1;cases h1
    ·exact h
   have hsm:l.length=n:=by omega
   have e:Fr γ (fun j=>listed.getD j false) dsts 0 a=Fr γ (fun j=>Nat.blt j n) dsts 0 a:=
    Xo _ _ _ _ dsts 0 a fun j _ hj=>⟨by rw[hall (j+1) j (by omega) (by omega)];exact (Qd4 (show j+1≤n by omega)).symm,fun _=>rfl⟩
   have hw:=fin γ w' hb (fun j hj=>hFs j (hall (j+1) j (by omega) (by omega)));rw[←e,QdY hln] at hw;exact hw
  ·have hlm:l.length≤m:=by
    rcases Qee m l.length with h|h
    ·have h1:=hall (m+1) m (by omega) h;rw[hlist m h] at h1;have:=Qdn h1;omega
    ·exact h
   rw[QdY hlm] at hw;exact hw
 ·unfold unl;exact Qdx (QeS _ _) (by simp)
 ·have e:∀j,(Array.replicate l.toArray.size false).getD j false=false:=fun j=>by
   simp only[QdK,Qeg];split <;> rfl
  refine⟨by simp,.inl ⟨fun j _=>e j,fun i hi=>(by rw[e] at hi;cases hi),fun _=>undef,?_,(Below.refl _ _).drew,fun j hj=>(by rw[e] at hj;cases hj)⟩⟩;have:∀(r:List (Option Tmp)) (k:Nat),Fr (fun _=>undef) (fun j=>(Array.replicate l.toArray.size false).getD j false) r k a=a:=by
   intro r;induction r with
   | nil=>intro k;rfl
   | cons d r ih=>
    intro k;unfold Fr;rw[e k];exact ih (k+1)
  exact (this dsts 0).symm
theorem Fh(v:Nat→Value)(n:Nat):∀(r:List (Option Tmp)) (k:Nat) (a:Act),n≤k→Fr v (fun j=>Nat.blt j n) r k a=a
 | [],_,_,_=>rfl
 | d::r,k,a,h=>by
  unfold Fr;have e:Nat.blt k n=false:=by
   cases e:Nat.blt k n with
   | false=>rfl
   | true=>have:=Qdn e;omega
  rw[e,Qdf (by simp)];exact Fh v n r (k+1) a (by omega)
theorem Rl(v:Nat→Value)(n:Nat):∀(r:List (Option Tmp)) (m k:Nat) (a:Act),k+m=n→Fr v (fun j=>Nat.blt j n) r k a=Fr v (fun _=>true) (r.take m) k a
 | [],m,k,a,h=>by cases m <;> rfl
 | d::r,0,k,a,h=>Fh v n (d::r) k a (by omega)
 | d::r,m+1,k,a,h=>by
  rw[Qfa];unfold Fr;have e:Nat.blt k n=true:=Qd4 (show k+1≤n by omega);rw[e,Qdm rfl];exact Rl v n r m (k+1) _ (by omega)
theorem Zf{P:Program}{Q:Exit→Act→World→Prop}{id:Nat}{l:List Oper}{a:Act}{w:World}(n:Nat)(dsts:List (Option Tmp))(F:Nat→Value→World→Prop)
  (hF:∀j u w1 w2,F j u w1→Below w1.heap.size w1 w2→F j u w2)
  (hm:P.follows .mixedOrders=true) (hds:l.map (·.dst)=dsts) (hnd:Y9 dsts=true) (hord:ordGo 0 l=true) (hin:inD a.tmps.size dsts=true)
  (hnl:Nat.ble n l.length=true) (htail:((List.range l.length).all fun i=>Nat.blt i n||(List.range i).all fun j=>(YZ l i (QQ l i)).contains j)=true)
  (step:StepAll (Cc P Q w dsts F a) 0 (l.take n))
  (fin:∀γ w',Below w.heap.size w w'→(∀j,j<n→F j (γ j) w')→wpList P l.toArray Q (l.drop n) (Fr γ (fun _=>true) (dsts.take n) 0 a) w'):(Code.region id l.toArray true).wp P Q a w:=
 TJ n dsts F hF hm hds hnd hord hin hnl htail step fun γ w' hb hf=>by
  rw[Rl γ n dsts n 0 a (by omega)];exact fin γ w' hb hf
end Go.Proofs.YthdaabapiicnhaaGreatDoor
