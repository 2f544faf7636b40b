/- Steps of the proof. -/
import Derived.Test.YthdaabapiicnhaaGreatDoorTr04
set_option linter.all false
set_option maxRecDepth 100000
set_option maxHeartbeats 4000000
open Go.Proofs.Tryz
namespace Go.Proofs.YthdaabapiicnhaaGreatDoor
open Go.RowKit
theorem Lz(H:List Wd)(hH:H.length=8)(ad:Addr)(rest:List UInt8)(len c n:Nat)(hn:n<W64)(hlen:len=n%64)(hpos:0<len)(hrl:rest.length=len)(hlc:len≤c)(hcm:c≤maxLen)
  (a0:Option Addr) (t0:List UInt8) (m0 c0:Nat) (hm0:t0.length=m0) (hc0:m0≤c0) (hc02:m0≤140737488355328∧c0≤9223372036854775807) (hno0:a0=none→m0=0∧c0=0) (hfew:len+m0<64) (w:World) (hrr:RdS w (some ad) rest) (hr:RdS w a0 t0) (hL:Laid w):
  Calls prog 79 #[.agg (stC H (.slice (some ad) len c) n),.slice a0 m0 c0] w (Pe w H (rest++t0) ((n+m0)%W64)):=by
 have hlen64:len<64:=by rw[hlen];exact Qen _ (by omega)
 have iS:=Z4 (stC H (.slice (some ad) len c) n) (XT _ _ _ hH);have cS:=fun w=>G9 H hH (some ad) len c n hn (by omega) true (by simpa using hlen) w;obtain⟨S,hS⟩:=nE (stC H (.slice (some ad) len c) n);rw[←hS] at iS cS ⊢;obtain⟨x0,x1,x2,x3,x4,x5,x6,x7,h8⟩:=Gs H hH;obtain⟨N,hN⟩:=nE ((n+m0)%W64);have hNi:=ST n m0 hn;rw[←hN] at hNi;have CS:=Lib.hid cS;clear cS;have F:=H9 hS h8 hN hrr hr hL hH hrl hm0;clear hS h8 hN hrr hr hL hH hrl hm0 hn hlen;go_enter func79,ntmps79;go_wp2_with (with_reducible refine V7 ((Blk.newAt w _ S rfl).alloc _) _ _ rfl rfl rfl _ underlying205 iS ?_);refine (CS.out _).mono ?_;rintro e w1 ⟨rfl,hb1⟩;have A0:Blk w1 w.heap.size 205 S:=((Blk.newAt w _ S rfl).alloc _).calls hb1;have A1:Blk w1 (w.heap.size+1) 205 (XY 0):=by rw[ZA];exact (Blk.second w _ _ _).calls hb1
 have AB:Below w.heap.size w w1:=bt (ba (ba (Below.refl _ _) _) _) hb1;have z0:=A0.lt;have z1:=A1.lt;clear hb1 iS CS;have A0':=A0;rw[F.out.1,F.out.2.1,YS] at A0';have cc:=A0'.cell;clear A0';have hmk:∀w:World,(Instr.makeSlice 31 (.int .i64 0) (.int .i64 64)).run prog w= .ok (.slice (some ⟨w.heap.size,0,none⟩) 0 64) (w.alloc (.cells (Array.replicate 64 (.int .u8 0)) 5)):=fun w=>Ps 0 64 (by omega) (by omega) w;have own:((w1.alloc (.cells (stC H (.slice none 0 0) N) 205)).alloc (.cells (Array.replicate 64 (.int .u8 0)) 5)).ownsRow (w1.heap.size+1) 5 1 (.slice (some ⟨w1.heap.size+1,0,none⟩) 0 64) 0 (([]:List UInt8).map fun c=>Value.int .u8 (c.toNat:Int)):=by
  have h:=QeQ (w1.alloc (.cells (stC H (.slice none 0 0) N) 205)) (base:=w1.heap.size+1) (e:=5) (size:=1) (Array.replicate 64 (.int .u8 0)) 64 (by simp) (by unfold maxLen;omega) (by simp);simpa using h
 have hmi:(m0:Int)≤140737488355328:=by omega
 obtain⟨k,hk⟩:=nE (min (64-len) m0);have d1:(64:Int)-(len:Int)=((64-len:Nat):Int):=by omega
 have hmin:min ((64-len:Nat):Int) (m0:Int)=(k:Int):=by omega
 have lp:0<(len:Int):=by omega
 obtain⟨i0,hi,hz0,hz1,hz2⟩:=info_parts (show (prog.info? 5).map (fun i=>(i.zero,i.size,i.bytes))=some (some (.int .u8 0),1,1) by kernel_rfl);have A5:Blk _ w1.heap.size 205 (stC H (.slice none 0 0) N):=(Blk.new w1 205 (stC H (.slice none 0 0) N)).alloc (.cells (Array.replicate 64 (.int .u8 0)) 5);have A1':=(A1.alloc (.cells (stC H (.slice none 0 0) N) 205)).alloc (.cells (Array.replicate 64 (.int .u8 0)) 5);have A0'':=(A0.alloc (.cells (stC H (.slice none 0 0) N) 205)).alloc (.cells (Array.replicate 64 (.int .u8 0)) 5);have AB':=ba (ba AB (.cells (stC H (.slice none 0 0) N) 205)) (.cells (Array.replicate 64 (.int .u8 0)) 5);have I:=H10 hi hz0 hz1 hz2 own A5 A1' AB' hk A0'';clear hi hz0 hz1 hz2 own A0 A1 AB A5 A1' A0'' AB' hk;rw[F.out.2.1,YS] at I;go_wp2_with (at_builtin;refine XW I.out.2.2.2.2.1 rfl _ _ 31 rfl underlying31 i0 I.out.1 I.out.2.1 I.out.2.2.1 I.out.2.2.2.1 rfl (some ad) len c rest rfl ((F.out.2.2.2.1.below I.out.2.2.2.2.2.2.2.1 (Qde _))) F.out.2.2.2.2.2.2.2.1 (by simp) (by omega) (by simp) ?_);intro v' w2 ho hg hnil;obtain⟨a2,hs2,hr2,hno2,_⟩:=Jb a0 t0 m0 c0 k F.out.2.2.2.2.2.2.2.2 (by have:=I.out.2.2.2.2.2.2.2.2.1;omega) hc0;obtain⟨g1,cap1,cur1,rfl,hgb,hbg,hpc1,hcm1,_,_⟩:=ZR ho hnil;have B5:=I.out.2.2.2.2.2.1.grown hg (by simp[Value.ownBlock]);have B0:=I.out.2.2.2.2.2.2.2.2.2.grown hg (by simp[Value.ownBlock];omega);have B1:=I.out.2.2.2.2.2.2.1.grown hg (by simp[Value.ownBlock];omega);have BB:=Qn I.out.2.2.2.2.2.2.2.1 hg (by simp;omega) (by intro k hk;simp[Value.ownBlock] at hk;omega);have zz:w1.heap.size+1<w2.heap.size:=Qfh hgb hbg.lt;have hkb:len+k≤64:=by have:=I.out.2.2.2.2.2.2.2.2.1;omega
 have hk2:k≤m0:=by have:=I.out.2.2.2.2.2.2.2.2.1;omega
 have hno3:a2=none→k=0∧c0=0:=fun h=>by
  have:=hno0 (hno2.2 h);exact⟨by omega,this.2⟩
 have L2:=H6 ho B5 B0 B1 BB hr2;clear ho B5 B0 B1 BB hr2 hbg hg hnil hmk cc;go_wp2_with (at_builtin;refine XW L2.out.1 rfl _ _ 31 rfl underlying31 i0 I.out.1 I.out.2.1 I.out.2.2.1 I.out.2.2.2.1 rfl a2 k c0 (t0.take k) rfl (L2.out.2.2.2.2.2 _ (F.out.2.2.2.2.1.below L2.out.2.2.2.2.1 (Qde _))) (by rw[Qds,F.out.2.2.2.2.2.2.2.2];omega) hno3 (by omega) (by omega) ?_);intro v3 w3 ho' hg hnil;have ho:w3.ownsRow (w1.heap.size+1) 5 1 v3 (len+k) ((rest++t0.take k).map fun c=>Value.int .u8 (c.toNat:Int)):=by rw[QdR,List.map_take];exact ho'
 clear ho';obtain⟨L,hL⟩:=nE (len+k);rw[←hL] at ho;have HL:=Lib.hid hL;clear hL;obtain⟨g,cap,cur,rfl,hgb,hbg,hpc2,hcm2,hRp,hrd⟩:=ZR ho hnil;clear ho hnil;have B5:=L2.out.2.1.grown hg (by simp[Value.ownBlock];omega);have B1:=L2.out.2.2.2.1.grown hg (by simp[Value.ownBlock];omega);have BB:=Qn L2.out.2.2.2.2.1 hg (by omega) (by intro k hk;simp[Value.ownBlock] at hk;omega);clear hg;have hLl:L<64:=by have:=HL.out;omega
 have hLi:(L:Int)<64:=by omega
 have hkm:t0.take k=t0:=Qd8 (by have:=I.out.2.2.2.2.2.2.2.2.1;have:=F.out.2.2.2.2.2.2.2.2;omega);rw[hkm] at hrd hRp;obtain⟨C,hC⟩:=nE (stC H (.slice (some ⟨g,0,none⟩) L cap) N);have sC:C.size=10:=by rw[hC];exact XT _ _ _ F.out.2.2.2.2.2.2.1
 have iC:=Z4 C sC;have s1:(XY 0).size=C.size:=by rw[sC];rfl
 have aC:C.all (·.oneCell')=true:=by rw[hC];exact ZQ _ _ _ _ _
 rw[←YS,←F.out.2.1] at B5;have c8:=Qz B5 8 _ (V8 _ _ _ F.out.2.2.2.2.2.2.1);have f8:=B5.frozen 8;have M5:Blk _ w1.heap.size 205 C:=(B5.set_ 8 (.slice (some ⟨g,0,none⟩) L cap)).to (show _=C by rw[hC];exact ZB _ _ _ _ F.out.2.2.2.2.2.2.1);have M1:=B1.far (show w.heap.size+1≠w1.heap.size by omega) (i:=8) (.slice (some ⟨g,0,none⟩) L cap);have MG:=hbg.far (show g≠w1.heap.size by omega) (i:=8) (.slice (some ⟨g,0,none⟩) L cap);have MB:=BB.setCell (show w.heap.size≤(⟨w1.heap.size,8,none⟩:Addr).block by show w.heap.size≤w1.heap.size;omega) (.slice (some ⟨g,0,none⟩) L cap);have M:=H7 M5 M1 MB hC MG hrd hRp;clear M5 M1 MB B5 B1 BB hbg hC sC MG hrd hRp;go_wp2_with (first|with_reducible refine V7 M.out.1 _ _ rfl rfl rfl _ underlying205 iC ?_|with_reducible refine Ql M.out.2.1 _ _ _ _ rfl rfl rfl rfl iC s1 aC ?_);obtain⟨M5,M1,MB,hC,MG,hrd,hRp⟩:=M.out;have hq:(rest++t0).length<64:=by omega
 refine Qdg (v:=.agg C) ?_ rfl ⟨some ⟨g,0,none⟩,cap,by rw[hC,BI _ _ hq,G8 _ hq,hRp,←F.out.2.2.1],?_,by rw[G8 _ hq,hRp];exact hpc2,hcm2,Qb MB (by omega) _⟩
 ·exact results_cell_row rfl _ _ _ _ _ (0,0) _ rfl (M1.row _) underlying205 rfl iC
 ·rw[G8 _ hq];refine .inr ⟨g,0,rfl,(MG.rowFar (show g≠w.heap.size+1 by omega) _).lt,?_⟩;intro i hi;exact ((MG.rowFar (show g≠w.heap.size+1 by omega) _).cell (0+i)).trans (by rw[Qd5];exact hrd i hi)
theorem DE(H:List Wd)(hH:H.length=8)(ad:Addr)(rest:List UInt8)(len c n:Nat)(hn:n<W64)(hlen:len=n%64)(hpos:0<len)(hrl:rest.length=len)(hlc:len≤c)(hcm:c≤maxLen)
  (a0:Option Addr) (t0:List UInt8) (m0 c0:Nat) (hm0:t0.length=m0) (hc0:m0≤c0) (hc02:m0≤140737488355328∧c0≤9223372036854775807) (hno0:a0=none→m0=0∧c0=0) (hmany:64≤len+m0) (w:World) (hrr:RdS w (some ad) rest) (hr:RdS w a0 t0) (hL:Laid w):
  Calls prog 79 #[.agg (stC H (.slice (some ad) len c) n),.slice a0 m0 c0] w (Pe w H (rest++t0) ((n+m0)%W64)):=by
 have hlen64:len<64:=by rw[hlen];exact Qen _ (by omega)
 have iS:=Z4 (stC H (.slice (some ad) len c) n) (XT _ _ _ hH);have cS:=fun w=>G9 H hH (some ad) len c n hn (by omega) true (by simpa using hlen) w;obtain⟨S,hS⟩:=nE (stC H (.slice (some ad) len c) n);rw[←hS] at iS cS ⊢;obtain⟨x0,x1,x2,x3,x4,x5,x6,x7,h8⟩:=Gs H hH;obtain⟨N,hN⟩:=nE ((n+m0)%W64);have hNi:=ST n m0 hn;rw[←hN] at hNi;have CS:=Lib.hid cS;clear cS;have F:=H9 hS h8 hN hrr hr hL hH hrl hm0;clear hS h8 hN hrr hr hL hH hrl hm0 hn hlen;go_enter func79,ntmps79;go_wp2_with (with_reducible refine V7 ((Blk.newAt w _ S rfl).alloc _) _ _ rfl rfl rfl _ underlying205 iS ?_);refine (CS.out _).mono ?_;rintro e w1 ⟨rfl,hb1⟩;have A0:Blk w1 w.heap.size 205 S:=((Blk.newAt w _ S rfl).alloc _).calls hb1;have A1:Blk w1 (w.heap.size+1) 205 (XY 0):=by rw[ZA];exact (Blk.second w _ _ _).calls hb1
 have AB:Below w.heap.size w w1:=bt (ba (ba (Below.refl _ _) _) _) hb1;have z0:=A0.lt;have z1:=A1.lt;clear hb1 iS CS;have A0':=A0;rw[F.out.1,F.out.2.1,YS] at A0';have cc:=A0'.cell;clear A0';have hmk:∀w:World,(Instr.makeSlice 31 (.int .i64 0) (.int .i64 64)).run prog w= .ok (.slice (some ⟨w.heap.size,0,none⟩) 0 64) (w.alloc (.cells (Array.replicate 64 (.int .u8 0)) 5)):=fun w=>Ps 0 64 (by omega) (by omega) w;have own:((w1.alloc (.cells (stC H (.slice none 0 0) N) 205)).alloc (.cells (Array.replicate 64 (.int .u8 0)) 5)).ownsRow (w1.heap.size+1) 5 1 (.slice (some ⟨w1.heap.size+1,0,none⟩) 0 64) 0 (([]:List UInt8).map fun c=>Value.int .u8 (c.toNat:Int)):=by
  have h:=QeQ (w1.alloc (.cells (stC H (.slice none 0 0) N) 205)) (base:=w1.heap.size+1) (e:=5) (size:=1) (Array.replicate 64 (.int .u8 0)) 64 (by simp) (by unfold maxLen;omega) (by simp);simpa using h
 have hmi:(m0:Int)≤140737488355328:=by omega
 obtain⟨k,hk⟩:=nE (min (64-len) m0);have d1:(64:Int)-(len:Int)=((64-len:Nat):Int):=by omega
 have hmin:min ((64-len:Nat):Int) (m0:Int)=(k:Int):=by omega
 have lp:0<(len:Int):=by omega
 obtain⟨i0,hi,hz0,hz1,hz2⟩:=info_parts (show (prog.info? 5).map (fun i=>(i.zero,i.size,i.bytes))=some (some (.int .u8 0),1,1) by kernel_rfl);have A5:Blk _ w1.heap.size 205 (stC H (.slice none 0 0) N):=(Blk.new w1 205 (stC H (.slice none 0 0) N)).alloc (.cells (Array.replicate 64 (.int .u8 0)) 5);have A1':=(A1.alloc (.cells (stC H (.slice none 0 0) N) 205)).alloc (.cells (Array.replicate 64 (.int .u8 0)) 5);have A0'':=(A0.alloc (.cells (stC H (.slice none 0 0) N) 205)).alloc (.cells (Array.replicate 64 (.int .u8 0)) 5);have AB':=ba (ba AB (.cells (stC H (.slice none 0 0) N) 205)) (.cells (Array.replicate 64 (.int .u8 0)) 5);have I:=H10 hi hz0 hz1 hz2 own A5 A1' AB' hk A0'';clear hi hz0 hz1 hz2 own A0 A1 AB A5 A1' A0'' AB' hk;rw[F.out.2.1,YS] at I;go_wp2_with (at_builtin;refine XW I.out.2.2.2.2.1 rfl _ _ 31 rfl underlying31 i0 I.out.1 I.out.2.1 I.out.2.2.1 I.out.2.2.2.1 rfl (some ad) len c rest rfl ((F.out.2.2.2.1.below I.out.2.2.2.2.2.2.2.1 (Qde _))) F.out.2.2.2.2.2.2.2.1 (by simp) (by omega) (by simp) ?_);intro v' w2 ho hg hnil;obtain⟨a2,hs2,hr2,hno2,_⟩:=Jb a0 t0 m0 c0 k F.out.2.2.2.2.2.2.2.2 (by have:=I.out.2.2.2.2.2.2.2.2.1;omega) hc0;obtain⟨g1,cap1,cur1,rfl,hgb,hbg,hpc1,hcm1,_,_⟩:=ZR ho hnil;have B5:=I.out.2.2.2.2.2.1.grown hg (by simp[Value.ownBlock]);have B0:=I.out.2.2.2.2.2.2.2.2.2.grown hg (by simp[Value.ownBlock];omega);have B1:=I.out.2.2.2.2.2.2.1.grown hg (by simp[Value.ownBlock];omega);have BB:=Qn I.out.2.2.2.2.2.2.2.1 hg (by simp;omega) (by intro k hk;simp[Value.ownBlock] at hk;omega);have zz:w1.heap.size+1<w2.heap.size:=Qfh hgb hbg.lt;have hkb:len+k≤64:=by have:=I.out.2.2.2.2.2.2.2.2.1;omega
 have hk2:k≤m0:=by have:=I.out.2.2.2.2.2.2.2.2.1;omega
 have hno3:a2=none→k=0∧c0=0:=fun h=>by
  have:=hno0 (hno2.2 h);exact⟨by omega,this.2⟩
 have L2:=H6 ho B5 B0 B1 BB hr2;clear ho B5 B0 B1 BB hr2 hbg hg hnil hmk cc;go_wp2_with (at_builtin;refine XW L2.out.1 rfl _ _ 31 rfl underlying31 i0 I.out.1 I.out.2.1 I.out.2.2.1 I.out.2.2.2.1 rfl a2 k c0 (t0.take k) rfl (L2.out.2.2.2.2.2 _ (F.out.2.2.2.2.1.below L2.out.2.2.2.2.1 (Qde _))) (by rw[Qds,F.out.2.2.2.2.2.2.2.2];omega) hno3 (by omega) (by omega) ?_);intro v3 w3 ho' hg hnil;have ho:w3.ownsRow (w1.heap.size+1) 5 1 v3 (len+k) ((rest++t0.take k).map fun c=>Value.int .u8 (c.toNat:Int)):=by rw[QdR,List.map_take];exact ho'
 clear ho';obtain⟨L,hL⟩:=nE (len+k);rw[←hL] at ho;have HL:=Lib.hid hL;clear hL;obtain⟨g,cap,cur,rfl,hgb,hbg,hpc2,hcm2,hRp,hrd⟩:=ZR ho hnil;clear ho hnil;have B5:=L2.out.2.1.grown hg (by simp[Value.ownBlock];omega);have B1:=L2.out.2.2.2.1.grown hg (by simp[Value.ownBlock];omega);have BB:=Qn L2.out.2.2.2.2.1 hg (by omega) (by intro k hk;simp[Value.ownBlock] at hk;omega);clear hg;obtain rfl:L=64:=by have:=HL.out;have:=I.out.2.2.2.2.2.2.2.2.1;omega
 have hkl:len+k=64:=HL.out.symm;have hk3:k=64-len:=by omega
 obtain⟨He,hHe⟩:=nE (blk H (rest++t0.take k));obtain⟨t,ht⟩:=nE (t0.drop k);obtain⟨m,hm⟩:=nE (m0-k);obtain⟨c',hc'⟩:∃c',c'=c0-k:=⟨_,rfl⟩;have hHel:He.length=8:=by rw[hHe];exact Vl _ _ F.out.2.2.2.2.2.2.1
 have htm:t.length=m:=by rw[ht,hm,Qdq,F.out.2.2.2.2.2.2.2.2]
 have hc:m≤c':=by omega
 have hc2:m≤140737488355328∧c'≤9223372036854775807:=by omega
 obtain⟨a',hs3,hr3,hno4⟩:=Cr a0 t0 m0 c0 k F.out.2.2.2.2.2.2.2.2 hk2 hc0;rw[←hm,←hc'] at hs3;have hno:a'=none→m=0∧c'=0:=fun h=>by
  have:=hno0 (hno4 h);exact⟨by omega,by omega⟩
 have e1:(rest++t0).take 64=rest++t0.take k:=by rw[List.take_append,Qd8 (by have:=F.out.2.2.2.2.2.2.2.1;omega),F.out.2.2.2.2.2.2.2.1,←hk3]
 have e2:(rest++t0).drop 64=t:=by rw[QfM,QdY (by have:=F.out.2.2.2.2.2.2.2.1;omega),F.out.2.2.2.2.2.2.2.1,←hk3,ht];rfl
 have e3:64≤(rest++t0).length:=by rw[Qdj,F.out.2.2.2.2.2.2.2.1,F.out.2.2.2.2.2.2.2.2];omega
 have FIN:=Lib.hid (fun (a:Option Addr) (c:Nat) (w2:World) (h1:RdS w2 a (XJ t)) (h2:(XJ t).length≤c) (h3:c≤maxLen) (h4:Below w.heap.size w w2)=>show Pe w H (rest++t0) ((n+m0)%W64) (.returned (.agg (stC (YO He t) (.slice a (XJ t).length c) N))) w2 from ⟨a,c,by rw[Pd _ _ e3,JT _ e3,e1,e2,←hHe,F.out.2.2.1],by rw[JT _ e3,e2];exact h1,by rw[JT _ e3,e2];exact h2,h3,h4⟩);clear e1 e2 e3;have hrd2:Rd w3 g 0 (rest++t0.take k):=fun i hi=>(hbg.cell (0+i)).trans (by rw[Qd5];exact hrd i hi);have hLw:=F.out.2.2.2.2.2.1.below BB (Qde _);have cB:=Lib.hid (fun (_:Unit)=>Pj H F.out.2.2.2.2.2.2.1 g 0 cap _ w3 hrd2 hbg.lt hRp hLw);rw[←hHe] at cB;have hr4:=hr3 w F.out.2.2.2.2.1;rw[←ht] at hr4;have F5:=H8 trivial trivial trivial hr4 F.out.2.2.2.2.2.1 hHel htm trivial;rw[←YS,←F.out.2.1] at B5;have l5:=B5.lt;have l1:=B1.lt;have i8H:=is8 (Q4 H) (by rw[XI,F.out.2.2.2.2.2.2.1]);have s8r:(Q4 He).size=8:=by rw[XI,hHel]
 have i8r:=is8 (Q4 He) s8r;have a8r:=ZZ He;have W:=H6 B5 B1 BB F.out.2.2.2.2.2.2.1 s8r hHel;clear B5 B1 BB hbg hrd hRp hLw hrd2 hr3 hr4 hno4 ht hHe hHel htm s8r hno0 HL;clear F L2 I;have F:=F5;clear F5;have hcN:(64:Int)<64↔False:=by decide
 have hmI:m=m0-k:=hm;have KM:=H4 hm hc' hkl hk3;clear hm hc' hkl hk3 hmI d1 hmin hcN;go_wp2_with (refine wpList_load_mid rfl _ _ rfl w1.heap.size 0 rfl (Q4 H).toList _ (Jw W.out.1 W.out.2.2.2.1) underlying203 rfl (by simpa using i8H) ?_);refine (cB.out ()).mono ?_;rintro e w4 ⟨rfl,hb4⟩;have D1:=(W.out.2.1.calls hb4).setsFar (b:=w1.heap.size) (by omega) (Q4 He).toList 0;have D5:=(W.out.1.calls hb4).setWords W.out.2.2.2.1 W.out.2.2.2.2.2;have DB:=Vn (b:=w1.heap.size) (show w.heap.size≤w1.heap.size by omega) (Q4 He).toList 0 (bt W.out.2.2.1 hb4);have D:=H5 D1 D5 DB (W.out.1.calls hb4) trivial;clear D1 D5 DB hb4;go_wp2_with (refine wpList_store_mid rfl _ _ _ rfl w1.heap.size 0 (Q4 He) rfl rfl (by rw[W.out.2.2.2.2.1];exact V6 D.out.2.2.2.1 W.out.2.2.2.1) i8r a8r ?_);have HA:=H3 D.out.2.1 D.out.1 D.out.2.2.1;clear D W cB;generalize w4.setCells _ _ _=w5 at *;have hm0:0≤(m:Int):=by omega
 have hmb:m≤140737488355328:=by omega
 go_loopw [1] (fun s wr=>∃(j:Nat) (a1:Option Addr) (c1 p:Nat),p=m-64*j∧64*j≤m∧s= .slice a1 p c1∧p≤c1∧(p≤140737488355328∧c1≤9223372036854775807)∧RdS w a1 (t.drop (64*j))∧(a1=none→p=0∧c1=0)∧Blk wr (w.heap.size+1) 205 (XY 0)∧Blk wr w1.heap.size 205 (stC (Vk t j He) (.slice none 0 0) N)∧Below w.heap.size w wr) (fun s _=>Sq s)
 case atStart=>
  obtain⟨A5,A1,AB⟩:=HA.out;refine⟨0,a',c',m,by omega,by omega,rfl,hc,hc2,F.out.2.2.2.1,hno,A1,?_,AB⟩;rw[Vk];exact A5
 case round=>
  clear HA;obtain⟨j,a1,c1,p,hp,hj,rfl,hpc,hc1,hr1,hno1,h1,h5,hb⟩:=hrel;have hpi:(p:Int)≤140737488355328:=by omega
  by_cases h64:64≤p
  ·obtain⟨a2,hs2,hr2,_,_⟩:=Jb a1 (t.drop (64*j)) p c1 64 (by rw[Yj,F.out.2.2.2.2.2.2.1,hp]) h64 hpc;obtain⟨Hj,hHj⟩:=nE (Vk t j He);have hHl:Hj.length=8:=by rw[hHj];exact ZF t j He F.out.2.2.2.2.2.1
   obtain⟨r,hrr⟩:=nE (blk Hj ((t.drop (64*j)).take 64));have hnext:Vk t (j+1) He=r:=by rw[Vk,←hHj,hrr]
   have hrl:r.length=8:=by rw[hrr];exact Vl _ _ hHl
   have htl:((t.drop (64*j)).take 64).length=64:=by rw[Qds,Yj,F.out.2.2.2.2.2.2.1,←hp];omega
   obtain⟨g2,o2,ha2,hg2,hrd2⟩:∃g off,a2=some ⟨g,off,none⟩∧g<w.heap.size∧Rd w g off ((t.drop (64*j)).take 64):=by
    rcases hr2 w hr1 with hh|hh
    ·rw[hh] at htl;cases htl
    ·exact hh
   subst ha2;have hcall:∀w',Below w.heap.size w w'→Calls prog 122 #[.agg (Q4 Hj),.slice (some ⟨g2,o2,none⟩) 64 c1] w' fun e w''=>e= .returned (.agg (Q4 r))∧Below w'.heap.size w' w'':=fun w' hw'=>by
    rw[hrr];exact Pj Hj hHl g2 o2 c1 _ w' (fun i hi=>hrd2.at hw' hg2 i hi) (Qdr hg2 hw'.size) htl (F.out.2.2.2.2.1.below hw' (Qde _))
   rw[←hHj] at h5;have l5:=h5.lt;have l1:=h1.lt;have i8H:=is8 (Q4 Hj) (by rw[XI,hHl]);have s8r:(Q4 r).size=8:=by rw[XI,hrl]
   have i8r:=is8 (Q4 r) s8r;have a8r:=ZZ r;have hpm:(p:Int)-64=((p-64:Nat):Int):=by omega
   have K:=H13 h1 h5 hb hp hHj hHl hrr hnext hrl htl hr1 hr1 s8r;clear h1 h5 hb hp hHj hHl hrr hnext hrl htl hr1 hr2 s8r;have KC:=Lib.hid hcall;clear hcall;have KS:=Lib.hid hs2;clear hs2;go_wp2_with fail;refine V4 [some 61,some 62,some 63,some 64,some 65,some 66,none] (fun i=>([.pointer (some ⟨w1.heap.size,0,none⟩),.agg (Q4 Hj),.slice a1 p c1,.slice (some ⟨g2,o2,none⟩) 64 c1,.agg (Q4 r),.pointer (some ⟨w1.heap.size,0,none⟩),undef]:List Value).getD i undef) 6 (fun w'=>∃wq,Below wr.heap.size wr wq∧w'=wq.setCells w1.heap.size 0 (Q4 r).toList) (by kernel_rfl) rfl rfl rfl rfl rfl rfl ⟨.inr ⟨rfl,fun A w' hb hs=>Wl (.tmp 5) rfl w1.heap.size ((hs.2 5 rfl).trans rfl)⟩,.inr ⟨rfl,fun A w' hb hs=>Zb _ (.tmp 61) rfl w1.heap.size 0 (hs.1 0 rfl 61 rfl) (Q4 Hj).toList _ (Jw (K.out.2.1.below hb K.out.2.1.lt) K.out.2.2.2.2.2.1) underlying203 rfl (by simpa using i8H)⟩,.inr ⟨rfl,fun A w' hb hs=>Qe (.tmp 1) (.inl rfl) ((hs.2 1 rfl).trans rfl)⟩,.inr ⟨rfl,fun A w' hb hs=>Yq _ (.tmp 63) none (some (.const (.int .i64 64))) rfl (hs.1 2 rfl 63 rfl) rfl rfl (by kernel_rfl) (KS.out w')⟩,.inr ⟨rfl,fun A w' hb hs=>Zj 122 _ (QH _ 122 _ rfl rfl (KA (hs.1 1 rfl 62 rfl) (hs.1 3 rfl 64 rfl)) func122 rfl rfl) (KC.out w' (bt K.out.2.2.1 hb))⟩,.inr ⟨rfl,fun A w' hb hs=>Wl (.tmp 5) rfl w1.heap.size ((hs.2 5 rfl).trans rfl)⟩,.inl ⟨rfl,rfl,fun A w' hb hs=>wp_store_mid _ (.tmp 66) (.tmp 65) rfl w1.heap.size 0 (Q4 r) (hs.1 5 rfl 66 rfl) (hs.1 4 rfl 65 rfl) (by rw[K.out.2.2.2.2.2.2.2.2.2.2.2.2];exact V6 (K.out.2.1.below hb K.out.2.1.lt) K.out.2.2.2.2.2.1) i8r a8r ⟨rfl,w',hb,rfl⟩⟩,trivial⟩ ?_;rintro _ ⟨wq,hbq,rfl⟩;simp only[Fr,QdC,Act.put,Qdh,Qdy,Qdz,Qej,Qed];have D1:=(K.out.1.below hbq l1).setsFar (b:=w1.heap.size) (by omega) (Q4 r).toList 0;have D5:=(K.out.2.1.below hbq l5).setWords K.out.2.2.2.2.2.1 K.out.2.2.2.2.2.2.2.2.1;have DB:=Vn (b:=w1.heap.size) (show w.heap.size≤w1.heap.size by omega) (Q4 r).toList 0 (bt K.out.2.2.1 hbq);have D:=H3 D1 D5 DB;clear D1 D5 DB hbq;generalize wq.setCells _ _ _=w6 at *;go_wp2;obtain⟨D1,D5,DB⟩:=D.out;obtain⟨_,_,_,hp,hHj,_,_,hnext,_,_,hr1,_,_⟩:=K.out;go_roundw
   case rel=>
    refine⟨j+1,_,c1-64,p-64,by omega,by omega,rfl,by omega,by omega,?_,?_,D1,by rw[hnext];exact D5,DB⟩
    ·have:=hr1.from (n:=p) (c:=c1) (k:=64) (by rw[Yj,F.out.2.2.2.2.2.2.1,hp]) h64 hpc;rw[Qei,show 64*j+64=64*(j+1) by omega] at this;exact this
    ·intro hnone;exfalso;have hsome:=hno1;cases a1 with
     | none=>have:=(hno1 rfl).1;omega
     | some ad=>split at hnone <;> cases hnone
   case measure=>simp[Sq];omega
  ·have hjj:t.length/64=j:=by rw[F.out.2.2.2.2.2.2.1];omega
   have hpl:p=(XJ t).length:=by rw[J3,F.out.2.2.2.2.2.2.1];omega
   have hdr:t.drop (64*j)=XJ t:=by unfold XJ;rw[hjj]
   have hHH:Vk t j He=YO He t:=by unfold YO;rw[hjj]
   rw[hdr] at hr1;rw[hHH] at h5;clear hjj hdr hHH;have hRl:(XJ t).length=p:=hpl.symm;have hmx:(XJ t).length≤maxLen:=by rw[hRl];unfold maxLen;omega
   obtain⟨i0,hi,hz0,hz1,hz2⟩:=info_parts (show (prog.info? 5).map (fun i=>(i.zero,i.size,i.bytes))=some (some (.int .u8 0),1,1) by kernel_rfl);have l5:=h5.lt;have l1:=h1.lt;have hHl:(YO He t).length=8:=ZF _ _ _ F.out.2.2.2.2.2.1;obtain⟨HH,hHH⟩:=nE (YO He t);obtain⟨R,hR⟩:=nE (XJ t);rw[←hHH] at h5 hHl;rw[←hR] at hr1 hRl hmx;have K:=H10 h1 h5 hb hp hHH hHl hR hRl hr1 hmx;clear h1 h5 hb hp hHH hHl hR hRl hr1 hpl hmx;have HI0:=H4 hi hz0 hz1 hz2;clear hi hz0 hz1 hz2;cases a1 with
   | none=>
    obtain⟨hp0,hc0⟩:=hno1 rfl;subst hp0 hc0;have R0:R=[]:=QdO.1 K.out.2.2.2.2.2.2.2.1;obtain⟨C,hC⟩:=nE (stC HH (.slice (some ⟨wr.heap.size,0,none⟩) 0 0) N);have sC:C.size=10:=by rw[hC];exact XT _ _ _ K.out.2.2.2.2.2.1
    have iC:=Z4 C sC;have s1:(XY 0).size=C.size:=by rw[sC];rfl
    have aC:C.all (·.oneCell')=true:=by rw[hC];exact ZQ _ _ _ _ _
    have B5:=K.out.2.1.alloc (.cells #[] 5);have c8:=Qz B5 8 _ (V8 _ _ _ K.out.2.2.2.2.2.1);have f8:=B5.frozen 8;have M5:Blk _ w1.heap.size 205 C:=((K.out.2.1.set_ 8 (.slice (some ⟨wr.heap.size,0,none⟩) 0 0)).to (show _=C by rw[hC];exact ZB _ _ _ _ K.out.2.2.2.2.2.1)).alloc (.cells #[] 5);have M1:=(K.out.1.far (show w.heap.size+1≠w1.heap.size by omega) (i:=8) (.slice (some ⟨wr.heap.size,0,none⟩) 0 0)).alloc (.cells #[] 5);have MB:=ba (K.out.2.2.1.setCell (show w.heap.size≤(⟨w1.heap.size,8,none⟩:Addr).block by show w.heap.size≤w1.heap.size;omega) (.slice (some ⟨wr.heap.size,0,none⟩) 0 0)) (.cells #[] 5);have M:=H5 M5 M1 MB hC R0;clear M5 M1 MB B5 hC sC R0;go_wp2_with (first|(at_builtin;refine wpList_append_own_none rfl _ _ 31 rfl wr.heap.size 5 i0 1 underlying31 HI0.out.1 _ 0 [] rfl (QeQ wr #[] 0 (Qde _) (by omega) rfl) rfl ?_)|with_reducible refine V7 M.out.1 _ _ rfl rfl rfl _ underlying205 iC ?_|with_reducible refine Ql M.out.2.1 _ _ _ _ rfl rfl rfl rfl iC s1 aC ?_);obtain⟨M5,M1,MB,hC,R0⟩:=M.out;have hRR:=K.out.2.2.2.2.2.2.1;have hHH:=K.out.2.2.2.2.1;rw[R0] at hRR;have hCC:C=stC (YO He t) (.slice (some ⟨wr.heap.size,0,none⟩) (XJ t).length 0) N:=by rw[hC,hHH,←hRR];rfl
    refine Qdg (v:=.agg C) ?_ rfl (by rw[hCC];exact FIN.out _ _ _ (.inl hRR.symm) (by rw[←hRR];exact Qde _) (by unfold maxLen;omega) (Qb MB (by omega) _));exact results_cell_row rfl _ _ _ _ _ (0,0) _ rfl (M1.row _) underlying205 rfl iC
   | some ad=>
    clear hno1;have hmb2:p≤maxLen:=by unfold maxLen;omega
    have hmb3:(0+p)*1≤140737488355328:=by omega
    go_wp2_with (at_builtin;go_loud (refine wpList_append_own _ rfl _ _ 31 rfl wr.heap.size 5 i0 (.int .u8 0) 1 1 underlying31 HI0.out.1 HI0.out.2.1 HI0.out.2.2.1 HI0.out.2.2.2 rfl (by omega) _ 0 [] rfl (QeQ wr #[] 0 (Qde _) (by omega) rfl) ad p c1 (R.map fun c=>Value.int .u8 (c.toNat:Int)) rfl (by rw[QdA,K.out.2.2.2.2.2.2.2.1,Qe2]) (fun j u hu=>PI ((K.out.2.2.2.2.2.2.2.2.1.below K.out.2.2.1 (Qde _)).below ((Below.refl _ _).alloc (Qde _) _) (Qde _)) j u hu) (Jg R) (by omega) hmb3 (by simp) ?_));intro v' w' ho hg hnil;obtain⟨g,cap,cur,rfl,hgb,hbg,hpc2,hcm3,hRp,hrd⟩:=ZR ho hnil;clear ho hnil;have B5:=(K.out.2.1.alloc (.cells #[] 5)).grown hg (by simp[Value.ownBlock];omega);have B1:=(K.out.1.alloc (.cells #[] 5)).grown hg (by simp[Value.ownBlock];omega);have BB:=Qn (ba K.out.2.2.1 (.cells #[] 5)) hg (by simp;omega) (by intro k hk;simp[Value.ownBlock] at hk;omega);clear hg;obtain⟨C,hC⟩:=nE (stC HH (.slice (some ⟨g,0,none⟩) p cap) N);have sC:C.size=10:=by rw[hC];exact XT _ _ _ K.out.2.2.2.2.2.1
    have iC:=Z4 C sC;have s1:(XY 0).size=C.size:=by rw[sC];rfl
    have aC:C.all (·.oneCell')=true:=by rw[hC];exact ZQ _ _ _ _ _
    have c8:=Qz B5 8 _ (V8 _ _ _ K.out.2.2.2.2.2.1);have f8:=B5.frozen 8;have M5:Blk _ w1.heap.size 205 C:=(B5.set_ 8 (.slice (some ⟨g,0,none⟩) p cap)).to (show _=C by rw[hC];exact ZB _ _ _ _ K.out.2.2.2.2.2.1);have M1:=B1.far (show w.heap.size+1≠w1.heap.size by omega) (i:=8) (.slice (some ⟨g,0,none⟩) p cap);have MG:=hbg.far (show g≠w1.heap.size by omega) (i:=8) (.slice (some ⟨g,0,none⟩) p cap);have MB:=BB.setCell (show w.heap.size≤(⟨w1.heap.size,8,none⟩:Addr).block by show w.heap.size≤w1.heap.size;omega) (.slice (some ⟨g,0,none⟩) p cap);have M:=H6 M5 M1 MB hC MG hrd;clear M5 M1 MB B5 B1 BB hbg hC sC MG hrd;go_wp2_with (first|with_reducible refine V7 M.out.1 _ _ rfl rfl rfl _ underlying205 iC ?_|with_reducible refine Ql M.out.2.1 _ _ _ _ rfl rfl rfl rfl iC s1 aC ?_);obtain⟨M5,M1,MB,hC,MG,hrd⟩:=M.out;have hRR:=K.out.2.2.2.2.2.2.1;have hHH:=K.out.2.2.2.2.1;have hRl:=K.out.2.2.2.2.2.2.2.1;have hCC:C=stC (YO He t) (.slice (some ⟨g,0,none⟩) (XJ t).length cap) N:=by rw[hC,hHH,←hRR,hRl]
    refine Qdg (v:=.agg C) ?_ rfl (by
     rw[hCC];refine FIN.out _ _ _ (.inr ⟨g,0,rfl,(MG.rowFar (show g≠w.heap.size+1 by omega) _).lt,?_⟩) (by rw[←hRR,hRl];exact hpc2) hcm3 (Qb MB (by omega) _);intro i hi;rw[←hRR] at hi ⊢;exact ((MG.rowFar (show g≠w.heap.size+1 by omega) _).cell (0+i)).trans (by rw[Qd5];exact hrd i hi))
    exact results_cell_row rfl _ _ _ _ _ (0,0) _ rfl (M1.row _) underlying205 rfl iC
def PA(H:List Wd)(len n:Nat):List Wd:=if len=n%64 then H else HI
def WD(r:List UInt8)(len n:Nat):List UInt8:=if len=n%64 then r else []
def Gt(len n:Nat):Nat:=if len=n%64 then n else 0
theorem TB(H:List Wd)(hH:H.length=8)(a:Option Addr)(rest:List UInt8)(len c n:Nat)(hn:n<W64)(hrl:rest.length=len)(hlc:len≤c)(hcm:c≤maxLen)
  (a':Option Addr) (t:List UInt8) (m c':Nat) (hm:t.length=m) (hc:m≤c') (hc2:m≤140737488355328∧c'≤9223372036854775807) (hno:a'=none→m=0∧c'=0) (w:World) (hrr:RdS w a rest) (hr:RdS w a' t) (hL:Laid w):
  Calls prog 79 #[.agg (stC H (.slice a len c) n),.slice a' m c'] w (Pe w (PA H len n) (WD rest len n++t) ((Gt len n+m)%W64)):=by
 have hl9:len≤9223372036854775807:=by unfold maxLen at hcm;omega
 unfold PA WD Gt;by_cases h:len=n%64
 ·rw[Qdm h,Qdm h,Qdm h];by_cases h0:len=0
  ·have hr0:rest=[]:=QdO.1 (by omega);rw[hr0,QdU];exact Px H hH a len c n hn hl9 H hH a c n hn hcm (.inl ⟨h,rfl,rfl,rfl,rfl,h0⟩) a' t m c' hm hc hc2 hno w hr hL
  ·rcases hrr with hrr|⟨g,off,ha,hg,hrd⟩
   ·rw[hrr] at hrl;exact absurd hrl.symm h0
   ·subst ha;by_cases hf:len+m<64
    ·exact Lz H hH _ rest len c n hn h (by omega) hrl hlc hcm a' t m c' hm hc hc2 hno hf w (.inr ⟨g,off,rfl,hg,hrd⟩) hr hL
    ·exact DE H hH _ rest len c n hn h (by omega) hrl hlc hcm a' t m c' hm hc hc2 hno (by omega) w (.inr ⟨g,off,rfl,hg,hrd⟩) hr hL
 ·rw[Qdf h,Qdf h,Qdf h,QdU];exact Px H hH a len c n hn hl9 HI JV none 0 0 (by unfold W64;omega) (by omega) (.inr ⟨h,rfl,rfl,rfl,rfl⟩) a' t m c' hm hc hc2 hno w hr hL
theorem SV(H:List Wd)(t:List UInt8):∀(k:Nat) (l:List UInt8),l.length≤k→∀H,YO H (l++t)=YO (YO H l) (XJ l++t)∧XJ (l++t)=XJ (XJ l++t)
 | 0,l,h,H=>by
  have:l=[]:=QdO.1 (by omega);subst this;exact⟨rfl,rfl⟩
 | k+1,l,h,H=>by
  by_cases h64:l.length<64
  ·rw[BI H l h64,G8 l h64];exact⟨rfl,rfl⟩
  ·have hlt:64≤(l++t).length:=by rw[Qdj];omega
   have e1:(l++t).take 64=l.take 64:=Qet (by omega);have e2:(l++t).drop 64=l.drop 64++t:=Qe8 (by omega);have ih:=SV H t k (l.drop 64) (by rw[Qdq];omega) (blk H (l.take 64));rw[Pd H (l++t) hlt,JT (l++t) hlt,e1,e2,Pd H l (by omega),JT l (by omega)];exact ih
theorem BJ(H:List Wd)(l t:List UInt8):YO H (l++t)=YO (YO H l) (XJ l++t):=(SV H t l.length l (Qde _) H).1
theorem Nr(l t:List UInt8):XJ (l++t)=XJ (XJ l++t):=(SV [] t l.length l (Qde _) []).2
theorem J4(H:List Wd)(l:List UInt8)(h:H.length=8):(YO H l).length=8:=ZF _ _ _ h
def StAt(w:World)(v:Value)(txt:List UInt8):Prop:=
 ∃(a:Option Addr) (c:Nat),v= .agg (stC (YO HI txt) (.slice a (XJ txt).length c) (txt.length%W64))∧RdS w a (XJ txt)∧(XJ txt).length≤c∧c≤maxLen
theorem StAt.start(w:World):StAt w (.agg (stC HI (.slice none 0 0) 0)) []:=⟨none,0,rfl,.inl rfl,Qde _,Qdw _⟩
theorem ON(v:Value)(txt:List UInt8)(a':Option Addr)(t:List UInt8)(m c':Nat)(hm:t.length=m)(hc:m≤c')(hc2:m≤140737488355328∧c'≤9223372036854775807)(hno:a'=none→m=0∧c'=0)(w:World)(hv:StAt w v txt)(hr:RdS w a' t)(hL:Laid w):
  Calls prog 79 #[v,.slice a' m c'] w fun e w'=>∃v',e= .returned v'∧StAt w' v' (txt++t)∧Below w.heap.size w w':=by
 obtain⟨a,c,rfl,hra,h1,h2⟩:=hv;have hW:txt.length%W64<W64:=Qen _ Vs;have hs:(XJ txt).length=txt.length%W64%64:=by rw[J3];unfold W64;omega
 refine (TB (YO HI txt) (J4 _ _ JV) a (XJ txt) _ c _ hW rfl h1 h2 a' t m c' hm hc hc2 hno w hra hr hL).mono ?_;rintro e w' ⟨a2,c2,rfl,hr2,h3,h4,hb⟩;refine⟨_,rfl,?_,hb⟩;simp only[PA,WD,Gt,Qdm hs] at hr2 h3 ⊢;refine⟨a2,c2,?_,by rw[Nr];exact hr2,by rw[Nr];exact h3,h4⟩;rw[BJ HI txt t,Nr txt t,Qdj,hm];have e:(txt.length%W64+m)%W64=(txt.length+m)%W64:=by unfold W64;omega
 rw[e]
def Fa(P:Program)(Q:Exit→Act→World→Prop)(w0:World)(dsts:List (Option Tmp))(F:Nat→Value→World→Prop)(a0:Act)(n:Nat)(T:World→Prop)(i:Nat)(o:Oper):Prop:=
 (i=n∧((List.range n).all fun j=>(Qr o).contains j)=true∧∀(A:Act) w' (γ:Nat→Value),Below w0.heap.size w0 w'→(∀j,j<n→F j (γ j) w')→YC dsts γ a0 o A→o.wp P A w' (fun a' w''=>∃u,a'=A.put o.dst u∧T w'') Q)∨
 (Nat.beq i n=false∧∀(A:Act) w' (γ:Nat→Value),Below w0.heap.size w0 w'→(∀j,(Qr o).contains j=true→F j (γ j) w')→YC dsts γ a0 o A→o.wp P A w' (fun a' w''=>∃u,a'=A.put o.dst u∧Below w'.heap.size w' w''∧F i u w'') Q)
theorem PX{P:Program}{Q:Exit→Act→World→Prop}{id:Nat}{l:List Oper}{a:Act}{w:World}(dsts:List (Option Tmp))(F:Nat→Value→World→Prop)(n:Nat)(T:World→Prop)
  (hF:∀j u w1 w2,F j u w1→Below w1.heap.size w1 w2→F j u w2)
  (hm:P.follows .mixedOrders=true) (hds:l.map (·.dst)=dsts) (hnd:Y9 dsts=true) (hng:(l.all fun o=>o.guard.isNone)=true) (hord:ordGo 0 l=true) (hin:inD a.tmps.size dsts=true) (hn:l.length=n+1)
  (step:StepAll (Fa P Q w dsts F a n T) 0 l) (fin:∀γ w',T w'→Q .normal (Fr γ (fun _=>true) dsts 0 a) w'):(Code.region id l.toArray true).wp P Q a w:=by
 refine Z7 (Γ:=Nat→Value) dsts (fun γ=>γ) (fun γ L w'=>(L n=false∧Below w.heap.size w w'∧∀j,L j=true→F j (γ j) w')∨(L n=true∧(∀j,j<n→L j=true)∧T w')) hm hds hnd hng hord (fun _=>undef) (.inl ⟨rfl,(Below.refl _ _).drew,fun j h=>by cases h⟩) ?_ ?_
 ·have key:∀(l':List Oper) (k:Nat),k+l'.length=n+1→StepAll (Fa P Q w dsts F a n T) k l'→StepAll (fun i o=>∀(γ:Nat→Value) (L:Nat→Bool) w',((L n=false∧Below w.heap.size w w'∧∀j,L j=true→F j (γ j) w')∨(L n=true∧(∀j,j<n→L j=true)∧T w'))→L i=false→(∀j∈Qr o,L j=true)→
    o.wp P (Fr γ L dsts 0 a) w' (fun a' w''=>∃γ':Nat→Value,(∀j,L j=true→γ' j=γ j)∧a'=(Fr γ L dsts 0 a).put o.dst (γ' i)∧((onL L i n=false∧Below w.heap.size w w''∧∀j,onL L i j=true→F j (γ' j) w'')∨(onL L i n=true∧(∀j,j<n→onL L i j=true)∧T w''))) Q) k l':=by
   intro l';induction l' with
   | nil=>intro _ _ _;trivial
   | cons o l' ih=>
    intro k hk hs;refine⟨?_,ih (k+1) (by simp at hk;omega) hs.2⟩;intro γ L w' hI hL hdep;have hkn:k≤n:=by simp at hk;omega
    have hln:L n=false:=by
     cases e:L n with
     | false=>rfl
     | true=>
      rcases hI with ⟨h,_⟩|⟨_,h,_⟩
      ·rw[e] at h;cases h
      ·by_cases hk2:k=n
       ·rw[hk2,e] at hL;cases hL
       ·rw[h k (by omega)] at hL;cases hL
    obtain⟨hb,hFs⟩:Below w.heap.size w w'∧∀j,L j=true→F j (γ j) w':=by
     rcases hI with ⟨_,h⟩|⟨h,_⟩
     ·exact h
     ·rw[hln] at h;cases h
    have hSF:YC dsts γ a o (Fr γ L dsts 0 a):=
     ⟨fun j hj t ht=>Z6 γ L t j (hdep j (QdD.1 hj)) dsts 0 a hnd (Qdw _) (by simpa using ht) (YA hin ht),fun t ht=>ZL γ L t dsts 0 a ht⟩
    have hup:∀u,(fun j=>if j=k then u else γ j) k=u:=fun u=>by simp
    have hkeep:∀u j,L j=true→(fun j=>if j=k then u else γ j) j=γ j:=fun u j hj=>by
     by_cases e:j=k
     ·rw[e,hL] at hj;cases hj
     ·simp[e]
    rcases hs.1 with ⟨rfl,hall,hq⟩|⟨hne,hq⟩
    ·have hd:∀j,j<k→L j=true:=fun j hj=>hdep j (QdD.1 (QdG.1 hall j (QeA.2 hj)));refine Oper.wp_mono ?_ (hq _ w' γ hb (fun j hj=>hFs j (hd j hj)) hSF);rintro a' w'' ⟨u,rfl,hT⟩;refine⟨fun j=>if j=k then u else γ j,hkeep u,by rw[hup u],.inr ⟨ZD,fun j hj=>?_,hT⟩⟩;simp[onL,hd j hj]
    ·refine Oper.wp_mono ?_ (hq _ w' γ hb (fun j hj=>hFs j (hdep j (QdD.1 hj))) hSF);rintro a' w'' ⟨u,rfl,hbel,hFi⟩;refine⟨fun j=>if j=k then u else γ j,hkeep u,by rw[hup u],.inl ⟨?_,bt hb hbel,fun j hj=>?_⟩⟩
     ·have hne':n≠k:=fun e=>by subst e;simp at hne
      rw[Yc hne',hln]
     ·by_cases e:j=k
      ·subst e;rw[hup u];exact hFi
      ·have hj':L j=true:=by rw[Yc e] at hj;exact hj
       rw[hkeep u j hj'];exact hF j _ _ _ (hFs j hj') hbel
  exact key l 0 (by omega) step
 ·rintro γ L w' hL hI;rcases hI with ⟨h,_⟩|⟨_,_,h⟩
  ·rw[hL n (by omega)] at h;cases h
  ·exact fin γ w' h
def leN(l:List UInt8):Nat→Nat
 | 0=>0
 | k+1=>leN l k+(l.getD k 0).toNat*256^k
theorem MO(l:List UInt8):leN l 0=0:=rfl
theorem XC(l:List UInt8)(k:Nat):leN l (k+1)=leN l k+(l.getD k 0).toNat*256^k:=rfl
theorem XQ(l:List UInt8)(k:Nat):leN l k<256^k:=by
 induction k with
 | zero=>simp[leN]
 | succ k ih=>
  have h:=(l.getD k 0).toNat_lt;have e:256^(k+1)=256^k+255*256^k:=by rw[QfC];omega
  have hm:(l.getD k 0).toNat*256^k≤255*256^k:=QeW _ (by omega);unfold leN;omega
theorem MN(l:List UInt8)(k i:Nat)(h:i<k):leN l k/256^i%256=(l.getD i 0).toNat:=by
 induction k with
 | zero=>omega
 | succ k ih=>
  unfold leN;by_cases e:i=k
  ·subst e;have h1:=XQ l i;have h2:=(l.getD i 0).toNat_lt;rw[Nat.add_mul_div_right _ _ (Nat.pow_pos (by decide)),QeF h1,Qd5,Qez h2]
  ·rw[←ih (by omega)];have e2:(l.getD k 0).toNat*256^k=((l.getD k 0).toNat*256^(k-i-1)*256)*256^i:=by
    rw[QeX,QeX,←Qfs,←QeL];congr 2;omega
   rw[e2,Nat.add_mul_div_right _ _ (Nat.pow_pos (by decide)),Nat.add_mul_mod_self_right]
theorem Yp(l:List UInt8)(i:Nat)(h:i<l.length):(Qp l)[i]? =some (.int .u8 (l.getD i 0).toNat):=by
 simp[Qp,h]
theorem XE(l:List UInt8):(Qp l).size=l.length:=by simp[Qp]
theorem Xh(l:List UInt8):(Qp l).all (·.oneCell')=true:=by simp[Qp,Value.oneCell']
theorem eqH(l k:List UInt8)(b:Bool)(hl:l.length=32)(hk:k.length=32)(hb:(decide (l=k))=b)(w:World):
  (Op.equalIn 10000 27 (.agg (Qp l)) (.agg (Qp k))).run prog w= .ok b w:=by
 obtain⟨i,hi⟩:=Qem.1 (show (prog.info? 5).isSome=true by kernel_rfl);refine Km (P:=prog) w .u8 .u8 (by kernel_rfl) underlying5 underlying27 hi (by kernel_rfl) (fun i=>((l.getD i 0).toNat:Int)) (fun i=>((k.getD i 0).toNat:Int)) _ _ (fun i h=>⟨Yp l i (by omega),Yp k i (by omega)⟩) b ?_;rw[←hb];rw[QeE];simp only[QdG,QeA,beq_iff_eq,QdM];constructor
 ·intro h;apply Qfd (by omega);intro i h1 h2;have e:=h i (by omega);have e4:l.getD i 0=k.getD i 0:=Qfu.1 (by omega);simpa[List.getD,h1,h2] using e4
 ·rintro rfl i _;rfl
theorem Gc(a x s:Nat)(ha:a<2^s)(hx:x<256)(hs:s≤56):bits .or .u64 (a:Int) (IntKind.u64.wrap (IntKind.u64.wrap (x:Int)*2^s))=((a+x*2^s:Nat):Int):=by
 have h56:(2:Nat)^s≤2^56:=Qep (by decide) hs;have hx2:x*2^s≤255*2^56:=Nat.mul_le_mul (by omega) h56;have w1:IntKind.u64.wrap (x:Int)=(x:Int):=by simp[IntKind.wrap,IntKind.signed,IntKind.bits];omega
 have w2:IntKind.u64.wrap ((x:Int)*2^s)=((x*2^s:Nat):Int):=by
  have e:(x:Int)*2^s=((x*2^s:Nat):Int):=by push_cast;rfl
  rw[e];generalize x*2^s=y at *;simp[IntKind.wrap,IntKind.signed,IntKind.bits];omega
 rw[w1,w2];have e2:=u64_or_nat a (x*2^s) (by omega) (by omega);rw[e2];congr 1;rw[Nat.or_comm,←Qf2,←QeZ ha];omega
end Go.Proofs.YthdaabapiicnhaaGreatDoor
