/- Steps of the proof. -/
import Derived.Test.YthdaabapiicnhaaGreatDoorTr18
set_option linter.all false
set_option maxRecDepth 100000
set_option maxHeartbeats 4000000
open Go.Proofs.Tryz
namespace Go.Proofs.YthdaabapiicnhaaGreatDoor
open Go.RowKit
theorem kp_tr{X:Nat→Prop}{a b c:World}(h:Kp X a b)(k:Kp X b c):Kp X a c:=⟨Qdx h.1 k.1,fun i hi hx=>(k.2.1 i (Qdr hi h.1) hx).trans (h.2.1 i hi hx),k.2.2.1.trans h.2.2.1,k.2.2.2.1.trans h.2.2.2.1,k.2.2.2.2.trans h.2.2.2.2⟩
theorem OO(C:Array Value)(hC:C.size=4)(h1:C.all (·.oneCell')=true)(a:Option Addr)(n c:Nat)(l:List UInt8)(hl:l.length=n)(hc:n≤c)(hn:n≤1000000000)(hc2:c≤9223372036854775807)(hno:a=none→n=0∧c=0)(w:World)(hr:RdS w a l):
  Calls prog 27 #[.iface 52 (.agg C),.slice a n c] w fun e w'=>∃(v:Nat) (vi vo:Value) (z s q:Nat),e= .returned (.tuple #[.iface 52 (.agg #[.int .u32 (v:Nat),vi,vo,.int .u32 (z:Nat)]),.int .i64 (s:Nat),.int .i64 (q:Nat)])∧Below w.heap.size w w'∧(∃ai mi ci,vi= .slice ai mi ci)∧(∃ao mo co,vo= .slice ao mo co)∧
   ((XK.get l).2.2=0→q=0∧s=(XK.get l).2.1∧∀w2,Kp (fun k=>k<w.heap.size) w' w2→TxV (XK.get l).1 [.int .u32 (v:Nat),vi,vo,.int .u32 (z:Nat)] w2)∧(Zd l→q≠0):=by
 have iC:(prog.info? 52).map (·.size)=some C.size:=by rw[hC];kernel_rfl
 have NN:Blk (w.alloc (.cells #[.int .u32 0,.slice none 0 0,.slice none 0 0,.int .u32 0] 52)) w.heap.size 52 #[.int .u32 0,.slice none 0 0,.slice none 0 0,.int .u32 0]:=Blk.new _ _ _;have zC:(#[.int .u32 0,.slice none 0 0,.slice none 0 0,.int .u32 0]:Array Value).size=C.size:=by rw[hC];rfl
 have B2:Below w.heap.size w (World.setRow (w.alloc (.cells #[.int .u32 0,.slice none 0 0,.slice none 0 0,.int .u32 0] 52)) w.heap.size C):=Qb (ba (Below.refl _ _) _) (Qde _) C;have A:=H5 NN zC iC h1 B2;clear NN zC iC h1 B2;obtain⟨z0,hz0⟩:∃z:Value,∀(v:Value) (w:World),(Instr.typeAssert (.iface 52 v) 20 22 true).run prog w= .ok (.tuple #[z,.bool false]) w:=⟨((prog.info? 22).bind (·.zero)).getD undef,fun v w=>by kernel_rfl⟩;obtain⟨z1,hz1⟩:∃z:Value,∀(v:Value) (w:World),(Instr.typeAssert (.iface 52 v) 20 23 true).run prog w= .ok (.tuple #[z,.bool false]) w:=⟨((prog.info? 23).bind (·.zero)).getD undef,fun v w=>by kernel_rfl⟩;obtain⟨z2,hz2⟩:∃z:Value,∀(v:Value) (w:World),(Instr.typeAssert (.iface 52 v) 20 27 true).run prog w= .ok (.tuple #[z,.bool false]) w:=⟨((prog.info? 27).bind (·.zero)).getD undef,fun v w=>by kernel_rfl⟩;obtain⟨z3,hz3⟩:∃z:Value,∀(v:Value) (w:World),(Instr.typeAssert (.iface 52 v) 20 155 true).run prog w= .ok (.tuple #[z,.bool false]) w:=⟨((prog.info? 155).bind (·.zero)).getD undef,fun v w=>by kernel_rfl⟩;obtain⟨z4,hz4⟩:∃z:Value,∀(v:Value) (w:World),(Instr.typeAssert (.iface 52 v) 20 47 true).run prog w= .ok (.tuple #[z,.bool false]) w:=⟨((prog.info? 47).bind (·.zero)).getD undef,fun v w=>by kernel_rfl⟩;obtain⟨z5,hz5⟩:∃z:Value,∀(v:Value) (w:World),(Instr.typeAssert (.iface 52 v) 20 31 true).run prog w= .ok (.tuple #[z,.bool false]) w:=⟨((prog.info? 31).bind (·.zero)).getD undef,fun v w=>by kernel_rfl⟩;obtain⟨z6,hz6⟩:∃z:Value,∀(v:Value) (w:World),(Instr.typeAssert (.iface 52 v) 20 30 true).run prog w= .ok (.tuple #[z,.bool false]) w:=⟨((prog.info? 30).bind (·.zero)).getD undef,fun v w=>by kernel_rfl⟩;obtain⟨z7,hz7⟩:∃z:Value,∀(v:Value) (w:World),(Instr.typeAssert (.iface 52 v) 20 24 true).run prog w= .ok (.tuple #[z,.bool false]) w:=⟨((prog.info? 24).bind (·.zero)).getD undef,fun v w=>by kernel_rfl⟩;have hy:∀(v:Value) (w:World),(Instr.typeAssert (.iface 52 v) 20 52 true).run prog w= .ok (.tuple #[v,.bool true]) w:=fun v w=>by kernel_rfl
 have cG:=fun w1 (h:RdS w1 a l)=>Qag a n c l hl hc hn hc2 hno w1 h;have R:=H2 hr cG;clear hr cG hl;go_enter func27,ntmps27;go_upto_region 37 with (with_reducible refine Ql A.out.1 _ _ _ _ rfl rfl rfl rfl A.out.2.2.1 A.out.2.1 A.out.2.2.2.1 ?_);have B:=Lib.hid A.out.2.2.2.2;clear A;generalize World.setRow _ _ _=w2 at *;go_wp2_with fail;refine (R.out.2 w2 (R.out.1.calls B.out)).mono ?_;rintro e w3 ⟨v,vi,vo,z,s,q,rfl,hB,⟨ai,mi,ci,rfl⟩,⟨ao,mo,co,rfl⟩,hg,hb⟩;have hsz:=B.out.size;have Q:=H3 (bt B.out hB) hg hb;clear hg hb hB B;go_wp2_with fail;exact Qdg (v:=.tuple #[.iface 52 (.agg #[.int .u32 (v:Nat),.slice ai mi ci,.slice ao mo co,.int .u32 (z:Nat)]),.int .i64 (s:Nat),.int .i64 (q:Nat)]) (by simp[results,results27,go_sem]) rfl ⟨v,_,_,z,s,q,rfl,ba Q.out.1 _,⟨_,_,_,rfl⟩,⟨_,_,_,rfl⟩,fun h=>⟨(Q.out.2.1 h).1,(Q.out.2.1 h).2.1,fun wz hk=>(Q.out.2.1 h).2.2 wz (kp_tr (QC (ba (Below.refl _ _) _)) (hk.mono fun k hk=>by omega))⟩,Q.out.2.2⟩
theorem Qb9(w0:World)(v:Value)(m:Nat)(xs:List UInt8)(x:TxM)(hg:Pf x)(C:List Value)(hx:TxV x C w0)(hsz:(XK.put x).length≤100000000)(hm:m≤1000000000)(w:World)(hw:Below w0.heap.size w0 w)(ho:w.ownsRow w0.heap.size 5 1 v m (xs.map fun c=>Value.int .u8 (c.toNat:Int))):
  Calls prog 57 #[v,.iface 52 (.agg C.toArray)] w fun e w'=>∃u,e= .returned u∧w'.ownsRow w0.heap.size 5 1 u (m+(XK.put x).length) ((xs++XK.put x).map fun c=>Value.int .u8 (c.toNat:Int))∧Below w0.heap.size w w':=by
 have hb:=hw.size;have cP:=fun w2 (h:Below w0.heap.size w0 w2)=>Qaf x hg C w2 (hx.calls h);obtain⟨vi,vo,hC,hi,ho2⟩:=hx;obtain⟨ai,ci,rfl,-⟩:=hi.slice;obtain⟨ao,co,rfl,-⟩:=ho2.slice;have hCs:C.toArray.size=4:=by rw[hC];rfl
 have hC1:C.toArray.all (·.oneCell')=true:=by rw[hC];simp[Value.oneCell']
 clear hC hi ho2;obtain⟨P,hP⟩:=nE (XK.put x);rw[←hP] at hsz cP ⊢;obtain⟨S,hS⟩:=nE (P.length);rw[←hS] at hsz ⊢;obtain⟨D,hD⟩:=nE (C.toArray);rw[←hD] at cP hCs hC1 ⊢;have iD:(prog.info? 52).map (·.size)=some D.size:=by rw[hCs];kernel_rfl
 have zD:(#[.int .u32 0,.slice none 0 0,.slice none 0 0,.int .u32 0]:Array Value).size=D.size:=by rw[hCs];rfl
 have EH:=H6 cP hS.symm hw iD zD hC1;clear cP hS hw iD zD hC1 hCs hP hD;obtain⟨Z,hz,zs,zo⟩:∃Z:Array Value,(∀(v:Value) (w:World),(Instr.typeAssert (.iface 52 v) 20 27 true).run prog w= .ok (.tuple #[.agg Z,.bool false]) w)∧Z.size=32∧Z.all (·.oneCell')=true:=⟨Z32,fun v w=>by kernel_rfl,by kernel_rfl,by kernel_rfl⟩;obtain⟨z0,hz0⟩:∃z:Value,∀(v:Value) (w:World),(Instr.typeAssert (.iface 52 v) 20 22 true).run prog w= .ok (.tuple #[z,.bool false]) w:=⟨((prog.info? 22).bind (·.zero)).getD undef,fun v w=>by kernel_rfl⟩;obtain⟨z1,hz1⟩:∃z:Value,∀(v:Value) (w:World),(Instr.typeAssert (.iface 52 v) 20 23 true).run prog w= .ok (.tuple #[z,.bool false]) w:=⟨((prog.info? 23).bind (·.zero)).getD undef,fun v w=>by kernel_rfl⟩;obtain⟨z2,hz2⟩:∃z:Value,∀(v:Value) (w:World),(Instr.typeAssert (.iface 52 v) 20 155 true).run prog w= .ok (.tuple #[z,.bool false]) w:=⟨((prog.info? 155).bind (·.zero)).getD undef,fun v w=>by kernel_rfl⟩;obtain⟨z3,hz3⟩:∃z:Value,∀(v:Value) (w:World),(Instr.typeAssert (.iface 52 v) 20 47 true).run prog w= .ok (.tuple #[z,.bool false]) w:=⟨((prog.info? 47).bind (·.zero)).getD undef,fun v w=>by kernel_rfl⟩;obtain⟨z4,hz4⟩:∃z:Value,∀(v:Value) (w:World),(Instr.typeAssert (.iface 52 v) 20 31 true).run prog w= .ok (.tuple #[z,.bool false]) w:=⟨((prog.info? 31).bind (·.zero)).getD undef,fun v w=>by kernel_rfl⟩;obtain⟨z5,hz5⟩:∃z:Value,∀(v:Value) (w:World),(Instr.typeAssert (.iface 52 v) 20 30 true).run prog w= .ok (.tuple #[z,.bool false]) w:=⟨((prog.info? 30).bind (·.zero)).getD undef,fun v w=>by kernel_rfl⟩;obtain⟨z6,hz6⟩:∃z:Value,∀(v:Value) (w:World),(Instr.typeAssert (.iface 52 v) 20 24 true).run prog w= .ok (.tuple #[z,.bool false]) w:=⟨((prog.info? 24).bind (·.zero)).getD undef,fun v w=>by kernel_rfl⟩;have hy:∀(v:Value) (w:World),(Instr.typeAssert (.iface 52 v) 20 52 true).run prog w= .ok (.tuple #[v,.bool true]) w:=fun v w=>by kernel_rfl
 obtain⟨i0,hi,hz0',hz1',hz2'⟩:=info_parts (show (prog.info? 5).map (fun i=>(i.zero,i.size,i.bytes))=some (some (.int .u8 0),1,1) by kernel_rfl);have J:=H4 hi hz0' hz1' hz2';clear hi hz0' hz1' hz2';have iC:(prog.info? 27).map (·.size)=some Z.size:=by rw[zs];kernel_rfl
 have NN:Blk (w.alloc (.cells Z32 27)) w.heap.size 27 Z32:=Blk.new _ _ _;have zC:(Z32:Array Value).size=Z.size:=by rw[zs];rfl
 have B2:Below w.heap.size w (World.setRow (w.alloc (.cells Z32 27)) w.heap.size Z):=Qb (ba (Below.refl _ _) _) (Qde _) Z;have A:=H5 NN zC iC zo B2;clear NN zC iC zo B2 zs;obtain⟨va,vc,rfl⟩:=Qh ho;have O:=H2 ho hb;clear ho hb;go_enter func57,ntmps57;go_upto_region 2 with (with_reducible refine Ql A.out.1 _ _ _ _ rfl rfl rfl rfl A.out.2.2.1 A.out.2.1 A.out.2.2.2.1 ?_);have B:=Lib.hid A.out.2.2.2.2;clear A;generalize World.setRow _ _ _=w2 at *;have bb:w0.heap.size≤w2.heap.size:=Qdx O.out.2 B.out.size;have X0:Blk (w2.alloc (.cells #[.int .u32 0,.slice none 0 0,.slice none 0 0,.int .u32 0] 52)) w2.heap.size 52 #[.int .u32 0,.slice none 0 0,.slice none 0 0,.int .u32 0]:=Blk.new _ _ _;have B3:Below w0.heap.size w (World.setRow (w2.alloc (.cells #[.int .u32 0,.slice none 0 0,.slice none 0 0,.int .u32 0] 52)) w2.heap.size D):=Qb (Below.alloc (B.out.mono O.out.2) bb _) bb D;have o3:(World.setRow (w2.alloc (.cells #[.int .u32 0,.slice none 0 0,.slice none 0 0,.int .u32 0] 52)) w2.heap.size D).ownsRow w0.heap.size 5 1 (.slice va m vc) m (xs.map fun c=>Value.int .u8 (c.toNat:Int)):=Xa O.out.1 (B.out.trans (Qb (ba (Below.refl _ _) _) (Qde _) D |>.mono B.out.size));have XX:=H3 X0 B3 o3;clear X0 B3 o3;go_upto_region 41 with (with_reducible refine Ql XX.out.1 _ _ _ _ rfl rfl rfl rfl EH.out.2.2.2.1 EH.out.2.2.2.2.1 EH.out.2.2.2.2.2 ?_);have Q:=H2 (XX.out.1.row D) XX.out.2;clear XX;generalize World.setRow _ _ _=w3 at *;generalize w2.heap.size=g at *;go_wp2_with (with_reducible refine Q0 Q.out.1 _ _ rfl rfl rfl _ underlying52 EH.out.2.2.2.1 ?_);refine (EH.out.1 _ (EH.out.2.2.1.trans Q.out.2.1)).mono ?_;rintro e w6 ⟨u6,rfl,hb6,hu6,_⟩;obtain⟨a6,c6,rfl,t1,t2,t3,t4⟩:=hu6;rw[EH.out.2.1] at t2 t4 ⊢;have z6:w0.heap.size≤w6.heap.size:=Qdx (Qdx O.out.2 Q.out.2.1.size) hb6.size;have Q6:=H3 (Xa Q.out.2.2 hb6) (Q.out.2.1.trans (hb6.mono (Qdx O.out.2 Q.out.2.1.size))) t1;clear hb6 t1 t2 t3;go_wp2_with (at_builtin;refine XW Q6.out.1 rfl _ _ 31 rfl underlying31 i0 J.out.1 J.out.2.1 J.out.2.2.1 J.out.2.2.2 rfl a6 S c6 P rfl Q6.out.2.2 EH.out.2.1 t4 (by omega) z6 ?_);intro v4 w4 o4 g4 _;have B4:=Qn Q6.out.2.1 g4 z6 (by intro k hk;exact (Q6.out.1.lt k hk).1);obtain⟨a4,c4,rfl⟩:=Qh o4;have R4:=H2 o4 B4;clear o4 B4 g4;go_wp2;exact Qdg (v:=.slice a4 (m+S) c4) (by simp[results,results57,go_sem]) rfl ⟨_,rfl,by have h:=R4.out.1;first|exact h|(rw[QdR] at h;exact h)|simpa using h,R4.out.2⟩
abbrev Sl:=Option Addr×Nat×Nat
abbrev slv(s:Sl):Value:=.slice s.1 s.2.1 s.2.2
def hd0:Hd:=(0,List.replicate 32 0,List.replicate 32 0,0,0,0)
structure Mf where
 k:Nat
 p:Nat
 n:Nat
 h:Nat
 s4:Sl
 s5:Sl
 st:List UInt8
 s7:Sl
 hd:Hd
 tot:Nat
 s8:Sl
 s9:Sl
 x0:Nat
 s1:Sl
 s2:Sl
 x3:Nat
def Mf.txC(m:Mf):List Value:=[.int .u32 (m.x0:Nat),slv m.s1,slv m.s2,.int .u32 (m.x3:Nat)]
def Mf.cells(m:Mf):List Value:=
 .int .i64 (m.k:Nat)::.int .u32 (m.p:Nat)::.int .u64 (m.n:Nat)::.int .u32 (m.h:Nat)::slv m.s4::slv m.s5::(Qk m.st++(slv m.s7::(hdC m.hd++(.int .u32 (m.tot:Nat)::slv m.s8::slv m.s9::m.txC))))
def Mf.ok(m:Mf):Prop:=m.st.length=32∧Zn m.hd
def Mf.zero(k:Nat):Mf:=⟨k,0,0,0,(none,0,0),(none,0,0),List.replicate 32 0,(none,0,0),hd0,0,(none,0,0),(none,0,0),0,(none,0,0),(none,0,0),0⟩
theorem Mf.zero_ok(k:Nat):(Mf.zero k).ok:=⟨rfl,rfl,rfl⟩
theorem Mf.length(m:Mf)(h:m.ok):m.cells.length=114:=by
 have e:=Qt m.hd h.2.1 h.2.2;have e2:(Qk m.st).length=32:=by rw[Qf,h.1]
 unfold Mf.cells Mf.txC;simp only[QdL,Qdj,e,e2,Qe7]
theorem Mf.one(m:Mf):m.cells.toArray.all (·.oneCell')=true:=by
 rw[QdX];intro u hu;have hu:u∈m.cells:=by simpa using hu
 unfold Mf.cells Mf.txC at hu;simp only[QdW,Qfi,Qf3,or_false] at hu;rcases hu with rfl|rfl|rfl|rfl|rfl|rfl|h|rfl|h|rfl|rfl|rfl|rfl|rfl|rfl|rfl
 all_goals first|rfl|exact Wv _ u h|exact Ws _ u h
theorem Mf.info(m:Mf)(h:m.ok):(prog.info? 54).map (·.size)=some m.cells.toArray.size:=by rw[Qdv,m.length h];kernel_rfl
theorem Mf.zsize(m:Mf)(h:m.ok):zeroCells54.size=m.cells.toArray.size:=(show zeroCells54.size=114 by kernel_rfl).trans (by rw[Qdv,m.length h])
theorem Mf.at6(m:Mf)(j:Nat):m.cells[6+j]? =(Qk m.st++(slv m.s7::(hdC m.hd++(.int .u32 (m.tot:Nat)::slv m.s8::slv m.s9::m.txC))))[j]? :=by
 unfold Mf.cells;rw[QfR];rfl
theorem Mf.at38(m:Mf)(h:m.ok)(j:Nat):m.cells[38+j]? =(slv m.s7::(hdC m.hd++(.int .u32 (m.tot:Nat)::slv m.s8::slv m.s9::m.txC)))[j]? :=by
 have e2:(Qk m.st).length=32:=by rw[Qf,h.1]
 rw[show 38+j=6+(32+j) by omega,m.at6,QdB (by omega),e2,Qfr]
theorem Mf.at107(m:Mf)(h:m.ok)(j:Nat):m.cells[107+j]? =(.int .u32 (m.tot:Nat)::slv m.s8::slv m.s9::m.txC:List Value)[j]? :=by
 have e:=Qt m.hd h.2.1 h.2.2;rw[show 107+j=38+(68+j+1) by omega,m.at38 h,Qd2,QdB (by omega),e,Qfr]
theorem Mf.cell(m:Mf)(h:m.ok){w:World}{g:Nat}{t:TypeId}(hb:Blk w g t m.cells.toArray):
  w.cell? ⟨g,0,none⟩=some (.int .i64 (m.k:Nat))∧w.cell? ⟨g,1,none⟩=some (.int .u32 (m.p:Nat))∧w.cell? ⟨g,2,none⟩=some (.int .u64 (m.n:Nat))∧w.cell? ⟨g,3,none⟩=some (.int .u32 (m.h:Nat))∧
  w.cell? ⟨g,4,none⟩=some (slv m.s4)∧w.cell? ⟨g,5,none⟩=some (slv m.s5)∧w.cell? ⟨g,38,none⟩=some (slv m.s7)∧w.cell? ⟨g,107,none⟩=some (.int .u32 (m.tot:Nat))∧w.cell? ⟨g,108,none⟩=some (slv m.s8)∧w.cell? ⟨g,109,none⟩=some (slv m.s9)∧
  w.cell? ⟨g,110,none⟩=some (.int .u32 (m.x0:Nat))∧w.cell? ⟨g,111,none⟩=some (slv m.s1)∧w.cell? ⟨g,112,none⟩=some (slv m.s2)∧w.cell? ⟨g,113,none⟩=some (.int .u32 (m.x3:Nat)):=by
 have e:∀i,w.cell? ⟨g,i,none⟩=m.cells[i]? :=fun i=>(hb.cell i).trans (Qdp ..);refine⟨e 0,e 1,e 2,e 3,e 4,e 5,(e 38).trans (m.at38 h 0),(e 107).trans (m.at107 h 0),(e 108).trans (m.at107 h 1),(e 109).trans (m.at107 h 2),(e 110).trans (m.at107 h 3),(e 111).trans (m.at107 h 4),(e 112).trans (m.at107 h 5),(e 113).trans (m.at107 h 6)⟩
theorem Mf.stop(m:Mf)(h:m.ok){w:World}{g:Nat}{t:TypeId}(hb:Blk w g t m.cells.toArray):w.rangeAt g 6 (Qk m.st):=fun j v hv=>by
 have hj:=(Qdt.1 hv).1;rw[hb.cell,Qdp,m.at6,Qd3 hj];exact hv
theorem Mf.head(m:Mf)(h:m.ok){w:World}{g:Nat}{t:TypeId}(hb:Blk w g t m.cells.toArray):w.rangeAt g 39 (hdC m.hd):=fun j v hv=>by
 have hj:=(Qdt.1 hv).1;rw[hb.cell,Qdp,show 39+j=38+(j+1) by omega,m.at38 h,Qd2,Qd3 hj];exact hv
def oth(m:Mf):Mf:=
 if m.k=0 then {m with p:=0,n:=0,h:=0} else if m.k=2∨m.k=3 then {m with n:=0} else if m.k=4 then {m with p:=0,s5:=(none,0,0),st:=List.replicate 32 0}
 else if m.k=5 then {m with s4:=(none,0,0)} else if m.k=6∨m.k=7∨m.k=8 then {m with s7:=(none,0,0)} else if m.k=9 then {m with hd:=hd0,tot:=0,s8:=(none,0,0),s9:=(none,0,0)}
 else if m.k=10 then {m with x0:=0,s1:=(none,0,0),s2:=(none,0,0),x3:=0} else m
theorem ZI(m:Mf)(h:m.ok):(oth m).ok:=by
 unfold oth
 repeat' split
 all_goals first|exact h|exact⟨rfl,h.2⟩|exact⟨h.1,rfl,rfl⟩
def Zr(m:Mf):Prop:=m.p=0∧m.n=0∧m.h=0∧m.s4.2.1=0∧m.s5.2.1=0∧m.st=List.replicate 32 0∧m.s7.2.1=0∧m.hd=hd0∧m.tot=0∧m.s8.2.1=0∧m.s9.2.1=0∧m.x0=0∧m.s1.2.1=0∧m.s2.2.1=0∧m.x3=0
def bodyV(w:World)(m:Mf):Bd→Prop
 | .ver x=>m.p=x.1∧m.n=x.2.1∧m.h=x.2.2
 | .nil=>True
 | .non x=>m.n=x
 | .ask x=>m.p=x.1∧SlV Qk x.2.1 (slv m.s5) w∧m.st=x.2.2
 | .hds x=>SlV hdC (x.map (·.1)) (slv m.s4) w
 | .its x=>SlV Xx x (slv m.s7) w
 | .mkl x=>m.hd=x.1∧m.tot=x.2.1∧SlV Qk x.2.2.1 (slv m.s8) w∧CloV x.2.2.2 (slv m.s9) w
 | .txm x=>TxV x m.txC w
def MsgV(k:Nat)(b:Bd)(m:Mf)(w:World):Prop:=m.k=k∧m.ok∧bodyV w m b∧Zr (oth m)
theorem bodyV.calls{w w':World}{m:Mf}{b:Bd}(h:bodyV w m b)(hb:Below w.heap.size w w'):bodyV w' m b:=by
 cases b with
 | ask x=>exact⟨h.1,h.2.1.calls hb,h.2.2⟩
 | hds x=>exact SlV.calls h hb
 | its x=>exact SlV.calls h hb
 | mkl x=>exact⟨h.1,h.2.1,h.2.2.1.calls hb,h.2.2.2.keep hb⟩
 | txm x=>exact TxV.calls h hb
 | _=>exact h
theorem MsgV.calls{k:Nat}{w w':World}{m:Mf}{b:Bd}(h:MsgV k b m w)(hb:Below w.heap.size w w'):MsgV k b m w':=⟨h.1,h.2.1,h.2.2.1.calls hb,h.2.2.2⟩
theorem Bs(t1:TypeId)(v1:Value)(w:World):(Instr.buildSlice 94 1 #[(0,.iface t1 v1)]).run prog w= .ok (.slice (some ⟨w.heap.size,0,none⟩) 1 1) (w.alloc (.cells #[.iface t1 v1] 20)):=by
 go_simp
theorem bsI3(t1 t2 t3:TypeId)(v1 v2 v3:Value)(w:World):(Instr.buildSlice 94 3 #[(0,.iface t1 v1),(1,.iface t2 v2),(2,.iface t3 v3)]).run prog w= .ok (.slice (some ⟨w.heap.size,0,none⟩) 3 3) (w.alloc (.cells #[.iface t1 v1,.iface t2 v2,.iface t3 v3] 20)):=by
 go_simp
theorem bsI4(t1 t2 t3 t4:TypeId)(v1 v2 v3 v4:Value)(w:World):(Instr.buildSlice 94 4 #[(0,.iface t1 v1),(1,.iface t2 v2),(2,.iface t3 v3),(3,.iface t4 v4)]).run prog w= .ok (.slice (some ⟨w.heap.size,0,none⟩) 4 4) (w.alloc (.cells #[.iface t1 v1,.iface t2 v2,.iface t3 v3,.iface t4 v4] 20)):=by
 go_simp
def XP(p:Value):List Value:=[p]
noncomputable def QF(m:Mf):List Value:=
 if m.k=0 then [.iface 22 (.int .u32 (m.p:Nat)),.iface 23 (.int .u64 (m.n:Nat)),.iface 22 (.int .u32 (m.h:Nat))] else if m.k=2∨m.k=3 then [.iface 23 (.int .u64 (m.n:Nat))] else if m.k=4 then [.iface 22 (.int .u32 (m.p:Nat)),.iface 155 (.agg #[slv m.s5,.int .u64 101]),.iface 27 (.agg (Qk m.st).toArray)] else if m.k=5 then [.iface 24 (slv m.s4)]
 else if m.k=6∨m.k=7∨m.k=8 then [.iface 47 (slv m.s7)] else if m.k=9 then [.iface 30 (.agg (hdC m.hd).toArray),.iface 22 (.int .u32 (m.tot:Nat)),.iface 155 (.agg #[slv m.s8,.int .u64 4096]),.iface 31 (slv m.s9)] else if m.k=10 then [.iface 52 (.agg m.txC.toArray)] else []
theorem Z8{w:World}{g n:Nat}{ps:List Value}(hn:ps.length=n)(h0:n≤100)(hb:Blk w g 20 ps.toArray):SlV XP ps (.slice (some ⟨g,0,none⟩) n n) w:=by
 subst hn;refine⟨some ⟨g,0,none⟩,ps.length,rfl,.inr ⟨g,0,rfl,hb.lt,fun j v hv=>?_⟩,Qde _,by unfold maxLen;omega,fun h=>by cases h⟩;rw[hb.cell,Qd5,Qdp];have e:∀l:List Value,l.flatMap XP=l:=fun l=>by
  induction l with
  | nil=>rfl
  | cons x l ih=>rw[QeK,ih];rfl
 rw[e] at hv;exact hv
theorem Qaa(m:Mf)(hm:m.ok)(hk:m.k=0)(w:World):
  Calls prog 26 #[.agg m.cells.toArray] w fun e w'=>∃v,e= .returned v∧Below w.heap.size w w'∧SlV XP (QF m) v w':=by
 have hp:QF m=[.iface 22 (.int .u32 (m.p:Nat)),.iface 23 (.int .u64 (m.n:Nat)),.iface 22 (.int .u32 (m.h:Nat))]:=by
  unfold QF;rw[hk];rfl
 rw[hp];clear hp;have X0:Blk (w.alloc (.cells m.cells.toArray 54)) w.heap.size 54 m.cells.toArray:=Blk.new _ _ _;have B0:Below w.heap.size w (w.alloc (.cells m.cells.toArray 54)):=ba (Below.refl _ _) _;obtain⟨c0,c1,c2,c3,c4,c5,c38,c107,c108,c109,c110,c111,c112,c113⟩:=m.cell hm X0;rw[hk] at c0;have iH:(prog.info? 27).map (·.size)=some (Qk m.st).length:=(show (prog.info? 27).map (·.size)=some 32 by kernel_rfl).trans (congrArg some (by rw[Qf,hm.1]));have iD:(prog.info? 30).map (·.size)=some (hdC m.hd).length:=(show (prog.info? 30).map (·.size)=some 68 by kernel_rfl).trans (congrArg some (Qt m.hd hm.2.1 hm.2.2).symm);have X:=H6 B0 (m.stop hm X0) (m.head hm X0) iH iD hk;clear X0 B0 iH iD hk;have hbs:=bsI3;obtain⟨C,hC⟩:=nE (m.cells.toArray);rw[←hC] at c0 c1 c2 c3 c4 c5 c38 c107 c108 c109 c110 c111 c112 c113 X ⊢;clear hC;go_enter func26,ntmps26;go_wp2_with (fail);refine Qdg (v:=.slice (some ⟨w.heap.size+1,0,none⟩) 3 3) (by simp[results,results26,go_sem]) rfl ⟨_,rfl,ba X.out.1 _,?_⟩;exact Z8 (w:=World.alloc _ (.cells #[.iface 22 (.int .u32 (m.p:Nat)),.iface 23 (.int .u64 (m.n:Nat)),.iface 22 (.int .u32 (m.h:Nat))] 20)) (ps:=[.iface 22 (.int .u32 (m.p:Nat)),.iface 23 (.int .u64 (m.n:Nat)),.iface 22 (.int .u32 (m.h:Nat))]) rfl (by decide) (Blk.newAt _ _ _ (by simp only[Qdu]))
theorem OZ(m:Mf)(hm:m.ok)(hk:m.k=1)(w:World):
  Calls prog 26 #[.agg m.cells.toArray] w fun e w'=>∃v,e= .returned v∧Below w.heap.size w w'∧SlV XP (QF m) v w':=by
 have hp:QF m=[]:=by
  unfold QF;rw[hk];rfl
 rw[hp];clear hp;have X0:Blk (w.alloc (.cells m.cells.toArray 54)) w.heap.size 54 m.cells.toArray:=Blk.new _ _ _;have B0:Below w.heap.size w (w.alloc (.cells m.cells.toArray 54)):=ba (Below.refl _ _) _;obtain⟨c0,c1,c2,c3,c4,c5,c38,c107,c108,c109,c110,c111,c112,c113⟩:=m.cell hm X0;rw[hk] at c0;have iH:(prog.info? 27).map (·.size)=some (Qk m.st).length:=(show (prog.info? 27).map (·.size)=some 32 by kernel_rfl).trans (congrArg some (by rw[Qf,hm.1]));have iD:(prog.info? 30).map (·.size)=some (hdC m.hd).length:=(show (prog.info? 30).map (·.size)=some 68 by kernel_rfl).trans (congrArg some (Qt m.hd hm.2.1 hm.2.2).symm);have X:=H6 B0 (m.stop hm X0) (m.head hm X0) iH iD hk;clear X0 B0 iH iD hk;obtain⟨C,hC⟩:=nE (m.cells.toArray);rw[←hC] at c0 c1 c2 c3 c4 c5 c38 c107 c108 c109 c110 c111 c112 c113 X ⊢;clear hC;go_enter func26,ntmps26;go_wp2_with (fail);refine Qdg (v:=.slice none 0 0) (by simp[results,results26,go_sem]) rfl ⟨_,rfl,X.out.1,?_⟩;exact SlV.nil _ _
theorem OY(m:Mf)(hm:m.ok)(hk:m.k=2)(w:World):
  Calls prog 26 #[.agg m.cells.toArray] w fun e w'=>∃v,e= .returned v∧Below w.heap.size w w'∧SlV XP (QF m) v w':=by
 have hp:QF m=[.iface 23 (.int .u64 (m.n:Nat))]:=by
  unfold QF;rw[hk];rfl
 rw[hp];clear hp;have X0:Blk (w.alloc (.cells m.cells.toArray 54)) w.heap.size 54 m.cells.toArray:=Blk.new _ _ _;have B0:Below w.heap.size w (w.alloc (.cells m.cells.toArray 54)):=ba (Below.refl _ _) _;obtain⟨c0,c1,c2,c3,c4,c5,c38,c107,c108,c109,c110,c111,c112,c113⟩:=m.cell hm X0;rw[hk] at c0;have iH:(prog.info? 27).map (·.size)=some (Qk m.st).length:=(show (prog.info? 27).map (·.size)=some 32 by kernel_rfl).trans (congrArg some (by rw[Qf,hm.1]));have iD:(prog.info? 30).map (·.size)=some (hdC m.hd).length:=(show (prog.info? 30).map (·.size)=some 68 by kernel_rfl).trans (congrArg some (Qt m.hd hm.2.1 hm.2.2).symm);have X:=H6 B0 (m.stop hm X0) (m.head hm X0) iH iD hk;clear X0 B0 iH iD hk;have hbs:=Bs;obtain⟨C,hC⟩:=nE (m.cells.toArray);rw[←hC] at c0 c1 c2 c3 c4 c5 c38 c107 c108 c109 c110 c111 c112 c113 X ⊢;clear hC;go_enter func26,ntmps26;go_wp2_with (fail);refine Qdg (v:=.slice (some ⟨w.heap.size+1,0,none⟩) 1 1) (by simp[results,results26,go_sem]) rfl ⟨_,rfl,ba X.out.1 _,?_⟩;exact Z8 (w:=World.alloc _ (.cells #[.iface 23 (.int .u64 (m.n:Nat))] 20)) (ps:=[.iface 23 (.int .u64 (m.n:Nat))]) rfl (by decide) (Blk.newAt _ _ _ (by simp only[Qdu]))
theorem OX(m:Mf)(hm:m.ok)(hk:m.k=3)(w:World):
  Calls prog 26 #[.agg m.cells.toArray] w fun e w'=>∃v,e= .returned v∧Below w.heap.size w w'∧SlV XP (QF m) v w':=by
 have hp:QF m=[.iface 23 (.int .u64 (m.n:Nat))]:=by
  unfold QF;rw[hk];rfl
 rw[hp];clear hp;have X0:Blk (w.alloc (.cells m.cells.toArray 54)) w.heap.size 54 m.cells.toArray:=Blk.new _ _ _;have B0:Below w.heap.size w (w.alloc (.cells m.cells.toArray 54)):=ba (Below.refl _ _) _;obtain⟨c0,c1,c2,c3,c4,c5,c38,c107,c108,c109,c110,c111,c112,c113⟩:=m.cell hm X0;rw[hk] at c0;have iH:(prog.info? 27).map (·.size)=some (Qk m.st).length:=(show (prog.info? 27).map (·.size)=some 32 by kernel_rfl).trans (congrArg some (by rw[Qf,hm.1]));have iD:(prog.info? 30).map (·.size)=some (hdC m.hd).length:=(show (prog.info? 30).map (·.size)=some 68 by kernel_rfl).trans (congrArg some (Qt m.hd hm.2.1 hm.2.2).symm);have X:=H6 B0 (m.stop hm X0) (m.head hm X0) iH iD hk;clear X0 B0 iH iD hk;have hbs:=Bs;obtain⟨C,hC⟩:=nE (m.cells.toArray);rw[←hC] at c0 c1 c2 c3 c4 c5 c38 c107 c108 c109 c110 c111 c112 c113 X ⊢;clear hC;go_enter func26,ntmps26;go_wp2_with (fail);refine Qdg (v:=.slice (some ⟨w.heap.size+1,0,none⟩) 1 1) (by simp[results,results26,go_sem]) rfl ⟨_,rfl,ba X.out.1 _,?_⟩;exact Z8 (w:=World.alloc _ (.cells #[.iface 23 (.int .u64 (m.n:Nat))] 20)) (ps:=[.iface 23 (.int .u64 (m.n:Nat))]) rfl (by decide) (Blk.newAt _ _ _ (by simp only[Qdu]))
theorem OW(m:Mf)(hm:m.ok)(hk:m.k=4)(w:World):
  Calls prog 26 #[.agg m.cells.toArray] w fun e w'=>∃v,e= .returned v∧Below w.heap.size w w'∧SlV XP (QF m) v w':=by
 have hp:QF m=[.iface 22 (.int .u32 (m.p:Nat)),.iface 155 (.agg #[slv m.s5,.int .u64 101]),.iface 27 (.agg (Qk m.st).toArray)]:=by
  unfold QF;rw[hk];rfl
 rw[hp];clear hp;have X0:Blk (w.alloc (.cells m.cells.toArray 54)) w.heap.size 54 m.cells.toArray:=Blk.new _ _ _;have B0:Below w.heap.size w (w.alloc (.cells m.cells.toArray 54)):=ba (Below.refl _ _) _;obtain⟨c0,c1,c2,c3,c4,c5,c38,c107,c108,c109,c110,c111,c112,c113⟩:=m.cell hm X0;rw[hk] at c0;have iH:(prog.info? 27).map (·.size)=some (Qk m.st).length:=(show (prog.info? 27).map (·.size)=some 32 by kernel_rfl).trans (congrArg some (by rw[Qf,hm.1]));have iD:(prog.info? 30).map (·.size)=some (hdC m.hd).length:=(show (prog.info? 30).map (·.size)=some 68 by kernel_rfl).trans (congrArg some (Qt m.hd hm.2.1 hm.2.2).symm);have X:=H6 B0 (m.stop hm X0) (m.head hm X0) iH iD hk;clear X0 B0 iH iD hk;have hbs:=bsI3;obtain⟨C,hC⟩:=nE (m.cells.toArray);rw[←hC] at c0 c1 c2 c3 c4 c5 c38 c107 c108 c109 c110 c111 c112 c113 X ⊢;clear hC;go_enter func26,ntmps26;go_wp2_with (first|(with_reducible refine wpList_load_mid rfl _ _ rfl w.heap.size 6 rfl (Qk m.st) _ X.out.2.1 underlying27 rfl X.out.2.2.2.1 ?_)|fail);refine Qdg (v:=.slice (some ⟨w.heap.size+1,0,none⟩) 3 3) (by simp[results,results26,go_sem]) rfl ⟨_,rfl,ba X.out.1 _,?_⟩;exact Z8 (w:=World.alloc _ (.cells #[.iface 22 (.int .u32 (m.p:Nat)),.iface 155 (.agg #[slv m.s5,.int .u64 101]),.iface 27 (.agg (Qk m.st).toArray)] 20)) (ps:=[.iface 22 (.int .u32 (m.p:Nat)),.iface 155 (.agg #[slv m.s5,.int .u64 101]),.iface 27 (.agg (Qk m.st).toArray)]) rfl (by decide) (Blk.newAt _ _ _ (by simp only[Qdu]))
theorem OV(m:Mf)(hm:m.ok)(hk:m.k=5)(w:World):
  Calls prog 26 #[.agg m.cells.toArray] w fun e w'=>∃v,e= .returned v∧Below w.heap.size w w'∧SlV XP (QF m) v w':=by
 have hp:QF m=[.iface 24 (slv m.s4)]:=by
  unfold QF;rw[hk];rfl
 rw[hp];clear hp;have X0:Blk (w.alloc (.cells m.cells.toArray 54)) w.heap.size 54 m.cells.toArray:=Blk.new _ _ _;have B0:Below w.heap.size w (w.alloc (.cells m.cells.toArray 54)):=ba (Below.refl _ _) _;obtain⟨c0,c1,c2,c3,c4,c5,c38,c107,c108,c109,c110,c111,c112,c113⟩:=m.cell hm X0;rw[hk] at c0;have iH:(prog.info? 27).map (·.size)=some (Qk m.st).length:=(show (prog.info? 27).map (·.size)=some 32 by kernel_rfl).trans (congrArg some (by rw[Qf,hm.1]));have iD:(prog.info? 30).map (·.size)=some (hdC m.hd).length:=(show (prog.info? 30).map (·.size)=some 68 by kernel_rfl).trans (congrArg some (Qt m.hd hm.2.1 hm.2.2).symm);have X:=H6 B0 (m.stop hm X0) (m.head hm X0) iH iD hk;clear X0 B0 iH iD hk;have hbs:=Bs;obtain⟨C,hC⟩:=nE (m.cells.toArray);rw[←hC] at c0 c1 c2 c3 c4 c5 c38 c107 c108 c109 c110 c111 c112 c113 X ⊢;clear hC;go_enter func26,ntmps26;go_wp2_with (fail);refine Qdg (v:=.slice (some ⟨w.heap.size+1,0,none⟩) 1 1) (by simp[results,results26,go_sem]) rfl ⟨_,rfl,ba X.out.1 _,?_⟩;exact Z8 (w:=World.alloc _ (.cells #[.iface 24 (slv m.s4)] 20)) (ps:=[.iface 24 (slv m.s4)]) rfl (by decide) (Blk.newAt _ _ _ (by simp only[Qdu]))
theorem OU(m:Mf)(hm:m.ok)(hk:m.k=6)(w:World):
  Calls prog 26 #[.agg m.cells.toArray] w fun e w'=>∃v,e= .returned v∧Below w.heap.size w w'∧SlV XP (QF m) v w':=by
 have hp:QF m=[.iface 47 (slv m.s7)]:=by
  unfold QF;rw[hk];rfl
 rw[hp];clear hp;have X0:Blk (w.alloc (.cells m.cells.toArray 54)) w.heap.size 54 m.cells.toArray:=Blk.new _ _ _;have B0:Below w.heap.size w (w.alloc (.cells m.cells.toArray 54)):=ba (Below.refl _ _) _;obtain⟨c0,c1,c2,c3,c4,c5,c38,c107,c108,c109,c110,c111,c112,c113⟩:=m.cell hm X0;rw[hk] at c0;have iH:(prog.info? 27).map (·.size)=some (Qk m.st).length:=(show (prog.info? 27).map (·.size)=some 32 by kernel_rfl).trans (congrArg some (by rw[Qf,hm.1]));have iD:(prog.info? 30).map (·.size)=some (hdC m.hd).length:=(show (prog.info? 30).map (·.size)=some 68 by kernel_rfl).trans (congrArg some (Qt m.hd hm.2.1 hm.2.2).symm);have X:=H6 B0 (m.stop hm X0) (m.head hm X0) iH iD hk;clear X0 B0 iH iD hk;have hbs:=Bs;obtain⟨C,hC⟩:=nE (m.cells.toArray);rw[←hC] at c0 c1 c2 c3 c4 c5 c38 c107 c108 c109 c110 c111 c112 c113 X ⊢;clear hC;go_enter func26,ntmps26;go_wp2_with (fail);refine Qdg (v:=.slice (some ⟨w.heap.size+1,0,none⟩) 1 1) (by simp[results,results26,go_sem]) rfl ⟨_,rfl,ba X.out.1 _,?_⟩;exact Z8 (w:=World.alloc _ (.cells #[.iface 47 (slv m.s7)] 20)) (ps:=[.iface 47 (slv m.s7)]) rfl (by decide) (Blk.newAt _ _ _ (by simp only[Qdu]))
theorem OT(m:Mf)(hm:m.ok)(hk:m.k=7)(w:World):
  Calls prog 26 #[.agg m.cells.toArray] w fun e w'=>∃v,e= .returned v∧Below w.heap.size w w'∧SlV XP (QF m) v w':=by
 have hp:QF m=[.iface 47 (slv m.s7)]:=by
  unfold QF;rw[hk];rfl
 rw[hp];clear hp;have X0:Blk (w.alloc (.cells m.cells.toArray 54)) w.heap.size 54 m.cells.toArray:=Blk.new _ _ _;have B0:Below w.heap.size w (w.alloc (.cells m.cells.toArray 54)):=ba (Below.refl _ _) _;obtain⟨c0,c1,c2,c3,c4,c5,c38,c107,c108,c109,c110,c111,c112,c113⟩:=m.cell hm X0;rw[hk] at c0;have iH:(prog.info? 27).map (·.size)=some (Qk m.st).length:=(show (prog.info? 27).map (·.size)=some 32 by kernel_rfl).trans (congrArg some (by rw[Qf,hm.1]));have iD:(prog.info? 30).map (·.size)=some (hdC m.hd).length:=(show (prog.info? 30).map (·.size)=some 68 by kernel_rfl).trans (congrArg some (Qt m.hd hm.2.1 hm.2.2).symm);have X:=H6 B0 (m.stop hm X0) (m.head hm X0) iH iD hk;clear X0 B0 iH iD hk;have hbs:=Bs;obtain⟨C,hC⟩:=nE (m.cells.toArray);rw[←hC] at c0 c1 c2 c3 c4 c5 c38 c107 c108 c109 c110 c111 c112 c113 X ⊢;clear hC;go_enter func26,ntmps26;go_wp2_with (fail);refine Qdg (v:=.slice (some ⟨w.heap.size+1,0,none⟩) 1 1) (by simp[results,results26,go_sem]) rfl ⟨_,rfl,ba X.out.1 _,?_⟩;exact Z8 (w:=World.alloc _ (.cells #[.iface 47 (slv m.s7)] 20)) (ps:=[.iface 47 (slv m.s7)]) rfl (by decide) (Blk.newAt _ _ _ (by simp only[Qdu]))
theorem OS(m:Mf)(hm:m.ok)(hk:m.k=8)(w:World):
  Calls prog 26 #[.agg m.cells.toArray] w fun e w'=>∃v,e= .returned v∧Below w.heap.size w w'∧SlV XP (QF m) v w':=by
 have hp:QF m=[.iface 47 (slv m.s7)]:=by
  unfold QF;rw[hk];rfl
 rw[hp];clear hp;have X0:Blk (w.alloc (.cells m.cells.toArray 54)) w.heap.size 54 m.cells.toArray:=Blk.new _ _ _;have B0:Below w.heap.size w (w.alloc (.cells m.cells.toArray 54)):=ba (Below.refl _ _) _;obtain⟨c0,c1,c2,c3,c4,c5,c38,c107,c108,c109,c110,c111,c112,c113⟩:=m.cell hm X0;rw[hk] at c0;have iH:(prog.info? 27).map (·.size)=some (Qk m.st).length:=(show (prog.info? 27).map (·.size)=some 32 by kernel_rfl).trans (congrArg some (by rw[Qf,hm.1]));have iD:(prog.info? 30).map (·.size)=some (hdC m.hd).length:=(show (prog.info? 30).map (·.size)=some 68 by kernel_rfl).trans (congrArg some (Qt m.hd hm.2.1 hm.2.2).symm);have X:=H6 B0 (m.stop hm X0) (m.head hm X0) iH iD hk;clear X0 B0 iH iD hk;have hbs:=Bs;obtain⟨C,hC⟩:=nE (m.cells.toArray);rw[←hC] at c0 c1 c2 c3 c4 c5 c38 c107 c108 c109 c110 c111 c112 c113 X ⊢;clear hC;go_enter func26,ntmps26;go_wp2_with (fail);refine Qdg (v:=.slice (some ⟨w.heap.size+1,0,none⟩) 1 1) (by simp[results,results26,go_sem]) rfl ⟨_,rfl,ba X.out.1 _,?_⟩;exact Z8 (w:=World.alloc _ (.cells #[.iface 47 (slv m.s7)] 20)) (ps:=[.iface 47 (slv m.s7)]) rfl (by decide) (Blk.newAt _ _ _ (by simp only[Qdu]))
theorem OQ(m:Mf)(hm:m.ok)(hk:m.k=9)(w:World):
  Calls prog 26 #[.agg m.cells.toArray] w fun e w'=>∃v,e= .returned v∧Below w.heap.size w w'∧SlV XP (QF m) v w':=by
 have hp:QF m=[.iface 30 (.agg (hdC m.hd).toArray),.iface 22 (.int .u32 (m.tot:Nat)),.iface 155 (.agg #[slv m.s8,.int .u64 4096]),.iface 31 (slv m.s9)]:=by
  unfold QF;rw[hk];rfl
 rw[hp];clear hp;have X0:Blk (w.alloc (.cells m.cells.toArray 54)) w.heap.size 54 m.cells.toArray:=Blk.new _ _ _;have B0:Below w.heap.size w (w.alloc (.cells m.cells.toArray 54)):=ba (Below.refl _ _) _;obtain⟨c0,c1,c2,c3,c4,c5,c38,c107,c108,c109,c110,c111,c112,c113⟩:=m.cell hm X0;rw[hk] at c0;have iH:(prog.info? 27).map (·.size)=some (Qk m.st).length:=(show (prog.info? 27).map (·.size)=some 32 by kernel_rfl).trans (congrArg some (by rw[Qf,hm.1]));have iD:(prog.info? 30).map (·.size)=some (hdC m.hd).length:=(show (prog.info? 30).map (·.size)=some 68 by kernel_rfl).trans (congrArg some (Qt m.hd hm.2.1 hm.2.2).symm);have X:=H6 B0 (m.stop hm X0) (m.head hm X0) iH iD hk;clear X0 B0 iH iD hk;have hbs:=bsI4;obtain⟨C,hC⟩:=nE (m.cells.toArray);rw[←hC] at c0 c1 c2 c3 c4 c5 c38 c107 c108 c109 c110 c111 c112 c113 X ⊢;clear hC;go_enter func26,ntmps26;go_wp2_with (first|(with_reducible refine wpList_load_mid rfl _ _ rfl w.heap.size 39 rfl (hdC m.hd) _ X.out.2.2.1 underlying30 rfl X.out.2.2.2.2.1 ?_)|fail);refine Qdg (v:=.slice (some ⟨w.heap.size+1,0,none⟩) 4 4) (by simp[results,results26,go_sem]) rfl ⟨_,rfl,ba X.out.1 _,?_⟩;exact Z8 (w:=World.alloc _ (.cells #[.iface 30 (.agg (hdC m.hd).toArray),.iface 22 (.int .u32 (m.tot:Nat)),.iface 155 (.agg #[slv m.s8,.int .u64 4096]),.iface 31 (slv m.s9)] 20)) (ps:=[.iface 30 (.agg (hdC m.hd).toArray),.iface 22 (.int .u32 (m.tot:Nat)),.iface 155 (.agg #[slv m.s8,.int .u64 4096]),.iface 31 (slv m.s9)]) rfl (by decide) (Blk.newAt _ _ _ (by simp only[Qdu]))
theorem L6(m:Mf)(hm:m.ok)(hk:m.k=10)(w:World):
  Calls prog 26 #[.agg m.cells.toArray] w fun e w'=>∃v,e= .returned v∧Below w.heap.size w w'∧SlV XP (QF m) v w':=by
 have hp:QF m=[.iface 52 (.agg m.txC.toArray)]:=by
  unfold QF;rw[hk];rfl
 rw[hp];clear hp;have X0:Blk (w.alloc (.cells m.cells.toArray 54)) w.heap.size 54 m.cells.toArray:=Blk.new _ _ _;have B0:Below w.heap.size w (w.alloc (.cells m.cells.toArray 54)):=ba (Below.refl _ _) _;obtain⟨c0,c1,c2,c3,c4,c5,c38,c107,c108,c109,c110,c111,c112,c113⟩:=m.cell hm X0;rw[hk] at c0;have iH:(prog.info? 27).map (·.size)=some (Qk m.st).length:=(show (prog.info? 27).map (·.size)=some 32 by kernel_rfl).trans (congrArg some (by rw[Qf,hm.1]));have iD:(prog.info? 30).map (·.size)=some (hdC m.hd).length:=(show (prog.info? 30).map (·.size)=some 68 by kernel_rfl).trans (congrArg some (Qt m.hd hm.2.1 hm.2.2).symm);have X:=H6 B0 (m.stop hm X0) (m.head hm X0) iH iD hk;clear X0 B0 iH iD hk;have hbs:=Bs;obtain⟨C,hC⟩:=nE (m.cells.toArray);rw[←hC] at c0 c1 c2 c3 c4 c5 c38 c107 c108 c109 c110 c111 c112 c113 X ⊢;clear hC;go_enter func26,ntmps26;go_wp2_with (fail);refine Qdg (v:=.slice (some ⟨w.heap.size+1,0,none⟩) 1 1) (by simp[results,results26,go_sem]) rfl ⟨_,rfl,ba X.out.1 _,?_⟩;exact Z8 (w:=World.alloc _ (.cells #[.iface 52 (.agg m.txC.toArray)] 20)) (ps:=[.iface 52 (.agg m.txC.toArray)]) rfl (by decide) (Blk.newAt _ _ _ (by simp only[Qdu]))
theorem Nv(m:Mf)(hm:m.ok)(hk:m.k<11)(w:World):
  Calls prog 26 #[.agg m.cells.toArray] w fun e w'=>∃v,e= .returned v∧Below w.heap.size w w'∧SlV XP (QF m) v w':=by
 rcases (show m.k=0∨m.k=1∨m.k=2∨m.k=3∨m.k=4∨m.k=5∨m.k=6∨m.k=7∨m.k=8∨m.k=9∨m.k=10 by omega) with h|h|h|h|h|h|h|h|h|h|h
 ·exact Qaa m hm h w
 ·exact OZ m hm h w
 ·exact OY m hm h w
 ·exact OX m hm h w
 ·exact OW m hm h w
 ·exact OV m hm h w
 ·exact OU m hm h w
 ·exact OT m hm h w
 ·exact OS m hm h w
 ·exact OQ m hm h w
 ·exact L6 m hm h w
end Go.Proofs.YthdaabapiicnhaaGreatDoor
