/- Steps of the proof. -/
import Derived.Test.YthdaabapiicnhaaGreatDoorTr26
set_option linter.all false
set_option maxRecDepth 100000
set_option maxHeartbeats 4000000
open Go.Proofs.Tryz
namespace Go.Proofs.YthdaabapiicnhaaGreatDoor
open Go.RowKit
def msgT:List Value:=(Mf.zero 0).cells.drop 38
theorem CZ(k p n h:Int)(a4 a5:Option Addr)(n4 k4 n5 k5:Nat)(c0 c1 c2 c3 c4 c5 c6 c7 c8 c9 c10 c11 c12 c13 c14 c15 c16 c17 c18 c19 c20 c21 c22 c23 c24 c25 c26 c27 c28 c29 c30 c31:Value)(w:World):(Instr.build 54 #[(0,.int .i64 k),(1,.int .u32 p),(2,.int .u64 n),(3,.int .u32 h),(4,.slice a4 n4 k4),(5,.slice a5 n5 k5),(6,.agg #[c0,c1,c2,c3,c4,c5,c6,c7,c8,c9,c10,c11,c12,c13,c14,c15,c16,c17,c18,c19,c20,c21,c22,c23,c24,c25,c26,c27,c28,c29,c30,c31])]).run prog w=
  .ok (.agg (.int .i64 k::.int .u32 p::.int .u64 n::.int .u32 h::.slice a4 n4 k4::.slice a5 n5 k5::([c0,c1,c2,c3,c4,c5,c6,c7,c8,c9,c10,c11,c12,c13,c14,c15,c16,c17,c18,c19,c20,c21,c22,c23,c24,c25,c26,c27,c28,c29,c30,c31]++msgT)).toArray) w:=run_build w 54 _ _ (by kernel_rfl)
theorem QaT(k p n q:Int)(a4 a5:Option Addr)(n4 k4 n5 k5:Nat)(C:List Value)(h:C.length=32)(w:World):(Instr.build 54 #[(0,.int .i64 k),(1,.int .u32 p),(2,.int .u64 n),(3,.int .u32 q),(4,.slice a4 n4 k4),(5,.slice a5 n5 k5),(6,.agg C.toArray)]).run prog w=
  .ok (.agg (.int .i64 k::.int .u32 p::.int .u64 n::.int .u32 q::.slice a4 n4 k4::.slice a5 n5 k5::(C++msgT)).toArray) w:=by
 obtain _|⟨c0,C⟩:=C;· cases h
 obtain _|⟨c1,C⟩:=C;· cases h
 obtain _|⟨c2,C⟩:=C;· cases h
 obtain _|⟨c3,C⟩:=C;· cases h
 obtain _|⟨c4,C⟩:=C;· cases h
 obtain _|⟨c5,C⟩:=C;· cases h
 obtain _|⟨c6,C⟩:=C;· cases h
 obtain _|⟨c7,C⟩:=C;· cases h
 obtain _|⟨c8,C⟩:=C;· cases h
 obtain _|⟨c9,C⟩:=C;· cases h
 obtain _|⟨c10,C⟩:=C;· cases h
 obtain _|⟨c11,C⟩:=C;· cases h
 obtain _|⟨c12,C⟩:=C;· cases h
 obtain _|⟨c13,C⟩:=C;· cases h
 obtain _|⟨c14,C⟩:=C;· cases h
 obtain _|⟨c15,C⟩:=C;· cases h
 obtain _|⟨c16,C⟩:=C;· cases h
 obtain _|⟨c17,C⟩:=C;· cases h
 obtain _|⟨c18,C⟩:=C;· cases h
 obtain _|⟨c19,C⟩:=C;· cases h
 obtain _|⟨c20,C⟩:=C;· cases h
 obtain _|⟨c21,C⟩:=C;· cases h
 obtain _|⟨c22,C⟩:=C;· cases h
 obtain _|⟨c23,C⟩:=C;· cases h
 obtain _|⟨c24,C⟩:=C;· cases h
 obtain _|⟨c25,C⟩:=C;· cases h
 obtain _|⟨c26,C⟩:=C;· cases h
 obtain _|⟨c27,C⟩:=C;· cases h
 obtain _|⟨c28,C⟩:=C;· cases h
 obtain _|⟨c29,C⟩:=C;· cases h
 obtain _|⟨c30,C⟩:=C;· cases h
 obtain _|⟨c31,C⟩:=C;· cases h
 obtain _|⟨c32,C⟩:=C
 ·exact CZ k p n q a4 a5 n4 k4 n5 k5 c0 c1 c2 c3 c4 c5 c6 c7 c8 c9 c10 c11 c12 c13 c14 c15 c16 c17 c18 c19 c20 c21 c22 c23 c24 c25 c26 c27 c28 c29 c30 c31 w
 ·exact absurd h (by simp)
theorem Dt(n:Int)(a2 a3:Option Addr)(n2 k2 n3 k3:Nat)(c0 c1 c2 c3 c4 c5 c6 c7 c8 c9 c10 c11 c12 c13 c14 c15 c16 c17 c18 c19 c20 c21 c22 c23 c24 c25 c26 c27 c28 c29 c30 c31 c32 c33 c34 c35 c36 c37 c38 c39 c40 c41 c42 c43 c44 c45 c46 c47 c48 c49 c50 c51 c52 c53 c54 c55 c56 c57 c58 c59 c60 c61 c62 c63 c64 c65 c66 c67:Value)(w:World):(Instr.build 48 #[(0,.agg #[c0,c1,c2,c3,c4,c5,c6,c7,c8,c9,c10,c11,c12,c13,c14,c15,c16,c17,c18,c19,c20,c21,c22,c23,c24,c25,c26,c27,c28,c29,c30,c31,c32,c33,c34,c35,c36,c37,c38,c39,c40,c41,c42,c43,c44,c45,c46,c47,c48,c49,c50,c51,c52,c53,c54,c55,c56,c57,c58,c59,c60,c61,c62,c63,c64,c65,c66,c67]),(1,.int .u32 n),(2,.slice a2 n2 k2),(3,.slice a3 n3 k3)]).run prog w=
  .ok (.agg ([c0,c1,c2,c3,c4,c5,c6,c7,c8,c9,c10,c11,c12,c13,c14,c15,c16,c17,c18,c19,c20,c21,c22,c23,c24,c25,c26,c27,c28,c29,c30,c31,c32,c33,c34,c35,c36,c37,c38,c39,c40,c41,c42,c43,c44,c45,c46,c47,c48,c49,c50,c51,c52,c53,c54,c55,c56,c57,c58,c59,c60,c61,c62,c63,c64,c65,c66,c67]++[Value.int .u32 n,.slice a2 n2 k2,.slice a3 n3 k3]).toArray) w:=run_build w 48 _ _ (by kernel_rfl)
theorem Qbw(n:Int)(a2 a3:Option Addr)(n2 k2 n3 k3:Nat)(C:List Value)(h:C.length=68)(w:World):(Instr.build 48 #[(0,.agg C.toArray),(1,.int .u32 n),(2,.slice a2 n2 k2),(3,.slice a3 n3 k3)]).run prog w= .ok (.agg (C++[Value.int .u32 n,.slice a2 n2 k2,.slice a3 n3 k3]).toArray) w:=by
 obtain _|⟨c0,C⟩:=C;· cases h
 obtain _|⟨c1,C⟩:=C;· cases h
 obtain _|⟨c2,C⟩:=C;· cases h
 obtain _|⟨c3,C⟩:=C;· cases h
 obtain _|⟨c4,C⟩:=C;· cases h
 obtain _|⟨c5,C⟩:=C;· cases h
 obtain _|⟨c6,C⟩:=C;· cases h
 obtain _|⟨c7,C⟩:=C;· cases h
 obtain _|⟨c8,C⟩:=C;· cases h
 obtain _|⟨c9,C⟩:=C;· cases h
 obtain _|⟨c10,C⟩:=C;· cases h
 obtain _|⟨c11,C⟩:=C;· cases h
 obtain _|⟨c12,C⟩:=C;· cases h
 obtain _|⟨c13,C⟩:=C;· cases h
 obtain _|⟨c14,C⟩:=C;· cases h
 obtain _|⟨c15,C⟩:=C;· cases h
 obtain _|⟨c16,C⟩:=C;· cases h
 obtain _|⟨c17,C⟩:=C;· cases h
 obtain _|⟨c18,C⟩:=C;· cases h
 obtain _|⟨c19,C⟩:=C;· cases h
 obtain _|⟨c20,C⟩:=C;· cases h
 obtain _|⟨c21,C⟩:=C;· cases h
 obtain _|⟨c22,C⟩:=C;· cases h
 obtain _|⟨c23,C⟩:=C;· cases h
 obtain _|⟨c24,C⟩:=C;· cases h
 obtain _|⟨c25,C⟩:=C;· cases h
 obtain _|⟨c26,C⟩:=C;· cases h
 obtain _|⟨c27,C⟩:=C;· cases h
 obtain _|⟨c28,C⟩:=C;· cases h
 obtain _|⟨c29,C⟩:=C;· cases h
 obtain _|⟨c30,C⟩:=C;· cases h
 obtain _|⟨c31,C⟩:=C;· cases h
 obtain _|⟨c32,C⟩:=C;· cases h
 obtain _|⟨c33,C⟩:=C;· cases h
 obtain _|⟨c34,C⟩:=C;· cases h
 obtain _|⟨c35,C⟩:=C;· cases h
 obtain _|⟨c36,C⟩:=C;· cases h
 obtain _|⟨c37,C⟩:=C;· cases h
 obtain _|⟨c38,C⟩:=C;· cases h
 obtain _|⟨c39,C⟩:=C;· cases h
 obtain _|⟨c40,C⟩:=C;· cases h
 obtain _|⟨c41,C⟩:=C;· cases h
 obtain _|⟨c42,C⟩:=C;· cases h
 obtain _|⟨c43,C⟩:=C;· cases h
 obtain _|⟨c44,C⟩:=C;· cases h
 obtain _|⟨c45,C⟩:=C;· cases h
 obtain _|⟨c46,C⟩:=C;· cases h
 obtain _|⟨c47,C⟩:=C;· cases h
 obtain _|⟨c48,C⟩:=C;· cases h
 obtain _|⟨c49,C⟩:=C;· cases h
 obtain _|⟨c50,C⟩:=C;· cases h
 obtain _|⟨c51,C⟩:=C;· cases h
 obtain _|⟨c52,C⟩:=C;· cases h
 obtain _|⟨c53,C⟩:=C;· cases h
 obtain _|⟨c54,C⟩:=C;· cases h
 obtain _|⟨c55,C⟩:=C;· cases h
 obtain _|⟨c56,C⟩:=C;· cases h
 obtain _|⟨c57,C⟩:=C;· cases h
 obtain _|⟨c58,C⟩:=C;· cases h
 obtain _|⟨c59,C⟩:=C;· cases h
 obtain _|⟨c60,C⟩:=C;· cases h
 obtain _|⟨c61,C⟩:=C;· cases h
 obtain _|⟨c62,C⟩:=C;· cases h
 obtain _|⟨c63,C⟩:=C;· cases h
 obtain _|⟨c64,C⟩:=C;· cases h
 obtain _|⟨c65,C⟩:=C;· cases h
 obtain _|⟨c66,C⟩:=C;· cases h
 obtain _|⟨c67,C⟩:=C;· cases h
 obtain _|⟨c68,C⟩:=C
 ·exact Dt n a2 a3 n2 k2 n3 k3 c0 c1 c2 c3 c4 c5 c6 c7 c8 c9 c10 c11 c12 c13 c14 c15 c16 c17 c18 c19 c20 c21 c22 c23 c24 c25 c26 c27 c28 c29 c30 c31 c32 c33 c34 c35 c36 c37 c38 c39 c40 c41 c42 c43 c44 c45 c46 c47 c48 c49 c50 c51 c52 c53 c54 c55 c56 c57 c58 c59 c60 c61 c62 c63 c64 c65 c66 c67 w
 ·exact absurd h (by simp)
theorem Qcc{w:World}{ops:Array Oper}{rest:List Oper}{o:Oper}{a:Act}{Q:Exit→Act→World→Prop}(m:Mf)(hm:m.st.length=32)(hgd:o.guard=none)(x0 x1 x2 x3 x4 x5 x6:Operand)(ho:o.op= .build 54 #[(0,x0),(1,x1),(2,x2),(3,x3),(4,x4),(5,x5),(6,x6)])
  (h0:a.eval x0= .int .i64 (m.k:Nat)) (h1:a.eval x1= .int .u32 (m.p:Nat)) (h2:a.eval x2= .int .u64 (m.n:Nat)) (h3:a.eval x3= .int .u32 (m.h:Nat)) (h4:a.eval x4=slv m.s4) (h5:a.eval x5=slv m.s5) (h6:a.eval x6= .agg (Qk m.st).toArray)
  (k:wpList prog ops Q rest (a.put o.dst (.agg ({Mf.zero m.k with p:=m.p,n:=m.n,h:=m.h,s4:=m.s4,s5:=m.s5,st:=m.st}:Mf).cells.toArray)) w):wpList prog ops Q (o::rest) a w:=by
 refine QfB hgd fun _ hK=>?_;have hr:=QaT (m.k:Nat) (m.p:Nat) (m.n:Nat) (m.h:Nat) m.s4.1 m.s5.1 m.s4.2.1 m.s4.2.2 m.s5.2.1 m.s5.2.2 (Qk m.st) (by rw[Qf,hm]) w;have hp:(#[(0,x0),(1,x1),(2,x2),(3,x3),(4,x4),(5,x5),(6,x6)].map fun (i,z)=>(i,a.eval z))=#[(0,Value.int .i64 (m.k:Nat)),(1,.int .u32 (m.p:Nat)),(2,.int .u64 (m.n:Nat)),(3,.int .u32 (m.h:Nat)),(4,slv m.s4),(5,slv m.s5),(6,.agg (Qk m.st).toArray)]:=by simp[h0,h1,h2,h3,h4,h5,h6]
 unfold Oper.wp execOp;simp only[ho,Qdl];rw[hp,hr];exact hK _ _ k
theorem Sa{w:World}{base k:Nat}{e t:TypeId}{v:Value}{n:Nat}{xs:List Value}(h:w.ownsRow base e k v n xs){B:Nat}{cs:Array Value}(hb:Blk w B t cs)(hne:e≠t):v.ownBlock≠some B:=by
 obtain⟨h0,⟨rfl,hz⟩|⟨g,cap,cur,rfl,hbase,hg,q⟩⟩:=h
 ·intro e;cases e
 ·intro e;injection e with e
  subst e;have:=Option.some.inj (hg.symm.trans hb);injection this with _ h2
  exact hne h2
theorem wl_bk{w:World}{ops:Array Oper}{rest:List Oper}{o:Oper}{a:Act}{Q:Exit→Act→World→Prop}(hd:Hd)(hh:Zn hd)(tot:Nat)(s8 s9:Sl)(hgd:o.guard=none)(x0 x1 x2 x3:Operand)(ho:o.op= .build 48 #[(0,x0),(1,x1),(2,x2),(3,x3)])
  (h0:a.eval x0= .agg (hdC hd).toArray) (h1:a.eval x1= .int .u32 (tot:Nat)) (h2:a.eval x2=slv s8) (h3:a.eval x3=slv s9)
  (k:wpList prog ops Q rest (a.put o.dst (.agg (bkC hd tot s8 s9).toArray)) w):wpList prog ops Q (o::rest) a w:=by
 refine QfB hgd fun _ hK=>?_;have hr:=Qbw (tot:Nat) s8.1 s9.1 s8.2.1 s8.2.2 s9.2.1 s9.2.2 (hdC hd) (Qt hd hh.1 hh.2) w;have hp:(#[(0,x0),(1,x1),(2,x2),(3,x3)].map fun (i,z)=>(i,a.eval z))=#[(0,Value.agg (hdC hd).toArray),(1,.int .u32 (tot:Nat)),(2,slv s8),(3,slv s9)]:=by simp[h0,h1,h2,h3]
 unfold Oper.wp execOp;simp only[ho,Qdl];rw[hp,hr];exact hK _ _ k
def MsB(M:Mf)(B base j:Nat)(L:List Itm)(s:Sl)(w:World):Prop:=Blk w B 54 ({M with s7:=s}:Mf).cells.toArray∧w.ownsRow base 106 33 (slv s) j (L.flatMap Xx)∧(slv s).ownBlock≠some B∧base≤B
theorem MsB.calls{M:Mf}{B base j:Nat}{L:List Itm}{s:Sl}{w w':World}(h:MsB M B base j L s w)(hb:Below w.heap.size w w'):MsB M B base j L s w':=⟨h.1.calls hb,Zi h.2.1 hb,h.2.2⟩
theorem Qcz{Q:Exit→Act→World→Prop}{o:Oper}{A:Act}{w:World}(y:Itm)(hl:y.2.length=32)(x z:Operand)(ho:o.op= .build 106 #[(0,x),(1,z)])(hx:A.eval x= .int .u32 (y.1:Nat))(hz:A.eval z= .agg (Qk y.2).toArray):
  o.wp prog A w (fun a' w''=>a'=A.put o.dst (.agg (Xx y).toArray)∧Below w.heap.size w w'') Q:=by
 have hr:=Ey (y.1:Nat) (Qk y.2) (by rw[Qf,hl]) w;refine Xe ?_;generalize A.eval=ρ at *;unfold execOp;simp only[ho,Qdl];rw[show (#[(0,x),(1,z)].map fun (i,x)=>(i,ρ x))=#[(0,Value.int .u32 (y.1:Nat)),(1,.agg (Qk y.2).toArray)] by simp[hx,hz],hr];rfl
def Rf(B:Nat)(y:Itm)(u:Value)(w:World):Prop:=∃g,u= .slice (some ⟨g,0,none⟩) 1 1∧B≤g∧Blk w g 106 (Xx y).toArray
theorem Sj(B:Nat)(y:Itm):VW (Rf B y):=fun u w1 w2 ⟨g,h1,h2,h3⟩ hb=>⟨g,h1,h2,h3.calls hb⟩
theorem g_bsI{Q:Exit→Act→World→Prop}{o:Oper}{A:Act}{w0 w:World}(x:Operand)(y:Itm)(hl:y.2.length=32)(ho:o.op= .buildSlice 47 1 #[(0,x)])(hx:A.eval x= .agg (Xx y).toArray)(hb:Below w0.heap.size w0 w):
  o.wp prog A w (fun a' w''=>∃u,a'=A.put o.dst u∧Below w.heap.size w w''∧Rf w0.heap.size y u w'') Q:=by
 obtain⟨ie,hie,hz0,hz1,hz2⟩:=info_parts (show (prog.info? 106).map (fun i=>(i.zero,i.size,i.bytes))=some (some (.agg Z33),33,36) by kernel_rfl);have sC:(Xx y).toArray.size=33:=by rw[Qdv,XV,hl]
 have hr:=Dr w 47 106 (Xx y).toArray ie _ underlying47 hie hz0 (by rw[hz1,sC]) (by omega) (by omega);unfold Oper.wp execOp;simp only[ho,Qdl];rw[show (#[(0,x)].map fun (i,x)=>(i,A.eval x))=#[(0,Value.agg (Xx y).toArray)] by simp[hx],hr];exact⟨_,rfl,ba (Below.refl _ _) _,_,rfl,hb.size,Blk.new _ _ _⟩
theorem BW(m:Mf)(hm:m.ok)(K:List Itm)(hK:∀x∈K,x.2.length=32)(hn:K.length≤50000)(w:World)(h7:SlV Xx K (slv m.s7) w):
  Calls prog 10 #[.agg m.cells.toArray] w fun e w'=>∃s:Sl,e= .returned (.agg ({m with s7:=s,x0:=0,s1:=(none,0,0),s2:=(none,0,0),x3:=0}:Mf).cells.toArray)∧Below w.heap.size w w'∧SlV Xx K (slv s) w':=by
 have X0:Blk ((w.alloc (.cells m.cells.toArray 39)).alloc C54) w.heap.size 39 m.cells.toArray:=(Blk.new _ _ _).alloc _;have X1:Blk ((w.alloc (.cells m.cells.toArray 39)).alloc C54) (w.heap.size+1) 54 zeroCells54:=Blk.newAt _ _ _ (by simp only[Qdu]);have B0:Below w.heap.size w ((w.alloc (.cells m.cells.toArray 39)).alloc C54):=ba (ba (Below.refl _ _) _) _;obtain⟨c0,c1,c2,c3,c4,c5,c38,c107,c108,c109,c110,c111,c112,c113⟩:=m.cell hm X0;have cst:=m.stop hm X0;have iH:(prog.info? 27).map (·.size)=some (Qk m.st).length:=by rw[Qf,hm.1];kernel_rfl
 have hok:({Mf.zero m.k with p:=m.p,n:=m.n,h:=m.h,s4:=m.s4,s5:=m.s5,st:=m.st}:Mf).ok:=⟨hm.1,rfl,rfl⟩;have hst:=hm.1;have iM:=Mf.info _ hok;have zM:=Mf.zsize _ hok;have oM:=Mf.one ({Mf.zero m.k with p:=m.p,n:=m.n,h:=m.h,s4:=m.s4,s5:=m.s5,st:=m.st}:Mf);have N3:Blk (((w.alloc (.cells m.cells.toArray 39)).alloc C54).alloc C54) (w.heap.size+1+1) 54 zeroCells54:=Blk.newAt _ _ _ (by simp only[Qdu]);have X:=H7 X0 X1 B0 hm h7 hK hn;clear X0 X1 B0 hm h7 hK hn;have Y:=H7 cst hst iH iM zM oM N3;clear cst hst iH iM zM oM N3;go_enter func10,ntmps10;go_upto_region 2 with (first|(with_reducible refine wpList_load_mid rfl _ _ rfl w.heap.size 6 rfl (Qk m.st) _ Y.out.1 underlying27 rfl Y.out.2.2.1 ?_)|(with_reducible refine Qcc m Y.out.2.1 rfl _ _ _ _ _ _ _ rfl rfl rfl rfl rfl rfl rfl rfl ?_)|(with_reducible refine Ql Y.out.2.2.2.2.2.2 _ _ _ _ rfl rfl rfl rfl Y.out.2.2.2.1 Y.out.2.2.2.2.1 Y.out.2.2.2.2.2.1 ?_));have W3:=H4 (show Blk ((((w.alloc (.cells m.cells.toArray 39)).alloc C54).alloc C54).setRow (w.heap.size+1+1) ({Mf.zero m.k with p:=m.p,n:=m.n,h:=m.h,s4:=m.s4,s5:=m.s5,st:=m.st}:Mf).cells.toArray) w.heap.size 39 m.cells.toArray from (X.out.1.alloc _).rowFar (by omega) _) (show Blk ((((w.alloc (.cells m.cells.toArray 39)).alloc C54).alloc C54).setRow (w.heap.size+1+1) ({Mf.zero m.k with p:=m.p,n:=m.n,h:=m.h,s4:=m.s4,s5:=m.s5,st:=m.st}:Mf).cells.toArray) (w.heap.size+1) 54 zeroCells54 from (X.out.2.1.alloc _).rowFar (by omega) _) (show Blk ((((w.alloc (.cells m.cells.toArray 39)).alloc C54).alloc C54).setRow (w.heap.size+1+1) ({Mf.zero m.k with p:=m.p,n:=m.n,h:=m.h,s4:=m.s4,s5:=m.s5,st:=m.st}:Mf).cells.toArray) (w.heap.size+1+1) 54 ({Mf.zero m.k with p:=m.p,n:=m.n,h:=m.h,s4:=m.s4,s5:=m.s5,st:=m.st}:Mf).cells.toArray from Y.out.2.2.2.2.2.2.row _) (show Below w.heap.size w ((((w.alloc (.cells m.cells.toArray 39)).alloc C54).alloc C54).setRow (w.heap.size+1+1) ({Mf.zero m.k with p:=m.p,n:=m.n,h:=m.h,s4:=m.s4,s5:=m.s5,st:=m.st}:Mf).cells.toArray) from Qb (ba X.out.2.2.1 _) (by omega) _);generalize World.setRow _ _ _=w3 at *;obtain⟨B,hB⟩:=nE (w.heap.size+1+1);rw[←hB] at W3 ⊢;have hm:=X.out.2.2.2.1;have h7:=X.out.2.2.2.2.1;obtain⟨a7,n7,k7,e7⟩:∃a n c,m.s7=(a,n,c):=⟨_,_,_,rfl⟩;have hsv:slv m.s7= .slice a7 n7 k7:=by rw[e7]
 rw[hsv] at h7;have hn7:n7=K.length:=h7.len;have n7b:n7≤50000:=by rw[hn7];exact X.out.2.2.2.2.2.2
 have hkK:=X.out.2.2.2.2.2.1;have hdok:=Y.out.2.1;have ZM:=H7 hm hsv h7 hn7 hkK hdok hB;clear hm hsv h7 hn7 hkK hdok hB e7 X Y;go_upto_region 3 with fail;go_loopw [4] (fun i wr=>∃(j:Nat) (va:Option Addr) (vc:Nat),j≤n7∧i= .int .i64 j∧Blk wr w.heap.size 39 m.cells.toArray∧Blk wr (w.heap.size+1) 54 zeroCells54∧MsB ({Mf.zero m.k with p:=m.p,n:=m.n,h:=m.h,s4:=m.s4,s5:=m.s5,st:=m.st}:Mf) B w.heap.size j (K.take j) (va,j,vc) wr∧Below w.heap.size w wr) (fun i _=>n7-(intOf i).toNat)
 case atStart=>exact⟨0,none,0,Qdw _,rfl,W3.out.1,W3.out.2.1,⟨W3.out.2.2.1,QeJ _ _ _ _,(fun h=>by cases h),by have:=ZM.out.2.2.2.2.2.2;omega⟩,W3.out.2.2.2⟩
 case round=>
  obtain⟨j,va,vc,hj,rfl,hX0,hX1,hR,hBl⟩:=hrel;have okS:({({Mf.zero m.k with p:=m.p,n:=m.n,h:=m.h,s4:=m.s4,s5:=m.s5,st:=m.st}:Mf) with s7:=(va,j,vc)}:Mf).ok:=⟨ZM.out.1.1,rfl,rfl⟩;have c38r:wr.cell? ⟨w.heap.size,38,none⟩=some (.slice a7 n7 k7):=by rw[←ZM.out.2.1];exact (m.cell ZM.out.1 hX0).2.2.2.2.2.2.1
  have c38v:wr.cell? ⟨B,38,none⟩=some (.slice va j vc):=(Mf.cell _ okS hR.1).2.2.2.2.2.2.1;by_cases hlt:j<n7
  ·have hjn:(j:Int)<(n7:Int):=by omega
   obtain⟨x,hx⟩:∃x,K[j]? =some x:=⟨_,Qdk (by have:=ZM.out.2.2.2.1;omega)⟩;have hxl:x.2.length=32:=ZM.out.2.2.2.2.1 x (QdT hx);obtain⟨g,o,hae,hg,hrg⟩:=SlV.at (k:=33) (fun y hy=>by rw[XV,ZM.out.2.2.2.2.1 y hy]) ZM.out.2.2.1 hx (by omega);have hidx:=fun w=>YV (P:=prog) 28 105 33 underlying28 (by kernel_rfl) g o n7 k7 j hlt w;rw[←hae] at hidx;have rng:=QY hrg hBl hg;obtain⟨p,hp⟩:=nE (o+j*33);rw[←hp] at hidx rng;have cx0:wr.cell? ⟨g,p+0,none⟩=some (.int .u32 (x.1:Nat)):=rng 0 _ rfl;have rx1:wr.rangeAt g (p+1) (Qk x.2):=fun k v hv=>by
    have:=rng (k+1) v (by unfold Xx;rw[Qd2];exact hv)
    rwa [show p+1+k=p+(k+1) by omega]
   have iHx:(prog.info? 27).map (·.size)=some (Qk x.2).length:=by rw[Qf,hxl];kernel_rfl
   have hgl:g<wr.heap.size:=Qdr hg hBl.size;have hlt0:w.heap.size<wr.heap.size:=hX0.lt;have hltB:B<wr.heap.size:=hR.1.lt;have T:=H6 hX0 hX1 hR hBl hx hxl;clear hX0 hX1 hR hBl hx;have G:=H3 hgl hlt0 hltB;clear hgl hlt0 hltB hp hae hg hrg rng;go_wp2_with fail;have hgl:=G.out.1;have hlt0:=G.out.2.1;have hltB:=G.out.2.2;refine Zf 16 [some 27,some 28,some 29,some 30,some 31,some 32,some 33,some 34,some 35,some 36,some 37,some 38,some 39,some 40,some 41,some 42,some 43,some 44,none] (FL [EqV (.pointer (some ⟨B,38,none⟩)),EqV (.slice va j vc),EqV (.pointer (some ⟨w.heap.size,38,none⟩)),EqV (.slice a7 n7 k7),EqV (.int .i64 j),EqV (.pointer (some ⟨g,p,none⟩)),EqV (.pointer (some ⟨g,p+0,none⟩)),EqV (.int .u32 (x.1:Nat)),EqV (.pointer (some ⟨w.heap.size,38,none⟩)),EqV (.slice a7 n7 k7),EqV (.int .i64 j),EqV (.pointer (some ⟨g,p,none⟩)),EqV (.pointer (some ⟨g,p+1,none⟩)),EqV (.agg (Qk x.2).toArray),EqV (.agg (Xx x).toArray),
     Rf wr.heap.size x
    ]) (QO ⟨Qa _,Qa _,Qa _,Qa _,Qa _,Qa _,Qa _,Qa _,Qa _,Qa _,Qa _,Qa _,Qa _,Qa _,Qa _,Sj _ _,trivial⟩) (by kernel_rfl) rfl rfl rfl rfl rfl (by kernel_rfl) ⟨.inr ⟨gk0 rfl,fun A w' γ hb hF hs=>Qd (Qs 54 (.tmp 3) 7 38 rfl (B) ((hs.2 3 rfl).trans rfl) fun _ _=>by kernel_rfl)⟩,.inr ⟨gk0 rfl,fun A w' γ hb hF hs=>Qd (Qq 47 (.tmp 27) rfl _ ((hs.1 0 rfl 27 rfl).trans (hF 0 rfl)) _ ((hb.cell (p:=⟨B,38,none⟩) hltB).trans c38v) _ underlying47 rfl)⟩,.inr ⟨gk0 rfl,fun A w' γ hb hF hs=>Qd (Qs 39 (.tmp 1) 7 38 rfl (w.heap.size) ((hs.2 1 rfl).trans rfl) fun _ _=>by kernel_rfl)⟩,.inr ⟨gk0 rfl,fun A w' γ hb hF hs=>Qd (Qq 28 (.tmp 29) rfl _ ((hs.1 2 rfl 29 rfl).trans (hF 2 rfl)) _ ((hb.cell (p:=⟨w.heap.size,38,none⟩) hlt0).trans c38r) _ underlying28 rfl)⟩,.inr ⟨gk0 rfl,fun A w' γ hb hF hs=>Qd (Qe (.tmp 4) (.inl rfl) ((hs.2 4 rfl).trans rfl))⟩,.inr ⟨gk0 rfl,fun A w' γ hb hF hs=>Qd (YU 28 (.tmp 30) (.tmp 31) rfl ((hs.1 3 rfl 30 rfl).trans (hF 3 rfl)) ((hs.1 4 rfl 31 rfl).trans (hF 4 rfl)) (hidx _))⟩,.inr ⟨gk0 rfl,fun A w' γ hb hF hs=>Qd (Zt 105 (.tmp 32) 0 0 rfl (g) (p) ((hs.1 5 rfl 32 rfl).trans (hF 5 rfl)) fun _ _ _=>by kernel_rfl)⟩,.inr ⟨gk0 rfl,fun A w' γ hb hF hs=>Qd (Qq 22 (.tmp 33) rfl _ ((hs.1 6 rfl 33 rfl).trans (hF 6 rfl)) _ ((hb.cell (p:=⟨g,p+0,none⟩) hgl).trans cx0) _ underlying22 rfl)⟩,.inr ⟨gk0 rfl,fun A w' γ hb hF hs=>Qd (Qs 39 (.tmp 1) 7 38 rfl (w.heap.size) ((hs.2 1 rfl).trans rfl) fun _ _=>by kernel_rfl)⟩,.inr ⟨gk0 rfl,fun A w' γ hb hF hs=>Qd (Qq 28 (.tmp 35) rfl _ ((hs.1 8 rfl 35 rfl).trans (hF 8 rfl)) _ ((hb.cell (p:=⟨w.heap.size,38,none⟩) hlt0).trans c38r) _ underlying28 rfl)⟩,.inr ⟨gk0 rfl,fun A w' γ hb hF hs=>Qd (Qe (.tmp 4) (.inl rfl) ((hs.2 4 rfl).trans rfl))⟩,.inr ⟨gk0 rfl,fun A w' γ hb hF hs=>Qd (YU 28 (.tmp 36) (.tmp 37) rfl ((hs.1 9 rfl 36 rfl).trans (hF 9 rfl)) ((hs.1 10 rfl 37 rfl).trans (hF 10 rfl)) (hidx _))⟩,.inr ⟨gk0 rfl,fun A w' γ hb hF hs=>Qd (Zt 105 (.tmp 38) 1 1 rfl (g) (p) ((hs.1 11 rfl 38 rfl).trans (hF 11 rfl)) fun _ _ _=>by kernel_rfl)⟩,.inr ⟨gk0 rfl,fun A w' γ hb hF hs=>Qd (Zb 27 (.tmp 39) rfl _ (p+1) ((hs.1 12 rfl 39 rfl).trans (hF 12 rfl)) (Qk x.2) _ (QY rx1 hb hgl) underlying27 rfl iHx)⟩,.inr ⟨gk0 rfl,fun A w' γ hb hF hs=>Qd (Qcz x hxl _ _ rfl ((hs.1 7 rfl 34 rfl).trans (hF 7 rfl)) ((hs.1 13 rfl 40 rfl).trans (hF 13 rfl)))⟩,.inr ⟨gk0 rfl,fun A w' γ hb hF hs=>g_bsI _ x hxl rfl ((hs.1 14 rfl 41 rfl).trans (hF 14 rfl)) hb⟩,trivial⟩ ?_
   intro γ wx hb hF;have ez0:γ 0= .pointer (some ⟨B,38,none⟩):=hF 0 (by decide);have ez1:γ 1= .slice va j vc:=hF 1 (by decide);have ez2:γ 2= .pointer (some ⟨w.heap.size,38,none⟩):=hF 2 (by decide);have ez3:γ 3= .slice a7 n7 k7:=hF 3 (by decide);have ez4:γ 4= .int .i64 j:=hF 4 (by decide);have ez5:γ 5= .pointer (some ⟨g,p,none⟩):=hF 5 (by decide);have ez6:γ 6= .pointer (some ⟨g,p+0,none⟩):=hF 6 (by decide);have ez7:γ 7= .int .u32 (x.1:Nat):=hF 7 (by decide);have ez8:γ 8= .pointer (some ⟨w.heap.size,38,none⟩):=hF 8 (by decide);have ez9:γ 9= .slice a7 n7 k7:=hF 9 (by decide);have ez10:γ 10= .int .i64 j:=hF 10 (by decide);have ez11:γ 11= .pointer (some ⟨g,p,none⟩):=hF 11 (by decide);have ez12:γ 12= .pointer (some ⟨g,p+1,none⟩):=hF 12 (by decide);have ez13:γ 13= .agg (Qk x.2).toArray:=hF 13 (by decide);have ez14:γ 14= .agg (Xx x).toArray:=hF 14 (by decide);have hp15:(Rf wr.heap.size x) (γ 15) wx:=hF 15 (by decide);simp only[List.take,List.drop,Fr,QdC,Act.put,Qdh,Qdy,Qdz,Nat.reduceAdd];rw[ez0,ez1,ez2,ez3,ez4,ez5,ez6,ez7,ez8,ez9,ez10,ez11,ez12,ez13,ez14];clear ez0 ez1 ez2 ez3 ez4 ez5 ez6 ez7 ez8 ez9 ez10 ez11 ez12 ez13 ez14 hF;clear hgl hlt0 hltB c38r c38v cx0 rx1 iHx hidx;obtain⟨gn,hgn,hgb,hgB⟩:=hp15;rw[hgn];obtain⟨iH,hi,hz0,hz1,hz2⟩:=info_parts (show (prog.info? 106).map (fun i=>(i.zero,i.size,i.bytes))=some (some (.agg Z33),33,36) by kernel_rfl);have I:=H4 hi hz0 hz1 hz2;clear hi hz0 hz1 hz2;have R2:=T.out.2.2.1.calls hb;have bsz:w.heap.size≤wx.heap.size:=Qdx T.out.2.2.2.1.size hb.size;have K2:=H7 R2 (T.out.1.calls hb) (T.out.2.1.calls hb) (bt T.out.2.2.2.1 hb) T.out.2.2.2.2.1 hgB (show (Xx x).length=33 by rw[XV,hxl]);clear R2 hgn hgb hgB hb T hxl;go_wp2_with (at_builtin;refine PG (f:=Xx) (L:=K.take j) (x:=x) K2.out.1.2.1 K2.out.2.2.2.2.2.1 rfl _ _ 47 rfl underlying47 iH (.agg Z33) I.out.1 I.out.2.1 I.out.2.2.1 I.out.2.2.2 rfl (by decide) K2.out.2.2.2.2.2.2 (KO x) rfl rfl (by omega) (by decide) bsz ?_);intro v5 w5 o5 g5;obtain⟨a5,c5,rfl⟩:=Ya o5;have hne:(slv (va,j,vc)).ownBlock≠some B:=K2.out.1.2.2.1;have B5:Blk w5 B 54 ({({Mf.zero m.k with p:=m.p,n:=m.n,h:=m.h,s4:=m.s4,s5:=m.s5,st:=m.st}:Mf) with s7:=(va,j,vc)}:Mf).cells.toArray:=(g5.block B K2.out.1.1.lt fun e=>hne e.symm).trans K2.out.1.1;have A5:Blk w5 w.heap.size 39 m.cells.toArray:=(g5.block _ K2.out.2.1.lt fun e=>Sa K2.out.1.2.1 K2.out.2.1 (by decide) e.symm).trans K2.out.2.1;have D5:Blk w5 (w.heap.size+1) 54 zeroCells54:=(g5.block _ K2.out.2.2.1.lt fun e=>Sa K2.out.1.2.1 K2.out.2.2.1 (by decide) e.symm).trans K2.out.2.2.1;have L5:Below w.heap.size w w5:=Qn K2.out.2.2.2.1 g5 bsz (fun k hk=>(K2.out.1.2.1.lt k hk).1);have c5':w5.cell? ⟨B,38,none⟩=some (.slice va j vc):=(Mf.cell ({({Mf.zero m.k with p:=m.p,n:=m.n,h:=m.h,s4:=m.s4,s5:=m.s5,st:=m.st}:Mf) with s7:=(va,j,vc)}:Mf) ⟨ZM.out.1.1,rfl,rfl⟩ B5).2.2.2.2.2.2.1;have f5:=B5.frozen 38;have hzB:=ZM.out.2.2.2.2.2.2;have ne5:=Sa o5 B5 (by decide);have S5:Blk (w5.setCell ⟨B,38,none⟩ (.slice a5 (j+1) c5)) B 54 ({({Mf.zero m.k with p:=m.p,n:=m.n,h:=m.h,s4:=m.s4,s5:=m.s5,st:=m.st}:Mf) with s7:=(a5,j+1,c5)}:Mf).cells.toArray:=(B5.set_ 38 _).to (Mf.set38 ({({Mf.zero m.k with p:=m.p,n:=m.n,h:=m.h,s4:=m.s4,s5:=m.s5,st:=m.st}:Mf) with s7:=(va,j,vc)}:Mf) ⟨ZM.out.1.1,rfl,rfl⟩ (a5,j+1,c5));have O5:(w5.setCell ⟨B,38,none⟩ (.slice a5 (j+1) c5)).ownsRow w.heap.size 106 33 (.slice a5 (j+1) c5) (j+1) ((K.take (j+1)).flatMap Xx):=by
    have h:=Hf o5 (QN w5 B 38 (.slice a5 (j+1) c5)) fun g hgv e=>ne5 (by rw[hgv,e]);have hx:=K2.out.2.2.2.2.1;have e:(K.take (j+1)).flatMap Xx=(K.take j).flatMap Xx++Xx x:=by rw[QeI,hx];simp[Qek]
    rw[e];exact h
   have M5:MsB ({Mf.zero m.k with p:=m.p,n:=m.n,h:=m.h,s4:=m.s4,s5:=m.s5,st:=m.st}:Mf) B w.heap.size (j+1) (K.take (j+1)) (a5,j+1,c5) (w5.setCell ⟨B,38,none⟩ (.slice a5 (j+1) c5)):=⟨S5,O5,ne5,show w.heap.size≤B by omega⟩;have Z2:=H4 (show Blk (w5.setCell ⟨B,38,none⟩ (.slice a5 (j+1) c5)) w.heap.size 39 m.cells.toArray from A5.far (show w.heap.size≠B by omega) _) (show Blk (w5.setCell ⟨B,38,none⟩ (.slice a5 (j+1) c5)) (w.heap.size+1) 54 zeroCells54 from D5.far (show w.heap.size+1≠B by omega) _) M5 (show Below w.heap.size w (w5.setCell ⟨B,38,none⟩ (.slice a5 (j+1) c5)) from L5.setCell (show w.heap.size≤B by omega) _);clear S5 O5 M5 A5 D5 L5 g5 o5 hne ne5 B5 hzB K2;go_wp2;go_roundw
   case rel=>exact⟨j+1,a5,c5,by omega,by go_num,Z2.out.1,Z2.out.2.1,Z2.out.2.2.1,Z2.out.2.2.2⟩
   case measure=>simp[intOf];omega
  ·obtain rfl:j=n7:=by omega
   have hjj:¬(j:Int)<(j:Int):=by omega
   obtain⟨MF,hMF⟩:∃x:Mf,x={m with s7:=(va,j,vc),x0:=0,s1:=(none,0,0),s2:=(none,0,0),x3:=0}:=⟨_,rfl⟩;have hmo:=ZM.out.1;have okF:MF.ok:=by rw[hMF];exact hmo
   have bl:=Vm m.hd m.tot m.s8 m.s9 hmo.2;have he:(({({Mf.zero m.k with p:=m.p,n:=m.n,h:=m.h,s4:=m.s4,s5:=m.s5,st:=m.st}:Mf) with s7:=(va,j,vc)}:Mf).cells.toArray.toList.take 39++(bkC m.hd m.tot m.s8 m.s9).toArray.toList++({({Mf.zero m.k with p:=m.p,n:=m.n,h:=m.h,s4:=m.s4,s5:=m.s5,st:=m.st}:Mf) with s7:=(va,j,vc)}:Mf).cells.toArray.toList.drop (39+(bkC m.hd m.tot m.s8 m.s9).toArray.size)).toArray=MF.cells.toArray:=by
    rw[Qdv,bl,Mf.mid39 _ okS m.hd hmo.2 m.tot m.s8 m.s9,hMF];rfl
   have hs:39+(bkC m.hd m.tot m.s8 m.s9).toArray.size≤({({Mf.zero m.k with p:=m.p,n:=m.n,h:=m.h,s4:=m.s4,s5:=m.s5,st:=m.st}:Mf) with s7:=(va,j,vc)}:Mf).cells.toArray.size:=by
    rw[Qdv,Qdv,bl,Mf.length _ okS];decide
   have iB:(prog.info? 48).map (·.size)=some (bkC m.hd m.tot m.s8 m.s9).toArray.size:=by rw[Qdv,bl];kernel_rfl
   have oB:(bkC m.hd m.tot m.s8 m.s9).toArray.all (·.oneCell')=true:=by
    rw[QdX];intro u hu;have hu:u∈bkC m.hd m.tot m.s8 m.s9:=by simpa using hu
    unfold bkC at hu;rcases Qfi.1 hu with hu|hu
    ·exact Ws _ u hu
    ·simp only[QdW,Qf3,or_false] at hu;rcases hu with rfl|rfl|rfl <;> rfl
   have iHd:(prog.info? 30).map (·.size)=some (hdC m.hd).length:=by rw[Qt m.hd hmo.2.1 hmo.2.2];kernel_rfl
   obtain⟨c0,c1,c2,c3,c4,c5,c38,c107,c108,c109,c110,c111,c112,c113⟩:=m.cell hmo hX0;have rHd:=m.head hmo hX0;have iF:=MF.info okF;have zF:=MF.zsize okF;have oF:=MF.one;have hBw:=ZM.out.2.2.2.2.2.2;have rR:=hR.1.row MF.cells.toArray;have rX:=hX1.rowFar (show w.heap.size+1≠B by omega) MF.cells.toArray;have bR:=Qb hBl (show w.heap.size≤B by omega) MF.cells.toArray;have ne1:=Sa hR.2.1 hX1 (by decide);have O1:=Hf hR.2.1 (KK wr B MF.cells.toArray) fun g hgv e=>hR.2.2.1 (by rw[hgv,e]);have O2:=Hf O1 (KK (wr.setRow B MF.cells.toArray) (w.heap.size+1) MF.cells.toArray) fun g hgv e=>ne1 (by rw[hgv,e]);have sF:SlV Xx K (slv (va,j,vc)) ((wr.setRow B MF.cells.toArray).setRow (w.heap.size+1) MF.cells.toArray):=Wj ZM.out.2.2.2.1.symm (by rwa [show K.take j=K by rw[ZM.out.2.2.2.1];exact List.take_length] at O2);clear ne1 O1 O2;have Q:=H8 hR.1 iB hs oB he rHd iHd (show Zn m.hd from hmo.2);have Q2:=H7 rR rX bR iF zF oF sF;have QM:=Lib.hid hMF;clear rR rX bR iF zF oF sF hR iB hs oB he rHd iHd hmo hX0 hX1 hBl okS okF bl hBw c38 c38v hMF;go_wp2_with (first|(with_reducible refine wpList_load_mid rfl _ _ rfl w.heap.size 39 rfl (hdC m.hd) _ Q.out.2.2.2.2.2.1 underlying30 rfl Q.out.2.2.2.2.2.2.1 ?_)|(with_reducible refine wl_bk m.hd Q.out.2.2.2.2.2.2.2 m.tot m.s8 m.s9 rfl _ _ _ _ rfl rfl rfl rfl rfl ?_)|(with_reducible refine PV Q.out.1 _ _ _ 39 _ rfl rfl rfl rfl Q.out.2.1 Q.out.2.2.1 Q.out.2.2.2.1 _ Q.out.2.2.2.2.1 ?_)|(with_reducible refine Q0 Q2.out.1 _ _ rfl rfl rfl _ underlying54 Q2.out.2.2.2.1 ?_)|(with_reducible refine Ql Q2.out.2.1 _ _ _ _ rfl rfl rfl rfl Q2.out.2.2.2.1 Q2.out.2.2.2.2.1 Q2.out.2.2.2.2.2.1 ?_));refine Qdg (v:=.agg MF.cells.toArray) ?_ rfl ⟨va,j,vc,by rw[QM.out],Qb Q2.out.2.2.1 (Qd9 _) _,Q2.out.2.2.2.2.2.2⟩;refine Eq.trans (QK rfl _ _ (w.heap.size+1) _ _ ?_ (Q2.out.2.1.row _) underlying54 Q2.out.2.2.2.1) ?_ <;> rfl
theorem FI(k:Nat)(h:k<11):(YL k).length≤9223372036854775807:=by
 have:=Be k h;unfold XL at this;simp only[Qdo,QdM] at this;omega
theorem Ny(magic:Nat)(hm:magic<4294967296){k:Nat}{b:Bd}(m:Mf)(w:World)(hb:PC k b)(hv:MsgV k b m w)(hs:(bdP b).length≤1000000)(hL:Laid w):
  Calls prog 8 #[.int .u32 magic,.agg m.cells.toArray] w fun e w'=>∃u,e= .returned u∧Below w.heap.size w w'∧CloV (Vv magic k b) u w':=by
 have hk11:=W7 hb;have hmo:=hv.2.1;have X0:Blk (w.alloc (.cells m.cells.toArray 54)) w.heap.size 54 m.cells.toArray:=Blk.new _ _ _;have B0:Below w.heap.size w (w.alloc (.cells m.cells.toArray 54)):=ba (Below.refl _ _) _;have hput:∀w',Below w.heap.size w w'→Calls prog 29 #[.agg m.cells.toArray] w' fun e w2=>∃a n c,e= .returned (.tuple #[.slice a n c,.int .i64 0])∧Below w'.heap.size w' w2∧RdS w2 a (bdP b)∧(bdP b).length=n∧n≤c∧(n≤1000000∧c≤9223372036854775807)∧(a=none→n=0∧c=0):=fun w' h=>by
  refine (OP m w' hb (hv.calls h) (by omega)).mono ?_;rintro e w2 ⟨u,rfl,hb2,a,c,rfl,h2,h3,h4,h5⟩;exact⟨a,_,c,rfl,hb2,h2,rfl,h3,⟨hs,h4⟩,h5⟩
 have hnam:=fun w'=>TC k w' hk11;have iM:=m.info hmo;have hcel:=fun w' (h:Blk w' w.heap.size 54 m.cells.toArray)=>(m.cell hmo h).1;have hfp:=fun (a:Option Addr) (n c:Nat) (p:List UInt8) (hl:p.length=n) (hn:n≤c) (hc2:n≤1000000∧c≤9223372036854775807) (hno:a=none→n=0∧c=0) (w':World) (h:Below w.heap.size w w') (hr:RdS w' a p)=>QbB magic hm (YL k) (FI k hk11) a n c p hl hn hc2 hno w' hr (hL.calls h);rw[hv.1] at hcel;have htl:Vv magic k b=TY magic (YL k) (bdP b):=rfl;obtain⟨C,hC⟩:=nE (m.cells.toArray);rw[←hC] at X0 B0 hput hcel iM ⊢;have E:=H7 hput hnam hfp iM hcel htl hs;clear hput hnam hfp iM hcel htl;have X:=H2 X0 B0;clear X0 B0 hv hb hmo hC hk11 hL hs;go_enter func8,ntmps8;go_wp2_with (with_reducible refine Q0 X.out.1 _ _ rfl rfl rfl _ underlying54 E.out.2.2.2.1 ?_);refine (E.out.1 _ X.out.2).mono ?_;rintro e w2 ⟨a,n,c,rfl,hb2,h2,h3,h4,h5,h6⟩;have X2:=X.out.1.calls hb2;have m2:=E.out.2.2.2.2.1 _ X2;have Y2:=H2 (bt X.out.2 hb2) (E.out.2.2.1 a n c (bdP b) h3 h4 h5 h6 w2 (bt X.out.2 hb2) h2);clear hb2 h2 h3 h4 h5 h6 X2;go_wp2_with fail;refine (E.out.2.1 _).mono ?_;rintro e w3 ⟨rfl,rfl⟩;clear m2;go_wp2_with fail;refine Y2.out.2.mono ?_;rintro e w4 ⟨u4,rfl,hb4,hc4⟩;have Z:=H2 (bt Y2.out.1 hb4) hc4;clear hb4 hc4;go_wp2_with fail;refine Qdg (v:=u4) ?_ rfl ⟨u4,rfl,Z.out.1,?_⟩
 ·simp[results,results8,go_sem]
 ·rw[E.out.2.2.2.2.2.1];exact Z.out.2
end Go.Proofs.YthdaabapiicnhaaGreatDoor
