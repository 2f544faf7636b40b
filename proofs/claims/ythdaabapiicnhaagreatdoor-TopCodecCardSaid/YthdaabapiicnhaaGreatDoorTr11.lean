/- Steps of the proof. -/
import Derived.Lib.BufferWrite
import Derived.Test.YthdaabapiicnhaaGreatDoorTr10
set_option linter.all false
set_option maxRecDepth 100000
set_option maxHeartbeats 4000000
open Go.Proofs.Tryz
namespace Go.Proofs.YthdaabapiicnhaaGreatDoor
open Go.RowKit
theorem SG{c:List UInt8}(h:c.length≤12):(Yo c).length=12:=by
 unfold Yo;rw[Qdj,QeV];omega
theorem Ow(ty:TypeId)(g:Nat)(t:TypeId)(c:List UInt8)(hc:c.length≤12)(w:World)(hb:Blk w g t (Array.replicate 12 (.int .u8 0))):
  (Builtin.copy_ #[31,9] ty #[.slice (some ⟨g,0,none⟩) 12 12,.string (Xg c)]).run prog w= .ok (goInt c.length) (w.setRow g (Qp (Yo c))):=by
 have hsz:(Xg c).size=c.length:=by simp[Xg,ByteArray.size]
 have h:=Lib.run_copy_row_string (P:=prog) w 31 9 ty 5 g 0 12 12 (Xg c) _ t underlying31 (by kernel_rfl) hb (by rw[hsz];exact hc) (by rw[hsz];simp;exact hc);rw[hsz] at h;rw[h];refine congrArg (fun z=>Result.ok (goInt c.length) (World.setRow w g z)) ?_;apply Array.ext';simp only[Qp,Yo,Lib.byteCells,Xg];simp[List.drop_replicate];show List.drop c.length (List.replicate 12 (Value.int .u8 0))=_;rw[List.drop_replicate]
def SP(s g:Nat)(w:World)(M C12 C:Array Value)(wx:World):Prop:=Blk wx s 43 M∧Blk wx (s+1) 172 C12∧Blk wx g 27 C∧Below s w wx
theorem SP.grow{s g:Nat}{w wx wy:World}{M C12 C:Array Value}{row:Option Nat}(h:SP s g w M C12 C wx)(hg:s+1<g)(hw:wx.grownBy wy row)(hr:∀k,row=some k→g<k):SP s g w M C12 C wy:=
 ⟨(
  Yw hw).blk h.1 fun e=>by have:=hr _ e.symm;omega,(Yw hw).blk h.2.1 fun e=>by have:=hr _ e.symm;omega,(Yw hw).blk h.2.2.1 fun e=>by have:=hr _ e.symm;omega,
  (Yw hw).below h.2.2.2 (by have:=h.1.lt;omega) fun k hk e=>by have:=hr _ e.symm;omega⟩
theorem Rp{w:World}{g:Nat}{t:TypeId}{l:List UInt8}{k:Nat}(h:Blk w g t (Qp l))(hk:k≤l.length):RdS w (some ⟨g,0,none⟩) (l.take k):=.inr ⟨g,0,rfl,h.lt,fun i hi=>(h.cell (0+i)).trans (by
 have hik:i<k:=by rw[Qds] at hi;omega
 rw[Qd5,Yp l i (by omega)];simp[List.getD,QdH hik])⟩
theorem QbB(magic:Nat)(hm:magic<4294967296)(cm:List UInt8)(hc:cm.length≤9223372036854775807)(a:Option Addr)(n c:Nat)(p:List UInt8)(hl:p.length=n)(hn:n≤c)(hc2:n≤1000000∧c≤9223372036854775807)(hno:a=none→n=0∧c=0)(w:World)(hr:RdS w a p)(hL:Laid w):
  Calls prog 30 #[.int .u32 magic,.agg #[.string (Xg cm),.slice a n c]] w fun e w'=>∃u,e= .returned (.tuple #[u,.int .i64 (NG cm p:Nat)])∧Below w.heap.size w w'∧CloV (TY magic cm p) u w':=by
 have cC:=fun w'=>P3 cm hc w';have cD:=fun w' (h:Below w.heap.size w w')=>Vu a p n c hl hn ⟨by omega,by omega⟩ hno w' (hr.calls h) (hL.calls h);have n0:¬(4000000:Int)<(n:Int):=by omega
 have F:=H5 cC cD hr hL hl;clear cC cD hr hL hl;go_enter func30,ntmps30;go_wp2_with fail;refine (F.out.1 _).mono ?_;rintro e w' ⟨rfl,rfl⟩;cases hok:XL cm with
 | false=>
  have E:NG cm p=2∧TY magic cm p=[]:=by
   have:NG cm p=2:=by unfold NG;rw[hok];rfl
   exact⟨this,by unfold TY;rw[this];rfl⟩
  have EE:=Lib.hid E;clear E hok;go_wp2_with fail;rw[EE.out.1,EE.out.2];refine Qdg (v:=.tuple #[.slice none 0 0,.int .i64 2]) (by simp[results,results30,go_sem]) rfl ⟨.slice none 0 0,rfl,ba (Below.refl _ _) _,⟨none,0,rfl,.inl rfl,Qde _,Qdw _,fun _=>⟨rfl,rfl⟩⟩⟩
 | true=>
  have hlen:cm.length≤12:=by
   unfold XL at hok;simp only[Qdo,QdM] at hok;exact hok.1.2
  have hl:=F.out.2.2.2.2;have E:NG cm p=0∧TY magic cm p=ZJ magic cm p++p:=by
   have:NG cm p=0:=by unfold NG;rw[Qdm hok,Qdm (by omega)]
   exact⟨this,by unfold TY;rw[Qdm this]⟩
  have cp:=fun w' hb=>Ow 3 (w.heap.size+1) 172 cm hlen w' hb;obtain⟨C12,hC12⟩:=nE (Qp (Yo cm));rw[←hC12] at cp;have EE:=H5 E hok hlen hl hC12;clear E hok hlen hl hC12;have B1:Blk ((w.alloc (.cells #[.string (Xg cm),.slice a n c] 43)).alloc (.cells #[.int .u8 0,.int .u8 0,.int .u8 0,.int .u8 0,.int .u8 0,.int .u8 0,.int .u8 0,.int .u8 0,.int .u8 0,.int .u8 0,.int .u8 0,.int .u8 0] 172)).drew w.heap.size 43 #[.string (Xg cm),.slice a n c]:=((Blk.new w _ _).alloc _).drew;have B2:Blk ((w.alloc (.cells #[.string (Xg cm),.slice a n c] 43)).alloc (.cells #[.int .u8 0,.int .u8 0,.int .u8 0,.int .u8 0,.int .u8 0,.int .u8 0,.int .u8 0,.int .u8 0,.int .u8 0,.int .u8 0,.int .u8 0,.int .u8 0] 172)).drew (w.heap.size+1) 172 #[.int .u8 0,.int .u8 0,.int .u8 0,.int .u8 0,.int .u8 0,.int .u8 0,.int .u8 0,.int .u8 0,.int .u8 0,.int .u8 0,.int .u8 0,.int .u8 0]:=(Blk.newAt _ _ _ (by simp)).drew;have BB:Below w.heap.size w ((w.alloc (.cells #[.string (Xg cm),.slice a n c] 43)).alloc (.cells #[.int .u8 0,.int .u8 0,.int .u8 0,.int .u8 0,.int .u8 0,.int .u8 0,.int .u8 0,.int .u8 0,.int .u8 0,.int .u8 0,.int .u8 0,.int .u8 0] 172)).drew:=(ba (ba (Below.refl _ _) _) _).drew;have cpF:=cp _ B2;have D1:=B1.rowFar (b:=w.heap.size+1) (by omega) C12;have D2:=B2.row C12;have DB:=Qb BB (g:=w.heap.size+1) (Qd9 _) C12;clear cp B1 B2 BB;have HB:=H3 D1 D2 DB;clear D1 D2 DB;go_upto_region 6 with fail;go_region;obtain⟨D1,D2,DB⟩:=HB.out;clear cpF HB;generalize World.setRow _ _ _=W3 at *;have m1:W3.cell? ⟨w.heap.size,1,none⟩=some (.slice a n c):=D1.cell 1;have HB:=H3 D1 D2 DB;clear D1 D2 DB;obtain⟨D,hD⟩:=nE (dbl p);have hDl:D.length=32:=by rw[hD];exact Jp _
  obtain⟨C,hC⟩:=nE (Qp D);have cD:=F.out.2.1;have hcd:Qp (ZN (ZN p))=C:=by rw[hC,hD,dbl]
  rw[hcd] at cD;have sC:C.size=32:=by rw[hC,XE];exact hDl
  have iC:(prog.info? 27).map (·.size)=some C.size:=by rw[sC];kernel_rfl
  have zC:(Z32:Array Value).size=C.size:=by rw[sC];rfl
  have aC:C.all (·.oneCell')=true:=by rw[hC];exact Xh _
  have P:=H4 cD hD hDl hC;clear cD hD hDl hC hcd sC;go_wp2_with fail;refine (P.out.1 _ HB.out.2.2).mono ?_;rintro e w2 ⟨rfl,hb2⟩;have Q1:=HB.out.1.calls hb2;have Q2:=HB.out.2.1.calls hb2;have QB:=bt HB.out.2.2 hb2;have z2:=Q2.lt;have NN:Blk (w2.alloc (.cells Z32 27)) w2.heap.size 27 Z32:=Blk.new _ _ _;have S0:SP w.heap.size w2.heap.size w #[.string (Xg cm),.slice a n c] C12 C ((w2.alloc (.cells Z32 27)).setRow w2.heap.size C):=⟨(Q1.alloc _).rowFar (by omega) C,(Q2.alloc _).rowFar (by omega) C,NN.row C,Qb (ba QB _) (g:=w2.heap.size) (by omega) C⟩;have NH:=H2 NN S0;clear NN S0 Q1 Q2 QB hb2 HB;clear m1;go_upto_region 8 with (with_reducible refine Ql NH.out.1 _ _ _ _ rfl rfl rfl rfl iC zC aC ?_);have S0:=NH.out.2;clear NH zC iC;generalize World.setRow _ _ _=w3 at *;obtain⟨N,hN⟩:=nE (24+n);have hNi:(24:Int)+(n:Int)=(N:Int):=by omega
  have N30:N≤1000024:=by omega
  have hw32:IntKind.u32.wrap (n:Int)=(n:Int):=by simp[IntKind.wrap,IntKind.signed,IntKind.bits];omega
  have n32:n<4294967296:=by omega
  have HN:=Lib.hid hN;clear hN;obtain⟨i0,hi,hz0,hz1,hz2⟩:=info_parts (show (prog.info? 5).map (fun i=>(i.zero,i.size,i.bytes))=some (some (.int .u8 0),1,1) by kernel_rfl);have I:=H4 hi hz0 hz1 hz2;clear hi hz0 hz1 hz2;have m1:w3.cell? ⟨w.heap.size,1,none⟩=some (.slice a n c):=S0.1.cell 1;have zs:w2.heap.size<w3.heap.size:=S0.2.2.1.lt;have h12:(Yo cm).length=12:=SG EE.out.2.2.1;have SS:=H2 S0 h12;clear S0 h12;go_wp2_with (at_make;refine wpList_make_own _ rfl _ _ 31 rfl (w2.heap.size+1) 5 i0 (.int .u8 0) 1 underlying31 I.out.1 I.out.2.1 I.out.2.2.1 .i64 .i64 _ N rfl rfl rfl (by rw[I.out.2.2.2];omega) (by unfold maxLen;omega) (by omega) ?_);intro w4 o4 g4;have S4:=SS.out.1.grow z2 g4 (fun k e=>by cases e);have b4:=g4.size;have c4:=Cd (w2.heap.size+1) _ 0 [] magic hm w4 (by omega) (by omega) o4;have Q:=H3 S4 o4 c4;clear S4 o4 c4 g4;go_wp2_with fail;refine Q.out.2.2.mono ?_;rintro e w5 ⟨u5,rfl,o5,g5⟩;replace o5:w5.ownsRow (w2.heap.size+1) 5 1 u5 (4) ((le4 magic).map fun c=>Value.int .u8 (c.toNat:Int)):=o5;obtain⟨a5,c5,rfl⟩:=Qh o5;have S5:=Q.out.1.grow z2 g5 (fun k e=>by have:=(Q.out.2.1.lt k e).1;omega);have b5:=g5.size;have rd5:RdS w5 (some ⟨w.heap.size+1,0,none⟩) (Yo cm):=by
   have:=Rp (k:=12) (S5.2.1.to EE.out.2.2.2.2) (by rw[SS.out.2];exact Qde _)
   rwa [Qd8 (by rw[SS.out.2];exact Qde _)] at this
  have Q5:=H3 S5 o5 rd5;clear S5 o5 rd5 g5 Q;go_wp2_with (at_builtin;refine XW Q5.out.2.1 rfl _ _ 31 rfl underlying31 i0 I.out.1 I.out.2.1 I.out.2.2.1 I.out.2.2.2 rfl (some ⟨w.heap.size+1,0,none⟩) 12 12 (Yo cm) rfl Q5.out.2.2 SS.out.2 (fun h=>by cases h) (by omega) (by omega) ?_);intro v6 w6 o6 g6 _;replace o6:w6.ownsRow (w2.heap.size+1) 5 1 v6 (16) ((le4 magic++Yo cm).map fun c=>Value.int .u8 (c.toNat:Int)):=o6;obtain⟨a6,c6,rfl⟩:=Qh o6;have S6:=Q5.out.1.grow z2 g6 (fun k e=>by have:=(Q5.out.2.1.lt k e).1;omega);have b6:=g6.size;have m1':w6.cell? ⟨w.heap.size,1,none⟩=some (.slice a n c):=S6.1.cell 1;have c7:=Cd (w2.heap.size+1) _ 16 _ n n32 w6 (by omega) (by omega) o6;have Q6:=H3 S6 o6 c7;clear S6 o6 c7 g6 Q5;go_wp2_with fail;refine Q6.out.2.2.mono ?_;rintro e w7 ⟨u7,rfl,o7,g7⟩;replace o7:w7.ownsRow (w2.heap.size+1) 5 1 u7 (20) ((le4 magic++Yo cm++le4 n).map fun c=>Value.int .u8 (c.toNat:Int)):=o7;obtain⟨a7,c7,rfl⟩:=Qh o7;have S7:=Q6.out.1.grow z2 g7 (fun k e=>by have:=(Q6.out.2.1.lt k e).1;omega);have b7:=g7.size;have rd7:=Rp (k:=4) (S7.2.2.1.to P.out.2.2.2) (by rw[P.out.2.2.1];omega);have ln7:(D.take 4).length=4:=by rw[Qds,P.out.2.2.1];rfl
  have Q7:=H4 S7 o7 rd7 ln7;clear S7 o7 rd7 ln7 g7 Q6;go_wp2_with (at_builtin;refine XW Q7.out.2.1 rfl _ _ 31 rfl underlying31 i0 I.out.1 I.out.2.1 I.out.2.2.1 I.out.2.2.2 rfl (some ⟨w2.heap.size,0,none⟩) 4 32 (D.take 4) rfl Q7.out.2.2.1 Q7.out.2.2.2 (fun h=>by cases h) (by omega) (by omega) ?_);intro v8 w8 o8 g8 _;replace o8:w8.ownsRow (w2.heap.size+1) 5 1 v8 (24) ((le4 magic++Yo cm++le4 n++D.take 4).map fun c=>Value.int .u8 (c.toNat:Int)):=by simpa using o8
  obtain⟨a8,c8,rfl⟩:=Qh o8;have S8:=Q7.out.1.grow z2 g8 (fun k e=>by have:=(Q7.out.2.1.lt k e).1;omega);have b8:=g8.size;have m1'':w8.cell? ⟨w.heap.size,1,none⟩=some (.slice a n c):=S8.1.cell 1;have rd8:=F.out.2.2.1.calls S8.2.2.2;have Q8:=H3 S8 o8 rd8;clear S8 o8 rd8 g8 Q7;go_wp2_with (at_builtin;refine XW Q8.out.2.1 rfl _ _ 31 rfl underlying31 i0 I.out.1 I.out.2.1 I.out.2.2.1 I.out.2.2.2 rfl a n c p rfl Q8.out.2.2 F.out.2.2.2.2 hno (by omega) (by omega) ?_);intro v9 w9 o9 g9 _;replace o9:w9.ownsRow (w2.heap.size+1) 5 1 v9 (24+n) ((le4 magic++Yo cm++le4 n++D.take 4++p).map fun c=>Value.int .u8 (c.toNat:Int)):=by simpa using o9
  have S9:=Q8.out.1.grow z2 g9 (fun k e=>by have:=(Q8.out.2.1.lt k e).1;omega);obtain⟨a9,c9,rfl,e1,e2,e3,e4,e5⟩:=Wk o9;have Q9:=H6 S9 e1 e2 e3 e4 e5;clear S9 o9 g9 Q8 e1 e2 e3 e4 e5;go_wp2_with fail;rw[EE.out.1.1,EE.out.1.2];refine Qdg (v:=.tuple #[.slice a9 (24+n) c9,.int .i64 0]) (by simp[results,results30,go_sem]) rfl ⟨.slice a9 (24+n) c9,rfl,Q9.out.1.2.2.2,a9,c9,?_,?_,?_,Q9.out.2.2.2.2.1,?_⟩
  all_goals
   have hp:ZJ magic cm p++p=le4 magic++Yo cm++le4 n++D.take 4++p:=by unfold ZJ;rw[F.out.2.2.2.2,P.out.2.1]
   rw[hp]
  ·rw[Q9.out.2.1]
  ·exact Q9.out.2.2.1
  ·rw[Q9.out.2.1];exact Q9.out.2.2.2.1
  ·rw[Q9.out.2.1];exact Q9.out.2.2.2.2.2
theorem Rs(n:Nat):XS (List.replicate n 0)=[]:=by
 induction n with
 | zero=>rfl
 | succ n ih=>rw[Qfp,XS,ih];rfl
theorem Ci(c:List UInt8)(n:Nat)(h:∀x∈c,x≠0):XS (c++List.replicate n 0)=c:=by
 induction c with
 | nil=>exact Rs n
 | cons x c ih=>
  have hx:=h x (Qeq ..);have ih':=ih fun y hy=>h y (Qel _ hy);rw[Qe0,XS,ih'];cases c with
  | nil=>simp[hx]
  | cons y t=>rfl
theorem Qc2{x:UInt8}(h:okC x=true):x≠0:=by
 intro e;subst e;unfold okC at h;simp at h
theorem Dl{c:List UInt8}(h:XL c=true):XS (Yo c)=c:=by
 unfold XL at h;simp only[Qdo,QdM] at h;exact Ci c _ fun x hx=>Qc2 (QdG.1 h.2 x hx)
theorem Tx{c:List UInt8}(h:XL c=true):c.length≤12:=by
 unfold XL at h;simp only[Qdo,QdM] at h;exact h.1.2
theorem JO{c:List UInt8}(h:c.length≤12):(Yo c).length=12:=by
 unfold Yo;rw[Qdj,QeV];omega
def Zc(magic:Nat)(c:List UInt8)(n:Nat)(s4:List UInt8):List UInt8:=le4 magic++(Yo c++(le4 n++s4))
theorem Tt(magic:Nat)(c p:List UInt8):ZJ magic c p=Zc magic c p.length ((dbl p).take 4):=by
 unfold ZJ Zc;simp only[Qd0]
theorem Vj{magic:Nat}{c:List UInt8}{n:Nat}{s4:List UInt8}(hc:c.length≤12)(hs:s4.length=4):(Zc magic c n s4).length=24:=by
 unfold Zc;simp only[Qdj,Xz,JO hc,hs]
section
variable {magic:Nat} {c:List UInt8} {n:Nat} {s4:List UInt8} (r:List UInt8) (hc:c.length≤12) (hs:s4.length=4)
theorem Dg:(Zc magic c n s4++r).take 4=le4 magic:=by
 unfold Zc;rw[Qd0,Qet (by rw[Xz];exact Qde _),Qd8 (by rw[Xz];exact Qde _)]
theorem MY(hc:c.length≤12):((Zc magic c n s4++r).drop 4).take 12=Yo c:=by
 unfold Zc;rw[Qd0,Qd0,Qe8 (by rw[Xz];exact Qde _),QdY (by rw[Xz];exact Qde _),QdU,Qet (by rw[JO hc];exact Qde _),Qd8 (by rw[JO hc];exact Qde _)]
theorem Qbj(hc:c.length≤12):(Zc magic c n s4++r).drop 16=le4 n++(s4++r):=by
 have h:(le4 magic++Yo c).length=16:=by rw[Qdj,Xz,JO hc]
 have e:Zc magic c n s4++r=(le4 magic++Yo c)++(le4 n++(s4++r)):=by unfold Zc;simp only[Qd0]
 rw[e,Qe8 (by omega),QdY (by omega),QdU]
theorem Qbi(hc:c.length≤12):(Zc magic c n s4++r).drop 20=s4++r:=by
 have h:(le4 magic++Yo c++le4 n).length=20:=by rw[Qdj,Qdj,Xz,JO hc,Xz]
 have e:Zc magic c n s4++r=(le4 magic++Yo c++le4 n)++(s4++r):=by unfold Zc;simp only[Qd0]
 rw[e,Qe8 (by omega),QdY (by omega),QdU]
theorem Qbh(hc:c.length≤12)(hs:s4.length=4):(Zc magic c n s4++r).drop 24=r:=by
 have h:=Vj (magic:=magic) (n:=n) hc hs;rw[Qe8 (by omega),QdY (by omega),QdU]
theorem FZ(hc:c.length≤12)(hn:n<4294967296):Jx (Zc magic c n s4++r)=n:=by
 rw[Hx,Qbj r hc,XC,XC,XC,XC,MO];simp only[le4,Qe0,Qej,Qed,QdU];simp;omega
end
theorem Ld{magic cap:Nat}{c:List UInt8}{n:Nat}{s4:List UInt8}(r:List UInt8)(hc:XL c=true)(hs:s4.length=4)(hn:n<4294967296):
  XA magic cap (Zc magic c n s4++r)=if cap<n then .no 3 else if r.length<n then .no 1 else if (dbl (r.take n)).take 4≠s4 then .no 4 else .yes c (r.take n):=by
 have hcl:=Tx hc;have hl:(Zc magic c n s4++r).length=24+r.length:=by rw[Qdj,Vj hcl hs]
 have e1:GV (Zc magic c n s4++r)=c:=by unfold GV;rw[MY r hcl,Dl hc]
 have e2:=FZ (magic:=magic) (s4:=s4) r hcl hn;have e3:YQ (Zc magic c n s4++r)=r.take n:=by unfold YQ;rw[e2,Qbh r hcl hs]
 unfold XA;rw[Qdf (by rw[Dg,Qd8 (by rw[Xz,hl];omega)];exact Qeh rfl),Qdf (by omega),e1,Qdf (by rw[hc];simp),e2,e3,Qbi r hcl,Qet (by omega),Qd8 (show s4.length≤4 by omega)];by_cases h1:cap<n
 ·rw[Qdm h1,Qdm h1]
 rw[Qdf h1,Qdf h1];by_cases h2:r.length<n
 ·rw[Qdm (by omega),Qdm h2]
 ·rw[Qdf (by omega),Qdf h2]
theorem Og{magic cap:Nat}{c p:List UInt8}(more:List UInt8)(hc:XL c=true)(hp:p.length≤cap)(hcap:cap≤4000000):XA magic cap (ZJ magic c p++p++more)= .yes c p:=by
 rw[Tt,Qd0,Ld _ hc (by rw[Qds,Jp];rfl) (by omega),Qdf (by omega),Qdf (by rw[Qdj];omega),Qet (Qde _),Qd8 (Qde _),Qdf (Qeh rfl)]
theorem Zm(a:Int)(w:World):(Instr.buildSlice 31 1 #[(0,.int .u8 a)]).run prog w= .ok (.slice (some ⟨w.heap.size,0,none⟩) 1 1) (w.alloc (.cells #[.int .u8 a] 5)):=by
 obtain⟨i,hi⟩:=Qem.1 (show (prog.info? 5).isSome=true by kernel_rfl);have h1:i.size=1:=by
  have:(prog.info? 5).map (·.size)=some 1:=by kernel_rfl
  rw[hi] at this;simpa using this
 unfold Instr.buildSlice;simp[Qd6 underlying31,go_sem,sizeOf,typeInfo,hi,h1,Tryz.zeroValue5,Instr.fill,Value.cells,newRow]
theorem Xa{w w':World}{base:Nat}{e:TypeId}{v:Value}{n:Nat}{xs:List Value}(h:w.ownsRow base e 1 v n xs)(hb:Below w.heap.size w w'):w'.ownsRow base e 1 v n xs:=
 h.kept (row:=none) ⟨hb.os,hb.tape,hb.output,hb.size,fun k hk _=>hb.block k hk⟩ (by cases hv:v.ownBlock <;> simp)
theorem J1(n s j:Nat)(hs:s=8*j):(n:Int)/(2:Int)^s%256=(((UInt8.ofNat (n/256^j%256)).toNat:Nat):Int):=by
 have e:n/2^s=n/256^j:=by rw[hs,Qe3]
 have h1:(UInt8.ofNat (n/256^j%256)).toNat=n/256^j%256:=by simp[Qfw]
 rw[h1,←e];generalize hyy:n/2^s=yy;have e:(n:Int)/(2:Int)^s=(yy:Int):=by rw[←hyy];push_cast;rfl
 rw[e];exact (Int.natCast_emod yy 256).symm
theorem Py(base:Nat)(v:Value)(m:Nat)(xs:List UInt8)(n k:Nat)(hk:k≤8)(hm:m≤1000000000)(w:World)(hb:base≤w.heap.size)(ho:w.ownsRow base 5 1 v m (xs.map fun c=>Value.int .u8 (c.toNat:Int))):
  Calls prog 90 #[v,.int .u64 n,.int .i64 k] w fun e w'=>∃u,e= .returned u∧w'.ownsRow base 5 1 u (m+k) ((xs++leK n k).map fun c=>Value.int .u8 (c.toNat:Int))∧Below base w w':=by
 obtain⟨va,vc,rfl⟩:=Qh ho;obtain⟨i0,hi,hz0,hz1,hz2⟩:=info_parts (show (prog.info? 5).map (fun i=>(i.zero,i.size,i.bytes))=some (some (.int .u8 0),1,1) by kernel_rfl);have I:=H4 hi hz0 hz1 hz2;clear hi hz0 hz1 hz2;have O:=Lib.hid ho;clear ho;go_enter func90,ntmps90;go_wp2;go_loopw [0,9] (fun v i wr=>∃j:Nat,j≤k∧i= .int .i64 j∧wr.ownsRow base 5 1 v (m+j) ((xs++leK n j).map fun c=>Value.int .u8 (c.toNat:Int))∧Below base w wr) (fun _ i _=>k-(intOf i).toNat)
 case atStart=>exact⟨0,Qdw _,rfl,by rw[Gh,QdF];exact O.out,Below.refl _ _⟩
 case round=>
  obtain⟨j,hj,rfl,hO,hB⟩:=hrel;obtain⟨a4,c4,rfl⟩:=Qh hO;by_cases hlt:j<k
  ·obtain⟨s,hs⟩:=nE (8*j);have hsi:(8:Int)*(j:Int)=(s:Int):=by omega
   have s64:s<64:=by omega
   have jk:(j:Int)<(k:Int):=by omega
   have hv:=J1 n s j hs;obtain⟨ch,hch⟩:=nE (UInt8.ofNat (n/256^j%256));rw[←hch] at hv;have hbs:=Zm (ch.toNat:Int) wr;have hO':=Xa hO (ba (Below.refl _ _) (.cells #[.int .u8 (ch.toNat:Int)] 5));have zb:base≤wr.heap.size:=by have:=hB.size;omega
   have hzz:base≤(wr.alloc (.cells #[.int .u8 (ch.toNat:Int)] 5)).heap.size:=by rw[Qdu];omega
   have R:=H4 hO' hB hs hch;clear hO hO' hB hs hch;go_wp2_with (at_builtin;refine JX R.out.1 rfl _ _ 31 rfl underlying31 i0 I.out.1 I.out.2.1 I.out.2.2.1 I.out.2.2.2 rfl wr.heap.size 1 ch rfl (by rw[(Blk.new wr _ _).cell];rfl) (by omega) hzz ?_);intro v5 w5 o5 g5 _;have B5:=Qn (B:=base) (Below.alloc R.out.2.1 zb (.cells #[.int .u8 (ch.toNat:Int)] 5)) g5 hzz (by intro kk hkk;exact (R.out.1.lt kk hkk).1);obtain⟨a5,c5,rfl⟩:=Qh o5;replace o5:w5.ownsRow base 5 1 (.slice a5 (m+j+1) c5) (m+(j+1)) ((xs++leK n (j+1)).map fun c=>Value.int .u8 (c.toNat:Int)):=by rw[Jl,←Qd0,←R.out.2.2.2];simpa[Qeb] using o5
   have R5:=H2 o5 B5;clear o5 B5 g5 hbs;go_wp2;go_roundw
   case rel=>exact⟨j+1,by omega,by go_num,R5.out.1,R5.out.2⟩
   case measure=>simp[intOf];omega
  ·obtain rfl:j=k:=by omega
   have R:=H2 hO hB;clear hO hB;go_wp2;go_ret;exact⟨_,rfl,R.out.1,R.out.2⟩
theorem GC(n:Nat)(hn:n<18446744073709551616)(w:World):
  Calls prog 125 #[.slice none 0 0,.int .u64 n] w fun e w'=>∃u,e= .returned u∧Below w.heap.size w w'∧CloV (QE n) u w'∧(∀k,u.ownBlock=some k→w.heap.size≤k)∧w'.ownsRow w.heap.size 5 1 u (QI n) ((QE n).map fun c=>Value.int .u8 (c.toNat:Int)):=by
 have cS:=fun w=>TG n hn w;obtain⟨S,hS⟩:=nE (QI n);have S9:1≤S∧S≤9:=by rw[hS];exact Xp n
 have hput:QE n=if n<253 then [UInt8.ofNat n] else if n≤65535 then 253::leK n 2 else if n≤4294967295 then 254::leK n 4 else 255::leK n 8:=rfl
 have hsz:S=if n<253 then 1 else if n≤65535 then 3 else if n≤4294967295 then 5 else 9:=hS
 rw[←hS] at cS;obtain⟨P,hP⟩:=nE (QE n);rw[←hP] at hput ⊢;rw[←hS];have hcase:(S=1∧P=[UInt8.ofNat (n/256^0%256)])∨(S=3∧P=253::leK n 2)∨(S=5∧P=254::leK n 4)∨(S=9∧P=255::leK n 8):=by
  by_cases h1:n<253
  ·rw[Qdm h1] at hput hsz;refine .inl ⟨hsz,?_⟩;rw[hput,QfQ,Nat.div_one,Qez (by omega)]
  ·rw[Qdf h1] at hput hsz;by_cases h2:n≤65535
   ·rw[Qdm h2] at hput hsz;exact .inr (.inl ⟨hsz,hput⟩)
   ·rw[Qdf h2] at hput hsz;by_cases h3:n≤4294967295
    ·rw[Qdm h3] at hput hsz;exact .inr (.inr (.inl ⟨hsz,hput⟩))
    ·rw[Qdf h3] at hput hsz;exact .inr (.inr (.inr ⟨hsz,hput⟩))
 clear hput hsz hS hP hn;obtain⟨i0,hi,hz0,hz1,hz2⟩:=info_parts (show (prog.info? 5).map (fun i=>(i.zero,i.size,i.bytes))=some (some (.int .u8 0),1,1) by kernel_rfl);have I:=H4 hi hz0 hz1 hz2;clear hi hz0 hz1 hz2;have CS:=H2 cS hcase;clear cS hcase;have Si:(0:Int)+(S:Int)=(S:Int):=by omega
 go_enter func125,ntmps125;go_wp2_with fail;refine (CS.out.1 _).mono ?_;rintro e w' ⟨rfl,rfl⟩;go_wp2_with (at_make;refine wpList_make_own _ rfl _ _ 31 rfl w'.heap.size 5 i0 (.int .u8 0) 1 underlying31 I.out.1 I.out.2.1 I.out.2.2.1 .i64 .i64 _ S rfl rfl rfl (by rw[I.out.2.2.2];omega) (by unfold maxLen;omega) (by simp) ?_);intro w2 o2 g2;have B2:Below w'.heap.size w' w2:=Qn (Below.refl w'.heap.size w') g2 (Qde _) (fun k e=>by cases e);have z2:w'.heap.size≤w2.heap.size:=B2.size;have O2:=H2 (show w2.ownsRow w'.heap.size 5 1 (.slice (some ⟨w'.heap.size,0,none⟩) 0 S) 0 (([]:List UInt8).map fun c=>Value.int .u8 (c.toNat:Int)) from o2) B2;clear o2 B2 g2;go_wp2_with (at_builtin;refine XW O2.out.1 rfl _ _ 31 rfl underlying31 i0 I.out.1 I.out.2.1 I.out.2.2.1 I.out.2.2.2 rfl none 0 0 [] rfl (.inl rfl) rfl (fun _=>⟨rfl,rfl⟩) (by omega) z2 ?_);intro v3 w3 o3 g3 n3;have B3:=Qn O2.out.2 g3 z2 (by intro k hk;exact (O2.out.1.lt k hk).1);replace o3:w3.ownsRow w'.heap.size 5 1 v3 0 (([]:List UInt8).map fun c=>Value.int .u8 (c.toNat:Int)):=by simpa using o3
 obtain⟨a3,c3,rfl⟩:=Qh o3;have O3:=H2 o3 B3;clear o3 B3 g3 n3 z2 O2;have fin:∀(u:Value) (W:World),W.ownsRow w'.heap.size 5 1 u S (P.map fun c=>Value.int .u8 (c.toNat:Int))→Below w'.heap.size w' W→∃u',Ending.returned u= .returned u'∧Below w'.heap.size w' W∧CloV P u' W∧(∀k,u'.ownBlock=some k→w'.heap.size≤k)∧W.ownsRow w'.heap.size 5 1 u' S (P.map fun c=>Value.int .u8 (c.toNat:Int)):=fun u W ho hb=>by
  have hlt:=ho.lt;have hoo:=ho;obtain⟨a,c,rfl,e1,e2,e3,e4,e5⟩:=Wk ho;exact⟨_,rfl,hb,⟨a,c,by rw[e1],e2,by rw[e1];exact e3,e4,by rw[e1];exact e5⟩,fun k hk=>(hlt k hk).1,hoo⟩
 have FIN:=Lib.hid fin;clear fin;rcases CS.out.2 with h|h|h|h
 ·obtain⟨rfl,hP⟩:=h;have hv:=J1 n 0 0 rfl;obtain⟨ch,hch⟩:=nE (UInt8.ofNat (n/256^0%256));rw[←hch] at hv hP;have hv':(n:Int)%256=((ch.toNat:Nat):Int):=by simpa using hv
  have HC:=H2 hP hch;clear hv hch hP;have hbs:=Zm ((ch.toNat:Int)) w3;have hO':=Xa O3.out.1 (ba (Below.refl _ _) (.cells #[.int .u8 ((ch.toNat:Int))] 5));have zb:w'.heap.size≤w3.heap.size:=O3.out.2.size;have hzz:w'.heap.size≤(w3.alloc (.cells #[.int .u8 ((ch.toNat:Int))] 5)).heap.size:=by rw[Qdu];omega
  have R4:=Lib.hid hO';clear hO';go_wp2_with (at_builtin;refine JX R4.out rfl _ _ 31 rfl underlying31 i0 I.out.1 I.out.2.1 I.out.2.2.1 I.out.2.2.2 rfl w3.heap.size 1 (ch) rfl (by rw[(Blk.new w3 _ _).cell];rfl) (by omega) hzz ?_);intro v4 w4 o4 g4 n4;have B4:=Qn (B:=w'.heap.size) (Below.alloc O3.out.2 zb (.cells #[.int .u8 ((ch.toNat:Int))] 5)) g4 hzz (by intro kk hkk;exact (R4.out.lt kk hkk).1);replace o4:w4.ownsRow w'.heap.size 5 1 v4 1 (P.map fun c=>Value.int .u8 (c.toNat:Int)):=by rw[HC.out.1];simpa using o4
  obtain⟨a4,c4,rfl⟩:=Qh o4;have O4:=H2 o4 B4;clear o4 B4 g4 hbs R4;go_wp2;go_ret;exact FIN.out _ _ O4.out.1 O4.out.2
 ·obtain⟨rfl,hP⟩:=h;have HC:=Lib.hid hP;clear hP;have hbs:=Zm (253) w3;have hO':=Xa O3.out.1 (ba (Below.refl _ _) (.cells #[.int .u8 (253)] 5));have zb:w'.heap.size≤w3.heap.size:=O3.out.2.size;have hzz:w'.heap.size≤(w3.alloc (.cells #[.int .u8 (253)] 5)).heap.size:=by rw[Qdu];omega
  have R4:=Lib.hid hO';clear hO';go_wp2_with (at_builtin;refine JX R4.out rfl _ _ 31 rfl underlying31 i0 I.out.1 I.out.2.1 I.out.2.2.1 I.out.2.2.2 rfl w3.heap.size 1 (253) rfl (by rw[(Blk.new w3 _ _).cell];rfl) (by omega) hzz ?_);intro v4 w4 o4 g4 n4;have B4:=Qn (B:=w'.heap.size) (Below.alloc O3.out.2 zb (.cells #[.int .u8 (253)] 5)) g4 hzz (by intro kk hkk;exact (R4.out.lt kk hkk).1);replace o4:w4.ownsRow w'.heap.size 5 1 v4 1 (([253]:List UInt8).map fun c=>Value.int .u8 (c.toNat:Int)):=by simpa using o4
  obtain⟨a4,c4,rfl⟩:=Qh o4;have O4:=H2 o4 B4;clear o4 B4 g4 hbs R4 n4;go_wp2_with fail;go_loopw [6,41] (fun v i wr=>∃j:Nat,j≤2∧i= .int .i64 j∧wr.ownsRow w'.heap.size 5 1 v (1+j) ((253::leK n j).map fun c=>Value.int .u8 (c.toNat:Int))∧Below w'.heap.size w' wr) (fun _ i _=>2-(intOf i).toNat)
  case atStart=>exact⟨0,Qdw _,rfl,O4.out.1,O4.out.2⟩
  case round=>
   obtain⟨j,hj,rfl,hO,hB⟩:=hrel;obtain⟨a5,c5,rfl⟩:=Qh hO;have O5:=H2 hO hB;clear hO hB;by_cases hlt:j<2
   ·obtain⟨s,hs⟩:=nE (8*j);have hsi:(8:Int)*(j:Int)=(s:Int):=by omega
    have s64:s<64:=by omega
    have jk:(j:Int)<2:=by omega
    have hv:=J1 n s j hs;obtain⟨ch,hch⟩:=nE (UInt8.ofNat (n/256^j%256));rw[←hch] at hv;have HD:=H2 hs hch;clear hs hch;have hbs:=Zm ((ch.toNat:Int)) wr;have hO':=Xa O5.out.1 (ba (Below.refl _ _) (.cells #[.int .u8 ((ch.toNat:Int))] 5));have zb:w'.heap.size≤wr.heap.size:=O5.out.2.size;have hzz:w'.heap.size≤(wr.alloc (.cells #[.int .u8 ((ch.toNat:Int))] 5)).heap.size:=by rw[Qdu];omega
    have R6:=Lib.hid hO';clear hO';go_wp2_with (at_builtin;refine JX R6.out rfl _ _ 31 rfl underlying31 i0 I.out.1 I.out.2.1 I.out.2.2.1 I.out.2.2.2 rfl wr.heap.size 1 (ch) rfl (by rw[(Blk.new wr _ _).cell];rfl) (by omega) hzz ?_);intro v6 w6 o6 g6 n6;have B6:=Qn (B:=w'.heap.size) (Below.alloc O5.out.2 zb (.cells #[.int .u8 ((ch.toNat:Int))] 5)) g6 hzz (by intro kk hkk;exact (R6.out.lt kk hkk).1);obtain⟨a6,c6,rfl⟩:=Qh o6;replace o6:w6.ownsRow w'.heap.size 5 1 (.slice a6 (1+j+1) c6) (1+(j+1)) ((253::leK n (j+1)).map fun c=>Value.int .u8 (c.toNat:Int)):=by rw[Jl,←HD.out.2];simpa[Qeb] using o6
    have O6:=H2 o6 B6;clear o6 B6 g6 hbs R6 n6;go_wp2;go_roundw
    case rel=>exact⟨j+1,by omega,by go_num,O6.out.1,O6.out.2⟩
    case measure=>simp[intOf];omega
   ·obtain rfl:j=2:=by omega
    go_wp2;go_ret;exact FIN.out _ _ (by rw[HC.out];exact O5.out.1) O5.out.2
 ·obtain⟨rfl,hP⟩:=h;have HC:=Lib.hid hP;clear hP;have hbs:=Zm (254) w3;have hO':=Xa O3.out.1 (ba (Below.refl _ _) (.cells #[.int .u8 (254)] 5));have zb:w'.heap.size≤w3.heap.size:=O3.out.2.size;have hzz:w'.heap.size≤(w3.alloc (.cells #[.int .u8 (254)] 5)).heap.size:=by rw[Qdu];omega
  have R4:=Lib.hid hO';clear hO';go_wp2_with (at_builtin;refine JX R4.out rfl _ _ 31 rfl underlying31 i0 I.out.1 I.out.2.1 I.out.2.2.1 I.out.2.2.2 rfl w3.heap.size 1 (254) rfl (by rw[(Blk.new w3 _ _).cell];rfl) (by omega) hzz ?_);intro v4 w4 o4 g4 n4;have B4:=Qn (B:=w'.heap.size) (Below.alloc O3.out.2 zb (.cells #[.int .u8 (254)] 5)) g4 hzz (by intro kk hkk;exact (R4.out.lt kk hkk).1);replace o4:w4.ownsRow w'.heap.size 5 1 v4 1 (([254]:List UInt8).map fun c=>Value.int .u8 (c.toNat:Int)):=by simpa using o4
  obtain⟨a4,c4,rfl⟩:=Qh o4;have O4:=H2 o4 B4;clear o4 B4 g4 hbs R4 n4;go_wp2_with fail;go_loopw [6,41] (fun v i wr=>∃j:Nat,j≤4∧i= .int .i64 j∧wr.ownsRow w'.heap.size 5 1 v (1+j) ((254::leK n j).map fun c=>Value.int .u8 (c.toNat:Int))∧Below w'.heap.size w' wr) (fun _ i _=>4-(intOf i).toNat)
  case atStart=>exact⟨0,Qdw _,rfl,O4.out.1,O4.out.2⟩
  case round=>
   obtain⟨j,hj,rfl,hO,hB⟩:=hrel;obtain⟨a5,c5,rfl⟩:=Qh hO;have O5:=H2 hO hB;clear hO hB;by_cases hlt:j<4
   ·obtain⟨s,hs⟩:=nE (8*j);have hsi:(8:Int)*(j:Int)=(s:Int):=by omega
    have s64:s<64:=by omega
    have jk:(j:Int)<4:=by omega
    have hv:=J1 n s j hs;obtain⟨ch,hch⟩:=nE (UInt8.ofNat (n/256^j%256));rw[←hch] at hv;have HD:=H2 hs hch;clear hs hch;have hbs:=Zm ((ch.toNat:Int)) wr;have hO':=Xa O5.out.1 (ba (Below.refl _ _) (.cells #[.int .u8 ((ch.toNat:Int))] 5));have zb:w'.heap.size≤wr.heap.size:=O5.out.2.size;have hzz:w'.heap.size≤(wr.alloc (.cells #[.int .u8 ((ch.toNat:Int))] 5)).heap.size:=by rw[Qdu];omega
    have R6:=Lib.hid hO';clear hO';go_wp2_with (at_builtin;refine JX R6.out rfl _ _ 31 rfl underlying31 i0 I.out.1 I.out.2.1 I.out.2.2.1 I.out.2.2.2 rfl wr.heap.size 1 (ch) rfl (by rw[(Blk.new wr _ _).cell];rfl) (by omega) hzz ?_);intro v6 w6 o6 g6 n6;have B6:=Qn (B:=w'.heap.size) (Below.alloc O5.out.2 zb (.cells #[.int .u8 ((ch.toNat:Int))] 5)) g6 hzz (by intro kk hkk;exact (R6.out.lt kk hkk).1);obtain⟨a6,c6,rfl⟩:=Qh o6;replace o6:w6.ownsRow w'.heap.size 5 1 (.slice a6 (1+j+1) c6) (1+(j+1)) ((254::leK n (j+1)).map fun c=>Value.int .u8 (c.toNat:Int)):=by rw[Jl,←HD.out.2];simpa[Qeb] using o6
    have O6:=H2 o6 B6;clear o6 B6 g6 hbs R6 n6;go_wp2;go_roundw
    case rel=>exact⟨j+1,by omega,by go_num,O6.out.1,O6.out.2⟩
    case measure=>simp[intOf];omega
   ·obtain rfl:j=4:=by omega
    go_wp2;go_ret;exact FIN.out _ _ (by rw[HC.out];exact O5.out.1) O5.out.2
 ·obtain⟨rfl,hP⟩:=h;have HC:=Lib.hid hP;clear hP;have hbs:=Zm (255) w3;have hO':=Xa O3.out.1 (ba (Below.refl _ _) (.cells #[.int .u8 (255)] 5));have zb:w'.heap.size≤w3.heap.size:=O3.out.2.size;have hzz:w'.heap.size≤(w3.alloc (.cells #[.int .u8 (255)] 5)).heap.size:=by rw[Qdu];omega
  have R4:=Lib.hid hO';clear hO';go_wp2_with (at_builtin;refine JX R4.out rfl _ _ 31 rfl underlying31 i0 I.out.1 I.out.2.1 I.out.2.2.1 I.out.2.2.2 rfl w3.heap.size 1 (255) rfl (by rw[(Blk.new w3 _ _).cell];rfl) (by omega) hzz ?_);intro v4 w4 o4 g4 n4;have B4:=Qn (B:=w'.heap.size) (Below.alloc O3.out.2 zb (.cells #[.int .u8 (255)] 5)) g4 hzz (by intro kk hkk;exact (R4.out.lt kk hkk).1);replace o4:w4.ownsRow w'.heap.size 5 1 v4 1 (([255]:List UInt8).map fun c=>Value.int .u8 (c.toNat:Int)):=by simpa using o4
  obtain⟨a4,c4,rfl⟩:=Qh o4;have O4:=H2 o4 B4;clear o4 B4 g4 hbs R4 n4;go_wp2_with fail;go_loopw [6,41] (fun v i wr=>∃j:Nat,j≤8∧i= .int .i64 j∧wr.ownsRow w'.heap.size 5 1 v (1+j) ((255::leK n j).map fun c=>Value.int .u8 (c.toNat:Int))∧Below w'.heap.size w' wr) (fun _ i _=>8-(intOf i).toNat)
  case atStart=>exact⟨0,Qdw _,rfl,O4.out.1,O4.out.2⟩
  case round=>
   obtain⟨j,hj,rfl,hO,hB⟩:=hrel;obtain⟨a5,c5,rfl⟩:=Qh hO;have O5:=H2 hO hB;clear hO hB;by_cases hlt:j<8
   ·obtain⟨s,hs⟩:=nE (8*j);have hsi:(8:Int)*(j:Int)=(s:Int):=by omega
    have s64:s<64:=by omega
    have jk:(j:Int)<8:=by omega
    have hv:=J1 n s j hs;obtain⟨ch,hch⟩:=nE (UInt8.ofNat (n/256^j%256));rw[←hch] at hv;have HD:=H2 hs hch;clear hs hch;have hbs:=Zm ((ch.toNat:Int)) wr;have hO':=Xa O5.out.1 (ba (Below.refl _ _) (.cells #[.int .u8 ((ch.toNat:Int))] 5));have zb:w'.heap.size≤wr.heap.size:=O5.out.2.size;have hzz:w'.heap.size≤(wr.alloc (.cells #[.int .u8 ((ch.toNat:Int))] 5)).heap.size:=by rw[Qdu];omega
    have R6:=Lib.hid hO';clear hO';go_wp2_with (at_builtin;refine JX R6.out rfl _ _ 31 rfl underlying31 i0 I.out.1 I.out.2.1 I.out.2.2.1 I.out.2.2.2 rfl wr.heap.size 1 (ch) rfl (by rw[(Blk.new wr _ _).cell];rfl) (by omega) hzz ?_);intro v6 w6 o6 g6 n6;have B6:=Qn (B:=w'.heap.size) (Below.alloc O5.out.2 zb (.cells #[.int .u8 ((ch.toNat:Int))] 5)) g6 hzz (by intro kk hkk;exact (R6.out.lt kk hkk).1);obtain⟨a6,c6,rfl⟩:=Qh o6;replace o6:w6.ownsRow w'.heap.size 5 1 (.slice a6 (1+j+1) c6) (1+(j+1)) ((255::leK n (j+1)).map fun c=>Value.int .u8 (c.toNat:Int)):=by rw[Jl,←HD.out.2];simpa[Qeb] using o6
    have O6:=H2 o6 B6;clear o6 B6 g6 hbs R6 n6;go_wp2;go_roundw
    case rel=>exact⟨j+1,by omega,by go_num,O6.out.1,O6.out.2⟩
    case measure=>simp[intOf];omega
   ·obtain rfl:j=8:=by omega
    go_wp2;go_ret;exact FIN.out _ _ (by rw[HC.out];exact O5.out.1) O5.out.2
end Go.Proofs.YthdaabapiicnhaaGreatDoor
namespace Go.Proofs.YthdaabapiicnhaaGreatDoor
structure Cod (α:Type) where
 put:α→List UInt8
 get:List UInt8→α×Nat×Nat
 ok:α→Prop
 get_put:∀a r,ok a→get (put a++r)=(a,(put a).length,0)
 put_get:∀l a s,get l=(a,s,0)→ok a∧s=(put a).length∧s≤l.length∧l=put a++l.drop s
def Zk(k:Nat)(l:List UInt8):Nat×Nat×Nat:=if l.length<k then (0,k,1) else (leN l k,k,0)
def Qj(k:Nat):Cod Nat where
 put:=fun n=>leK n k
 get:=Zk k
 ok:=fun n=>n<256^k
 get_put:=fun n r h=>by
  unfold Zk;rw[Qdf (by rw[Qdj,Qw];omega),Eu n k r h,Qw]
 put_get:=fun l n s h=>by
  unfold Zk at h;split at h
  ·injection h with h1 h2;injection h2 with h2 h3;cases h3
  ·rename_i hl;injection h with h1 h2
   injection h2 with h2 h3
   subst h1 h2;refine⟨XQ l k,by rw[Qw],by omega,?_⟩;rw[Vi l k (by omega),QeU]
def Zh(k:Nat)(l:List UInt8):List UInt8×Nat×Nat:=if l.length<k then ([],0,1) else (l.take k,k,0)
def QU(k:Nat):Cod (List UInt8) where
 put:=fun n=>n
 get:=Zh k
 ok:=fun n=>n.length=k
 get_put:=fun n r h=>by
  unfold Zh;rw[Qdf (by rw[Qdj];omega),←h,List.take_left]
 put_get:=fun l n s h=>by
  unfold Zh at h;split at h
  ·injection h with h1 h2;injection h2 with h2 h3;cases h3
  ·rename_i hl;injection h with h1 h2
   injection h2 with h2 h3
   subst h1 h2;have e:(l.take k).length=k:=by rw[Qds];omega
   exact⟨e,e.symm,by omega,(QeU k l).symm⟩
def Cod.pair{α β:Type}[Inhabited α][Inhabited β](A:Cod α)(B:Cod β):Cod (α×β) where
 put:=fun x=>A.put x.1++B.put x.2
 get:=fun l=>if (A.get l).2.2≠0 then (default,0,(A.get l).2.2) else if (B.get (l.drop (A.get l).2.1)).2.2≠0 then (default,0,(B.get (l.drop (A.get l).2.1)).2.2)
  else (((A.get l).1,(B.get (l.drop (A.get l).2.1)).1),(A.get l).2.1+(B.get (l.drop (A.get l).2.1)).2.1,0)
 ok:=fun x=>A.ok x.1∧B.ok x.2
 get_put:=fun x r h=>by
  have e1:=A.get_put x.1 (B.put x.2++r) h.1;have e2:=B.get_put x.2 r h.2;have ed:(A.put x.1++(B.put x.2++r)).drop (A.put x.1).length=B.put x.2++r:=QfF;rw[Qd0,e1];simp only[ed,e2];rw[Qdf (by simp),Qdf (by simp),Qdj]
 put_get:=fun l x s h=>by
  split at h
  ·rename_i h1;injection h with h2 h3;injection h3 with h3 h4;exact absurd h4 h1
  ·rename_i h1;split at h
   ·rename_i h2;injection h with h3 h4;injection h4 with h4 h5;exact absurd h5 h2
   ·rename_i h2;injection h with h3 h4
    injection h4 with h4 h5
    subst h3 h4;have q1:=A.put_get l _ _ (show A.get l=((A.get l).1,(A.get l).2.1,0) by rw[←Classical.not_not.1 h1]);have q2:=B.put_get (l.drop (A.get l).2.1) _ _ (show B.get (l.drop (A.get l).2.1)=((B.get (l.drop (A.get l).2.1)).1,(B.get (l.drop (A.get l).2.1)).2.1,0) by rw[←Classical.not_not.1 h2]);rw[Qdq] at q2;refine⟨⟨q1.1,q2.1⟩,by rw[Qdj,←q1.2.1,←q2.2.1],by omega,?_⟩;rw[Qd0,←Qei,←q2.2.2.2,←q1.2.2.2]
def Xu{α:Type}(A:List UInt8→α×Nat×Nat):Nat→List UInt8→List α×Nat×Nat
 | 0,_=>([],0,0)
 | k+1,l=>if (A l).2.2≠0 then ([],0,(A l).2.2) else if (Xu A k (l.drop (A l).2.1)).2.2≠0 then ([],0,(Xu A k (l.drop (A l).2.1)).2.2)
  else ((A l).1::(Xu A k (l.drop (A l).2.1)).1,(A l).2.1+(Xu A k (l.drop (A l).2.1)).2.1,0)
def Ju{α:Type}(P:α→List UInt8)(l:List α):List UInt8:=l.flatMap P
theorem Zy{α:Type}(P:α→List UInt8)(x:α)(l:List α):Ju P (x::l)=P x++Ju P l:=QeK
theorem RM{α:Type}(A:Cod α):∀(l:List α) (r:List UInt8),(∀x∈l,A.ok x)→Xu A.get l.length (Ju A.put l++r)=(l,(Ju A.put l).length,0)
 | [],r,_=>rfl
 | x::l,r,h=>by
  have e1:=A.get_put x (Ju A.put l++r) (h x (by simp));have e2:=RM A l r fun y hy=>h y (by simp[hy]);have ed:(A.put x++(Ju A.put l++r)).drop (A.put x).length=Ju A.put l++r:=QfF;rw[Zy,Qd0,QdL];unfold Xu;rw[e1];simp only[ed,e2];rw[Qdf (by simp),Qdf (by simp),Qdj]
theorem HJ{α:Type}(A:Cod α):∀(k:Nat) (l:List UInt8) (x:List α) (s:Nat),Xu A.get k l=(x,s,0)→x.length=k∧(∀y∈x,A.ok y)∧s=(Ju A.put x).length∧s≤l.length∧l=Ju A.put x++l.drop s
 | 0,l,x,s,h=>by
  unfold Xu at h;injection h with h1 h2
  injection h2 with h2 h3
  subst h1 h2;exact⟨rfl,(fun y hy=>by cases hy),rfl,Qdw _,rfl⟩
 | k+1,l,x,s,h=>by
  unfold Xu at h;split at h
  ·rename_i h1;injection h with h2 h3;injection h3 with h3 h4;exact absurd h4 h1
  ·rename_i h1;split at h
   ·rename_i h2;injection h with h3 h4;injection h4 with h4 h5;exact absurd h5 h2
   ·rename_i h2;injection h with h3 h4
    injection h4 with h4 h5
    subst h3 h4;have q1:=A.put_get l _ _ (show A.get l=((A.get l).1,(A.get l).2.1,0) by rw[←Classical.not_not.1 h1]);have q2:=HJ A k (l.drop (A.get l).2.1) _ _ (show Xu A.get k (l.drop (A.get l).2.1)=((Xu A.get k (l.drop (A.get l).2.1)).1,(Xu A.get k (l.drop (A.get l).2.1)).2.1,0) by rw[←Classical.not_not.1 h2]);rw[Qdq] at q2;refine⟨by rw[QdL,q2.1],fun y hy=>?_,?_,by omega,?_⟩
    ·rcases QdW.1 hy with rfl|hy
     ·exact q1.1
     ·exact q2.2.1 y hy
    ·rw[Zy,Qdj,←q1.2.1,←q2.2.2.1]
    ·rw[Zy,Qd0,←Qei,←q2.2.2.2.2,←q1.2.2.2]
def JD{α:Type}(A:List UInt8→α×Nat×Nat)(most:Nat)(l:List UInt8):List α×Nat×Nat:=
 if (Qg l most).2.2≠0 then ([],0,(Qg l most).2.2) else if (Xu A (Qg l most).1 (l.drop (Qg l most).2.1)).2.2≠0 then ([],0,(Xu A (Qg l most).1 (l.drop (Qg l most).2.1)).2.2)
 else ((Xu A (Qg l most).1 (l.drop (Qg l most).2.1)).1,(Qg l most).2.1+(Xu A (Qg l most).1 (l.drop (Qg l most).2.1)).2.1,0)
def Cu{α:Type}(P:α→List UInt8)(l:List α):List UInt8:=QE l.length++Ju P l
def XF{α:Type}(A:Cod α)(most:Nat)(hm:most≤2147483647):Cod (List α) where
 put:=Cu A.put
 get:=JD A.get most
 ok:=fun l=>l.length≤most∧∀x∈l,A.ok x
 get_put:=fun x r h=>by
  have e1:=Ds x.length (Ju A.put x++r) most h.1 (by omega);have e2:=RM A x r h.2;have ed:(QE x.length++(Ju A.put x++r)).drop (QI x.length)=Ju A.put x++r:=by rw[←Xd];exact QfF
  unfold JD Cu;rw[Qd0,e1];simp only[ed,e2];rw[Qdf (by simp),Qdf (by simp),Qdj,Xd]
 put_get:=fun l x s h=>by
  unfold JD at h;split at h
  ·rename_i h1;injection h with h2 h3;injection h3 with h3 h4;exact absurd h4 h1
  ·rename_i h1;split at h
   ·rename_i h2;injection h with h3 h4;injection h4 with h4 h5;exact absurd h5 h2
   ·rename_i h2;injection h with h3 h4
    injection h4 with h4 h5
    have q1:=YI (show Qg l most=((Qg l most).1,(Qg l most).2.1,0) by rw[←Classical.not_not.1 h1]);have q2:=HJ A (Qg l most).1 (l.drop (Qg l most).2.1) _ _ (show Xu A.get (Qg l most).1 (l.drop (Qg l most).2.1)=((Xu A.get (Qg l most).1 (l.drop (Qg l most).2.1)).1,(Xu A.get (Qg l most).1 (l.drop (Qg l most).2.1)).2.1,0) by rw[←Classical.not_not.1 h2]);rw[h3] at q2;rw[Qdq] at q2;refine⟨⟨by omega,q2.2.1⟩,?_,by omega,?_⟩
    ·unfold Cu;rw[Qdj,Xd,q2.1,←q1.2.2.1,←q2.2.2.1,h4]
    ·unfold Cu;rw[←h4,Qd0,←Qei,q2.1,←q2.2.2.2.2];exact q1.2.2.2.2
def Rn(l:List UInt8):Unit×Nat×Nat:=if l.length<1 then ((),0,1) else if l.getD 0 0≠0 then ((),0,2) else ((),1,0)
def QV:Cod Unit where
 put:=fun _=>[0]
 get:=Rn
 ok:=fun _=>True
 get_put:=fun _ r _=>by
  unfold Rn;rw[Qdf (by simp),Qdf (by simp[List.getD])];rfl
 put_get:=fun l a s h=>by
  unfold Rn at h;split at h
  ·injection h with h1 h2;injection h2 with h2 h3;cases h3
  ·rename_i hl;split at h
   ·injection h with h1 h2;injection h2 with h2 h3;cases h3
   ·rename_i hz;injection h with h1 h2
    injection h2 with h2 h3
    subst h2;refine⟨trivial,rfl,by omega,?_⟩;have e:=Wz l (by omega);rw[Classical.not_not.1 hz] at e;exact e
abbrev Hd:=Nat×List UInt8×List UInt8×Nat×Nat×Nat
def QJ:Cod Hd:=(Qj 4).pair ((QU 32).pair ((QU 32).pair ((Qj 4).pair ((Qj 4).pair (Qj 4)))))
def Tz(l:List UInt8):UInt8×Nat×Nat:=if l.length<1 then (0,0,1) else (l.getD 0 0,1,0)
def PQ:Cod UInt8 where
 put:=fun x=>[x]
 get:=Tz
 ok:=fun _=>True
 get_put:=fun x r _=>by
  unfold Tz;rw[Qdf (by simp)];rfl
 put_get:=fun l a s h=>by
  unfold Tz at h;split at h
  ·injection h with h1 h2;injection h2 with h2 h3;cases h3
  ·rename_i hl;injection h with h1 h2
   injection h2 with h2 h3
   subst h1 h2;exact⟨trivial,rfl,by omega,Wz l (by omega)⟩
theorem F1(l:List UInt8):Ju PQ.put l=l:=by
 induction l with
 | nil=>rfl
 | cons x t ih=>rw[Zy,ih];rfl
def QL(most:Nat)(h:most≤2147483647):Cod (List UInt8):=XF PQ most h
theorem GW(most:Nat)(h:most≤2147483647)(l:List UInt8):(QL most h).put l=QE l.length++l:=by
 show QE l.length++Ju PQ.put l=_;rw[F1]
def Xq(most:Nat)(h:most≤2147483647):Cod (List (List UInt8)):=XF (QU 32) most h
abbrev Itm:=Nat×List UInt8
def Xk:Cod (List Itm):=XF ((Qj 4).pair (QU 32)) 50000 (by decide)
def QZ:Cod (List (Hd×Unit)):=XF (QJ.pair QV) 2000 (by decide)
abbrev ZT:=List UInt8×Nat×List UInt8×Nat
abbrev J5:=Nat×List UInt8
def Yn:Cod ZT:=(QU 32).pair ((Qj 4).pair ((QL 10000 (by decide)).pair (Qj 4)))
def XG:Cod J5:=(Qj 8).pair (QL 10000 (by decide))
def VA{α:Type}(A:Cod (List α)):Cod (List α) where
 put:=A.put
 get:=fun l=>if (A.get l).2.2≠0 then ([],0,(A.get l).2.2) else if (A.get l).1=[] then ([],0,2) else A.get l
 ok:=fun x=>A.ok x∧x≠[]
 get_put:=fun x r h=>by
  have e:=A.get_put x r h.1;rw[e];simp only;rw[Qdf (by simp),Qdf h.2]
 put_get:=fun l x s h=>by
  split at h
  ·rename_i h1;injection h with h2 h3;injection h3 with h3 h4;exact absurd h4 h1
  ·split at h
   ·injection h with h2 h3;injection h3 with h3 h4;cases h4
   ·rename_i h2;have q:=A.put_get l x s h;rw[h] at h2;exact⟨⟨q.1,h2⟩,q.2⟩
abbrev TxM:=Nat×List ZT×List J5×Nat
def XK:Cod TxM:=(Qj 4).pair ((VA (XF Yn 1000 (by decide))).pair ((XF XG 1000 (by decide)).pair (Qj 4)))
def Cod.whole{α:Type}(A:Cod α)(l:List UInt8):Option α:=if (A.get l).2.2=0∧(A.get l).2.1=l.length then some (A.get l).1 else none
theorem Cod.whole_put{α:Type}(A:Cod α)(a:α)(h:A.ok a):A.whole (A.put a)=some a:=by
 have e:=A.get_put a [] h;rw[QdF] at e;unfold Cod.whole;rw[e,Qdm ⟨rfl,rfl⟩]
theorem Cod.put_whole{α:Type}(A:Cod α){l:List UInt8}{a:α}(h:A.whole l=some a):A.ok a∧A.put a=l:=by
 unfold Cod.whole at h;split at h
 ·rename_i h1;injection h with h
  have q:=A.put_get l a l.length (by rw[←h,←h1.2,←h1.1]);refine⟨q.1,?_⟩;have e:=q.2.2.2;rw[QeN,QdF] at e;exact e.symm
 ·cases h
inductive Bd where
 | ver (x:Nat×Nat×Nat)
 | nil
 | non (x:Nat)
 | ask (x:Nat×List (List UInt8)×List UInt8)
 | hds (x:List (Hd×Unit))
 | its (x:List Itm)
 | mkl (x:Hd×Nat×List (List UInt8)×List UInt8)
 | txm (x:TxM)
def Ka:Cod (Nat×Nat×Nat):=(Qj 4).pair ((Qj 8).pair (Qj 4))
def Nk:Cod (Nat×List (List UInt8)×List UInt8):=(Qj 4).pair ((Xq 101 (by decide)).pair (QU 32))
def GM:Cod (Hd×Nat×List (List UInt8)×List UInt8):=QJ.pair ((Qj 4).pair ((Xq 4096 (by decide)).pair (QL 1024 (by decide))))
def bdP:Bd→List UInt8
 | .ver x=>Ka.put x
 | .nil=>[]
 | .non x=>(Qj 8).put x
 | .ask x=>Nk.put x
 | .hds x=>QZ.put x
 | .its x=>Xk.put x
 | .mkl x=>GM.put x
 | .txm x=>XK.put x
def PC(k:Nat):Bd→Prop
 | .ver x=>k=0∧Ka.ok x
 | .nil=>k=1
 | .non x=>(k=2∨k=3)∧(Qj 8).ok x
 | .ask x=>k=4∧Nk.ok x
 | .hds x=>k=5∧QZ.ok x
 | .its x=>(k=6∨k=7∨k=8)∧Xk.ok x
 | .mkl x=>k=9∧GM.ok x
 | .txm x=>k=10∧XK.ok x
def bdG(k:Nat)(l:List UInt8):Option Bd:=
 if k=0 then (Ka.whole l).map .ver
 else if k=1 then (if l.length=0 then some .nil else none)
 else if k=2∨k=3 then ((Qj 8).whole l).map .non
 else if k=4 then (Nk.whole l).map .ask
 else if k=5 then (QZ.whole l).map .hds
 else if k=6∨k=7∨k=8 then (Xk.whole l).map .its
 else if k=9 then (GM.whole l).map .mkl
 else if k=10 then (XK.whole l).map .txm
 else none
theorem map_some{α β:Type}{f:α→β}{o:Option α}{b:β}(h:o.map f=some b):∃a,o=some a∧f a=b:=by
 cases o with
 | none=>cases h
 | some a=>injection h with h;exact⟨a,rfl,h⟩
theorem QbT{k:Nat}{l:List UInt8}{b:Bd}(h:bdG k l=some b):PC k b∧bdP b=l:=by
 unfold bdG at h
 repeat' split at h
 all_goals first
  | (rename_i hk;obtain⟨a,h1,rfl⟩:=map_some h;have q:=Cod.put_whole _ h1;exact⟨⟨hk,q.1⟩,q.2⟩)
  | (rename_i h0 hk hl;injection h with h;subst h;exact⟨hk,(QdO.1 hl).symm⟩)
  | cases h
theorem bdG_P{k:Nat}{b:Bd}(h:PC k b):bdG k (bdP b)=some b:=by
 unfold bdG;cases b with
 | ver x=>obtain⟨rfl,h⟩:=h;rw[Qdm rfl];exact congrArg _ (Cod.whole_put _ x h)
 | nil=>cases h;rfl
 | non x=>
  obtain⟨h1,h⟩:=h;rw[Qdf (by omega),Qdf (by omega),Qdm h1];exact congrArg _ (Cod.whole_put _ x h)
 | ask x=>
  obtain⟨rfl,h⟩:=h;rw[Qdf (by omega),Qdf (by omega),Qdf (by omega),Qdm rfl];exact congrArg _ (Cod.whole_put _ x h)
 | hds x=>
  obtain⟨rfl,h⟩:=h;rw[Qdf (by omega),Qdf (by omega),Qdf (by omega),Qdf (by omega),Qdm rfl];exact congrArg _ (Cod.whole_put _ x h)
 | its x=>
  obtain⟨h1,h⟩:=h;rw[Qdf (by omega),Qdf (by omega),Qdf (by omega),Qdf (by omega),Qdf (by omega),Qdm h1];exact congrArg _ (Cod.whole_put _ x h)
 | mkl x=>
  obtain⟨rfl,h⟩:=h;rw[Qdf (by omega),Qdf (by omega),Qdf (by omega),Qdf (by omega),Qdf (by omega),Qdf (by omega),Qdm rfl];exact congrArg _ (Cod.whole_put _ x h)
 | txm x=>
  obtain⟨rfl,h⟩:=h;rw[Qdf (by omega),Qdf (by omega),Qdf (by omega),Qdf (by omega),Qdf (by omega),Qdf (by omega),Qdf (by omega),Qdm rfl];exact congrArg _ (Cod.whole_put _ x h)
end Go.Proofs.YthdaabapiicnhaaGreatDoor
namespace Go.Proofs.YthdaabapiicnhaaGreatDoor
open Go.RowKit
end Go.Proofs.YthdaabapiicnhaaGreatDoor
namespace Go.Proofs.YthdaabapiicnhaaGreatDoor
theorem QaZ(l:List UInt8)(h:l.length=4):le4 (leN l 4)=l:=by
 have e:le4 (leN l 4)=leK (leN l 4) 4:=by
  simp[le4,leK,List.range_succ]
 rw[e,Vi l 4 (by omega),Qd8 (by omega)]
theorem Rx{m:Nat}{b:List UInt8}(h:b.take 4=(le4 m).take b.length)(hl:24≤b.length):b.take 4=le4 m:=by
 rw[h,Qd8 (by rw[Xz];omega)]
theorem Cj(l:List UInt8):∃z,l=XS l++List.replicate z 0:=by
 induction l with
 | nil=>exact⟨0,rfl⟩
 | cons x r ih=>
  obtain⟨z,hz⟩:=ih;unfold XS;cases h:XS r with
  | nil=>
   rw[h,QdU] at hz;by_cases hx:x=0
   ·subst hx;simp only[Qdm rfl];exact⟨z+1,by rw[Qfp,←hz];rfl⟩
   ·simp only[Qdf hx];exact⟨z,by rw[Qe0,QdU,←hz]⟩
  | cons y t=>
   simp only;rw[h] at hz;exact⟨z,by rw[Qe0,←hz]⟩
theorem Dm(l:List UInt8)(h:l.length=12):Yo (XS l)=l:=by
 obtain⟨z,hz⟩:=Cj l;have hl:(XS l).length+z=12:=by
  have:=congrArg List.length hz;rw[Qdj,QeV] at this;omega
 unfold Yo;rw[show 12-(XS l).length=z by omega];exact hz.symm
theorem cut5(b:List UInt8)(n:Nat):b.take (24+n)=b.take 4++(b.drop 4).take 12++(b.drop 16).take 4++(b.drop 20).take 4++(b.drop 24).take n:=by
 rw[show 24+n=4+(12+(4+(4+n))) by omega];rw[QeY,QeY,QeY,QeY];simp only[Qei,Qd0,Nat.reduceAdd]
theorem Le{m cap:Nat}{b c p:List UInt8}(h:XA m cap b= .yes c p):b.take (24+p.length)=ZJ m c p++p:=by
 have hy:=Yy h;have hc:c=GV b:=hy.2.2.2.1;have hp:p=YQ b:=hy.2.2.2.2.1;have hs:p.length=Jx b:=hy.2.2.2.2.2;unfold XA at h;split at h
 ·cases h
 rename_i h1;split at h
 ·cases h
 rename_i h2;split at h
 ·cases h
 split at h
 ·cases h
 split at h
 ·cases h
 split at h
 ·cases h
 rename_i h6;have e4:=Rx (Classical.not_not.1 h1) (by omega);have e12:(b.drop 4).take 12=Yo c:=by
  rw[hc];exact (Dm _ (by rw[Qds,Qdq];omega)).symm
 have es:(b.drop 16).take 4=le4 p.length:=by
  rw[hs,Hx];have e:leN (b.drop 16) 4=leN ((b.drop 16).take 4) 4:=Wp fun i hi=>by simp[List.getD,QdH hi]
  rw[e];exact (QaZ _ (by rw[Qds,Qdq];omega)).symm
 have e5:(b.drop 20).take 4=(dbl p).take 4:=by rw[hp];exact (Classical.not_not.1 h6).symm
 have ep:(b.drop 24).take p.length=p:=by rw[hs,hp];rfl
 rw[cut5,e4,e12,es,e5,ep];unfold ZJ;rfl
end Go.Proofs.YthdaabapiicnhaaGreatDoor
namespace Go.Proofs.YthdaabapiicnhaaGreatDoor
open Go.RowKit
theorem F3{c p:List UInt8}(h:XL c=true)(hp:p.length≤4000000):NG c p=0:=by unfold NG;rw[Qdm h,Qdm hp]
theorem Tk{magic:Nat}{c p:List UInt8}(h:XL c=true)(hp:p.length≤4000000):TY magic c p=ZJ magic c p++p:=by unfold TY;rw[Qdm (F3 h hp)]
theorem Cy{magic:Nat}{c p:List UInt8}(h:XL c=true):(ZJ magic c p++p).length=24+p.length:=by
 rw[Tt,Qdj,Vj (Tx h) (by rw[Qds,Jp];rfl)]
end Go.Proofs.YthdaabapiicnhaaGreatDoor
namespace Go.Proofs.YthdaabapiicnhaaGreatDoor
def QaS:List (List UInt8):=
 [[118,101,114,115,105,111,110],[118,101,114,97,99,107],[112,105,110,103],[112,111,110,103],[103,101,116,104,101,97,100,101,114,115],[104,101,97,100,101,114,115],[105,110,118],[103,101,116,100,97,116,97],[110,111,116,102,111,117,110,100],[109,101,114,107,108,101,98,108,111,99,107],[116,120]]
def YL(k:Nat):List UInt8:=QaS.getD k []
def YR(c:List UInt8):Nat→Nat→Option Nat
 | 0,_=>none
 | n+1,k=>if YL k=c then some k else YR c n (k+1)
def JH(c:List UInt8):Option Nat:=YR c 11 0
theorem WN{c:List UInt8}:∀{n k j:Nat},YR c n k=some j→YL j=c∧k≤j∧j<k+n
 | 0,k,j,h=>by cases h
 | n+1,k,j,h=>by
  unfold YR at h;split at h
  ·rename_i e;injection h with h
   subst h;exact⟨e,Qde _,by omega⟩
  ·have:=WN h;exact⟨this.1,by omega,by omega⟩
theorem KN{c:List UInt8}{k:Nat}(h:JH c=some k):YL k=c∧k<11:=by
 have:=WN h;exact⟨this.1,by omega⟩
theorem Dd(k:Nat)(h:k<11):JH (YL k)=some k:=by
 rcases (show k=0∨k=1∨k=2∨k=3∨k=4∨k=5∨k=6∨k=7∨k=8∨k=9∨k=10 by omega) with rfl|rfl|rfl|rfl|rfl|rfl|rfl|rfl|rfl|rfl|rfl <;> decide
theorem Be(k:Nat)(h:k<11):XL (YL k)=true:=by
 rcases (show k=0∨k=1∨k=2∨k=3∨k=4∨k=5∨k=6∨k=7∨k=8∨k=9∨k=10 by omega) with rfl|rfl|rfl|rfl|rfl|rfl|rfl|rfl|rfl|rfl|rfl <;> decide
theorem W7{k:Nat}{b:Bd}(h:PC k b):k<11:=by
 cases b <;> simp only[PC] at h <;> omega
def Vv(magic k:Nat)(b:Bd):List UInt8:=TY magic (YL k) (bdP b)
theorem Mh{magic k n:Nat}{b c p:List UInt8}{x:Bd}(h:XA magic 4000000 b= .yes c p)(hk:JH c=some k)(hx:bdG k p=some x):Vv magic k x=b.take (24+p.length):=by
 have hy:=Yy h;obtain⟨e1,_⟩:=KN hk;have e2:=(QbT hx).2;unfold Vv;rw[e1,e2,Tk hy.2.2.1 hy.2.1,Le h]
theorem Fs{magic k:Nat}{x:Bd}(h:PC k x)(hl:(bdP x).length≤4000000):
  XA magic 4000000 (Vv magic k x)= .yes (YL k) (bdP x)∧JH (YL k)=some k∧bdG k (bdP x)=some x∧(Vv magic k x).length=24+(bdP x).length:=by
 have hk:=W7 h;have hc:=Be k hk;have e:Vv magic k x=ZJ magic (YL k) (bdP x)++bdP x:=Tk hc hl;refine⟨?_,Dd k hk,bdG_P h,?_⟩
 ·rw[e];have:=Og (magic:=magic) (cap:=4000000) (p:=bdP x) [] hc hl (Qde _)
  rwa [QdF] at this
 ·rw[e,Cy hc]
end Go.Proofs.YthdaabapiicnhaaGreatDoor
