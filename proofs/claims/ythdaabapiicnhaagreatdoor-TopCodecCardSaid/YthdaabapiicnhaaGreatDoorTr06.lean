/- Steps of the proof. -/
import Derived.Lib.SlBytesConst
import Derived.Laws.Cover3
import Derived.Test.YthdaabapiicnhaaGreatDoorTr05
set_option linter.all false
set_option maxRecDepth 100000
set_option maxHeartbeats 4000000
open Go.Proofs.Tryz
namespace Go.Proofs.YthdaabapiicnhaaGreatDoor
open Go.RowKit
theorem GH{P:Program}(w:World)(a:Addr)(ty:TypeId)(v:Value)(d:TypeDesc)(hc:w.cell? a=some v)(hu:P.underlying ty=some d)(hd:(match d with | .struct _ | .array _ _=>false|_=>true)=true):
  (loadVar ty a).run P w= .ok v w:=by
 have hagg:(isAgg ty).run P w= .ok false w:=by
  unfold isAgg;rw[Qdl,Qd6 hu w];cases d <;> simp_all
 simp[loadVar,Qdl,hagg,hc]
theorem QaP{P:Program}{Q:Exit→Act→World→Prop}{o:Oper}{A:Act}{w:World}(ty:TypeId)(x:Operand)(ho:o.op= .load ty x)(b:Addr)(hx:A.eval x= .pointer (some b))(v:Value)(hc:w.cell? b=some v)(d:TypeDesc)(hu:P.underlying ty=some d)
  (hd:(match d with | .struct _ | .array _ _=>false|_=>true)=true):o.wp P A w (fun a' w''=>a'=A.put o.dst v∧Below w.heap.size w w'') Q:=by
 refine Xe ?_;unfold execOp;simp only[ho,hx,Instr.loadAt,Instr.sureAddr,Qdl,Qd1,Qdi,GH w b ty v d hc hu hd]
theorem RZ{P:Program}{Q:Exit→Act→World→Prop}{o:Oper}{A:Act}{w:World}(f:FuncId)(args:Array Value)(hrun:(execOp A.eval o).run P w= .ok (.enter f args) w)(G:Value→World→Prop)(h:Calls P f args w fun e w'=>∃u,e= .returned u∧Below w.heap.size w w'∧G u w'):
  o.wp P A w (fun a' w''=>∃u,G u w''∧a'=A.put o.dst u∧Below w.heap.size w w'') Q:=by
 unfold Oper.wp;rw[hrun,Oper.upon_enter];refine h.mono fun e w'' hh=>?_;obtain⟨u,rfl,hb,hG⟩:=hh;exact⟨u,hG,rfl,hb⟩
theorem FF{Q:Exit→Act→World→Prop}{o:Oper}{A:Act}{w:World}(x:Operand)(ho:o.op= .fieldAddr 205 x 2)(g:Nat)(hx:A.eval x= .pointer (some ⟨g,0,none⟩)):
  o.wp prog A w (fun a' w''=>a'=A.put o.dst (.pointer (some ⟨g,9,none⟩))∧Below w.heap.size w w'') Q:=by
 have hf:(Instr.fieldAt 205 (.pointer (some ⟨g,0,none⟩)) 2).run prog w= .ok (.pointer (some ⟨g,9,none⟩)) w:=by kernel_rfl
 refine Xe ?_;unfold execOp;simp only[ho,hx,Qdl,hf];rfl
def JZ(H:List Wd):List UInt8:=H.flatMap fun x=>byB (wn x) 4
theorem WE(H:List Wd)(h:H.length=8):(JZ H).length=32:=by
 obtain⟨x0,x1,x2,x3,x4,x5,x6,x7,rfl⟩:=Gs H h;simp[JZ,Jr]
theorem Wc(H:List Wd)(h:H.length=8)(k j:Nat)(hk:k<8)(hj:j<4):(JZ H).getD (4*k+j) 0=UInt8.ofNat (wn (H.getD k 0)/256^(3-j)%256):=by
 have key:∀(l:List Wd) (k:Nat),k<l.length→(JZ l).getD (4*k+j) 0=(byB (wn (l.getD k 0)) 4).getD j 0:=by
  intro l;induction l with
  | nil=>intro k hk;cases hk
  | cons x l ih=>
   intro k hk;have e:JZ (x::l)=byB (wn x) 4++JZ l:=rfl;rw[e];cases k with
   | zero=>simp[List.getD,Qd3,Jr,hj]
   | succ k=>
    have:=ih k (by simpa using hk);simp only[List.getD,Qd2] at this ⊢;rw[←this,QdB (by rw[Jr];omega),Jr];congr 2;omega
 rw[key H k (by omega),Oz (wn (H.getD k 0)) 4 j hj]
theorem MU(l:List Wd)(k:Nat)(hl:l.length=8)(hk:k<8)(w:World):
  (Instr.index 203 (.agg (Q4 l)) (.int .i64 k)).run prog w= .ok (.int .u32 (wn (l.getD k 0))) w:=by
 obtain⟨i,hi⟩:=Qem.1 (show (prog.info? 22).isSome=true by kernel_rfl);have hs:i.size=1:=by
  have h:(prog.info? 22).map (·.size)=some 1:=by kernel_rfl
  rw[hi] at h;simpa using h
 exact FU (by kernel_rfl) underlying203 hi hs hk (We l k (by omega)) w
def EndF(g:Nat)(SE:Array Value)(ne:Nat)(HF:List Wd):Nat→Value→World→Prop
 | 0,u,_=>u= .agg SE
 | 1,u,_=>u= .pointer (some ⟨g,9,none⟩)
 | 2,u,_=>u= .int .u64 ne
 | 3,u,w=>∃p,u= .slice (some ⟨p,0,none⟩) (YB ne).length (YB ne).length∧Blk w p 5 (Qp (YB ne))
 | 4,u,_=>∃a l c N,u= .agg (stC HF (.slice a l c) N)
 | _,_,_=>True
theorem EndF.keep{g:Nat}{SE:Array Value}{ne:Nat}{HF:List Wd}:∀j u w1 w2,EndF g SE ne HF j u w1→Below w1.heap.size w1 w2→EndF g SE ne HF j u w2
 | 0,_,_,_,h,_=>h
 | 1,_,_,_,h,_=>h
 | 2,_,_,_,h,_=>h
 | 3,_,_,_,⟨p,h1,h2⟩,hb=>⟨p,h1,h2.calls hb⟩
 | 4,_,_,_,h,_=>h
 | _+5,_,_,_,h,_=>h
theorem QbH(H:List Wd)(hH:H.length=8)(a:Option Addr)(rest:List UInt8)(len c n:Nat)(hn:n<W64)(hrl:rest.length=len)(hlc:len≤c)(hcm:c≤maxLen)(w:World)(hrr:RdS w a rest)(hL:Laid w):
  Calls prog 78 #[.agg (stC H (.slice a len c) n)] w fun e w'=>e= .returned (.agg (Qp (JZ (YO (PA H len n) (WD rest len n++YB (Gt len n))))))∧Below w.heap.size w w':=by
 have hl9:len≤9223372036854775807:=by unfold maxLen at hcm;omega
 obtain⟨b,hb⟩:∃b,decide (len=n%64)=b:=⟨_,rfl⟩;have iS:=Z4 (stC H (.slice a len c) n) (XT _ _ _ hH);have cS:=fun w=>G9 H hH a len c n hn hl9 b hb w;obtain⟨S,hS⟩:=nE (stC H (.slice a len c) n);have sS:S.size=10:=by rw[hS];exact XT _ _ _ hH
 rw[←hS] at iS cS ⊢;obtain⟨ae,ce,hae,hce1,hce2,hrae⟩:∃(ae:Option Addr) (ce:Nat),((b=true∧ae=a∧ce=c)∨(b=false∧ae=none∧ce=0))∧(WD rest len n).length≤ce∧ce≤maxLen∧RdS w ae (WD rest len n):=by
  cases hbb:b with
  | true=>
   have:len=n%64:=by rw[hbb] at hb;simpa using hb
   refine⟨a,c,.inl ⟨rfl,rfl,rfl⟩,?_,hcm,?_⟩ <;> simp only[WD,Qdm this]
   ·omega
   ·exact hrr
  | false=>
   have:¬len=n%64:=by rw[hbb] at hb;simpa using hb
   refine⟨none,0,.inr ⟨rfl,rfl,rfl⟩,?_,Qdw _,?_⟩ <;> simp only[WD,Qdf this]
   ·exact Qde _
   ·exact .inl rfl
 obtain⟨SE,hSE⟩:=nE (stC (PA H len n) (.slice ae (WD rest len n).length ce) (Gt len n));have hcase:(b=true∧S=SE)∨(b=false∧stC HI (.slice none 0 0) 0=SE):=by
  rcases hae with ⟨h1,h2,h3⟩|⟨h1,h2,h3⟩
  ·have:len=n%64:=by rw[h1] at hb;simpa using hb
   exact .inl ⟨h1,by rw[hS,hSE,h2,h3];simp only[PA,WD,Gt,Qdm this,hrl]⟩
  ·have:¬len=n%64:=by rw[h1] at hb;simpa using hb
   exact .inr ⟨h1,by rw[hSE,h2,h3];simp only[PA,WD,Gt,Qdf this];rfl⟩
 have hHe:(PA H len n).length=8:=by unfold PA;split;exact hH;exact JV
 have hne:Gt len n<W64:=by unfold Gt;split;exact hn;exact Vs
 have hsane:(WD rest len n).length=Gt len n%64:=by unfold WD Gt;split <;> simp_all
 clear hae hl9 hrl hlc hcm hrr hS;generalize PA H len n=He at *;generalize WD rest len n=Re at *;generalize Gt len n=ne at *;obtain⟨HF,hHF⟩:=nE (YO He (Re++YB ne));have hHFl:HF.length=8:=by rw[hHF];exact J4 _ _ hHe
 rw[←hHF];obtain⟨L,hLb⟩:=nE (JZ HF);rw[←hLb];have FL:=Lib.hid hLb;clear hLb;have sE:SE.size=10:=by rw[hSE];exact XT _ _ _ hHe
 have iE:=Z4 SE sE;have aE:SE.all (·.oneCell')=true:=by rw[hSE];exact ZQ _ _ _ _ _
 have sSE:S.size=SE.size:=by rw[sS,sE]
 have cW:=fun (w2:World) (hb:Below w.heap.size w w2) (p:Nat) (hp:Blk w2 p 5 (Qp (YB ne)))=>
  TB He hHe ae Re Re.length ce ne hne rfl hce1 hce2 (some ⟨p,0,none⟩) (YB ne) (YB ne).length (YB ne).length rfl (Qde _) (by rw[HV];unfold Ze;split <;> omega) (fun h=>by cases h) w2 (hrae.below hb (Qde _)) (.inr ⟨p,0,rfl,hp.lt,fun i hi=>(hp.cell (0+i)).trans (by rw[Qd5];exact Yp _ i hi)⟩) (hL.below hb (Qde _))
 have F:=H7 hSE hHF hHFl hL hHe hne hsane;clear hSE hHF hHFl hL hHe hne hsane hrae hb;have CS:=Lib.hid cS;clear cS;have CW:=Lib.hid cW;clear cW;go_enter func78,ntmps78;go_wp2_with (with_reducible refine V7 ((Blk.newAt w _ S rfl).alloc _) _ _ rfl rfl rfl _ underlying205 iS ?_);refine (CS.out _).mono ?_;rintro e w1 ⟨rfl,hb1⟩;obtain⟨H0,hH0⟩:=nE (Array.replicate 32 (Value.int .u8 0));have A0:Blk w1 w.heap.size 205 S:=((Blk.newAt w _ S rfl).alloc _).calls hb1;have A1:Blk w1 (w.heap.size+1) 27 H0:=by rw[hH0];exact (Blk.second w _ _ _).calls hb1
 have AB:Below w.heap.size w w1:=bt (ba (ba (Below.refl _ _) _) _) hb1;have z0:=A0.lt;have z1:=A1.lt;clear hb1;have HH0:=Lib.hid hH0;clear hH0
 go_upto_if 8 with fail
 go_cut [] (fun wx=>Blk wx w.heap.size 205 SE∧Blk wx (w.heap.size+1) 27 H0∧Below w.heap.size w wx)
 case first=>
  rcases hcase with ⟨h1,h2⟩|⟨h1,h2⟩
  ·subst h1;rw[h2] at A0;have HA:=H3 A0 A1 AB;clear A0 A1 AB h2;go_wp2_with fail;go_meet;exact HA.out
  ·subst h1;have HA:=H3 A0 A1 AB;clear A0 A1 AB;have h2':=Lib.hid h2;clear h2;go_wp2_with fail;refine (Ph _ (F.out.2.2.2.1.below HA.out.2.2 (Qde _))).mono ?_;rintro e w2 ⟨rfl,hb2⟩;rw[h2'.out];have B0:=HA.out.1.calls hb2;have B1:=HA.out.2.1.calls hb2;have BB:=bt HA.out.2.2 hb2;have HB:=H3 B0 B1 BB;clear B0 B1 BB hb2 HA;go_wp2_with (with_reducible refine Ql HB.out.1 _ _ _ _ rfl rfl rfl rfl iE sSE aE ?_);go_meet;exact⟨HB.out.1.row _,HB.out.2.1.rowFar (by omega) _,Qb HB.out.2.2 (by omega) _⟩
 case rest=>
  obtain⟨B0,B1,BB⟩:=hcut;clear hcase sSE iS A0 A1 AB CS z0 z1;have z0:=B0.lt;have z1:=B1.lt;have B:=H3 B0 B1 BB;clear B0 B1 BB;go_wp2_with fail;refine PX [some 10,some 11,some 12,some 13,some 14,none] (EndF w.heap.size SE ne HF) 5 (fun w'=>∃a l c N,Blk w' w.heap.size 205 (stC HF (.slice a l c) N)∧Blk w' (w.heap.size+1) 27 H0∧Below w.heap.size w w') EndF.keep (by kernel_rfl) rfl rfl rfl rfl rfl rfl ⟨.inr ⟨rfl,fun A w' γ hb hf hs=>Oper.wp_mono (by rintro a' w'' ⟨h1,h2⟩;exact⟨_,h1,h2,rfl⟩) (wp_load_row (K:=fun a' w''=>a'=A.put (some 10) (.agg SE)∧Below w'.heap.size w' w'') 205 (.tmp 1) rfl w.heap.size ((hs.2 1 rfl).trans rfl) 205 SE (0,0) _ (B.out.1.below hb z0) underlying205 rfl iE ⟨rfl,Below.refl _ _⟩)⟩,.inr ⟨rfl,fun A w' γ hb hf hs=>Oper.wp_mono (by rintro a' w'' ⟨h1,h2⟩;exact⟨_,h1,h2,rfl⟩) (FF (.tmp 1) rfl w.heap.size ((hs.2 1 rfl).trans rfl))⟩,.inr ⟨rfl,fun A w' γ hb hf hs=>Oper.wp_mono (by rintro a' w'' ⟨h1,h2⟩;exact⟨_,h1,h2,rfl⟩) (QaP 23 (.tmp 11) rfl ⟨w.heap.size,9,none⟩ ((hs.1 1 rfl 11 rfl).trans (hf 1 rfl)) (.int .u64 ne) (by rw[(B.out.1.below hb z0).cell,F.out.1];exact QaA _ _ _ F.out.2.2.2.2.1) _ underlying23 rfl)⟩,.inr ⟨rfl,fun A w' γ hb hf hs=>Oper.wp_mono (by rintro a' w'' ⟨u,⟨p,h1,h4⟩,h2,h3⟩;exact⟨u,h2,h3,p,h1,h4⟩) (RZ 121 _ (QH _ 121 _ rfl rfl (Qc4 (show A.eval (.tmp 12)=_ from (hs.1 2 rfl 12 rfl).trans (hf 2 rfl))) func121 rfl rfl) (fun u w''=>∃p,u= .slice (some ⟨p,0,none⟩) (YB ne).length (YB ne).length∧Blk w'' p 5 (Qp (YB ne))) ((QbC ne F.out.2.2.2.2.2.1 _ rfl w').mono (by rintro e w'' ⟨rfl,h1,h2⟩;exact⟨_,rfl,h1,_,rfl,h2⟩)))⟩,.inr ⟨rfl,fun A w' γ hb hf hs=>by
    obtain⟨p,hp1,hp2⟩:=hf 3 rfl;refine Oper.wp_mono ?_ (RZ 79 _ (QH _ 79 _ rfl rfl (KA (show A.eval (.tmp 10)=_ from (hs.1 0 rfl 10 rfl).trans (hf 0 rfl)) (show A.eval (.tmp 13)=_ from (hs.1 3 rfl 13 rfl).trans hp1)) func79 rfl rfl) (fun u w''=>∃a l c N,u= .agg (stC HF (.slice a l c) N)) ?_)
    ·rintro a' w'' ⟨u,h1,h2,h3⟩;exact⟨u,h2,h3,h1⟩
    ·rw[F.out.1];refine (CW.out w' (bt B.out.2.2 hb) p hp2).mono ?_;rintro e w'' ⟨a2,c2,rfl,_,_,_,hb2⟩;refine⟨_,rfl,hb2,a2,(XJ (Re++YB ne)).length,c2,(ne+(YB ne).length)%W64,?_⟩;rw[F.out.2.1];simp only[PA,WD,Gt,Qdm F.out.2.2.2.2.2.2]⟩,
   .inl ⟨rfl,rfl,fun A w' γ hb hf hs=>by
    obtain⟨a2,l2,c2,N2,hu⟩:=hf 4 (by omega);have s10:(stC HF (.slice a2 l2 c2) N2).size=10:=XT _ _ _ F.out.2.2.1;refine wp_store_row 205 (.tmp 1) (.tmp 14) rfl w.heap.size (stC HF (.slice a2 l2 c2) N2) ((hs.2 1 rfl).trans rfl) ((hs.1 4 rfl 14 rfl).trans hu) 205 SE (B.out.1.below hb z0) (Z4 _ s10) (by rw[sE,s10]) (ZQ _ _ _ _ _) ⟨undef,rfl,a2,l2,c2,N2,?_,?_,?_⟩
    ·exact (B.out.1.below hb z0).row _
    ·exact (B.out.2.1.below hb z1).rowFar (by omega) _
    ·exact Qb (bt B.out.2.2 hb) (Qde _) _⟩,trivial⟩ ?_
  rintro γ wt ⟨at',lt,ct,Nt,hT1,hT2,hT3⟩;simp only[Fr,QdC,Act.put,Qdh,Qdy,Qdz,Qej,Qed];generalize γ 0=s10;generalize γ 1=s11;generalize γ 2=s12;generalize γ 3=s13;generalize γ 4=s14;have hLb:=FL.out;have hLl:L.length=32:=by rw[hLb];exact WE HF F.out.2.2.1
  have i8H:=is8 (Q4 HF) (by rw[XI,F.out.2.2.1]);have zt0:=hT1.lt;have zt1:=hT2.lt;have TT:=H6 hT1 hT2 hT3 hLb hLl F.out.2.2.1;clear hT1 hT2 hT3 hLb hLl B;go_wp2_with (refine wpList_load_mid rfl _ _ rfl w.heap.size 0 rfl (Q4 HF).toList _ (Jw (TT.out.1.alloc _) TT.out.2.2.2.2.2) underlying203 rfl (by simpa using i8H) ?_);go_loopw [17] (fun i wr=>∃k:Nat,k≤8∧i= .int .i64 k∧Blk wr wt.heap.size 27 (Zs L (4*k))∧Blk wr (w.heap.size+1) 27 H0∧Below w.heap.size w wr) (fun i _=>8-(intOf i).toNat)
  case atStart=>
   refine⟨0,by omega,rfl,?_,TT.out.2.1.alloc _,ba TT.out.2.2.1 _⟩;rw[Nat.mul_zero,Ks,TT.out.2.2.2.2.1];exact Blk.new wt _ _
  case round=>
   obtain⟨k,hk,rfl,h0,h1,hb⟩:=hrel;by_cases hlt:k<8
   ·obtain⟨p0,hp0⟩:=nE (4*k);obtain⟨p1,hp1⟩:=nE (p0+1);obtain⟨p2,hp2⟩:=nE (p0+2);obtain⟨p3,hp3⟩:=nE (p0+3);obtain⟨x,hx⟩:=nE (HF.getD k 0);obtain⟨X,hX⟩:=nE (wn x);have hix:=fun w=>MU HF k TT.out.2.2.2.2.2 hlt w;rw[←hx,←hX] at hix;obtain⟨y0,hy0⟩:=nE ((L.getD p0 0).toNat);obtain⟨y1,hy1⟩:=nE ((L.getD p1 0).toNat);obtain⟨y2,hy2⟩:=nE ((L.getD p2 0).toNat);obtain⟨y3,hy3⟩:=nE ((L.getD p3 0).toNat);have q0:(X:Int)/16777216%256=(y0:Int):=by
     rw[hy0,hp0,TT.out.2.2.2.1,←Qea (4*k),Wc HF TT.out.2.2.2.2.2 k 0 hlt (by omega),←hx,←hX];simp
    have q1:(X:Int)/65536%256=(y1:Int):=by
     rw[hy1,hp1,hp0,TT.out.2.2.2.1,Wc HF TT.out.2.2.2.2.2 k 1 hlt (by omega),←hx,←hX];simp
    have q2:(X:Int)/256%256=(y2:Int):=by
     rw[hy2,hp2,hp0,TT.out.2.2.2.1,Wc HF TT.out.2.2.2.2.2 k 2 hlt (by omega),←hx,←hX];simp
    have q3:(X:Int)%256=(y3:Int):=by
     rw[hy3,hp3,hp0,TT.out.2.2.2.1,Wc HF TT.out.2.2.2.2.2 k 3 hlt (by omega),←hx,←hX];simp
    have i0:(4:Int)*(k:Int)=(p0:Int):=by omega
    have i1:(p0:Int)+1=(p1:Int):=by omega
    have i2:(p0:Int)+2=(p2:Int):=by omega
    have i3:(p0:Int)+3=(p3:Int):=by omega
    have b0:p0<32:=by omega
    have b1:p1<32:=by omega
    have b2:p2<32:=by omega
    have b3:p3<32:=by omega
    have n01:p1≠p0:=by omega
    have n02:p2≠p0:=by omega
    have n03:p3≠p0:=by omega
    have n12:p2≠p1:=by omega
    have n13:p3≠p1:=by omega
    have n23:p3≠p2:=by omega
    rw[←hp0] at h0;obtain⟨v0,hv0⟩:=Jf L p0 p0 (by rw[TT.out.2.2.2.2.1];exact b0);obtain⟨v1,hv1⟩:=Jf L p0 p1 (by rw[TT.out.2.2.2.2.1];exact b1);obtain⟨v2,hv2⟩:=Jf L p0 p2 (by rw[TT.out.2.2.2.2.1];exact b2);obtain⟨v3,hv3⟩:=Jf L p0 p3 (by rw[TT.out.2.2.2.2.1];exact b3);have c0:=Qz h0 p0 _ hv0;have c1:=Qz h0 p1 _ hv1;have c2:=Qz h0 p2 _ hv2;have c3:=Qz h0 p3 _ hv3;have f0:=h0.frozen p0;have f1:=h0.frozen p1;have f2:=h0.frozen p2;have f3:=h0.frozen p3;have hki:(k:Int)<8:=by omega
    have HR:=H13 h0 h1 hb hp0 hp1 hp2 hp3 hy0 hy1 hy2 hy3 hx hX;clear h0 h1 hb hp0 hp1 hp2 hp3 hy0 hy1 hy2 hy3 hx hX hv0 hv1 hv2 hv3;go_wp2;obtain⟨h0,h1,hb,hp0,hp1,hp2,hp3,hy0,hy1,hy2,hy3,hx,hX⟩:=HR.out;go_roundw
    case rel=>
     refine⟨k+1,by omega,by go_num,?_,(((h1.far (by omega) _).far (by omega) _).far (by omega) _).far (by omega) _,(((hb.setCell (by simp;omega) _).setCell (by simp;omega) _).setCell (by simp;omega) _).setCell (by simp;omega) _⟩;have hLl:=TT.out.2.2.2.2.1;have s0:=Za L p0 (by omega);have s1:=Za L p1 (by omega);have s2:=Za L p2 (by omega);have s3:=Za L p3 (by omega);rw[←hy0,←hp1] at s0;rw[←hy1,show p1+1=p2 by omega] at s1;rw[←hy2,show p2+1=p3 by omega] at s2;rw[←hy3] at s3;rw[show 4*(k+1)=p3+1 by omega,←s3,←s2,←s1,←s0];exact (((h0.set_ p0 _).set_ p1 _).set_ p2 _).set_ p3 _
    case measure=>simp[intOf];omega
   ·obtain rfl:k=8:=by omega
    rw[show 4*8=32 from rfl,Ha L 32 TT.out.2.2.2.2.1] at h0;obtain⟨C,hC⟩:=nE (Qp L);rw[←hC] at h0;have sC:C.size=32:=by rw[hC,XE];exact TT.out.2.2.2.2.1
    have iC:(prog.info? 27).map (·.size)=some C.size:=by rw[sC];kernel_rfl
    have s1:H0.size=C.size:=by rw[sC,HH0.out];simp
    have aC:C.all (·.oneCell')=true:=by rw[hC];exact Xh L
    have HR:=H4 h0 h1 hb hC;clear h0 h1 hb hC sC;go_wp2_with (first|with_reducible refine PY HR.out.1 _ _ rfl rfl rfl _ _ underlying27 iC ?_|with_reducible refine Ql HR.out.2.1 _ _ _ _ rfl rfl rfl rfl iC s1 aC ?_);obtain⟨h0,h1,hb,hC⟩:=HR.out;refine Qdg (v:=.agg C) ?_ rfl ⟨by rw[hC],Qb hb (by omega) _⟩;exact results_cell_row rfl _ _ _ _ _ (0,0) _ rfl (h1.row _) underlying27 rfl iC
def ZN(t:List UInt8):List UInt8:=JZ (YO HI (t++YB (t.length%W64)))
theorem ZP(t:List UInt8):(ZN t).length=32:=WE _ (J4 _ _ JV)
theorem Qdd(v:Value)(txt:List UInt8)(w:World)(hv:StAt w v txt)(hL:Laid w):
  Calls prog 78 #[v] w fun e w'=>e= .returned (.agg (Qp (ZN txt)))∧Below w.heap.size w w':=by
 obtain⟨a,c,rfl,hra,h1,h2⟩:=hv;have hs:(XJ txt).length=txt.length%W64%64:=by rw[J3];unfold W64;omega
 have h:=QbH (YO HI txt) (J4 _ _ JV) a (XJ txt) _ c (txt.length%W64) (Qen _ Vs) rfl h1 h2 w hra hL;simp only[PA,WD,Gt,Qdm hs] at h;rw[←BJ] at h;exact h
theorem Fb(a':Option Addr)(t:List UInt8)(m c':Nat)(hm:t.length=m)(hc:m≤c')(hc2:m≤140737488355328∧c'≤9223372036854775807)(hno:a'=none→m=0∧c'=0)(w:World)(hr:RdS w a' t)(hL:Laid w):
  Calls prog 48 #[.slice a' m c'] w fun e w'=>e= .returned (.agg (Qp (ZN t)))∧Below w.heap.size w w':=by
 obtain⟨C,hC⟩:=nE (Qp (ZN t));have sC:C.size=32:=by rw[hC,XE];exact ZP t
 have iC:(prog.info? 27).map (·.size)=some C.size:=by rw[sC];kernel_rfl
 have aC:C.all (·.oneCell')=true:=by rw[hC];exact Xh _
 obtain⟨H0,hH0⟩:=nE (Array.replicate 32 (Value.int .u8 0));have s1:H0.size=C.size:=by rw[sC,hH0];simp
 rw[←hC];have F:=H5 hm hr hL hC hH0;clear hm hr hL hC hH0 sC;go_enter func48,ntmps48;go_wp2_with fail;refine (Ph _ (F.out.2.2.1.below (ba (Below.refl _ _) _) (Qde _))).mono ?_;rintro e w1 ⟨rfl,hb1⟩;have A0:Blk w1 w.heap.size 27 H0:=by rw[F.out.2.2.2.2];exact (Blk.new w _ _).calls hb1
 have AB:Below w.heap.size w w1:=bt (ba (Below.refl _ _) _) hb1;have A:=H2 A0 AB;clear A0 AB hb1;go_wp2_with fail;refine (ON _ [] a' t m c' F.out.1 hc hc2 hno w1 (StAt.start w1) (F.out.2.1.below A.out.2 (Qde _)) (F.out.2.2.1.below A.out.2 (Qde _))).mono ?_;rintro e w2 ⟨v2,rfl,hv2,hb2⟩;rw[QdU] at hv2;have B:=H3 (A.out.1.calls hb2) (bt A.out.2 hb2) hv2;clear hb2 hv2 A;go_wp2_with fail;refine (Qdd v2 t w2 B.out.2.2 (F.out.2.2.1.below B.out.2.1 (Qde _))).mono ?_;rintro e w3 ⟨rfl,hb3⟩;rw[←F.out.2.2.2.1];have D:=H2 (B.out.1.calls hb3) (bt B.out.2.1 hb3);clear hb3 B;go_wp2_with (with_reducible refine Ql D.out.1 _ _ _ _ rfl rfl rfl rfl iC s1 aC ?_);refine Qdg (v:=.agg C) ?_ rfl ⟨rfl,Qb D.out.2 (Qde _) _⟩;exact results_cell_row rfl _ _ _ _ _ (0,0) _ rfl (D.out.1.row _) underlying27 rfl iC
theorem Vu(a':Option Addr)(t:List UInt8)(m c':Nat)(hm:t.length=m)(hc:m≤c')(hc2:m≤140737488355328∧c'≤9223372036854775807)(hno:a'=none→m=0∧c'=0)(w:World)(hr:RdS w a' t)(hL:Laid w):
  Calls prog 22 #[.slice a' m c'] w fun e w'=>e= .returned (.agg (Qp (ZN (ZN t))))∧Below w.heap.size w w':=by
 obtain⟨S,hS⟩:=nE (ZN t);have hSl:S.length=32:=by rw[hS];exact ZP t
 obtain⟨C1,hC1⟩:=nE (Qp S);obtain⟨C,hC⟩:=nE (Qp (ZN S));have sC:C.size=32:=by rw[hC,XE];exact ZP S
 have sC1:C1.size=32:=by rw[hC1,XE];exact hSl
 have iC:(prog.info? 27).map (·.size)=some C.size:=by rw[sC];kernel_rfl
 have iC1:(prog.info? 27).map (·.size)=some C1.size:=by rw[sC1];kernel_rfl
 have aC:C.all (·.oneCell')=true:=by rw[hC];exact Xh _
 have aC1:C1.all (·.oneCell')=true:=by rw[hC1];exact Xh _
 have s1:(Array.size (Z32:Array Value))=C1.size:=by rw[sC1];rfl
 have s2:(Array.size (Z32:Array Value))=C.size:=by rw[sC];rfl
 rw[←hS,←hC];have F:=H7 hm hr hL hC hS hC1 hSl;clear hm hr hL hC hS hC1 hSl sC sC1;go_enter func22,ntmps22;go_wp2_with fail;refine (Fb a' t m c' F.out.1 hc hc2 hno _ (F.out.2.1.below (ba (Below.refl _ _) _) (Qde _)) (F.out.2.2.1.below (ba (Below.refl _ _) _) (Qde _))).mono ?_;rintro e w1 ⟨rfl,hb1⟩;rw[←F.out.2.2.2.2.1,←F.out.2.2.2.2.2.1];have A0:Blk w1 w.heap.size 27 Z32:=(Blk.new w _ _).calls hb1;have AB:Below w.heap.size w w1:=bt (ba (Below.refl _ _) _) hb1;have z0:=A0.lt;have N:Blk _ w1.heap.size 27 Z32:=Blk.new w1 27 Z32;have R:=N.row C1;have R0:=(A0.alloc (.cells Z32 27)).rowFar (show w.heap.size≠w1.heap.size by omega) C1;have RB:=Qb (ba AB (.cells Z32 27)) (show w.heap.size≤w1.heap.size from AB.size) C1;have A:=H4 N R R0 RB;clear A0 AB N R R0 RB hb1;go_wp2_with (with_reducible refine Ql A.out.1 _ _ _ _ rfl rfl rfl rfl iC1 s1 aC1 ?_);refine (Fb (some ⟨w1.heap.size,0,none⟩) S 32 32 F.out.2.2.2.2.2.2 (by omega) (by omega) (fun h=>by cases h) _ (.inr ⟨w1.heap.size,0,rfl,A.out.2.1.lt,fun i hi=>(A.out.2.1.cell (0+i)).trans (by rw[Qd5,F.out.2.2.2.2.2.1];exact Yp S i hi)⟩) (F.out.2.2.1.below A.out.2.2.2 (Qde _))).mono ?_;rintro e w2 ⟨rfl,hb2⟩;rw[←F.out.2.2.2.1];have D:=H2 (A.out.2.2.1.calls hb2) (bt A.out.2.2.2 hb2);clear hb2 A;go_wp2_with (with_reducible refine Ql D.out.1 _ _ _ _ rfl rfl rfl rfl iC s2 aC ?_);refine Qdg (v:=.agg C) ?_ rfl ⟨rfl,Qb D.out.2 (Qde _) _⟩;exact results_cell_row rfl _ _ _ _ _ (0,0) _ rfl (D.out.1.row _) underlying27 rfl iC
def le4(n:Nat):List UInt8:=[UInt8.ofNat (n%256),UInt8.ofNat (n/256%256),UInt8.ofNat (n/65536%256),UInt8.ofNat (n/16777216%256)]
theorem Xz(n:Nat):(le4 n).length=4:=rfl
def okC(c:UInt8):Bool:=decide (33≤c.toNat)&&decide (c.toNat≤126)
def XL(s:List UInt8):Bool:=decide (1≤s.length)&&decide (s.length≤12)&&s.all okC
def dbl(t:List UInt8):List UInt8:=ZN (ZN t)
theorem Jp(t:List UInt8):(dbl t).length=32:=ZP _
def Yo(c:List UInt8):List UInt8:=c++List.replicate (12-c.length) 0
def ZJ(magic:Nat)(c p:List UInt8):List UInt8:=le4 magic++Yo c++le4 p.length++(dbl p).take 4
def NG(c p:List UInt8):Nat:=if XL c=true then if p.length≤4000000 then 0 else 3 else 2
def TY(magic:Nat)(c p:List UInt8):List UInt8:=if NG c p=0 then ZJ magic c p++p else []
def YN(most:Int):Nat:=(min (max most 0) 4000000).toNat
def XS:List UInt8→List UInt8
 | []=>[]
 | x::r=>match XS r with
  | []=>if x=0 then [] else [x]
  | y::t=>x::y::t
inductive GR where
 | no (e:Nat)
 | yes (c p:List UInt8)
def Jx(b:List UInt8):Nat:=(b.getD 16 0).toNat+(b.getD 17 0).toNat*256+(b.getD 18 0).toNat*65536+(b.getD 19 0).toNat*16777216
def GV(b:List UInt8):List UInt8:=XS ((b.drop 4).take 12)
def YQ(b:List UInt8):List UInt8:=(b.drop 24).take (Jx b)
def XA(magic cap:Nat)(b:List UInt8):GR:=
 if b.take 4≠(le4 magic).take b.length then .no 5
 else if b.length<24 then .no 1
 else if XL (GV b)=false then .no 2
 else if cap<Jx b then .no 3
 else if b.length<24+Jx b then .no 1
 else if (dbl (YQ b)).take 4≠(b.drop 20).take 4 then .no 4
 else .yes (GV b) (YQ b)
def Vw(magic cap:Nat):Nat→List UInt8→List (List UInt8×List UInt8)×List UInt8×Nat
 | 0,b=>([],b,1)
 | k+1,b=>match XA magic cap b with
  | .no e=>([],b,e)
  | .yes c p=>((c,p)::(Vw magic cap k (b.drop (24+p.length))).1,(Vw magic cap k (b.drop (24+p.length))).2)
def JL(magic cap:Nat)(b:List UInt8):List (List UInt8×List UInt8)×List UInt8×Nat:=Vw magic cap (b.length+1) b
theorem Yy{magic cap:Nat}{b c p:List UInt8}(h:XA magic cap b= .yes c p):24+p.length≤b.length∧p.length≤cap∧XL c=true∧c=GV b∧p=YQ b∧p.length=Jx b:=by
 unfold XA at h
 repeat' split at h
 all_goals try cases h
 rename_i h1 h2 h3 h4 h5 h6;have hl:(YQ b).length=Jx b:=by
  unfold YQ;rw[Qds,Qdq];omega
 refine⟨by omega,by omega,?_,rfl,rfl,hl⟩;cases hc:XL (GV b)
 ·exact absurd hc h3
 ·rfl
theorem Lg(magic cap:Nat):∀(n:Nat) (b:List UInt8),b.length≤n→∀k1 k2,b.length<k1→b.length<k2→Vw magic cap k1 b=Vw magic cap k2 b:=by
 intro n;induction n with
 | zero=>
  intro b hn k1 k2 h1 h2;obtain⟨a,rfl⟩:∃a,k1=a+1:=⟨k1-1,by omega⟩;obtain⟨c,rfl⟩:∃c,k2=c+1:=⟨k2-1,by omega⟩;rw[Vw,Vw];cases hg:XA magic cap b with
  | no e=>rfl
  | yes c p=>have:=(Yy hg).1;omega
 | succ n ih=>
  intro b hn k1 k2 h1 h2;obtain⟨a,rfl⟩:∃a,k1=a+1:=⟨k1-1,by omega⟩;obtain⟨c',rfl⟩:∃c,k2=c+1:=⟨k2-1,by omega⟩;rw[Vw,Vw];cases hg:XA magic cap b with
  | no e=>rfl
  | yes c p=>
   have:=(Yy hg).1;have hl:(b.drop (24+p.length)).length=b.length-(24+p.length):=Qdq;have e:=ih (b.drop (24+p.length)) (by omega) a c' (by omega) (by omega);simp only[e]
theorem Di(magic cap:Nat)(k:Nat)(b:List UInt8)(h:b.length<k):Vw magic cap k b=Vw magic cap (b.length+1) b:=
 Lg magic cap b.length b (Qde _) k _ h (Qec _)
theorem Bk(magic cap:Nat)(b:List UInt8):JL magic cap b=match XA magic cap b with
  | .no e=>([],b,e)
  | .yes c p=>((c,p)::(JL magic cap (b.drop (24+p.length))).1,(JL magic cap (b.drop (24+p.length))).2):=by
 rw[JL,Vw];cases hg:XA magic cap b with
 | no e=>rfl
 | yes c p=>
  have h1:=(Yy hg).1;have hl:(b.drop (24+p.length)).length<b.length:=by rw[Qdq];omega
  simp only[JL,Di magic cap b.length _ hl]
theorem RJ{a b:Bool}(h:a=b):Ending.returned (.bool a)= .returned (.bool b):=by rw[h]
theorem Oy(m:Int):min (max m 0) 4000000=(YN m:Int):=by unfold YN;omega
theorem EI(m:Int):YN m≤4000000:=by unfold YN;omega
theorem Ty(n:Nat)(h:n≤4000000):YN (n:Int)=n:=by unfold YN;omega
theorem VZ(m:Int)(w:World):Calls prog 21 #[.int .i64 m] w fun e w'=>e= .returned (.int .i64 (YN m:Nat))∧w'=w:=by
 have h:=Oy m;obtain⟨k,hk⟩:=nE (YN m);rw[←hk] at h ⊢;clear hk;go_enter func21,ntmps21;go_wp2;go_ret;exact⟨by first|rfl|rw[h]|exact Wh h,rfl⟩
def QcV(magic cap:Nat)(v:Value)(bad:Nat):Array Value:=#[.int .u32 magic,.int .i64 cap,v,.int .i64 bad]
theorem QbM(c:Array Value)(h:c.size=4):(prog.info? 117).map (·.size)=some c.size:=by rw[h];kernel_rfl
theorem Fe(magic:Nat)(m:Int)(w:World):Calls prog 168 #[.int .u32 magic,.int .i64 m] w fun e w'=>e= .returned (.agg (QcV magic (YN m) (.slice none 0 0) 0))∧Below w.heap.size w w':=by
 have cB:=fun w=>VZ m w;obtain⟨k,hk⟩:=nE (YN m);rw[←hk] at cB ⊢;clear hk;have CB:=Lib.hid cB;clear cB;go_enter func168,ntmps168;go_wp2_with fail;refine (CB.out _).mono ?_;rintro e w' ⟨rfl,rfl⟩;go_wp2;refine Qdg (v:=.agg #[.int .u32 magic,.int .i64 k,.slice none 0 0,.int .i64 0]) (by simp[results,results168,go_sem]) rfl ⟨rfl,ba (Below.refl _ _) _⟩
theorem OH(l:List UInt8)(p:UInt8→Bool)(k:Nat)(hk:k<l.length)(h:(l.take k).all p=true):(l.take (k+1)).all p=p (l.getD k 0):=by
 rw[QeI,Qfv,h,Qdk hk];simp[List.getD,hk]
theorem P3(c:List UInt8)(hc:c.length≤9223372036854775807)(w:World):Calls prog 20 #[.string (Xg c)] w fun e w'=>e= .returned (.bool (XL c))∧w'=w:=by
 obtain⟨n,hn⟩:=nE (c.length);have hsz:(Xg c).size=n:=by rw[hn];simp[Xg,ByteArray.size]
 have hix:∀(j:Nat),j<n→∀w:World,(Instr.index 9 (.string (Xg c)) (.int .i64 j)).run prog w= .ok (.int .u8 (c.getD j 0).toNat) w:=fun j hj w=>by
  have h1:j<(Xg c).size:=by omega
  have b:(0:Int)≤(j:Int)∧(j:Int)<((Xg c).size:Int):=by omega
  have e:(Xg c)[j]'h1=c.getD j 0:=by
   have h2:j<c.length:=by omega
   have e:(Xg c)[j]'h1=c.toArray[j]'(by simpa using h2):=rfl;rw[e];simp[h2]
  simp[Instr.index,Qd6 underlying9,asIntOf,b,go_sem,h1,e]
 obtain⟨S,hS⟩:=nE (Xg c);rw[←hS] at hsz hix ⊢;clear hS;rw[hn] at hsz;by_cases h1:n<1
 ·have e:XL c=false:=by unfold XL;rw[decide_eq_false (by omega)];rfl
  have h1':(n:Int)<1:=by omega
  have E:=H2 e hn;clear e;rw[←hn] at hsz;clear hn hix;go_enter func20,ntmps20;go_wp2;go_ret;exact⟨RJ E.out.1.symm,rfl⟩
 have h1':¬(n:Int)<1:=by omega
 by_cases h2:12<n
 ·have e:XL c=false:=by unfold XL;rw[decide_eq_false (show ¬c.length≤12 by omega),Bool.and_false];rfl
  have h2':(12:Int)<(n:Int):=by omega
  have E:=H2 e hn;clear e;rw[←hn] at hsz;clear hn hix;go_enter func20,ntmps20;go_wp2;go_ret;exact⟨RJ E.out.1.symm,rfl⟩
 have h2':¬(12:Int)<(n:Int):=by omega
 have HX:=H2 hix hn;clear hix;rw[←hn] at hsz;clear hn;go_enter func20,ntmps20;go_wp2;go_loopw [14] (fun i wr=>∃k:Nat,k≤n∧i= .int .i64 k∧(c.take k).all okC=true∧wr=w) (fun i _=>n-(intOf i).toNat)
 case atStart=>exact⟨0,by omega,rfl,rfl,rfl⟩
 case round=>
  obtain⟨k,hk,rfl,ha,rfl⟩:=hrel;by_cases hlt:k<n
  ·have hix:=fun w=>HX.out.1 k hlt w;have hall:=OH c okC k (by have:=HX.out.2;omega) ha;obtain⟨x,hx⟩:=nE ((c.getD k 0).toNat);have hok:okC (c.getD k 0)=(decide (33≤x)&&decide (x≤126)):=by unfold okC;rw[hx]
   rw[←hx] at hix;have hkn:(k:Int)<(n:Int):=by omega
   have H:=H4 ha hall hx hok;clear ha hall hx hok;by_cases g1:x<33
   ·have g1':(x:Int)<33:=by omega
    go_wp2;go_ret;have e:XL c=false:=by
     cases hcc:XL c with
     | false=>rfl
     | true=>
      unfold XL at hcc;simp only[Qdo] at hcc;have hq:=QdG.1 hcc.2 (c.getD k 0) (by rw[List.getD,Qdk (by have:=HX.out.2;omega)];exact QfL _);rw[H.out.2.2.2,decide_eq_false (by omega)] at hq;cases hq
    exact⟨RJ e.symm,rfl⟩
   have g1':¬(x:Int)<33:=by omega
   by_cases g2:126<x
   ·have g2':(126:Int)<(x:Int):=by omega
    go_wp2;go_ret;have e:XL c=false:=by
     cases hcc:XL c with
     | false=>rfl
     | true=>
      unfold XL at hcc;simp only[Qdo] at hcc;have hq:=QdG.1 hcc.2 (c.getD k 0) (by rw[List.getD,Qdk (by have:=HX.out.2;omega)];exact QfL _);rw[H.out.2.2.2,decide_eq_false (show ¬x≤126 by omega),Bool.and_false] at hq;cases hq
    exact⟨RJ e.symm,rfl⟩
   have g2':¬(126:Int)<(x:Int):=by omega
   go_wp2;go_roundw
   case rel=>
    refine⟨k+1,by omega,by go_num,?_,trivial⟩;rw[H.out.2.1,H.out.2.2.2,decide_eq_true (by omega),decide_eq_true (by omega)];rfl
   case measure=>simp[intOf];omega
  ·obtain rfl:k=n:=by omega
   have e:XL c=true:=by
    unfold XL;have hl:=HX.out.2;rw[Qd8 (by omega)] at ha;rw[ha,decide_eq_true (by omega),decide_eq_true (by omega)];rfl
   have E:=Lib.hid e;clear e ha;go_wp2;go_ret;exact⟨RJ E.out.symm,rfl⟩
theorem Qbu(a b c d:Int)(w:World):(Instr.buildSlice 31 4 #[(0,.int .u8 a),(1,.int .u8 b),(2,.int .u8 c),(3,.int .u8 d)]).run prog w= .ok (.slice (some ⟨w.heap.size,0,none⟩) 4 4) (w.alloc (.cells #[.int .u8 a,.int .u8 b,.int .u8 c,.int .u8 d] 5)):=by
 obtain⟨i,hi⟩:=Qem.1 (show (prog.info? 5).isSome=true by kernel_rfl);have h1:i.size=1:=by
  have:(prog.info? 5).map (·.size)=some 1:=by kernel_rfl
  rw[hi] at this;simpa using this
 unfold Instr.buildSlice;simp[Qd6 underlying31,go_sem,sizeOf,typeInfo,hi,h1,Tryz.zeroValue5,Instr.fill,Value.cells,newRow]
theorem Cd(base:Nat)(v:Value)(n:Nat)(xs:List UInt8)(k:Nat)(hk:k<4294967296)(w:World)(hn:n+4≤140737488355328)(hb:base≤w.heap.size)(ho:w.ownsRow base 5 1 v n (xs.map fun c=>Value.int .u8 (c.toNat:Int))):
  Calls prog 58 #[v,.int .u32 k] w fun e w'=>∃u,e= .returned u∧w'.ownsRow base 5 1 u (n+4) ((xs++le4 k).map fun c=>Value.int .u8 (c.toNat:Int))∧w.grownBy w' v.ownBlock:=by
 obtain⟨va,vc,rfl⟩:=Qh ho;obtain⟨i0,hi,hz0,hz1,hz2⟩:=info_parts (show (prog.info? 5).map (fun i=>(i.zero,i.size,i.bytes))=some (some (.int .u8 0),1,1) by kernel_rfl);have I:=H4 hi hz0 hz1 hz2;clear hi hz0 hz1 hz2;obtain⟨b0,h0⟩:=nE (k%256);obtain⟨b1,h1⟩:=nE (k/256%256);obtain⟨b2,h2⟩:=nE (k/65536%256);obtain⟨b3,h3⟩:=nE (k/16777216%256);have e0:(k:Int)%256=(b0:Int):=by omega
 have e1:(k:Int)/256%256=(b1:Int):=by omega
 have e2:(k:Int)/65536%256=(b2:Int):=by omega
 have e3:(k:Int)/16777216=(b3:Int):=by omega
 have hle:le4 k=[UInt8.ofNat b0,UInt8.ofNat b1,UInt8.ofNat b2,UInt8.ofNat b3]:=by unfold le4;rw[h0,h1,h2,h3]
 have q0:(UInt8.ofNat b0).toNat=b0:=by simp;omega
 have q1:(UInt8.ofNat b1).toNat=b1:=by simp;omega
 have q2:(UInt8.ofNat b2).toNat=b2:=by simp;omega
 have q3:(UInt8.ofNat b3).toNat=b3:=by simp;omega
 have O:=H6 ho hle q0 q1 q2 q3;clear ho hle q0 q1 q2 q3 h0 h1 h2 h3;have hbs:=Qbu b0 b1 b2 b3;have hrd:RdS (w.alloc (.cells #[.int .u8 b0,.int .u8 b1,.int .u8 b2,.int .u8 b3] 5)) (some ⟨w.heap.size,0,none⟩) (le4 k):=.inr ⟨w.heap.size,0,rfl,by simp,fun i hi=>by
  rw[Xz] at hi;rw[Qd5,(Blk.new w _ _).cell,O.out.2.1];rcases (show i=0∨i=1∨i=2∨i=3 by omega) with rfl|rfl|rfl|rfl
  ·show some (Value.int .u8 b0)=some (.int .u8 ((UInt8.ofNat b0).toNat:Int));rw[O.out.2.2.1]
  ·show some (Value.int .u8 b1)=some (.int .u8 ((UInt8.ofNat b1).toNat:Int));rw[O.out.2.2.2.1]
  ·show some (Value.int .u8 b2)=some (.int .u8 ((UInt8.ofNat b2).toNat:Int));rw[O.out.2.2.2.2.1]
  ·show some (Value.int .u8 b3)=some (.int .u8 ((UInt8.ofNat b3).toNat:Int));rw[O.out.2.2.2.2.2]⟩
 have HR:=Lib.hid hrd;clear hrd;go_enter func58,ntmps58;go_wp2_with (at_builtin;refine XW (O.out.1.alloc (.cells #[.int .u8 b0,.int .u8 b1,.int .u8 b2,.int .u8 b3] 5)) rfl _ _ 31 rfl underlying31 i0 I.out.1 I.out.2.1 I.out.2.2.1 I.out.2.2.2 rfl (some ⟨w.heap.size,0,none⟩) 4 4 (le4 k) rfl HR.out rfl (fun h=>by cases h) (by omega) (by simp;omega) ?_);intro v' w' h2 h3 h4;have G:=H2 h2 h3;clear h2 h3 h4;obtain⟨ua,uc,rfl⟩:=Qh G.out.1;go_wp2;go_ret;refine⟨.slice ua (n+4) uc,rfl,by rw[QdR];exact G.out.1,?_⟩;exact⟨(G.out.2.os).trans rfl,G.out.2.tape,G.out.2.output,Qdx (by simp) G.out.2.size,fun j hj hne=>(G.out.2.block j (by simp;omega) hne).trans (Below.heap_alloc w _ j hj)⟩
theorem Kc(x:UInt8):∀l:List UInt8,XS (l++[x])=if x=0 then XS l else l++[x]
 | []=>by
  by_cases h:x=0 <;> simp[XS,h]
 | y::r=>by
  rw[Qe0,XS,Kc x r];by_cases h:x=0
  ·rw[Qdm h,Qdm h,XS]
  ·rw[Qdf h,Qdf h];cases r <;> rfl
theorem Ch(l:List UInt8)(k:Nat)(h:k<l.length):XS (l.take (k+1))=if l.getD k 0=0 then XS (l.take k) else l.take (k+1):=by
 have e:l.take (k+1)=l.take k++[l.getD k 0]:=by
  rw[QeI,Qdk h];simp[List.getD,h]
 rw[e,Kc,←e]
theorem Rt:∀l:List UInt8,(XS l).length≤l.length
 | []=>Qde _
 | x::r=>by
  have h:=Rt r;rw[XS];split
  ·rename_i e;split <;> simp
  ·rename_i y t e;rw[e] at h;simpa using h
theorem SZ(a:Option Addr)(n c:Nat)(l:List UInt8)(hl:l.length=n)(hc:n≤c)(hc2:c≤9223372036854775807)(w:World)(hr:RdS w a l):
  Calls prog 44 #[.slice a n c,.int .u8 0] w fun e w'=>∃a',e= .returned (.slice a' (XS l).length c)∧RdS w a' (XS l)∧w'=w:=by
 have F:=H2 hl hr;clear hl hr;go_enter func44,ntmps44;go_wp2;go_loopw [0] (fun s wr=>∃(k:Nat) (a1:Option Addr),k≤n∧s= .slice a1 k c∧RdS w a1 (l.take k)∧XS l=XS (l.take k)∧wr=w) (fun s _=>Sq s)
 case atStart=>
  have hl:=F.out.1;exact⟨n,a,Qde _,rfl,by rw[Qd8 (by omega)];exact F.out.2,by rw[Qd8 (by omega)],rfl⟩
 case round=>
  obtain⟨k,a1,hk,rfl,hr,ht,rfl⟩:=hrel;have hl:=F.out.1;by_cases hk0:k=0
  ·subst hk0;rw[Qfb] at ht hr;have H:=H2 ht hr;clear ht hr hl;go_wp2;go_ret;exact⟨a1,by rw[H.out.1];rfl,by rw[H.out.1];exact .inl rfl,rfl⟩
  ·obtain⟨j,rfl⟩:∃j,k=j+1:=⟨k-1,by omega⟩;have htk:=Ch l j (by omega);have hlt:(l.take (j+1)).length=j+1:=by rw[Qds];omega
   obtain⟨g,off,rfl,hg,hrd⟩:∃g off,a1=some ⟨g,off,none⟩∧g<wr.heap.size∧Rd wr g off (l.take (j+1)):=by
    rcases hr with h|h
    ·rw[h] at hlt;cases hlt
    ·exact h
   obtain⟨x,hx⟩:=nE ((l.getD j 0).toNat);have c1:=hrd j (by rw[hlt];omega);have hgd:(l.take (j+1)).getD j 0=l.getD j 0:=by simp[List.getD]
   rw[hgd,←hx] at c1;have ej:((j+1:Nat):Int)-1=(j:Int):=by omega
   have ej0:(0:Int)<((j+1:Nat):Int):=by omega
   obtain⟨q,hq⟩:=nE (j+1);rw[←hq] at ej ej0 hr hlt hrd ht htk hk ⊢;have hjq:j<q:=by omega
   have hjqi:(j:Int)<(q:Int):=by omega
   have hjb:(j:Int)≤9223372036854775806:=by omega
   by_cases h0:x=0
   ·subst h0;have hz:l.getD j 0=0:=by
     apply Qfu.1;exact hx.symm
    rw[Qdm hz] at htk;obtain⟨a2,hs2,hr2,_,_⟩:=Jb (some ⟨g,off,none⟩) (l.take q) q c j hlt (by omega) (by omega);have hr3:=hr2 wr hr;have htt:(l.take q).take j=l.take j:=by rw[List.take_take,QfT (by omega)]
    rw[htt] at hr3;have hs3:=hs2 wr;have H:=H4 ht htk hr3 hk;clear ht htk hr3 hr hrd hr2 hl hlt hz hgd hx hs2 htt hq hk;go_wp2;go_roundw
    case rel=>exact⟨j,_,by have:=H.out.2.2.2;omega,rfl,H.out.2.2.1,H.out.1.trans H.out.2.1,trivial⟩
    case measure=>simp[Sq];omega
   ·have hz:¬l.getD j 0=0:=fun e=>h0 (by rw[hx,e];rfl);rw[Qdf hz] at htk;have h0':¬(x:Int)=0:=by omega
    have H:=H3 (ht.trans htk) hr hlt;clear ht htk hr hrd hl hlt hz hgd hx hq hk;go_wp2;go_ret;exact⟨some ⟨g,off,none⟩,(show Ending.returned (.slice (some ⟨g,off,none⟩) q c)=_ by rw[H.out.1,H.out.2.2]),by rw[H.out.1];exact H.out.2.1,rfl⟩
theorem Qae(a:Option Addr)(n c:Nat)(l:List UInt8)(hl:l.length=n)(hc:n≤c)(hc2:c≤9223372036854775807)(w:World)(hr:RdS w a l):
  Calls prog 19 #[.slice a n c,.string ⟨#[0]⟩] w fun e w'=>∃a',e= .returned (.slice a' (XS l).length c)∧RdS w a' (XS l)∧w'=w:=by
 have cT:=SZ a n c l hl hc hc2 w hr;by_cases hn:n=0
 ·subst hn;have e:l=[]:=QdO.1 hl;subst e;have H:=Lib.hid hr;clear hr cT hl;go_enter func19,ntmps19;go_wp2;go_ret;exact⟨a,rfl,.inl rfl,rfl⟩
 ·have hn':¬(n:Int)=0:=by omega
  have CT:=Lib.hid cT;clear cT hl hr;go_enter func19,ntmps19;go_wp2_with fail;refine CT.out.mono ?_;rintro e w' ⟨a',rfl,h1,rfl⟩;have H:=Lib.hid h1;clear h1;go_wp2;go_ret;exact⟨a',rfl,H.out,rfl⟩
theorem EB(a:Option Addr)(n c:Nat)(w:World):(binOp .eql 31 (.slice a n c) (.slice none 0 0)).run prog w= .ok (.bool a.isNone) w:=by
 have h:=run_equal_slice_nil (P:=prog) w 31 5 a n c underlying31;simp only[binOp,Qdl,h,Qd1,Qdi]
theorem Vf{w:World}{a:Option Addr}{l:List UInt8}{b i:Nat}(h:RdS w a l)(hne:∀ad,a=some ad→ad.block≠b)(v:Value):RdS (w.setCell ⟨b,i,none⟩ v) a l:=by
 rcases h with h|⟨g,o,h1,h2,h3⟩
 ·exact .inl h
 ·have hgb:g≠b:=hne _ h1;refine .inr ⟨g,o,h1,by rw[World.size_setCell];exact h2,fun j hj=>?_⟩;have h:=h3 j hj;have e:=Below.heap_setCell w ⟨b,i,none⟩ v g hgb;unfold World.cell? at h ⊢;rw[e];exact h
def CloV(l:List UInt8)(u:Value)(w:World):Prop:=∃(a:Option Addr) (c:Nat),u= .slice a l.length c∧RdS w a l∧l.length≤c∧c≤maxLen∧(a=none→l.length=0∧c=0)
theorem CloV.keep{l:List UInt8}{u:Value}{w w':World}(h:CloV l u w)(hb:Below w.heap.size w w'):CloV l u w':=by
 obtain⟨a,c,h1,h2,h3⟩:=h;exact⟨a,c,h1,h2.calls hb,h3⟩
theorem WB(a:Option Addr)(n c:Nat)(l:List UInt8)(hl:l.length=n)(hn:n≤140737488355328)(hno:a=none→n=0∧c=0)(w:World)(hr:RdS w a l):
  Calls prog 24 #[.slice a n c] w fun e w'=>∃u,e= .returned u∧Below w.heap.size w w'∧CloV l u w'∧∀a n c,u= .slice (some a) n c→w.heap.size≤a.block:=by
 cases a with
 | none=>
  obtain⟨rfl,rfl⟩:=hno rfl;have e:l=[]:=QdO.1 hl;subst e;have hq:=EB none 0 0;go_enter func24,ntmps24;go_wp2;go_ret;exact⟨.slice none 0 0,rfl,Below.refl _ _,⟨none,0,rfl,.inl rfl,Qde _,Qdw _,fun _=>⟨rfl,rfl⟩⟩,fun a n c h=>by cases h⟩
 | some ad=>
  obtain⟨i0,hi,hz0,hz1,hz2⟩:=info_parts (show (prog.info? 5).map (fun i=>(i.zero,i.size,i.bytes))=some (some (.int .u8 0),1,1) by kernel_rfl);have I:=H4 hi hz0 hz1 hz2;clear hi hz0 hz1 hz2;have own:(w.alloc (.cells #[] 5)).ownsRow w.heap.size 5 1 (.slice (some ⟨w.heap.size,0,none⟩) 0 0) 0 (([]:List UInt8).map fun c=>Value.int .u8 (c.toNat:Int)):=QeQ w #[] 0 (Qde _) (by unfold maxLen;omega) rfl;have O:=H3 own (hr.calls (ba (Below.refl _ _) (.cells #[] 5))) hl;clear own hr hl;have hq:=EB (some ad) n c;go_enter func24,ntmps24;go_wp2_with (at_builtin;refine XW O.out.1 rfl _ _ 31 rfl underlying31 i0 I.out.1 I.out.2.1 I.out.2.2.1 I.out.2.2.2 rfl (some ad) n c l rfl O.out.2.1 O.out.2.2 (fun h=>by cases h) (by omega) (by simp) ?_);intro v1 w2 h1 h2 h3;have bb:=Qn (ba (Below.refl w.heap.size w) (.cells #[] 5)) h2 (by simp) (by intro k hk;simp[Value.ownBlock] at hk;omega);replace h1:w2.ownsRow w.heap.size 5 1 v1 n (l.map fun c=>Value.int .u8 (c.toNat:Int)):=by simpa using h1
  have hlt:=h1.lt;obtain⟨a',c',rfl,h4,h5,h6,h7,h8⟩:=Wk h1;have G:=H7 bb h4 h5 h6 h7 h8 hlt;clear bb h1 h2 h3 h4 h5 h6 h7 h8 hlt;go_wp2;go_ret;obtain⟨bb,h4,h5,h6,h7,h8,hlt⟩:=G.out;exact⟨.slice a' n c',rfl,bb,⟨a',c',by rw[h4],h5,by rw[h4];exact h6,h7,by rw[h4];exact h8⟩,fun a n c h=>by injection h with h1;exact (hlt a.block (by rw[h1];rfl)).1⟩
end Go.Proofs.YthdaabapiicnhaaGreatDoor
