/- Steps of the proof. -/
import Derived.LaidEql
import Derived.Stop.Asserts
import Derived.RowKitTokens
import Derived.KernelRfl
import Derived.Test.YthdaabapiicnhaaGreatDoorTr33
import Derived.Test.YthdaabapiicnhaaGreatDoorTr22
set_option linter.all false
set_option maxRecDepth 100000
set_option maxHeartbeats 4000000
open Go.Proofs.Tryz
namespace Go.Proofs.YthdaabapiicnhaaGreatDoor.Av
open Go.RowKit
theorem RPost.below{P:Program}{D:SS}{mk:Nat}{ρ:Rh}{ω:Nat→Option Nat}{w w':World}{s:AS}(h:Sim P ρ ω D.hd D.cl s.hp.get w)(hb:Below w.heap.size w w'):RPost P D mk ρ ω w s s ρ ω w':=
 ⟨fun b ao hd hx=>by
  obtain⟨g,h1,h2,h3,h4⟩:=h b ao hd hx;refine⟨g,h1,h2,Qdr h3 hb.size,?_⟩;rw[hb.block g.blk h3];exact h4,
  ⟨hb.os,hb.tape,hb.output,hb.size,Ext.refl _,fun r b hr ho _=>⟨ho,SameBut.of_eq (hb.block r hr)⟩,fun r hr ho=>⟨ho,hb.block r hr⟩⟩,
  fun b h1 h2=>absurd h1 h2⟩
def OrcOK(P:Program)(W0:World)(nG:Nat)(f:FuncId)(o:SS→Nat→List AV→AS→Option (AV×AS)):Prop:=∀D mk args s v s',o D mk args s=some (v,s')→mk≤s.nx→APost mk s s'∧
 ∀ρ ω w xs,WG W0 nG s ω w→Sim P ρ ω D.hd D.cl s.hp.get w→Frs ρ s s'→RVs ρ args xs→Calls P f xs.toArray w fun e w'=>∃v' ρ' ω',e= .returned v'∧RV ρ' v v'∧RPost P D mk ρ ω w s s' ρ' ω' w'
theorem OrcOK.pure{P:Program}{W0:World}{nG:Nat}{f:FuncId}{o:SS→AS→List AV→Option AV}(h:∀D args s v,o D s args=some v→∀ρ ω w xs,WG W0 nG s ω w→Sim P ρ ω D.hd D.cl s.hp.get w→RVs ρ args xs→Calls P f xs.toArray w fun e w'=>∃v',e= .returned v'∧RV ρ v v'∧Below w.heap.size w w'):
  OrcOK P W0 nG f (fun D _ args s=>Ys s (o D s args)):=fun D mk args s v s' hv hm=>by
 unfold Ys at hv;dsimp only at hv;split at hv
 ·rename_i v0 hv0;cases hv;refine⟨APost.refl _ _,fun ρ ω w xs hg hs _ hx=>(h D args s v hv0 ρ ω w xs hg hs hx).mono ?_⟩;rintro e w' ⟨v',rfl,h1,h2⟩;exact⟨v',ρ,ω,rfl,h1,RPost.below hs h2⟩
 ·cases hv
def Kb:List AV→Option (List UInt8)
 | []=>some []
 | .int .u8 (.ofNat n)::r=>bif Nat.blt n 256 then (Kb r).map (UInt8.ofNat n::·) else none
 | _=>none
theorem NY{ρ:Rh}:∀{l:List AV} {bs:List UInt8} {vs:List Value},Kb l=some bs→RVs ρ l vs→vs=bs.map fun b=>Value.int .u8 b.toNat
 | [],bs,vs,h,hv=>by
  simp only[Kb,Option.some.injEq] at h;simp only[RVs] at hv;subst h hv;rfl
 | a::r,bs,vs,h,hv=>by
  unfold Kb at h;split at h
  ·rename_i e;cases e
  ·rename_i n r' e;cases e;cases hb:Nat.blt n 256 with
   | false=>rw[hb] at h;cases h
   | true=>
    rw[hb] at h;simp only[QdE,QdJ] at h;obtain⟨b,hb2,rfl⟩:=h;simp only[RVs,RV] at hv;obtain⟨v,vs',rfl,rfl,hr⟩:=hv;rw[NY hb2 hr];have:(UInt8.ofNat n).toNat=n:=by
     rw[Qfw];have:=Xf hb;omega
    simp[this]
  ·cases h
theorem Th(ρ:Rh):∀l:List UInt8,RVs ρ (l.map fun b=>AV.int .u8 (.ofNat b.toNat)) (l.map fun b=>Value.int .u8 b.toNat)
 | []=>RVs.nil
 | b::l=>RVs.cons Yg (Th ρ l)
def rdB(D:SS)(s:AS)(b o n:Nat):Option (List UInt8):=
 match s.rd D b o n with
 | some l=>Kb l
 | none=>none
def Kz(D:SS)(s:AS):AV→Option (List UInt8)
 | .nils=>some []
 | .emp=>some []
 | .slc b o n c=>bif Nat.ble n c&&Nat.blt c 9223372036854775808 then rdB D s b o n else none
 | .slo b n=>rdB D s b 0 n
 | .slu b o n=>rdB D s b o n
 | _=>none
theorem GL{P:Program}{D:SS}{ρ:Rh}{ω:Nat→Option Nat}{w:World}{s:AS}{x:AV}{l:List UInt8}(h:Kz D s x=some l)(hs:Sim P ρ ω D.hd D.cl s.hp.get w){v:Value}(hv:RV ρ x v):
  ∃a c,v= .slice a l.length c∧l.length≤c∧c≤9223372036854775807∧(a=none→l.length=0∧c=0)∧RdS w a l:=by
 have rd:∀{b o n c:Nat} {g:Pl},ρ b=some g→rdB D s b o n=some l→n≤c→c<9223372036854775808→v= .slice (some ⟨g.blk,g.off+o,none⟩) n c→
   ∃a c,v= .slice a l.length c∧l.length≤c∧c≤9223372036854775807∧(a=none→l.length=0∧c=0)∧RdS w a l:=fun {b o n c g} hg hr h1 h2 hv=>by
  unfold rdB at hr;split at hr
  ·rename_i m hm;obtain⟨g',vs,k1,k2,k3,k4⟩:=AS.rd_ok hs hm;rw[hg] at k1;cases k1;have e2:=NY hr k3;have hl:l.length=n:=by
    have:=k3.length;rw[e2,QdA] at this;omega
   subst hl;refine⟨_,c,hv,h1,by omega,fun e=>(by cases e),?_⟩;by_cases h0:l=[]
   ·exact .inl h0
   ·refine .inr ⟨g.blk,g.off+o,rfl,?_,fun i hi=>?_⟩
    ·have hlen:0<l.length:=List.length_pos_iff.2 h0;have:=k2 0 (.int .u8 (l.getD 0 0).toNat) (by rw[e2,QdI,Qdk hlen];simp[QeC,Qdk hlen]);exact Qfq w _ this
    ·exact k2 i _ (by rw[e2,QdI,Qdk hi];simp[QeC,Qdk hi])
  ·cases hr
 unfold Kz at h;split at h
 ·cases h;simp only[RV] at hv;exact⟨none,0,hv,Qde _,by omega,fun _=>⟨rfl,rfl⟩,.inl rfl⟩
 ·cases h;simp only[RV] at hv;obtain⟨a,c,rfl,h1,h2⟩:=hv;exact⟨a,c,rfl,Qdw _,by omega,fun e=>⟨rfl,h2 e⟩,.inl rfl⟩
 ·rename_i b o n c;cases hb:(Nat.ble n c&&Nat.blt c 9223372036854775808) with
  | false=>rw[hb] at h;cases h
  | true=>
   rw[hb] at h;simp only[Qdo] at hb;simp only[RV] at hv;obtain⟨g,hg,hv⟩:=hv;exact rd hg h (Qdn hb.1) (Xf hb.2) hv
 ·simp only[RV] at hv;obtain⟨g,hg,h1,hv⟩:=hv;exact rd hg h h1 g.lt hv
 ·simp only[RV] at hv;obtain⟨g,c,hg,h1,hv⟩:=hv;exact rd hg h h1.1 h1.2 hv
 ·cases h
def GJ(D:SS)(s:AS):List AV→Option AV
 | [x]=>match Kz D s x with
  | some l=>bif Nat.ble l.length 1000000 then some (.agg ((dbl l).map fun b=>.int .u8 (.ofNat b.toNat))) else none
  | none=>none
 | _=>none
theorem Sd{W0:World}(hL:Laid W0):OrcOK prog W0 W0.heap.size 22 (fun D _ args s=>Ys s (GJ D s args)):=OrcOK.pure fun D args s v h ρ ω w xs hg hs hx=>by
 unfold GJ at h;split at h
 ·rename_i x;split at h
  ·rename_i l hl;cases hb:Nat.ble l.length 1000000 with
   | false=>rw[hb] at h;cases h
   | true=>
    rw[hb] at h;cases h;have hle:=Qdn hb;simp only[RVs] at hx;obtain⟨v',r,rfl,h1,rfl⟩:=hx;obtain⟨a,c,rfl,h2,h3,h4,h5⟩:=GL hl hs h1;refine (Vu a l l.length c rfl h2 ⟨by omega,h3⟩ h4 w h5 (hL.below hg.2.bel (Qde _))).mono ?_;rintro e w' ⟨rfl,hb⟩;refine⟨_,rfl,?_,hb⟩;simp only[RV];exact⟨_,rfl,Th ρ _⟩
  ·cases h
 ·cases h
def Pu:AV→Option Nat
 | .agg [.int .u64 (.ofNat a0),.int .u64 (.ofNat a1),.int .u64 (.ofNat a2),.int .u64 (.ofNat a3)]=>
  bif Nat.blt a0 18446744073709551616&&(Nat.blt a1 18446744073709551616&&(Nat.blt a2 18446744073709551616&&Nat.blt a3 18446744073709551616)) then
   some (a0+18446744073709551616*(a1+18446744073709551616*(a2+18446744073709551616*a3))) else none
 | _=>none
def Wn(n:Nat):AV:=.agg [.int .u64 (.ofNat (n%18446744073709551616)),.int .u64 (.ofNat (n/18446744073709551616%18446744073709551616)),
 .int .u64 (.ofNat (n/340282366920938463463374607431768211456%18446744073709551616)),.int .u64 (.ofNat (n/6277101735386680763835789423207666416102355444464034512896%18446744073709551616))]
theorem JG{ρ:Rh}{x:AV}{n:Nat}(h:Pu x=some n){v:Value}(hv:RV ρ x v):v=Yt n∧n<T:=by
 unfold Pu at h;split at h
 ·rename_i a0 a1 a2 a3;cases hb:(Nat.blt a0 18446744073709551616&&(Nat.blt a1 18446744073709551616&&(Nat.blt a2 18446744073709551616&&Nat.blt a3 18446744073709551616))) with
  | false=>rw[hb] at h;cases h
  | true=>
   rw[hb] at h;cases h;simp only[Qdo] at hb;obtain⟨k0,k1,k2,k3,k4⟩:=Qc6 a0 a1 a2 a3 (Xf hb.1) (Xf hb.2.1) (Xf hb.2.2.1) (Xf hb.2.2.2);have e:a0+18446744073709551616*(a1+18446744073709551616*(a2+18446744073709551616*a3))=a0+W64*(a1+W64*(a2+W64*a3)):=rfl;rw[e];refine⟨?_,k4⟩;simp only[RV,RVs] at hv;obtain⟨xs,rfl,v0,r0,rfl,rfl,v1,r1,rfl,rfl,v2,r2,rfl,rfl,v3,r3,rfl,rfl,rfl⟩:=hv;unfold Yt;rw[k0,k1,k2,k3];rfl
 ·cases h
theorem Vh(ρ:Rh)(n:Nat):RV ρ (Wn n) (Yt n):=by
 have e:Yt n= .agg (#[Value.int .u64 (Int.ofNat (n%18446744073709551616)),.int .u64 (Int.ofNat (n/18446744073709551616%18446744073709551616)),
   .int .u64 (Int.ofNat (n/340282366920938463463374607431768211456%18446744073709551616)),.int .u64 (Int.ofNat (n/6277101735386680763835789423207666416102355444464034512896%18446744073709551616))]):=by
  unfold Yt lim;have w0:W64^0=1:=rfl;have w1:W64^1=18446744073709551616:=rfl;have w2:W64^2=340282366920938463463374607431768211456:=by decide+kernel
  have w3:W64^3=6277101735386680763835789423207666416102355444464034512896:=by decide+kernel
  rw[w0,w1,w2,w3,Nat.div_one];rfl
 rw[e];unfold Wn;simp only[RV];exact⟨_,rfl,RVs.cons Yg (RVs.cons Yg (RVs.cons Yg (RVs.cons Yg RVs.nil)))⟩
def Sf:List AV→Option AV
 | [x,y]=>match Pu x,Pu y with
  | some m,some n=>some (.tup [Wn ((m+n)%115792089237316195423570985008687907853269984665640564039457584007913129639936),.bool (Nat.ble 115792089237316195423570985008687907853269984665640564039457584007913129639936 (m+n))])
  | _,_=>none
 | _=>none
theorem Du(a b:Nat):Nat.ble a b=decide (a≤b):=by
 cases h:Nat.ble a b with
 | true=>simp[Qdn h]
 | false=>
  have:¬a≤b:=fun hle=>by rw[Qd4 hle] at h;cases h
  simp[this]
theorem FE{W0:World}{nG:Nat}:OrcOK prog W0 nG 100 (fun D _ args s=>Ys s (Sf args)):=OrcOK.pure (o:=fun _ _ args=>Sf args) fun D args s v h ρ ω w xs hg hs hx=>by
 unfold Sf at h;split at h
 ·rename_i x y;split at h
  ·rename_i m n hm hn;cases h;simp only[RVs] at hx;obtain⟨v1,r1,rfl,h1,v2,r2,rfl,h2,rfl⟩:=hx;obtain⟨rfl,lm⟩:=JG hm h1;obtain⟨rfl,ln⟩:=JG hn h2;have hT:T=115792089237316195423570985008687907853269984665640564039457584007913129639936:=rfl;rw[←hT];refine (Fi m n ((m+n)%T) (Nat.ble T (m+n)) w ⟨lm,ln,Qen _ (by unfold T;decide),?_⟩).mono ?_
   ·rw[Du];by_cases hc:T≤m+n
    ·simp only[hc,decide_true,Bool.toNat_true];clear hm hn h1 h2 hT;unfold T at *;omega
    ·simp only[hc,decide_false,Bool.toNat_false];clear hm hn h1 h2 hT;unfold T at *;omega
   ·rintro e w' ⟨rfl,hb⟩;refine⟨_,rfl,?_,hb⟩;simp only[RV];exact⟨_,rfl,RVs.cons (Vh ρ _) (RVs.cons XU RVs.nil)⟩
  ·cases h
 ·cases h
def Sb:List AV→Option AV
 | [x,y]=>match Pu x,Pu y with
  | some m,some n=>some (.tup [Wn ((m+115792089237316195423570985008687907853269984665640564039457584007913129639936-n)%115792089237316195423570985008687907853269984665640564039457584007913129639936),.bool (Nat.blt m n)])
  | _,_=>none
 | _=>none
theorem FC{W0:World}{nG:Nat}:OrcOK prog W0 nG 162 (fun D _ args s=>Ys s (Sb args)):=OrcOK.pure (o:=fun _ _ args=>Sb args) fun D args s v h ρ ω w xs hg hs hx=>by
 unfold Sb at h;split at h
 ·rename_i x y;split at h
  ·rename_i m n hm hn;cases h;simp only[RVs] at hx;obtain⟨v1,r1,rfl,h1,v2,r2,rfl,h2,rfl⟩:=hx;obtain⟨rfl,lm⟩:=JG hm h1;obtain⟨rfl,ln⟩:=JG hn h2;have hT:T=115792089237316195423570985008687907853269984665640564039457584007913129639936:=rfl;rw[←hT];refine (Ra m n ((m+T-n)%T) (Nat.blt m n) w ⟨lm,ln,Qen _ (by unfold T;decide),?_⟩).mono ?_
   ·rw[Nf];by_cases hc:m<n
    ·simp only[hc,decide_true,Bool.toNat_true];clear hm hn h1 h2 hT;unfold T at *;omega
    ·simp only[hc,decide_false,Bool.toNat_false];clear hm hn h1 h2 hT;unfold T at *;omega
   ·rintro e w' ⟨rfl,hb⟩;refine⟨_,rfl,?_,hb⟩;simp only[RV];exact⟨_,rfl,RVs.cons (Vh ρ _) (RVs.cons XU RVs.nil)⟩
  ·cases h
 ·cases h
def Se:List AV→Option AV
 | [x,y]=>match Pu x,Pu y with
  | some m,some n=>bif Nat.beq n 0 then none else some (.tup [Wn (m/n),Wn (m%n),.bool true])
  | _,_=>none
 | _=>none
theorem FD{W0:World}{nG:Nat}:OrcOK prog W0 nG 130 (fun D _ args s=>Ys s (Se args)):=OrcOK.pure (o:=fun _ _ args=>Se args) fun D args s v h ρ ω w xs hg hs hx=>by
 unfold Se at h;split at h
 ·rename_i x y;split at h
  ·rename_i m n hm hn;cases hz:Nat.beq n 0 with
   | true=>rw[hz] at h;cases h
   | false=>
    rw[hz] at h;cases h;have:=QdS hz;simp only[RVs] at hx;obtain⟨v1,r1,rfl,h1,v2,r2,rfl,h2,rfl⟩:=hx;obtain⟨rfl,lm⟩:=JG hm h1;obtain⟨rfl,ln⟩:=JG hn h2;refine (Qar m n w lm ln (by omega)).mono ?_;rintro e w' ⟨rfl,hb⟩;refine⟨_,rfl,?_,hb⟩;simp only[RV];exact⟨_,rfl,RVs.cons (Vh ρ _) (RVs.cons (Vh ρ _) (RVs.cons XU RVs.nil))⟩
  ·cases h
 ·cases h
end Go.Proofs.YthdaabapiicnhaaGreatDoor.Av
namespace Go.Proofs.YthdaabapiicnhaaGreatDoor
open Go.RowKit
theorem R7(a:Option Addr)(n c:Nat)(a1:Option Addr)(n1 c1:Nat)(m:Nat)(hm:m=n/32)(hn:n≤131072)(w:World):
  Calls prog 196 #[.agg #[.slice a n c,.slice a1 n1 c1]] w fun e w'=>e= .returned (.int .i64 (m:Nat))∧Below w.heap.size w w':=by
 have B0:Below w.heap.size w (w.alloc (.cells #[.slice a n c,.slice a1 n1 c1] 111)):=ba (Below.refl _ _) _;have hq:(n:Int)/32=(m:Int):=by omega
 have X:=H3 B0 hq (show m≤4096 by omega);clear B0 hq hm;go_enter func196,ntmps196;go_wp2_with fail;rw[X.out.2.1];exact Qdg (v:=.int .i64 (m:Nat)) (by simp[results,results196,go_sem]) rfl ⟨rfl,X.out.1⟩
theorem LX(a0:Option Addr)(n0 c0:Nat)(a1:Option Addr)(n1 c1:Nat)(w:World)(h0:n0%32=0)(hn:n0≤131072)(h1:n1≤100000)(hr:n1=0∨∃g o,a1=some ⟨g,o,none⟩∧g<w.heap.size∧∀j,j<n1→∃q a c,q<n0/32∧w.rangeAt g (o+j*2) [.int .i64 (q:Nat),.slice a 32 c]):
  Calls prog 194 #[.agg #[.slice a0 n0 c0,.slice a1 n1 c1]] w fun e w'=>e= .returned (.bool true)∧Below w.heap.size w w':=by
 have X0:Blk (w.alloc (.cells #[.slice a0 n0 c0,.slice a1 n1 c1] 111)) w.heap.size 111 #[.slice a0 n0 c0,.slice a1 n1 c1]:=Blk.new _ _ _;have B0:Below w.heap.size w (w.alloc (.cells #[.slice a0 n0 c0,.slice a1 n1 c1] 111)):=ba (Below.refl _ _) _;obtain⟨m,hm⟩:=nE (n0/32);have hS:=fun w=>R7 a0 n0 c0 a1 n1 c1 m hm hn w;have hm2:m≤4096:=by omega
 rw[←hm] at hr;have g1:(n0:Int)%32=0:=by omega
 have g2:¬(4096:Int)<(m:Int):=by omega
 have g3:¬(100000:Int)<(n1:Int):=by omega
 have X:=H3 X0 B0 hr;clear X0 B0 hr;clear hm h0;go_enter func194,ntmps194;go_wp2_with fail;refine (hS _).mono ?_;rintro e w1 ⟨rfl,hb1⟩;have k0:w1.cell? ⟨w.heap.size,0,none⟩=some (.slice a0 n0 c0):=(X.out.1.calls hb1).cell 0;have k1:w1.cell? ⟨w.heap.size,1,none⟩=some (.slice a1 n1 c1):=(X.out.1.calls hb1).cell 1;have X1:=H3 (X.out.1.calls hb1) (bt X.out.2.1 hb1) X.out.2.2;clear hb1 X;go_wp2_with fail;clear k0 k1;go_loopw [24] (fun i wr=>∃j:Nat,j≤n1∧i= .int .i64 j∧Below w.heap.size w wr∧Blk wr w.heap.size 111 #[.slice a0 n0 c0,.slice a1 n1 c1]) (fun i _=>n1-(intOf i).toNat)
 case atStart=>exact⟨0,Qdw _,rfl,X1.out.2.1,X1.out.1⟩
 case round=>
  obtain⟨j,hj,rfl,hB,hX⟩:=hrel;by_cases hlt:j<n1
  ·rcases X1.out.2.2 with h0|⟨g,o,rfl,hgl,hR⟩
   ·omega
   obtain⟨q,sa,sc,hq,hrng⟩:=hR j hlt;have hqm:decide ((m:Int)≤(q:Int))=false:=by rw[QeB];omega
   have hrng2:=QY hrng hB hgl;have hidx:=fun w=>YV (P:=prog) 109 299 2 underlying109 (by kernel_rfl) g o n1 c1 j hlt w;have hkn:(j:Int)<(n1:Int):=by omega
   obtain⟨C,hC⟩:=nE (#[Value.int .i64 (q:Nat),.slice sa 32 sc]);have sC:C.size=2:=by rw[hC];rfl
   have iC:(prog.info? 299).map (·.size)=some C.size:=by rw[sC];kernel_rfl
   have iCl:(prog.info? 299).map (·.size)=some ([Value.int .i64 (q:Nat),.slice sa 32 sc]:List Value).length:=by kernel_rfl
   have zC:(#[.int .i64 0,.slice none 0 0]:Array Value).size=C.size:=by rw[sC];rfl
   have aC:C.all (·.oneCell')=true:=by rw[hC];simp[Value.oneCell']
   obtain⟨p,hp⟩:=nE (o+j*2);rw[←hp] at hrng2 hidx;have NN:Blk (wr.alloc (.cells #[.int .i64 0,.slice none 0 0] 299)) wr.heap.size 299 #[.int .i64 0,.slice none 0 0]:=Blk.new _ _ _;have B5:Below wr.heap.size wr (World.setRow (wr.alloc (.cells #[.int .i64 0,.slice none 0 0] 299)) wr.heap.size C):=Qb (ba (Below.refl _ _) _) (Qde _) C;have Q:=H6 hrng2 hC NN (bt hB B5) hX B5;clear hrng hrng2 hC NN B5 hX hB hq hp sC;go_upto_region 6 with (first|(with_reducible refine wpList_load_mid rfl _ _ rfl g p rfl ([.int .i64 (q:Nat),.slice sa 32 sc]) _ Q.out.1 underlying299 rfl iCl ?_)|(rw[←Q.out.2.1];with_reducible refine Ql Q.out.2.2.1 _ _ _ _ rfl rfl rfl rfl iC zC aC ?_));have n_p:Blk (World.setRow (wr.alloc (.cells #[.int .i64 0,.slice none 0 0] 299)) wr.heap.size C) wr.heap.size 299 #[Value.int .i64 (q:Nat),.slice sa 32 sc]:=by have:=Q.out.2.2.1.row C;rwa [Q.out.2.1] at this ⊢
   have d_p:=Q.out.2.2.2.2.1.calls Q.out.2.2.2.2.2;have b5:=Q.out.2.2.2.1;clear hidx iC iCl zC aC Q;generalize World.setRow _ _ _=w5 at *;generalize wr.heap.size=g6 at *;have n_l:=n_p.lt;have d_l:=d_p.lt;refine YF [some 28,some 29,some 30,some 31,some 32,some 33,some 34,some 35,some 36,some 37,some 38,some 39,some 40,some 41,some 42,some 43] (FL [EqV (.pointer (some ⟨g6,0,none⟩)),EqV (.int .i64 (q:Nat)),EqV (.bool false),EqV (.bool false),EqV (.pointer (some ⟨g6,0,none⟩)),EqV (.int .i64 (q:Nat)),EqV (.agg #[.slice a0 n0 c0,.slice (some ⟨g,o,none⟩) n1 c1]),EqV (.int .i64 (m:Nat)),EqV (.bool false),EqV (.bool false),EqV (.bool false),EqV (.pointer (some ⟨g6,1,none⟩)),EqV (.slice sa 32 sc),EqV (.int .i64 32),EqV (.bool false),EqV (.bool false)]) (QO ⟨Qa _,Qa _,Qa _,Qa _,Qa _,Qa _,Qa _,Qa _,Qa _,Qa _,Qa _,Qa _,Qa _,Qa _,Qa _,Qa _,trivial⟩) (by kernel_rfl) rfl rfl rfl rfl ⟨.inr ⟨gk0 rfl,fun A w' γ hb hF hs=>Qd (Qs 299 (.tmp 4) 0 0 rfl (g6) ((hs.2 4 rfl).trans rfl) fun _ _=>by kernel_rfl)⟩,.inr ⟨gk0 rfl,fun A w' γ hb hF hs=>Qd (Qq 3 (.tmp 28) rfl _ ((hs.1 0 rfl 28 rfl).trans (hF 0 rfl)) _ (Qz (n_p.below hb n_l) 0 _ rfl) _ underlying3 rfl)⟩,.inr ⟨gk0 rfl,fun A w' γ hb hF hs=>Qd (Sg 3 _ (.tmp 29) (.const (.int .i64 0)) .i64 ((q:Nat)) (0) false rfl ((hs.1 1 rfl 29 rfl).trans (hF 1 rfl)) rfl (by simp))⟩,.inr ⟨gk0 rfl,fun A w' γ hb hF hs=>Qd (Qe (.tmp 30) (.inl rfl) ((hs.1 2 rfl 30 rfl).trans (hF 2 rfl)))⟩,.inr ⟨gkT 3 false rfl rfl 31 rfl (fun _ _ h=>h),fun A w' γ hb hF hs=>Qd (Qs 299 (.tmp 4) 0 0 rfl (g6) ((hs.2 4 rfl).trans rfl) fun _ _=>by kernel_rfl)⟩,.inr ⟨gkT 3 false rfl rfl 31 rfl (fun _ _ h=>h),fun A w' γ hb hF hs=>Qd (Qq 3 (.tmp 32) rfl _ ((hs.1 4 rfl 32 rfl).trans (hF 4 rfl)) _ (Qz (n_p.below hb n_l) 0 _ rfl) _ underlying3 rfl)⟩,.inr ⟨gkT 3 false rfl rfl 31 rfl (fun _ _ h=>h),fun A w' γ hb hF hs=>Qd (Z3 111 (.tmp 1) rfl ((hs.2 1 rfl).trans rfl) (d_p.below hb d_l) underlying111 (by kernel_rfl))⟩,.inr ⟨gkT 3 false rfl rfl 31 rfl (fun _ _ h=>h),fun A w' γ hb hF hs=>Qd (Zj 196 #[.agg #[.slice a0 n0 c0,.slice (some ⟨g,o,none⟩) n1 c1]] (QH _ 196 #[.agg #[.slice a0 n0 c0,.slice (some ⟨g,o,none⟩) n1 c1]] rfl rfl (Hl ((hs.1 6 rfl 34 rfl).trans (hF 6 rfl))) func196 rfl rfl) (hS _))⟩,.inr ⟨gkT 3 false rfl rfl 31 rfl (fun _ _ h=>h),fun A w' γ hb hF hs=>Qd (Qc0 3 _ (.tmp 33) (.tmp 35) .i64 ((q:Nat)) ((m:Nat)) false rfl ((hs.1 5 rfl 33 rfl).trans (hF 5 rfl)) ((hs.1 7 rfl 35 rfl).trans (hF 7 rfl)) (hqm))⟩,.inr ⟨gk0 rfl,fun A w' γ hb hF hs=>Qd (Yr (.tmp 31) (.const (.bool true)) (.tmp 36) false rfl ((hs.1 3 rfl 31 rfl).trans (hF 3 rfl)) ((hs.1 8 rfl 36 rfl).trans (hF 8 rfl)))⟩,.inr ⟨gk0 rfl,fun A w' γ hb hF hs=>Qd (Qe (.tmp 37) (.inl rfl) ((hs.1 9 rfl 37 rfl).trans (hF 9 rfl)))⟩,.inr ⟨gkT 10 false rfl rfl 38 rfl (fun _ _ h=>h),fun A w' γ hb hF hs=>Qd (Qs 299 (.tmp 4) 1 1 rfl (g6) ((hs.2 4 rfl).trans rfl) fun _ _=>by kernel_rfl)⟩,.inr ⟨gkT 10 false rfl rfl 38 rfl (fun _ _ h=>h),fun A w' γ hb hF hs=>Qd (Qq 31 (.tmp 39) rfl _ ((hs.1 11 rfl 39 rfl).trans (hF 11 rfl)) _ (Qz (n_p.below hb n_l) 1 _ rfl) _ underlying31 rfl)⟩,.inr ⟨gkT 10 false rfl rfl 38 rfl (fun _ _ h=>h),fun A w' γ hb hF hs=>Qd (Yb (.tmp 40) 31 _ sa 32 sc rfl ((hs.1 12 rfl 40 rfl).trans (hF 12 rfl)) underlying31)⟩,.inr ⟨gkT 10 false rfl rfl 38 rfl (fun _ _ h=>h),fun A w' γ hb hF hs=>Qd (QP 3 _ (.tmp 41) (.const (.int .i64 32)) .i64 (32) (32) false rfl ((hs.1 13 rfl 41 rfl).trans (hF 13 rfl)) rfl (by simp))⟩,.inr ⟨gk0 rfl,fun A w' γ hb hF hs=>Qd (Yr (.tmp 38) (.const (.bool true)) (.tmp 42) false rfl ((hs.1 10 rfl 38 rfl).trans (hF 10 rfl)) ((hs.1 14 rfl 42 rfl).trans (hF 14 rfl)))⟩,trivial⟩ ?_;intro γ wx hb hF;have ez:γ 15= .bool false:=hF 15 (by decide);simp only[Fr,QdC,Act.put,Qdh,Qdy,Qdz,Nat.reduceAdd];rw[ez];clear ez hF;have Q6:=H2 (bt b5 hb) (d_p.below hb d_l);clear n_p d_p b5 n_l d_l hb;go_wp2_with fail;go_roundw
   case rel=>exact⟨j+1,by omega,by go_num,Q6.out.1,Q6.out.2⟩
   case measure=>simp[intOf];omega
  ·obtain rfl:j=n1:=by omega
   have XX:=Lib.hid hB;clear hB hX;go_wp2_with fail;exact Qdg (v:=.bool true) (by simp[results,results194,go_sem]) rfl ⟨rfl,XX.out⟩
end Go.Proofs.YthdaabapiicnhaaGreatDoor
namespace Go.Proofs.YthdaabapiicnhaaGreatDoor
open Go.RowKit Go.Extern.Stop Go.Stop Go.Extern
theorem Df(w:World):(Extern.ReflectliteType.typeOf #[.iface 44 (.int .i64 0)]).run prog w= .ok (.iface 425 (.agg #[.pointer (some ⟨6,44,none⟩)])) w:=by kernel_rfl
def cmpX : Array Value → Sem Value := Extern.ReflectliteType.method fun t => do Go.Extern.Rtype.noPackHeld "Comparable" t; pure (.bool (← typeInfo t).comparable)
theorem KP(w:World):(cmpX #[.agg #[.pointer (some ⟨6,44,none⟩)]]).run prog w= .ok (.bool true) w:=by kernel_rfl
theorem VH (v : Value) (w : World) : (Go.method 580 425 v "Comparable").run prog w = .ok (291, v) w := by kernel_rfl
theorem Oj(w:World):(Go.binOp .eql 416 (.iface 44 (.int .i64 0)) (.iface 44 (.int .i64 0))).run prog w= .ok (.bool true) w:=by kernel_rfl
theorem is_ok(w:World):Calls prog 249 #[.iface 44 (.int .i64 0),.iface 44 (.int .i64 0)] w fun e w'=>e= .returned (.bool true)∧w'=w:=by
 have h8:=@run_callFunc_extern prog 253 _ Extern.ReflectliteType.typeOf func253 (by kernel_rfl) (by kernel_rfl) (by kernel_rfl) (by kernel_rfl);have h32:=@run_callFunc_extern prog 291 _ cmpX func291 (by kernel_rfl) (by kernel_rfl) (by kernel_rfl) (by kernel_rfl);have tT:=Df;have cT:=KP;have mR:=VH;have heq:=Oj;go_enter func249,ntmps249;go_wp2;refine wp_loop_rounds 1 ?_;rw[rounds_succ];go_wp2;go_ret;exact⟨rfl,rfl⟩
theorem Mc(w:World):Calls prog 244 #[.int .i64 0] w fun e w'=>e= .returned (.bool false)∧w'=w:=by
 have hI:=is_ok;go_enter func244,ntmps244;go_wp2_with fail;refine (hI _).mono ?_;rintro e w1 ⟨rfl,rfl⟩;go_wp2;go_ret;exact⟨rfl,rfl⟩
end Go.Proofs.YthdaabapiicnhaaGreatDoor
namespace Go.Proofs.YthdaabapiicnhaaGreatDoor.Av
open Go.RowKit
def ML:List (Nat×AO)→Tr AO
 | []=>.nil
 | (b,a)::r=>(ML r).set 20 b (some a)
def mks(l:List (Nat×AO))(nx:Nat):AS:=⟨ML l,nx,⟨[],[]⟩⟩
def AS.keepL(s:AS):List Nat→List (Nat×AO)
 | []=>[]
 | b::r=>bif Nat.blt (b+1) 1048576 then (match s.hp.get b with
  | some a=>(b,a)::s.keepL r
  | none=>s.keepL r) else s.keepL r
theorem JI(s:AS):∀(l:List Nat) (b:Nat) (ao:AO),(ML (s.keepL l)).get b=some ao→s.hp.get b=some ao
 | [],b,ao,h=>by simp only[AS.keepL,ML] at h;cases b <;> cases h
 | x::r,b,ao,h=>by
  unfold AS.keepL at h;cases hx:Nat.blt (x+1) 1048576 with
  | false=>rw[hx] at h;exact JI s r b ao h
  | true=>
   rw[hx] at h;simp only[QdE] at h;split at h
   ·rename_i a ha;unfold ML at h;rw[Tr.get_set _ _ _ _ (Xf hx)] at h;by_cases e:b=x
    ·subst e;rw[Qdm rfl] at h;rw[ha];exact h
    ·rw[Qdf e] at h;exact JI s r b ao h
   ·exact JI s r b ao h
def P6:Nat→List AV→Tr AV
 | _,[]=>.nil
 | i,v::r=>(P6 (i+1) r).set 20 i (some v)
def Pm:Nat→Nat→Tr AV→List AV
 | 0,_,_=>[]
 | n+1,i,tm=>YH tm i::Pm n (i+1) tm
theorem Ru(t:Nat):YH .nil t= .tup []:=by unfold YH;cases t <;> rfl
theorem Bg(tm:Tr AV):∀(n i t:Nat),i+n<1048576→YH (P6 i (Pm n i tm)) t=if i≤t∧t<i+n then YH tm t else .tup []
 | 0,i,t,_=>by
  simp only[Pm,P6];rw[Ru,Qdf (by omega)]
 | n+1,i,t,h=>by
  simp only[Pm,P6];have ih:=Bg tm n (i+1) t (by omega);have e:YH ((P6 (i+1) (Pm n (i+1) tm)).set 20 i (some (YH tm i))) t=if t=i then YH tm i else YH (P6 (i+1) (Pm n (i+1) tm)) t:=by
   unfold YH;rw[Tr.get_set _ _ _ _ (by omega)];by_cases e:t=i
   ·rw[Qdm e,Qdm e]
   ·rw[Qdf e,Qdf e]
  rw[e,ih];by_cases e:t=i
  ·subst e;rw[Qdm rfl,Qdm ⟨by omega,by omega⟩]
  ·rw[Qdf e];by_cases k:i+1≤t∧t<i+1+n
   ·rw[Qdm k,Qdm ⟨by omega,by omega⟩]
   ·rw[Qdf k,Qdf (by omega)]
theorem RT.pack{ρ:Rh}{nt:Nat}{tm:Tr AV}{a:Act}(h:RT ρ nt tm a)(hn:nt<1048576):RT ρ nt (P6 0 (Pm nt 0 tm)) a:=by
 refine⟨h.size,h.defers,fun t=>?_⟩;rw[Bg tm nt 0 t (by omega)];by_cases k:0≤t∧t<0+nt
 ·rw[Qdm k];exact h.get t
 ·rw[Qdf k,QdK,Qfe (by rw[h.size];omega)];exact VB
structure At (P:Program) (W0:World) (nG:Nat) (s:AS) (ρ:Rh) (ω:Nat→Option Nat) (w:World):Prop where
 wg:WG W0 nG s ω w
 sim:Sim P ρ ω (SS.hd ⟨[],[]⟩) (SS.cl ⟨[],[]⟩) s.hp.get w
 frs:∀b,s.nx≤b→ρ b=none
theorem At.post{P:Program}{W0:World}{nG:Nat}{s s':AS}{ρ ρ':Rh}{ω ω':Nat→Option Nat}{w w':World}(h:At P W0 nG s ρ ω w)(a:APost 0 s s')(r:RPost P ⟨[],[]⟩ 0 ρ ω w s s' ρ' ω' w'):At P W0 nG s' ρ' ω' w':=
 ⟨h.wg.step a r,r.sim,fun b hb=>by
  cases hx:ρ' b with
  | none=>rfl
  | some g=>
   have:=r.rng b (h.frs b (Qdx a.nx hb)) (by rw[hx];simp);omega⟩
theorem At.keep{P:Program}{W0:World}{nG:Nat}{s:AS}{ρ:Rh}{ω:Nat→Option Nat}{w:World}(h:At P W0 nG s ρ ω w)(l:List Nat):At P W0 nG (mks (s.keepL l) s.nx) ρ ω w:=
 ⟨⟨fun b hb=>(by
   cases hx:(mks (s.keepL l) s.nx).hp.get b with
   | none=>rfl
   | some ao=>exact absurd ((h.wg.1 b hb).symm.trans (JI s l b ao hx)) (by simp)),h.wg.2⟩,
  fun b ao hd hx=>h.sim b ao hd (JI s l b ao hx),h.frs⟩
def WK(P:Program)(isO:FuncId→Bool)(orc:YK)(nt:Nat)(cd:Code)(tl:List AV)(hl:List (Nat×AO))(nx:Nat)(kl:List Nat):Option (AEx×List AV×List (Nat×AO)×Nat):=
 match Yl P (Np P isO orc 20000) ⟨[],[]⟩ 0 nt 20000 cd (P6 0 tl) (mks hl nx) with
 | some (e,tm',s')=>some (e,Pm nt 0 tm',s'.keepL kl,s'.nx)
 | none=>none
theorem ZC{P:Program}{W0:World}{nG:Nat}{isO:FuncId→Bool}{orc:YK}(hc:Zo P W0 nG (Np P isO orc 20000))(hmo:P.follows .mixedOrders=true){nt:Nat}(hn:nt<1048576){cd:Code}{tl tl':List AV}{hl hl':List (Nat×AO)}{nx nx':Nat}{kl:List Nat}{e:AEx}
  (h:WK P isO orc nt cd tl hl nx kl=some (e,tl',hl',nx')) {ρ:Rh} {ω:Nat→Option Nat} {w:World} {a:Act} (hat:At P W0 nG (mks hl nx) ρ ω w) (hrt:RT ρ nt (P6 0 tl) a) {Q:Exit→Act→World→Prop}
  (hQ:∀a' w' ρ' ω',RT ρ' nt (P6 0 tl') a'→At P W0 nG (mks hl' nx') ρ' ω' w'→Q e.to a' w'):cd.wp P Q a w:=by
 unfold WK at h;split at h
 ·rename_i e1 tm1 s1 h1;cases h;obtain⟨p,q⟩:=BF hc hmo 20000 cd _ _ e tm1 s1 h1 (Qdw _);refine q ρ ω w a hat.wg hrt hat.sim (fun b hb _=>hat.frs b hb) Q fun a' w' ρ' ω' r1 r2=>hQ a' w' ρ' ω' (r1.pack hn) ((hat.post p r2).keep kl)
 ·cases h
def QaC:AV→Option Nat
 | .nils=>some 0
 | .emp=>some 0
 | .slc _ _ n _=>some n
 | .slo _ n=>some n
 | .slu _ _ n=>some n
 | _=>none
theorem Eg{ρ:Rh}{x:AV}{n:Nat}(h:QaC x=some n){v:Value}(hv:RV ρ x v):∃a c,v= .slice a n c:=by
 cases x <;> simp only[QaC,Option.some.injEq,reduceCtorEq] at h
 case nils=>subst h;simp only[RV] at hv;exact⟨_,_,hv⟩
 case emp=>subst h;simp only[RV] at hv;obtain⟨a,c,rfl,_⟩:=hv;exact⟨_,_,rfl⟩
 case slc b o m c=>subst h;simp only[RV] at hv;obtain⟨g,_,rfl⟩:=hv;exact⟨_,_,rfl⟩
 case slo b m=>subst h;simp only[RV] at hv;obtain⟨g,_,_,rfl⟩:=hv;exact⟨_,_,rfl⟩
 case slu b o m=>subst h;simp only[RV] at hv;obtain⟨g,c,_,_,rfl⟩:=hv;exact⟨_,_,rfl⟩
def Md(m:Nat):List AV→Bool
 | []=>true
 | .int .i64 (.ofNat a)::d::r=>bif Nat.blt a m then (match QaC d with|some n=>bif Nat.beq n 32 then Md m r else false|none=>false) else false
 | _=>false
theorem Ea{ρ:Rh}{m:Nat}:∀(n:Nat) (l:List AV) (vs:List Value),Md m l=true→RVs ρ l vs→l.length=2*n→∀j,j<n→∃q a c,q<m∧vs[j*2]? =some (.int .i64 (q:Nat))∧vs[j*2+1]? =some (.slice a 32 c)
 | 0,l,vs,_,_,_,j,hj=>by omega
 | n+1,l,vs,h,hv,hl,j,hj=>by
  unfold Md at h;split at h
  ·simp at hl
  ·rename_i a d r;cases ha:Nat.blt a m with
   | false=>rw[ha] at h;cases h
   | true=>
    rw[ha] at h;simp only[QdE] at h;split at h
    ·rename_i k hk;cases hb:Nat.beq k 32 with
     | false=>rw[hb] at h;cases h
     | true=>
      rw[hb] at h;simp only[QdE] at h;have:=Qd7 hb;subst this;simp only[RVs] at hv;obtain⟨v1,r1,rfl,h1,v2,r2,rfl,h2,h3⟩:=hv;simp only[RV] at h1;subst h1;obtain⟨sa,sc,rfl⟩:=Eg hk h2;cases j with
      | zero=>exact⟨a,sa,sc,Xf ha,rfl,rfl⟩
      | succ j=>
       obtain⟨q,a',c',k1,k2,k3⟩:=Ea n r r2 h h3 (by simp at hl;omega) j (by omega);refine⟨q,a',c',k1,?_,?_⟩
       ·rw[show (j+1)*2=j*2+1+1 by omega,Qd2,Qd2];exact k2
       ·rw[show (j+1)*2+1=j*2+1+1+1 by omega,Qd2,Qd2];exact k3
    ·cases h
  ·cases h
def Mb(D:SS)(s:AS):AV→Option (Nat×List AV)
 | .nils=>some (0,[])
 | .emp=>some (0,[])
 | .slc b o n c=>(s.rd D b o (2*n)).map fun l=>(n,l)
 | .slo b n=>(s.rd D b 0 (2*n)).map fun l=>(n,l)
 | .slu b o n=>(s.rd D b o (2*n)).map fun l=>(n,l)
 | _=>none
theorem Ma{P:Program}{D:SS}{ρ:Rh}{ω:Nat→Option Nat}{w:World}{s:AS}{x:AV}{n:Nat}{l:List AV}(h:Mb D s x=some (n,l))(hs:Sim P ρ ω D.hd D.cl s.hp.get w){v:Value}(hv:RV ρ x v):
  ∃a c,v= .slice a n c∧(n=0∨∃g o vs,a=some ⟨g,o,none⟩∧(∀j u,vs[j]? =some u→w.cell? ⟨g,o+j,none⟩=some u)∧RVs ρ l vs∧l.length=2*n):=by
 have rd:∀{b o c:Nat} {g:Pl},ρ b=some g→(s.rd D b o (2*n))=some l→∃a' c',(Value.slice (some ⟨g.blk,g.off+o,none⟩) n c)= .slice a' n c'∧(n=0∨∃g o vs,a'=some ⟨g,o,none⟩∧(∀j u,vs[j]? =some u→w.cell? ⟨g,o+j,none⟩=some u)∧RVs ρ l vs∧l.length=2*n):=fun {b o c g} hg hr=>by
  obtain⟨g',vs,k1,k2,k3,k4⟩:=AS.rd_ok hs hr;rw[hg] at k1;cases k1;exact⟨_,_,rfl,.inr ⟨_,_,vs,rfl,k2,k3,k4⟩⟩
 cases x <;> simp only[Mb,Option.some.injEq,Prod.mk.injEq,QdJ,reduceCtorEq] at h
 case nils=>obtain⟨rfl,rfl⟩:=h;simp only[RV] at hv;exact⟨_,_,hv,.inl rfl⟩
 case emp=>obtain⟨rfl,rfl⟩:=h;simp only[RV] at hv;obtain⟨a,c,rfl,_⟩:=hv;exact⟨_,_,rfl,.inl rfl⟩
 case slc b o m c=>obtain⟨l',h,rfl,rfl⟩:=h;simp only[RV] at hv;obtain⟨g,hg,rfl⟩:=hv;exact rd hg h
 case slo b m=>obtain⟨l',h,rfl,rfl⟩:=h;simp only[RV] at hv;obtain⟨g,hg,_,rfl⟩:=hv;exact rd (o:=0) hg h
 case slu b o m=>obtain⟨l',h,rfl,rfl⟩:=h;simp only[RV] at hv;obtain⟨g,c,hg,_,rfl⟩:=hv;exact rd hg h
def Sc(D:SS)(s:AS):List AV→Option AV
 | [.agg [x,y]]=>match QaC x,Mb D s y with
  | some m,some (n,l)=>bif Nat.ble m 131072&&(Nat.beq (m%32) 0&&(Nat.ble n 100000&&Md (m/32) l)) then some (.bool true) else none
  | _,_=>none
 | _=>none
theorem CJ{W0:World}{nG:Nat}:OrcOK prog W0 nG 194 (fun D _ args s=>Ys s (Sc D s args)):=OrcOK.pure fun D args s v h ρ ω w xs hg hs hx=>by
 unfold Sc at h;split at h
 ·rename_i x y;split at h
  ·rename_i m n l hm hn;cases hb:(Nat.ble m 131072&&(Nat.beq (m%32) 0&&(Nat.ble n 100000&&Md (m/32) l))) with
   | false=>rw[hb] at h;cases h
   | true=>
    rw[hb] at h;cases h;simp only[Qdo] at hb;obtain⟨h1,h2,h3,h4⟩:=hb;simp only[RVs,RV] at hx;obtain⟨v1,r1,rfl,⟨us,rfl,u1,q1,rfl,k1,u2,q2,rfl,k2,rfl⟩,rfl⟩:=hx;obtain⟨a0,c0,rfl⟩:=Eg hm k1;obtain⟨a1,c1,rfl,k3⟩:=Ma hn hs k2;refine (LX a0 m c0 a1 n c1 w (Qd7 h2) (Qdn h1) (Qdn h3) ?_).mono ?_
    ·rcases k3 with k3|⟨g,o,vs,rfl,k4,k5,k6⟩
     ·exact .inl k3
     ·by_cases hn0:n=0
      ·exact .inl hn0
      ·have hW:=Ea n l vs h4 k5 k6;refine .inr ⟨g,o,rfl,?_,fun j hj=>?_⟩
       ·obtain⟨q,a,c,e1,e2,e3⟩:=hW 0 (by omega);exact Qfq w _ (k4 _ _ e2)
       ·obtain⟨q,a,c,e1,e2,e3⟩:=hW j hj;refine⟨q,a,c,e1,fun i u hu=>?_⟩
        match i,hu with
        | 0,hu=>cases hu;exact k4 _ _ e2
        | 1,hu=>cases hu;rw[Qeb];exact k4 _ _ e3
        | i+2,hu=>cases hu
    ·rintro e w' ⟨rfl,hb⟩;exact⟨_,rfl,XU,hb⟩
  ·cases h
 ·cases h
def Gb:List AV→Option AV
 | [.int .i64 (.ofNat n)]=>bif Nat.beq n 0 then some (.bool false) else none
 | _=>none
theorem RY{W0:World}{nG:Nat}:OrcOK prog W0 nG 244 (fun D _ args s=>Ys s (Gb args)):=OrcOK.pure (o:=fun _ _ args=>Gb args) fun D args s v h ρ ω w xs hg hs hx=>by
 unfold Gb at h;split at h
 ·rename_i n;cases hb:Nat.beq n 0 with
  | false=>rw[hb] at h;cases h
  | true=>
   rw[hb] at h;cases h;have:=Qd7 hb;subst this;simp only[RVs,RV] at hx;obtain⟨v1,r1,rfl,rfl,rfl⟩:=hx;refine (Mc w).mono ?_;rintro e w' ⟨rfl,rfl⟩;exact⟨_,rfl,XU,Below.refl _ _⟩
 ·cases h
theorem RPost.adopt{P:Program}{D:SS}{mk:Nat}{ρ ρ':Rh}{ω ω':Nat→Option Nat}{w w':World}{s s':AS}(hs:Sim P ρ ω D.hd D.cl s.hp.get w)(hb:Below w.heap.size w w')(hρ:Ext ρ ρ')(hω:∀r,r<w.heap.size→ω' r=ω r)
  (hrng:∀b,ρ b=none→ρ' b≠none→s.nx≤b∧b<s'.nx)
  (hh:∀b ao,s'.hp.get b=some ao→s.hp.get b=some ao∨∃g,ρ' b=some g∧ω' g.blk=wn b ao∧g.blk<w'.heap.size∧OR P ρ' (fun _=>false) ao g w'.heap[g.blk]?):RPost P D mk ρ ω w s s' ρ' ω' w':=
 ⟨fun b ao hd hx=>by
  rcases hh b ao hx with h|⟨g,h1,h2,h3,h4⟩
  ·obtain⟨g,h1,h2,h3,h4⟩:=hs b ao hd h;refine⟨g,hρ _ _ h1,(hω _ h3).trans h2,Qdr h3 hb.size,?_⟩;rw[hb.block g.blk h3];exact h4.mono hρ
  ·exact⟨g,h1,h2,h3,h4.weak fun _ _=>rfl⟩,
  ⟨hb.os,hb.tape,hb.output,hb.size,hρ,fun r b hr ho _=>⟨(hω r hr).trans ho,SameBut.of_eq (hb.block r hr)⟩,fun r hr ho=>⟨(hω r hr).trans ho,hb.block r hr⟩⟩,
  hrng⟩
theorem Br{w:World}{g o:Nat}{v:Value}(h:w.cell? ⟨g,o,none⟩=some v):∃c t z,w.heap[g]? =some (.cells c t z)∧c[o]? =some v:=by
 unfold World.cell? at h;split at h
 ·rename_i c t z hg;exact⟨c,t,z,hg,by simpa using h⟩
 ·cases h
def SC(magic:Nat)(m:Int)(b:Nat):AV:=.tup [.agg [.int .u32 (.ofNat magic),.int .i64 (.ofNat (YN m)),.emp,.int .i64 0],.slo b 1]
def Kv(magic:Nat)(m:Int)(cmd:List UInt8)(s:AS):List UInt8→Option (AV×AS)
 | []=>match s.new (.row 43 [.str cmd,.emp] true) with
  | some s1=>some (SC magic m s.nx,s1)
  | none=>none
 | x::r=>match s.new (.ro 5 ((x::r).map fun b=>.int .u8 (.ofNat b.toNat))) with
  | some s1=>match s1.new (.row 43 [.str cmd,.slu s.nx 0 (x::r).length] true) with
   | some s2=>some (SC magic m s1.nx,s2)
   | none=>none
  | none=>none
def PL(D:SS)(args:List AV)(s:AS):Option (AV×AS):=match args with
 | [.agg [.int .u32 (.ofNat magic),.int .i64 m,r,.int .i64 bad],c]=>match Kz D s r,Kz D s c with
  | some rest,some cs=>bif Nat.blt magic 4294967296&&(Nat.ble rest.length 1000000&&Nat.ble cs.length 1000000) then (match Bj magic m rest bad cs with
   | ([(cmd,pay)],[],.ofNat 0)=>Kv magic m cmd s pay
   | _=>none) else none
  | _,_=>none
 | _=>none
theorem CK{W0:World}(hL:Laid W0):OrcOK prog W0 W0.heap.size 170 (fun D _ args s=>PL D args s):=fun D mk args s v s' h hm=>by
 replace h:PL D args s=some (v,s'):=h;unfold PL at h;split at h
 ·rename_i magic m r bad c;split at h
  ·rename_i rest cs hr hc;cases hb:(Nat.blt magic 4294967296&&(Nat.ble rest.length 1000000&&Nat.ble cs.length 1000000)) with
   | false=>rw[hb] at h;cases h
   | true=>
   rw[hb] at h;simp only[Qdo] at hb;obtain⟨b1,b2,b3⟩:=hb;simp only[QdE] at h;split at h
   ·rename_i fr cmd pay hF;have post:APost mk s s':=by
     cases pay with
     | nil=>
      simp only[Kv] at h;split at h
      ·rename_i s1 h1;cases h;exact APost.new h1 hm
      ·cases h
     | cons x p=>
      simp only[Kv] at h;split at h
      ·rename_i s1 h1;split at h
       ·rename_i s2 h2;cases h;exact (APost.new h1 hm).trans (APost.new h2 (Qdx hm (APost.new (mk:=mk) h1 hm).nx))
       ·cases h
      ·cases h
    refine⟨post,fun ρ ω w xs hg hs hfr hx=>?_⟩;simp only[RVs,RV] at hx;obtain⟨v1,r1,rfl,⟨us,rfl,u1,q1,rfl,rfl,u2,q2,rfl,rfl,u3,q3,rfl,k3,u4,q4,rfl,rfl,rfl⟩,v2,r2,rfl,kc,rfl⟩:=hx;obtain⟨ar,cr,rfl,l1,l2,l3,l4⟩:=GL hr hs k3;obtain⟨ac,cc,rfl,m1,m2,m3,m4⟩:=GL hc hs kc;refine (Qaq magic (Xf b1) m bad ar rest.length cr rest ac cs.length cc cs rfl rfl l1 l2 m1 m2 (Qdn b2) (Qdn b3) l3 m3 w l4 m4 (hL.below hg.2.bel (Qde _))).mono ?_;rintro e w' ⟨v0,rfl,hbel,u,vl,b0,rfl,hclo,hmsg,hb0,-⟩;rw[hF] at hclo hmsg ⊢;obtain⟨ua,uc,rfl,-,-,hu3,hu4⟩:=hclo;obtain⟨L,hL1,hrow,hpay⟩:=hmsg;obtain⟨y,rfl,hy⟩:∃y,L=[y]∧y.1=(cmd,pay):=by
     match L,hL1 with
     | [y],e=>exact⟨y,rfl,by simpa using e⟩
    obtain⟨⟨cmd',pay'⟩,u2⟩:=y;cases hy;obtain⟨-,hrow⟩:=hrow;rcases hrow with ⟨-,e⟩|⟨g,cap,cur,rfl,hg0,hgo,hcap1,hcap2,hsz,htk⟩
    ·cases e
    have hpay:=hpay _ (QeG.2 rfl);obtain⟨pa,pc,hu2,hrd,hp1,hp2,hp3⟩:=hpay;simp only at hu2 hp1 hp3;have hmax:(maxLen:Nat)<9223372036854775808:=by unfold maxLen;decide
    have hgl:g<w'.heap.size:=by
     rcases Qee g w'.heap.size with h|h
     ·exact h
     ·rw[Qfe h] at hgo;cases hgo
    have hc0:cur[0]? =some (.string (Xg cmd)):=by
     have:(cur.toList.take (List.length [(cmd,pay)]*2))[0]? =some (.string (Xg cmd)):=by rw[htk];rfl
     rw[QdH (by simp)] at this;simpa using this
    have hc1:cur[1]? =some u2:=by
     have:(cur.toList.take (List.length [(cmd,pay)]*2))[1]? =some u2:=by rw[htk];rfl
     rw[QdH (by simp)] at this;simpa using this
    have hsz2:2≤cur.size:=by have:1≤cap:=hcap1;omega
    have hcell:(prog).cellsOf 43=2:=by kernel_rfl
    obtain⟨G,hG⟩:∃G:Pl,G=⟨g,0,cap,Qfh hcap2 hmax⟩:=⟨_,rfl⟩;have rvout:∀(ρ':Rh) (b:Nat),ρ' b=some G→RV ρ' (SC magic m b) (.tuple #[.agg (bufI magic (YN m) (.slice ua 0 uc) 0),.slice (some ⟨g,0,none⟩) 1 cap]):=fun ρ' b hρ=>by
     unfold SC;simp only[RV,RVs];refine⟨_,rfl,_,_,rfl,⟨_,rfl,_,_,rfl,rfl,_,_,rfl,rfl,_,_,rfl,⟨ua,uc,rfl,Qfh hu3 hmax,fun e=>(hu4 e).2⟩,_,_,rfl,rfl,rfl⟩,_,_,rfl,⟨G,hρ,?_,?_⟩,rfl⟩
     ·subst hG;exact hcap1
     ·subst hG;rfl
    have orow:∀(ρ':Rh) (x:AV),RV ρ' x u2→OR prog ρ' (fun _=>false) (.row 43 [.str cmd,x] true) G w'.heap[G.blk]? :=fun ρ' x hx=>by
     subst hG;refine⟨cur,hgo,hsz2,rfl,fun _=>by rw[hsz,hcell],fun i a hi _=>?_⟩
     match i,hi with
     | 0,hi=>cases hi;exact⟨_,hc0,by simp only[RV];rfl⟩
     | 1,hi=>cases hi;exact⟨_,hc1,hx⟩
     | i+2,hi=>cases hi
    cases pay with
    | nil=>
     simp only[Kv] at h;split at h
     ·rename_i s1 h1;cases h;obtain⟨n1,n2,n3⟩:=AS.new_get h1;refine⟨_,upd ρ s.nx (some G),upd ω g (some s.nx),rfl,rvout _ _ (by simp[upd]),RPost.adopt hs hbel ?_ ?_ ?_ ?_⟩
      ·intro b x hb;have:b≠s.nx:=fun e=>by subst e;rw[hfr s.nx (Qde _) (by omega)] at hb;cases hb
       simp[upd,this,hb]
      ·intro r hr;have:r≠g:=by omega
       simp[upd,this]
      ·intro b h0 h1;by_cases e:b=s.nx
       ·subst e;exact⟨Qde _,by omega⟩
       ·simp[upd,e,h0] at h1
      ·intro b ao hb;rw[n3] at hb;by_cases e:b=s.nx
       ·subst e;rw[Qdm rfl] at hb;cases hb;refine .inr ⟨G,by simp[upd],?_,by subst hG;exact hgl,orow _ _ ?_⟩
        ·subst hG;simp[upd,wn]
        ·rw[hu2];simp only[RV];exact⟨pa,pc,rfl,Qfh hp2 hmax,fun e=>(hp3 e).2⟩
       ·rw[Qdf e] at hb;exact .inl hb
     ·cases h
    | cons x p=>
     simp only[Kv] at h;split at h
     ·rename_i s1 h1;split at h
      ·rename_i s2 h2;cases h;obtain⟨n1,n2,n3⟩:=AS.new_get h1;obtain⟨o1,o2,o3⟩:=AS.new_get h2;rcases hrd with hrd|⟨gp,off,rfl,⟨hO1,hO2⟩,hgp,hRd⟩
       ·cases hrd
       have hne:gp≠g:=fun e=>hO2 (by subst e;rfl);obtain⟨GP,hGP⟩:∃G:Pl,G=⟨gp,off,0,by decide⟩:=⟨_,rfl⟩;obtain⟨cp,tp,zp,hcp,-⟩:=Br (hRd 0 (by simp));refine⟨_,upd (upd ρ s.nx (some GP)) s1.nx (some G),fun r=>if r<w.heap.size then ω r else if r=g then some s1.nx else none,rfl,rvout _ _ (by simp[upd]),RPost.adopt hs hbel ?_ ?_ ?_ ?_⟩
       ·intro b x hb;have e1:b≠s.nx:=fun e=>by subst e;rw[hfr s.nx (Qde _) (by omega)] at hb;cases hb
        have e2:b≠s1.nx:=fun e=>by subst e;rw[hfr s1.nx (by omega) (by omega)] at hb;cases hb
        simp[upd,e1,e2,hb]
       ·intro r hr;simp[hr]
       ·intro b h0 h1;by_cases e1:b=s.nx
        ·subst e1;exact⟨Qde _,by omega⟩
        ·by_cases e2:b=s1.nx
         ·subst e2;exact⟨by omega,by omega⟩
         ·simp[upd,e1,e2,h0] at h1
       ·intro b ao hb;rw[o3] at hb;by_cases e2:b=s1.nx
        ·subst e2;rw[Qdm rfl] at hb;cases hb;refine .inr ⟨G,by simp[upd],?_,by subst hG;exact hgl,orow _ _ ?_⟩
         ·subst hG;have:¬g<w.heap.size:=by omega
          simp[wn,this]
         ·rw[hu2];simp only[RV];refine⟨GP,pc,?_,⟨hp1,Qfh hp2 hmax⟩,?_⟩
          ·have:s.nx≠s1.nx:=by omega
           simp[upd,this]
          ·subst hGP;rfl
        ·rw[Qdf e2,n3] at hb;by_cases e1:b=s.nx
         ·subst e1;rw[Qdm rfl] at hb;cases hb;refine .inr ⟨GP,by simp[upd,e2],?_,by subst hGP;exact hgp,?_⟩
          ·subst hGP;have:¬gp<w.heap.size:=by omega
           simp[wn,this,hne]
          ·subst hGP;refine⟨cp,tp,zp,hcp,fun i a hi=>?_⟩;rw[QdI] at hi;obtain⟨b,hb1,rfl⟩:=QdJ.1 hi;have hlt:=(Qdt.1 hb1).1;obtain⟨c2,t2,z2,hc2,hv2⟩:=Br (hRd i hlt);rw[hcp] at hc2;cases hc2;refine⟨_,hv2,?_⟩;rw[QeC,hb1];exact Yg
         ·rw[Qdf e1] at hb;exact .inl hb
      ·cases h
     ·cases h
   ·cases h
  ·cases h
 ·cases h
def orc:YK:=fun D mk f args s=>
 bif Nat.beq f 22 then Ys s (GJ D s args) else
 bif Nat.beq f 100 then Ys s (Sf args) else
 bif Nat.beq f 162 then Ys s (Sb args) else
 bif Nat.beq f 130 then Ys s (Se args) else
 bif Nat.beq f 244 then Ys s (Gb args) else
 bif Nat.beq f 194 then Ys s (Sc D s args) else
 bif Nat.beq f 170 then PL D args s else none
def isO(f:FuncId):Bool:=Nat.beq f 22||(Nat.beq f 100||(Nat.beq f 162||(Nat.beq f 130||(Nat.beq f 244||(Nat.beq f 194||Nat.beq f 170)))))
theorem Qct{W0:World}(hL:Laid W0)(f:FuncId)(hf:isO f=true):OrcOK prog W0 W0.heap.size f (fun D mk args s=>orc D mk f args s):=by
 by_cases h1:f=22
 ·subst h1;exact Sd hL
 by_cases h2:f=100
 ·subst h2;exact FE
 by_cases h3:f=162
 ·subst h3;exact FC
 by_cases h4:f=130
 ·subst h4;exact FD
 by_cases h5:f=244
 ·subst h5;exact RY
 by_cases h6:f=194
 ·subst h6;exact CJ
 by_cases h7:f=170
 ·subst h7;exact CK hL
 exfalso;have e:∀{a b:Nat},a≠b→Nat.beq a b=false:=fun {a b} h=>by
  cases hb:Nat.beq a b with
  | false=>rfl
  | true=>exact absurd (Qd7 hb) h
 unfold isO at hf;rw[e h1,e h2,e h3,e h4,e h5,e h6,e h7] at hf;cases hf
def cat{α:Type}:List (List α)→List α
 | []=>[]
 | x::r=>x.append (cat r)
def bz(l:List Nat):List AV:=l.map fun n=>.int .u8 (.ofNat n)
def VG:Option Code→Nat→Code
 | some (.seq x _),0=>x
 | some (.seq _ y),n+1=>VG (some y) n
 | some c,_=>c
 | none,_=>.skip
theorem D0:Tryz.f4.body=some (.seq (VG Tryz.f4.body 0) (.seq (VG Tryz.f4.body 1) (.seq (VG Tryz.f4.body 2) (.seq (VG Tryz.f4.body 3) (.seq (VG Tryz.f4.body 4) (.seq (VG Tryz.f4.body 5) (.seq (VG Tryz.f4.body 6) (VG Tryz.f4.body 7)))))))):=by kernel_rfl
theorem O8:Tryz.f4.ntmps=39:=by kernel_rfl
end Go.Proofs.YthdaabapiicnhaaGreatDoor.Av
