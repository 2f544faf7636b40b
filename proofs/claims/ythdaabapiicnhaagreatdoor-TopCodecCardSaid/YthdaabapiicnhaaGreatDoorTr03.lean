/- Steps of the proof. -/
import Derived.StillTailTactics
import Derived.Test.YthdaabapiicnhaaGreatDoorTie
import Derived.Test.YthdaabapiicnhaaGreatDoorCards
import Derived.ChangeVars
import Derived.FnData
import Derived.Deep.DeepHandedRow
import Derived.Lib.LaidTab
import Derived.JoinedOf
import Derived.ChangeSame
import Derived.Deep.MidRow
import Derived.Test.YthdaabapiicnhaaGreatDoorTr02
set_option linter.all false
set_option maxRecDepth 100000
set_option maxHeartbeats 4000000
open Go.Proofs.Tryz
namespace Go.Proofs.YthdaabapiicnhaaGreatDoor
open Go.RowKit
def s0w(x:Wd):Wd:=rr x 7 ^^^ rr x 18 ^^^ x >>> 3
def s1w(y:Wd):Wd:=rr y 17 ^^^ rr y 19 ^^^ y >>> 10
def bw(c:UInt8):Wd:=BitVec.ofNat 32 c.toNat
theorem Pk(c:UInt8):wn (bw c)=c.toNat:=by
 have:=c.toNat_lt;unfold wn bw;rw[BitVec.toNat_ofNat];omega
def fw(b:List UInt8)(i:Nat):Wd:=bw (b.getD (4*i) 0) <<< 24||| bw (b.getD (4*i+1) 0) <<< 16||| bw (b.getD (4*i+2) 0) <<< 8||| bw (b.getD (4*i+3) 0)
def Jo(b:List UInt8)(k:Nat):List Wd:=(List.range k).map (fw b)
def MI(l:List Wd):Wd:=s1w (l.getD (l.length-2) 0)+l.getD (l.length-7) 0+s0w (l.getD (l.length-15) 0)+l.getD (l.length-16) 0
def KV(b:List UInt8):Nat→List Wd
 | 0=>Jo b 16
 | j+1=>KV b j++[MI (KV b j)]
def Wb(b:List UInt8):List Wd:=KV b 48
def rnd(k w:Wd):List Wd→List Wd
 | [a,b,c,d,e,f,g,h]=>
  let t1:=h+(rr e 6 ^^^ rr e 11 ^^^ rr e 25)+(e&&& f ^^^ ~~~e&&& g)+k+w
  let t2:=(rr a 2 ^^^ rr a 13 ^^^ rr a 22)+(a&&& b ^^^ a&&& c ^^^ b&&& c)
  [t1+t2,a,b,c,d+t1,e,f,g]
 | l=>l
def KC:List Wd:=[0x428a2f98,0x71374491,0xb5c0fbcf,0xe9b5dba5,0x3956c25b,0x59f111f1,0x923f82a4,0xab1c5ed5,0xd807aa98,0x12835b01,0x243185be,0x550c7dc3,0x72be5d74,0x80deb1fe,0x9bdc06a7,0xc19bf174,0xe49b69c1,0xefbe4786,0x0fc19dc6,0x240ca1cc,0x2de92c6f,0x4a7484aa,0x5cb0a9dc,0x76f988da,0x983e5152,0xa831c66d,0xb00327c8,0xbf597fc7,0xc6e00bf3,0xd5a79147,0x06ca6351,0x14292967,0x27b70a85,0x2e1b2138,0x4d2c6dfc,0x53380d13,0x650a7354,0x766a0abb,0x81c2c92e,0x92722c85,0xa2bfe8a1,0xa81a664b,0xc24b8b70,0xc76c51a3,0xd192e819,0xd6990624,0xf40e3585,0x106aa070,0x19a4c116,0x1e376c08,0x2748774c,0x34b0bcb5,0x391c0cb3,0x4ed8aa4a,0x5b9cca4f,0x682e6ff3,0x748f82ee,0x78a5636f,0x84c87814,0x8cc70208,0x90befffa,0xa4506ceb,0xbef9a3f7,0xc67178f2]
def HI:List Wd:=[0x6a09e667,0xbb67ae85,0x3c6ef372,0xa54ff53a,0x510e527f,0x9b05688c,0x1f83d9ab,0x5be0cd19]
def Vc(W v:List Wd):Nat→List Wd
 | 0=>v
 | n+1=>rnd (KC.getD n 0) (W.getD n 0) (Vc W v n)
def blk(h:List Wd)(b:List UInt8):List Wd:=if b.length=64 then List.zipWith (· +·) (Vc (Wb b) h 64) h else h
theorem NR(b:List UInt8)(k:Nat):(Jo b k).length=k:=by simp[Jo]
theorem J0(b:List UInt8)(j:Nat):(KV b j).length=16+j:=by
 induction j with
 | zero=>simp[KV,Jo]
 | succ j ih=>rw[KV,Qdj,ih];simp;omega
theorem Bi(b:List UInt8)(k:Nat):Jo b (k+1)=Jo b k++[fw b k]:=by simp[Jo,List.range_succ]
theorem Cv(k w:Wd)(l:List Wd)(h:l.length=8):(rnd k w l).length=8:=by
 match l,h with
 | [a,b,c,d,e,f,g,h],_=>rfl
theorem J9(W v:List Wd)(h:v.length=8)(n:Nat):(Vc W v n).length=8:=by
 induction n with
 | zero=>exact h
 | succ n ih=>exact Cv _ _ _ ih
theorem Vl(h:List Wd)(b:List UInt8)(hl:h.length=8):(blk h b).length=8:=by
 unfold blk;split
 ·rw[List.length_zipWith,J9 _ _ hl,hl];rfl
 ·exact hl
def Q4(l:List Wd):Array Value:=(l.map fun x=>Value.int .u32 (wn x)).toArray
def Yv(n:Nat)(l:List Wd):Array Value:=Q4 (l++List.replicate (n-l.length) 0)
theorem XI(l:List Wd):(Q4 l).size=l.length:=by simp[Q4]
theorem We(l:List Wd)(i:Nat)(h:i<l.length):(Q4 l)[i]? =some (.int .u32 (wn (l.getD i 0))):=by simp[Q4,h]
theorem ZZ(l:List Wd):(Q4 l).all (·.oneCell')=true:=by simp[Q4,Value.oneCell']
theorem JF(n:Nat)(l:List Wd)(h:l.length≤n):(Yv n l).size=n:=by unfold Yv;rw[XI];simp;omega
theorem PJ(n:Nat)(l:List Wd)(i:Nat)(h:i<l.length):(Yv n l)[i]? =some (.int .u32 (wn (l.getD i 0))):=by
 unfold Yv;rw[We _ _ (by simp;omega)];simp[List.getD,Qd3 h]
theorem Tl(n:Nat)(l:List Wd)(i:Nat)(hl:l.length≤n)(h:i<n):∃v,(Yv n l)[i]? =some v:=by
 have:i<(Yv n l).size:=by rw[JF n l hl];exact h
 exact⟨_,Qev this⟩
theorem RU(n:Nat)(l:List Wd)(x:Wd)(h:l.length<n):(Yv n l).setIfInBounds l.length (.int .u32 (wn x))=Yv n (l++[x]):=by
 unfold Yv Q4;have e:n-l.length=(n-(l++[x]).length)+1:=by simp;omega
 rw[e,Qfp];simp
theorem F8(n:Nat)(l:List Wd)(h:l.length=n):Yv n l=Q4 l:=by unfold Yv;rw[h,Qe9];simp
theorem Wa:Yv 64 []=#[.int .u32 0,.int .u32 0,.int .u32 0,.int .u32 0,.int .u32 0,.int .u32 0,.int .u32 0,.int .u32 0,.int .u32 0,.int .u32 0,.int .u32 0,.int .u32 0,.int .u32 0,.int .u32 0,.int .u32 0,.int .u32 0,.int .u32 0,.int .u32 0,.int .u32 0,.int .u32 0,.int .u32 0,.int .u32 0,.int .u32 0,.int .u32 0,.int .u32 0,.int .u32 0,.int .u32 0,.int .u32 0,.int .u32 0,.int .u32 0,.int .u32 0,.int .u32 0,.int .u32 0,.int .u32 0,.int .u32 0,.int .u32 0,.int .u32 0,.int .u32 0,.int .u32 0,.int .u32 0,.int .u32 0,.int .u32 0,.int .u32 0,.int .u32 0,.int .u32 0,.int .u32 0,.int .u32 0,.int .u32 0,.int .u32 0,.int .u32 0,.int .u32 0,.int .u32 0,.int .u32 0,.int .u32 0,.int .u32 0,.int .u32 0,.int .u32 0,.int .u32 0,.int .u32 0,.int .u32 0,.int .u32 0,.int .u32 0,.int .u32 0,.int .u32 0]:=by kernel_rfl
theorem Ht:Yv 8 []=#[.int .u32 0,.int .u32 0,.int .u32 0,.int .u32 0,.int .u32 0,.int .u32 0,.int .u32 0,.int .u32 0]:=by kernel_rfl
theorem is64(c:Array Value)(h:c.size=64):(prog.info? 294).map (·.size)=some c.size:=by rw[h];kernel_rfl
theorem is8(c:Array Value)(h:c.size=8):(prog.info? 203).map (·.size)=some c.size:=by rw[h];kernel_rfl
theorem VC{fn:Func}{p:Tmp}{ty:TypeId}(h:fn.results=#[.cell p ty]){P:Program}(tmps:Array Value)(w:World)(g:Nat)(t:TypeId)(cs:Array Value){n:Nat}{e:TypeId}
  (hp:tmps.getD p undef= .pointer (some ⟨g,0,none⟩)) (hg:Blk w g t cs) (hu:P.underlying ty=some (.array n e)) (hi:(P.info? ty).map (·.size)=some cs.size):
  (results fn tmps).run P w= .ok (.agg cs) w:=results_cell_row h tmps w g t cs (0,0) _ hp hg hu rfl hi
theorem GE(x:Wd)(h:wn x<256):((wn x:Nat):Int)*(16777216:Int)=((wn (x <<< 24):Nat):Int)∧((wn x:Nat):Int)*(65536:Int)=((wn (x <<< 16):Nat):Int)∧((wn x:Nat):Int)*(256:Int)=((wn (x <<< 8):Nat):Int):=by
 have a:=TQ x 24;have b:=TQ x 16;have c:=TQ x 8;rw[IntKind.wrap_u32] at a b c;refine⟨?_,?_,?_⟩ <;> omega
theorem Fk(g off c:Nat)(b:List UInt8)(w:World)(hr:Rd w g off b)(hg:g<w.heap.size)(hl:b.length=64):
  Calls prog 157 #[.slice (some ⟨g,off,none⟩) 64 c] w fun e w'=>e= .returned (.agg (Q4 (Wb b)))∧Below w.heap.size w w':=by
 have HRd:=H2 hr hl;clear hr hl;go_enter func157,ntmps157;go_wp2;go_loopw [10] (fun i wr=>∃k:Nat,k≤16∧i= .int .i64 k∧Blk wr (w.heap.size) 294 (Yv 64 [])∧Blk wr (w.heap.size+1) 294 (Yv 64 (Jo b k))∧Below w.heap.size w wr) (fun i _=>16-(intOf i).toNat)
 case atStart=>
  refine⟨0,by omega,rfl,?_,?_,?_⟩
  ·rw[Wa];exact (Blk.newAt _ _ _ rfl).alloc _
  ·rw[show Jo b 0=[] from rfl,Wa];exact Blk.newAt _ _ _ (by simp)
  ·exact ((Below.refl _ _).alloc (Qde _) _).alloc (by simp) _
 case round=>
  obtain⟨k,hk,rfl,h1,h2,hb⟩:=hrel;by_cases hlt:k<16
  ·have hl:=HRd.out.2;obtain⟨p0,hp0⟩:=nE (4*k);obtain⟨p1,hp1⟩:=nE (p0+1);obtain⟨p2,hp2⟩:=nE (p0+2);obtain⟨p3,hp3⟩:=nE (p0+3);have c0:=HRd.out.1.at hb hg p0 (by omega);have c1:=HRd.out.1.at hb hg p1 (by omega);have c2:=HRd.out.1.at hb hg p2 (by omega);have c3:=HRd.out.1.at hb hg p3 (by omega);obtain⟨x0,hx0⟩:=nE (bw (b.getD p0 0));obtain⟨x1,hx1⟩:=nE (bw (b.getD p1 0));obtain⟨x2,hx2⟩:=nE (bw (b.getD p2 0));obtain⟨x3,hx3⟩:=nE (bw (b.getD p3 0));rw[←Pk,←hx0] at c0;rw[←Pk,←hx1] at c1;rw[←Pk,←hx2] at c2;rw[←Pk,←hx3] at c3;have b0:wn x0<256:=by rw[hx0,Pk];exact UInt8.toNat_lt _
   have b1:wn x1<256:=by rw[hx1,Pk];exact UInt8.toNat_lt _
   have b2:wn x2<256:=by rw[hx2,Pk];exact UInt8.toNat_lt _
   have b3:wn x3<256:=by rw[hx3,Pk];exact UInt8.toNat_lt _
   obtain⟨y,hy⟩:=nE (fw b k);have hyy:x0 <<< 24||| x1 <<< 16||| x2 <<< 8||| x3=y:=by rw[hy,hx0,hx1,hx2,hx3,hp1,hp2,hp3,hp0];rfl
   have i0:4*(k:Int)=(p0:Int):=by omega
   have i1:(p0:Int)+1=(p1:Int):=by omega
   have i2:(p0:Int)+2=(p2:Int):=by omega
   have i3:(p0:Int)+3=(p3:Int):=by omega
   have q0:p0<64:=by omega
   have q1:p1<64:=by omega
   have q2:p2<64:=by omega
   have q3:p3<64:=by omega
   have v0:=(GE x0 b0).1;have v1:=(GE x1 b1).2.1;have v2:=(GE x2 b2).2.2;have o1:=SH (x0 <<< 24) (x1 <<< 16);have o2:=SH (x0 <<< 24||| x1 <<< 16) (x2 <<< 8);have o3:=SH (x0 <<< 24||| x1 <<< 16||| x2 <<< 8) x3;rw[hyy] at o3;have hw:=NR b k;obtain⟨v4,hv4⟩:=Tl 64 (Jo b k) k (by omega) (by omega);have c4:=Qz h2 k _ hv4;have f4:=h2.frozen k;have k64:(k:Int)<64:=by omega
   have H:=H5 h1 h2 hb hy hw;clear h1 h2 hb hy hw hyy hx0 hx1 hx2 hx3 hp0 hp1 hp2 hp3 hv4 hl;go_wp2;go_region;go_wp2;obtain⟨h1,h2,hb,hy,hw⟩:=H.out;go_roundw
   case rel=>
    refine⟨k+1,by omega,by go_num,(h1.far (by omega) _).drew,?_,(hb.setCell (by simp) _).drew⟩;have hs:=RU 64 (Jo b k) y (by omega);rw[hw] at hs;rw[Bi,←hy,←hs];exact (h2.set_ k _).drew
   case measure=>simp[intOf];omega
  ·obtain rfl:k=16:=by omega
   clear hlt;have HB:=H3 h1 h2 hb;clear h1 h2 hb;rw[show ((16:Nat):Int)=16 from rfl];go_wp2;go_loopw [5] (fun i wr=>∃n:Nat,16≤n∧n≤64∧i= .int .i64 n∧Blk wr (w.heap.size) 294 (Yv 64 [])∧Blk wr (w.heap.size+1) 294 (Yv 64 (KV b (n-16)))∧Below w.heap.size w wr) (fun i _=>64-(intOf i).toNat)
   case atStart=>
    obtain⟨h1,h2,hb⟩:=HB.out;exact⟨16,by omega,by omega,rfl,h1,h2,hb⟩
   case round=>
    clear HB;obtain⟨n,hn16,hn64,rfl,h1,h2,hb⟩:=hrel;by_cases hlt:n<64
    ·obtain⟨l,hl⟩:=nE (KV b (n-16));have hln:l.length=n:=by rw[hl,J0];omega
     rw[←hl] at h2;obtain⟨p,hp⟩:=nE (n-15);obtain⟨q,hq⟩:=nE (n-2);obtain⟨r,hr⟩:=nE (n-7);obtain⟨t,ht⟩:=nE (n-16);obtain⟨x,hx⟩:=nE (l.getD p 0);obtain⟨y,hy⟩:=nE (l.getD q 0);obtain⟨z,hz⟩:=nE (l.getD r 0);obtain⟨u,hu⟩:=nE (l.getD t 0);have cx:=Qz h2 p _ (PJ 64 l p (by omega));have cy:=Qz h2 q _ (PJ 64 l q (by omega));have cz:=Qz h2 r _ (PJ 64 l r (by omega));have cu:=Qz h2 t _ (PJ 64 l t (by omega));rw[←hx] at cx;rw[←hy] at cy;rw[←hz] at cz;rw[←hu] at cu;have ip:(n:Int)-15=(p:Int):=by omega
     have iq:(n:Int)-2=(q:Int):=by omega
     have ir:(n:Int)-7=(r:Int):=by omega
     have it:(n:Int)-16=(t:Int):=by omega
     have p64:(p:Int)<64:=by omega
     have q64:(q:Int)<64:=by omega
     have r64:(r:Int)<64:=by omega
     have t64:(t:Int)<64:=by omega
     have n64:(n:Int)<64:=by omega
     obtain⟨v4,hv4⟩:=Tl 64 l n (by omega) hlt;have c4:=Qz h2 n _ hv4;have f4:=h2.frozen n;obtain⟨e0,he0⟩:=nE (s0w x);obtain⟨e1,he1⟩:=nE (s1w y);have a1:=Zl (rr x 7) (rr x 18);have a2:=Zl (rr x 7 ^^^ rr x 18) (x >>> 3);have a3:((wn x:Nat):Int)/(8:Int)=((wn (x >>> 3):Nat):Int):=Cs x 3;have a4:rr x 7 ^^^ rr x 18 ^^^ x >>> 3=e0:=he0.symm;rw[a4] at a2;have d1:=Zl (rr y 17) (rr y 19);have d2:=Zl (rr y 17 ^^^ rr y 19) (y >>> 10);have d3:((wn y:Nat):Int)/(1024:Int)=((wn (y >>> 10):Nat):Int):=Cs y 10;have d4:rr y 17 ^^^ rr y 19 ^^^ y >>> 10=e1:=he1.symm;rw[d4] at d2;have H:=H15 h1 h2 hb hl hln he0 he1 hx hy hz hu hp hq hr ht;clear h1 h2 hb hl hln he0 he1 hx hy hz hu hp hq hr ht a4 d4 hv4;go_wp2;go_region;go_wp2_with (go_at_call 158;(first|(with_reducible refine (Wf x 7 7 rfl (by decide) (by decide) _).mono ?_)|(with_reducible refine (Wf x 18 18 rfl (by decide) (by decide) _).mono ?_)|(with_reducible refine (Wf y 17 17 rfl (by decide) (by decide) _).mono ?_)|(with_reducible refine (Wf y 19 19 rfl (by decide) (by decide) _).mono ?_));rintro e w' ⟨rfl,rfl⟩);go_region;go_wp2;obtain⟨h1,h2,hb,hl,hln,he0,he1,hx,hy,hz,hu,hp,hq,hr,ht⟩:=H.out;go_roundw
     case rel=>
      refine⟨n+1,by omega,by omega,by go_num,(h1.far (by omega) _).drew.drew,?_,(hb.setCell (by simp) _).drew.drew⟩;have hs:=RU 64 l (e1+z+e0+u) (by omega);have hnx:MI l=e1+z+e0+u:=by
       unfold MI;rw[hln,←hp,←hq,←hr,←ht,←hx,←hy,←hz,←hu,←he0,←he1]
      rw[hln] at hs;have hext:KV b (n+1-16)=l++[e1+z+e0+u]:=by
       rw[show n+1-16=(n-16)+1 by omega,KV,←hl,hnx]
      rw[hext,←hs];rw[Qb5];exact (h2.set_ n _).drew.drew
     case measure=>simp[intOf];omega
    ·obtain rfl:n=64:=by omega
     have hfull:Yv 64 (KV b 48)=Q4 (Wb b):=F8 64 _ (J0 b 48);rw[show 64-16=48 from rfl,hfull] at h2;have hz:(Yv 64 []).size=64:=JF 64 [] (by simp);have hlen:(Wb b).length=64:=J0 b 48;obtain⟨ws,hws⟩:=nE (Wb b);rw[←hws] at h2 hlen;have HW:=Lib.hid hws;clear hws;have s2:(Q4 ws).size=64:=by rw[XI,hlen]
     have i2:=is64 (Q4 ws) s2;have s0:(Yv 64 []).size=(Q4 ws).size:=by rw[hz,s2]
     have a2:=ZZ ws;have H:=H3 h1 h2 hb;clear h1 h2 hb hfull hz hlen s2;go_wp2_with (first|with_reducible refine PY H.out.2.1 _ _ rfl rfl rfl _ _ underlying294 i2 ?_|with_reducible refine Ql H.out.1 _ _ _ _ rfl rfl rfl rfl i2 s0 a2 ?_);obtain⟨h1,h2,hb⟩:=H.out;refine Qdg (v:=.agg (Q4 ws)) ?_ rfl ⟨by rw[HW.out],Qb hb (by omega) _⟩;exact VC rfl _ _ _ _ _ rfl (h1.row _) underlying294 i2
def Laid(w:World):Prop:=(∀i,i<64→w.cell? ⟨3,i,none⟩=some (.int .u32 (wn (KC.getD i 0))))∧(∀i,i<8→w.cell? ⟨0,i,none⟩=some (.int .u32 (wn (HI.getD i 0))))
theorem Laid.lt{w:World}(h:Laid w):3<w.heap.size∧0<w.heap.size:=
 ⟨Qfq w _ (h.1 0 (by omega)),Qfq w _ (h.2 0 (by omega))⟩
theorem Laid.below{w w':World}(h:Laid w){B:Nat}(hb:Below B w w')(hB:w.heap.size≤B):Laid w':=
 ⟨fun i hi=>(hb.cell (p:=⟨_,i,none⟩) (Qdr h.lt.1 hB)).trans (h.1 i hi),fun i hi=>(hb.cell (p:=⟨_,i,none⟩) (Qdr h.lt.2 hB)).trans (h.2 i hi)⟩
theorem Laid.calls{w w':World}(h:Laid w)(hb:Below w.heap.size w w'):Laid w':=h.below hb (Qde _)
theorem Laid.drewN{w:World}(h:Laid w)(n:Nat):Laid (w.drewN n):=h
theorem Rm(i:Nat)(hi:i<64)(k:Wd)(hk:KC.getD i 0=k)(w:World)(hL:Laid w):
  Calls prog 159 #[.int .i64 i] w fun e w'=>e= .returned (.int .u32 (wn k))∧w'=w:=by
 have c:=hL.1 i hi;rw[hk] at c;have h1:(i:Int)≤63:=by omega
 clear hL hk;go_enter func159,ntmps159;go_wp2;go_ret;exact⟨rfl,rfl⟩
theorem BY(i:Nat)(hi:i<8)(k:Wd)(hk:HI.getD i 0=k)(w:World)(hL:Laid w):
  Calls prog 123 #[.int .i64 i] w fun e w'=>e= .returned (.int .u32 (wn k))∧w'=w:=by
 have c:=hL.2 i hi;rw[hk] at c;have h1:(i:Int)≤7:=by omega
 clear hL hk;go_enter func123,ntmps123;go_wp2;go_ret;exact⟨rfl,rfl⟩
end Go.Proofs.YthdaabapiicnhaaGreatDoor
namespace Go.Proofs.YthdaabapiicnhaaGreatDoor
open Go.ChangeShapes Go.WideShapes Go.ChangeAt Go.RowKit
def KZ:List Int:=KC.map fun x=>(wn x:Int)
def HZ:List Int:=HI.map fun x=>(wn x:Int)
theorem Qc9:(Rows.laid_florin_sha2_constants:DataW Unit)= .agg (KZ.map fun z=>.lit (.int .u32 z)):=by kernel_rfl
theorem QcA:(Rows.laid_florin_sha2_initials:DataW Unit)= .agg (HZ.map fun z=>.lit (.int .u32 z)):=by kernel_rfl
theorem gK : prog.globalNamed "florin/sha2.constants" = some 3 := by kernel_rfl
theorem gH : prog.globalNamed "florin/sha2.initials" = some 0 := by kernel_rfl
theorem gKt:(prog.globals[3]?).map (·.type)=some 294:=by kernel_rfl
theorem gHt:(prog.globals[0]?).map (·.type)=some 203:=by kernel_rfl
theorem Ts{H:Type}{enc:TypeId×Value→H}{P:Program}{w:World}{base:Nat}{spare:Nat→Bool}{held:Bool}{fuel n:Nat}{t e:TypeId}{k:IntKind}{cs:List Value}{p:List MemPlace}(ht:P.underlying t=some (.array n e))(he:P.underlying e=some (.int k))(hce:P.cellsOf e=1)(hct:P.cellsOf t=n)
  (zs:List Int) (h:DataW.trod enc P w base spare held fuel t cs=some (.agg (zs.map fun z=>.lit (.int k z)),p)):cs=zs.map (Value.int k):=by
 obtain⟨xs,m,_,hx,hl,hxl,hg⟩:=DataW.trod_array ht h;have hx1:(zs.map fun z=>(DataW.lit (.int k z):DataW H))=xs.map (·.1):=by
  have:=congrArg Prod.fst hx;simpa using this
 have hzl:zs.length=n:=by
  have:=congrArg List.length hx1;simpa[hxl] using this
 apply Qfd
 ·rw[hl,hct,QdA,hzl]
 ·intro i h1 h2;have hi:i<n:=by rw[hl,hct] at h1;exact h1
  have hgi:=hg i hi;rw[hce,Qe2,Qew h1,Qdk (by omega)] at hgi;obtain⟨z,hz1,hz2,_⟩:=DataW.trod_int he hgi;have hz1':cs[i]= .int k z:=by
   have h3:[cs[i]]=[.int k z]:=hz1;injection h3
  have hxi:(xs.map (·.1))[i]? =some (.lit (.int k z)):=by
   rw[QdI,Qdk (by omega),hz2];rfl
  rw[←hx1,QdI,Qdk (by omega)] at hxi;have hzz:zs[i]=z:=by simpa using hxi
  rw[hz1',List.getElem_map,hzz]
abbrev Do:Array Value:=(KZ.map (Value.int .u32)).toArray
abbrev Dp:Array Value:=(HZ.map (Value.int .u32)).toArray
theorem St {W : World} (h : W.var? prog "florin/sha2.constants" = some Do ∧ W.var? prog "florin/sha2.initials" = some Dp) : Laid W := by
 refine⟨fun i hi=>?_,fun i hi=>?_⟩
 ·rw[World.var?_cell gK h.1 i];have:i<KC.length:=hi;simp[KZ,this]
 ·rw[World.var?_cell gH h.2 i];have:i<HI.length:=hi;simp[HZ,this]
def Gi(c:Array Value):Obj→Obj
 | .cells _ t frozen=>.cells c t frozen
 | o=>o
theorem M3{lk:Bool}(hlk:lk=Tryz.pinned.checked.prog.looks []){name:String}{f0:FuncId}{fn0:Func}(hn:prog.funcNamed name=some f0)(h0:prog.funcs[f0]? =some fn0)(hp:(fn0.params.toList.all fun t=>!prog.wantsStandIn t)=true)(f:FuncId)(fn:Func)(hf:Tryz.pinned.checked.prog.funcNamed name=some f)(hfn:Tryz.pinned.checked.prog.funcs[f]? =some fn):
  lk=Tryz.pinned.checked.prog.looks []∧∀(j:Nat) t,fn.params[j]? =some t→Tryz.pinned.checked.prog.wantsStandIn t=false:=by
 obtain rfl:f=f0:=Option.some.inj (hn.symm.trans hf) |>.symm;obtain rfl:fn=fn0:=(Option.some.inj (h0.symm.trans hfn)).symm;refine⟨hlk,fun j t ht=>?_⟩;have h:=QdG.1 hp t (by simpa using Array.mem_of_getElem? ht);have h':prog.wantsStandIn t=false:=by simpa using h
 exact h'
abbrev Wq : List (String × DataW Unit) := [("unicode/utf8.acceptRanges", Rows.laid_unicode_utf8_acceptRanges), ("florin/sha2.constants", Rows.laid_florin_sha2_constants), ("florin/sha2.initials", Rows.laid_florin_sha2_initials), ("unicode/utf8.first", Rows.laid_unicode_utf8_first)]
theorem NE {W : World} (h : laidMet prog Wq W) : W.var? prog "florin/sha2.constants" = some Do ∧ W.var? prog "florin/sha2.initials" = some Dp := by
 obtain⟨ps,⟨g0,t0,cs0,fuel0,p0,q0,hg0,ht0,hvar0,hd0,⟨g,t,cs,fuel,p,q,hg,ht,hvar,hd,⟨g2,t2,cs2,fuel2,p2,q2,hg2,ht2,hvar2,hd2,_,_⟩,_⟩,_⟩,_⟩:=h;obtain rfl:=Option.some.inj (gK.symm.trans hg);obtain rfl:=Option.some.inj (gKt.symm.trans ht);obtain rfl:=Option.some.inj (gH.symm.trans hg2);obtain rfl:=Option.some.inj (gHt.symm.trans ht2);rw[Qc9] at hd;rw[QcA] at hd2;have e1:=Ts underlying294 underlying22 (by kernel_rfl) (by kernel_rfl) KZ hd;have e2:=Ts underlying203 underlying22 (by kernel_rfl) (by kernel_rfl) HZ hd2;refine⟨by rw[hvar];congr 1;exact Array.ext' e1,by rw[hvar2];congr 1;exact Array.ext' e2⟩
theorem NP{W:World}(h:laidMetH prog Wq W):laidMet prog Wq W:=h
theorem Qal{W:World}(h:laidMetH prog Wq W):Laid W:=St (NE (NP h))
abbrev Dq:Array Value:=(Go.Pinned.utf8FirstZ.map fun (n:Nat)=>Value.int .u8 (n:Int)).toArray
abbrev Ox:Array Value:=#[.int .u8 128,.int .u8 191,.int .u8 160,.int .u8 191,.int .u8 128,.int .u8 159,.int .u8 144,.int .u8 191,.int .u8 128,.int .u8 143,.int .u8 0,.int .u8 0,.int .u8 0,.int .u8 0,.int .u8 0,.int .u8 0,.int .u8 0,.int .u8 0,.int .u8 0,.int .u8 0,.int .u8 0,.int .u8 0,.int .u8 0,.int .u8 0,.int .u8 0,.int .u8 0,.int .u8 0,.int .u8 0,.int .u8 0,.int .u8 0,.int .u8 0,.int .u8 0]
noncomputable def Hm(os:Os):World:=
 {World.holding prog os ⟨#[],#[],[]⟩ with heap:=((((World.holding prog os ⟨#[],#[],[]⟩).heap.modify 3 (Gi Do)).modify 0 (Gi Dp)).modify 1 (Gi Dq)).modify 2 (Gi Ox)}
end Go.Proofs.YthdaabapiicnhaaGreatDoor
namespace Go.Proofs.YthdaabapiicnhaaGreatDoor
open Go.RowKit
theorem Gs(l:List Wd)(h:l.length=8):∃a b c d e f g i,l=[a,b,c,d,e,f,g,i]:=by
 match l,h with
 | [a,b,c,d,e,f,g,i],_=>exact⟨a,b,c,d,e,f,g,i,rfl⟩
theorem cl8{w:World}{g:Nat}{t:TypeId}{a b c d e f i j:Wd}(h:Blk w g t (Q4 [a,b,c,d,e,f,i,j])):
  w.cell? ⟨g,0,none⟩=some (.int .u32 (wn a))∧w.cell? ⟨g,1,none⟩=some (.int .u32 (wn b))∧w.cell? ⟨g,2,none⟩=some (.int .u32 (wn c))∧w.cell? ⟨g,3,none⟩=some (.int .u32 (wn d))∧
  w.cell? ⟨g,4,none⟩=some (.int .u32 (wn e))∧w.cell? ⟨g,5,none⟩=some (.int .u32 (wn f))∧w.cell? ⟨g,6,none⟩=some (.int .u32 (wn i))∧w.cell? ⟨g,7,none⟩=some (.int .u32 (wn j)):=
 ⟨h.cell 0,h.cell 1,h.cell 2,h.cell 3,h.cell 4,h.cell 5,h.cell 6,h.cell 7⟩
def VS(v h:List Wd)(k:Nat):List Wd:=(List.range 8).map fun j=>if j<k then v.getD j 0+h.getD j 0 else v.getD j 0
theorem ZG(v h:List Wd)(k:Nat):(VS v h k).length=8:=by simp[VS]
theorem Qb4(v h:List Wd)(k:Nat)(hk:k<8):(VS v h k).getD k 0=v.getD k 0:=by simp[VS,hk]
theorem Lt(v h:List Wd)(hv:v.length=8):VS v h 0=v:=by
 apply Qfd (by rw[ZG,hv]);intro i h1 h2;simp[VS,List.getD,h2]
theorem Lu(v h:List Wd)(hv:v.length=8)(hh:h.length=8):VS v h 8=List.zipWith (· +·) v h:=by
 apply Qfd (by rw[ZG,List.length_zipWith,hv,hh];rfl);intro i h1 h2;have h3:i<8:=by rw[ZG] at h1;exact h1
 simp[VS,List.getD,h3,hv,hh]
theorem OJ(v h:List Wd)(k:Nat)(hk:k<8):(Q4 (VS v h k)).setIfInBounds k (.int .u32 (wn (v.getD k 0+h.getD k 0)))=Q4 (VS v h (k+1)):=by
 apply Array.ext
 ·simp[Q4,VS]
 ·intro i h1 h2;have h3:i<8:=by simpa[Q4,VS] using h2
  rw[Array.getElem_setIfInBounds (by simpa using h1)];by_cases e:k=i
  ·subst e;simp[Q4,VS,hk]
  ·rw[Qdf e];by_cases h4:i<k
   ·simp[Q4,VS,h4,show i<k+1 by omega]
   ·simp[Q4,VS,h4,show ¬i<k+1 by omega]
theorem Blk.second(w:World)(o:Obj)(t:TypeId)(cs:Array Value):Blk ((w.alloc o).alloc (.cells cs t)) (w.heap.size+1) t cs:=Blk.newAt (w.alloc o) t cs (by rw[Qdu])
theorem set8(a b c d e f i j a' b' c' d' e' f' i' j':Wd):((((((((Q4 [a,b,c,d,e,f,i,j]).setIfInBounds 0 (.int .u32 (wn a'))).setIfInBounds 1 (.int .u32 (wn b'))).setIfInBounds 2 (.int .u32 (wn c'))).setIfInBounds 3 (.int .u32 (wn d'))).setIfInBounds 4 (.int .u32 (wn e'))).setIfInBounds 5 (.int .u32 (wn f'))).setIfInBounds 6 (.int .u32 (wn i'))).setIfInBounds 7 (.int .u32 (wn j'))=Q4 [a',b',c',d',e',f',i',j']:=by
 simp[Q4]
theorem Vg{P:Program}{f:FuncId}{args:Array Value}{w:World}{a n:Nat}{v:Value}
  (uu:Calls P f args (w.drewN (a+n)) fun e w'=>e= .returned v∧w'=w.drewN (a+n)):
  Calls P f args (w.drewN (a+n)) fun e w''=>e= .returned v∧∃m,w''=w.drewN (a+m):=
 uu.mono fun _ _ ⟨he,hm⟩=>⟨he,n,hm⟩
theorem Blk.new2(w:World)(cs c ds:Array Value)(t u:TypeId):Blk (((w.alloc (.cells cs t)).setRow w.heap.size c).alloc (.cells ds u)) (w.heap.size+1) u ds:=
 Blk.newAt _ u ds (by simp[World.setRow])
theorem Pj(uu:List Wd)(hh:uu.length=8)(g off c:Nat)(b:List UInt8)(w:World)(hr:Rd w g off b)(hg:g<w.heap.size)(hl:b.length=64)(hL:Laid w):
  Calls prog 122 #[.agg (Q4 uu),.slice (some ⟨g,off,none⟩) 64 c] w fun e w'=>e= .returned (.agg (Q4 (blk uu b)))∧Below w.heap.size w w':=by
 have s2:(Q4 uu).size=8:=by rw[XI,hh]
 have i2:=is8 (Q4 uu) s2;have s0:(Yv 8 []).size=(Q4 uu).size:=by rw[s2];exact JF 8 [] (by simp)
 rw[Ht] at s0;have a2:=ZZ uu;obtain⟨ws,hws⟩:=nE (Wb b);have hwl:ws.length=64:=by rw[hws];exact J0 b 48
 have hres:blk uu b=List.zipWith (· +·) (Vc ws uu 64) uu:=by unfold blk;rw[Qdm hl,hws]
 have HL:=H7 hh hws hwl hres hr hl hL;clear hh hws hwl hres hr hl hL;go_enter func122,ntmps122;go_wp2_with fail;refine (Fk g off c b _ (fun i hi=>(World.cell?_alloc_lt _ _ _ (by simp;omega)).trans ((World.cell?_alloc_lt _ _ _ hg).trans (HL.out.2.2.2.2.1 i hi))) (by simp;omega) HL.out.2.2.2.2.2.1).mono ?_;rintro e w1 ⟨rfl,hb1⟩;rw[←HL.out.2.1];have A0:Blk w1 w.heap.size 203 (Q4 uu):=((Blk.newAt w _ (Q4 uu) rfl).alloc _).calls hb1;have A1:Blk w1 (w.heap.size+1) 203 (Yv 8 []):=by rw[Ht];exact (Blk.second w _ _ _).calls hb1
 have AB:Below w.heap.size w w1:=bt (ba (ba (Below.refl _ _) _) _) hb1;have z0:=A0.lt;have z1:=A1.lt;have i3:=is64 (Q4 ws) (by rw[XI,HL.out.2.2.1]);have s3:(Yv 64 []).size=(Q4 ws).size:=by rw[XI,HL.out.2.2.1];exact JF 64 [] (by simp)
 rw[Wa] at s3;have a3:=ZZ ws;have HA:=H3 A0 A1 AB;clear hb1 A0 A1 AB;go_wp2_with (first|with_reducible refine Ql (Blk.new w1 _ _) _ _ _ _ rfl rfl rfl rfl i3 s3 a3 ?_|with_reducible refine PY ((HA.out.1.alloc _).rowFar (by omega) _) _ _ rfl rfl rfl _ _ underlying203 i2 ?_|with_reducible refine Ql (Blk.new2 w1 _ _ _ _ _) _ _ _ _ rfl rfl rfl rfl i2 s0 a2 ?_);obtain⟨A0,A1,AB⟩:=HA.out;have B0:Blk ((((w1.alloc (.cells (Yv 64 []) 294)).setRow w1.heap.size (Q4 ws)).alloc (.cells (Yv 8 []) 203)).setRow (w1.heap.size+1) (Q4 uu)) w.heap.size 203 (Q4 uu):=(((A0.alloc _).rowFar (by omega) _).alloc _).rowFar (by omega) _;have B1:Blk ((((w1.alloc (.cells (Yv 64 []) 294)).setRow w1.heap.size (Q4 ws)).alloc (.cells (Yv 8 []) 203)).setRow (w1.heap.size+1) (Q4 uu)) (w.heap.size+1) 203 (Yv 8 []):=(((A1.alloc _).rowFar (by omega) _).alloc _).rowFar (by omega) _;have B5:Blk ((((w1.alloc (.cells (Yv 64 []) 294)).setRow w1.heap.size (Q4 ws)).alloc (.cells (Yv 8 []) 203)).setRow (w1.heap.size+1) (Q4 uu)) w1.heap.size 294 (Q4 ws):=(((Blk.new w1 294 (Yv 64 [])).row _).alloc _).rowFar (by omega) _;have B6:Blk ((((w1.alloc (.cells (Yv 64 []) 294)).setRow w1.heap.size (Q4 ws)).alloc (.cells (Yv 8 []) 203)).setRow (w1.heap.size+1) (Q4 uu)) (w1.heap.size+1) 203 (Q4 uu):=(Blk.new2 w1 _ _ _ _ _).row _;have BB:Below w.heap.size w ((((w1.alloc (.cells (Yv 64 []) 294)).setRow w1.heap.size (Q4 ws)).alloc (.cells (Yv 8 []) 203)).setRow (w1.heap.size+1) (Q4 uu)):=Qb (ba (Qb (ba AB _) (by omega) _) _) (by omega) _;have HB:=H5 B0 B1 B5 B6 BB;clear HA A0 A1 AB B0 B1 B5 B6 BB;rw[Wa,Ht] at HB;generalize World.setRow _ _ _=w2 at *;go_loopw [22] (fun i wr=>∃k:Nat,k≤64∧i= .int .i64 k∧Blk wr w.heap.size 203 (Q4 uu)∧Blk wr (w.heap.size+1) 203 (Yv 8 [])∧Blk wr w1.heap.size 294 (Q4 ws)∧Blk wr (w1.heap.size+1) 203 (Q4 (Vc ws uu k))∧Below w.heap.size w wr) (fun i _=>64-(intOf i).toNat)
 case atStart=>
  obtain⟨B0,B1,B5,B6,BB⟩:=HB.out;rw[←Ht] at B1;exact⟨0,by omega,rfl,B0,B1,B5,B6,BB⟩
 case round=>
  clear HB;obtain⟨k,hk,rfl,h0,h1,h5,h6,hb⟩:=hrel;by_cases hlt:k<64
  ·obtain⟨v,hv⟩:=nE (Vc ws uu k);have hvn:Vc ws uu (k+1)=rnd (KC.getD k 0) (ws.getD k 0) v:=by rw[Vc,←hv]
   obtain⟨a,b',c',d,e,f,i,j,hv8⟩:=Gs v (by rw[hv];exact J9 ws uu HL.out.1 k);rw[←hv,hv8] at h6;obtain⟨K,hK⟩:∃K,KC.getD k 0=K:=⟨_,rfl⟩;obtain⟨x,hx⟩:∃x,ws.getD k 0=x:=⟨_,rfl⟩;rw[hv8,hK,hx] at hvn;have c6:=cl8 h6;have f0:=h6.frozen 0;have f1:=h6.frozen 1;have f2:=h6.frozen 2;have f3:=h6.frozen 3;have f4:=h6.frozen 4;have f5:=h6.frozen 5;have f6:=h6.frozen 6;have f7:=h6.frozen 7;have cw:=Qz h5 k _ (We ws k (by rw[HL.out.2.2.1];exact hlt));rw[hx] at cw;have hLw:Laid wr:=HL.out.2.2.2.2.2.2.below hb (Qde _);obtain⟨S1,hS1⟩:=nE (rr e 6 ^^^ rr e 11 ^^^ rr e 25);obtain⟨S0,hS0⟩:=nE (rr a 2 ^^^ rr a 13 ^^^ rr a 22);obtain⟨CH,hCH⟩:=nE (e&&& f ^^^ ~~~e&&& i);obtain⟨MJ,hMJ⟩:=nE (a&&& b' ^^^ a&&& c' ^^^ b'&&& c');obtain⟨t1,ht1⟩:=nE (j+S1+CH+K+x);obtain⟨t2,ht2⟩:=nE (S0+MJ);have p1:=Zl (rr e 6) (rr e 11);have p2:=Zl (rr e 6 ^^^ rr e 11) (rr e 25);rw[←hS1] at p2;have p3:=Zl (rr a 2) (rr a 13);have p4:=Zl (rr a 2 ^^^ rr a 13) (rr a 22);rw[←hS0] at p4;have p5:=Gx e f;have p6:=Qbv e;have p7:=Gx (~~~e) i;have p8:=Zl (e&&& f) (~~~e&&& i);rw[←hCH] at p8;have p9:=Gx a b';have p10:=Gx a c';have p11:=Gx b' c';have p12:=Zl (a&&& b') (a&&& c');have p13:=Zl (a&&& b' ^^^ a&&& c') (b'&&& c');rw[←hMJ] at p13;have q1:=VQ j S1;have q2:=VQ (j+S1) CH;have q3:=VQ (j+S1+CH) K;have q4:=VQ (j+S1+CH+K) x;rw[←ht1] at q4;have q5:=VQ S0 MJ;rw[←ht2] at q5;have q6:=VQ t1 t2;have q7:=VQ d t1;have k64:(k:Int)<64:=by omega
   have H:=H10 h0 h1 h5 h6 hb hvn hLw hK ht1 ht2;have HS:=H4 hS1 hS0 hCH hMJ;clear h0 h1 h5 h6 hb hvn hLw hK hv hv8 hx hS1 hS0 hCH hMJ ht1 ht2;go_wp2;go_quiet ((first|(go_at_call 158;with_reducible exact Calls.quiet_of_same (YX e 6 (by decide) (by decide) _))|(go_at_call 158;with_reducible exact Calls.quiet_of_same (YX e 11 (by decide) (by decide) _))|(go_at_call 158;with_reducible exact Calls.quiet_of_same (YX e 25 (by decide) (by decide) _))));go_wp2;go_quiet ((go_at_call 159;with_reducible exact Vg (Rm k hlt K H.out.2.2.2.2.2.2.2.1 _ (H.out.2.2.2.2.2.2.1.drewN _))));go_wp2;go_quiet ((first|(go_at_call 158;with_reducible exact Vg (YX a 2 (by decide) (by decide) _))|(go_at_call 158;with_reducible exact Vg (YX a 13 (by decide) (by decide) _))|(go_at_call 158;with_reducible exact Vg (YX a 22 (by decide) (by decide) _))));go_wp2;obtain⟨h0,h1,h5,h6,hb,hvn,hLw,hK,ht1,ht2⟩:=H.out;obtain⟨hS1,hS0,hCH,hMJ⟩:=HS.out;go_roundw
   case rel=>
    refine⟨k+1,by omega,by go_num,?_,?_,?_,?_,?_⟩
    ·exact ((((((((h0.drewN _).far (by omega) _).far (by omega) _).far (by omega) _).far (by omega) _).far (by omega) _).far (by omega) _).far (by omega) _).far (by omega) _
    ·exact ((((((((h1.drewN _).far (by omega) _).far (by omega) _).far (by omega) _).far (by omega) _).far (by omega) _).far (by omega) _).far (by omega) _).far (by omega) _
    ·exact ((((((((h5.drewN _).far (by omega) _).far (by omega) _).far (by omega) _).far (by omega) _).far (by omega) _).far (by omega) _).far (by omega) _).far (by omega) _
    ·rw[hvn];have e8:rnd K x [a,b',c',d,e,f,i,j]=[t1+t2,a,b',c',d+t1,e,f,i]:=by
      rw[ht1,ht2,hS1,hS0,hCH,hMJ];rfl
     rw[e8,←set8 a b' c' d e f i j];exact ((((((((h6.drewN _).set_ 0 _).set_ 1 _).set_ 2 _).set_ 3 _).set_ 4 _).set_ 5 _).set_ 6 _).set_ 7 _
    ·exact ((((((((bdN hb _).setCell (by simp;omega) _).setCell (by simp;omega) _).setCell (by simp;omega) _).setCell (by simp;omega) _).setCell (by simp;omega) _).setCell (by simp;omega) _).setCell (by simp;omega) _).setCell (by simp;omega) _
   case measure=>simp[intOf];omega
  ·obtain rfl:k=64:=by omega
   obtain⟨v,hv⟩:=nE (Vc ws uu 64);have hvl:v.length=8:=by rw[hv];exact J9 ws uu HL.out.1 64
   rw[←hv] at h6;have hres:=HL.out.2.2.2.1;rw[←hv,←Lu v uu hvl HL.out.1] at hres;have HR:=H3 hres hv hvl;rw[←Lt v uu hvl] at h6;have HB:=H4 h0 h1 h6 hb;clear h0 h1 h5 h6 hb hres hv hvl hlt;rw[show ((64:Nat):Int)=64 from rfl];go_wp2;go_loopw [113] (fun i wr=>∃k:Nat,k≤8∧i= .int .i64 k∧Blk wr w.heap.size 203 (Q4 uu)∧Blk wr (w.heap.size+1) 203 (Yv 8 [])∧Blk wr (w1.heap.size+1) 203 (Q4 (VS v uu k))∧Below w.heap.size w wr) (fun i _=>8-(intOf i).toNat)
   case atStart=>
    obtain⟨h0,h1,h6,hb⟩:=HB.out;exact⟨0,by omega,rfl,h0,h1,h6,hb⟩
   case round=>
    clear HB;obtain⟨k,hk,rfl,h0,h1,h6,hb⟩:=hrel;by_cases hlt:k<8
    ·obtain⟨x,hx⟩:=nE (v.getD k 0);obtain⟨y,hy⟩:=nE (uu.getD k 0);have cx:=Qz h6 k _ (We _ k (by rw[ZG];exact hlt));rw[Qb4 v uu k hlt,←hx] at cx;have cy:=Qz h0 k _ (We uu k (by rw[HL.out.1];exact hlt));rw[←hy] at cy;have fx:=h6.frozen k;have k8:(k:Int)<8:=by omega
     have q1:=VQ x y;have H:=H6 h0 h1 h6 hb hx hy;clear h0 h1 h6 hb hx hy;go_wp2;go_region;go_wp2;obtain⟨h0,h1,h6,hb,hx,hy⟩:=H.out;go_roundw
     case rel=>
      refine⟨k+1,by omega,by go_num,(h0.far (by omega) _).drew,(h1.far (by omega) _).drew,?_,(hb.setCell (by simp;omega) _).drew⟩;rw[←OJ v uu k hlt,←hx,←hy]
      try rw[Qb6]
      exact (h6.set_ k _).drew
     case measure=>simp[intOf];omega
    ·obtain rfl:k=8:=by omega
     have hl8:=ZG v uu 8;have hres:=HR.out.1;obtain⟨r,hr⟩:=nE (VS v uu 8);rw[←hr] at h6 hl8 hres;have HR2:=H2 hres hr;clear hres hr;have sr:(Q4 r).size=8:=by rw[XI,hl8]
     have ir:=is8 (Q4 r) sr;have s1:(Yv 8 []).size=(Q4 r).size:=by rw[sr];exact JF 8 [] (by simp)
     have ar:=ZZ r;have H:=H3 h1 h6 hb;clear h0 h1 h6 hb hl8 sr;go_wp2_with (first|with_reducible refine PY H.out.2.1 _ _ rfl rfl rfl _ _ underlying203 ir ?_|with_reducible refine Ql H.out.1 _ _ _ _ rfl rfl rfl rfl ir s1 ar ?_);obtain⟨h1,h6,hb⟩:=H.out;refine Qdg (v:=.agg (Q4 r)) ?_ rfl ⟨by rw[HR2.out.1],Qb hb (by omega) _⟩;exact VC rfl _ _ _ _ _ rfl (h1.row _) underlying203 ir
theorem V7{P:Program}{w:World}{g:Nat}{t:TypeId}{cs:Array Value}{ops:Array Oper}{rest:List Oper}{o:Oper}{a:Act}{Q:Exit→Act→World→Prop}(h:Blk w g t cs)(ty:TypeId)(x:Operand)(hgd:o.guard=none)(ho:o.op= .load ty x)
  (hx:a.eval x= .pointer (some ⟨g,0,none⟩)) (fs:Array Field) (hu:P.underlying ty=some (.struct fs)) (hi:(P.info? ty).map (·.size)=some cs.size)
  (k:wpList P ops Q rest (a.put o.dst (.agg cs)) w):wpList P ops Q (o::rest) a w:=
 wpList_load_row hgd ty x ho g hx t cs (0,0) _ h hu rfl hi k
def stC(H:List Wd)(v:Value)(n:Nat):Array Value:=(H.map (fun x=>Value.int .u32 (wn x))++[v,.int .u64 n]).toArray
theorem YS(a b c d e f g h:Wd)(v:Value)(n:Nat):stC [a,b,c,d,e,f,g,h] v n=#[.int .u32 (wn a),.int .u32 (wn b),.int .u32 (wn c),.int .u32 (wn d),.int .u32 (wn e),.int .u32 (wn f),.int .u32 (wn g),.int .u32 (wn h),v,.int .u64 n]:=rfl
theorem XT(H:List Wd)(v:Value)(n:Nat)(h:H.length=8):(stC H v n).size=10:=by simp[stC,h]
theorem ZQ(H:List Wd)(a:Option Addr)(len c n:Nat):(stC H (.slice a len c) n).all (·.oneCell')=true:=by simp[stC,Value.oneCell']
theorem Rz(H:List Wd)(v:Value)(n i:Nat)(h:H.length=8)(hi:i<8):(stC H v n)[i]? =some (.int .u32 (wn (H.getD i 0))):=by
 have h1:i<H.length:=by omega
 unfold stC;rw[Qdp,Qd3 (by simpa using h1)];simp[h1]
theorem V8(H:List Wd)(v:Value)(n:Nat)(h:H.length=8):(stC H v n)[8]? =some v:=by simp[stC,h]
theorem QaA(H:List Wd)(v:Value)(n:Nat)(h:H.length=8):(stC H v n)[9]? =some (.int .u64 n):=by simp[stC,h]
theorem G9(H:List Wd)(hH:H.length=8)(a:Option Addr)(len c n:Nat)(hn:n<W64)(hlen:len≤9223372036854775807)(b:Bool)(hb:decide (len=n%64)=b)(w:World):
  Calls prog 120 #[.agg (stC H (.slice a len c) n)] w fun e w'=>e= .returned (.bool b)∧Below w.heap.size w w':=by
 obtain⟨x0,x1,x2,x3,x4,x5,x6,x7,rfl⟩:=Gs H hH;rw[YS];have hn':n<18446744073709551616:=hn;have hb':((len:Int)==((n:Int)%64))=b:=by
  rw[←hb,QeE];simp;omega
 have HB:=H2 hb hn;clear hb hn hH;go_enter func120,ntmps120;go_wp2;go_ret;exact⟨rfl,(Below.refl _ _).alloc (Qde _) _⟩
theorem JV:HI.length=8:=rfl
def XY(k:Nat):Array Value:=((List.range 8).map (fun i=>Value.int .u32 (if i<k then (wn (HI.getD i 0):Int) else 0))++[Value.slice none 0 0,Value.int .u64 0]).toArray
theorem Fv(k i:Nat)(hi:i<8):∃v,(XY k)[i]? =some v:=by
 unfold XY;rw[Qdp,Qd3 (by simpa using hi)];simp[hi]
theorem Cp(k:Nat)(h:k<8):(XY k).setIfInBounds k (.int .u32 (wn (HI.getD k 0)))=XY (k+1):=by
 rcases (show k=0∨k=1∨k=2∨k=3∨k=4∨k=5∨k=6∨k=7 from by omega) with rfl|rfl|rfl|rfl|rfl|rfl|rfl|rfl <;> rfl
theorem ZA:XY 0=#[.int .u32 0,.int .u32 0,.int .u32 0,.int .u32 0,.int .u32 0,.int .u32 0,.int .u32 0,.int .u32 0,.slice none 0 0,.int .u64 0]:=rfl
theorem Ry:XY 8=stC HI (.slice none 0 0) 0:=rfl
theorem Z4(c:Array Value)(h:c.size=10):(prog.info? 205).map (·.size)=some c.size:=by rw[h];kernel_rfl
theorem Ph(w:World)(hL:Laid w):
  Calls prog 80 #[] w fun e w'=>e= .returned (.agg (stC HI (.slice none 0 0) 0))∧Below w.heap.size w w':=by
 have HL:=Lib.hid hL;clear hL;go_enter func80,ntmps80;go_wp2;go_loopw [3] (fun i wr=>∃k:Nat,k≤8∧i= .int .i64 k∧Blk wr w.heap.size 205 (XY 0)∧Blk wr (w.heap.size+1) 205 (XY k)∧Below w.heap.size w wr) (fun i _=>8-(intOf i).toNat)
 case atStart=>
  refine⟨0,by omega,rfl,?_,?_,?_⟩
  ·rw[ZA];exact (Blk.newAt _ _ _ rfl).alloc _
  ·rw[ZA];exact Blk.second w _ _ _
  ·exact ba (ba (Below.refl _ _) _) _
 case round=>
  obtain⟨k,hk,rfl,h0,h1,hb⟩:=hrel;by_cases hlt:k<8
  ·obtain⟨x,hx⟩:∃x,HI.getD k 0=x:=⟨_,rfl⟩;have hLw:Laid wr:=HL.out.below hb (Qde _);obtain⟨v,hv⟩:=Fv k k hlt;have c1:=Qz h1 k _ hv;have f1:=h1.frozen k;have k8:(k:Int)<8:=by omega
   have H:=H5 h0 h1 hb hx hLw;clear h0 h1 hb hx hLw hv;go_wp2_with (go_at_call 123;refine (BY k hlt x H.out.2.2.2.1 _ H.out.2.2.2.2).mono ?_;rintro e w' ⟨rfl,rfl⟩);obtain⟨h0,h1,hb,hx,hLw⟩:=H.out;go_roundw
   case rel=>
    exact⟨k+1,by omega,by go_num,h0.far (by omega) _,(h1.set_ k _).to (by rw[←hx];exact Cp k hlt),hb.setCell (by simp) _⟩
   case measure=>simp[intOf];omega
  ·obtain rfl:k=8:=by omega
   rw[Ry] at h1;obtain⟨C,hC⟩:=nE (stC HI (.slice none 0 0) 0);rw[←hC] at h1;have sC:C.size=10:=by rw[hC];rfl
   have iC:=Z4 C sC;have s1:(XY 0).size=C.size:=by rw[sC];rfl
   have aC:C.all (·.oneCell')=true:=by rw[hC];exact ZQ _ _ _ _ _
   have H:=H4 h0 h1 hb hC;clear h0 h1 hb hC sC;go_wp2_with (first|with_reducible refine V7 H.out.2.1 _ _ rfl rfl rfl _ underlying205 iC ?_|with_reducible refine Ql H.out.1 _ _ _ _ rfl rfl rfl rfl iC s1 aC ?_);obtain⟨h0,h1,hb,hC⟩:=H.out;refine Qdg (v:=.agg C) ?_ rfl ⟨by rw[hC],Qb hb (by omega) _⟩;exact results_cell_row rfl _ _ _ _ _ (0,0) _ rfl (h0.row _) underlying205 rfl iC
def Ze(n:Nat):Nat:=if n%64≤55 then 55-n%64 else 119-n%64
def YB(n:Nat):List UInt8:=128::(List.replicate (Ze n) 0++byB (n*8%W64) 8)
theorem HV(n:Nat):(YB n).length=Ze n+9:=by simp[YB,Jr]
theorem F9(n i:Nat)(h1:0<i)(h2:i≤Ze n):(YB n).getD i 0=0:=by
 obtain⟨j,rfl⟩:∃j,i=j+1:=⟨i-1,by omega⟩;have h3:j<Ze n:=by omega
 simp[YB,List.getD,Qd3,h3]
theorem FA(n k:Nat)(h:k<8):(YB n).getD (1+Ze n+k) 0=UInt8.ofNat (n*8%W64/256^(7-k)%256):=by
 have e:1+Ze n+k=(Ze n+k)+1:=by omega
 have hb:=Oz (n*8%W64) 8 k h;rw[show 8-1-k=7-k by omega] at hb;rw[←hb,e];unfold YB;rw[Qed];simp[List.getD,QdB]
theorem CF(l:List UInt8)(a b:Nat)(h:a≤b)(hz:∀i,a≤i→i<b→l.getD i 0=0):Zs l a=Zs l b:=by
 unfold Zs;congr 1;apply List.map_congr_left;intro j hj;by_cases h1:j<a
 ·rw[Qdm h1,Qdm (by omega)]
 ·rw[Qdf h1];by_cases h2:j<b
  ·rw[Qdm h2,hz j (by omega) h2];rfl
  ·rw[Qdf h2]
theorem QbC(n:Nat)(hn:n<W64)(L:Nat)(hL:(YB n).length=L)(w:World):
  Calls prog 121 #[.int .u64 n] w fun e w'=>e= .returned (.slice (some ⟨w.heap.size,0,none⟩) L L)∧Below w.heap.size w w'∧Blk w' w.heap.size 5 (Qp (YB n)):=by
 have hn':n<18446744073709551616:=hn;obtain⟨z,hz⟩:=nE (Ze n);have hLz:L=z+9:=by rw[←hL,HV,hz]
 have hz64:z<64:=by rw[hz];unfold Ze;split <;> omega
 obtain⟨r,hr⟩:=nE (n%64);have hri:(n:Int)%64=(r:Int):=by omega
 have hr64:r<64:=by omega
 obtain⟨l,hl⟩:=nE (YB n);rw[←hl] at hL ⊢;have hmk:∀w:World,(Instr.makeSlice 31 (.int .i64 L) (.int .i64 L)).run prog w= .ok (.slice (some ⟨w.heap.size,0,none⟩) L L) (w.alloc (.cells (Zs l 0) 5)):=by
  intro w;rw[Ks,hL];exact Da L _ rfl (by omega) w
 have hLi:(1:Int)+(z:Int)+8=(L:Int):=by omega
 have h9:9≤L:=by omega
 have h72:L≤72:=by omega
 have l0:l.getD 0 0=128:=by rw[hl];rfl
 have hmid:Zs l 1=Zs l (1+z):=CF l 1 (1+z) (by omega) fun i h1 h2=>by rw[hl];exact F9 n i (by omega) (by omega)
 have hend:∀k,k<8→(l.getD (1+z+k) 0).toNat=n*8%W64/256^(7-k)%256:=fun k hk=>by
  rw[hl,hz,FA n k hk];simp
 obtain⟨m,hm⟩:=nE (n*8%W64);have hmW:m<18446744073709551616:=by rw[hm];exact Qen _ Vs
 have hmi:IntKind.u64.wrap ((n:Int)*8)=(m:Int):=by
  rw[hm,IntKind.wrap_u64];unfold W64;omega
 have hmi':((n:Int)*8)%18446744073709551616=(m:Int):=by
  rw[hm];unfold W64;omega
 rw[←hm] at hend;have HF:=H9 hz hr hl hm l0 hmid hend hL hn;have hzr:(r≤55∧z=55-r)∨(55<r∧z=119-r):=by
  rw[hz,hr];unfold Ze;split <;> omega
 clear hz hr hl hm l0 hmid hend hL hn hLz;obtain⟨v0,hv0⟩:=Jf l 0 0 (by have:=HF.out.2.2.2.2.2.2.2.1;omega);have hnz:¬((z:Int)<0):=by omega
 rcases hzr with ⟨g1,g2⟩|⟨g1,g2⟩
 ·have e1:(55:Int)-(r:Int)=(z:Int):=by omega
  have G:=Lib.hid g2;clear g2;go_enter func121,ntmps121;go_wp2;go_loopw [22] (fun i wr=>∃k:Nat,k≤8∧i= .int .i64 k∧Blk wr w.heap.size 5 (Zs l (1+z+k))∧Below w.heap.size w wr) (fun i _=>8-(intOf i).toNat)
  case atStart=>
   refine⟨0,by omega,rfl,?_,ba (Below.refl _ _) _⟩;have hs:=Za l 0 (by have:=HF.out.2.2.2.2.2.2.2.1;omega);rw[HF.out.2.2.2.2.1] at hs;rw[Qea,←HF.out.2.2.2.2.2.1,←hs];exact Blk.new w _ _
  case round=>
   obtain⟨k,hk,rfl,h1,hb⟩:=hrel;by_cases hlt:k<8
   ·obtain⟨p,hp⟩:=nE (1+z+k);obtain⟨q,hq⟩:=nE (8*k);obtain⟨s,hs⟩:=nE (56-q);obtain⟨x,hx⟩:=nE ((l.getD p 0).toNat);have hv:((m:Nat):Int)/(2:Int)^s%(256:Int)=(x:Int):=by
     have h8:=HF.out.2.2.2.2.2.2.1 k hlt;rw[←hp,←hx] at h8;rw[h8,show (256:Nat)=2^8 from rfl,←Qe3,show 8*(7-k)=s by omega];generalize hy:m/2^s=y;have e:((m:Nat):Int)/(2:Int)^s=(y:Int):=by rw[←hy];push_cast;rfl
     rw[e]
     push_cast
     rfl
    have ip:(1:Int)+(z:Int)+(k:Int)=(p:Int):=by omega
    have iq:(8:Int)*(k:Int)=(q:Int):=by omega
    have is:(56:Int)-(q:Int)=(s:Int):=by omega
    have s64:s<64:=by omega
    have q64:q≤56:=by omega
    have pL:p<L:=by omega
    have pLi:(p:Int)<(L:Int):=by omega
    obtain⟨v1,hv1⟩:=Jf l p p (by have:=HF.out.2.2.2.2.2.2.2.1;omega);rw[←hp] at h1;have c1:=Qz h1 p _ hv1;have f1:=h1.frozen p;have H:=H6 h1 hb hp hq hs hx;clear h1 hb hp hq hs hx hv1;go_wp2;obtain⟨h1,hb,hp,hq,hs,hx⟩:=H.out;go_roundw
    case rel=>
     refine⟨k+1,by omega,by go_num,?_,hb.setCell (by simp) _⟩;have hset:=Za l p (by have:=HF.out.2.2.2.2.2.2.2.1;omega);rw[←hx] at hset;rw[show 1+z+(k+1)=p+1 by omega,←hset];exact h1.set_ p _
    case measure=>simp[intOf];omega
   ·obtain rfl:k=8:=by omega
    rw[Ha l (1+z+8) (by have:=HF.out.2.2.2.2.2.2.2.1;omega)] at h1;have H:=H2 h1 hb;clear h1 hb;go_wp2;go_ret;exact⟨rfl,H.out.2,H.out.1⟩
 ·obtain⟨y,hy⟩:∃y:Int,y=55-(r:Int):=⟨_,rfl⟩;have e1:(55:Int)-(r:Int)=y:=by omega
  have e2:y+64=(z:Int):=by omega
  have hy0:y<0:=by omega
  have hy1: -64<y:=by omega
  have G:=H2 g2 hy;clear g2 hy;go_enter func121,ntmps121;go_wp2;go_loopw [22] (fun i wr=>∃k:Nat,k≤8∧i= .int .i64 k∧Blk wr w.heap.size 5 (Zs l (1+z+k))∧Below w.heap.size w wr) (fun i _=>8-(intOf i).toNat)
  case atStart=>
   refine⟨0,by omega,rfl,?_,ba (Below.refl _ _) _⟩;have hs:=Za l 0 (by have:=HF.out.2.2.2.2.2.2.2.1;omega);rw[HF.out.2.2.2.2.1] at hs;rw[Qea,←HF.out.2.2.2.2.2.1,←hs];exact Blk.new w _ _
  case round=>
   obtain⟨k,hk,rfl,h1,hb⟩:=hrel;by_cases hlt:k<8
   ·obtain⟨p,hp⟩:=nE (1+z+k);obtain⟨q,hq⟩:=nE (8*k);obtain⟨s,hs⟩:=nE (56-q);obtain⟨x,hx⟩:=nE ((l.getD p 0).toNat);have hv:((m:Nat):Int)/(2:Int)^s%(256:Int)=(x:Int):=by
     have h8:=HF.out.2.2.2.2.2.2.1 k hlt;rw[←hp,←hx] at h8;rw[h8,show (256:Nat)=2^8 from rfl,←Qe3,show 8*(7-k)=s by omega];generalize hy:m/2^s=y;have e:((m:Nat):Int)/(2:Int)^s=(y:Int):=by rw[←hy];push_cast;rfl
     rw[e]
     push_cast
     rfl
    have ip:(1:Int)+(z:Int)+(k:Int)=(p:Int):=by omega
    have iq:(8:Int)*(k:Int)=(q:Int):=by omega
    have is:(56:Int)-(q:Int)=(s:Int):=by omega
    have s64:s<64:=by omega
    have q64:q≤56:=by omega
    have pL:p<L:=by omega
    have pLi:(p:Int)<(L:Int):=by omega
    obtain⟨v1,hv1⟩:=Jf l p p (by have:=HF.out.2.2.2.2.2.2.2.1;omega);rw[←hp] at h1;have c1:=Qz h1 p _ hv1;have f1:=h1.frozen p;have H:=H6 h1 hb hp hq hs hx;clear h1 hb hp hq hs hx hv1;go_wp2;obtain⟨h1,hb,hp,hq,hs,hx⟩:=H.out;go_roundw
    case rel=>
     refine⟨k+1,by omega,by go_num,?_,hb.setCell (by simp) _⟩;have hset:=Za l p (by have:=HF.out.2.2.2.2.2.2.2.1;omega);rw[←hx] at hset;rw[show 1+z+(k+1)=p+1 by omega,←hset];exact h1.set_ p _
    case measure=>simp[intOf];omega
   ·obtain rfl:k=8:=by omega
    rw[Ha l (1+z+8) (by have:=HF.out.2.2.2.2.2.2.2.1;omega)] at h1;have H:=H2 h1 hb;clear h1 hb;go_wp2;go_ret;exact⟨rfl,H.out.2,H.out.1⟩
end Go.Proofs.YthdaabapiicnhaaGreatDoor
