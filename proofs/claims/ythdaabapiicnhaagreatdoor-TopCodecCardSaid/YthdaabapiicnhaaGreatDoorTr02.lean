/- Steps of the proof. -/
import Derived.Lib.Strings
import Derived.Lib.Slices
import Derived.Lib.Small
import Derived.Lib.Walk
import Derived.Lib.BitFns
import Derived.Lib.Mul64
import Derived.Laws.Bits64b
import Derived.Laws.DeepNot64
import Derived.Laws.BytesArg
import Derived.Test.YthdaabapiicnhaaGreatDoorTr01
set_option linter.all false
set_option maxRecDepth 100000
set_option maxHeartbeats 4000000
open Go.Proofs.Tryz
namespace Go.Proofs.YthdaabapiicnhaaGreatDoor
open Go.RowKit
theorem Lv(x y c s d:Nat)(hc:c≤1)(hs:s<W64)(h:x+y+c=s+W64*d)(w:World):
  (callFunc 132 #[.int .u64 x,.int .u64 y,.int .u64 c]).run prog w= .ok (.value (.tuple #[.int .u64 s,.int .u64 d])) w:=by
 rw[run_callFunc_extern func132 (by kernel_rfl) (by kernel_rfl) (by kernel_rfl) (e:=add64Entry) (by kernel_rfl),run_add64 x y c (by omega) (by omega) (by omega) (by omega)];unfold W64 at *;have e1:((x:Int)+y+c)%18446744073709551616=s:=by omega
 have e2:((x:Int)+y+c)/18446744073709551616=d:=by omega
 rw[e1,e2];rfl
theorem eqU(m n:Nat)(b:Bool)(hm:m<T)(hn:n<T)(h:decide (m=n)=b)(w:World):
  (Op.equalIn 10000 80 (.agg #[.int .u64 (lim m 0),.int .u64 (lim m 1),.int .u64 (lim m 2),.int .u64 (lim m 3)]) (.agg #[.int .u64 (lim n 0),.int .u64 (lim n 1),.int .u64 (lim n 2),.int .u64 (lim n 3)])).run prog w= .ok b w:=by
 obtain⟨i,hi⟩:=Qem.1 (show (prog.info? 23).isSome=true by kernel_rfl);exact Km w .u64 .u64 (by kernel_rfl) underlying23 underlying80 hi (by kernel_rfl) (fun i=>lim m i) (fun i=>lim n i) (QX m) (QX n)
  (fun i hi=>⟨XR m i hi,XR n i hi⟩) b (MA m n hm hn b h)
theorem eqU0(m:Nat)(b:Bool)(hm:m<T)(h:decide (m=0)=b)(w:World):
  (Op.equalIn 10000 80 (.agg #[.int .u64 (lim m 0),.int .u64 (lim m 1),.int .u64 (lim m 2),.int .u64 (lim m 3)]) (.agg #[.int .u64 0,.int .u64 0,.int .u64 0,.int .u64 0])).run prog w= .ok b w:=by
 have q:=eqU m 0 b hm (by decide) h w;rw[show lim 0 0=0 by rfl,show lim 0 1=0 by rfl,show lim 0 2=0 by rfl,show lim 0 3=0 by rfl] at q;exact q
def Kf:Array Value→Sem Value:=fun args=>do
 let (x, y, b) ← Extern.MathBitsCarry.three "Sub64" args
 pure (Extern.MathBitsCarry.pair ((x+Extern.MathBitsCarry.m64-y-b)%Extern.MathBitsCarry.m64) (if x<y+b then 1 else 0))
theorem F0{P:Program}(x y b:Nat)(hb:b≤1)(w:World):
  (Kf #[.int .u64 x,.int .u64 y,.int .u64 b]).run P w=
   .ok (.tuple #[.int .u64 (((x+18446744073709551616-y-b)%18446744073709551616:Nat):Int),.int .u64 ((if x<y+b then 1 else 0:Nat):Int)]) w:=by
 have:b=0∨b=1:=by omega
 rcases this with rfl|rfl <;> rfl
theorem Fu(x y b s d:Nat)(hb:b≤1)(hs:s<W64)(hx:x<W64)(hy:y<W64)(hd:d≤1)(h:x+W64*d=s+y+b)(w:World):
  (callFunc 193 #[.int .u64 x,.int .u64 y,.int .u64 b]).run prog w= .ok (.value (.tuple #[.int .u64 s,.int .u64 d])) w:=by
 rw[run_callFunc_extern func193 (by kernel_rfl) (by kernel_rfl) (by kernel_rfl) (e:=Kf) (by kernel_rfl),F0 x y b hb];unfold W64 at *;have e1:(x+18446744073709551616-y-b)%18446744073709551616=s:=by omega
 have e2:(if x<y+b then 1 else 0:Nat)=d:=by split <;> omega
 rw[e1,e2];rfl
abbrev QbU(m n r:Nat)(b:Bool):Prop:=m<T∧n<T∧r<T∧m+n=r+T*b.toNat
theorem Qcm(m n:Nat)(hm:m<T)(hn:n<T):∃s b,QbU m n s b:=by
 by_cases h:T≤m+n
 ·exact⟨m+n-T,true,hm,hn,by omega,by simp;omega⟩
 ·exact⟨m+n,false,hm,hn,by omega,by simp⟩
theorem Qz{w:World}{g:Nat}{t:TypeId}{cs:Array Value}(h:Blk w g t cs)(i:Nat)(v:Value)(hv:cs[i]? =some v):w.cell? ⟨g,i,none⟩=some v:=(h.cell i).trans hv
theorem Fi(m n r:Nat)(b:Bool)(w:World)(h:QbU m n r b):
  Calls prog 100 #[Yt m,Yt n] w fun e w'=>e= .returned (.tuple #[Yt r,.bool b])∧Below w.heap.size w w':=by
 obtain⟨hm,hn,hr,hsum⟩:=h;have hadd:∀k,k<4→∀w,(callFunc 132 #[.int .u64 (lim m k),.int .u64 (lim n k),.int .u64 (cry m n k)]).run prog w= .ok (.value (.tuple #[.int .u64 (lim r k),.int .u64 (cry m n (k+1))])) w:=by
  intro k hk w;have e:lim r k=lim (m+n) k:=by rw[←Et (m+n) k hk,hsum,Qfn,Qez hr]
  exact Lv _ _ _ _ _ (Dk m n k) (XH r k) (by rw[e];exact Bp m n k) w
 have hc4:cry m n 4=b.toNat:=by
  have hT:0<T:=by decide
  rw[Bq m n hm hn,hsum,Qfm _ _ hT,QeF hr];omega
 have HS:=Lib.hid hsum;clear hsum hm hn hr;have HC:=Lib.hid hc4;clear hc4;have HA:=Lib.hid hadd;clear hadd;unfold Yt;go_enter func100,ntmps100;go_wp2;go_loopw [7,9] (fun c i wr=>∃k:Nat,k≤4∧i= .int .i64 k∧c= .int .u64 (cry m n k)∧Blk wr (w.heap.size) 80 (QX m)∧Blk wr (w.heap.size+1) 80 (QX n)∧Blk wr (w.heap.size+1+1) 80 (outs 0 0)∧Blk wr (w.heap.size+1+1+1) 80 (outs r k)∧Below w.heap.size w wr) (fun _ i _=>4-(intOf i).toNat)
 case atStart=>
  refine⟨0,by omega,rfl,by rw[Bo];rfl,?_,?_,?_,?_,?_⟩
  ·exact (((Blk.newAt _ _ _ (by simp)).alloc _).alloc _).alloc _
  ·exact ((Blk.newAt _ _ _ (by simp)).alloc _).alloc _
  ·exact (Blk.newAt _ _ _ (by simp)).alloc _
  ·exact Blk.newAt _ _ _ (by simp)
  ·exact ((((Below.refl _ _).alloc (Qde _) _).alloc (by simp) _).alloc (by simp;omega) _).alloc (by simp;omega) _
 case round=>
  obtain⟨k,hk,rfl,rfl,h1,h2,h3,h4,hb⟩:=hrel;by_cases hlt:k<4
  ·have hs:=HA.out k hlt;have c1:=Qz h1 k _ (XR m k hlt);have c2:=Qz h2 k _ (XR n k hlt);obtain⟨v4,hv4⟩:=Eo r k k hlt;have c4:=Qz h4 k _ hv4;have f4:=h4.frozen k;have H:=H5 h1 h2 h3 h4 hb;clear h1 h2 h3 h4 hb hv4;go_wp2
   go_region_held3 (fun w'=>w'.cell? ⟨w.heap.size,k,none⟩=some (.int .u64 (lim m k))∧w'.cell? ⟨w.heap.size+1,k,none⟩=some (.int .u64 (lim n k))) (first|exact⟨c1,c2⟩|exact⟨Wg c1 (by omega),Wg c2 (by omega)⟩) ((fail))
   go_wp2;obtain⟨h1,h2,h3,h4,hb⟩:=H.out;go_roundw
   case rel=>
    exact⟨k+1,by omega,by go_num,rfl,(h1.far (by omega) _).drew,(h2.far (by omega) _).drew,(h3.far (by omega) _).drew,((h4.set_ k _).to (RW r k hlt)).drew,(hb.setCell (by simp;omega) _).drew⟩
   case measure=>simp[intOf];omega
  ·obtain rfl:k=4:=by omega
   have e4:=HC.out;have hb4:((cry m n 4:Int) != 0)=b:=by rw[e4];cases b <;> rfl
   have HO:=Lib.hid hb;clear hb;have HK:=Lib.hid h3;have q3:=h3.cell;have f3:=h3.frozen;rw[Tm] at h4;have q4:=h4.cell;simp only[QX] at q4;simp only[outs] at q3;clear h1 h2 h3 h4 e4;go_wp2;have hW:=((((HK.out.set_ 0 (lv r 0)).set_ 1 (lv r 1)).set_ 2 (lv r 2)).set_ 3 (lv r 3));refine Qdg (v:=.tuple #[Yt r,.bool b]) ?_ rfl ⟨rfl,?_⟩
   ·simp[results,results100,go_sem,Yt,q3]
   ·exact (((HO.out.setCell (by simp;omega) _).setCell (by simp;omega) _).setCell (by simp;omega) _).setCell (by simp;omega) _
abbrev Qas(m n r:Nat)(b:Bool):Prop:=m<T∧n<T∧r<T∧m+T*b.toNat=r+n
theorem Ra(m n r:Nat)(b:Bool)(w:World)(h:Qas m n r b):
  Calls prog 162 #[Yt m,Yt n] w fun e w'=>e= .returned (.tuple #[Yt r,.bool b])∧Below w.heap.size w w':=by
 obtain⟨hm,hn,hr,hsum⟩:=h;have hadd:∀k,k<4→∀w,(callFunc 193 #[.int .u64 (lim m k),.int .u64 (lim n k),.int .u64 (cry r n k)]).run prog w= .ok (.value (.tuple #[.int .u64 (lim r k),.int .u64 (cry r n (k+1))])) w:=by
  intro k hk w;have e:lim m k=lim (r+n) k:=by rw[←Et (r+n) k hk,←hsum,Qfn,Qez hm]
  have e2:=Bp r n k;exact Fu _ _ _ _ _ (Dk r n k) (XH r k) (XH m k) (XH n k) (Dk r n (k+1)) (by rw[e];omega) w
 have hc4:cry r n 4=b.toNat:=by
  have hT:0<T:=by decide
  rw[Bq r n hr hn,←hsum,Qfm _ _ hT,QeF hm];omega
 have HS:=Lib.hid hsum;clear hsum hm hn hr;have HC:=Lib.hid hc4;clear hc4;have HA:=Lib.hid hadd;clear hadd;unfold Yt;go_enter func162,ntmps162;go_wp2;go_loopw [7,9] (fun c i wr=>∃k:Nat,k≤4∧i= .int .i64 k∧c= .int .u64 (cry r n k)∧Blk wr (w.heap.size) 80 (QX m)∧Blk wr (w.heap.size+1) 80 (QX n)∧Blk wr (w.heap.size+1+1) 80 (outs 0 0)∧Blk wr (w.heap.size+1+1+1) 80 (outs r k)∧Below w.heap.size w wr) (fun _ i _=>4-(intOf i).toNat)
 case atStart=>
  refine⟨0,by omega,rfl,by rw[Bo];rfl,?_,?_,?_,?_,?_⟩
  ·exact (((Blk.newAt _ _ _ (by simp)).alloc _).alloc _).alloc _
  ·exact ((Blk.newAt _ _ _ (by simp)).alloc _).alloc _
  ·exact (Blk.newAt _ _ _ (by simp)).alloc _
  ·exact Blk.newAt _ _ _ (by simp)
  ·exact ((((Below.refl _ _).alloc (Qde _) _).alloc (by simp) _).alloc (by simp;omega) _).alloc (by simp;omega) _
 case round=>
  obtain⟨k,hk,rfl,rfl,h1,h2,h3,h4,hb⟩:=hrel;by_cases hlt:k<4
  ·have hs:=HA.out k hlt;have c1:=Qz h1 k _ (XR m k hlt);have c2:=Qz h2 k _ (XR n k hlt);obtain⟨v4,hv4⟩:=Eo r k k hlt;have c4:=Qz h4 k _ hv4;have f4:=h4.frozen k;have H:=H5 h1 h2 h3 h4 hb;clear h1 h2 h3 h4 hb hv4;go_wp2
   go_region_held3 (fun w'=>w'.cell? ⟨w.heap.size,k,none⟩=some (.int .u64 (lim m k))∧w'.cell? ⟨w.heap.size+1,k,none⟩=some (.int .u64 (lim n k))) (first|exact⟨c1,c2⟩|exact⟨Wg c1 (by omega),Wg c2 (by omega)⟩) ((fail))
   go_wp2;obtain⟨h1,h2,h3,h4,hb⟩:=H.out;go_roundw
   case rel=>
    exact⟨k+1,by omega,by go_num,rfl,(h1.far (by omega) _).drew,(h2.far (by omega) _).drew,(h3.far (by omega) _).drew,((h4.set_ k _).to (RW r k hlt)).drew,(hb.setCell (by simp;omega) _).drew⟩
   case measure=>simp[intOf];omega
  ·obtain rfl:k=4:=by omega
   have e4:=HC.out;have hb4:((cry r n 4:Int) != 0)=b:=by rw[e4];cases b <;> rfl
   have HO:=Lib.hid hb;clear hb;have HK:=Lib.hid h3;have q3:=h3.cell;have f3:=h3.frozen;rw[Tm] at h4;have q4:=h4.cell;simp only[QX] at q4;simp only[outs] at q3;clear h1 h2 h3 h4 e4;go_wp2;have hW:=((((HK.out.set_ 0 (lv r 0)).set_ 1 (lv r 1)).set_ 2 (lv r 2)).set_ 3 (lv r 3));refine Qdg (v:=.tuple #[Yt r,.bool b]) ?_ rfl ⟨rfl,?_⟩
   ·simp[results,results162,go_sem,Yt,q3]
   ·exact (((HO.out.setCell (by simp;omega) _).setCell (by simp;omega) _).setCell (by simp;omega) _).setCell (by simp;omega) _
end Go.Proofs.YthdaabapiicnhaaGreatDoor
namespace Go.Proofs.YthdaabapiicnhaaGreatDoor
open Go.RowKit
set_option linter.unusedVariables false
def bl(n:Nat):Nat:=if n=0 then 0 else n.log2+1
theorem bl_half(n:Nat)(h:n≠0):bl n=1+bl (n/2):=by
  unfold bl
  rw[Qdf h]
  by_cases h2:n/2=0
  · have:n=1:=by omega
    subst this
    rfl
  · rw[Qdf h2,Nat.log2_def,Qdm (by omega)]
    omega
theorem bl_lib(n:Nat):n<2^64→Lib.bitLen n=bl n:=by
  induction n using Nat.strongRecOn with
  | _ n ih=>
    intro h
    by_cases h0:n=0
    · subst h0;rfl
    · rw[Lib.bitLen_half n h0 h,bl_half n h0,ih (n/2) (by omega) (by omega)]
theorem bl_lt(n k:Nat):bl n≤k↔n<2^k:=by
  unfold bl
  split
  · rename_i h;subst h;simp[Nat.two_pow_pos]
  · rename_i h;rw[Nat.succ_le_iff,Nat.log2_lt h]
theorem len8tab_at':∀i:Fin 256,(Lib.len8tab[i.val]'(by rw[Lib.len8tab_size];exact i.isLt)).toNat=Lib.bitLen i.val:=by decide+kernel
theorem len8tab_at(i:Nat)(h:i<Lib.len8tab.size):(Lib.len8tab[i]'h).toNat=Lib.bitLen i:=len8tab_at' ⟨i,by rw[←Lib.len8tab_size];exact h⟩
theorem wl(c n:Nat)(h1:c≤56)(hn:n≤8):RowKit.wrap64 ((c:Int)+RowKit.wrap64 (n:Int))=((c+n:Nat):Int):=by
  unfold RowKit.wrap64
  omega
theorem wl0(n:Nat)(hn:n≤8):RowKit.wrap64 (RowKit.wrap64 (n:Int))=(n:Int):=by
  unfold RowKit.wrap64
  omega
theorem Len64_int(x:Int)(w:World)(h0:0≤x)(h1:x≤18446744073709551615):
    Calls prog 191 #[.int .u64 x] w fun e w'=>e= .returned (.int .i64 (Lib.bitLen x.toNat))∧w'=w:=by
  have hs:Lib.len8tab.size=256:=Lib.len8tab_size
  go_enter func191,ntmps191
  go_wp2
  all_goals (go_ret;refine⟨congrArg Ending.returned (congrArg (Value.int IntKind.i64) ?_),rfl⟩;rw[len8tab_at])
  all_goals first
    | (
       have e:(x/4294967296/65536/256).toNat=x.toNat/72057594037927936:=by omega
       rw[e]
       rw[Lib.bitLen_shift56 x.toNat (by omega) (by omega)]
       exact wl 56 _ (by decide) (Lib.bitLen_le8 ⟨x.toNat/72057594037927936,by omega⟩))
    | (
       have e:(x/4294967296/65536).toNat=x.toNat/281474976710656:=by omega
       rw[e]
       rw[Lib.bitLen_shift48 x.toNat (by omega) (by omega)]
       exact wl 48 _ (by decide) (Lib.bitLen_le8 ⟨x.toNat/281474976710656,by omega⟩))
    | (
       have e:(x/4294967296/256).toNat=x.toNat/1099511627776:=by omega
       rw[e]
       rw[Lib.bitLen_shift40 x.toNat (by omega) (by omega)]
       exact wl 40 _ (by decide) (Lib.bitLen_le8 ⟨x.toNat/1099511627776,by omega⟩))
    | (
       have e:(x/4294967296).toNat=x.toNat/4294967296:=by omega
       rw[e]
       rw[Lib.bitLen_shift32 x.toNat (by omega) (by omega)]
       exact wl 32 _ (by decide) (Lib.bitLen_le8 ⟨x.toNat/4294967296,by omega⟩))
    | (
       have e:(x/65536/256).toNat=x.toNat/16777216:=by omega
       rw[e]
       rw[Lib.bitLen_shift24 x.toNat (by omega) (by omega)]
       exact wl 24 _ (by decide) (Lib.bitLen_le8 ⟨x.toNat/16777216,by omega⟩))
    | (
       have e:(x/65536).toNat=x.toNat/65536:=by omega
       rw[e]
       rw[Lib.bitLen_shift16 x.toNat (by omega) (by omega)]
       exact wl 16 _ (by decide) (Lib.bitLen_le8 ⟨x.toNat/65536,by omega⟩))
    | (
       have e:(x/256).toNat=x.toNat/256:=by omega
       rw[e]
       rw[Lib.bitLen_shift8 x.toNat (by omega) (by omega)]
       exact wl 8 _ (by decide) (Lib.bitLen_le8 ⟨x.toNat/256,by omega⟩))
    | exact wl0 _ (Lib.bitLen_le8 ⟨x.toNat,by omega⟩)
theorem Len64_any(n:Nat)(w:World)(h:n<W64):
    Calls prog 191 #[.int .u64 n] w fun e w'=>e= .returned (.int .i64 (bl n))∧w'=w:=by
  unfold W64 at h
  have:=Len64_int n w (by omega) (by omega)
  rw[Qe4,bl_lib n (by omega)] at this
  exact this
namespace Mul64
theorem maskN(a:Nat)(ha:a<18446744073709551616):bits .and .u64 (a:Int) 4294967295=((a%4294967296:Nat):Int):=by
  have h:=bits_and_u64_nat a 4294967295 ha (by omega)
  have e:a&&& 4294967295=a%4294967296:=Nat.and_two_pow_sub_one_eq_mod a 32
  rw[e] at h
  exact h
theorem divN(a:Nat):(a:Int)/4294967296=((a/4294967296:Nat):Int):=by omega
theorem mulN(a b:Nat):(a:Int)*(b:Int)=((a*b:Nat):Int):=(Int.natCast_mul a b).symm
theorem addN(a b:Nat):(a:Int)+(b:Int)=((a+b:Nat):Int):=(Int.natCast_add a b).symm
theorem wrapN(a:Nat)(ha:a<18446744073709551616):IntKind.u64.wrap (a:Int)=(a:Int):=by rw[IntKind.wrap_u64];omega
theorem wrapM(a:Nat):IntKind.u64.wrap (a:Int)=((a%18446744073709551616:Nat):Int):=by rw[IntKind.wrap_u64];omega
end Mul64
theorem Mul64_nat(x y:Nat)(hx:x<18446744073709551616)(hy:y<18446744073709551616)(w:World):
    Calls prog 261 #[.int .u64 x,.int .u64 y] w fun e w'=>e= .returned (.tuple #[.int .u64 ((x*y/18446744073709551616:Nat):Int),.int .u64 ((x*y%18446744073709551616:Nat):Int)])∧w'=w:=by
  obtain⟨bd,bt,bw,hhi⟩:=Lib.mul64_hi x y hx hy
  have ba:=Lib.half_mul_le (a:=x/4294967296) (b:=y/4294967296) (by omega) (by omega)
  have bb:=Lib.half_mul_le (a:=x/4294967296) (b:=y%4294967296) (by omega) (by omega)
  have bc:=Lib.half_mul_le (a:=x%4294967296) (b:=y/4294967296) (by omega) (by omega)
  have ba':x/4294967296*(y/4294967296)<18446744073709551616:=by omega
  have bb':x/4294967296*(y%4294967296)<18446744073709551616:=by omega
  have bc':x%4294967296*(y/4294967296)<18446744073709551616:=by omega
  have bh1:x/4294967296*(y/4294967296)+(x/4294967296*(y%4294967296)+x%4294967296*(y%4294967296)/4294967296)/4294967296<18446744073709551616:=by omega
  have bh:x/4294967296*(y/4294967296)+(x/4294967296*(y%4294967296)+x%4294967296*(y%4294967296)/4294967296)/4294967296+((x/4294967296*(y%4294967296)+x%4294967296*(y%4294967296)/4294967296)%4294967296+x%4294967296*(y/4294967296))/4294967296<18446744073709551616:=by omega
  go_enter func261,ntmps261
  go_wp2
  simp only[Mul64.maskN x hx,Mul64.maskN y hy,Mul64.divN,Mul64.mulN,Mul64.addN,Mul64.wrapN _ bd,Mul64.wrapN _ bb',Mul64.wrapN _ bt,Mul64.maskN _ bt,Mul64.wrapN _ bc',Mul64.wrapN _ bw,Mul64.wrapN _ ba',Mul64.wrapN _ bh1,Mul64.wrapN _ bh,Mul64.wrapM (x*y)]
  rw[hhi]
  go_ret2
  exact⟨rfl,rfl⟩
theorem Mul64_any(x y hi lo:Nat)(hx:x<W64)(hy:y<W64)(hl:lo<W64)(h:x*y=hi*W64+lo)(w:World):
    Calls prog 261 #[.int .u64 x,.int .u64 y] w fun e w'=>e= .returned (.tuple #[.int .u64 hi,.int .u64 lo])∧w'=w:=by
  unfold W64 at *
  have:=Mul64_nat x y hx hy w
  rw[h,show (hi*18446744073709551616+lo)/18446744073709551616=hi by omega,show (hi*18446744073709551616+lo)%18446744073709551616=lo by omega] at this
  exact this
end Go.Proofs.YthdaabapiicnhaaGreatDoor
namespace Go.Proofs.YthdaabapiicnhaaGreatDoor
open Go.RowKit
abbrev Qat(m n:Nat)(c:Int):Prop:=m<T∧n<T∧c=if m<n then -1 else if n<m then 1 else 0
theorem QcS(m n:Nat)(hm:m<T)(hn:n<T):∃c,Qat m n c:=⟨_,hm,hn,rfl⟩
theorem Lk{m n:Nat}{c:Int}(h:Qat m n c):(c<0↔m<n)∧(0<c↔n<m)∧-1≤c∧c≤1:=by
 obtain⟨_,_,rfl⟩:=h;by_cases a:m<n
 ·rw[Qdm a];omega
 ·rw[Qdf a];by_cases b:n<m
  ·rw[Qdm b];omega
  ·rw[Qdf b];omega
theorem RS{m n j:Nat}(hm:m<T)(hn:n<T)(hj:j<4)(h:∀k,j<k→k<4→lim m k=lim n k)(hlt:lim m j<lim n j):m<n:=by
 have a0:=XH m 0;have a1:=XH m 1;have a2:=XH m 2;have a3:=XH m 3;have b0:=XH n 0;have b1:=XH n 1;have b2:=XH n 2;have b3:=XH n 3;rw[Gg m hm,Gg n hn];unfold W64 at *;rcases (show j=0∨j=1∨j=2∨j=3 from by omega) with rfl|rfl|rfl|rfl
 ·have:=h 1;have:=h 2;have:=h 3;omega
 ·have:=h 2;have:=h 3;omega
 ·have:=h 3;omega
 ·omega
theorem QbI(m n:Nat)(c:Int)(w:World)(h:Qat m n c):
  Calls prog 70 #[Yt m,Yt n] w fun e w'=>e= .returned (.int .i64 c)∧Below w.heap.size w w':=by
 obtain⟨hm,hn,hc⟩:=h;unfold Yt;go_enter func70,ntmps70;have HC:=Lib.hid hc;clear hc;go_wp2;go_loopw [5] (fun i wr=>∃j:Nat,j≤4∧i= .int .i64 ((j:Int)-1)∧(∀k,j≤k→k<4→lim m k=lim n k)∧Blk wr (w.heap.size) 80 (QX m)∧Blk wr (w.heap.size+1) 80 (QX n)∧Below w.heap.size w wr) (fun i _=>(intOf i+1).toNat)
 case atStart=>
  refine⟨4,by omega,rfl,fun k h1 h2=>by omega,?_,?_,?_⟩
  ·exact (Blk.newAt _ _ _ (by simp)).alloc _
  ·exact Blk.newAt _ _ _ (by simp)
  ·exact ((Below.refl _ _).alloc (Qde _) _).alloc (by simp) _
 case round=>
  obtain⟨j,hj,rfl,heq,h1,h2,hb⟩:=hrel;have HE:=Lib.hid heq;clear heq;by_cases hlt:0<j
  ·obtain⟨i,rfl⟩:∃i,j=i+1:=⟨j-1,by omega⟩;have hi:i<4:=by omega
   have c1:=Qz h1 i _ (XR m i hi);have c2:=Qz h2 i _ (XR n i hi);have H:=H3 h1 h2 hb;clear h1 h2 hb;rw[show ((i+1:Nat):Int)-1=(i:Int) by omega];by_cases hl:lim m i<lim n i
   ·have hl':((lim m i:Nat):Int)<(lim n i:Int):=by omega
    go_wp2;go_quiet (fail);go_wp2;obtain⟨h1,h2,hb⟩:=H.out;have hlt':=RS hm hn hi (fun k a b=>HE.out k (by omega) b) hl;go_ret;exact⟨Wh (by rw[HC.out,Qdm hlt']),bdN hb _⟩
   ·have hl':¬((lim m i:Nat):Int)<(lim n i:Int):=by omega
    by_cases hg:lim n i<lim m i
    ·have hg':((lim n i:Nat):Int)<(lim m i:Int):=by omega
     go_wp2;go_quiet (fail);go_wp2;go_quiet (fail);go_wp2;obtain⟨h1,h2,hb⟩:=H.out;have hlt':=RS hn hm hi (fun k a b=>(HE.out k (by omega) b).symm) hg;go_ret;exact⟨Wh (by rw[HC.out,Qdf (by omega),Qdm hlt']),bdN (bdN hb _) _⟩
    ·have hg':¬((lim n i:Nat):Int)<(lim m i:Int):=by omega
     go_wp2;go_quiet (fail);go_wp2;go_quiet (fail);go_wp2;obtain⟨h1,h2,hb⟩:=H.out;go_roundw
     case rel=>
      refine⟨i,by omega,rfl,fun k a b=>?_,h1.drewN _,h2.drewN _,bdN hb _⟩;by_cases e:k=i
      ·subst e;omega
      ·exact HE.out k (by omega) b
     case measure=>simp[intOf]
  ·obtain rfl:j=0:=by omega
   have e:m=n:=Sp m n hm hn fun k hk=>HE.out k (Qdw _) hk;have HB:=Lib.hid hb;clear hb h1 h2;go_wp2;go_ret;exact⟨Wh (by rw[HC.out,e];simp),HB.out⟩
theorem QaW(n k:Nat)(h:n<T)(hk:k<4):lim (T-1-n) k=W64-1-lim n k:=by
 unfold lim T at *;unfold W64;rcases (show k=0∨k=1∨k=2∨k=3 from by omega) with rfl|rfl|rfl|rfl <;> omega
theorem QaQ(n:Nat)(h:n<18446744073709551616):bits .xor .u64 IntKind.u64.max (n:Int)=((18446744073709551615-n:Nat):Int):=by
 show IntKind.u64.wrap ((BitVec.ofInt 64 IntKind.u64.max ^^^ BitVec.ofInt 64 (n:Int)).toNat:Int)=_;have h1:BitVec.ofInt 64 IntKind.u64.max=BitVec.allOnes 64:=by decide
 rw[h1,BitVec.allOnes_xor,BitVec.toNat_not,ofInt_u64 n h,IntKind.wrap_u64];omega
theorem Not_any(m r:Nat)(w:World)(h:m+r+1=T):
  Calls prog 131 #[Yt m] w fun e w'=>e= .returned (Yt r)∧Below w.heap.size w w':=by
 have key:∀k,k<4→bits .xor .u64 IntKind.u64.max (lim m k:Int)=(lim r k:Int):=by
  intro k hk;have l:=XH m k;have e:=QaW m k (by omega) hk;rw[show T-1-m=r by omega] at e;rw[e];unfold W64 at *;exact QaQ _ l
 have k0:=key 0 (by omega);have k1:=key 1 (by omega);have k2:=key 2 (by omega);have k3:=key 3 (by omega);clear key h;unfold Yt;go_enter func131,ntmps131;go_wp2;refine Qdg (v:=Yt r) ?_ rfl ⟨rfl,?_⟩
 ·simp[results,results131,go_sem,Yt,k0,k1,k2,k3]
 ·exact ((Below.refl _ _).alloc (Qde _) _).alloc (by simp) _
theorem QcW(m j:Nat)(hm:m<T)(hj:j<4)(h:∀k,j<k→k<4→lim m k=0)(h0:lim m j≠0):bl m=64*j+bl (lim m j):=by
 have h1:∀i,bl m≤64*j+i↔bl (lim m j)≤i:=by
  intro i;rw[bl_lt,bl_lt,QeL];have a0:=XH m 0;have a1:=XH m 1;have a2:=XH m 2;have a3:=XH m 3;have hs:=Gg m hm;have hp:0<2^i:=Nat.two_pow_pos i;generalize 2^i=I at *;rcases (show j=0∨j=1∨j=2∨j=3 from by omega) with rfl|rfl|rfl|rfl
  ·have e1:=h 1 (by omega) (by omega);have e2:=h 2 (by omega) (by omega);have e3:=h 3 (by omega) (by omega);rw[e1,e2,e3] at hs;simp at hs ⊢;rw[←hs]
  ·have e2:=h 2 (by omega) (by omega);have e3:=h 3 (by omega) (by omega);rw[e2,e3] at hs;have:(2:Nat)^(64*1)=W64:=by decide
   rw[this];unfold W64 at *;omega
  ·have e3:=h 3 (by omega) (by omega);rw[e3] at hs;have:(2:Nat)^(64*2)=W64*W64:=by decide
   rw[this];unfold W64 at *;omega
  ·have:(2:Nat)^(64*3)=W64*W64*W64:=by decide
   rw[this];unfold W64 at *;omega
 have h2:64*j≤bl m:=by
  rcases Qee (bl m) (64*j) with hlt|hge
  ·have:=(h1 0).1 (by omega);rw[bl_lt] at this;omega
  ·exact hge
 have h3:=(h1 (bl (lim m j))).2 (Qde _);have h4:=(h1 (bl m-64*j)).1 (by omega);omega
theorem QbG(m:Nat)(w:World)(hm:m<T):
  Calls prog 155 #[Yt m] w fun e w'=>e= .returned (.int .i64 (bl m))∧Below w.heap.size w w':=by
 unfold Yt;go_enter func155,ntmps155;go_wp2;go_loopw [3] (fun i wr=>∃j:Nat,j≤4∧i= .int .i64 ((j:Int)-1)∧(∀k,j≤k→k<4→lim m k=0)∧Blk wr (w.heap.size) 80 (QX m)∧Below w.heap.size w wr) (fun i _=>(intOf i+1).toNat)
 case atStart=>
  refine⟨4,by omega,rfl,fun k h1 h2=>by omega,?_,?_⟩
  ·exact Blk.newAt _ _ _ rfl
  ·exact (Below.refl _ _).alloc (Qde _) _
 case round=>
  obtain⟨j,hj,rfl,heq,h1,hb⟩:=hrel;have HE:=Lib.hid heq;clear heq;by_cases hlt:0<j
  ·obtain⟨i,rfl⟩:∃i,j=i+1:=⟨j-1,by omega⟩;have hi:i<4:=by omega
   have c1:=Qz h1 i _ (XR m i hi);have H:=H2 h1 hb;clear h1 hb;rw[show ((i+1:Nat):Int)-1=(i:Int) by omega];by_cases hl:lim m i=0
   ·have hl':(((lim m i:Nat):Int) != 0)=false:=by simp[hl]
    have HL:=Lib.hid hl;clear hl;go_wp2;obtain⟨h1,hb⟩:=H.out;go_roundw
    case rel=>
     refine⟨i,by omega,rfl,fun k a b=>?_,h1,hb⟩;by_cases e:k=i
     ·subst e;exact HL.out
     ·exact HE.out k (by omega) b
    case measure=>simp[intOf]
   ·have hl':(((lim m i:Nat):Int) != 0)=true:=by simp[hl]
    have htop:=Lib.hid (QcW m i hm hi (fun k a b=>HE.out k (by omega) b) hl);have hb64:bl (lim m i)≤64:=by rw[bl_lt];have:=XH m i;unfold W64 at this;omega
    clear hl;go_wp2_with (go_at_call 191;refine (Len64_any _ _ (XH m i)).mono ?_;rintro e w' ⟨rfl,rfl⟩);obtain⟨h1,hb⟩:=H.out;go_ret;refine⟨Wh ?_,hb⟩;rw[htop.out];omega
  ·obtain rfl:j=0:=by omega
   have e:m=0:=Sp m 0 hm (by decide) fun k hk=>by rw[HE.out k (Qdw _) hk];simp[lim]
   have HB:=Lib.hid hb;clear hb h1;go_wp2;go_ret;exact⟨Wh (by rw[e];rfl),HB.out⟩
def hx(d:Nat):UInt8:=if d<10 then UInt8.ofNat (48+d) else UInt8.ofNat (87+d)
def Xg(l:List UInt8):ByteArray:=⟨l.toArray⟩
def Qp(l:List UInt8):Array Value:=(l.map fun c=>Value.int .u8 c.toNat).toArray
def Zs(l:List UInt8)(k:Nat):Array Value:=((List.range l.length).map fun j=>if j<k then Value.int .u8 (l.getD j 0).toNat else Value.int .u8 0).toArray
theorem Jf(l:List UInt8)(k j:Nat)(h:j<l.length):∃v,(Zs l k)[j]? =some v:=by
 unfold Zs;simp[h]
theorem Za(l:List UInt8)(k:Nat)(h:k<l.length):(Zs l k).setIfInBounds k (.int .u8 (l.getD k 0).toNat)=Zs l (k+1):=by
 unfold Zs;apply Array.ext
 ·simp
 ·intro i h1 h2;simp only[Qdh,List.getElem_toArray,List.getElem_set,List.getElem_map,List.getElem_range];by_cases e:k=i
  ·subst e;simp
  ·rw[Qdf e];by_cases h3:i<k
   ·rw[Qdm h3,Qdm (by omega)]
   ·rw[Qdf h3,Qdf (by omega)]
theorem Ks(l:List UInt8):Zs l 0=Array.replicate l.length (.int .u8 0):=by
 unfold Zs;apply Array.ext
 ·simp
 ·intro i h1 h2;simp
theorem WM(z:Value)(n:Nat):madeCells #[z] n=Array.replicate n z:=by
 apply Array.ext';rw[toList_madeCells_one,Array.toList_replicate]
theorem Da(n:Nat)(c:Int)(hc:c=n)(hn:n≤140737488355328)(w:World):
  (Instr.makeSlice 31 (.int .i64 c) (.int .i64 c)).run prog w= .ok (.slice (some ⟨w.heap.size,0,none⟩) n n) (w.alloc (.cells (Array.replicate n (.int .u8 0)) 5)):=by
 obtain⟨i0,hi,hz0,hz1,hz2⟩:=info_parts (show (prog.info? 5).map (fun i=>(i.zero,i.size,i.bytes))=some (some (.int .u8 0),1,1) by kernel_rfl);subst hc;rw[run_make w 31 5 i0 (.int .u8 0) underlying31 hi hz0 .i64 .i64 n n (by omega) (by omega) (by rw[hz2];omega) (by omega),hz1,Qe4,Qe2];exact congrArg (fun cs=>Result.ok _ (w.alloc (.cells cs 5))) (WM _ n)
theorem Ha(l:List UInt8)(k:Nat)(h:l.length=k):Zs l k=Qp l:=by
 unfold Zs Qp;apply Array.ext
 ·simp
 ·intro i h1 h2;have h3:i<l.length:=by simpa using h1
  simp[h3,←h]
theorem Mk(l:List UInt8):strOfNums (l.map fun c=>(c.toNat:Int))=Xg l:=by
 unfold strOfNums Xg;congr 1;simp[Function.comp_def]
def byB(m L:Nat):List UInt8:=(List.range L).map fun i=>UInt8.ofNat (m/256^(L-1-i)%256)
theorem Jr(m L:Nat):(byB m L).length=L:=by simp[byB]
theorem Oz(m L j:Nat)(h:j<L):(byB m L).getD j 0=UInt8.ofNat (m/256^(L-1-j)%256):=by simp[byB,h]
theorem Qcv(m s:Nat)(h:m%2^(s+1)=0):m||| 2^s=m+2^s:=by
 have h1:m=(m/2^(s+1)) <<< (s+1):=by
  rw[Qf2,Qf0];have:=Qft m (2^(s+1));omega
 have hlt:2^s<2^(s+1):=Nat.pow_lt_pow_right (by decide) (by omega);rw[h1,←QeZ hlt]
def Ja(q i:Nat):Nat:=q/2^i*2^i
theorem Fl(q:Nat):Ja q 0=q:=by simp[Ja]
theorem Fp(q i:Nat)(h:q<2^i):Ja q i=0:=by unfold Ja;rw[QeF h,QfD]
theorem KD(q W s j:Nat)(hs:s<64):lim (Ja q (64*W+s)) j=if j<W then 0 else if j=W then lim q j/2^s*2^s else lim q j:=by
 have hp:(2:Nat)^(64*W+s)=W64^W*2^s:=by rw[show W64=2^64 from rfl,←Qe3,←QeL]
 have hps:0<2^s:=Nat.two_pow_pos s;unfold Ja lim;rw[hp];by_cases h1:j<W
 ·rw[Qdm h1];have e:W64^W*2^s=W64^(W-j-1)*2^s*W64*W64^j:=by
   rw[QeX,←Qfs,Nat.mul_right_comm,←QeL];congr 2;omega
  rw[e,←QeX,Nat.mul_div_cancel _ (JE j),←QeX,Nat.mul_mod_left]
 ·rw[Qdf h1];by_cases h2:j=W
  ·subst h2;rw[Qdm rfl];have e:q/(W64^j*2^s)*(W64^j*2^s)/W64^j=q/W64^j/2^s*2^s:=by
    rw[Qef,Qf0 (W64^j) (2^s),←QeX,Nat.mul_div_cancel _ (JE j)]
   rw[e];generalize q/W64^j=p;have hW:W64=2^s*2^(64-s):=by rw[show W64=2^64 from rfl,←QeL];congr 1;omega
   rw[hW,Qfk,Qf0 (2^s) (2^(64-s)),Nat.mul_mod_mul_right]
  ·rw[Qdf h2];have e:W64^j=W64^W*2^s*2^(64*(j-W)-s):=by
    rw[QeX,←QeL,show s+(64*(j-W)-s)=64*(j-W) by omega,Qe3,show (2:Nat)^64=W64 from rfl,←QeL];congr 1;omega
   rw[e,←Qef,Nat.mul_div_cancel _ (Nat.mul_pos (JE W) hps),Qef]
theorem Fo(q i:Nat)(hi:i<256):lim (Ja q (i+1)) (i/64)%2^(i%64+1)=0∧lim (Ja q i) (i/64)=lim (Ja q (i+1)) (i/64)+q/2^i%2*2^(i%64)∧
  ∀j,j<4→j≠i/64→lim (Ja q i) j=lim (Ja q (i+1)) j:=by
 obtain⟨W,hW⟩:=nE (i/64);obtain⟨s,hs⟩:=nE (i%64);have hi':i=64*W+s:=by omega
 have hs6:s<64:=by omega
 rw[←hW,←hs];have a:=fun j=>KD q W s j hs6;rw[←hi'] at a;have hbit:q/2^i%2=lim q W/2^s%2:=by
  unfold lim;have hp:(2:Nat)^i=W64^W*2^s:=by rw[hi',show W64=2^64 from rfl,←Qe3,←QeL]
  rw[hp,←Qef];generalize q/W64^W=p;have hW:W64=2^s*(2*2^(63-s)):=by rw[←Qfs,←QeL,show W64=2^64 from rfl];congr 1;omega
  rw[hW,Qfk,QfP]
 have hsplit:∀x:Nat,x/2^s*2^s=x/2^(s+1)*2^(s+1)+x/2^s%2*2^s:=by
  intro x;have h:=Qft (x/2^s) 2;rw[QfC,←Qef,←QeX,Nat.mul_right_comm,←QfH];congr 1;omega
 have hl:=XH q W;have b:∀j,lim (Ja q (i+1)) j=if j<W then 0 else if j=W then lim q j/2^(s+1)*2^(s+1) else lim q j:=by
  intro j;by_cases h63:s=63
  ·have e:=KD q (W+1) 0 j (by omega);rw[show 64*(W+1)+0=i+1 by omega] at e;rw[e];by_cases c1:j<W
   ·rw[Qdm (by omega),Qdm c1]
   ·rw[Qdf c1];by_cases c2:j=W
    ·rw[Qdm (by omega),Qdm c2,c2,h63,QeF (by have:W64=2^(63+1):=rfl;omega),QfD]
    ·rw[Qdf (by omega),Qdf c2];split
     ·simp
     ·rfl
  ·have e:=KD q W (s+1) j (by omega);rw[show 64*W+(s+1)=i+1 by omega] at e;exact e
 refine⟨?_,?_,?_⟩
 ·rw[b W,Qdf (by omega),Qdm rfl,Nat.mul_mod_left]
 ·rw[a W,b W,Qdf (by omega),Qdm rfl,Qdf (by omega),Qdm rfl,hbit];exact hsplit _
 ·intro j _ hne;rw[a j,b j];by_cases c:j<W
  ·rw[Qdm c,Qdm c]
  ·rw[Qdf c,Qdf c,Qdf hne,Qdf hne]
theorem On(m n i:Nat)(hn:0<n):(n≤2*(m/2^(i+1)%n)+m/2^i%2∧m/n/2^i%2=1∧m/2^i%n+n=2*(m/2^(i+1)%n)+m/2^i%2)∨
  (2*(m/2^(i+1)%n)+m/2^i%2<n∧m/n/2^i%2=0∧m/2^i%n=2*(m/2^(i+1)%n)+m/2^i%2):=by
 have e1:m/n/2^i=m/2^i/n:=by rw[Qef,Qef,Qf0]
 have e2:m/2^(i+1)=m/2^i/2:=by rw[QfC,Qef]
 rw[e1,e2];generalize m/2^i=p;have h1:=Qft p 2;have h2:=Qft (p/2) n;have h3:=Qen (p/2) hn;generalize hr:p/2%n=r at *;generalize hq:p/2/n=q at *;have e3:p=(2*r+p%2)+n*(2*q):=by
  have:n*(2*q)=2*(n*q):=by rw[Nat.mul_left_comm]
  omega
 have hp2:p%2<2:=Qen _ (by decide);generalize p%2=x at *;by_cases c:n≤2*r+x
 ·left;have e4:p=(2*r+x-n)+n*(2*q+1):=by rw[Nat.mul_add,Qe2];omega
  have e5:p/n=2*q+1:=by rw[e4,Qfm _ _ hn,QeF (by omega)];omega
  have e6:p%n=2*r+x-n:=by rw[e4,Qfn,Qez (by omega)]
  rw[e5,e6];omega
 ·right;have e5:p/n=2*q:=by rw[e3,Qfm _ _ hn,QeF (by omega)];omega
  have e6:p%n=2*r+x:=by rw[e3,Qfn,Qez (by omega)]
  rw[e5,e6];omega
theorem QaX(m i:Nat):lim m (i/64)/2^(i%64)%2=m/2^i%2:=by
 unfold lim;have hp:(2:Nat)^i=W64^(i/64)*2^(i%64):=by
  rw[show W64=2^64 from rfl,←Qe3,←QeL];congr 1;omega
 rw[hp,←Qef];generalize m/W64^(i/64)=p;have hs:i%64<64:=Qen _ (by decide);generalize i%64=s at *;have hW:W64=2^s*(2*2^(63-s)):=by rw[←Qfs,←QeL,show W64=2^64 from rfl];congr 1;omega
 rw[hW,Qfk,QfP]
theorem QaV(r x:Nat)(hr:r%2=0)(hx:x≤1):lim (r+x) 0=lim r 0+x∧∀j,0<j→lim (r+x) j=lim r j:=by
 constructor
 ·unfold lim;simp only[QfQ,Nat.div_one];unfold W64;omega
 ·intro j hj;unfold lim;have e:W64^j=2*(2^63*W64^(j-1)):=by
   rw[←QeX,←Qfs,show (2:Nat)^(63+1)=W64 from rfl,←Qfs];congr 1;omega
  rw[e,←Qef (r+x) 2,←Qef r 2,show (r+x)/2=r/2 by omega]
theorem Qbx(a s:Nat)(ha:a<W64):bits .and .u64 ((a:Nat)/2^s:Int) 1=((a/2^s%2:Nat):Int):=by
 have e1:((a:Nat)/2^s:Int)=((a/2^s:Nat):Int):=by push_cast;rfl
 have hle:a/2^s≤a:=Nat.div_le_self _ _;rw[e1];have e2:=u64_and_nat (a/2^s) 1 (by unfold W64 at ha;omega) (by omega);rw[show ((1:Nat):Int)=1 from rfl] at e2;rw[e2,Nat.and_one_is_mod]
theorem Qcu(r x:Nat)(hr:r%2=0)(hx:x≤1)(hl:r<W64):bits .or .u64 (r:Int) (x:Int)=((r+x:Nat):Int):=by
 have e2:=u64_or_nat r x (by unfold W64 at hl;omega) (by omega);rw[e2];congr 1;have h1:r=(r/2) <<< 1:=by rw[Qf2];omega
 rw[h1,←QeZ (by omega)]
theorem MD(a s:Nat)(ha:a<W64)(hs:s<64)(h:a%2^(s+1)=0):bits .or .u64 (a:Int) (IntKind.u64.wrap (2^s))=((a+2^s:Nat):Int):=by
 have hp:(2:Nat)^s<W64:=Nat.pow_lt_pow_right (by decide) hs;have w1:IntKind.u64.wrap (2^s)=((2^s:Nat):Int):=by
  have e:(2:Int)^s=((2^s:Nat):Int):=by push_cast;rfl
  rw[e];generalize 2^s=y at *;unfold W64 at hp;simp[IntKind.wrap,IntKind.signed,IntKind.bits];omega
 rw[w1,u64_or_nat a (2^s) (by unfold W64 at ha;omega) (by unfold W64 at hp;omega)];congr 1;exact Qcv a s h
def Gr(w:World)(g n:Nat):World:=(((w.setCell ⟨g,0,none⟩ (.int .u64 (lim n 0))).setCell ⟨g,1,none⟩ (.int .u64 (lim n 1))).setCell ⟨g,2,none⟩ (.int .u64 (lim n 2))).setCell ⟨g,3,none⟩ (.int .u64 (lim n 3))
theorem Blk.fillAt{w:World}{g:Nat}{t:TypeId}{m n:Nat}(h:Blk w g t (QX m)):Blk (Gr w g n) g t (QX n):=h.fill rfl
theorem Blk.fillFar{w:World}{g b n:Nat}{t:TypeId}{cs:Array Value}(h:Blk w g t cs)(hne:g≠b):Blk (Gr w b n) g t cs:=
 (((h.far hne _).far hne _).far hne _).far hne _
theorem Hn{w0 w:World}{b n B:Nat}(h:Below B w0 w)(hb:B≤b):Below B w0 (Gr w b n):=GX h hb
theorem clf{w:World}{g:Nat}{t:TypeId}{n:Nat}(h:Blk w g t (QX n)):Cl w g n∧w.frozen? ⟨g,0,none⟩=false∧w.frozen? ⟨g,1,none⟩=false∧w.frozen? ⟨g,2,none⟩=false∧w.frozen? ⟨g,3,none⟩=false:=
 ⟨cl4 h,h.frozen 0,h.frozen 1,h.frozen 2,h.frozen 3⟩
theorem WT(a b j:Nat)(h:j<4)(ho:∀i,i<4→i≠j→lim b i=lim a i):(QX a).setIfInBounds j (.int .u64 (lim b j))=QX b:=by
 have h0:=ho 0;have h1:=ho 1;have h2:=ho 2;have h3:=ho 3;rcases (show j=0∨j=1∨j=2∨j=3 from by omega) with rfl|rfl|rfl|rfl <;> simp_all[QX]
theorem Cf{a b:Nat}(h:∀k,k<4→lim a k=lim b k):QX a=QX b:=by
 simp[QX,h 0,h 1,h 2,h 3]
theorem Qar(m n:Nat)(w:World)(hm:m<T)(hn:n<T)(hn0:0<n):
  Calls prog 130 #[Yt m,Yt n] w fun e w'=>e= .returned (.tuple #[Yt (m/n),Yt (m%n),.bool true])∧Below w.heap.size w w':=by
 have q:=fun w=>eqU0 n false hn (by simp;omega) w;have hbl:bl m≤256:=(bl_lt m 256).2 hm;have hbl2:m<2^bl m:=(bl_lt m (bl m)).1 (Qde _);have hlq:m/n≤m:=Nat.div_le_self _ _;unfold Yt;go_enter func130,ntmps130;go_wp2_with fail;refine (QbG m _ hm).mono ?_;rintro e w1 ⟨rfl,hb1⟩;have A0:Blk w1 (w.heap.size) 80 (QX m):=((((((Blk.newAt _ 80 (QX m) (by simp)).alloc _).alloc _).alloc _).alloc _).alloc _).calls hb1;have A1:Blk w1 (w.heap.size+1) 80 (QX n):=(((((Blk.newAt _ 80 (QX n) (by simp)).alloc _).alloc _).alloc _).alloc _).calls hb1;have A2:Blk w1 (w.heap.size+1+1) 80 (Vz):=((((Blk.newAt _ 80 (Vz) (by simp)).alloc _).alloc _).alloc _).calls hb1;have A3:Blk w1 (w.heap.size+1+1+1) 80 (Vz):=(((Blk.newAt _ 80 (Vz) (by simp)).alloc _).alloc _).calls hb1;have A4:Blk w1 (w.heap.size+1+1+1+1) 80 (Vz):=((Blk.newAt _ 80 (Vz) (by simp)).alloc _).calls hb1;have A5:Blk w1 (w.heap.size+1+1+1+1+1) 80 (Vz):=(Blk.newAt _ 80 (Vz) (by simp)).calls hb1;have AB:=bt (ba (ba (ba (ba (ba (ba (Below.refl w.heap.size w) _) _) _) _) _) _) hb1;have HI:=H2 hbl2 hlq;have HA:=H7 A0 A1 A2 A3 A4 A5 AB;clear hb1 A0 A1 A2 A3 A4 A5 AB q hbl2 hlq;go_wp2_with fail;go_loopw [9] (fun i wr=>∃j:Nat,j≤256∧i= .int .i64 ((j:Int)-1)∧Blk wr (w.heap.size) 80 (QX m)∧Blk wr (w.heap.size+1) 80 (QX n)∧Blk wr (w.heap.size+1+1) 80 (Vz)∧Blk wr (w.heap.size+1+1+1) 80 (Vz)∧Blk wr (w.heap.size+1+1+1+1) 80 (QX (Ja (m/n) j))∧Blk wr (w.heap.size+1+1+1+1+1) 80 (QX (m/2^j%n))∧Below w.heap.size w wr) (fun i _=>(intOf i+1).toNat)
 case atStart=>
  obtain⟨A0,A1,A2,A3,A4,A5,AB⟩:=HA.out;obtain⟨hbl2,hlq⟩:=HI.out;refine⟨bl m,hbl,by go_num,A0,A1,A2,A3,?_,?_,AB⟩
  ·rw[Fp _ _ (by omega)];exact A4
  ·rw[QeF hbl2,Nat.zero_mod];exact A5
 case round=>
  obtain⟨j,hj,rfl,h0,h1,h2,h3,h4,h5,hb⟩:=hrel;clear HA;by_cases hlt:0<j
  ·obtain⟨i,hij⟩:=nE (j-1);have hji:j=i+1:=by omega
   subst hji;have hi:i<256:=by omega
   clear hij;obtain⟨L,hL⟩:=nE (m/2^(i+1)%n);obtain⟨x,hx⟩:=nE (m/2^i%2);have hx1:x≤1:=by omega
   have hLn:L<n:=by rw[hL];exact Qen _ hn0
   have st:=On m n i hn0;have tq:=Fo (m/n) i hi;rw[←hL,←hx] at st;rw[←hL] at h5;obtain⟨r,ov,hsum⟩:=Qcm L L (by omega) (by omega);have hsum':=hsum;obtain⟨_,_,hrT,hre⟩:=hsum';have hr2:r%2=0:=by unfold T at hre;omega
   have hrx:r+x<T:=by unfold T at hrT hr2 ⊢;omega
   have lo:=QaV r x hr2 hx1;have vb:bits .and .u64 ((lim m (i/64):Nat)/2^(i%64):Int) 1=(x:Int):=by
    rw[Qbx _ _ (XH _ _),QaX,hx]
   have vo:bits .or .u64 (lim r 0:Int) (x:Int)=(lim (r+x) 0:Nat):=by
    rw[Qcu _ _ (by
              have:lim r 0=r%W64:=by unfold lim;rw[QfQ,Nat.div_one]
              rw[this];unfold W64;omega) hx1 (XH _ _),lo.1]
   obtain⟨c,hc⟩:=QcS (r+x) n hrx hn;have hcf:=Lk hc;obtain⟨tb,hd⟩:∃tb,n≤2*L+x→Qas (r+x) n (m/2^i%n) tb:=by
    by_cases g:n≤r+x
    ·refine⟨false,fun h=>⟨hrx,hn,Nat.lt_trans (Qen _ hn0) hn,?_⟩⟩;cases ov <;> simp at hre ⊢ <;> omega
    ·refine⟨true,fun h=>⟨hrx,hn,Nat.lt_trans (Qen _ hn0) hn,?_⟩⟩;cases ov <;> simp at hre ⊢ <;> omega
   have hv:n≤2*L+x↔ov=true∨0≤c:=by
    cases ov <;> simp at hre ⊢ <;> omega
   have hii:((i+1:Nat):Int)-1=(i:Int):=by omega
   rw[hii];have F:=H10 st tq hsum lo hc hd hv hre hL hx;clear st tq hsum lo hc hd hv hre hL hx hr2 hcf hlt hj hii;have c5:=clf h5;have G:=H7 h0 h1 h2 h3 h4 h5 hb;clear h0 h1 h2 h3 h4 h5 hb;go_wp2_with fail;refine (Fi L L r ov _ F.out.2.2.1).mono ?_;rintro e w2 ⟨rfl,hb2⟩;simp only[Yt];obtain⟨h0,h1,h2,h3,h4,h5,hb⟩:=G.out;have B0:=h0.calls hb2;have B1:=h1.calls hb2;have B2:=h2.calls hb2;have B3:=h3.calls hb2;have B4:=h4.calls hb2;have B5:=h5.calls hb2;have BB:=bt hb hb2;clear h0 h1 h2 h3 h4 h5 hb hb2 G c5;have c5:=clf B5;have G:=H7 B0 B1 B2 B3 B4 B5 BB;clear B0 B1 B2 B3 B4 B5 BB;go_wp2_with fail;change Code.wp _ _ _ _ (Gr w2 (w.heap.size+1+1+1+1+1) r);obtain⟨h0,h1,h2,h3,h4,h5,hb⟩:=G.out;have B0:=h0.fillFar (b:=(w.heap.size+1+1+1+1+1)) (n:=r) (by omega);have B1:=h1.fillFar (b:=(w.heap.size+1+1+1+1+1)) (n:=r) (by omega);have B2:=h2.fillFar (b:=(w.heap.size+1+1+1+1+1)) (n:=r) (by omega);have B3:=h3.fillFar (b:=(w.heap.size+1+1+1+1+1)) (n:=r) (by omega);have B4:=h4.fillFar (b:=(w.heap.size+1+1+1+1+1)) (n:=r) (by omega);have B5:=h5.fillAt (n:=r);have BB:=Hn (n:=r) hb (b:=(w.heap.size+1+1+1+1+1)) (by omega);clear h0 h1 h2 h3 h4 h5 hb G c5;generalize Gr w2 (w.heap.size+1+1+1+1+1) r=w3 at *;have c5:=clf B5;have G:=H7 B0 B1 B2 B3 B4 B5 BB;have ca:=Qz B0 (i/64) _ (XR m (i/64) (by omega));have i4:i/64<4:=by omega
   clear B0 B1 B2 B3 B4 B5 BB;go_region;have hset:=WT r (r+x) 0 (by decide) (fun k hk h0=>F.out.2.2.2.1.2 k (by omega));change Exit.then _ _ _ _ ((w3.setCell ⟨(w.heap.size+1+1+1+1+1),0,none⟩ (.int .u64 (lim (r+x) 0))).drew);obtain⟨h0,h1,h2,h3,h4,h5,hb⟩:=G.out;have B0:Blk ((w3.setCell ⟨(w.heap.size+1+1+1+1+1),0,none⟩ (.int .u64 (lim (r+x) 0))).drew) (w.heap.size) 80 (_):=(h0.far (b:=(w.heap.size+1+1+1+1+1)) (i:=0) (by omega) _).drew;have B1:Blk ((w3.setCell ⟨(w.heap.size+1+1+1+1+1),0,none⟩ (.int .u64 (lim (r+x) 0))).drew) (w.heap.size+1) 80 (_):=(h1.far (b:=(w.heap.size+1+1+1+1+1)) (i:=0) (by omega) _).drew;have B2:Blk ((w3.setCell ⟨(w.heap.size+1+1+1+1+1),0,none⟩ (.int .u64 (lim (r+x) 0))).drew) (w.heap.size+1+1) 80 (_):=(h2.far (b:=(w.heap.size+1+1+1+1+1)) (i:=0) (by omega) _).drew;have B3:Blk ((w3.setCell ⟨(w.heap.size+1+1+1+1+1),0,none⟩ (.int .u64 (lim (r+x) 0))).drew) (w.heap.size+1+1+1) 80 (_):=(h3.far (b:=(w.heap.size+1+1+1+1+1)) (i:=0) (by omega) _).drew;have B4:Blk ((w3.setCell ⟨(w.heap.size+1+1+1+1+1),0,none⟩ (.int .u64 (lim (r+x) 0))).drew) (w.heap.size+1+1+1+1) 80 (_):=(h4.far (b:=(w.heap.size+1+1+1+1+1)) (i:=0) (by omega) _).drew;have B5:Blk ((w3.setCell ⟨(w.heap.size+1+1+1+1+1),0,none⟩ (.int .u64 (lim (r+x) 0))).drew) (w.heap.size+1+1+1+1+1) 80 (_):=((h5.set_ 0 _).to hset).drew;have BB:Below w.heap.size w ((w3.setCell ⟨(w.heap.size+1+1+1+1+1),0,none⟩ (.int .u64 (lim (r+x) 0))).drew):=(hb.setCell (p:=⟨(w.heap.size+1+1+1+1+1),0,none⟩) (by simp;omega) _).drew;clear h0 h1 h2 h3 h4 h5 hb G c5;generalize (w3.setCell ⟨(w.heap.size+1+1+1+1+1),0,none⟩ (.int .u64 (lim (r+x) 0))).drew=w4 at *;have c5:=clf B5;have G:=H7 B0 B1 B2 B3 B4 B5 BB;clear ca hset;have c1:=clf B1;clear B0 B1 B2 B3 B4 B5 BB;cases hov:ov
   ·have hov':=Lib.hid hov;clear hov;go_wp2_with fail;refine (QbI (r+x) n c _ F.out.2.2.2.2.1).mono ?_;rintro e w5 ⟨rfl,hb5⟩;obtain⟨h0,h1,h2,h3,h4,h5,hb⟩:=G.out;have B0:=h0.calls hb5;have B1:=h1.calls hb5;have B2:=h2.calls hb5;have B3:=h3.calls hb5;have B4:=h4.calls hb5;have B5:=h5.calls hb5;have BB:=bt hb hb5;clear h0 h1 h2 h3 h4 h5 hb hb5 G c5 c1;have c5:=clf B5;have c1:=clf B1;have G:=H7 B0 B1 B2 B3 B4 B5 BB;clear B0 B1 B2 B3 B4 B5 BB;by_cases hc0:0≤c
    ·have hge:n≤2*L+x:=F.out.2.2.2.2.2.2.1.2 (.inr hc0);obtain⟨d,hd0⟩:=nE (m/2^i%n);have hdd:=F.out.2.2.2.2.2.1 hge;rw[←hd0] at hdd;have HD:=H3 hdd hge hd0;clear hdd hge hd0;go_wp2_with fail;refine (Ra (r+x) n d tb _ HD.out.1).mono ?_;rintro e w6 ⟨rfl,hb6⟩;simp only[Yt];obtain⟨h0,h1,h2,h3,h4,h5,hb⟩:=G.out;have B0:=h0.calls hb6;have B1:=h1.calls hb6;have B2:=h2.calls hb6;have B3:=h3.calls hb6;have B4:=h4.calls hb6;have B5:=h5.calls hb6;have BB:=bt hb hb6;clear h0 h1 h2 h3 h4 h5 hb hb6 G c5 c1;have c5:=clf B5;have G:=H7 B0 B1 B2 B3 B4 B5 BB;clear B0 B1 B2 B3 B4 B5 BB;go_wp2_with fail;change Code.wp _ _ _ _ (Gr w6 (w.heap.size+1+1+1+1+1) d);obtain⟨h0,h1,h2,h3,h4,h5,hb⟩:=G.out;have B0:=h0.fillFar (b:=(w.heap.size+1+1+1+1+1)) (n:=d) (by omega);have B1:=h1.fillFar (b:=(w.heap.size+1+1+1+1+1)) (n:=d) (by omega);have B2:=h2.fillFar (b:=(w.heap.size+1+1+1+1+1)) (n:=d) (by omega);have B3:=h3.fillFar (b:=(w.heap.size+1+1+1+1+1)) (n:=d) (by omega);have B4:=h4.fillFar (b:=(w.heap.size+1+1+1+1+1)) (n:=d) (by omega);have B5:=h5.fillAt (n:=d);have BB:=Hn (n:=d) hb (b:=(w.heap.size+1+1+1+1+1)) (by omega);clear h0 h1 h2 h3 h4 h5 hb G c5;generalize Gr w6 (w.heap.size+1+1+1+1+1) d=w7 at *;have c5:=clf B5;have G:=H7 B0 B1 B2 B3 B4 B5 BB;have hq1:m/n/2^i%2=1:=by rcases F.out.1 with s|s;exact s.2.1;exact absurd HD.out.2.1 (by omega)
     obtain⟨t1,t2,t3⟩:=F.out.2.1;rw[hq1,Nat.one_mul] at t2;have vt:=MD (lim (Ja (m/n) (i+1)) (i/64)) (i%64) (XH _ _) (Qen _ (by decide)) t1;rw[←t2] at vt;have cq:=Qz B4 (i/64) _ (XR (Ja (m/n) (i+1)) (i/64) (by omega));have fq:=B4.frozen (i/64);have T3:=Lib.hid t3;clear t1 t2 t3 hq1 c5 B0 B1 B2 B3 B4 B5 BB;have il:(i:Int)<256:=by omega
     go_region;obtain⟨h0,h1,h2,h3,h4,h5,hb⟩:=G.out;have hset2:=WT (Ja (m/n) (i+1)) (Ja (m/n) i) (i/64) i4 (fun k hk hne=>T3.out k hk hne);go_wp2;go_roundw
     case rel=>
      have hd0:=HD.out.2.2;rw[hd0] at h5;exact⟨i,by omega,rfl,(h0.far (by omega) _).drew,(h1.far (by omega) _).drew,(h2.far (by omega) _).drew,(h3.far (by omega) _).drew,((h4.set_ (i/64) _).to hset2).drew,(h5.far (by omega) _).drew,(hb.setCell (by simp;omega) _).drew⟩
     case measure=>simp[intOf]
    ·have hlt2:c<0:=by omega
     have hnot:¬n≤2*L+x:=fun h=>by rcases F.out.2.2.2.2.2.2.1.1 h with k|k;rw[hov'.out] at k;cases k;exact hc0 k
     have HN:=Lib.hid hnot;clear hnot hc0;go_wp2;obtain⟨h0,h1,h2,h3,h4,h5,hb⟩:=G.out;have hst:m/n/2^i%2=0∧m/2^i%n=2*L+x:=by rcases F.out.1 with s|s;exact absurd s.1 HN.out;exact s.2
     obtain⟨t1,t2,t3⟩:=F.out.2.1;rw[hst.1,QfD,Qea] at t2;have htop:QX (Ja (m/n) (i+1))=QX (Ja (m/n) i):=Cf fun k hk=>by by_cases e:k=i/64;rw[e];exact t2.symm;exact (t3 k hk e).symm
     have hre:=F.out.2.2.2.2.2.2.2.1;rw[hov'.out] at hre;have hLx:m/2^i%n=r+x:=by rw[hst.2];simp at hre;omega
     go_roundw
     case rel=>
      exact⟨i,by omega,rfl,h0,h1,h2,h3,by rw[←htop];exact h4,by rw[hLx];exact h5,hb⟩
     case measure=>simp[intOf]
   ·have hge:n≤2*L+x:=F.out.2.2.2.2.2.2.1.2 (.inl hov);have hov':=Lib.hid hov;clear hov;obtain⟨d,hd0⟩:=nE (m/2^i%n);have hdd:=F.out.2.2.2.2.2.1 hge;rw[←hd0] at hdd;have HD:=H3 hdd hge hd0;clear hdd hge hd0;go_wp2_with fail;refine (Ra (r+x) n d tb _ HD.out.1).mono ?_;rintro e w6 ⟨rfl,hb6⟩;simp only[Yt];obtain⟨h0,h1,h2,h3,h4,h5,hb⟩:=G.out;have B0:=h0.calls hb6;have B1:=h1.calls hb6;have B2:=h2.calls hb6;have B3:=h3.calls hb6;have B4:=h4.calls hb6;have B5:=h5.calls hb6;have BB:=bt hb hb6;clear h0 h1 h2 h3 h4 h5 hb hb6 G c5 c1;have c5:=clf B5;have G:=H7 B0 B1 B2 B3 B4 B5 BB;clear B0 B1 B2 B3 B4 B5 BB;go_wp2_with fail;change Code.wp _ _ _ _ (Gr w6 (w.heap.size+1+1+1+1+1) d);obtain⟨h0,h1,h2,h3,h4,h5,hb⟩:=G.out;have B0:=h0.fillFar (b:=(w.heap.size+1+1+1+1+1)) (n:=d) (by omega);have B1:=h1.fillFar (b:=(w.heap.size+1+1+1+1+1)) (n:=d) (by omega);have B2:=h2.fillFar (b:=(w.heap.size+1+1+1+1+1)) (n:=d) (by omega);have B3:=h3.fillFar (b:=(w.heap.size+1+1+1+1+1)) (n:=d) (by omega);have B4:=h4.fillFar (b:=(w.heap.size+1+1+1+1+1)) (n:=d) (by omega);have B5:=h5.fillAt (n:=d);have BB:=Hn (n:=d) hb (b:=(w.heap.size+1+1+1+1+1)) (by omega);clear h0 h1 h2 h3 h4 h5 hb G c5;generalize Gr w6 (w.heap.size+1+1+1+1+1) d=w7 at *;have c5:=clf B5;have G:=H7 B0 B1 B2 B3 B4 B5 BB;have hq1:m/n/2^i%2=1:=by rcases F.out.1 with s|s;exact s.2.1;exact absurd HD.out.2.1 (by omega)
    obtain⟨t1,t2,t3⟩:=F.out.2.1;rw[hq1,Nat.one_mul] at t2;have vt:=MD (lim (Ja (m/n) (i+1)) (i/64)) (i%64) (XH _ _) (Qen _ (by decide)) t1;rw[←t2] at vt;have cq:=Qz B4 (i/64) _ (XR (Ja (m/n) (i+1)) (i/64) (by omega));have fq:=B4.frozen (i/64);have T3:=Lib.hid t3;clear t1 t2 t3 hq1 c5 B0 B1 B2 B3 B4 B5 BB;have il:(i:Int)<256:=by omega
    go_region;obtain⟨h0,h1,h2,h3,h4,h5,hb⟩:=G.out;have hset2:=WT (Ja (m/n) (i+1)) (Ja (m/n) i) (i/64) i4 (fun k hk hne=>T3.out k hk hne);go_wp2;go_roundw
    case rel=>
     have hd0:=HD.out.2.2;rw[hd0] at h5;exact⟨i,by omega,rfl,(h0.far (by omega) _).drew,(h1.far (by omega) _).drew,(h2.far (by omega) _).drew,(h3.far (by omega) _).drew,((h4.set_ (i/64) _).to hset2).drew,(h5.far (by omega) _).drew,(hb.setCell (by simp;omega) _).drew⟩
    case measure=>simp[intOf]
  ·obtain rfl:j=0:=by omega
   rw[Fl] at h4;rw[QfQ,Nat.div_one] at h5;have c4:=clf h4;have c5:=clf h5;have c2:=clz h2;have c3:=clz h3;have G:=Lib.hid hb;have H2:=H2 h2 h3;clear h0 h1 h2 h3 h4 h5 hb;go_wp2;go_region
   all_goals
    go_wp2;refine Qdg (v:=.tuple #[Yt (m/n),Yt (m%n),.bool true]) ?_ rfl ⟨rfl,?_⟩
    ·simp[results,results130,go_sem,Yt,c2,c3]
    ·exact (GX (GX G.out (by omega)) (by omega)).drew
def Rd(w:World)(g off:Nat)(l:List UInt8):Prop:=∀i,i<l.length→w.cell? ⟨g,off+i,none⟩=some (.int .u8 (l.getD i 0).toNat)
theorem Rd.at{w w':World}{g off:Nat}{l:List UInt8}{B:Nat}(h:Rd w g off l)(hb:Below B w w')(hg:g<B)(i:Nat)(hi:i<l.length):w'.cell? ⟨g,off+i,none⟩=some (.int .u8 (l.getD i 0).toNat):=
 (hb.cell (p:=⟨g,off+i,none⟩) hg).trans (h i hi)
end Go.Proofs.YthdaabapiicnhaaGreatDoor
