/- Steps of the proof. -/
import Derived.WalkKit
import Derived.Deep.QuietTactic
import Derived.BigQuiet
import Derived.WalkSpells
import Derived.WalkLawsBesides
import Derived.ChangeKeysEq
import Derived.Test.YthdaabapiicnhaaGreatDoorRows
import Derived.ProofKit
import Derived.OpenShut
import Derived.ShutString
import Derived.ChangeOld
import Derived.Laws.Tables
import Derived.Laws.Rows
import Derived.Laws.CopyOwn
import Derived.Deep.WholeRow
import Derived.Deep.Quiet
import Derived.Deep.RegionHeld3
import Derived.Outline
import Derived.Test.YthdaabapiicnhaaGreatDoorTr00
set_option linter.all false
set_option maxRecDepth 100000
set_option maxHeartbeats 4000000
open Go.Proofs.Tryz
namespace Go.Proofs.YthdaabapiicnhaaGreatDoor
def Dw(l:List Nat):Nat:=l.foldl (fun m t=>m||| 2^t) 0
theorem Bt(l:List Nat):∀(m t:Nat),(l.foldl (fun m t=>m||| 2^t) m).testBit t=true↔m.testBit t=true∨t∈l:=by
 induction l with
 | nil=>intro m t;simp
 | cons x l ih=>
  intro m t;rw[Qf8,ih,QfE,Nat.testBit_two_pow];simp only[Qex,QdM,QdW];constructor
  ·rintro ((h|h)|h)
   ·exact .inl h
   ·exact .inr (.inl h.symm)
   ·exact .inr (.inr h)
  ·rintro (h|h|h)
   ·exact .inl (.inl h)
   ·exact .inl (.inr h.symm)
   ·exact .inr h
theorem Dv(l:List Nat)(t:Nat):(Dw l).testBit t=true↔t∈l:=by
 unfold Dw;rw[Bt];simp
def Qr(o:Oper):List Nat:=(o.after.toList.filter fun e=>Region.binds .any e).map (·.on)
theorem BA{a b t:Nat}(h:Nat.beq (a&&& b) 0=true)(ha:a.testBit t=true):b.testBit t=false:=by
 have h0:a&&& b=0:=Qd7 h;have:=congrArg (fun n=>n.testBit t) h0;simp only[Nat.testBit_and,ha,Bool.true_and,Nat.zero_testBit] at this;exact this
end Go.Proofs.YthdaabapiicnhaaGreatDoor
namespace Go.Proofs.YthdaabapiicnhaaGreatDoor
open Go.RowKit
def Blk(w:World)(g:Nat)(t:TypeId)(cs:Array Value):Prop:=w.heap[g]? =some (.cells cs t (0,0))
section
variable {w w':World} {g:Nat} {t:TypeId} {cs:Array Value}
theorem Blk.lt(h:Blk w g t cs):g<w.heap.size:=by
 rcases Qee g w.heap.size with hlt|hge
 ·exact hlt
 ·unfold Blk at h;rw[Qfe hge] at h;cases h
theorem Blk.cell(h:Blk w g t cs)(i:Nat):w.cell? ⟨g,i,none⟩=cs[i]? :=cell_of_row w g i cs t (0,0) h
theorem Blk.frozen(h:Blk w g t cs)(i:Nat):w.frozen? ⟨g,i,none⟩=false:=by
 unfold Blk at h;simp[World.frozen?,h]
theorem Blk.new(w:World)(t:TypeId)(cs:Array Value):Blk (w.alloc (.cells cs t)) w.heap.size t cs:=heap_alloc_new w _
theorem Blk.newAt(w:World)(t:TypeId)(cs:Array Value){n:Nat}(hn:n=w.heap.size):Blk (w.alloc (.cells cs t)) n t cs:=hn▸Blk.new w t cs
theorem Blk.drew(h:Blk w g t cs):Blk w.drew g t cs:=h
theorem Blk.drewN(h:Blk w g t cs)(n:Nat):Blk (w.drewN n) g t cs:=h
theorem Blk.alloc(h:Blk w g t cs)(o:Obj):Blk (w.alloc o) g t cs:=(Below.heap_alloc w o g h.lt).trans h
theorem Blk.set_(h:Blk w g t cs)(i:Nat)(u:Value):Blk (w.setCell ⟨g,i,none⟩ u) g t (cs.setIfInBounds i u):=by
 unfold Blk at h ⊢;simp[World.setCell,QeR,h]
theorem Blk.far(h:Blk w g t cs){b i:Nat}(hp:g≠b)(u:Value):Blk (w.setCell ⟨b,i,none⟩ u) g t cs:=(Below.heap_setCell w ⟨b,i,none⟩ u g hp).trans h
theorem Blk.below{B:Nat}(h:Blk w g t cs)(hb:Below B w w')(hg:g<B):Blk w' g t cs:=(hb.block g hg).trans h
theorem Blk.calls(h:Blk w g t cs)(hb:Below w.heap.size w w'):Blk w' g t cs:=h.below hb h.lt
theorem Blk.to{cs':Array Value}(h:Blk w g t cs)(e:cs=cs'):Blk w g t cs':=e▸h
end
theorem bdN{B:Nat}{a w:World}(h:Below B a w)(n:Nat):Below B a (w.drewN n):=⟨h.os,h.tape,h.output,h.size,h.block⟩
theorem bt{a b c:World}(h:Below a.heap.size a b)(k:Below b.heap.size b c):Below a.heap.size a c:=h.trans (k.mono h.size)
theorem ba{a b:World}(h:Below a.heap.size a b)(o:Obj):Below a.heap.size a (b.alloc o):=h.alloc h.size o
theorem Wg{w:World}{b c i j:Nat}{v u:Value}(h:w.cell? ⟨b,i,none⟩=some u)(hne:b≠c):(w.setCell ⟨c,j,none⟩ v).cell? ⟨b,i,none⟩=some u:=
 (World.cell?_setCell_other w ⟨c,j,none⟩ ⟨b,i,none⟩ v (by intro e;injection e with e1;exact hne e1.symm)).trans h
theorem Wh{k:IntKind}{a b:Int}(h:a=b):Ending.returned (.int k a)= .returned (.int k b):=by rw[h]
section
variable {P:Program} (w:World)
theorem Zx(d:Nat){e:TypeId}(k k':IntKind)(he:P.plainKey e=true)(hu:P.underlying e=some (.int k'))(f g:Nat→Int)(xs ys:Array Value):
  ∀is:List Nat,(∀i,i∈is→xs[i]? =some (.int k (f i))∧ys[i]? =some (.int k (g i)))→(Op.eqItems (d+1) e 1 xs ys is).run P w= .ok (is.all fun i=>f i==g i) w
 | [],_=>by simp[Op.eqItems]
 | i::is,h=>by
  obtain⟨h1,h2⟩:=h i (by simp);have ih:=Zx d k k' he hu f g xs ys is fun j hj=>h j (by simp[hj]);have p1:=run_part_plain (P:=P) w he (off:=i*1) (by rw[Qe2];exact h1);have p2:=run_part_plain (P:=P) w he (off:=i*1) (by rw[Qe2];exact h2);have p3:=run_equalIn_int (P:=P) w d e k k' (f i) (g i) hu;simp only[Op.eqItems,Qdl,p1,p2,p3,Qdi,QfK];cases f i==g i
  ·simp
  ·simp[ih]
theorem Km{t e:TypeId}{n:Nat}{i:TypeInfo}(k k':IntKind)(he:P.plainKey e=true)(hu:P.underlying e=some (.int k'))(ht:P.underlying t=some (.array n e))(hi:P.info? e=some i)(hc:P.cellsOf e=1)
  (f g:Nat→Int) (xs ys:Array Value) (h:∀i,i<n→xs[i]? =some (.int k (f i))∧ys[i]? =some (.int k (g i))) (b:Bool) (hb:((List.range n).all fun i=>f i==g i)=b):
  (Op.equalIn 10000 t (.agg xs) (.agg ys)).run P w= .ok b w:=by
 rw[run_equalIn_array w 9999 xs ys ht hi,hc,Zx w 9998 k k' he hu f g xs ys _ fun i hi=>h i (by simpa using hi),hb]
end
def W64:Nat:=18446744073709551616
def T:Nat:=115792089237316195423570985008687907853269984665640564039457584007913129639936
def lim(n k:Nat):Nat:=n/W64^k%W64
abbrev lv(n k:Nat):Value:=.int .u64 (lim n k)
abbrev Yt(n:Nat):Value:=.agg #[.int .u64 (lim n 0),.int .u64 (lim n 1),.int .u64 (lim n 2),.int .u64 (lim n 3)]
def QX(n:Nat):Array Value:=#[.int .u64 (lim n 0),.int .u64 (lim n 1),.int .u64 (lim n 2),.int .u64 (lim n 3)]
abbrev Cl(w:World)(g n:Nat):Prop:=w.cell? ⟨g,0,none⟩=some (.int .u64 (lim n 0))∧w.cell? ⟨g,1,none⟩=some (.int .u64 (lim n 1))∧w.cell? ⟨g,2,none⟩=some (.int .u64 (lim n 2))∧w.cell? ⟨g,3,none⟩=some (.int .u64 (lim n 3))
theorem cl4{w:World}{g:Nat}{t:TypeId}{n:Nat}(h:Blk w g t (QX n)):w.cell? ⟨g,0,none⟩=some (.int .u64 (lim n 0))∧w.cell? ⟨g,1,none⟩=some (.int .u64 (lim n 1))∧w.cell? ⟨g,2,none⟩=some (.int .u64 (lim n 2))∧w.cell? ⟨g,3,none⟩=some (.int .u64 (lim n 3)):=⟨h.cell 0,h.cell 1,h.cell 2,h.cell 3⟩
abbrev Vz:Array Value:=#[.int .u64 0,.int .u64 0,.int .u64 0,.int .u64 0]
theorem clz{w:World}{g:Nat}{t:TypeId}(h:Blk w g t Vz):w.cell? ⟨g,0,none⟩=some (.int .u64 0)∧w.cell? ⟨g,1,none⟩=some (.int .u64 0)∧w.cell? ⟨g,2,none⟩=some (.int .u64 0)∧w.cell? ⟨g,3,none⟩=some (.int .u64 0)∧
  w.frozen? ⟨g,0,none⟩=false∧w.frozen? ⟨g,1,none⟩=false∧w.frozen? ⟨g,2,none⟩=false∧w.frozen? ⟨g,3,none⟩=false:=
 ⟨h.cell 0,h.cell 1,h.cell 2,h.cell 3,h.frozen 0,h.frozen 1,h.frozen 2,h.frozen 3⟩
theorem GX{w0 w:World}{b n B:Nat}(h:Below B w0 w)(hb:B≤b):
  Below B w0 ((((w.setCell ⟨b,0,none⟩ (.int .u64 (lim n 0))).setCell ⟨b,1,none⟩ (.int .u64 (lim n 1))).setCell ⟨b,2,none⟩ (.int .u64 (lim n 2))).setCell ⟨b,3,none⟩ (.int .u64 (lim n 3))):=
 (((h.setCell hb _).setCell hb _).setCell hb _).setCell hb _
theorem Blk.fill{w:World}{g:Nat}{t:TypeId}{cs:Array Value}{n:Nat}(h:Blk w g t cs)(hs:cs.size=4):
  Blk ((((w.setCell ⟨g,0,none⟩ (.int .u64 (lim n 0))).setCell ⟨g,1,none⟩ (.int .u64 (lim n 1))).setCell ⟨g,2,none⟩ (.int .u64 (lim n 2))).setCell ⟨g,3,none⟩ (.int .u64 (lim n 3))) g t (QX n):=by
 refine ((((h.set_ 0 _).set_ 1 _).set_ 2 _).set_ 3 _).to ?_
 match cs,hs with
 | ⟨[a,b,c,d]⟩,_=>rfl
theorem XR(n k:Nat)(h:k<4):(QX n)[k]? =some (lv n k):=by
 rcases (show k=0∨k=1∨k=2∨k=3 from by omega) with rfl|rfl|rfl|rfl <;> rfl
theorem Vs:0<W64:=by decide
theorem T_eq:T=W64^4:=by decide
theorem XH(n k:Nat):lim n k<W64:=Qen _ Vs
def outs(s k:Nat):Array Value:=#[if 0<k then lv s 0 else .int .u64 0,if 1<k then lv s 1 else .int .u64 0,if 2<k then lv s 2 else .int .u64 0,if 3<k then lv s 3 else .int .u64 0]
theorem RW(s k:Nat)(h:k<4):(outs s k).setIfInBounds k (.int .u64 (lim s k))=outs s (k+1):=by
 rcases (show k=0∨k=1∨k=2∨k=3 from by omega) with rfl|rfl|rfl|rfl <;> simp[outs]
theorem Eo(s k j:Nat)(h:j<4):∃v,(outs s k)[j]? =some v:=by
 rcases (show j=0∨j=1∨j=2∨j=3 from by omega) with rfl|rfl|rfl|rfl <;> exact⟨_,rfl⟩
theorem Tm(s:Nat):outs s 4=QX s:=by simp[outs,QX]
theorem Et(n k:Nat)(h:k<4):lim (n%T) k=lim n k:=by
 unfold lim;rw[T_eq];have h4:W64^4=W64^k*W64^(4-k):=by rw[←QeL];congr 1;omega
 rw[h4,Qfk];have h5:W64^(4-k)=W64*W64^(4-k-1):=by rw[←Qfs];congr 1;omega
 rw[h5,QfP]
theorem Gg(n:Nat)(h:n<T):n=lim n 0+W64*(lim n 1+W64*(lim n 2+W64*lim n 3)):=by
 unfold lim T at *;unfold W64;omega
theorem Qc6(a0 a1 a2 a3:Nat)(h0:a0<W64)(h1:a1<W64)(h2:a2<W64)(h3:a3<W64):
  lim (a0+W64*(a1+W64*(a2+W64*a3))) 0=a0∧lim (a0+W64*(a1+W64*(a2+W64*a3))) 1=a1∧lim (a0+W64*(a1+W64*(a2+W64*a3))) 2=a2∧lim (a0+W64*(a1+W64*(a2+W64*a3))) 3=a3∧
   a0+W64*(a1+W64*(a2+W64*a3))<T:=by
 unfold lim T at *;unfold W64 at *;refine⟨?_,?_,?_,?_,?_⟩ <;> omega
theorem Sp(m n:Nat)(hm:m<T)(hn:n<T)(h:∀k,k<4→lim m k=lim n k):m=n:=by
 rw[Gg m hm,Gg n hn,h 0 (by omega),h 1 (by omega),h 2 (by omega),h 3 (by omega)]
theorem MA(m n:Nat)(hm:m<T)(hn:n<T)(b:Bool)(h:decide (m=n)=b):((List.range 4).all fun i=>((lim m i:Nat):Int)==(lim n i:Int))=b:=by
 rw[←h,QeE];simp only[QdG,QeA,beq_iff_eq,QdM];constructor
 ·intro H;exact Sp m n hm hn fun k hk=>by have:=H k hk;omega
 ·rintro rfl i _;rfl
def cry(m n k:Nat):Nat:=(m%W64^k+n%W64^k)/W64^k
theorem Bo(m n:Nat):cry m n 0=0:=by simp[cry,Nat.mod_one]
theorem JE(k:Nat):0<W64^k:=Nat.pow_pos Vs
theorem Dk(m n k:Nat):cry m n k≤1:=by
 unfold cry;have h1:=Qen m (JE k);have h2:=Qen n (JE k);generalize W64^k=A at *;have:(m%A+n%A)/A<2:=by
  rw[Nat.div_lt_iff_lt_mul (by omega)];omega
 omega
theorem Bp(m n k:Nat):lim m k+lim n k+cry m n k=lim (m+n) k+W64*cry m n (k+1):=by
 unfold cry lim;have hA:=JE k;have hX:=Vs;have e0:(m+n)/W64^k=m/W64^k+n/W64^k+if W64^k≤m%W64^k+n%W64^k then 1 else 0:=Nat.add_div hA
 rw[QfC,Nat.mod_mul,Nat.mod_mul,e0];clear e0;generalize W64^k=A at *;generalize W64=X at *;have hc:(if A≤m%A+n%A then 1 else 0)=(m%A+n%A)/A:=by
  have h1:=Qen m hA;have h2:=Qen n hA;split
  ·rw[Nat.div_eq_of_lt_le (k:=1) (by omega) (by omega)]
  ·rw[QeF (by omega)]
 rw[hc];have hs:m%A+A*(m/A%X)+(n%A+A*(n/A%X))=(m%A+n%A)+A*(m/A%X+n/A%X):=by rw[Nat.mul_add];omega
 rw[hs,←Qef,Qfm _ _ hA];generalize (m%A+n%A)/A=c at *;generalize m/A=p at *;generalize n/A=q at *;have e:(p+q+c)%X=(c+(p%X+q%X))%X:=by
  rw[show p+q+c=c+(p+q) by omega,Nat.add_mod c (p+q),Nat.add_mod p q,←Nat.add_mod c]
 rw[e];have:=Qft (c+(p%X+q%X)) X;omega
theorem Bq(m n:Nat)(hm:m<T)(hn:n<T):cry m n 4=(m+n)/T:=by
 unfold cry;rw[←T_eq,Qez hm,Qez hn]
end Go.Proofs.YthdaabapiicnhaaGreatDoor
namespace Go.Proofs.YthdaabapiicnhaaGreatDoor
open Go.ChangeShapes Go.WideShapes Go.ChangeAt Go.RowKit
theorem own:ownKnob prog.godebug=none:=by kernel_rfl
theorem Ew:laidOutB prog=true:=by kernel_rfl
end Go.Proofs.YthdaabapiicnhaaGreatDoor
namespace Go.Proofs.YthdaabapiicnhaaGreatDoor
open Go.RowKit
section
variable {P:Program} {w w':World} {g:Nat} {t:TypeId} {cs:Array Value}
theorem Blk.row(h:Blk w g t cs)(c:Array Value):Blk (w.setRow g c) g t c:=by
 unfold Blk at h ⊢;have hl:=h;simp[World.setRow,QeR,h]
theorem Blk.rowFar(h:Blk w g t cs){b:Nat}(hp:g≠b)(c:Array Value):Blk (w.setRow b c) g t cs:=by
 unfold Blk at h ⊢;simp[World.setRow,QeR,h,Ne.symm hp]
theorem PY{ops:Array Oper}{rest:List Oper}{o:Oper}{a:Act}{Q:Exit→Act→World→Prop}(h:Blk w g t cs)(ty:TypeId)(x:Operand)(hgd:o.guard=none)(ho:o.op= .load ty x)
  (hx:a.eval x= .pointer (some ⟨g,0,none⟩)) (n:Nat) (e:TypeId)
  (hu:P.underlying ty=some (.array n e)) (hi:(P.info? ty).map (·.size)=some cs.size)
  (k:wpList P ops Q rest (a.put o.dst (.agg cs)) w):wpList P ops Q (o::rest) a w:=
 wpList_load_row hgd ty x ho g hx t cs (0,0) _ h hu rfl hi k
theorem Ql{ops:Array Oper}{rest:List Oper}{o:Oper}{a:Act}{Q:Exit→Act→World→Prop}(h:Blk w g t cs)(ty:TypeId)(x y:Operand)(c:Array Value)(hgd:o.guard=none)(ho:o.op= .store ty x y)
  (hx:a.eval x= .pointer (some ⟨g,0,none⟩)) (hy:a.eval y= .agg c)
  (hi:(P.info? ty).map (·.size)=some c.size) (hs:cs.size=c.size) (h1:c.all (·.oneCell')=true)
  (k:wpList P ops Q rest (a.put o.dst undef) (w.setRow g c)):wpList P ops Q (o::rest) a w:=
 wpList_store_row hgd ty x y ho g c hx hy t cs h hi hs h1 k
theorem FU{e:TypeId}{n i:Nat}{ie:TypeInfo}{v:Value}{k:IntKind}(he:P.plainKey e=true)(ht:P.underlying t=some (.array n e))(hi:P.info? e=some ie)(h1:ie.size=1)(hn:i<n)(hv:cs[i]? =some v)(w:World):
  (Instr.index t (.agg cs) (.int k i)).run P w= .ok v w:=by
 have ha:(isAgg e).run P w= .ok false w:=by
  unfold Program.plainKey at he;cases hu:P.underlying e with
  | none=>simp[hu] at he
  | some d=>cases d <;> simp[hu] at he <;> simp[isAgg,Qd6 hu]
 have b:(0:Int)≤(i:Int)∧(i:Int)<(n:Int):=by omega
 simp[Instr.index,Qd6 ht,asIntOf,b,go_sem,sizeOf,typeInfo,hi,h1,hn,ha,hv]
end
theorem WP(p q:Nat→Bool)(h:∀j,q j=true→p j=true):∀l:List Nat,(l.filter q).length≤(l.filter p).length
 | []=>Qde _
 | x::l=>by
  have ih:=WP p q h l;simp only[List.filter_cons];cases hq:q x with
  | true=>rw[h x hq];simpa using ih
  | false=>
   cases hp:p x
   ·simpa using ih
   ·simp;omega
theorem WO(p q:Nat→Bool)(h:∀j,q j=true→p j=true)(i:Nat)(hp:p i=true)(hq:q i=false):∀l:List Nat,i∈l→(l.filter q).length<(l.filter p).length
 | [],hi=>by cases hi
 | x::l,hi=>by
  have le:=WP p q h l;simp only[List.filter_cons];rcases QdW.1 hi with rfl|hi
  ·rw[hp,hq];simp;omega
  ·have ih:=WO p q h i hp hq l hi;cases hx:q x with
   | true=>rw[h x hx];simpa using ih
   | false=>
    cases hp':p x
    ·simpa using ih
    ·simp;omega
def unl(n:Nat)(listed:Array Bool):Nat:=((List.range n).filter fun i=>!listed.getD i true).length
section
variable {P:Program} {ops:Array Oper} {Q:Exit→Act→World→Prop}
theorem ZU(Inv:Array Bool→Act→World→Prop)
  (hs:∀listed a w i,Inv listed a w→i∈Region.ready .any ops listed→wpOp P ops Q i (Inv (listed.setIfInBounds i true)) a w)
  (he:∀listed a w,Inv listed a w→Region.ready .any ops listed=[]→Q .normal a w):
  ∀(fuel:Nat) (listed:Array Bool) (a:Act) (w:World),unl ops.size listed≤fuel→Inv listed a w→wpAny P .any ops Q fuel listed a w:=by
 intro fuel;induction fuel with
 | zero=>
  intro listed a w hf hi;have hr:Region.ready .any ops listed=[]:=by
   apply List.eq_nil_iff_forall_not_mem.2;intro j hj;obtain⟨h0,o,ho,_⟩:=mem_ready.1 hj;have hlt:j<ops.size:=(QdQ.1 ho).1;have hm:j∈(List.range ops.size).filter fun i=>!listed.getD i true:=Qey.2 ⟨QeA.2 hlt,by rw[h0];rfl⟩;unfold unl at hf;have:=List.length_pos_of_mem hm;omega
  exact⟨hr,he _ _ _ hi hr⟩
 | succ fuel ih=>
  intro listed a w hf hi;refine⟨fun hr=>he _ _ _ hi hr,fun i hr=>wpOp_mono (fun a' w' h'=>ih _ a' w' ?_ h') (hs listed a w i hi hr)⟩;obtain⟨h0,o,ho,_⟩:=mem_ready.1 hr;have hlt:i<ops.size:=(QdQ.1 ho).1;have hsz:i<listed.size:=by
   rcases Qee i listed.size with h|h
   ·exact h
   ·simp[Qfe h] at h0
  have:=WO (fun i=>!listed.getD i true) (fun j=>!(listed.setIfInBounds i true).getD j true) (fun j hj=>by
   by_cases e:i=j
   ·subst e;simp[hsz] at hj
   ·rw[getD_set_ne true e] at hj;exact hj) i (by rw[h0];rfl) (by simp[hsz]) (List.range ops.size) (QeA.2 hlt)
  unfold unl at hf ⊢;omega
end
def Fr(v:Nat→Value)(L:Nat→Bool):List (Option Tmp)→Nat→Act→Act
 | [],_,a=>a
 | d::r,k,a=>Fr v L r (k+1) (if L k then a.put d (v k) else a)
def Js(d e:Option Tmp):Bool:=match d,e with|some x,some y=>x != y|_,_=>true
def Y9:List (Option Tmp)→Bool
 | []=>true
 | d::r=>r.all (Js d)&&Y9 r
theorem Mv{d e:Option Tmp}(h:Js d e=true)(a:Act)(x y:Value):(a.put d x).put e y=(a.put e y).put d x:=by
 cases d <;> cases e <;> simp[Act.put];rename_i p q;have:p≠q:=by simpa[Js] using h
 exact Array.setIfInBounds_comm _ _ this
theorem DZ(v:Nat→Value)(L:Nat→Bool)(d:Option Tmp)(x:Value):∀(r:List (Option Tmp)) (k:Nat) (a:Act),r.all (Js d)=true→Fr v L r k (a.put d x)=(Fr v L r k a).put d x
 | [],_,_,_=>rfl
 | e::r,k,a,h=>by
  simp only[QfK,Qdo] at h;unfold Fr;cases hk:L k
  ·simp only[QdN,QdV];exact DZ v L d x r (k+1) a h.2
  ·simp only[QdC];rw[Mv h.1,DZ v L d x r (k+1) _ h.2]
theorem Xo(v v':Nat→Value)(L L':Nat→Bool):∀(r:List (Option Tmp)) (k:Nat) (a:Act),(∀j,k≤j→j<k+r.length→L j=L' j∧(L j=true→v j=v' j))→Fr v L r k a=Fr v' L' r k a
 | [],_,_,_=>rfl
 | d::r,k,a,h=>by
  unfold Fr;obtain⟨h1,h2⟩:=h k (Qde _) (by simp);rw[←h1];cases hk:L k
  ·simp only[QdN,QdV];exact Xo v v' L L' r (k+1) a fun j hj hj2=>h j (by omega) (by simp;omega)
  ·simp only[QdC];rw[h2 hk];exact Xo v v' L L' r (k+1) _ fun j hj hj2=>h j (by omega) (by simp;omega)
def onL(L:Nat→Bool)(i:Nat):Nat→Bool:=fun j=>L j||j==i
theorem P2(v:Nat→Value)(L:Nat→Bool)(i:Nat)(hL:L i=false):∀(r:List (Option Tmp)) (k:Nat) (a:Act) (d:Option Tmp),Y9 r=true→k≤i→r[i-k]? =some d→Fr v (onL L i) r k a=(Fr v L r k a).put d (v i)
 | [],_,_,_,_,_,h=>by simp at h
 | e::r,k,a,d,hn,hk,h=>by
  simp only[Y9,Qdo] at hn;unfold Fr;by_cases he:k=i
  ·subst he;have hd:e=d:=by simpa using h
   subst hd;have h1:onL L k k=true:=by simp[onL]
   rw[h1,hL];simp only[QdC,QdN,QdV];rw[DZ v _ e _ r (k+1) a hn.1];congr 1;exact Xo v v _ _ r (k+1) a fun j hj _=>⟨by simp[onL];omega,fun _=>rfl⟩
  ·have h1:onL L i k=L k:=by simp[onL,he]
   rw[h1];refine P2 v L i hL r (k+1) _ d hn.2 (by omega) ?_;rw[show i-k=(i-(k+1))+1 by omega,Qd2] at h;exact h
theorem HG(a:Act)(d:Option Tmp)(x:Value):(a.put d x).tmps.size=a.tmps.size:=by cases d <;> simp[Act.put]
theorem Kq(a:Act)(d:Option Tmp)(x:Value):(a.put d x).defers=a.defers:=by cases d <;> rfl
theorem Tj(a:Act)(d:Option Tmp)(x:Value)(t:Tmp)(h:Js d (some t)=true):(a.put d x).tmps.getD t undef=a.tmps.getD t undef:=by
 cases d with
 | none=>rfl
 | some p=>
  have:p≠t:=by simpa[Js] using h
  simp[Act.put,Array.getElem?_setIfInBounds_ne this]
theorem RN(a:Act)(x:Value)(t:Tmp)(h:t<a.tmps.size):(a.put (some t) x).tmps.getD t undef=x:=by simp[Act.put,h]
theorem ZL(v:Nat→Value)(L:Nat→Bool)(t:Tmp):∀(r:List (Option Tmp)) (k:Nat) (a:Act),(r.all fun d=>Js d (some t))=true→(Fr v L r k a).tmps.getD t undef=a.tmps.getD t undef
 | [],_,_,_=>rfl
 | e::r,k,a,h=>by
  simp only[QfK,Qdo] at h;unfold Fr;rw[ZL v L t r (k+1) _ h.2];cases L k
  ·rfl
  ·simp only[QdC];exact Tj a e _ t h.1
theorem Z6(v:Nat→Value)(L:Nat→Bool)(t:Tmp)(j:Nat)(hL:L j=true):∀(r:List (Option Tmp)) (k:Nat) (a:Act),Y9 r=true→k≤j→r[j-k]? =some (some t)→t<a.tmps.size→(Fr v L r k a).tmps.getD t undef=v j
 | [],_,_,_,_,h,_=>by simp at h
 | e::r,k,a,hn,hk,h,ht=>by
  simp only[Y9,Qdo] at hn;unfold Fr;by_cases he:k=j
  ·subst he;have hd:e=some t:=by simpa using h
   subst hd;rw[hL];simp only[QdC];rw[ZL v L t r (k+1) _ ?_,RN _ _ _ ht];have:=hn.1;simp only[QdG] at this ⊢;intro d hd;have h1:=this d hd;cases d with
   | none=>rfl
   | some q=>simp[Js] at h1 ⊢;exact fun e=>h1 e.symm
  ·refine Z6 v L t j hL r (k+1) _ hn.2 (by omega) ?_ ?_
   ·rw[show j-k=(j-(k+1))+1 by omega,Qd2] at h;exact h
   ·cases L k <;> simp[HG,ht]
def StepAll(R:Nat→Oper→Prop):Nat→List Oper→Prop
 | _,[]=>True
 | k,o::r=>R k o∧StepAll R (k+1) r
theorem StepAll.at{R:Nat→Oper→Prop}:∀{l:List Oper} {k:Nat},StepAll R k l→∀i o,l[i]? =some o→R (k+i) o
 | [],_,_,i,o,h=>by simp at h
 | x::l,k,hs,i,o,h=>by
  unfold StepAll at hs;cases i with
  | zero=>
       have:x=o:=by simpa using h
       subst this;exact hs.1
  | succ i=>
   rw[Qd2] at h;have:=hs.2.at i o h;rw[show k+1+i=k+(i+1) by omega] at this;exact this
def ordGo:Nat→List Oper→Bool
 | _,[]=>true
 | k,o::r=>(Qr o).all (fun j=>Nat.blt j k)&&ordGo (k+1) r
theorem ordGo.at:∀{l:List Oper} {k:Nat},ordGo k l=true→∀i o,l[i]? =some o→∀j∈Qr o,j<k+i
 | [],_,_,i,o,h=>by simp at h
 | x::l,k,hs,i,o,h=>by
  simp only[ordGo,Qdo] at hs;cases i with
  | zero=>
   have:x=o:=by simpa using h
   subst this;intro j hj;have:=QdG.1 hs.1 j hj;simpa using this
  | succ i=>
   rw[Qd2] at h;intro j hj;have:=ordGo.at hs.2 i o h j hj;omega
theorem Z7{P:Program}{Q:Exit→Act→World→Prop}{Γ:Type}{id:Nat}{l:List Oper}{a:Act}{w:World}(dsts:List (Option Tmp))(v:Γ→Nat→Value)(I:Γ→(Nat→Bool)→World→Prop)
  (hm:P.follows .mixedOrders=true) (hds:l.map (·.dst)=dsts) (hnd:Y9 dsts=true) (hng:(l.all fun o=>o.guard.isNone)=true) (hord:ordGo 0 l=true) (γ0:Γ) (h0:I γ0 (fun _=>false) w.drew)
  (step:StepAll (fun i o=>∀γ L w',I γ L w'→L i=false→(∀j∈Qr o,L j=true)→
   o.wp P (Fr (v γ) L dsts 0 a) w' (fun a' w''=>∃γ',(∀j,L j=true→v γ' j=v γ j)∧a'=(Fr (v γ) L dsts 0 a).put o.dst (v γ' i)∧I γ' (onL L i) w'') Q) 0 l)
  (fin:∀γ L w',(∀i,i<l.length→L i=true)→I γ L w'→Q .normal (Fr (v γ) (fun _=>true) dsts 0 a) w'):(Code.region id l.toArray true).wp P Q a w:=by
 refine wp_region_any hm ?_;refine ZU (fun listed a' w'=>listed.size=l.length∧∃γ,a'=Fr (v γ) (fun j=>listed.getD j false) dsts 0 a∧I γ (fun j=>listed.getD j false) w') ?_ ?_ l.toArray.size _ _ _ ?_ ?_
 ·rintro listed a' w' i ⟨hsz,γ,rfl,hI⟩ hr;obtain⟨h0,o,ho,hall⟩:=mem_ready.1 hr;have ho':l[i]? =some o:=by simpa using ho
  have hlt:i<l.length:=(Qdt.1 ho').1;have hgd:o.guard=none:=by
   have:=QdG.1 hng o (QdT ho');simpa using this
  have hLi:listed.getD i false=false:=by
   have:i<listed.size:=by omega
   simp[this] at h0 ⊢;exact h0
  have st:=step.at i o ho';simp only[Qd5] at st;have st':=st γ _ w' hI hLi (fun j hj=>by
   obtain⟨e,he1,he2⟩:=QdZ.1 hj;obtain⟨he3,he4⟩:=Qey.1 he1;rw[←he2];exact hall e (by simpa using he3) (by simpa using he4))
  unfold wpOp;rw[ho];have hw:Region.wanted o (yielded l.toArray (Fr (v γ) (fun j=>listed.getD j false) dsts 0 a).tmps)=true:=by simp[Region.wanted,hgd]
  simp only[hw,QdC];left;refine Oper.wp_mono ?_ st';rintro a'' w'' ⟨γ',hv,rfl,hI'⟩;have hon:(fun j=>(listed.setIfInBounds i true).getD j false)=onL (fun j=>listed.getD j false) i:=by
   funext j;have hi:i<listed.size:=by omega
   unfold onL;by_cases e:j=i
   ·subst e;simp[hi]
   ·rw[getD_set_ne false (Ne.symm e)];simp[e]
  have hd:dsts[i]? =some o.dst:=by rw[←hds,QdI,ho'];rfl
  refine⟨by simpa using hsz,γ',?_,by rw[hon];exact hI'⟩;rw[hon,P2 (v γ') _ i hLi dsts 0 a o.dst hnd (Qdw _) (by simpa using hd)];congr 1;exact Xo _ _ _ _ dsts 0 a fun j _ _=>⟨rfl,fun hj=>(hv j hj).symm⟩
 ·rintro listed a' w' ⟨hsz,γ,rfl,hI⟩ hr;have hall:∀n i,i<n→i<l.length→listed.getD i false=true:=by
   intro n;induction n with
   | zero=>intro i hi;omega
   | succ n ih=>
    intro i hin hi;cases hL:listed.getD i false with
    | true=>rfl
    | false=>
     exfalso;have hmem:i∈Region.ready .any l.toArray listed:=by
      refine mem_ready.2 ⟨?_,l[i],by simp[hi],fun e he hb=>?_⟩
      ·have:i<listed.size:=by omega
       simp[this] at hL ⊢;exact hL
      ·have hlt:=ordGo.at hord i l[i] (by simp[hi]) e.on (QdZ.2 ⟨e,Qey.2 ⟨by simpa using he,by simpa using hb⟩,rfl⟩);exact ih e.on (by omega) (by omega)
     rw[hr] at hmem;cases hmem
  have hlen:dsts.length=l.length:=by rw[←hds,QdA]
  have e:Fr (v γ) (fun j=>listed.getD j false) dsts 0 a=Fr (v γ) (fun _=>true) dsts 0 a:=
   Xo _ _ _ _ dsts 0 a fun j _ hj=>⟨hall (j+1) j (by omega) (by omega),fun _=>rfl⟩
  rw[e];exact fin γ _ w' (fun i hi=>hall (i+1) i (by omega) hi) hI
 ·unfold unl;exact Qdx (QeS _ _) (by simp)
 ·refine⟨by simp,γ0,?_,?_⟩
  ·have:∀(r:List (Option Tmp)) (k:Nat),Fr (v γ0) (fun j=>(Array.replicate l.toArray.size false).getD j false) r k a=a:=by
    intro r;induction r with
    | nil=>intro k;rfl
    | cons d r ih=>
     intro k;unfold Fr;have e:(Array.replicate l.toArray.size false).getD k false=false:=by
      simp only[QdK,Qeg];split <;> rfl
     rw[e];exact ih (k+1)
   exact (this dsts 0).symm
  ·have e:(fun j=>(Array.replicate l.toArray.size false).getD j false)=fun _=>false:=by
    funext j;simp only[QdK,Qeg];split <;> rfl
   rw[e];exact h0
theorem GO{α β:Type}{f:α→β}{l:List α}(h:(l.map f).Nodup){x y:α}(hx:x∈l)(hy:y∈l)(e:f x=f y):x=y:=by
 induction l with
 | nil=>cases hx
 | cons a l ih=>
  rw[List.map_cons,List.nodup_cons] at h;rcases QdW.1 hx with hx|hx <;> rcases QdW.1 hy with hy|hy
  ·rw[hx,hy]
  ·exact absurd (QdZ.2 ⟨y,hy,by rw[←e,hx]⟩) h.1
  ·exact absurd (QdZ.2 ⟨x,hx,by rw[e,hy]⟩) h.1
  ·exact ih h.2 hx hy
def Qbl(γ:Nat→Nat)(i n:Nat):Nat→Nat:=fun j=>if j=i then n else γ j
theorem Ww(γ:Nat→Nat)(i n:Nat):Qbl γ i n i=n:=Qdm rfl
theorem Wx(γ:Nat→Nat){i j:Nat}(n:Nat)(h:¬j=i):Qbl γ i n j=γ j:=Qdf h
structure NB where
 al:Nat
 st:Nat
 t:TypeId
 z:Array Value
 c:Array Value
def NewI(B:Nat)(w0:World)(nbs:List NB)(γ:Nat→Nat)(L:Nat→Bool)(w:World):Prop:=
 Below B w0 w∧(∀b∈nbs,(L b.st=true→L b.al=true)∧(L b.al=true→B≤γ b.al∧Blk w (γ b.al) b.t (if L b.st then b.c else b.z)))∧
  ∀b∈nbs,∀c∈nbs,L b.al=true→L c.al=true→γ b.al=γ c.al→b.al=c.al
def KQ(nbs:List NB)(i:Nat):Bool:=nbs.any (·.al==i)
def Qbe(nbs:List NB)(i:Nat):Bool:=nbs.any (·.st==i)
def vN(nbs:List NB)(vals:Nat→Value)(γ:Nat→Nat)(i:Nat):Value:=if KQ nbs i then .pointer (some ⟨γ i,0,none⟩) else vals i
theorem Yc{L:Nat→Bool}{i j:Nat}(h:j≠i):onL L i j=L j:=by simp[onL,h]
theorem ZD{L:Nat→Bool}{i:Nat}:onL L i i=true:=by simp[onL]
section
variable {B:Nat} {w0 w w':World} {nbs:List NB} {γ:Nat→Nat} {L:Nat→Bool} {i:Nat}
theorem Su(h:KQ nbs i=false){b:NB}(hb:b∈nbs):b.al≠i:=fun e=>by
 have:KQ nbs i=true:=Qfo.2 ⟨b,hb,by simp[e]⟩;rw[h] at this;cases this
theorem Qbd(h:Qbe nbs i=false){b:NB}(hb:b∈nbs):b.st≠i:=fun e=>by
 have:Qbe nbs i=true:=Qfo.2 ⟨b,hb,by simp[e]⟩;rw[h] at this;cases this
theorem NewI.quiet(h:NewI B w0 nbs γ L w)(hB:B≤w0.heap.size)(ha:KQ nbs i=false)(hs:Qbe nbs i=false)(hb:Below w.heap.size w w'):NewI B w0 nbs γ (onL L i) w':=by
 obtain⟨h1,h2,h3⟩:=h;refine⟨h1.trans (hb.mono (Qdx hB h1.size)),fun b hm=>?_,fun b hm c hc k1 k2=>?_⟩
 ·rw[Yc (Su ha hm),Yc (Qbd hs hm)];obtain⟨g1,g2⟩:=h2 b hm;exact⟨g1,fun k=>⟨(g2 k).1,(g2 k).2.calls hb⟩⟩
 ·rw[Yc (Su ha hm)] at k1;rw[Yc (Su ha hc)] at k2;exact h3 b hm c hc k1 k2
theorem NewI.alloc(h:NewI B w0 nbs γ L w)(hnd:(nbs.map (·.al)++nbs.map (·.st)).Nodup)(hB:B≤w0.heap.size){b:NB}(hm:b∈nbs)(hi:b.al=i)(hL:L i=false):
  NewI B w0 nbs (Qbl γ i w.heap.size) (onL L i) (w.alloc (.cells b.z b.t)):=by
 obtain⟨h1,h2,h3⟩:=h;have hsz:B≤w.heap.size:=Qdx hB h1.size;have hal:∀c∈nbs,c.al=i→c=b:=fun c hc e=>by
  have h4:=(Qfx.1 hnd).1;exact GO h4 hc hm (e.trans hi.symm)
 have hst:∀c∈nbs,c.st≠i:=fun c hc e=>by
  have h4:=(Qfx.1 hnd).2.2;exact h4 b.al (QdZ.2 ⟨b,hm,rfl⟩) c.st (QdZ.2 ⟨c,hc,rfl⟩) (hi.trans e.symm)
 refine⟨h1.alloc hsz _,fun c hc=>?_,fun c hc d hd k1 k2=>?_⟩
 ·rw[Yc (hst c hc)];by_cases e:c.al=i
  ·obtain rfl:=hal c hc e;rw[e,ZD,Ww];have hs:L c.st=false:=by
    cases hs:L c.st with
    | false=>rfl
    | true=>have:=(h2 c hc).1 hs;rw[e,hL] at this;cases this
   rw[hs];exact⟨fun k=>(by cases k),fun _=>⟨hsz,Blk.new w c.t c.z⟩⟩
  ·rw[Yc e,Wx _ _ e];obtain⟨g1,g2⟩:=h2 c hc;exact⟨g1,fun k=>⟨(g2 k).1,(g2 k).2.alloc _⟩⟩
 ·by_cases e1:c.al=i
  ·by_cases e2:d.al=i
   ·intro _;exact e1.trans e2.symm
   ·rw[e1,Ww,Wx _ _ e2];rw[Yc e2] at k2;have:=((h2 d hd).2 k2).2.lt;intro e;omega
  ·by_cases e2:d.al=i
   ·rw[e2,Ww,Wx _ _ e1];rw[Yc e1] at k1;have:=((h2 c hc).2 k1).2.lt;intro e;omega
   ·rw[Wx _ _ e1,Wx _ _ e2];rw[Yc e1] at k1;rw[Yc e2] at k2;exact h3 c hc d hd k1 k2
theorem Qb{g:Nat}(h:Below B w0 w)(hg:B≤g)(c:Array Value):Below B w0 (w.setRow g c):=
 h.trans ⟨rfl,rfl,rfl,by simp[World.setRow],fun k hk=>by simp[World.setRow,QeR,show g≠k by omega]⟩
theorem NewI.store(h:NewI B w0 nbs γ L w)(hnd:(nbs.map (·.al)++nbs.map (·.st)).Nodup){b:NB}(hm:b∈nbs)(hi:b.st=i)(hL:L i=false)(hal:L b.al=true):
  Blk w (γ b.al) b.t b.z∧NewI B w0 nbs γ (onL L i) (w.setRow (γ b.al) b.c):=by
 obtain⟨h1,h2,h3⟩:=h;obtain⟨g1,g2⟩:=h2 b hm;obtain⟨g3,g4⟩:=g2 hal;have hst:∀c∈nbs,c.st=i→c=b:=fun c hc e=>by
  have h4:=(Qfx.1 hnd).2.1;exact GO h4 hc hm (e.trans hi.symm)
 have hali:∀c∈nbs,c.al≠i:=fun c hc e=>by
  have h4:=(Qfx.1 hnd).2.2;exact h4 c.al (QdZ.2 ⟨c,hc,rfl⟩) b.st (QdZ.2 ⟨b,hm,rfl⟩) (e.trans hi.symm)
 rw[hi,hL] at g4;refine⟨g4,Qb h1 g3 _,fun c hc=>?_,fun c hc d hd k1 k2=>?_⟩
 ·rw[Yc (hali c hc)];by_cases e:c.st=i
  ·obtain rfl:=hst c hc e;rw[e,ZD];exact⟨fun _=>hal,fun _=>⟨g3,g4.row _⟩⟩
  ·rw[Yc e];obtain⟨p1,p2⟩:=h2 c hc;refine⟨p1,fun k=>⟨(p2 k).1,(p2 k).2.rowFar (fun hh=>?_) _⟩⟩;have h5:=h3 c hc b hm k hal hh;have h6:=(Qfx.1 hnd).1;exact e ((GO h6 hc hm h5)▸hi)
 ·rw[Yc (hali c hc)] at k1;rw[Yc (hali d hd)] at k2;exact h3 c hc d hd k1 k2
end
def Sh:List Nat→Bool
 | []=>true
 | x::r=>r.all (fun y=>!Nat.beq x y)&&Sh r
theorem Pr:∀{l:List Nat},Sh l=true→l.Nodup
 | [],_=>List.nodup_nil
 | x::r,h=>by
  simp only[Sh,Qdo] at h;refine List.nodup_cons.2 ⟨fun hm=>?_,Pr h.2⟩;have:=QdG.1 h.1 x hm;simp at this
def QbE(P:Program)(Q:Exit→Act→World→Prop)(B:Nat)(w0:World)(nbs:List NB)(dsts:List (Option Tmp))(vals:Nat→Value)(a0:Act)(i:Nat)(o:Oper):Prop:=
 (∃b,b∈nbs∧b.al=i∧∀(A:Act) w,(execOp A.eval o).run P w= .ok (.value (.pointer (some ⟨w.heap.size,0,none⟩))) (w.alloc (.cells b.z b.t)))∨
 (∃b,b∈nbs∧b.st=i∧vals i=undef∧(Qr o).contains b.al=true∧∃ty t x k,o.op= .store ty (.tmp t) (.tmp x)∧dsts[b.al]? =some (some t)∧dsts[k]? =some (some x)∧(Qr o).contains k=true∧vals k= .agg b.c∧KQ nbs k=false∧KQ nbs i=false∧
  (P.info? ty).map (·.size)=some b.c.size∧b.z.size=b.c.size∧b.c.all (·.oneCell')=true)∨
 (KQ nbs i=false∧Qbe nbs i=false∧∀(A:Act) w',Below B w0 w'→(∀j,(Qr o).contains j=true→KQ nbs j=false→∀t,dsts[j]? =some (some t)→A.tmps.getD t undef=vals j)→
  (∀t,(dsts.all fun d=>Js d (some t))=true→A.tmps.getD t undef=a0.tmps.getD t undef)→o.wp P A w' (fun a' w''=>a'=A.put o.dst (vals i)∧Below w'.heap.size w' w'') Q)
def inD(n:Nat)(dsts:List (Option Tmp)):Bool:=dsts.all fun d=>match d with|some t=>Nat.blt t n|none=>true
theorem YA{n:Nat}{dsts:List (Option Tmp)}(h:inD n dsts=true){j:Nat}{t:Tmp}(hj:dsts[j]? =some (some t)):t<n:=by
 have:=QdG.1 h _ (QdT hj);simpa using this
theorem StepAll.imp{R S:Nat→Oper→Prop}(h:∀i o,R i o→S i o):∀{l:List Oper} {k:Nat},StepAll R k l→StepAll S k l
 | [],_,_=>trivial
 | _::_,_,hs=>⟨h _ _ hs.1,hs.2.imp h⟩
theorem NA{P:Program}{Q:Exit→Act→World→Prop}{id:Nat}{l:List Oper}{a:Act}{w:World}(dsts:List (Option Tmp))(nbs:List NB)(vals:Nat→Value)
  (hm:P.follows .mixedOrders=true) (hds:l.map (·.dst)=dsts) (hnd:Y9 dsts=true) (hng:(l.all fun o=>o.guard.isNone)=true) (hord:ordGo 0 l=true)
  (hN':Sh (nbs.map (·.al)++nbs.map (·.st))=true) (hin:inD a.tmps.size dsts=true) (hlen:(nbs.all fun b=>Nat.blt b.al l.length&&Nat.blt b.st l.length)=true)
  (step:StepAll (QbE P Q w.heap.size w nbs dsts vals a) 0 l)
  (fin:∀γ w',Below w.heap.size w w'→(∀b,b∈nbs→w.heap.size≤γ b.al∧Blk w' (γ b.al) b.t b.c)→(∀b,b∈nbs→∀c,c∈nbs→γ b.al=γ c.al→b.al=c.al)→
   Q .normal (Fr (vN nbs vals γ) (fun _=>true) dsts 0 a) w'):(Code.region id l.toArray true).wp P Q a w:=by
 have hN:=Pr hN';refine Z7 dsts (vN nbs vals) (NewI w.heap.size w nbs) hm hds hnd hng hord (fun _=>0) ?_ ?_ ?_
 ·exact⟨(Below.refl w.heap.size w).drew,fun b _=>⟨fun h=>(by cases h),fun h=>(by cases h)⟩,fun b _ c _ h=>(by cases h)⟩
 ·refine StepAll.imp ?_ step;rintro i o hst γ L w' hI hL hdep;have hw:∀j,L j=true→j≠i:=fun j hj e=>by rw[e,hL] at hj;cases hj
  rcases hst with ⟨b,hb,hi,hrun⟩|⟨b,hb,hi,hvi,hal,ty,t,x,k,ho,hdt,hdx,hk,hvk,hnk,hni,hs1,hs2,hs3⟩|⟨ha,hs,hq⟩
  ·unfold Oper.wp;rw[hrun];refine⟨Qbl γ i w'.heap.size,fun j hj=>?_,?_,hI.alloc hN (Qde _) hb hi hL⟩
   ·unfold vN;rw[Wx _ _ (hw j hj)]
   ·have:KQ nbs i=true:=Qfo.2 ⟨b,hb,by simp[hi]⟩;unfold vN;rw[Qdm this,Ww]
  ·have hLal:=hdep b.al (QdD.1 hal);have hLk:=hdep k (QdD.1 hk);obtain⟨hblk,hI'⟩:=hI.store hN hb hi hL hLal;have ht:(Fr (vN nbs vals γ) L dsts 0 a).eval (.tmp t)= .pointer (some ⟨γ b.al,0,none⟩):=by
    have:=Z6 (vN nbs vals γ) L t b.al hLal dsts 0 a hnd (Qdw _) (by simpa using hdt) (YA hin hdt);refine this.trans ?_;have h1:KQ nbs b.al=true:=Qfo.2 ⟨b,hb,by simp⟩;unfold vN;rw[Qdm h1]
   have hx:(Fr (vN nbs vals γ) L dsts 0 a).eval (.tmp x)= .agg b.c:=by
    have:=Z6 (vN nbs vals γ) L x k hLk dsts 0 a hnd (Qdw _) (by simpa using hdx) (YA hin hdx);refine this.trans ?_;unfold vN;rw[Qdf (by rw[hnk];decide),hvk]
   refine wp_store_row ty _ _ ho (γ b.al) b.c ht hx b.t b.z hblk hs1 hs2 hs3 ⟨γ,fun _ _=>rfl,?_,hI'⟩;unfold vN;rw[Qdf (by rw[hni];decide),hvi]
  ·refine Oper.wp_mono ?_ (hq _ w' hI.1 (fun j hj hna t ht=>?_) (fun t ht=>ZL _ L t dsts 0 a ht))
   ·rintro a' w'' ⟨rfl,hbel⟩;refine⟨γ,fun _ _=>rfl,?_,hI.quiet (Qde _) ha hs hbel⟩;unfold vN;rw[Qdf (by rw[ha];decide)]
   ·have:=Z6 (vN nbs vals γ) L t j (hdep j (QdD.1 hj)) dsts 0 a hnd (Qdw _) (by simpa using ht) (YA hin ht);refine this.trans ?_;unfold vN;rw[Qdf (by rw[hna];decide)]
 ·rintro γ L w' hL ⟨h1,h2,h3⟩;have hlt:∀b,b∈nbs→L b.al=true∧L b.st=true:=fun b hb=>by
   have:=QdG.1 hlen b hb;simp only[Qdo,Nat.blt_eq] at this;exact⟨hL _ this.1,hL _ this.2⟩
  refine fin γ w' h1 (fun b hb=>?_) (fun b hb c hc=>h3 b hb c hc (hlt b hb).1 (hlt c hc).1);have:=(h2 b hb).2 (hlt b hb).1;rw[(hlt b hb).2] at this;exact this
def YC(dsts:List (Option Tmp))(vals:Nat→Value)(a0:Act)(o:Oper)(A:Act):Prop:=
 (∀j,(Qr o).contains j=true→∀t,dsts[j]? =some (some t)→A.tmps.getD t undef=vals j)∧(∀t,(dsts.all fun d=>Js d (some t))=true→A.tmps.getD t undef=a0.tmps.getD t undef)
def BU(P:Program)(Q:Exit→Act→World→Prop)(w0:World)(dsts:List (Option Tmp))(vals:Nat→Value)(a0:Act)(n:Nat)(T:World→Prop)(i:Nat)(o:Oper):Prop:=
 (i=n∧((List.range n).all fun j=>(Qr o).contains j)=true∧∀(A:Act) w',Below w0.heap.size w0 w'→YC dsts vals a0 o A→o.wp P A w' (fun a' w''=>a'=A.put o.dst (vals i)∧T w'') Q)∨
 (Nat.beq i n=false∧∀(A:Act) w',Below w0.heap.size w0 w'→YC dsts vals a0 o A→o.wp P A w' (fun a' w''=>a'=A.put o.dst (vals i)∧Below w'.heap.size w' w'') Q)
theorem V4{P:Program}{Q:Exit→Act→World→Prop}{id:Nat}{l:List Oper}{a:Act}{w:World}(dsts:List (Option Tmp))(vals:Nat→Value)(n:Nat)(T:World→Prop)
  (hm:P.follows .mixedOrders=true) (hds:l.map (·.dst)=dsts) (hnd:Y9 dsts=true) (hng:(l.all fun o=>o.guard.isNone)=true) (hord:ordGo 0 l=true) (hin:inD a.tmps.size dsts=true) (hn:l.length=n+1)
  (step:StepAll (BU P Q w dsts vals a n T) 0 l) (fin:∀w',T w'→Q .normal (Fr vals (fun _=>true) dsts 0 a) w'):(Code.region id l.toArray true).wp P Q a w:=by
 refine Z7 (Γ:=Unit) dsts (fun _=>vals) (fun _ L w'=>(L n=false∧Below w.heap.size w w')∨(L n=true∧(∀j,j<n→L j=true)∧T w')) hm hds hnd hng hord () (.inl ⟨rfl,(Below.refl _ _).drew⟩) ?_ ?_
 ·have key:∀(l':List Oper) (k:Nat),k+l'.length=n+1→StepAll (BU P Q w dsts vals a n T) k l'→StepAll (fun i o=>∀(γ:Unit) (L:Nat→Bool) w',((L n=false∧Below w.heap.size w w')∨(L n=true∧(∀j,j<n→L j=true)∧T w'))→L i=false→(∀j∈Qr o,L j=true)→
    o.wp P (Fr vals L dsts 0 a) w' (fun a' w''=>∃γ':Unit,(∀j,L j=true→vals j=vals j)∧a'=(Fr vals L dsts 0 a).put o.dst (vals i)∧((onL L i n=false∧Below w.heap.size w w'')∨(onL L i n=true∧(∀j,j<n→onL L i j=true)∧T w''))) Q) k l':=by
   intro l';induction l' with
   | nil=>intro _ _ _;trivial
   | cons o l' ih=>
    intro k hk hs;refine⟨?_,ih (k+1) (by simp at hk;omega) hs.2⟩;intro γ L w' hI hL hdep;have hkn:k≤n:=by simp at hk;omega
    have hln:L n=false:=by
     cases e:L n with
     | false=>rfl
     | true=>
      rcases hI with ⟨h,_⟩|⟨_,h,_⟩
      ·rw[e] at h;cases h
      ·by_cases hk2:k=n
       ·rw[hk2,e] at hL;cases hL
       ·rw[h k (by omega)] at hL;cases hL
    have hb:Below w.heap.size w w':=by
     rcases hI with ⟨_,h⟩|⟨h,_⟩
     ·exact h
     ·rw[hln] at h;cases h
    have hSF:YC dsts vals a o (Fr vals L dsts 0 a):=
     ⟨fun j hj t ht=>Z6 vals L t j (hdep j (QdD.1 hj)) dsts 0 a hnd (Qdw _) (by simpa using ht) (YA hin ht),fun t ht=>ZL vals L t dsts 0 a ht⟩
    rcases hs.1 with ⟨rfl,hall,hq⟩|⟨hne,hq⟩
    ·refine Oper.wp_mono ?_ (hq _ w' hb hSF);rintro a' w'' ⟨rfl,hT⟩;refine⟨(),fun _ _=>rfl,rfl,.inr ⟨ZD,fun j hj=>?_,hT⟩⟩;have:=QdG.1 hall j (QeA.2 hj);have:=hdep j (QdD.1 this);simp[onL,this]
    ·refine Oper.wp_mono ?_ (hq _ w' hb hSF);rintro a' w'' ⟨rfl,hbel⟩;refine⟨(),fun _ _=>rfl,rfl,.inl ⟨?_,bt hb hbel⟩⟩;have hne':n≠k:=fun e=>by subst e;simp at hne
     rw[Yc hne',hln]
  exact key l 0 (by omega) step
 ·rintro γ L w' hL hI;rcases hI with ⟨h,_⟩|⟨_,_,h⟩
  ·rw[hL n (by omega)] at h;cases h
  ·exact fin w' h
section
variable {P:Program} {Q:Exit→Act→World→Prop} {o:Oper} {A:Act} {w:World} {B:Nat} {u:Value} {K:Act→World→Prop}
theorem Xe(h:(execOp A.eval o).run P w= .ok (.value u) w):o.wp P A w (fun a' w''=>a'=A.put o.dst u∧Below w.heap.size w w'') Q:=by
 unfold Oper.wp;rw[h];exact⟨rfl,Below.refl _ _⟩
theorem Qe(x:Operand)(ho:o.op= .move x∨o.op= .assign x)(hx:A.eval x=u):o.wp P A w (fun a' w''=>a'=A.put o.dst u∧Below w.heap.size w w'') Q:=by
 refine Xe ?_;unfold execOp;rcases ho with ho|ho <;> simp only[ho,hx] <;> rfl
theorem Hi(x:Operand)(k:Nat)(vs:Array Value)(ho:o.op= .extract x k)(hx:A.eval x= .tuple vs)(hu:vs[k]? =some u):o.wp P A w (fun a' w''=>a'=A.put o.dst u∧Below w.heap.size w w'') Q:=by
 refine Xe ?_;unfold execOp;simp only[ho,hx,Instr.extract,hu];rfl
theorem Zj(f:FuncId)(args:Array Value)(hrun:(execOp A.eval o).run P w= .ok (.enter f args) w)(h:Calls P f args w fun e w'=>e= .returned u∧Below w.heap.size w w'):
  o.wp P A w (fun a' w''=>a'=A.put o.dst u∧Below w.heap.size w w'') Q:=by
 unfold Oper.wp;rw[hrun,Oper.upon_enter];refine h.mono fun e w'' hh=>?_;obtain⟨rfl,hb⟩:=hh;exact⟨rfl,hb⟩
theorem QH (c : Call) (f : FuncId) (args : Array Value) (ho : o.op = .call c) (hc : c.callee = .value (.func f)) (ha : c.args.map A.eval = args) {fn : Func} {cd : Code} (hf : P.funcs[f]? = some fn) (hname : (fn.name == "runtime.NumGoroutine") = false) (hbd : fn.body = some cd) :
  (execOp A.eval o).run P w= .ok (.enter f args) w:=by
 have h1 : fn.name ≠ "runtime.NumGoroutine" := by simpa using hname
 unfold execOp;simp only[ho];simp[resolve,hc,Act.eval,Deferred.ofValue,invoke,callFunc,hf,h1,hbd,←ha]
end
abbrev Wd:=BitVec 32
def wn(x:Wd):Nat:=x.toNat
theorem Eb(x:Wd):wn x<4294967296:=x.isLt
theorem Ji(a:Wd):BitVec.ofInt 32 (wn a:Int)=a:=by
 apply BitVec.eq_of_toNat_eq;rw[BitVec.toNat_ofInt];have:=Eb a;unfold wn at *;omega
theorem PE(a:Wd):IntKind.u32.wrap (a.toNat:Int)=(wn a:Int):=by
 have:=Eb a;unfold wn at *;simp[IntKind.wrap,IntKind.signed,IntKind.bits];omega
theorem Zl(a b:Wd):bits .xor .u32 (wn a:Int) (wn b:Int)=(wn (a ^^^ b):Int):=by
 show IntKind.u32.wrap ((BitVec.ofInt 32 (wn a:Int) ^^^ BitVec.ofInt 32 (wn b:Int)).toNat:Int)=_;rw[Ji,Ji,PE]
theorem Gx(a b:Wd):bits .and .u32 (wn a:Int) (wn b:Int)=(wn (a&&& b):Int):=by
 show IntKind.u32.wrap ((BitVec.ofInt 32 (wn a:Int)&&& BitVec.ofInt 32 (wn b:Int)).toNat:Int)=_;rw[Ji,Ji,PE]
theorem SH(a b:Wd):bits .or .u32 (wn a:Int) (wn b:Int)=(wn (a||| b):Int):=by
 show IntKind.u32.wrap ((BitVec.ofInt 32 (wn a:Int)||| BitVec.ofInt 32 (wn b:Int)).toNat:Int)=_;rw[Ji,Ji,PE]
theorem Qbv(a:Wd):bits .xor .u32 IntKind.u32.max (wn a:Int)=(wn (~~~a):Int):=by
 show IntKind.u32.wrap ((BitVec.ofInt 32 IntKind.u32.max ^^^ BitVec.ofInt 32 (wn a:Int)).toNat:Int)=_;rw[Ji,show BitVec.ofInt 32 IntKind.u32.max=BitVec.allOnes 32 by decide,BitVec.allOnes_xor,PE]
theorem VQ(a b:Wd):IntKind.u32.wrap ((wn a:Int)+(wn b:Int))=(wn (a+b):Int):=by
 have h1:=Eb a;have h2:=Eb b;unfold wn at *;rw[BitVec.toNat_add,IntKind.wrap_u32];omega
theorem TM(a b:Wd):wn (a+b)=(wn a+wn b)%4294967296:=by
 unfold wn;rw[BitVec.toNat_add]
theorem Qb5(a b c d:Wd):((wn a:Int)+(wn b:Int)+(wn c:Int)+(wn d:Int))%4294967296=(wn (a+b+c+d):Int):=by
 rw[TM,TM,TM];omega
theorem Qb6(a b:Wd):((wn a:Int)+(wn b:Int))%4294967296=(wn (a+b):Int):=by
 rw[TM];omega
theorem Cs(a:Wd)(n:Nat):((wn a:Int)/2^n)=(wn (a >>> n):Int):=by
 unfold wn;rw[BitVec.toNat_ushiftRight,Nat.shiftRight_eq_div_pow];generalize a.toNat=y
 push_cast
 rfl
theorem TQ(a:Wd)(n:Nat):IntKind.u32.wrap ((wn a:Int)*2^n)=(wn (a <<< n):Int):=by
 unfold wn;rw[BitVec.toNat_shiftLeft,Qf2,IntKind.wrap_u32];generalize a.toNat=y;have e:((y:Int)*2^n)=((y*2^n:Nat):Int):=by push_cast;rfl
 rw[e];generalize y*2^n=z;omega
def rr(x:Wd)(n:Nat):Wd:=x >>> n||| x <<< (32-n)
theorem N0(x:Wd)(n:Nat)(h0:0<n)(h1:n<32)(w:World):
  Calls prog 192 #[.int .u32 (wn x),.int .i64 (-(n:Int))] w fun e w'=>e= .returned (.int .u32 (wn (rr x n)))∧w'=w:=by
 have e1:bits .and .u64 (IntKind.u64.wrap (-(n:Int))) 31=((32-n:Nat):Int):=by
  have e2:=u64_and_nat (18446744073709551616-n) 31 (by omega) (by omega);have e3:IntKind.u64.wrap (-(n:Int))=((18446744073709551616-n:Nat):Int):=by rw[IntKind.wrap_u64];omega
  rw[e3];refine e2.trans ?_;congr 1;have e4:(18446744073709551616-n)&&& 31=(18446744073709551616-n)%32:=Nat.and_two_pow_sub_one_eq_mod _ 5;rw[e4];omega
 obtain⟨m,hm⟩:=nE (32-n);rw[←hm] at e1;have hmn:(32:Int)-(m:Int)=(n:Int):=by omega
 have hm32:m<32:=by omega
 have v1:=TQ x m;have v2:=Cs x n;have v3:=SH (x <<< m) (x >>> n);have e5:x <<< m||| x >>> n=rr x n:=by unfold rr;rw[←hm,BitVec.or_comm]
 rw[e5] at v3;have H:=H2 hm e5;clear hm e5;go_enter func192,ntmps192;go_wp2;go_ret;exact⟨rfl,rfl⟩
theorem YX(x:Wd)(n:Nat)(h0:0<n)(h1:n<32)(w:World):
  Calls prog 158 #[.int .u32 (wn x),.int .i64 n] w fun e w'=>e= .returned (.int .u32 (wn (rr x n)))∧w'=w:=by
 go_enter func158,ntmps158;go_wp2_with (go_at_call 192;refine (N0 x n h0 h1 _).mono ?_;rintro e w' ⟨rfl,rfl⟩);go_ret;exact⟨rfl,rfl⟩
theorem Wf(x:Wd)(k:Int)(n:Nat)(hk:k=n)(h0:0<n)(h1:n<32)(w:World):
  Calls prog 158 #[.int .u32 (wn x),.int .i64 k] w fun e w'=>e= .returned (.int .u32 (wn (rr x n)))∧w'=w:=by
 subst hk;exact YX x n h0 h1 w
end Go.Proofs.YthdaabapiicnhaaGreatDoor
