/- Steps of the proof. -/
import Derived.Conc.EventLaws
import Derived.Laws.RangeString
import Derived.Laws.RangeAny
import Derived.Lib.Bytes
import Derived.Test.YthdaabapiicnhaaGreatDoorTr06
set_option linter.all false
set_option maxRecDepth 100000
set_option maxHeartbeats 4000000
open Go.Proofs.Tryz
namespace Go.Proofs.YthdaabapiicnhaaGreatDoor
open Go.RowKit
def GOk(F:Nat→Value→World→Prop)(dsts:List (Option Tmp))(o:Oper)(b:Bool):Prop:=
 (o.guard=none∧b=true)∨∃j want c,o.guard=some (j,want)∧(Qr o).contains j=true∧(∃t,dsts[j]? =some (some t))∧(∀u w,F j u w→u= .bool c)∧(c==want)=b
def Cc(P:Program)(Q:Exit→Act→World→Prop)(w0:World)(dsts:List (Option Tmp))(F:Nat→Value→World→Prop)(a0:Act)(i:Nat)(o:Oper):Prop:=
 (GOk F dsts o false∧∀w,F i undef w)∨
 (GOk F dsts o true∧∀(A:Act) w' (γ:Nat→Value),Below w0.heap.size w0 w'→(∀j,(Qr o).contains j=true→F j (γ j) w')→YC dsts γ a0 o A→
  o.wp P A w' (fun a' w''=>∃u,a'=A.put o.dst u∧Below w'.heap.size w' w''∧F i u w'') Q)
theorem Vt(v:Nat→Value)(L:Nat→Bool):∀(r:List (Option Tmp)) (k:Nat) (a:Act),(Fr v L r k a).tmps.size=a.tmps.size
 | [],_,_=>rfl
 | d::r,k,a=>by
  unfold Fr;rw[Vt v L r];split
  ·exact HG a d _
  ·rfl
theorem GOk.wanted{F:Nat→Value→World→Prop}{l:List Oper}{dsts:List (Option Tmp)}{o:Oper}{b:Bool}(h:GOk F dsts o b)(hds:l.map (·.dst)=dsts){tmps:Array Value}{γ:Nat→Value}{w:World}
  (hF:∀j,(Qr o).contains j=true→F j (γ j) w) (hs:∀j,(Qr o).contains j=true→∀t,dsts[j]? =some (some t)→t<tmps.size∧tmps.getD t undef=γ j):Region.wanted o (yielded l.toArray tmps)=b:=by
 rcases h with ⟨hg,rfl⟩|⟨j,want,c,hg,he,⟨t,ht⟩,hc,rfl⟩
 ·simp[Region.wanted,hg]
 ·obtain⟨h1,h2⟩:=hs j he t ht;rw[hc _ _ (hF j he)] at h2;have h3:tmps[t]? =some (.bool c):=by
   rw[QdK,Qev h1] at h2;rw[Qev h1];exact congrArg some h2
  have h4:((l[j]?).bind (·.dst))=some t:=by
   rw[←hds,QdI] at ht;cases hl:l[j]? with
   | none=>rw[hl] at ht;cases ht
   | some o'=>
    rw[hl] at ht;simpa using ht
  have h5:yielded l.toArray tmps j=some c:=by
   unfold yielded;rw[Qdp,h4,QfN,h3]
  simp only[Region.wanted,hg,h5];cases c <;> cases want <;> rfl
theorem YF{P:Program}{Q:Exit→Act→World→Prop}{id:Nat}{l:List Oper}{a:Act}{w:World}(dsts:List (Option Tmp))(F:Nat→Value→World→Prop)
  (hF:∀j u w1 w2,F j u w1→Below w1.heap.size w1 w2→F j u w2)
  (hm:P.follows .mixedOrders=true) (hds:l.map (·.dst)=dsts) (hnd:Y9 dsts=true) (hord:ordGo 0 l=true) (hin:inD a.tmps.size dsts=true)
  (step:StepAll (Cc P Q w dsts F a) 0 l)
  (fin:∀γ w',Below w.heap.size w w'→(∀j,j<l.length→F j (γ j) w')→Q .normal (Fr γ (fun _=>true) dsts 0 a) w'):(Code.region id l.toArray true).wp P Q a w:=by
 refine wp_region_any hm ?_;refine ZU (fun listed a' w'=>listed.size=l.length∧∃γ:Nat→Value,a'=Fr γ (fun j=>listed.getD j false) dsts 0 a∧Below w.heap.size w w'∧∀j,listed.getD j false=true→F j (γ j) w') ?_ ?_ l.toArray.size _ _ _ ?_ ?_
 ·rintro listed a' w' i ⟨hsz,γ,rfl,hb,hFs⟩ hr;obtain⟨h0,o,ho,hall⟩:=mem_ready.1 hr;have ho':l[i]? =some o:=by simpa using ho
  have hlt:i<l.length:=(Qdt.1 ho').1;have hLi:listed.getD i false=false:=by
   have:i<listed.size:=by omega
   simp[this] at h0 ⊢;exact h0
  have hdep:∀j,(Qr o).contains j=true→listed.getD j false=true:=fun j hj=>by
   obtain⟨e,he1,he2⟩:=QdZ.1 (QdD.1 hj);obtain⟨he3,he4⟩:=Qey.1 he1;rw[←he2];exact hall e (by simpa using he3) (by simpa using he4)
  have hSF:YC dsts γ a o (Fr γ (fun j=>listed.getD j false) dsts 0 a):=
   ⟨fun j hj t ht=>Z6 γ _ t j (hdep j hj) dsts 0 a hnd (Qdw _) (by simpa using ht) (YA hin ht),fun t ht=>ZL γ _ t dsts 0 a ht⟩
  have hwant:∀{b},GOk F dsts o b→Region.wanted o (yielded l.toArray (Fr γ (fun j=>listed.getD j false) dsts 0 a).tmps)=b:=fun h=>
   h.wanted hds (fun j hj=>hFs j (hdep j hj)) (fun j hj t ht=>⟨by rw[Vt];exact YA hin ht,hSF.1 j hj t ht⟩)
  have hon:(fun j=>(listed.setIfInBounds i true).getD j false)=onL (fun j=>listed.getD j false) i:=by
   funext j;have hi:i<listed.size:=by omega
   unfold onL;by_cases e:j=i
   ·subst e;simp[hi]
   ·rw[getD_set_ne false (Ne.symm e)];simp[e]
  have hd:dsts[i]? =some o.dst:=by rw[←hds,QdI,ho'];rfl
  have key:∀u w'',Below w'.heap.size w' w''→F i u w''→(listed.setIfInBounds i true).size=l.length∧∃γ':Nat→Value,(Fr γ (fun j=>listed.getD j false) dsts 0 a).put o.dst u=Fr γ' (fun j=>(listed.setIfInBounds i true).getD j false) dsts 0 a∧Below w.heap.size w w''∧∀j,(listed.setIfInBounds i true).getD j false=true→F j (γ' j) w'':=by
   intro u w'' hb2 hFu;refine⟨by simpa using hsz,fun j=>if j=i then u else γ j,?_,bt hb hb2,fun j hj=>?_⟩
   ·rw[hon,P2 _ _ i hLi dsts 0 a o.dst hnd (Qdw _) (by simpa using hd)];simp only[QdC];congr 1;refine Xo _ _ _ _ dsts 0 a fun j _ _=>⟨rfl,fun hj=>?_⟩;by_cases e:j=i
    ·subst e;rw[hLi] at hj;cases hj
    ·simp[e]
   ·by_cases e:j=i
    ·subst e;simpa using hFu
    ·have hj':listed.getD j false=true:=by rw[getD_set_ne false (Ne.symm e)] at hj;exact hj
     simp only[e,QdV];exact hF j _ _ _ (hFs j hj') hb2
  have st:=step.at i o ho';simp only[Qd5] at st;unfold wpOp;rw[ho];rcases st with ⟨hg,hu⟩|⟨hg,hq⟩
  ·simp only[hwant hg,QdN,QdV];exact key undef w' (Below.refl _ _) (hu w')
  ·simp only[hwant hg,QdC];left;refine Oper.wp_mono ?_ (hq _ w' γ hb (fun j hj=>hFs j (hdep j hj)) hSF);rintro a'' w'' ⟨u,rfl,hbel,hFu⟩;exact key u w'' hbel hFu
 ·rintro listed a' w' ⟨hsz,γ,rfl,hb,hFs⟩ hr;have hall:∀n i,i<n→i<l.length→listed.getD i false=true:=by
   intro n;induction n with
   | zero=>intro i hi;omega
   | succ n ih=>
    intro i hin' hi;cases hL:listed.getD i false with
    | true=>rfl
    | false=>
     exfalso;have hmem:i∈Region.ready .any l.toArray listed:=by
      refine mem_ready.2 ⟨?_,l[i],by simp[hi],fun e he hb=>?_⟩
      ·have:i<listed.size:=by omega
       simp[this] at hL ⊢;exact hL
      ·have hlt:=ordGo.at hord i l[i] (by simp[hi]) e.on (QdZ.2 ⟨e,Qey.2 ⟨by simpa using he,by simpa using hb⟩,rfl⟩);exact ih e.on (by omega) (by omega)
     rw[hr] at hmem;cases hmem
  have hlen:dsts.length=l.length:=by rw[←hds,QdA]
  have e:Fr γ (fun j=>listed.getD j false) dsts 0 a=Fr γ (fun _=>true) dsts 0 a:=
   Xo _ _ _ _ dsts 0 a fun j _ hj=>⟨hall (j+1) j (by omega) (by omega),fun _=>rfl⟩
  rw[e];exact fin γ w' hb (fun j hj=>hFs j (hall (j+1) j (by omega) hj))
 ·unfold unl;exact Qdx (QeS _ _) (by simp)
 ·refine⟨by simp,fun _=>undef,?_,(Below.refl _ _).drew,fun j hj=>?_⟩
  ·have:∀(r:List (Option Tmp)) (k:Nat),Fr (fun _=>undef) (fun j=>(Array.replicate l.toArray.size false).getD j false) r k a=a:=by
    intro r;induction r with
    | nil=>intro k;rfl
    | cons d r ih=>
     intro k;unfold Fr;have e:(Array.replicate l.toArray.size false).getD k false=false:=by
      simp only[QdK,Qeg];split <;> rfl
     rw[e];exact ih (k+1)
   exact (this dsts 0).symm
  ·have e:(Array.replicate l.toArray.size false).getD j false=false:=by
    simp only[QdK,Qeg];split <;> rfl
   rw[e] at hj;cases hj
def EqV(v:Value):Value→World→Prop:=fun u _=>u=v
abbrev VP:=Value→World→Prop
def VW(G:VP):Prop:=∀u w1 w2,G u w1→Below w1.heap.size w1 w2→G u w2
theorem Qa(v:Value):VW (EqV v):=fun _ _ _ h _=>h
def FL(l:List VP):Nat→VP:=fun i=>l.getD i fun _ _=>False
def Ff:List VP→Prop
 | []=>True
 | G::r=>VW G∧Ff r
theorem QO:∀{l:List VP},Ff l→∀j u w1 w2,FL l j u w1→Below w1.heap.size w1 w2→FL l j u w2
 | [],_,_,_,_,_,h,_=>h
 | G::r,hk,0,u,w1,w2,h,hb=>hk.1 u w1 w2 h hb
 | G::r,hk,j+1,u,w1,w2,h,hb=>by
  have h':FL r j u w1:=h;exact QO hk.2 j u w1 w2 h' hb
section
variable {P:Program} {Q:Exit→Act→World→Prop} {o:Oper} {A:Act} {w:World} {u:Value} {F:Nat→VP} {dsts:List (Option Tmp)} {γ:Nat→Value} {a0:Act}
theorem gk0(h:o.guard=none):GOk F dsts o true:=.inl ⟨h,rfl⟩
theorem gkT(j:Nat)(c:Bool)(h:o.guard=some (j,c))(he:(Qr o).contains j=true)(t:Tmp)(ht:dsts[j]? =some (some t))(hc:∀u w,F j u w→u= .bool c):GOk F dsts o true:=
 .inr ⟨j,c,c,h,he,⟨t,ht⟩,hc,by cases c <;> rfl⟩
theorem gkF(j:Nat)(c:Bool)(h:o.guard=some (j,c))(he:(Qr o).contains j=true)(t:Tmp)(ht:dsts[j]? =some (some t))(hc:∀u w,F j u w→u= .bool (!c)):GOk F dsts o false:=
 .inr ⟨j,c,!c,h,he,⟨t,ht⟩,hc,by cases c <;> rfl⟩
theorem Qbm{G:VP}(hG:VW G)(h:o.wp P A w (fun a' w''=>a'=A.put o.dst u∧Below w.heap.size w w'') Q)(hu:G u w):o.wp P A w (fun a' w''=>∃u,a'=A.put o.dst u∧Below w.heap.size w w''∧G u w'') Q:=by
 refine Oper.wp_mono ?_ h;rintro a' w'' ⟨rfl,hb⟩;exact⟨u,rfl,hb,hG u w w'' hu hb⟩
theorem Qd(h:o.wp P A w (fun a' w''=>a'=A.put o.dst u∧Below w.heap.size w w'') Q):o.wp P A w (fun a' w''=>∃u',a'=A.put o.dst u'∧Below w.heap.size w w''∧EqV u u' w'') Q:=
 Qbm (Qa u) h rfl
theorem GT{G:VP}(f:FuncId)(args:Array Value)(hrun:(execOp A.eval o).run P w= .ok (.enter f args) w)(h:Calls P f args w fun e w'=>∃u,e= .returned u∧Below w.heap.size w w'∧G u w'):
  o.wp P A w (fun a' w''=>∃u,a'=A.put o.dst u∧Below w.heap.size w w''∧G u w'') Q:=by
 unfold Oper.wp;rw[hrun,Oper.upon_enter];refine h.mono fun e w'' hh=>?_;obtain⟨u,rfl,hb,hG⟩:=hh;exact⟨u,rfl,hb,hG⟩
theorem Yr(c x y:Operand)(b:Bool)(ho:o.op= .pick c x y)(hc:A.eval c= .bool b)(hx:(if b then A.eval x else A.eval y)=u):o.wp P A w (fun a' w''=>a'=A.put o.dst u∧Below w.heap.size w w'') Q:=by
 refine Xe ?_;unfold execOp;simp only[ho,hc];subst hx;rfl
theorem Xj(t r:TypeId)(x y:Operand)(k:IntKind)(m n:Int)(b:Bool)(ho:o.op= .binOp .eql t x y r)(hx:A.eval x= .int k m)(hy:A.eval y= .int k n)(hb:(m==n)=b):o.wp P A w (fun a' w''=>a'=A.put o.dst (.bool b)∧Below w.heap.size w w'') Q:=by
 refine Xe ?_;generalize A.eval=ρ at *;unfold execOp;subst hb;simp[ho,hx,hy,eqGuard,binOp,Op.intCmp,go_sem]
theorem FG(t r:TypeId)(x y:Operand)(m n:ByteArray)(b:Bool)(ho:o.op= .binOp .eql t x y r)(hx:A.eval x= .string m)(hy:A.eval y= .string n)(hb:(m.toList==n.toList)=b):o.wp P A w (fun a' w''=>a'=A.put o.dst (.bool b)∧Below w.heap.size w w'') Q:=by
 refine Xe ?_;generalize A.eval=ρ at *;unfold execOp;subst hb;simp[ho,hx,hy,eqGuard,binOp,Op.stringOp,go_sem]
theorem Kx(t r:TypeId)(x y:Operand)(xs ys:Array Value)(b:Bool)(ho:o.op= .binOp .neq t x y r)(hx:A.eval x= .agg xs)(hy:A.eval y= .agg ys)(hg:P.eqGuardType P.depth t=false)
  (hrun:(Op.equalIn 10000 t (.agg xs) (.agg ys)).run P w= .ok b w):o.wp P A w (fun a' w''=>a'=A.put o.dst (.bool (!b))∧Below w.heap.size w w'') Q:=by
 have hrun':(Op.equal t (.agg xs) (.agg ys)).run P w= .ok b w:=hrun;refine Xe ?_;generalize A.eval=ρ at *;unfold execOp;simp[ho,hx,hy,eqGuard,binOp,hg,hrun',go_sem]
theorem Z3(ty:TypeId)(x:Operand)(ho:o.op= .load ty x){g:Nat}(hx:A.eval x= .pointer (some ⟨g,0,none⟩)){t:TypeId}{cs:Array Value}{fs:Array Field}(hb:Blk w g t cs)(hu:P.underlying ty=some (.struct fs))(hi:(P.info? ty).map (·.size)=some cs.size):
  o.wp P A w (fun a' w''=>a'=A.put o.dst (.agg cs)∧Below w.heap.size w w'') Q:=
 wp_load_row ty x ho g hx t cs (0,0) _ hb hu rfl hi ⟨rfl,Below.refl _ _⟩
theorem Yb(x:Operand)(t e:TypeId)(a:Option Addr)(n k:Nat)(ho:o.op= .call {callee:=.builtin .len,args:=#[x],argTypes:=#[t]})(hx:A.eval x= .slice a n k)(ht:P.underlying t=some (.slice e)):o.wp P A w (fun a' w''=>a'=A.put o.dst (.int .i64 n)∧Below w.heap.size w w'') Q:=by
 refine Xe ?_;generalize A.eval=ρ at *;unfold execOp;simp[ho,hx,ht,Builtin.len_,Qd6 ht,go_sem]
end
section
variable {P:Program} {Q:Exit→Act→World→Prop} {o:Oper} {A:Act} {w:World} {u:Value}
theorem GK(t r:TypeId)(x y:Operand)(k:IntKind)(m n:Int)(b:Bool)(ho:o.op= .binOp .gtr t x y r)(hx:A.eval x= .int k m)(hy:A.eval y= .int k n)(hb:decide (n<m)=b):o.wp P A w (fun a' w''=>a'=A.put o.dst (.bool b)∧Below w.heap.size w w'') Q:=by
 refine Xe ?_;generalize A.eval=ρ at *;unfold execOp;subst hb;simp[ho,hx,hy,eqGuard,binOp,Op.intCmp,go_sem]
theorem Sg(t r:TypeId)(x y:Operand)(k:IntKind)(m n:Int)(b:Bool)(ho:o.op= .binOp .lss t x y r)(hx:A.eval x= .int k m)(hy:A.eval y= .int k n)(hb:decide (m<n)=b):o.wp P A w (fun a' w''=>a'=A.put o.dst (.bool b)∧Below w.heap.size w w'') Q:=by
 refine Xe ?_;generalize A.eval=ρ at *;unfold execOp;subst hb;simp[ho,hx,hy,eqGuard,binOp,Op.intCmp,go_sem]
theorem Hh(t r:TypeId)(x y:Operand)(k:IntKind)(m n:Int)(b:Bool)(ho:o.op= .binOp .leq t x y r)(hx:A.eval x= .int k m)(hy:A.eval y= .int k n)(hb:decide (m≤n)=b):o.wp P A w (fun a' w''=>a'=A.put o.dst (.bool b)∧Below w.heap.size w w'') Q:=by
 refine Xe ?_;generalize A.eval=ρ at *;unfold execOp;subst hb;simp[ho,hx,hy,eqGuard,binOp,Op.intCmp,go_sem]
theorem Qc0(t r:TypeId)(x y:Operand)(k:IntKind)(m n:Int)(b:Bool)(ho:o.op= .binOp .geq t x y r)(hx:A.eval x= .int k m)(hy:A.eval y= .int k n)(hb:decide (n≤m)=b):o.wp P A w (fun a' w''=>a'=A.put o.dst (.bool b)∧Below w.heap.size w w'') Q:=by
 refine Xe ?_;generalize A.eval=ρ at *;unfold execOp;subst hb;simp[ho,hx,hy,eqGuard,binOp,Op.intCmp,go_sem]
theorem QP(t r:TypeId)(x y:Operand)(k:IntKind)(m n:Int)(b:Bool)(ho:o.op= .binOp .neq t x y r)(hx:A.eval x= .int k m)(hy:A.eval y= .int k n)(hb:(m != n)=b):o.wp P A w (fun a' w''=>a'=A.put o.dst (.bool b)∧Below w.heap.size w w'') Q:=by
 refine Xe ?_;generalize A.eval=ρ at *;unfold execOp;subst hb;simp[ho,hx,hy,eqGuard,binOp,Op.intCmp,go_sem]
theorem CP(t:TypeId)(x:Operand)(b:Bool)(ho:o.op= .unOp .not t x)(hx:A.eval x= .bool b):o.wp P A w (fun a' w''=>a'=A.put o.dst (.bool (!b))∧Below w.heap.size w w'') Q:=by
 refine Xe ?_;generalize A.eval=ρ at *;unfold execOp;simp[ho,hx,Op.unary,go_sem]
end
section
variable {P:Program} {Q:Exit→Act→World→Prop} {o:Oper} {A:Act} {w:World} {u:Value}
theorem PM(src dst:TypeId)(x:Operand){v:Value}(ho:o.op= .convert src dst x)(hx:A.eval x=v)(hrun:(convert src dst v).run P w= .ok u w):o.wp P A w (fun a' w''=>a'=A.put o.dst u∧Below w.heap.size w w'') Q:=by
 refine Xe ?_;unfold execOp;simp only[ho,hx,Qdl,hrun];rfl
end
theorem Kg{w:World}{a:Option Addr}{r:List UInt8}{len c:Nat}(h:RdS w a r)(hl:r.length=len):(convert 31 9 (.slice a len c)).run prog w= .ok (.string (Xg r)) w:=by
 rcases h with rfl|⟨g,off,rfl,hg,hr⟩
 ·subst hl;cases a with
  | none=>exact run_convert_bytes_nil w 31 5 underlying31 underlying5 0 c 9 underlying9
  | some p=>
   have h0:(loadCells p 0).run prog w= .ok #[] w:=run_loadCells_list (P:=prog) w p [] (fun j v hj=>by simp at hj);have h1:=run_bytesToString (P:=prog) w p 0 c [] (by simpa using h0);rw[Qe7,run_convert_bytes_string w 31 9 5 _ 0 c underlying31 underlying5 underlying9,h1];rfl
 ·have e:=run_convert_bytes_arg (P:=prog) w 31 5 underlying31 underlying5 g off len c (r.map fun c=>(c.toNat:Int)) (by simpa using hl) (fun i hi=>?_) 9 underlying9
  ·rw[e,Mk]
  ·rw[hr i (by omega)];have:i<r.length:=by omega
   simp[List.getD,Qdk this]
theorem J2(l:List UInt8):(Xg l).toList=l:=by
 rw[Lib.toList_data];rfl
def NO(c:List UInt8)(v:Value):Array Value:=#[.string (Xg c),v]
def GetV(base magic cap:Nat)(b:List UInt8)(v:Value)(w:World):Prop:=
 match XA magic cap b with
 | .no e=>v= .tuple #[.agg #[.string ⟨#[]⟩,.slice none 0 0],.int .i64 0,.int .i64 (e:Nat)]
 | .yes c p=>∃u,v= .tuple #[.agg (NO c u),.int .i64 (24+p.length:Nat),.int .i64 0]∧CloV p u w∧∀ad n c,u= .slice (some ad) n c→base≤ad.block
theorem GetV.no{base magic cap:Nat}{b:List UInt8}{e:Nat}{w:World}(h:XA magic cap b= .no e):GetV base magic cap b (.tuple #[.agg #[.string ⟨#[]⟩,.slice none 0 0],.int .i64 0,.int .i64 (e:Nat)]) w:=by
 unfold GetV;rw[h]
theorem Db(l:List UInt8)(m:Nat)(k:Nat)(h:∀i,i<k→l.getD i 0=(le4 m).getD i 0)(hk:k=min l.length 4):l.take 4=(le4 m).take l.length:=by
 have h4:=Xz m;apply Qfd
 ·rw[Qds,Qds];omega
 ·intro i h1 h2;have hi:i<k:=by rw[Qds] at h1;omega
  have:=h i hi;rw[List.getElem_take,List.getElem_take];simp only[List.getD] at this;rw[Qdk (by omega),Qdk (by omega)] at this;simpa using this
theorem FK(l:List UInt8)(m i:Nat)(hi:i<min l.length 4)(h:l.getD i 0≠(le4 m).getD i 0):l.take 4≠(le4 m).take l.length:=fun e=>h (by
 have h1:(l.take 4)[i]? =((le4 m).take l.length)[i]? :=by rw[e]
 rw[QdH (by omega),QdH (by omega)] at h1;simp only[List.getD,h1])
theorem Qc7(m k:Nat)(h:k<4):((le4 m).getD k 0).toNat=m/2^(8*k)%256:=by
 rcases (show k=0∨k=1∨k=2∨k=3 by omega) with rfl|rfl|rfl|rfl <;> simp[le4]
theorem Hx(b:List UInt8):Jx b=leN (b.drop 16) 4:=by
 unfold Jx;rw[XC,XC,XC,XC,MO,show (256:Nat)^0=1 from rfl,show (256:Nat)^1=256 from rfl,show (256:Nat)^2=65536 from rfl,show (256:Nat)^3=16777216 from rfl];simp only[JK,Qea,Nat.reduceAdd];omega
theorem Mn(b:List UInt8):Jx b<4294967296:=by
 rw[Hx];exact XQ (b.drop 16) 4
theorem Ce(a1:Option Addr)(l1:List UInt8)(n1 c1:Nat)(h1:l1.length=n1)(a2:Option Addr)(l2:List UInt8)(n2 c2:Nat)(h2:l2.length=n2)(w:World)(r1:RdS w a1 l1)(r2:RdS w a2 l2)(b:Bool)(hb:decide (l1=l2)=b):
  Calls prog 23 #[.slice a1 n1 c1,.slice a2 n2 c2] w fun e w'=>e= .returned (.bool b)∧w'=w:=by
 have s1:=Kg (c:=c1) r1 h1;have s2:=Kg (c:=c2) r2 h2;have he:((Xg l1).toList==(Xg l2).toList)=b:=by
  rw[J2,J2,←hb,QeE];simp
 obtain⟨S1,hS1⟩:=nE (Xg l1);obtain⟨S2,hS2⟩:=nE (Xg l2);rw[←hS1] at s1 he;rw[←hS2] at s2 he;clear hS1 hS2 hb r1 r2 h1 h2;go_enter func23,ntmps23;go_wp2;go_ret;exact⟨by first|rw[he]|simp[he],rfl⟩
theorem MT(c:Array Value)(h:c.size=2):(prog.info? 43).map (·.size)=some c.size:=by rw[h];kernel_rfl
theorem ZO{P:Program}{Q:Exit→Act→World→Prop}{o:Oper}{A:Act}{w:World}(t:TypeId)(x:Operand)(lo hi:Option Operand)(ho:o.op= .slice t x lo hi none){xv u:Value}{lv hv:Option Value}(hx:A.eval x=xv)(hl:lo.map A.eval=lv)(hh:hi.map A.eval=hv)
  (hrun:(Instr.sliceAt t xv lv hv none).run P w= .ok u w):o.wp P A w (fun a' w''=>a'=A.put o.dst u∧Below w.heap.size w w'') Q:=by
 refine Xe ?_;unfold execOp;simp only[ho,hx,hl,hh,Option.map_none,Qdl,hrun];rfl
theorem Eh(g:Nat)(w:World):(Instr.sliceAt 27 (.pointer (some ⟨g,0,none⟩)) none (some (.int .i64 4)) none).run prog w= .ok (.slice (some ⟨g,0,none⟩) 4 32) w:=by kernel_rfl
theorem Pq(l:List UInt8)(h:24+Jx l≤l.length):(YQ l).length=Jx l:=by
 unfold YQ;rw[Qds,Qdq];omega
theorem M8(l:List UInt8)(h:Jx l=0):YQ l=[]:=by
 unfold YQ;rw[h,Qfb]
theorem Xw{fn:Func}{p s u:Tmp}{ty:TypeId}(h:fn.results=#[.cell p ty,.tmp s,.tmp u]){P:Program}(tmps:Array Value)(w:World)(g:Nat)(t:TypeId)(cs:Array Value){fs:Array Field}
  (hp:tmps.getD p undef= .pointer (some ⟨g,0,none⟩)) (hg:Blk w g t cs) (hu:P.underlying ty=some (.struct fs)) (hi:(P.info? ty).map (·.size)=some cs.size):(results fn tmps).run P w= .ok (.tuple #[.agg cs,tmps.getD s undef,tmps.getD u undef]) w:=by
 have hp':tmps[p]?.getD undef= .pointer (some ⟨g,0,none⟩):=by simpa using hp
 simp[results,h,hp',asAddr,run_loadVar_row w g t ty cs (0,0) _ hg hu rfl hi]
theorem Ye(n:Nat)(h:n<18446744073709551616):IntKind.u64.wrap (n:Int)=(n:Int):=by rw[IntKind.wrap_u64];omega
theorem JC(g o n c i j:Nat)(hij:i≤j)(hj:j≤c)(hic:i<c)(w:World):(Instr.slice 31 (.slice (some ⟨g,o,none⟩) n c) (some (.int .i64 i)) (some (.int .i64 j)) none).run prog w= .ok (.slice (some ⟨g,o+i,none⟩) (j-i) (c-i)) w:=by
 have hs:(sizeOf (prog.elem 31)).run prog w= .ok 1 w:=by kernel_rfl
 rw[run_slice_lh w 31 (some ⟨g,o,none⟩) n c (by kernel_rfl) .i64 .i64 i j (by omega) (by omega) (by omega),hs];simp[sliced,Addr.add_mid,show ¬c=i by omega]
theorem PU(magic:Nat)(hm:magic<4294967296)(most:Int)(a:Option Addr)(n c:Nat)(l:List UInt8)(hl:l.length=n)(hc:n≤c)(hc2:n≤140737488355328∧c≤9223372036854775807)(hno:a=none→n=0∧c=0)(w:World)(hr:RdS w a l)(hL:Laid w):
  Calls prog 6 #[.int .u32 magic,.int .i64 most,.slice a n c] w fun e w'=>∃v,e= .returned v∧Below w.heap.size w w'∧GetV w.heap.size magic (YN most) l v w':=by
 obtain⟨k4,hk4⟩:=nE (min n 4);have hmin:min (n:Int) 4=(k4:Int):=by omega
 have F:=H4 hl hr hL hk4;clear hl hr hL hk4;have i2:=MT #[.string ⟨#[]⟩,.slice none 0 0] rfl;have z2:(#[.string ⟨#[]⟩,.slice none 0 0]:Array Value).size=(#[.string ⟨#[]⟩,.slice none 0 0]:Array Value).size:=rfl;have a2:(#[.string ⟨#[]⟩,.slice none 0 0]:Array Value).all (·.oneCell')=true:=by simp[Value.oneCell']
 have n47:=hc2.1;have c63:=hc2.2;go_enter func6,ntmps6;go_wp2;go_loopw [19] (fun i wr=>∃k:Nat,k≤k4∧i= .int .i64 k∧(∀j,j<k→l.getD j 0=(le4 magic).getD j 0)∧Blk wr w.heap.size 43 #[.string ⟨#[]⟩,.slice none 0 0]∧Below w.heap.size w wr) (fun i _=>k4-(intOf i).toNat)
 case atStart=>exact⟨0,by omega,rfl,fun j hj=>by omega,Blk.new w _ _,ba (Below.refl _ _) _⟩
 case round=>
  obtain⟨k,hk,rfl,hmt,h6,hb⟩:=hrel;by_cases hlt:k<k4
  ·have hk4:=F.out.2.2.2;obtain⟨g,off,rfl,hg,hrd⟩:∃g off,a=some ⟨g,off,none⟩∧g<w.heap.size∧Rd w g off l:=by
    rcases F.out.2.1 with h|h
    ·have:=F.out.1;rw[h] at this;simp at this;omega
    ·exact h
   obtain⟨x,hx⟩:=nE ((l.getD k 0).toNat);have c1:=hrd.at hb hg k (by have:=F.out.1;omega);rw[←hx] at c1;obtain⟨y,hy⟩:=nE (((le4 magic).getD k 0).toNat);obtain⟨s,hs⟩:=nE (8*k);have hsi:(8:Int)*(k:Int)=(s:Int):=by omega
   have s32:s<32:=by omega
   have hv:(magic:Int)/(2:Int)^s%256=(y:Int):=by
    rw[hy,Qc7 magic k (by omega),←hs];generalize hyy:magic/2^s=yy;have e:(magic:Int)/(2:Int)^s=(yy:Int):=by rw[←hyy];push_cast;rfl
    rw[e]
    push_cast
    rfl
   have kn:(k:Int)<(n:Int):=by omega
   have kn':k<n:=by omega
   have kk4:(k:Int)<(k4:Int):=by omega
   by_cases hxy:x=y
   ·have heq:l.getD k 0=(le4 magic).getD k 0:=Qfu.1 (by rw[←hx,←hy,hxy]);subst hxy;have H:=H7 hmt h6 hb hx hy hs heq;clear hmt h6 hb hx hy hs heq;go_wp2;go_region;go_wp2;go_roundw
    case rel=>
     obtain⟨hmt,h6,hb,hx,hy,hs,heq⟩:=H.out;refine⟨k+1,by omega,by go_num,fun j hj=>?_,h6.drew,hb.drew⟩;by_cases e:j=k
     ·rw[e];exact heq
     ·exact hmt j (by omega)
    case measure=>simp[intOf];omega
   ·have hxi:¬(x:Int)=(y:Int):=by omega
    have hne:l.getD k 0≠(le4 magic).getD k 0:=fun e=>hxy (by rw[hx,hy,e]);have hg5:XA magic (YN most) l= .no 5:=by
     unfold XA;rw[Qdm (FK l magic k (by have:=F.out.1;omega) hne)]
    have c0:wr.cell? ⟨w.heap.size,0,none⟩=some (.string ⟨#[]⟩):=h6.cell 0;have c1':wr.cell? ⟨w.heap.size,1,none⟩=some (.slice none 0 0):=h6.cell 1;have f0:=h6.frozen 0;have f1:=h6.frozen 1;have H:=H3 h6 hb hg5;clear hmt h6 hb hx hy hs hne hxy hg5;go_wp2;go_region;go_wp2;refine Qdg (v:=.tuple #[.agg #[.string ⟨#[]⟩,.slice none 0 0],.int .i64 0,.int .i64 5]) ?_ rfl ⟨_,rfl,((H.out.2.1.setCell (Qde _) _).setCell (Qde _) _).drew,GetV.no H.out.2.2⟩;refine Eq.trans (Xw rfl _ _ w.heap.size _ _ ?_ (((H.out.1.set_ 0 _).set_ 1 _).drew.to rfl) underlying43 i2) ?_ <;> rfl
  ·obtain rfl:k=k4:=by omega
   have hmg:l.take 4=(le4 magic).take l.length:=Db l magic k hmt (by have:=F.out.1;have:=F.out.2.2.2;omega);have hk4:=F.out.2.2.2;clear hmt hlt;by_cases h24:n<24
   ·have h24':(n:Int)<24:=by omega
    have hg5:XA magic (YN most) l= .no 1:=by
     unfold XA;rw[Qdf (Qeh hmg),Qdm (by have:=F.out.1;omega)]
    have c0:wr.cell? ⟨w.heap.size,0,none⟩=some (.string ⟨#[]⟩):=h6.cell 0;have c1:wr.cell? ⟨w.heap.size,1,none⟩=some (.slice none 0 0):=h6.cell 1;have f0:=h6.frozen 0;have f1:=h6.frozen 1;have H:=H4 h6 hb hg5 hk4;clear h6 hb hg5 hmg hk4 hk;have kk:¬(k:Int)<(k:Int):=by omega
    go_wp2;refine Qdg (v:=.tuple #[.agg #[.string ⟨#[]⟩,.slice none 0 0],.int .i64 0,.int .i64 1]) ?_ rfl ⟨_,rfl,(H.out.2.1.setCell (Qde _) _).setCell (Qde _) _,GetV.no H.out.2.2.1⟩;refine Eq.trans (Xw rfl _ _ w.heap.size _ _ ?_ (((H.out.1.set_ 0 _).set_ 1 _).to rfl) underlying43 i2) ?_ <;> rfl
   ·have h24':¬(n:Int)<24:=by omega
    obtain⟨g,off,rfl,hg,hrd⟩:∃g off,a=some ⟨g,off,none⟩∧g<w.heap.size∧Rd w g off l:=by
     rcases F.out.2.1 with h|h
     ·have:=F.out.1;rw[h] at this;simp at this;omega
     ·exact h
    have hl:=F.out.1;have rd4:∀w',Below w.heap.size w w'→RdS w' (some ⟨g,off+4,none⟩) ((l.drop 4).take 12):=fun w' h=>.inr ⟨g,off+4,rfl,Qdr hg h.size,(show Rd w' g off l from fun i hi=>hrd.at h hg i hi).drop.take⟩;have len12:((l.drop 4).take 12).length=12:=by rw[Qds,Qdq];omega
    have cT:=fun w' (h:Below w.heap.size w w')=>Qae (some ⟨g,off+4,none⟩) 12 (c-4) ((l.drop 4).take 12) len12 (by omega) (by omega) w' (rd4 w' h);have hcm:XS ((l.drop 4).take 12)=GV l:=rfl;rw[hcm] at cT;have hcl:(GV l).length≤12:=by have:=Rt ((l.drop 4).take 12);rw[hcm] at this;omega
    have cC:=fun w'=>P3 (GV l) (by omega) w';obtain⟨cmd,hcmd⟩:=nE (GV l);rw[←hcmd] at cT cC hcl;have c0:wr.cell? ⟨w.heap.size,0,none⟩=some (.string ⟨#[]⟩):=h6.cell 0;have c1:wr.cell? ⟨w.heap.size,1,none⟩=some (.slice none 0 0):=h6.cell 1;have f0:=h6.frozen 0;have f1:=h6.frozen 1;have H:=H8 h6 hb hmg hcmd rd4 hrd hcl hl;clear h6 hb hmg hk4 hk hcmd rd4 hrd hcm len12 hcl hl;have CT:=Lib.hid cT;clear cT;have kk:¬(k:Int)<(k:Int):=by omega
    go_wp2_with fail;refine (CT.out wr H.out.2.1).mono ?_;rintro e w' ⟨a',rfl,hra,rfl⟩;have hst:=Kg (c:=c-4) hra rfl;obtain⟨q,hq⟩:=nE (cmd.length);obtain⟨S,hS⟩:=nE (Xg cmd);rw[←hq,←hS] at hst;rw[←hS] at cC;rw[←hq];have HQ:=H2 hq hS;clear hq hS hra;have CC:=Lib.hid cC;clear cC CT kk;go_wp2_with fail;refine (CC.out _).mono ?_;rintro e w' ⟨rfl,rfl⟩;clear hst CC;cases hok:XL cmd with
    | false=>
     have hg5:XA magic (YN most) l= .no 2:=by
      unfold XA;rw[Qdf (Qeh H.out.2.2.1),Qdf (by have:=H.out.2.2.2.2.2.2.2;omega),Qdm (by rw[←H.out.2.2.2.1];exact hok)]
     have G5:=Lib.hid hg5;clear hg5 hok;go_wp2;refine Qdg (v:=.tuple #[.agg #[.string ⟨#[]⟩,.slice none 0 0],.int .i64 0,.int .i64 2]) ?_ rfl ⟨_,rfl,(H.out.2.1.setCell (Qde _) _).setCell (Qde _) _,GetV.no G5.out⟩;refine Eq.trans (Xw rfl _ _ w.heap.size _ _ ?_ (((H.out.1.set_ 0 _).set_ 1 _).to rfl) underlying43 i2) ?_ <;> rfl
    | true=>
     obtain⟨N,hN⟩:=nE (Jx l);have hN32:N<4294967296:=by rw[hN];exact Mn l
     have HN:=H2 hN hok;clear hN hok;go_wp2_with fail;go_loopw [11,46] (fun v i wq=>∃j:Nat,j≤4∧i= .int .i64 j∧v= .int .u64 (leN (l.drop 16) j:Nat)∧wq=w') (fun _ i _=>4-(intOf i).toNat)
     case atStart=>exact⟨0,by omega,rfl,rfl,rfl⟩
     case round=>
      obtain⟨j,hj,rfl,rfl,rfl⟩:=hrel;by_cases hlt:j<4
      ·obtain⟨p,hp⟩:=nE (16+j);obtain⟨s,hs⟩:=nE (8*j);have hpi:(16:Int)+(j:Int)=(p:Int):=by omega
       have hsi:(8:Int)*(j:Int)=(s:Int):=by omega
       have p20:p<20:=by omega
       have pn:p<n:=by omega
       have pni:(p:Int)<(n:Int):=by omega
       have s64:s<64:=by omega
       have j4:(j:Int)<4:=by omega
       obtain⟨x,hx⟩:=nE ((l.getD p 0).toNat);have hx8:x<256:=by rw[hx];exact (l.getD p 0).toNat_lt
       have c2:=H.out.2.2.2.2.2.1.at H.out.2.1 hg p (by have:=H.out.2.2.2.2.2.2.2;omega);rw[←hx] at c2;obtain⟨A,hA⟩:=nE (leN (l.drop 16) j);have hA2:A<2^s:=by
        have:=XQ (l.drop 16) j;rw[hA,hs,Qe3];exact this
       have ev:=Gc A x s hA2 hx8 (by omega);have hnx:leN (l.drop 16) (j+1)=A+x*2^s:=by
        rw[XC,←hA,JK,←hp,←hx,hs,Qe3]
       rw[←hA];have HX:=H7 hA hnx ev hx hs hp hA2;clear hA hnx ev hx hs hp hA2;go_wp2
       try go_region
       try go_wp2
       obtain⟨hA,hnx,ev,hx,hs,hp,hA2⟩:=HX.out;go_roundw
       case rel=>exact⟨j+1,by omega,by go_num,by rw[hnx,←ev,Ye x (by omega)],trivial⟩
       case measure=>simp[intOf];omega
      ·obtain rfl:j=4:=by omega
       rw[←Hx l,←HN.out.1];obtain⟨cN,hcN⟩:=nE (YN most);have cNle:cN≤4000000:=by rw[hcN];exact EI most
       have cB:=fun w'=>VZ most w';rw[←hcN] at cB;have w64:=Ye cN (by omega);have n64:IntKind.i64.wrap (N:Int)=(N:Int):=by simp[IntKind.wrap,IntKind.signed,IntKind.bits];omega
       have CB:=H2 cB hcN;clear cB hcN hlt hj;go_wp2_with fail;refine (CB.out.1 _).mono ?_;rintro e w' ⟨rfl,rfl⟩;by_cases hbig:cN<N
       ·have hbig':(cN:Int)<(N:Int):=by omega
        have hg5:XA magic (YN most) l= .no 3:=by
         have:=HN.out.1;have:=CB.out.2;unfold XA;rw[Qdf (Qeh H.out.2.2.1),Qdf (by have:=H.out.2.2.2.2.2.2.2;omega),Qdf (by rw[←H.out.2.2.2.1,HN.out.2];simp),Qdm (by omega)]
        have G5:=Lib.hid hg5;clear hg5;go_wp2;refine Qdg (v:=.tuple #[.agg #[.string ⟨#[]⟩,.slice none 0 0],.int .i64 0,.int .i64 3]) ?_ rfl ⟨_,rfl,(H.out.2.1.setCell (Qde _) _).setCell (Qde _) _,GetV.no G5.out⟩;refine Eq.trans (Xw rfl _ _ w.heap.size _ _ ?_ (((H.out.1.set_ 0 _).set_ 1 _).to rfl) underlying43 i2) ?_ <;> rfl
       have hbig':¬(cN:Int)<(N:Int):=by omega
       obtain⟨E,hE⟩:=nE (24+N);have hEi:(24:Int)+(N:Int)=(E:Int):=by omega
       have E30:E≤4000024:=by omega
       have HE:=Lib.hid hE;clear hE;by_cases hsh:n<E
       ·have hsh':(n:Int)<(E:Int):=by omega
        have hg5:XA magic (YN most) l= .no 1:=by
         have:=HN.out.1;have:=CB.out.2;have:=HE.out;unfold XA;rw[Qdf (Qeh H.out.2.2.1),Qdf (by have:=H.out.2.2.2.2.2.2.2;omega),Qdf (by rw[←H.out.2.2.2.1,HN.out.2];simp),Qdf (by omega),Qdm (by have:=H.out.2.2.2.2.2.2.2;omega)]
        have G5:=Lib.hid hg5;clear hg5;go_wp2;refine Qdg (v:=.tuple #[.agg #[.string ⟨#[]⟩,.slice none 0 0],.int .i64 0,.int .i64 1]) ?_ rfl ⟨_,rfl,(H.out.2.1.setCell (Qde _) _).setCell (Qde _) _,GetV.no G5.out⟩;refine Eq.trans (Xw rfl _ _ w.heap.size _ _ ?_ (((H.out.1.set_ 0 _).set_ 1 _).to rfl) underlying43 i2) ?_ <;> rfl
       have hsh':¬(n:Int)<(E:Int):=by omega
       have hEN:=HE.out;by_cases hc24:c=24
       ·subst hc24;obtain rfl:n=24:=by omega
        obtain rfl:E=24:=by omega
        obtain rfl:N=0:=by omega
        clear hEN;have rdp:∀w',Below w.heap.size w w'→RdS w' (some ⟨g,off,none⟩) (YQ l):=fun w' h=>.inl (M8 l HN.out.1.symm);have hEn:=HE.out;have hln:=H.out.2.2.2.2.2.2.2;have hNs:=HN.out.1;have plen:(YQ l).length=0:=(Pq l (by rw[←hNs];omega)).trans hNs.symm;clear hEn hln hNs;have cD:=fun w' (h:Below w.heap.size w w')=>Vu (some ⟨g,off,none⟩) (YQ l) (0) (0) plen (by omega) ⟨by omega,by omega⟩ (fun h=>by cases h) w' (rdp w' h) (F.out.2.2.1.below h (Qde _));have cK:=fun w' (h:Below w.heap.size w w')=>WB (some ⟨g,off,none⟩) (0) (0) (YQ l) plen (by omega) (fun h=>by cases h) w' (rdp w' h);have rd20:∀w',Below w.heap.size w w'→RdS w' (some ⟨g,off+20,none⟩) ((l.drop 20).take 4):=fun w' h=>.inr ⟨g,off+20,rfl,Qdr hg h.size,(show Rd w' g off l from fun i hi=>H.out.2.2.2.2.2.1.at h hg i hi).drop.take⟩;have len4:((l.drop 20).take 4).length=4:=by have:=H.out.2.2.2.2.2.2.2;rw[Qds,Qdq];omega
        obtain⟨D,hD⟩:=nE (dbl (YQ l));have hDl:D.length=32:=by rw[hD];exact Jp _
        obtain⟨C,hC⟩:=nE (Qp D);have hcd:Qp (ZN (ZN (YQ l)))=C:=by rw[hC,hD,dbl]
        rw[hcd] at cD;have sC:C.size=32:=by rw[hC,XE];exact hDl
        have iC:(prog.info? 27).map (·.size)=some C.size:=by rw[sC];kernel_rfl
        have zC:(Z32:Array Value).size=C.size:=by rw[sC];rfl
        have aC:C.all (·.oneCell')=true:=by rw[hC];exact Xh _
        have lenD:(D.take 4).length=4:=by rw[Qds];omega
        obtain⟨bq,hbq⟩:∃b,decide (D.take 4=(l.drop 20).take 4)=b:=⟨_,rfl⟩;have P:=H11 rdp plen cD cK rd20 len4 hD hDl hC lenD hbq;clear rdp plen cD cK rd20 len4 hD hDl hC hcd sC lenD hbq c0 c1 f0 f1;go_wp2_with fail;refine (P.out.2.2.1 _ H.out.2.1).mono ?_;rintro e w2 ⟨rfl,hb2⟩;have Q6:=H.out.1.calls hb2;have z6:=Q6.lt;have QB:=bt H.out.2.1 hb2;have NN:Blk _ w2.heap.size 27 Z32:=Blk.new w2 27 Z32;have R6:=(Q6.alloc (.cells Z32 27)).rowFar (show w.heap.size≠w2.heap.size by omega) C;have RB:=Qb (ba QB (.cells Z32 27)) (show w.heap.size≤w2.heap.size by omega) C;have RD:RdS _ (some ⟨w2.heap.size,0,none⟩) (D.take 4):=.inr ⟨w2.heap.size,0,rfl,(NN.row C).lt,fun i hi=>((NN.row C).cell (0+i)).trans (by
         have hi4:i<4:=by rw[P.out.2.2.2.2.2.2.2.2.2.1] at hi;exact hi
         rw[Qd5,P.out.2.2.2.2.2.2.2.2.1,Yp D i (by have:=P.out.2.2.2.2.2.2.2.1;omega)];simp[List.getD,QdH hi4])⟩
        have NH:=H4 NN R6 RB RD;clear NN R6 RB RD Q6 QB hb2;go_wp2_with (with_reducible refine Ql NH.out.1 _ _ _ _ rfl rfl rfl rfl iC zC aC ?_);have NK:=Lib.hid NH.out.2;clear NH;generalize World.setRow _ _ _=w3 at *;generalize w2.heap.size=g15 at *;have cQ:=fun w' (h1:RdS w' (some ⟨g15,0,none⟩) (D.take 4)) (h2:RdS w' (some ⟨g,off+20,none⟩) ((l.drop 20).take 4))=>Ce (some ⟨g15,0,none⟩) (D.take 4) 4 32 P.out.2.2.2.2.2.2.2.2.2.1 (some ⟨g,off+20,none⟩) ((l.drop 20).take 4) 4 (24-20) P.out.2.2.2.2.2.1 w' h1 h2 bq P.out.2.2.2.2.2.2.2.2.2.2;have CQ:=Lib.hid cQ;clear cQ;have hs20:=fun w=>JC g off 24 24 20 24 (by omega) (by omega) (by omega) w;have HSL:=Lib.hid hs20;clear hs20;go_wp2_with fail;refine YF [some 80,some 81,some 82,some 83,some 84] (FL [EqV (.slice (some ⟨g15,0,none⟩) 4 32),EqV (.slice (some ⟨g,off,none⟩) 24 24),EqV (.slice (some ⟨g,off+20,none⟩) 4 (24-20)),EqV (.bool bq),EqV (.bool (!bq))]) (QO ⟨Qa _,Qa _,Qa _,Qa _,Qa _,trivial⟩) (by kernel_rfl) rfl rfl rfl rfl ⟨.inr ⟨gk0 rfl,fun A w' γ hb hF hs=>Qd (ZO 27 (.tmp 15) none (some (.const (.int .i64 4))) rfl ((hs.2 15 rfl).trans rfl) rfl rfl (Eh g15 w'))⟩,.inr ⟨gk0 rfl,fun A w' γ hb hF hs=>Qd (Qe (.tmp 2) (.inl rfl) ((hs.2 2 rfl).trans rfl))⟩,.inr ⟨gk0 rfl,fun A w' γ hb hF hs=>Qd (Yq _ (.tmp 81) (some (.const (.int .i64 20))) (some (.const (.int .i64 24))) rfl ((hs.1 1 rfl 81 rfl).trans (hF 1 rfl)) rfl rfl (by kernel_rfl) (HSL.out w'))⟩,.inr ⟨gk0 rfl,fun A w' γ hb hF hs=>Qd (Zj 23 #[.slice (some ⟨g15,0,none⟩) 4 32,.slice (some ⟨g,off+20,none⟩) 4 (24-20)] (QH _ 23 #[.slice (some ⟨g15,0,none⟩) 4 32,.slice (some ⟨g,off+20,none⟩) 4 (24-20)] rfl rfl (KA ((hs.1 0 rfl 80 rfl).trans (hF 0 rfl)) ((hs.1 2 rfl 82 rfl).trans (hF 2 rfl))) func23 rfl rfl) ((CQ.out w' (NK.out.2.2.calls hb) (P.out.2.2.2.2.1 w' (bt NK.out.2.1 hb))).mono fun e w'' ⟨h1,h2⟩=>⟨h1,h2▸Below.refl _ _⟩))⟩,.inr ⟨gk0 rfl,fun A w' γ hb hF hs=>Qd (CP _ (.tmp 83) bq rfl ((hs.1 3 rfl 83 rfl).trans (hF 3 rfl)))⟩,trivial⟩ ?_;intro γ w4 hb4 hF;simp only[Fr,QdC,Act.put,Qdh,Qdy,Qdz];rw[show γ 4= .bool (!bq) from hF 4 (by decide)];have B6:=NK.out.1.calls hb4;have BB:=bt NK.out.2.1 hb4;clear hF hb4;have c0:w4.cell? ⟨w.heap.size,0,none⟩=some (.string ⟨#[]⟩):=B6.cell 0;have c1:w4.cell? ⟨w.heap.size,1,none⟩=some (.slice none 0 0):=B6.cell 1;have f0:=B6.frozen 0;have f1:=B6.frozen 1;have K:=H2 B6 BB;clear B6 BB;cases hbb:bq with
        | false=>
         have hg5:XA magic (YN most) l= .no 4:=by
          have h1:=P.out.2.2.2.2.2.2.2.2.2.2;rw[hbb] at h1;have h2:=of_decide_eq_false h1;have:=HN.out.1;have:=CB.out.2;have:=HE.out;unfold XA;rw[Qdf (Qeh H.out.2.2.1),Qdf (by have:=H.out.2.2.2.2.2.2.2;omega),Qdf (by rw[←H.out.2.2.2.1,HN.out.2];simp),Qdf (by omega),Qdf (by have:=H.out.2.2.2.2.2.2.2;omega),Qdm (by rw[←P.out.2.2.2.2.2.2.1];exact h2)]
         have G5:=Lib.hid hg5;clear hg5 hbb;go_wp2;refine Qdg (v:=.tuple #[.agg #[.string ⟨#[]⟩,.slice none 0 0],.int .i64 0,.int .i64 4]) ?_ rfl ⟨_,rfl,(K.out.2.setCell (Qde _) _).setCell (Qde _) _,GetV.no G5.out⟩;refine Eq.trans (Xw rfl _ _ w.heap.size _ _ ?_ (((K.out.1.set_ 0 _).set_ 1 _).to rfl) underlying43 i2) ?_ <;> rfl
        | true=>
         have hg5:XA magic (YN most) l= .yes (GV l) (YQ l):=by
          have h1:=P.out.2.2.2.2.2.2.2.2.2.2;rw[hbb] at h1;have h2:=Qer h1;have:=HN.out.1;have:=CB.out.2;have:=HE.out;unfold XA;rw[Qdf (Qeh H.out.2.2.1),Qdf (by have:=H.out.2.2.2.2.2.2.2;omega),Qdf (by rw[←H.out.2.2.2.1,HN.out.2];simp),Qdf (by omega),Qdf (by have:=H.out.2.2.2.2.2.2.2;omega),Qdf (by rw[←P.out.2.2.2.2.2.2.1];exact Qeh h2)]
         have G5:=Lib.hid hg5;clear hg5 hbb;go_wp2_with fail;refine (P.out.2.2.2.1 w4 K.out.2).mono ?_;rintro e w5 ⟨u,rfl,hb5,hu,hfr⟩;obtain⟨ua,uc,rfl,hu2⟩:=hu;have hne:∀ad,ua=some ad→ad.block≠w.heap.size∧w.heap.size≤ad.block:=fun ad h=>by have:=hfr ad _ _ (by rw[h]);have:=K.out.1.lt;omega
         have B6:=K.out.1.calls hb5;have BB:=bt K.out.2 hb5;have c0:w5.cell? ⟨w.heap.size,0,none⟩=some (.string ⟨#[]⟩):=B6.cell 0;have c1:w5.cell? ⟨w.heap.size,1,none⟩=some (.slice none 0 0):=B6.cell 1;have f0:=B6.frozen 0;have f1:=B6.frozen 1;have K2:=H4 B6 BB hne hu2;clear B6 BB hu2 hb5 hne hfr;go_wp2;have iM:=MT #[.string S,.slice ua (YQ l).length uc] rfl;refine Qdg (v:=.tuple #[.agg #[.string S,.slice ua (YQ l).length uc],.int .i64 24,.int .i64 0]) ?_ rfl ⟨_,rfl,(K2.out.2.1.setCell (Qde _) _).setCell (Qde _) _,?_⟩
         ·refine Eq.trans (Xw rfl _ _ w.heap.size _ _ ?_ (((K2.out.1.set_ 0 _).set_ 1 _).to rfl) underlying43 iM) ?_ <;> rfl
         ·unfold GetV;rw[G5.out];have hpl:=P.out.2.1;refine⟨.slice ua (YQ l).length uc,?_,⟨ua,uc,rfl,?_,K2.out.2.2.2.2⟩,fun ad n' c' h=>(K2.out.2.2.1 ad (by cases h;rfl)).2⟩
          ·rw[hpl,NO,HQ.out.2,H.out.2.2.2.1];rfl
          ·exact Vf (Vf K2.out.2.2.2.1 (fun ad h=>(K2.out.2.2.1 ad h).1) _) (fun ad h=>(K2.out.2.2.1 ad h).1) _
       ·have EN:E-24=N:=by omega
        clear hEN;have rdp:∀w',Below w.heap.size w w'→RdS w' (some ⟨g,off+24,none⟩) (YQ l):=fun w' h=>.inr ⟨g,off+24,rfl,Qdr hg h.size,(show Rd w' g off l from fun i hi=>H.out.2.2.2.2.2.1.at h hg i hi).drop.take⟩;have hEn:=HE.out;have hln:=H.out.2.2.2.2.2.2.2;have hNs:=HN.out.1;have plen:(YQ l).length=N:=(Pq l (by rw[←hNs];omega)).trans hNs.symm;clear hEn hln hNs;have cD:=fun w' (h:Below w.heap.size w w')=>Vu (some ⟨g,off+24,none⟩) (YQ l) (N) (c-24) plen (by omega) ⟨by omega,by omega⟩ (fun h=>by cases h) w' (rdp w' h) (F.out.2.2.1.below h (Qde _));have cK:=fun w' (h:Below w.heap.size w w')=>WB (some ⟨g,off+24,none⟩) (N) (c-24) (YQ l) plen (by omega) (fun h=>by cases h) w' (rdp w' h);have rd20:∀w',Below w.heap.size w w'→RdS w' (some ⟨g,off+20,none⟩) ((l.drop 20).take 4):=fun w' h=>.inr ⟨g,off+20,rfl,Qdr hg h.size,(show Rd w' g off l from fun i hi=>H.out.2.2.2.2.2.1.at h hg i hi).drop.take⟩;have len4:((l.drop 20).take 4).length=4:=by have:=H.out.2.2.2.2.2.2.2;rw[Qds,Qdq];omega
        obtain⟨D,hD⟩:=nE (dbl (YQ l));have hDl:D.length=32:=by rw[hD];exact Jp _
        obtain⟨C,hC⟩:=nE (Qp D);have hcd:Qp (ZN (ZN (YQ l)))=C:=by rw[hC,hD,dbl]
        rw[hcd] at cD;have sC:C.size=32:=by rw[hC,XE];exact hDl
        have iC:(prog.info? 27).map (·.size)=some C.size:=by rw[sC];kernel_rfl
        have zC:(Z32:Array Value).size=C.size:=by rw[sC];rfl
        have aC:C.all (·.oneCell')=true:=by rw[hC];exact Xh _
        have lenD:(D.take 4).length=4:=by rw[Qds];omega
        obtain⟨bq,hbq⟩:∃b,decide (D.take 4=(l.drop 20).take 4)=b:=⟨_,rfl⟩;have P:=H11 rdp plen cD cK rd20 len4 hD hDl hC lenD hbq;clear rdp plen cD cK rd20 len4 hD hDl hC hcd sC lenD hbq c0 c1 f0 f1;go_wp2_with fail;refine (P.out.2.2.1 _ H.out.2.1).mono ?_;rintro e w2 ⟨rfl,hb2⟩;have Q6:=H.out.1.calls hb2;have z6:=Q6.lt;have QB:=bt H.out.2.1 hb2;have NN:Blk _ w2.heap.size 27 Z32:=Blk.new w2 27 Z32;have R6:=(Q6.alloc (.cells Z32 27)).rowFar (show w.heap.size≠w2.heap.size by omega) C;have RB:=Qb (ba QB (.cells Z32 27)) (show w.heap.size≤w2.heap.size by omega) C;have RD:RdS _ (some ⟨w2.heap.size,0,none⟩) (D.take 4):=.inr ⟨w2.heap.size,0,rfl,(NN.row C).lt,fun i hi=>((NN.row C).cell (0+i)).trans (by
         have hi4:i<4:=by rw[P.out.2.2.2.2.2.2.2.2.2.1] at hi;exact hi
         rw[Qd5,P.out.2.2.2.2.2.2.2.2.1,Yp D i (by have:=P.out.2.2.2.2.2.2.2.1;omega)];simp[List.getD,QdH hi4])⟩
        have NH:=H4 NN R6 RB RD;clear NN R6 RB RD Q6 QB hb2;go_wp2_with (with_reducible refine Ql NH.out.1 _ _ _ _ rfl rfl rfl rfl iC zC aC ?_);have NK:=Lib.hid NH.out.2;clear NH;generalize World.setRow _ _ _=w3 at *;generalize w2.heap.size=g15 at *;have cQ:=fun w' (h1:RdS w' (some ⟨g15,0,none⟩) (D.take 4)) (h2:RdS w' (some ⟨g,off+20,none⟩) ((l.drop 20).take 4))=>Ce (some ⟨g15,0,none⟩) (D.take 4) 4 32 P.out.2.2.2.2.2.2.2.2.2.1 (some ⟨g,off+20,none⟩) ((l.drop 20).take 4) 4 (c-20) P.out.2.2.2.2.2.1 w' h1 h2 bq P.out.2.2.2.2.2.2.2.2.2.2;have CQ:=Lib.hid cQ;clear cQ;have hs20:=fun w=>JC g off n c 20 24 (by omega) (by omega) (by omega) w;have HSL:=Lib.hid hs20;clear hs20;go_wp2_with fail;refine YF [some 80,some 81,some 82,some 83,some 84] (FL [EqV (.slice (some ⟨g15,0,none⟩) 4 32),EqV (.slice (some ⟨g,off,none⟩) n c),EqV (.slice (some ⟨g,off+20,none⟩) 4 (c-20)),EqV (.bool bq),EqV (.bool (!bq))]) (QO ⟨Qa _,Qa _,Qa _,Qa _,Qa _,trivial⟩) (by kernel_rfl) rfl rfl rfl rfl ⟨.inr ⟨gk0 rfl,fun A w' γ hb hF hs=>Qd (ZO 27 (.tmp 15) none (some (.const (.int .i64 4))) rfl ((hs.2 15 rfl).trans rfl) rfl rfl (Eh g15 w'))⟩,.inr ⟨gk0 rfl,fun A w' γ hb hF hs=>Qd (Qe (.tmp 2) (.inl rfl) ((hs.2 2 rfl).trans rfl))⟩,.inr ⟨gk0 rfl,fun A w' γ hb hF hs=>Qd (Yq _ (.tmp 81) (some (.const (.int .i64 20))) (some (.const (.int .i64 24))) rfl ((hs.1 1 rfl 81 rfl).trans (hF 1 rfl)) rfl rfl (by kernel_rfl) (HSL.out w'))⟩,.inr ⟨gk0 rfl,fun A w' γ hb hF hs=>Qd (Zj 23 #[.slice (some ⟨g15,0,none⟩) 4 32,.slice (some ⟨g,off+20,none⟩) 4 (c-20)] (QH _ 23 #[.slice (some ⟨g15,0,none⟩) 4 32,.slice (some ⟨g,off+20,none⟩) 4 (c-20)] rfl rfl (KA ((hs.1 0 rfl 80 rfl).trans (hF 0 rfl)) ((hs.1 2 rfl 82 rfl).trans (hF 2 rfl))) func23 rfl rfl) ((CQ.out w' (NK.out.2.2.calls hb) (P.out.2.2.2.2.1 w' (bt NK.out.2.1 hb))).mono fun e w'' ⟨h1,h2⟩=>⟨h1,h2▸Below.refl _ _⟩))⟩,.inr ⟨gk0 rfl,fun A w' γ hb hF hs=>Qd (CP _ (.tmp 83) bq rfl ((hs.1 3 rfl 83 rfl).trans (hF 3 rfl)))⟩,trivial⟩ ?_;intro γ w4 hb4 hF;simp only[Fr,QdC,Act.put,Qdh,Qdy,Qdz];rw[show γ 4= .bool (!bq) from hF 4 (by decide)];have B6:=NK.out.1.calls hb4;have BB:=bt NK.out.2.1 hb4;clear hF hb4;have c0:w4.cell? ⟨w.heap.size,0,none⟩=some (.string ⟨#[]⟩):=B6.cell 0;have c1:w4.cell? ⟨w.heap.size,1,none⟩=some (.slice none 0 0):=B6.cell 1;have f0:=B6.frozen 0;have f1:=B6.frozen 1;have K:=H2 B6 BB;clear B6 BB;cases hbb:bq with
        | false=>
         have hg5:XA magic (YN most) l= .no 4:=by
          have h1:=P.out.2.2.2.2.2.2.2.2.2.2;rw[hbb] at h1;have h2:=of_decide_eq_false h1;have:=HN.out.1;have:=CB.out.2;have:=HE.out;unfold XA;rw[Qdf (Qeh H.out.2.2.1),Qdf (by have:=H.out.2.2.2.2.2.2.2;omega),Qdf (by rw[←H.out.2.2.2.1,HN.out.2];simp),Qdf (by omega),Qdf (by have:=H.out.2.2.2.2.2.2.2;omega),Qdm (by rw[←P.out.2.2.2.2.2.2.1];exact h2)]
         have G5:=Lib.hid hg5;clear hg5 hbb;go_wp2;refine Qdg (v:=.tuple #[.agg #[.string ⟨#[]⟩,.slice none 0 0],.int .i64 0,.int .i64 4]) ?_ rfl ⟨_,rfl,(K.out.2.setCell (Qde _) _).setCell (Qde _) _,GetV.no G5.out⟩;refine Eq.trans (Xw rfl _ _ w.heap.size _ _ ?_ (((K.out.1.set_ 0 _).set_ 1 _).to rfl) underlying43 i2) ?_ <;> rfl
        | true=>
         have hg5:XA magic (YN most) l= .yes (GV l) (YQ l):=by
          have h1:=P.out.2.2.2.2.2.2.2.2.2.2;rw[hbb] at h1;have h2:=Qer h1;have:=HN.out.1;have:=CB.out.2;have:=HE.out;unfold XA;rw[Qdf (Qeh H.out.2.2.1),Qdf (by have:=H.out.2.2.2.2.2.2.2;omega),Qdf (by rw[←H.out.2.2.2.1,HN.out.2];simp),Qdf (by omega),Qdf (by have:=H.out.2.2.2.2.2.2.2;omega),Qdf (by rw[←P.out.2.2.2.2.2.2.1];exact Qeh h2)]
         have G5:=Lib.hid hg5;clear hg5 hbb;go_wp2_with fail;refine (P.out.2.2.2.1 w4 K.out.2).mono ?_;rintro e w5 ⟨u,rfl,hb5,hu,hfr⟩;obtain⟨ua,uc,rfl,hu2⟩:=hu;have hne:∀ad,ua=some ad→ad.block≠w.heap.size∧w.heap.size≤ad.block:=fun ad h=>by have:=hfr ad _ _ (by rw[h]);have:=K.out.1.lt;omega
         have B6:=K.out.1.calls hb5;have BB:=bt K.out.2 hb5;have c0:w5.cell? ⟨w.heap.size,0,none⟩=some (.string ⟨#[]⟩):=B6.cell 0;have c1:w5.cell? ⟨w.heap.size,1,none⟩=some (.slice none 0 0):=B6.cell 1;have f0:=B6.frozen 0;have f1:=B6.frozen 1;have K2:=H4 B6 BB hne hu2;clear B6 BB hu2 hb5 hne hfr;go_wp2;have iM:=MT #[.string S,.slice ua (YQ l).length uc] rfl;refine Qdg (v:=.tuple #[.agg #[.string S,.slice ua (YQ l).length uc],.int .i64 E,.int .i64 0]) ?_ rfl ⟨_,rfl,(K2.out.2.1.setCell (Qde _) _).setCell (Qde _) _,?_⟩
         ·refine Eq.trans (Xw rfl _ _ w.heap.size _ _ ?_ (((K2.out.1.set_ 0 _).set_ 1 _).to rfl) underlying43 iM) ?_ <;> rfl
         ·unfold GetV;rw[G5.out];have hpl:=P.out.2.1;refine⟨.slice ua (YQ l).length uc,?_,⟨ua,uc,rfl,?_,K2.out.2.2.2.2⟩,fun ad n' c' h=>(K2.out.2.2.1 ad (by cases h;rfl)).2⟩
          ·rw[hpl,HE.out,NO,HQ.out.2,H.out.2.2.2.1]
          ·exact Vf (Vf K2.out.2.2.2.1 (fun ad h=>(K2.out.2.2.1 ad h).1) _) (fun ad h=>(K2.out.2.2.1 ad h).1) _
end Go.Proofs.YthdaabapiicnhaaGreatDoor
