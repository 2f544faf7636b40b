/- Steps of the proof. -/
import Derived.Test.YthdaabapiicnhaaGreatDoorTr31
set_option linter.all false
set_option maxRecDepth 100000
set_option maxHeartbeats 4000000
open Go.Proofs.Tryz
namespace Go.Proofs.YthdaabapiicnhaaGreatDoor.Av
open Go.RowKit
def SS.emp:SS:=⟨[],[]⟩
def SS.isEmp(A:SS):Bool:=A.hds.isEmpty&&A.cls.isEmpty
def SS.add(A B:SS):SS:=⟨A.hds++B.hds,A.cls++B.cls⟩
theorem SS.add_hd(A B:SS)(b:Nat):(A.add B).hd b=(A.hd b||B.hd b):=List.any_append
theorem SS.add_cl(A B:SS)(b i:Nat):(A.add B).cl b i=(A.cl b i||B.cl b i):=List.any_append
theorem SS.emp_hd(b:Nat):SS.emp.hd b=false:=rfl
theorem SS.emp_cl(b i:Nat):SS.emp.cl b i=false:=rfl
theorem SS.isEmp_hd{A:SS}(h:A.isEmp=true)(b:Nat):A.hd b=false:=by
 simp only[SS.isEmp,Qdo,List.isEmpty_iff] at h;unfold SS.hd;rw[h.1];rfl
theorem SS.isEmp_cl{A:SS}(h:A.isEmp=true)(b i:Nat):A.cl b i=false:=by
 simp only[SS.isEmp,Qdo,List.isEmpty_iff] at h;unfold SS.cl;rw[h.2];rfl
def SS.disj(A B:SS):Bool:=
 A.hds.all (fun x=>B.hds.all (fun y=>Nat.ble x.2 y.1||Nat.ble y.2 x.1||Nat.ble y.2 y.1||Nat.ble x.2 x.1)&&B.cls.all fun y=>Nat.blt y.1 x.1||Nat.ble x.2 y.1)&&
 A.cls.all fun x=>B.hds.all (fun y=>Nat.blt x.1 y.1||Nat.ble y.2 x.1)&&B.cls.all fun y=>!Nat.beq x.1 y.1||Nat.ble (x.2.1+x.2.2) y.2.1||Nat.ble (y.2.1+y.2.2) x.2.1
theorem E0{A:SS}{b:Nat}(h:A.hd b=true):∃x∈A.hds,x.1≤b∧b<x.2:=by
 obtain⟨x,hx,h2⟩:=Qfo.1 h;simp only[Qdo] at h2;exact⟨x,hx,Qdn h2.1,Xf h2.2⟩
theorem E4{A:SS}{b i:Nat}(h:A.cl b i=true):∃x∈A.cls,x.1=b∧x.2.1≤i∧i<x.2.1+x.2.2:=by
 obtain⟨x,hx,h2⟩:=Qfo.1 h;simp only[Qdo] at h2;exact⟨x,hx,Qd7 h2.1,Qdn h2.2.1,Xf h2.2.2⟩
theorem SS.disj_ok{A B:SS}(h:A.disj B=true)(b:Nat):(A.hd b=true→B.hd b=true→False)∧(∀i,A.hd b=true→B.cl b i=true→False)∧(∀i,A.cl b i=true→B.hd b=true→False)∧(∀i,A.cl b i=true→B.cl b i=true→False):=by
 simp only[SS.disj,Qdo,QdG,Qex,Qe5,Nat.ble_eq,Nat.blt_eq] at h;refine⟨fun h1 h2=>?_,fun i h1 h2=>?_,fun i h1 h2=>?_,fun i h1 h2=>?_⟩
 ·obtain⟨x,hx,x1,x2⟩:=E0 h1;obtain⟨y,hy,y1,y2⟩:=E0 h2;have:=(h.1 x hx).1 y hy;omega
 ·obtain⟨x,hx,x1,x2⟩:=E0 h1;obtain⟨y,hy,y1,y2,y3⟩:=E4 h2;have:=(h.1 x hx).2 y hy;omega
 ·obtain⟨x,hx,x1,x2,x3⟩:=E4 h1;obtain⟨y,hy,y1,y2⟩:=E0 h2;have:=(h.2 x hx).1 y hy;omega
 ·obtain⟨x,hx,x1,x2,x3⟩:=E4 h1;obtain⟨y,hy,y1,y2,y3⟩:=E4 h2;have:=(h.2 x hx).2 y hy;rcases this with (h3|h3)|h3
  ·rw[x1,y1,Nat.beq_refl] at h3;cases h3
  ·omega
  ·omega
def Qcl(l:List Operand):List Nat:=l.filterMap fun
 | .tmp t=>some t
 | _=>none
def Sz(ops:Array Oper)(o:Oper):List Nat:=match o.guard with
 | some (j,_)=>match ops[j]? with
  | some x=>x.dst.toList
  | none=>[]
 | none=>[]
def Y8(ops:Array Oper)(o:Oper):Nat:=Dw (Qcl o.op.operands.toList++Sz ops o)
def YW(ops:Array Oper)(tm:Tr AV)(o:Oper):Bool:=
 match o.guard with
 | none=>true
 | some (j,want)=>match ops[j]? with
  | some x=>match x.dst with
   | some t=>match YH tm t with
    | .bool b=>b==want
    | _=>false
   | none=>false
  | none=>false
theorem RA{ρ:Rh}{a:AV}{v:Value}(h:RV ρ a v)(hn:∀b,a≠.bool b)(b:Bool):v≠.bool b:=by
 intro e;subst e;cases a <;> simp only[RV,reduceCtorEq,and_false,exists_false,false_and] at h;exact hn _ rfl
theorem Ni{ρ:Rh}{ops:Array Oper}{tm:Tr AV}{a:Act}{o:Oper}(h:∀t∈Sz ops o,RV ρ (YH tm t) (a.tmps.getD t undef)):Region.wanted o (yielded ops a.tmps)=YW ops tm o:=by
 unfold Region.wanted YW;split
 ·rename_i hg;simp only[hg]
 ·rename_i j want hg;simp only[hg];unfold Sz at h;simp only[hg] at h;unfold yielded;cases hj:ops[j]? with
  | none=>rfl
  | some x=>
   simp only[hj] at h;simp only[QfN];cases hd:x.dst with
   | none=>rfl
   | some t=>
    simp only[hd,Option.toList_some,QeG,forall_eq] at h;simp only[QfN];rcases Qee t a.tmps.size with hlt|hge
    ·have e:a.tmps[t]? =some (a.tmps.getD t undef):=by simp[hlt]
     rw[e];cases hv:YH tm t with
     | bool b=>
      rw[hv] at h;simp only[RV] at h;rw[h];cases b <;> cases want <;> rfl
     | _=>
      rw[hv] at h;have hnb:=RA h (fun b e=>by cases e);simp only;generalize a.tmps.getD t undef=u at *;cases u <;> first|rfl|exact absurd rfl (hnb _)
    ·have e:a.tmps[t]? =none:=Qfe hge;rw[e];have e2:a.tmps.getD t undef=undef:=by simp[Array.getD,Nat.not_lt.2 hge]
     rw[e2] at h;cases hv:YH tm t with
     | bool b=>rw[hv] at h;simp only[RV] at h;cases h
     | _=>rfl
def SSle(A B:SS):Prop:=(∀b o n,B.free b o n=true→A.free b o n=true)∧(∀b,B.whole b=true→A.whole b=true)∧∀b,B.hd b=false→A.hd b=false
theorem Qah(A B:SS):SSle A (A.add B):=by
 have hh:∀b,(A.add B).hd b=false→A.hd b=false:=fun b h=>by rw[SS.add_hd,QdP] at h;exact h.1
 refine⟨fun b o n h=>?_,fun b h=>?_,hh⟩
 ·simp only[SS.free,Qdo,Qe5] at h ⊢;refine⟨hh b h.1,?_⟩;have:=h.2;unfold SS.add at this;simp only[Qfv,Qdo] at this;exact this.1
 ·simp only[SS.whole,Qdo,Qe5] at h ⊢;refine⟨hh b h.1,?_⟩;have:=h.2;unfold SS.add at this;simp only[Qfv,Qdo] at this;exact this.1
section
variable {A B:SS} (hl:SSle A B) {s:AS}
include hl
theorem Em{b o n:Nat}{l:List AV}(h:s.rd B b o n=some l):s.rd A b o n=some l:=by
 unfold AS.rd at h ⊢;split at h
 ·rename_i t cs opn hg;split at h
  ·rename_i hc;simp only[Qdo] at hc;simp only[hl.1 _ _ _ hc.1,hc.2,Bool.and_self,QdC];exact h
  ·cases h
 ·rename_i t cs hg;split at h
  ·rename_i hc;simp only[Qdo,Qe5] at hc;simp only[hl.2.2 _ hc.1,hc.2,Bool.and_self,Qfc,QdC];exact h
  ·cases h
 ·cases h
theorem Qav{mk b o:Nat}{l:List AV}{s':AS}(h:s.wr B mk b o l=some s'):s.wr A mk b o l=some s':=by
 unfold AS.wr at h ⊢;split at h
 ·rename_i t cs opn hg;split at h
  ·rename_i hc;simp only[Qdo] at hc;simp only[hl.1 _ _ _ hc.1,hc.2.1,hc.2.2.1,hc.2.2.2,Bool.and_self,QdC];exact h
  ·cases h
 ·cases h
theorem D9{P:Program}{t:TypeId}{x v:AV}(h:G4 P B s t x=some v):G4 P A s t x=some v:=by
 unfold G4 at h ⊢;split at h
 ·split at h
  ·rename_i d i hd hi;cases ha:FT d with
   | true=>
    rw[ha] at h;simp only[QdE] at h ⊢;split at h
    ·rename_i l hr;rw[Em hl hr];exact h
    ·cases h
   | false=>
    rw[ha] at h;simp only[cond_false] at h ⊢;split at h
    ·rename_i a hr;rw[Em hl hr];exact h
    ·cases h
  ·cases h
 ·cases h
theorem Bw{P:Program}{mk:Nat}{t:TypeId}{x y:AV}{s':AS}(h:Vp P B mk s t x y=some s'):Vp P A mk s t x y=some s':=by
 unfold Vp at h ⊢;split at h
 ·rename_i b o i hi;cases hb:(Nat.beq (Ym y).length i.size&&(Ym y).all one) with
  | false=>rw[hb] at h;cases h
  | true=>rw[hb] at h;exact Qav hl h
 ·cases h
def EG(P:Program)(D:SS)(mk:Nat)(ae:AE)(o:Oper)(s:AS):Option (AV×AS):=
 match pop P ae o with
 | some v=>some (v,s)
 | none=>match o.op with
  | .load .. | .store .. | .alloc _ | .box .. | .buildSlice .. | .makeSlice .. =>mop P D mk ae o s
  | _=>none
theorem Nd{P:Program}{mk:Nat}{ae:AE}{o:Oper}{r:AV×AS}(h:EG P B mk ae o s=some r):aop P A mk ae o s=some r:=by
 unfold EG at h;unfold aop orS;split at h
 ·rename_i v hp
  try rw[hp]
  exact h
 ·rename_i hp
  try rw[hp]
  try simp only
  split at h
  ·rename_i hop;unfold mop at h ⊢;simp only[hop] at h ⊢;unfold on1 at h ⊢;split at h
   ·rename_i a ha;unfold Ys at h ⊢;dsimp only at h ⊢;split at h
    ·rename_i v hv;rw[D9 hl hv];exact h
    ·cases h
   ·cases h
  ·rename_i hop;unfold mop at h ⊢;simp only[hop] at h ⊢;unfold on2 at h ⊢;split at h
   ·rename_i a b ha hb;unfold Hv at h ⊢;dsimp only at h ⊢;split at h
    ·rename_i v hv;rw[Bw hl hv];exact h
    ·cases h
   ·cases h
  ·rename_i hop;unfold mop at h ⊢;simp only[hop] at h ⊢;exact h
  ·rename_i hop;unfold mop at h ⊢;simp only[hop] at h ⊢;exact h
  ·rename_i hop;unfold mop at h ⊢;simp only[hop] at h ⊢;exact h
  ·rename_i hop;unfold mop at h ⊢;simp only[hop] at h ⊢;exact h
  ·cases h
end
abbrev DV:=SS→Nat→Oper→AE→AS→Option (AV×AS)
structure Rec where
 i:Nat
 e:SS
 h:AS
 tm:Tr AV
 v:AV
 o:AS
def Rec.ws(r:Rec):SS:=⟨(r.h.nx,r.o.nx)::r.o.lg.hds,r.o.lg.cls⟩
def ZK(D:SS)(m:Nat):List Rec→SS
 | []=>D
 | r::l=>bif m.testBit r.i then ZK D m l else (ZK D m l).add r.ws
def dK2(k:Nat)(e:SS)(h:AS)(tm:Tr AV)(v:AV)(s':AS)(l:List Rec):Option (Tr AV)→Option (Tr AV×AS×List Rec)
 | some tm'=>some (tm',⟨s'.hp,s'.nx,SS.emp⟩,⟨k,e,h,tm,v,s'⟩::l)
 | none=>none
def dK(nt:Nat)(d:Option Tmp)(k:Nat)(e:SS)(h:AS)(tm:Tr AV)(l:List Rec):Option (AV×AS)→Option (Tr AV×AS×List Rec)
 | some (v,s')=>dK2 k e h tm v s' l (TO nt tm d v)
 | none=>none
def Ok(run:DV)(nt:Nat)(ops:Array Oper)(k:Nat)(o:Oper)(e:SS)(tm:Tr AV)(s:AS)(l:List Rec):Option (Tr AV×AS×List Rec):=
 dK nt o.dst k e s tm l (bif YW ops tm o then run e s.nx o (aev (some (Y8 ops o)) tm) s else some (.tup [],s))
def Ol(run:DV)(D:SS)(nt:Nat)(ops:Array Oper)(bs:List Nat)(k:Nat)(o:Oper)(x:Tr AV×AS×List Rec):Option (Tr AV×AS×List Rec):=
 Ok run nt ops k o (ZK D (bs.getD k 0) x.2.2) x.1 x.2.1 x.2.2
def dgo(run:DV)(D:SS)(nt:Nat)(ops:Array Oper)(bs:List Nat)(x0:Tr AV×AS×List Rec):List Oper→Nat→Option (Tr AV×AS×List Rec)→Option (Tr AV×AS×List Rec)
 | [],_,x=>x
 | o::l,k,some x=>dgo run D nt ops bs x0 l (k+1) (Ol run D nt ops bs k o x)
 | _::_,_,none=>none
def later(bs:List Nat)(j:Nat):List Rec→SS
 | []=>SS.emp
 | r::l=>bif Nat.blt j r.i&&!(bs.getD r.i 0).testBit j then r.o.lg.add (later bs j l) else later bs j l
def HT(bs:List Nat):List Rec→Bool
 | []=>true
 | r::l=>l.all (fun q=>(bs.getD r.i 0).testBit q.i||q.ws.disj r.ws)&&HT bs l
def Mu(P:Program)(ops:Array Oper)(bs:List Nat)(all:List Rec)(r:Rec):Bool:=
 let L:=later bs r.i all
 L.isEmp||match ops[r.i]? with
  | some o=>!YW ops r.tm o||(match o.op with
   | .call {callee:=.value _,..}=>false
   | _=>(EG P (r.e.add L) r.h.nx (aev (some (Y8 ops o)) r.tm) o r.h).isSome)
  | none=>false
def Sm(bs:List Nat)(k:Nat)(o:Oper):Bool:=
 let b:=bs.getD k 0
 let X:=(Qr o).foldl (fun m e=>m||| (2^e||| bs.getD e 0)) 0
 Nat.beq (X||| b) X&&Nat.blt b (2^k)&&(Qr o).all (fun e=>Nat.blt e k)
def Bn(o:Oper):Nat:=match o.dst with
 | some d=>2^d
 | none=>0
def TP(ops:Array Oper)(b:Nat)(o:Oper):Nat→List Oper→Bool
 | _,[]=>true
 | j,q::l=>(b.testBit j||(Nat.beq (Bn q&&& (Y8 ops o||| Bn o)) 0&&Nat.beq (Bn o&&& Y8 ops q) 0))&&TP ops b o (j+1) l
def Ke(ops:Array Oper)(bs:List Nat):List Oper→List Oper→Nat→Bool
 | _,[],_=>true
 | done,o::l,k=>Sm bs k o&&TP ops (bs.getD k 0) o 0 done&&Ke ops bs (done++[o]) l (k+1)
def QcX:List Oper→List Nat→List Nat
 | [],acc=>acc
 | o::l,acc=>QcX l (acc++[(Qr o).foldl (fun m e=>m||| (2^e||| acc.getD e 0)) 0])
def FM:List Rec→SS
 | []=>SS.emp
 | r::l=>r.o.lg.add (FM l)
def EW(P:Program)(run:DV)(D:SS)(nt:Nat)(ops:Array Oper)(tm:Tr AV)(s:AS):Option (Tr AV×AS):=
 let bs:=QcX ops.toList []
 bif Ke ops bs [] ops.toList 0 then
  match dgo run D nt ops bs (tm,⟨s.hp,s.nx,SS.emp⟩,[]) ops.toList 0 (some (tm,⟨s.hp,s.nx,SS.emp⟩,[])) with
  | some (tm',s',R)=>bif HT bs R&&R.all (Mu P ops bs R) then some (tm',⟨s'.hp,s'.nx,(FM R).add s.lg⟩) else none
  | none=>none
 else none
theorem KU(bs:List Nat):∀(l:List Nat) (m j:Nat),(l.foldl (fun m e=>m||| (2^e||| bs.getD e 0)) m).testBit j=true→m.testBit j=true∨∃e∈l,j=e∨(bs.getD e 0).testBit j=true
 | [],m,j,h=>.inl h
 | e::l,m,j,h=>by
  rw[Qf8] at h;rcases KU bs l _ j h with h|⟨e',he,h⟩
  ·rw[QfE,QfE,Nat.testBit_two_pow] at h;simp only[Qex,QdM] at h;rcases h with h|h|h
   ·exact .inl h
   ·exact .inr ⟨e,Qeq,.inl h.symm⟩
   ·exact .inr ⟨e,Qeq,.inr h⟩
  ·exact .inr ⟨e',Qel _ he,h⟩
theorem FJ{bs:List Nat}{k:Nat}{o:Oper}(h:Sm bs k o=true):(∀j,(bs.getD k 0).testBit j=true→j<k∧∃e∈Qr o,j=e∨(bs.getD e 0).testBit j=true)∧∀e∈Qr o,e<k:=by
 simp only[Sm,Qdo,QdG] at h;obtain⟨⟨h1,h2⟩,h3⟩:=h;have h1:=Qd7 h1;have h2:=Xf h2;refine⟨fun j hj=>⟨?_,?_⟩,fun e he=>Xf (h3 e he)⟩
 ·refine QfO fun hle=>?_;have:bs.getD k 0<2^j:=Qdr h2 (Qep (by decide) hle);rw[Nat.testBit_lt_two_pow this] at hj;cases hj
 ·have hx:((Qr o).foldl (fun m e=>m||| (2^e||| bs.getD e 0)) 0).testBit j=true:=by
   rw[←h1,QfE,hj,Bool.or_true]
  rcases KU bs _ _ j hx with h|h
  ·simp at h
  ·exact h
theorem SD{o:Oper}{t:Nat}:(Bn o).testBit t=true↔o.dst=some t:=by
 unfold Bn;cases o.dst with
 | none=>simp
 | some d=>simp[Nat.testBit_two_pow]
theorem Ta{ops:Array Oper}{b:Nat}{o:Oper}:∀{l:List Oper} {j:Nat},TP ops b o j l=true→∀i q,l[i]? =some q→b.testBit (j+i)=true∨((∀t,q.dst=some t→(Y8 ops o).testBit t=false∧o.dst≠some t)∧∀t,o.dst=some t→(Y8 ops q).testBit t=false)
 | [],j,h,i,q,hq=>by simp at hq
 | x::l,j,h,i,q,hq=>by
  simp only[TP,Qdo,Qex] at h;cases i with
  | zero=>
   simp only[Qe6,Option.some.injEq] at hq;subst hq;rcases h.1 with h1|⟨h1,h2⟩
   ·exact .inl h1
   ·refine .inr ⟨fun t ht=>?_,fun t ht=>BA h2 (SD.2 ht)⟩;have:=BA h1 (SD.2 ht);rw[QfE,QdP] at this;refine⟨this.1,fun e=>?_⟩;rw[SD.2 e] at this;cases this.2
  | succ i=>
   rw[Qd2] at hq;have:=Ta h.2 i q hq
   rwa [show j+1+i=j+(i+1) by omega] at this
theorem Tb{ops:Array Oper}{bs:List Nat}:∀{l done:List Oper} {k:Nat},Ke ops bs done l k=true→done.length=k→∀i o,l[i]? =some o→Sm bs (k+i) o=true∧∀j q,(done++l)[j]? =some q→j<k+i→
  (bs.getD (k+i) 0).testBit j=true∨((∀t,q.dst=some t→(Y8 ops o).testBit t=false∧o.dst≠some t)∧∀t,o.dst=some t→(Y8 ops q).testBit t=false)
 | [],done,k,h,hd,i,o,ho=>by simp at ho
 | x::l,done,k,h,hd,i,o,ho=>by
  simp only[Ke,Qdo] at h;cases i with
  | zero=>
   simp only[Qe6,Option.some.injEq] at ho;subst ho;refine⟨h.1.1,fun j q hq hj=>?_⟩;have hq':done[j]? =some q:=by
    rw[Qd3 (by omega)] at hq;exact hq
   have:=Ta h.1.2 j q hq'
   rwa [Qd5] at this
  | succ i=>
   rw[Qd2] at ho;have:=Tb h.2 (by simp[hd]) i o ho;rw[show k+1+i=k+(i+1) by omega] at this;refine⟨this.1,fun j q hq hj=>this.2 j q ?_ hj⟩
   rwa [Qd0,List.singleton_append]
structure Seq (P:Program) (run:DV) (D:SS) (nt:Nat) (ops:Array Oper) (bs:List Nat) (n:Nat) (H:Nat→AS) (T:Nat→Tr AV) (V:Nat→AV) (O:Nat→AS) (E:Nat→SS):Prop where
 lg:∀k,k≤n→(H k).lg=SS.emp
 hp:∀k,k<n→(H (k+1)).hp=(O k).hp∧(H (k+1)).nx=(O k).nx
 tm:∀k o,k<n→ops[k]? =some o→TO nt (T k) o.dst (V k)=some (T (k+1))
 run:∀k o,k<n→ops[k]? =some o→(YW ops (T k) o=true∧run (E k) (H k).nx o (aev (some (Y8 ops o)) (T k)) (H k)=some (V k,O k))∨(YW ops (T k) o=false∧V k= .tup []∧O k=H k)
def Je(H:Nat→AS)(T:Nat→Tr AV)(V:Nat→AV)(O:Nat→AS)(E:Nat→SS)(k:Nat):Rec:=⟨k,E k,H k,T k,V k,O k⟩
def VD(H:Nat→AS)(T:Nat→Tr AV)(V:Nat→AV)(O:Nat→AS)(E:Nat→SS):Nat→List Rec
 | 0=>[]
 | k+1=>Je H T V O E k::VD H T V O E k
def Zw{α:Type}(f:Nat→α)(k:Nat)(v:α):Nat→α:=fun j=>if j=k then v else f j
theorem Vd{H H':Nat→AS}{T T':Nat→Tr AV}{V V':Nat→AV}{O O':Nat→AS}{E E':Nat→SS}:∀{n:Nat},(∀k,k<n→Je H T V O E k=Je H' T' V' O' E' k)→VD H T V O E n=VD H' T' V' O' E' n
 | 0,_=>rfl
 | n+1,h=>by
  unfold VD;rw[h n (by omega),Vd (n:=n) fun k hk=>h k (by omega)]
theorem Oo{run:DV}{D:SS}{nt:Nat}{ops:Array Oper}{bs:List Nat}{x0:Tr AV×AS×List Rec}:∀(l:List Oper) (k:Nat) {y:Tr AV×AS×List Rec},dgo run D nt ops bs x0 l k none=some y→False
 | [],k,y,h=>by cases h
 | o::l,k,y,h=>by cases h
theorem EC{P:Program}{run:DV}{D:SS}{nt:Nat}{ops:Array Oper}{bs:List Nat}{x0:Tr AV×AS×List Rec}:∀(l:List Oper) (k:Nat) {tm tm':Tr AV} {s s':AS} {R:List Rec} (H:Nat→AS) (T:Nat→Tr AV) (V:Nat→AV) (O:Nat→AS) (E:Nat→SS),
  dgo run D nt ops bs x0 l k (some (tm,s,VD H T V O E k))=some (tm',s',R)→(∀i,l[i]? =ops[k+i]?)→Seq P run D nt ops bs k H T V O E→H k=s→T k=tm→(∀j,j<k→E j=ZK D (bs.getD j 0) (VD H T V O E j))→
  ∃H' T' V' O' E',Seq P run D nt ops bs (k+l.length) H' T' V' O' E'∧H' (k+l.length)=s'∧T' (k+l.length)=tm'∧R=VD H' T' V' O' E' (k+l.length)∧(∀j,j<k+l.length→E' j=ZK D (bs.getD j 0) (VD H' T' V' O' E' j))∧H' 0=H 0∧T' 0=T 0
 | [],k,tm,tm',s,s',R,H,T,V,O,E,h,hl,hs,h1,h2,h3=>by
  simp only[dgo,Option.some.injEq,Prod.mk.injEq] at h;obtain⟨rfl,rfl,rfl⟩:=h;exact⟨H,T,V,O,E,hs,h1,h2,rfl,h3,rfl,rfl⟩
 | o::l,k,tm,tm',s,s',R,H,T,V,O,E,h,hl,hs,h1,h2,h3=>by
  simp only[dgo] at h;have ho:ops[k]? =some o:=by have:=hl 0;simpa using this.symm
  cases hd:Ol run D nt ops bs k o (tm,s,VD H T V O E k) with
  | none=>rw[hd] at h;exact (Oo l (k+1) h).elim
  | some y=>
   rw[hd] at h;obtain⟨e,he⟩:=nE (ZK D (bs.getD k 0) (VD H T V O E k));unfold Ol Ok dK at hd;simp only at hd;rw[←he] at hd;split at hd
   ·rename_i v s1 hr;unfold dK2 at hd;split at hd
    ·rename_i tm1 ht;simp only[Option.some.injEq] at hd;subst hd;have Hc:∀j,j<k→Je H T V O E j=Je (Zw H (k+1) ⟨s1.hp,s1.nx,SS.emp⟩) (Zw T (k+1) tm1) (Zw V k v) (Zw O k s1) (Zw E k e) j:=fun j hj=>by
      unfold Je Zw;rw[Qdf (by omega),Qdf (by omega),Qdf (by omega),Qdf (by omega),Qdf (by omega)]
     have hk:(⟨k,e,s,tm,v,s1⟩:Rec)::VD H T V O E k=VD (Zw H (k+1) ⟨s1.hp,s1.nx,SS.emp⟩) (Zw T (k+1) tm1) (Zw V k v) (Zw O k s1) (Zw E k e) (k+1):=by
      rw[Vd Hc];show _=Je _ _ _ _ _ k::_;congr 1;unfold Je Zw;rw[Qdm rfl,Qdm rfl,Qdm rfl,Qdf (by omega),Qdf (by omega),h1,h2]
     rw[hk] at h;have ne:∀j,j≤k→(Zw H (k+1) ⟨s1.hp,s1.nx,SS.emp⟩) j=H j∧(Zw T (k+1) tm1) j=T j:=fun j hj=>⟨by unfold Zw;rw[Qdf (by omega)],by unfold Zw;rw[Qdf (by omega)]⟩;have nl:∀j,j<k→(Zw V k v) j=V j∧(Zw O k s1) j=O j∧(Zw E k e) j=E j:=fun j hj=>⟨by unfold Zw;rw[Qdf (by omega)],by unfold Zw;rw[Qdf (by omega)],by unfold Zw;rw[Qdf (by omega)]⟩;have at1:(Zw H (k+1) ⟨s1.hp,s1.nx,SS.emp⟩) (k+1)=⟨s1.hp,s1.nx,SS.emp⟩∧(Zw T (k+1) tm1) (k+1)=tm1∧(Zw V k v) k=v∧(Zw O k s1) k=s1∧(Zw E k e) k=e:=⟨Qdm rfl,Qdm rfl,Qdm rfl,Qdm rfl,Qdm rfl⟩;have:=EC l (k+1) _ _ _ _ _ h (fun i=>by have:=hl (i+1);rw[Qd2] at this;rw[this];congr 1;omega) (P:=P) ?_ at1.1 at1.2.1 ?_
     ·obtain⟨H',T',V',O',E',q1,q2,q3,q4,q5,q6,q7⟩:=this;rw[show k+1+l.length=k+(l.length+1) by omega] at q1 q2 q3 q4 q5;refine⟨H',T',V',O',E',q1,q2,q3,q4,q5,q6.trans (ne 0 (by omega)).1,q7.trans (ne 0 (by omega)).2⟩
     ·refine⟨fun j hj=>?_,fun j hj=>?_,fun j q hj hq=>?_,fun j q hj hq=>?_⟩
      ·by_cases e1:j=k+1
       ·subst e1;rw[at1.1]
       ·rw[(ne j (by omega)).1];exact hs.lg j (by omega)
      ·by_cases e1:j=k
       ·subst e1;rw[at1.1,at1.2.2.2.1];exact⟨rfl,rfl⟩
       ·rw[(ne (j+1) (by omega)).1,(nl j (by omega)).2.1];exact hs.hp j (by omega)
      ·by_cases e1:j=k
       ·subst e1;rw[ho] at hq;cases hq;rw[at1.2.1,at1.2.2.1,(ne j (by omega)).2,h2];exact ht
       ·rw[(ne (j+1) (by omega)).2,(ne j (by omega)).2,(nl j (by omega)).1];exact hs.tm j q (by omega) hq
      ·by_cases e1:j=k
       ·subst e1;rw[ho] at hq;cases hq;rw[at1.2.2.1,at1.2.2.2.1,at1.2.2.2.2,(ne j (by omega)).1,(ne j (by omega)).2,h1,h2];cases hw:YW ops tm o with
        | true=>rw[hw] at hr;exact .inl ⟨rfl,hr⟩
        | false=>rw[hw] at hr;simp only[cond_false,Option.some.injEq,Prod.mk.injEq] at hr;exact .inr ⟨rfl,hr.1.symm,hr.2.symm⟩
       ·rw[(ne j (by omega)).1,(ne j (by omega)).2,(nl j (by omega)).1,(nl j (by omega)).2.1,(nl j (by omega)).2.2];exact hs.run j q (by omega) hq
     ·intro j hj;by_cases e1:j=k
      ·subst e1;exact at1.2.2.2.2.trans (he.trans (congrArg _ (Vd Hc)))
      ·rw[(nl j (by omega)).2.2,h3 j (by omega)];congr 1;exact Vd fun i hi=>Hc i (by omega)
    ·cases hd
   ·cases hd
def WS(H O:Nat→AS)(j:Nat):SS:=⟨((H j).nx,(O j).nx)::(O j).lg.hds,(O j).lg.cls⟩
theorem EZ{H O:Nat→AS}{j b:Nat}:(WS H O j).hd b=wh (H j).nx (O j).nx (O j).lg b:=rfl
def Bf(bs:List Nat)(k j:Nat):Prop:=(bs.getD k 0).testBit j=true
structure Fx (P:Program) (c:YK) (D:SS) (nt:Nat) (ops:Array Oper) (bs:List Nat) (n:Nat) (H:Nat→AS) (T:Nat→Tr AV) (V:Nat→AV) (O:Nat→AS) (X:Nat→SS):Prop where
 siz:ops.size=n
 lg:∀k,k≤n→(H k).lg=SS.emp
 hp:∀k,k<n→(H (k+1)).hp=(O k).hp∧(H (k+1)).nx=(O k).nx
 tm:∀k o,k<n→ops[k]? =some o→TO nt (T k) o.dst (V k)=some (T (k+1))
 run:∀k o,k<n→ops[k]? =some o→(YW ops (T k) o=true∧G1 P c (X k) (H k).nx o (aev (some (Y8 ops o)) (T k)) (H k)=some (V k,O k))∨(YW ops (T k) o=false∧V k= .tup []∧O k=H k)
 bl:∀k,k<n→∀j,Bf bs k j→j<k
 be:∀k o,k<n→ops[k]? =some o→(∀j,Bf bs k j→∃e∈Qr o,j=e∨Bf bs e j)∧∀e∈Qr o,e<k
 ts:∀j k q o,j<k→k<n→ops[j]? =some q→ops[k]? =some o→Bf bs k j∨((∀t,q.dst=some t→(Y8 ops o).testBit t=false∧o.dst≠some t)∧∀t,o.dst=some t→(Y8 ops q).testBit t=false)
 pr:∀j k,j<k→k<n→Bf bs k j∨(WS H O j).disj (WS H O k)=true
 xd:∀k,k<n→∀b,((X k).hd b=false→D.hd b=false)∧∀i,(X k).cl b i=false→D.cl b i=false
 xs:∀k,k<n→∀j,j<n→j≠k→¬Bf bs j k→¬Bf bs k j→∀b,((X k).hd b=false→(j<k→(WS H O j).hd b=false)∧(k<j→(O j).lg.hd b=false))∧∀i,(X k).cl b i=false→(WS H O j).cl b i=false
 xc:∀k,k<n→∀b,((X k).hd b=true→D.hd b=true∨∃j,j<n∧j≠k∧¬Bf bs j k∧¬Bf bs k j∧(WS H O j).hd b=true)∧∀i,(X k).cl b i=true→D.cl b i=true∨∃j,j<n∧j≠k∧¬Bf bs j k∧¬Bf bs k j∧(WS H O j).cl b i=true
def bad(bs:List Nat)(n k:Nat)(S:Nat→Bool)(j:Nat):Prop:=(k<n∧j≠k∧¬Bf bs j k∧¬Bf bs k j)∨((k=n∨Bf bs k j)∧S j=false)
open Classical in
noncomputable def dnH(D:SS)(bs:List Nat)(n:Nat)(H O:Nat→AS)(k:Nat)(S:Nat→Bool)(b:Nat):Bool:=decide (D.hd b=true∨∃j,j<n∧bad bs n k S j∧(WS H O j).hd b=true)
open Classical in
noncomputable def dnC(D:SS)(bs:List Nat)(n:Nat)(H O:Nat→AS)(k:Nat)(S:Nat→Bool)(b i:Nat):Bool:=decide (D.cl b i=true∨∃j,j<n∧bad bs n k S j∧(WS H O j).cl b i=true)
theorem ZV{D:SS}{bs:List Nat}{n:Nat}{H O:Nat→AS}{k:Nat}{S:Nat→Bool}{b:Nat}:dnH D bs n H O k S b=false↔D.hd b=false∧∀j,j<n→bad bs n k S j→(WS H O j).hd b=false:=by
 unfold dnH;rw[QeB,not_or,Bool.not_eq_true];refine and_congr_right fun _=>⟨fun h j hj hb=>?_,fun h ⟨j,hj,hb,hw⟩=>?_⟩
 ·cases hw:(WS H O j).hd b with
  | false=>rfl
  | true=>exact absurd ⟨j,hj,hb,hw⟩ h
 ·rw[h j hj hb] at hw;cases hw
theorem Y7{D:SS}{bs:List Nat}{n:Nat}{H O:Nat→AS}{k:Nat}{S:Nat→Bool}{b i:Nat}:dnC D bs n H O k S b i=false↔D.cl b i=false∧∀j,j<n→bad bs n k S j→(WS H O j).cl b i=false:=by
 unfold dnC;rw[QeB,not_or,Bool.not_eq_true];refine and_congr_right fun _=>⟨fun h j hj hb=>?_,fun h ⟨j,hj,hb,hw⟩=>?_⟩
 ·cases hw:(WS H O j).cl b i with
  | false=>rfl
  | true=>exact absurd ⟨j,hj,hb,hw⟩ h
 ·rw[h j hj hb] at hw;cases hw
structure DI (P:Program) (D:SS) (nt:Nat) (ops:Array Oper) (bs:List Nat) (n:Nat) (H:Nat→AS) (T:Nat→Tr AV) (O:Nat→AS) (WH:Nat→Bool) (WC:Nat→Nat→Bool) (ρ0:Rh) (ω0:Nat→Option Nat) (w0:World) (S:Nat→Bool) (ρ:Rh) (ω:Nat→Option Nat) (a:Act) (w:World):Prop where
 sim:∀k,k≤n→(k<n→S k=false)→Sim P ρ ω (dnH D bs n H O k S) (dnC D bs n H O k S) (H k).hp.get w
 sz:a.tmps.size=nt
 df:a.defers=[]
 tm:∀k,k≤n→(k<n→S k=false)→∀t,(∀o,k<n→ops[k]? =some o→(Y8 ops o).testBit t=true)→(∀j q,j<n→S j=false→(k=n∨Bf bs k j)→ops[j]? =some q→q.dst≠some t)→RV ρ (YH (T k) t) (a.tmps.getD t undef)
 fr:Fm ρ0 ω0 w0 WH WC ρ ω w
 rng:∀b,ρ0 b=none→ρ b≠none→∃j,j<n∧S j=true∧(H j).nx≤b∧b<(O j).nx
 cl:∀k,k<n→S k=true→∀j,Bf bs k j→S j=true
theorem Fd{P:Program}{ρ:Rh}{d d' e:Nat→Bool}{b o:Nat}:∀{ao:AO} {g:Pl} {x y:Option Obj},wn b ao=some o→OR P ρ d ao g x→SameBut e x y→(∀i,d' i=false→d i=false∧e i=false)→OR P ρ d' ao g y
 | .row t cs opn,g,x,y,_,h,hs,hd=>by
  obtain⟨c,rfl,h2,h3,h4,h5⟩:=h;obtain⟨c',rfl,k2,k3⟩:=hs;refine⟨c',rfl,by omega,h3,fun e=>by rw[k2];exact h4 e,fun i a hi hdi=>?_⟩;obtain⟨v,h6,h7⟩:=h5 i a hi (hd i hdi).1;exact⟨v,by rw[k3 i (hd i hdi).2];exact h6,h7⟩
 | .mp es n,g,x,y,_,h,hs,hd=>by
  obtain⟨es',rfl,h2⟩:=h;have:y=some (.map es'.toArray n):=hs;exact⟨es',this,h2⟩
 | .ro t cs,g,x,y,hw,_,_,_=>by cases hw
theorem OR.weak{P:Program}{ρ:Rh}{d d':Nat→Bool}:∀{ao:AO} {g:Pl} {x:Option Obj},OR P ρ d ao g x→(∀i,d' i=false→d i=false)→OR P ρ d' ao g x
 | .row t cs opn,g,x,h,hd=>by
  obtain⟨c,h1,h2,h3,h4,h5⟩:=h;exact⟨c,h1,h2,h3,h4,fun i a hi hdi=>h5 i a hi (hd i hdi)⟩
 | .mp es n,g,x,h,hd=>h
 | .ro t cs,g,x,h,hd=>h
theorem MQ{P:Program}{ρ ρ':Rh}{ω ω':Nat→Option Nat}{w w':World}{wh:Nat→Bool}{wc:Nat→Nat→Bool}(fr:Fm ρ ω w wh wc ρ' ω' w'){b:Nat}{ao:AO}{g:Pl}{d d':Nat→Bool}(h1:ρ b=some g)(h2:ω g.blk=wn b ao)(h3:g.blk<w.heap.size)(h4:OR P ρ d ao g w.heap[g.blk]?)
  (hw:wh b=false) (hd:∀i,d' i=false→d i=false∧wc b i=false):ρ' b=some g∧ω' g.blk=wn b ao∧g.blk<w'.heap.size∧OR P ρ' d' ao g w'.heap[g.blk]? :=by
 refine⟨fr.ext _ _ h1,?_⟩;cases ao with
 | ro t cs=>
  obtain⟨f1,f2⟩:=fr.fgn g.blk h3 h2;refine⟨f1,Qdr h3 fr.size,?_⟩;rw[f2];exact h4.mono (a:=.ro t cs) fr.ext
 | row t cs opn=>
  obtain⟨f1,f2⟩:=fr.own g.blk b h3 h2 hw;exact⟨f1,Qdr h3 fr.size,Fd (b:=b) (o:=b) (ao:=.row t cs opn) rfl (h4.mono fr.ext) f2 hd⟩
 | mp es n=>
  obtain⟨f1,f2⟩:=fr.own g.blk b h3 h2 hw;exact⟨f1,Qdr h3 fr.size,Fd (b:=b) (o:=b) (ao:=.mp es n) rfl (h4.mono fr.ext) f2 hd⟩
section
variable {P:Program} {c:YK} {D:SS} {nt:Nat} {ops:Array Oper} {bs:List Nat} {n:Nat} {H:Nat→AS} {T:Nat→Tr AV} {V:Nat→AV} {O:Nat→AS} {X:Nat→SS}
theorem Fx.op(F:Fx P c D nt ops bs n H T V O X){k:Nat}(hk:k<n):∃o,ops[k]? =some o:=⟨_,Qev (by rw[F.siz];exact hk)⟩
theorem Fx.post(F:Fx P c D nt ops bs n H T V O X){W0:World}{nG:Nat}(hc:Zo P W0 nG c){k:Nat}(hk:k<n):APost (H k).nx (H k) (O k):=by
 obtain⟨o,ho⟩:=F.op hk;rcases F.run k o hk ho with ⟨_,h⟩|⟨_,_,h⟩
 ·exact (Gz hc h (Qde _)).1
 ·rw[h];exact APost.refl _ _
theorem Fx.nx(F:Fx P c D nt ops bs n H T V O X){W0:World}{nG:Nat}(hc:Zo P W0 nG c):∀{j k:Nat},j≤k→k≤n→(H j).nx≤(H k).nx
 | j,0,hj,hk=>by
            have:j=0:=by omega
            subst this;exact Qde _
 | j,k+1,hj,hk=>by
  rcases Qee j (k+1) with h|h
  ·have h1:=F.nx hc (j:=j) (k:=k) (by omega) (by omega);have h2:=(F.post hc (k:=k) (by omega)).nx;rw[←(F.hp k (by omega)).2] at h2;omega
  ·have:j=k+1:=by omega
   subst this;exact Qde _
theorem Fx.nxo(F:Fx P c D nt ops bs n H T V O X){W0:World}{nG:Nat}(hc:Zo P W0 nG c){j k:Nat}(hj:j<k)(hk:k≤n):(O j).nx≤(H k).nx:=by
 rw[←(F.hp j (by omega)).2];exact F.nx hc hj hk
theorem Fx.same(F:Fx P c D nt ops bs n H T V O X){W0:World}{nG:Nat}(hc:Zo P W0 nG c){m b:Nat}:∀{k:Nat},m≤k→k≤n→(∀j,m≤j→j<k→(WS H O j).hd b=false)→∀d:Nat→Bool,(∀i,d i=false→∀j,m≤j→j<k→(WS H O j).cl b i=false)→ASame d ((H m).hp.get b) ((H k).hp.get b)
 | 0,hm,_,_,d,_=>by
  have:m=0:=by omega
  subst this;exact ASame.refl _ _
 | k+1,hm,hk,h1,d,h2=>by
  rcases Qee m (k+1) with h|h
  ·have a1:=F.same hc (k:=k) (by omega) (by omega) (fun j hj hj2=>h1 j hj (by omega)) d fun i hi j hj hj2=>h2 i hi j hj (by omega);have a2:=(F.post hc (k:=k) (by omega)).abs b (by rw[←EZ];exact h1 k (by omega) (by omega));rw[(F.hp k (by omega)).1];exact a1.trans a2 fun i hi=>⟨hi,h2 i hi k (by omega) (by omega)⟩
  ·have:m=k+1:=by omega
   subst this;exact ASame.refl _ _
theorem Fx.wf(F:Fx P c D nt ops bs n H T V O X){W0:World}{nG:Nat}(hc:Zo P W0 nG c)(h0:WF (H 0)):∀{k:Nat},k≤n→WF (H k)
 | 0,_=>h0
 | k+1,hk=>by
  have h1:=F.wf hc h0 (k:=k) (by omega);have h2:=(F.post hc (k:=k) (by omega)).hpn h1;intro b hb;rw[(F.hp k (by omega)).1];rw[(F.hp k (by omega)).2] at hb;exact h2 b hb
theorem Fx.dis(F:Fx P c D nt ops bs n H T V O X){i j:Nat}(hi:i<n)(hj:j<n)(hne:j≠i)(h1:¬Bf bs j i)(h2:¬Bf bs i j)(b:Nat):
  ((WS H O i).hd b=true→(WS H O j).hd b=true→False)∧(∀x,(WS H O i).hd b=true→(WS H O j).cl b x=true→False)∧(∀x,(WS H O i).cl b x=true→(WS H O j).hd b=true→False)∧(∀x,(WS H O i).cl b x=true→(WS H O j).cl b x=true→False):=by
 rcases Nat.lt_or_gt_of_ne hne with h|h
 ·rcases F.pr j i h hi with k|k
  ·exact absurd k h2
  ·obtain⟨a1,a2,a3,a4⟩:=SS.disj_ok k b;exact⟨fun x y=>a1 y x,fun z x y=>a3 z y x,fun z x y=>a2 z y x,fun z x y=>a4 z y x⟩
 ·rcases F.pr i j h hj with k|k
  ·exact absurd k h1
  ·exact SS.disj_ok k b
end
theorem Hs{d:Nat→Bool}{x:Option AO}{ao:AO}(h:ASame d x (some ao)):(∃t c1 c2 o,x=some (.row t c1 o)∧ao= .row t c2 o∧c2.length=c1.length∧∀i,d i=false→c2[i]? =c1[i]?)∨(∃es m,x=some (.mp es m)∧ao= .mp es m)∨∃t cs,x=some (.ro t cs)∧ao= .ro t cs:=by
 unfold ASame at h;split at h
 ·rename_i t c o;obtain⟨c',h1,h2,h3⟩:=h;exact .inl ⟨t,c,c',o,rfl,Option.some.inj h1,h2,h3⟩
 ·rename_i hx;subst h;cases ao with
  | row t c o=>exact absurd rfl (hx t c o)
  | mp es m=>exact .inr (.inl ⟨es,m,rfl,rfl⟩)
  | ro t cs=>exact .inr (.inr ⟨t,cs,rfl,rfl⟩)
theorem Wm{S:Nat→Bool}{i j:Nat}(h:onL S i j=false):S j=false∧j≠i:=by
 unfold onL at h;simp only[QdP] at h;exact⟨h.1,by simpa using h.2⟩
theorem Hk{S:Nat→Bool}{i j:Nat}(h:S j=false)(hn:j≠i):onL S i j=false:=by
 unfold onL;rw[h];simpa using hn
section
variable {P:Program} {c:YK} {D:SS} {nt:Nat} {ops:Array Oper} {bs:List Nat} {n:Nat} {H:Nat→AS} {T:Nat→Tr AV} {V:Nat→AV} {O:Nat→AS} {X:Nat→SS}
 {WH:Nat→Bool} {WC:Nat→Nat→Bool} {ρ0:Rh} {ω0:Nat→Option Nat} {w0:World}
theorem Fx.tsame(F:Fx P c D nt ops bs n H T V O X){m t:Nat}:∀{k:Nat},m≤k→k≤n→(∀j q,m≤j→j<k→ops[j]? =some q→q.dst≠some t)→YH (T k) t=YH (T m) t
 | 0,hm,_,_=>by
  have:m=0:=by omega
  subst this;rfl
 | k+1,hm,hk,h=>by
  rcases Qee m (k+1) with hl|hl
  ·obtain⟨o,ho⟩:=F.op (k:=k) (by omega);rw[Kd (F.tm k o (by omega) ho),Qdf (h k o (by omega) (by omega) ho)];exact F.tsame (by omega) (by omega) fun j q hj hj2=>h j q hj (by omega)
  ·have:m=k+1:=by omega
   subst this;rfl
theorem Fx.core(F:Fx P c D nt ops bs n H T V O X){W0:World}{nG:Nat}(hc:Zo P W0 nG c)(hwf:WF (H 0))(hWH:∀j,j<n→∀b,WH b=false→(WS H O j).hd b=false)(hWC:∀j,j<n→∀b i,WC b i=false→(WS H O j).cl b i=false)
  {S:Nat→Bool} {ρ ρ':Rh} {ω ω':Nat→Option Nat} {a:Act} {w w':World} (I:DI P D nt ops bs n H T O WH WC ρ0 ω0 w0 S ρ ω a w) {i:Nat} {o:Oper} (hi:i<n) (ho:ops[i]? =some o) (hS:S i=false) (hpre:∀j,Bf bs i j→S j=true)
  {v':Value} (hv:RV ρ' (V i) v') (hp:RPost P (X i) (H i).nx ρ ω w (H i) (O i) ρ' ω' w'):DI P D nt ops bs n H T O WH WC ρ0 ω0 w0 (onL S i) ρ' ω' (a.put o.dst v') w':=by
 have ext:=hp.fr.ext;refine⟨?_,by rw[HG];exact I.sz,by rw[Kq];exact I.df,?_,?_,?_,?_⟩
 ·intro k hk hS'k b ao hdn hHk;have hki:k≠i:=fun e=>by
   rcases Qee k n with h|h
   ·exact (Wm (hS'k h)).2 e
   ·omega
  have hSk:k<n→S k=false:=fun h=>(Wm (hS'k h)).1;obtain⟨hD,hdn⟩:=ZV.1 hdn;by_cases hun:k<n∧¬Bf bs i k∧¬Bf bs k i
  ·have hWi:(WS H O i).hd b=false:=hdn i hi (.inl ⟨hun.1,Ne.symm hki,hun.2.1,hun.2.2⟩);have hne:∀j,(k=n∨Bf bs k j)→j≠i:=fun j hj e=>by
    subst e;rcases hj with hj|hj
    ·omega
    ·exact hun.2.2 hj
   obtain⟨g,h1,h2,h3,h4⟩:=I.sim k hk hSk b ao (ZV.2 ⟨hD,fun j hj hb=>by
    rcases hb with hb|⟨hb,hSj⟩
    ·exact hdn j hj (.inl hb)
    ·exact hdn j hj (.inr ⟨hb,Hk hSj (hne j hb)⟩)⟩) hHk
   refine⟨g,MQ hp.fr h1 h2 h3 h4 hWi fun x hx=>?_⟩;obtain⟨hDc,hdc⟩:=Y7.1 hx;refine⟨Y7.2 ⟨hDc,fun j hj hb=>?_⟩,hdc i hi (.inl ⟨hun.1,Ne.symm hki,hun.2.1,hun.2.2⟩)⟩;rcases hb with hb|⟨hb,hSj⟩
   ·exact hdc j hj (.inl hb)
   ·exact hdc j hj (.inr ⟨hb,Hk hSj (hne j hb)⟩)
  ·have hbk:k=n∨Bf bs k i:=by
    rcases Qee k n with h|h
    ·right;refine Classical.byContradiction fun h2=>?_;by_cases h1:Bf bs i k
     ·have:=hpre k h1;rw[hSk h] at this;cases this
     ·exact hun ⟨h,h1,h2⟩
    ·left;omega
   have hik:i<k:=by
    rcases hbk with h|h
    ·omega
    ·rcases Qee k n with h'|h'
     ·exact F.bl k h' i h
     ·omega
   have hmid:∀j,i<j→j<k→¬bad bs n k (onL S i) j→S j=true∧¬Bf bs i j∧¬Bf bs j i:=fun j h1 h2 h3=>by
    have hjn:j<n:=by omega
    have hSj:S j=true:=by
     cases hs:S j with
     | true=>rfl
     | false=>
      exfalso;have hs':=Hk hs (show j≠i by omega);rcases Qee k n with h|h
      ·by_cases hb:Bf bs k j
       ·exact h3 (.inr ⟨.inr hb,hs'⟩)
       ·exact h3 (.inl ⟨h,by omega,fun hb2=>by have:=F.bl j hjn k hb2;omega,hb⟩)
      ·exact h3 (.inr ⟨.inl (by omega),hs'⟩)
    refine⟨hSj,fun h=>by have:=F.bl i hi j h;omega,fun h=>?_⟩;have:=I.cl j hjn hSj i h;rw[hS] at this;cases this
   by_cases hWi:(WS H O i).hd b=true
   ·
    have hXb:(X i).hd b=false:=by
     cases hx:(X i).hd b with
     | false=>rfl
     | true=>
      exfalso;rcases (F.xc i hi b).1 hx with h|⟨j,hj,j1,j2,j3,j4⟩
      ·rw[hD] at h;cases h
      ·exact (F.dis hi hj j1 j2 j3 b).1 hWi j4
    have sm:=F.same hc (m:=i+1) (k:=k) (b:=b) (by omega) hk (fun j h1 h2=>by
     cases hw:(WS H O j).hd b with
     | false=>rfl
     | true=>
      exfalso;obtain⟨_,u1,u2⟩:=hmid j (by omega) h2 fun hb=>by rw[hdn j (by omega) hb] at hw;cases hw
      exact (F.dis hi (show j<n by omega) (by omega) u2 u1 b).1 hWi hw) (dnC D bs n H O k (onL S i) b) (fun x hx j h1 h2=>by
     cases hw:(WS H O j).cl b x with
     | false=>rfl
     | true=>
      exfalso;obtain⟨_,u1,u2⟩:=hmid j (by omega) h2 fun hb=>by rw[(Y7.1 hx).2 j (by omega) hb] at hw;cases hw
      exact (F.dis hi (show j<n by omega) (by omega) u2 u1 b).2.1 x hWi hw)
    rw[(F.hp i hi).1,hHk] at sm;rcases Hs sm with ⟨t,c1,c2,opn,e1,rfl,e3,e4⟩|⟨es,m,e1,rfl⟩|⟨t,cs,e1,rfl⟩
    ·obtain⟨g,h1,h2,h3,c0,k1,k2,k3,k4,k5⟩:=hp.sim b _ hXb e1;refine⟨g,h1,h2,h3,c0,k1,by omega,k3,k4,fun x av hx hdx=>?_⟩;refine k5 x av (by rw[←e4 x hdx];exact hx) ?_;cases hxc:(X i).cl b x with
     | false=>rfl
     | true=>
      exfalso;rcases (F.xc i hi b).2 x hxc with h|⟨j,hj,j1,j2,j3,j4⟩
      ·rw[(Y7.1 hdx).1] at h;cases h
      ·exact (F.dis hi hj j1 j2 j3 b).2.1 x hWi j4
    ·obtain⟨g,h1,h2,h3,k1⟩:=hp.sim b _ hXb e1;exact⟨g,h1,h2,h3,k1⟩
    ·obtain⟨g,h1,h2,h3,k1⟩:=hp.sim b _ hXb e1;exact⟨g,h1,h2,h3,k1⟩
   ·have hWi':(WS H O i).hd b=false:=by simpa using hWi
    obtain⟨g,h1,h2,h3,h4⟩:=I.sim k hk hSk b ao (ZV.2 ⟨hD,fun j hj hb=>by
     by_cases e:j=i
     ·subst e;exact hWi'
     ·rcases hb with hb|⟨hb,hSj⟩
      ·exact hdn j hj (.inl hb)
      ·exact hdn j hj (.inr ⟨hb,Hk hSj e⟩)⟩) hHk
    cases ao with
    | mp es m=>
     obtain⟨k1,k2,k3,k4⟩:=MQ (d':=fun _=>true) hp.fr h1 h2 h3 h4 hWi' fun x hx=>by cases hx
     exact⟨g,k1,k2,k3,k4⟩
    | ro t cs=>
     obtain⟨k1,k2,k3,k4⟩:=MQ (d':=fun _=>true) hp.fr h1 h2 h3 h4 hWi' fun x hx=>by cases hx
     exact⟨g,k1,k2,k3,k4⟩
    | row t cs opn=>
     obtain⟨f1,f2⟩:=hp.fr.own g.blk b h3 h2 hWi';refine⟨g,ext _ _ h1,f1,Qdr h3 hp.fr.size,?_⟩;have h4:=h4.mono ext;obtain⟨c0,e1,e2,e3,e4,e5⟩:=h4;rw[e1] at f2;obtain⟨c',g1,g2,g3⟩:=f2;refine⟨c',g1,by omega,e3,fun e=>by rw[g2];exact e4 e,fun x av hx hdx=>?_⟩;obtain⟨hDc,hdc⟩:=Y7.1 hdx;by_cases hw:(WS H O i).cl b x=true
     ·have hXb:(X i).hd b=false:=by
       cases hx:(X i).hd b with
       | false=>rfl
       | true=>
        exfalso;rcases (F.xc i hi b).1 hx with h|⟨j,hj,j1,j2,j3,j4⟩
        ·rw[hD] at h;cases h
        ·exact (F.dis hi hj j1 j2 j3 b).2.2.1 x hw j4
      have hXc:(X i).cl b x=false:=by
       cases hxc:(X i).cl b x with
       | false=>rfl
       | true=>
        exfalso;rcases (F.xc i hi b).2 x hxc with h|⟨j,hj,j1,j2,j3,j4⟩
        ·rw[hDc] at h;cases h
        ·exact (F.dis hi hj j1 j2 j3 b).2.2.2 x hw j4
      have sm:=F.same hc (m:=i+1) (k:=k) (b:=b) (by omega) hk (fun j h1 h2=>by
       cases hw2:(WS H O j).hd b with
       | false=>rfl
       | true=>
        exfalso;obtain⟨_,u1,u2⟩:=hmid j (by omega) h2 fun hb=>by rw[hdn j (by omega) hb] at hw2;cases hw2
        exact (F.dis hi (show j<n by omega) (by omega) u2 u1 b).2.2.1 x hw hw2) (fun y=>!decide (y=x)) (fun y hy j h1 h2=>by
       have:y=x:=by simpa using hy
       subst this;cases hw2:(WS H O j).cl b y with
       | false=>rfl
       | true=>
        exfalso;obtain⟨_,u1,u2⟩:=hmid j (by omega) h2 fun hb=>by rw[hdc j (by omega) hb] at hw2;cases hw2
        exact (F.dis hi (show j<n by omega) (by omega) u2 u1 b).2.2.2 y hw hw2)
      rw[(F.hp i hi).1,hHk] at sm;rcases Hs sm with ⟨t',c1,c2,opn',q1,q2,q3,q4⟩|⟨es,m,q1,q2⟩|⟨_,_,q1,q2⟩
      ·cases q2;obtain⟨g2,r1,r2,r3,c3,k1,k2,k3,k4,k5⟩:=hp.sim b _ hXb q1;rw[ext _ _ h1] at r1;cases r1;rw[g1] at k1;cases k1;exact k5 x av (by rw[←q4 x (by simp)];exact hx) hXc
      ·cases q2
      ·cases q2
     ·have hw':(O i).lg.cl b x=false:=Qfz.2 hw;obtain⟨v,m1,m2⟩:=e5 x av hx (Y7.2 ⟨hDc,fun j hj hb=>by
       by_cases e:j=i
       ·subst e;exact hw'
       ·rcases hb with hb|⟨hb,hSj⟩
        ·exact hdc j hj (.inl hb)
        ·exact hdc j hj (.inr ⟨hb,Hk hSj e⟩)⟩)
      exact⟨v,by rw[g3 x hw'];exact m1,m2⟩
 ·intro k hk hS'k t huse hnb;have hki:k≠i:=fun e=>by
   rcases Qee k n with h|h
   ·exact (Wm (hS'k h)).2 e
   ·omega
  have hSk:k<n→S k=false:=fun h=>(Wm (hS'k h)).1;have htp:=F.tm i o hi ho;rw[put_get a o.dst v' t fun x e=>by
   have:=htp;rw[e] at this;rw[I.sz];exact Ee this]
  by_cases hdt:o.dst=some t
  ·rw[Qdm hdt];have hik:i<k:=by
    rcases Qee k n with h|h
    ·refine Classical.byContradiction fun hle=>?_;have hlt:k<i:=by omega
     obtain⟨ok,hok⟩:=F.op h;rcases F.ts k i ok o hlt hi hok ho with hb|⟨_,hb⟩
     ·have:=hpre k hb;rw[hSk h] at this;cases this
     ·have:=hb t hdt;rw[huse ok h hok] at this;cases this
    ·omega
   have e:YH (T k) t=V i:=by
    rw[F.tsame (m:=i+1) (by omega) hk fun j q h1 h2 hq hd=>?_,Kd htp,Qdm hdt];have hjn:j<n:=by omega
    have hji:Bf bs j i:=by
     rcases F.ts i j o q (by omega) hjn ho hq with hb|⟨hb,_⟩
     ·exact hb
     ·exact absurd hd (hb t hdt).2
    have hkj:k=n∨Bf bs k j:=by
     rcases Qee k n with h|h
     ·obtain⟨ok,hok⟩:=F.op h;rcases F.ts j k q ok h2 h hq hok with hb|⟨hb,_⟩
      ·exact .inr hb
      ·have:=(hb t hd).1;rw[huse ok h hok] at this;cases this
     ·left;omega
    cases hs:S j with
    | true=>
     have:=I.cl j hjn hs i hji;rw[hS] at this;cases this
    | false=>exact hnb j q hjn (Hk hs (by omega)) hkj hq hd
   rw[e];exact hv
  ·rw[Qdf hdt];refine (I.tm k hk hSk t huse fun j q hj hSj hb hq=>?_).mono ext;by_cases e:j=i
   ·subst e;rw[ho] at hq;cases hq;exact hdt
   ·exact hnb j q hj (Hk hSj e) hb hq
 ·exact I.fr.trans hp.fr (fun b hb=>⟨hb,hWH i hi b hb⟩) fun b x _ hx=>⟨hx,hWC i hi b x hx⟩
 ·intro b h0 h1;cases hb:ρ b with
  | none=>
   obtain⟨r1,r2⟩:=hp.rng b hb h1;exact⟨i,hi,ZD,r1,r2⟩
  | some g=>
   obtain⟨j,q1,q2,q3⟩:=I.rng b h0 (by rw[hb];simp);exact⟨j,q1,by unfold onL;rw[q2];rfl,q3⟩
 ·intro k hk hSk j hj;by_cases e:k=i
  ·subst e;unfold onL;rw[hpre j hj];rfl
  ·have:S k=true:=by rwa [Yc e] at hSk
   unfold onL;rw[I.cl k hk this j hj];rfl
theorem Fx.step(F:Fx P c D nt ops bs n H T V O X){W0:World}{nG:Nat}(hc:Zo P W0 nG c)(hwf:WF (H 0))(hG0:Gl W0 nG ω0 w0)(hF0:∀b,(H 0).nx≤b→b<(H n).nx→ρ0 b=none)(hWH:∀j,j<n→∀b,WH b=false→(WS H O j).hd b=false)(hWC:∀j,j<n→∀b i,WC b i=false→(WS H O j).cl b i=false)
  {S:Nat→Bool} {ρ:Rh} {ω:Nat→Option Nat} {a:Act} {w:World} (I:DI P D nt ops bs n H T O WH WC ρ0 ω0 w0 S ρ ω a w) {i:Nat} {o:Oper} (ho:ops[i]? =some o) (hS:S i=false) (hr:∀e∈Qr o,S e=true) (Q:Exit→Act→World→Prop):
  wpOp P ops Q i (fun a' w'=>∃ρ' ω',DI P D nt ops bs n H T O WH WC ρ0 ω0 w0 (onL S i) ρ' ω' a' w') a w:=by
 have hi:i<n:=by rw[←F.siz];exact (QdQ.1 ho).1
 obtain⟨be1,be2⟩:=F.be i o hi ho;have hpre:∀j,Bf bs i j→S j=true:=fun j hj=>by
  obtain⟨e,he,h⟩:=be1 j hj;rcases h with rfl|h
  ·exact hr _ he
  ·exact I.cl e (by have:=be2 e he;omega) (hr e he) j h
 have huse:∀t,(Y8 ops o).testBit t=true→RV ρ (YH (T i) t) (a.tmps.getD t undef):=fun t ht=>
  I.tm i (by omega) (fun _=>hS) t (fun o' _ ho'=>by rw[ho] at ho';cases ho';exact ht) fun j q hj hSj hb hq=>by
   rcases hb with hb|hb
   ·omega
   ·rw[hpre j hb] at hSj;cases hSj
 have hw:=Ni (ρ:=ρ) (ops:=ops) (tm:=T i) (a:=a) (o:=o) fun t ht=>huse t (by
  unfold Y8;exact (Dv _ _).2 (List.mem_append_right _ ht))
 have hsim:Sim P ρ ω (X i).hd (X i).cl (H i).hp.get w:=fun b ao hX hH=>by
  obtain⟨g,h1,h2,h3,h4⟩:=I.sim i (by omega) (fun _=>hS) b ao (ZV.2 ⟨(F.xd i hi b).1 hX,fun j hj hb=>by
   rcases hb with ⟨_,j1,j2,j3⟩|⟨hb,hSj⟩
   ·obtain⟨q1,q2⟩:=(F.xs i hi j hj j1 j2 j3 b).1 hX;rcases Nat.lt_or_gt_of_ne j1 with h|h
    ·exact q1 h
    ·rw[EZ,YG];refine⟨.inl (QfO fun hle=>?_),q2 h⟩;have:=F.wf hc hwf (k:=i) (by omega) b (Qdx (F.nx hc (by omega) (by omega)) hle);rw[hH] at this;cases this
   ·rcases hb with hb|hb
    ·omega
    ·rw[hpre j hb] at hSj;cases hSj⟩) hH
  refine⟨g,h1,h2,h3,h4.weak fun x hx=>Y7.2 ⟨(F.xd i hi b).2 x hx,fun j hj hb=>?_⟩⟩;rcases hb with ⟨_,j1,j2,j3⟩|⟨hb,hSj⟩
  ·exact (F.xs i hi j hj j1 j2 j3 b).2 x hx
  ·rcases hb with hb|hb
   ·omega
   ·rw[hpre j hb] at hSj;cases hSj
 have hfr:Frs ρ (H i) (O i):=fun b h1 h2=>by
  cases hb:ρ b with
  | none=>rfl
  | some g=>
   exfalso;have h0:=hF0 b (Qdx (F.nx hc (Qdw _) (by omega)) h1) (Qdr h2 (F.nxo hc hi (Qde _)));obtain⟨j,q1,q2,q3,q4⟩:=I.rng b h0 (by rw[hb];simp);rcases Qfy j i with h|h|h
   ·have:=F.nxo hc h (show i≤n by omega);omega
   ·subst h;rw[hS] at q2;cases q2
   ·have:=F.nxo hc h (show j≤n by omega);omega
 unfold wpOp;rw[ho];simp only;rw[hw];rcases F.run i o hi ho with ⟨hwt,hrun⟩|⟨hwt,hv,hO⟩
 ·rw[hwt,Qdm rfl];left;exact (Gz hc hrun (Qde _)).2 ρ ω w a ⟨F.wf hc hwf (by omega),hG0.fm I.fr⟩ (SR fun t ht=>huse t (ht _ rfl)) hsim hfr _ Q fun v' w' ρ' ω' h1 h2=>⟨ρ',ω',F.core hc hwf hWH hWC I hi ho hS hpre h1 h2⟩
 ·rw[hwt];simp only[QdN,QdV];exact⟨ρ,ω,F.core hc hwf hWH hWC I hi ho hS hpre (by rw[hv];exact VB) (by rw[hO];exact RPost.refl hsim)⟩
end
end Go.Proofs.YthdaabapiicnhaaGreatDoor.Av
