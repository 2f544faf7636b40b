/- Steps of the proof. -/
import Derived.Laws.CopyRow
import Derived.Test.YthdaabapiicnhaaGreatDoorTr01
set_option linter.all false
set_option maxRecDepth 100000
set_option maxHeartbeats 4000000
open Go.Proofs.Tryz
namespace Go.Proofs.YthdaabapiicnhaaGreatDoor.Av
open Go.RowKit
inductive AV where
 | int (k:IntKind) (n:Int)
 | bool (b:Bool)
 | str (s:List UInt8)
 | nilp
 | ptr (b o:Nat)
 | nils
 | slc (b o n c:Nat)
 | slo (b n:Nat)
 | slu (b o n:Nat)
 | emp
 | map (b:Nat)
 | nilm
 | fn (f:FuncId) (x y:List AV)
 | nilf
 | ifc (t:TypeId) (v:AV)
 | nili
 | agg (l:List AV)
 | tup (l:List AV)
 deriving Inhabited
structure Pl where
 blk:Nat
 off:Nat
 cap:Nat
 lt:cap<9223372036854775808
abbrev Rh:=Nat→Option Pl
mutual
def RV(ρ:Rh):AV→Value→Prop
 | .int k n,v=>v= .int k n
 | .bool b,v=>v= .bool b
 | .str s,v=>v= .string ⟨s.toArray⟩
 | .nilp,v=>v= .pointer none
 | .ptr b o,v=>∃g,ρ b=some g∧v= .pointer (some ⟨g.blk,g.off+o,none⟩)
 | .nils,v=>v= .slice none 0 0
 | .slc b o n c,v=>∃g,ρ b=some g∧v= .slice (some ⟨g.blk,g.off+o,none⟩) n c
 | .slo b n,v=>∃g,ρ b=some g∧n≤g.cap∧v= .slice (some ⟨g.blk,g.off,none⟩) n g.cap
 | .slu b o n,v=>∃g c,ρ b=some g∧(n≤c∧c<9223372036854775808)∧v= .slice (some ⟨g.blk,g.off+o,none⟩) n c
 | .emp,v=>∃a c,v= .slice a 0 c∧c<9223372036854775808∧(a=none→c=0)
 | .map b,v=>∃g,ρ b=some g∧v= .map (some g.blk)
 | .nilm,v=>v= .map none
 | .fn f x y,v=>∃xs ys,v= .func (.func f) xs.toArray ys.toArray∧RVs ρ x xs∧RVs ρ y ys
 | .nilf,v=>v= .nilFunc
 | .ifc t x,v=>∃y,v= .iface t y∧RV ρ x y
 | .nili,v=>v= .nilIface
 | .agg l,v=>∃xs,v= .agg xs.toArray∧RVs ρ l xs
 | .tup l,v=>∃xs,v= .tuple xs.toArray∧RVs ρ l xs
def RVs(ρ:Rh):List AV→List Value→Prop
 | [],vs=>vs=[]
 | a::l,vs=>∃v r,vs=v::r∧RV ρ a v∧RVs ρ l r
end
def Ext(ρ ρ':Rh):Prop:=∀b g,ρ b=some g→ρ' b=some g
theorem Ext.refl(ρ:Rh):Ext ρ ρ:=fun _ _ h=>h
theorem Ext.trans{a b c:Rh}(h:Ext a b)(k:Ext b c):Ext a c:=fun x g hx=>k x g (h x g hx)
mutual
theorem RV.mono{ρ ρ':Rh}(e:Ext ρ ρ'):∀(a:AV) (v:Value),RV ρ a v→RV ρ' a v
 | .int _ _,_,h=>by simpa only[RV] using h
 | .bool _,_,h=>by simpa only[RV] using h
 | .str _,_,h=>by simpa only[RV] using h
 | .nilp,_,h=>by simpa only[RV] using h
 | .ptr b o,v,h=>by
  simp only[RV] at h ⊢;obtain⟨g,h1,h2⟩:=h;exact⟨g,e _ _ h1,h2⟩
 | .nils,_,h=>by simpa only[RV] using h
 | .slc b o n c,v,h=>by
  simp only[RV] at h ⊢;obtain⟨g,h1,h2⟩:=h;exact⟨g,e _ _ h1,h2⟩
 | .slo b n,v,h=>by
  simp only[RV] at h ⊢;obtain⟨g,h1,h2⟩:=h;exact⟨g,e _ _ h1,h2⟩
 | .slu b o n,v,h=>by
  simp only[RV] at h ⊢;obtain⟨g,c,h1,h2⟩:=h;exact⟨g,c,e _ _ h1,h2⟩
 | .emp,_,h=>by simpa only[RV] using h
 | .map b,v,h=>by
  simp only[RV] at h ⊢;obtain⟨g,h1,h2⟩:=h;exact⟨g,e _ _ h1,h2⟩
 | .nilm,_,h=>by simpa only[RV] using h
 | .fn f x y,v,h=>by
  simp only[RV] at h ⊢;obtain⟨xs,ys,h1,h2,h3⟩:=h;exact⟨xs,ys,h1,RVs.mono e x xs h2,RVs.mono e y ys h3⟩
 | .nilf,_,h=>by simpa only[RV] using h
 | .ifc t x,v,h=>by
  simp only[RV] at h ⊢;obtain⟨y,h1,h2⟩:=h;exact⟨y,h1,RV.mono e x y h2⟩
 | .nili,_,h=>by simpa only[RV] using h
 | .agg l,v,h=>by
  simp only[RV] at h ⊢;obtain⟨y,h1,h2⟩:=h;exact⟨y,h1,RVs.mono e l y h2⟩
 | .tup l,v,h=>by
  simp only[RV] at h ⊢;obtain⟨y,h1,h2⟩:=h;exact⟨y,h1,RVs.mono e l y h2⟩
theorem RVs.mono{ρ ρ':Rh}(e:Ext ρ ρ'):∀(a:List AV) (v:List Value),RVs ρ a v→RVs ρ' a v
 | [],v,h=>by simpa only[RVs] using h
 | a::l,v,h=>by
  simp only[RVs] at h ⊢;obtain⟨x,r,h1,h2,h3⟩:=h;exact⟨x,r,h1,RV.mono e a x h2,RVs.mono e l r h3⟩
end
theorem RVs.length{ρ:Rh}:∀{l:List AV} {vs:List Value},RVs ρ l vs→vs.length=l.length
 | [],vs,h=>by simp only[RVs] at h;subst h;rfl
 | a::l,vs,h=>by
  simp only[RVs] at h;obtain⟨x,r,rfl,_,h3⟩:=h;simp[h3.length]
theorem RVs.get{ρ:Rh}:∀{l:List AV} {vs:List Value},RVs ρ l vs→∀{i:Nat} {a:AV},l[i]? =some a→∃v,vs[i]? =some v∧RV ρ a v
 | [],vs,h,i,a,e=>by simp at e
 | x::l,vs,h,i,a,e=>by
  simp only[RVs] at h;obtain⟨y,r,rfl,h2,h3⟩:=h;cases i with
  | zero=>simp only[Qe6,Option.some.injEq] at e;subst e;exact⟨y,rfl,h2⟩
  | succ i=>simp only[Qd2] at e ⊢;exact h3.get e
theorem RVs.of{ρ:Rh}:∀{l:List AV} {vs:List Value},vs.length=l.length→(∀(i:Nat) (a:AV) (v:Value),l[i]? =some a→vs[i]? =some v→RV ρ a v)→RVs ρ l vs
 | [],vs,h,_=>by simp only[RVs];exact QdO.1 h
 | x::l,[],h,_=>by simp at h
 | x::l,v::vs,h,k=>by
  simp only[RVs];exact⟨v,vs,rfl,k 0 x v rfl rfl,RVs.of (by simpa using h) fun i a u h1 h2=>k (i+1) a u (by simpa using h1) (by simpa using h2)⟩
theorem RVs.append{ρ:Rh}:∀{l m:List AV} {vs ws:List Value},RVs ρ l vs→RVs ρ m ws→RVs ρ (l++m) (vs++ws)
 | [],m,vs,ws,h,k=>by simp only[RVs] at h;subst h;exact k
 | x::l,m,vs,ws,h,k=>by
  simp only[RVs] at h;obtain⟨y,r,rfl,h2,h3⟩:=h;simp only[Qe0,RVs];exact⟨y,r++ws,rfl,h2,h3.append k⟩
theorem RVs.take{ρ:Rh}:∀{l:List AV} {vs:List Value} (n:Nat),RVs ρ l vs→RVs ρ (l.take n) (vs.take n)
 | [],vs,n,h=>by simp only[RVs] at h;subst h;simp[RVs]
 | x::l,vs,0,h=>by simp[RVs]
 | x::l,vs,n+1,h=>by
  simp only[RVs] at h;obtain⟨y,r,rfl,h2,h3⟩:=h;simp only[Qfa,RVs];exact⟨y,_,rfl,h2,h3.take n⟩
theorem RVs.drop{ρ:Rh}:∀{l:List AV} {vs:List Value} (n:Nat),RVs ρ l vs→RVs ρ (l.drop n) (vs.drop n)
 | [],vs,n,h=>by simp only[RVs] at h;subst h;simp[RVs]
 | x::l,vs,0,h=>by simpa using h
 | x::l,vs,n+1,h=>by
  simp only[RVs] at h;obtain⟨y,r,rfl,h2,h3⟩:=h;simp only[Qf7];exact h3.drop n
theorem RVs.nil{ρ:Rh}:RVs ρ [] []:=by simp[RVs]
theorem RVs.cons{ρ:Rh}{a:AV}{v:Value}{l:List AV}{vs:List Value}(h:RV ρ a v)(k:RVs ρ l vs):RVs ρ (a::l) (v::vs):=by
 simp only[RVs];exact⟨v,vs,rfl,h,k⟩
def avs(f:Value→Option AV):List Value→Option (List AV)
 | []=>some []
 | v::r=>match f v,avs f r with
  | some a,some l=>some (a::l)
  | _,_=>none
def av:Nat→Value→Option AV
 | _,.int k n=>some (.int k n)
 | _,.bool b=>some (.bool b)
 | _,.string s=>some (.str s.data.toList)
 | _,.pointer none=>some .nilp
 | _,.slice none 0 0=>some .nils
 | _,.map none=>some .nilm
 | _,.nilFunc=>some .nilf
 | _,.nilIface=>some .nili
 | n+1,.iface t v=>(av n v).map (.ifc t)
 | n+1,.func (.func f) x y=>match avs (av n) x.toList,avs (av n) y.toList with
  | some a,some b=>some (.fn f a b)
  | _,_=>none
 | n+1,.agg cs=>(avs (av n) cs.toList).map .agg
 | n+1,.tuple cs=>(avs (av n) cs.toList).map .tup
 | _,_=>none
theorem GY{ρ:Rh}{f:Value→Option AV}(hf:∀v a,f v=some a→RV ρ a v):∀(l:List Value) (m:List AV),avs f l=some m→RVs ρ m l
 | [],m,h=>by simp only[avs,Option.some.injEq] at h;subst h;exact RVs.nil
 | v::r,m,h=>by
  simp only[avs] at h;split at h
  ·rename_i a l ha hl;simp only[Option.some.injEq] at h;subst h;exact RVs.cons (hf _ _ ha) (GY hf r l hl)
  ·cases h
theorem Nj{ρ:Rh}:∀(n:Nat) (v:Value) (a:AV),av n v=some a→RV ρ a v:=by
 intro n;induction n with
 | zero=>
  intro v a h;unfold av at h;split at h <;> simp_all[RV]
  all_goals subst h;simp[RV]
 | succ n ih=>
  intro v a h;unfold av at h;split at h
  any_goals (simp only[Option.some.injEq] at h;subst h;simp[RV];done)
  ·rename_i m t v e;cases e;simp only[QdJ] at h;obtain⟨x,hx,rfl⟩:=h;simp only[RV];exact⟨v,rfl,ih _ _ hx⟩
  ·rename_i m f x y e;cases e;split at h
   ·rename_i p q hp hq;simp only[Option.some.injEq] at h;subst h;simp only[RV];exact⟨x.toList,y.toList,rfl,GY ih _ _ hp,GY ih _ _ hq⟩
   ·cases h
  ·rename_i m cs e;cases e;simp only[QdJ] at h;obtain⟨x,hx,rfl⟩:=h;simp only[RV];exact⟨cs.toList,rfl,GY ih _ _ hx⟩
  ·rename_i m cs e;cases e;simp only[QdJ] at h;obtain⟨x,hx,rfl⟩:=h;simp only[RV];exact⟨cs.toList,rfl,GY ih _ _ hx⟩
  ·cases h
inductive Tr (α:Type) where
 | nil
 | node (l:Tr α) (v:Option α) (r:Tr α)
def Tr.get{α:Type}:Tr α→Nat→Option α
 | .nil,_=>none
 | .node l v r,k=>match k with
  | 0=>v
  | k+1=>bif Nat.beq (k%2) 0 then l.get (k/2) else r.get (k/2)
def Tr.set{α:Type}:Nat→Tr α→Nat→Option α→Tr α
 | 0,t,_,_=>t
 | d+1,t,k,v=>match t,k with
  | .nil,0=>.node .nil v .nil
  | .node l _ r,0=>.node l v r
  | .nil,k+1=>bif Nat.beq (k%2) 0 then .node (Tr.set d .nil (k/2) v) none .nil else .node .nil none (Tr.set d .nil (k/2) v)
  | .node l u r,k+1=>bif Nat.beq (k%2) 0 then .node (Tr.set d l (k/2) v) u r else .node l u (Tr.set d r (k/2) v)
theorem Tr.get_nil{α:Type}(k:Nat):(Tr.nil:Tr α).get k=none:=rfl
theorem Tr.get_set{α:Type}(v:Option α):∀(d:Nat) (t:Tr α) (k:Nat),k+1<2^d→∀j,(t.set d k v).get j=if j=k then v else t.get j:=by
 intro d;induction d with
 | zero=>intro t k h;simp at h
 | succ d ih=>
  intro t k h j;cases k with
  | zero=>
   cases t <;> cases j <;> simp[Tr.set,Tr.get]
  | succ k=>
   have hk:k/2+1<2^d:=by rw[QfC] at h;omega
   have e1:∀n,Nat.beq (n%2) 0=true↔n%2=0:=fun n=>⟨fun h=>Qd7 h,fun h=>by rw[h];rfl⟩;have e2:∀n,Nat.beq (n%2) 0=false↔n%2≠0:=fun n=>⟨fun h=>QdS h,fun h=>by
    cases hb:Nat.beq (n%2) 0 with
    | false=>rfl
    | true=>exact absurd ((e1 n).1 hb) h⟩
   cases t with
   | nil=>
    cases hb:Nat.beq (k%2) 0 with
    | true=>
     simp only[Tr.set,hb,QdE];cases j with
     | zero=>simp[Tr.get]
     | succ j=>
      simp only[Tr.get];cases hj:Nat.beq (j%2) 0 with
      | true=>
       simp only[QdE,ih _ _ hk,Qe1,Tr.get_nil];have:=(e1 _).1 hb;have:=(e1 _).1 hj;by_cases e:j=k
       ·subst e;simp
       ·rw[Qdf e,Qdf (by omega)]
      | false=>
       simp only[cond_false,Tr.get_nil,Qe1];have:=(e1 _).1 hb;have:=(e2 _).1 hj;rw[Qdf (by omega)]
    | false=>
     simp only[Tr.set,hb,cond_false];cases j with
     | zero=>simp[Tr.get]
     | succ j=>
      simp only[Tr.get];cases hj:Nat.beq (j%2) 0 with
      | false=>
       simp only[cond_false,ih _ _ hk,Qe1,Tr.get_nil];have:=(e2 _).1 hb;have:=(e2 _).1 hj;by_cases e:j=k
       ·subst e;simp
       ·rw[Qdf e,Qdf (by omega)]
      | true=>
       simp only[QdE,Tr.get_nil,Qe1];have:=(e2 _).1 hb;have:=(e1 _).1 hj;rw[Qdf (by omega)]
   | node l u r=>
    cases hb:Nat.beq (k%2) 0 with
    | true=>
     simp only[Tr.set,hb,QdE];cases j with
     | zero=>simp[Tr.get]
     | succ j=>
      simp only[Tr.get];cases hj:Nat.beq (j%2) 0 with
      | true=>
       simp only[QdE,ih _ _ hk,Qe1];have:=(e1 _).1 hb;have:=(e1 _).1 hj;by_cases e:j=k
       ·subst e;simp
       ·rw[Qdf e,Qdf (by omega)]
      | false=>
       simp only[cond_false,Qe1];have:=(e1 _).1 hb;have:=(e2 _).1 hj;rw[Qdf (by omega)]
    | false=>
     simp only[Tr.set,hb,cond_false];cases j with
     | zero=>simp[Tr.get]
     | succ j=>
      simp only[Tr.get];cases hj:Nat.beq (j%2) 0 with
      | false=>
       simp only[cond_false,ih _ _ hk,Qe1];have:=(e2 _).1 hb;have:=(e2 _).1 hj;by_cases e:j=k
       ·subst e;simp
       ·rw[Qdf e,Qdf (by omega)]
      | true=>
       simp only[QdE,Qe1];have:=(e2 _).1 hb;have:=(e1 _).1 hj;rw[Qdf (by omega)]
inductive AO where
 | row (t:TypeId) (cs:List AV) (opn:Bool)
 | mp (es:List (AV×AV×Nat)) (n:Nat)
 | ro (t:TypeId) (cs:List AV)
structure SS where
 hds:List (Nat×Nat)
 cls:List (Nat×Nat×Nat)
def SS.hd(S:SS)(b:Nat):Bool:=S.hds.any fun x=>Nat.ble x.1 b&&Nat.blt b x.2
def SS.cl(S:SS)(b o:Nat):Bool:=S.cls.any fun x=>Nat.beq x.1 b&&(Nat.ble x.2.1 o&&Nat.blt o (x.2.1+x.2.2))
def SS.free(S:SS)(b o n:Nat):Bool:=!S.hd b&&S.cls.all fun x=>!Nat.beq x.1 b||Nat.ble (x.2.1+x.2.2) o||Nat.ble (o+n) x.2.1
def SS.whole(S:SS)(b:Nat):Bool:=!S.hd b&&S.cls.all fun x=>!Nat.beq x.1 b
def RE(ρ:Rh)(a:AV×AV×Nat)(e:MapEntry):Prop:=RV ρ a.1 e.key∧RV ρ a.2.1 e.val∧a.2.2=e.born
def REs(ρ:Rh):List (AV×AV×Nat)→List MapEntry→Prop
 | [],es=>es=[]
 | a::l,es=>∃e r,es=e::r∧RE ρ a e∧REs ρ l r
theorem REs.mono{ρ ρ':Rh}(x:Ext ρ ρ'):∀{l:List (AV×AV×Nat)} {es:List MapEntry},REs ρ l es→REs ρ' l es
 | [],es,h=>h
 | a::l,es,h=>by
  obtain⟨e,r,h1,h2,h3⟩:=h;exact⟨e,r,h1,⟨h2.1.mono x,h2.2.1.mono x,h2.2.2⟩,h3.mono x⟩
def OR(P:Program)(ρ:Rh)(d:Nat→Bool):AO→Pl→Option Obj→Prop
 | .row t cs opn,g,o=>∃c:Array Value,o=some (.cells c t (0,0))∧cs.length≤c.size∧g.off=0∧(opn=true→c.size=g.cap*P.cellsOf t)∧
   ∀i a,cs[i]? =some a→d i=false→∃v,c[i]? =some v∧RV ρ a v
 | .mp es n,g,o=>∃es':List MapEntry,o=some (.map es'.toArray n)∧REs ρ es es'
 | .ro _ cs,g,o=>∃(c:Array Value) (t:TypeId) (z:Nat×Nat),o=some (.cells c t z)∧∀i a,cs[i]? =some a→∃v,c[g.off+i]? =some v∧RV ρ a v
def wn(b:Nat):AO→Option Nat
 | .ro _ _=>none
 | _=>some b
theorem TL{b x:Nat}{a:AO}(h:wn b a=some x):b=x:=by cases a <;> simp_all[wn]
theorem OR.mono{P:Program}{ρ ρ':Rh}{d:Nat→Bool}(x:Ext ρ ρ'):∀{a:AO} {g:Pl} {o:Option Obj},OR P ρ d a g o→OR P ρ' d a g o
 | .row t cs opn,g,o,h=>by
  obtain⟨c,h1,h2,h3,h4,h5⟩:=h;exact⟨c,h1,h2,h3,h4,fun i a hi hd=>by
   obtain⟨v,hv,hr⟩:=h5 i a hi hd;exact⟨v,hv,hr.mono x⟩⟩
 | .mp es n,g,o,h=>by
  obtain⟨es',h1,h2⟩:=h;exact⟨es',h1,h2.mono x⟩
 | .ro t cs,g,o,h=>by
  obtain⟨c,t,z,h1,h2⟩:=h;exact⟨c,t,z,h1,fun i a hi=>by
   obtain⟨v,hv,hr⟩:=h2 i a hi;exact⟨v,hv,hr.mono x⟩⟩
def Sim(P:Program)(ρ:Rh)(ω:Nat→Option Nat)(dh:Nat→Bool)(dc:Nat→Nat→Bool)(H:Nat→Option AO)(w:World):Prop:=
 ∀b ao,dh b=false→H b=some ao→∃g,ρ b=some g∧ω g.blk=wn b ao∧g.blk<w.heap.size∧OR P ρ (dc b) ao g w.heap[g.blk]?
def SameBut(d:Nat→Bool):Option Obj→Option Obj→Prop
 | some (.cells c t z),y=>∃c':Array Value,y=some (.cells c' t z)∧c'.size=c.size∧∀i,d i=false→c'[i]? =c[i]?
 | x,y=>y=x
theorem SameBut.refl(d:Nat→Bool)(x:Option Obj):SameBut d x x:=by
 unfold SameBut;split
 ·exact⟨_,rfl,rfl,fun _ _=>rfl⟩
 ·rfl
theorem SameBut.of_eq{d:Nat→Bool}{x y:Option Obj}(h:y=x):SameBut d x y:=h▸SameBut.refl d x
theorem SameBut.trans{d e f:Nat→Bool}{x y z:Option Obj}(h:SameBut d x y)(k:SameBut e y z)(hd:∀i,f i=false→d i=false∧e i=false):SameBut f x z:=by
 unfold SameBut at h ⊢;split at h
 ·obtain⟨c',rfl,h2,h3⟩:=h;unfold SameBut at k;obtain⟨c'',k1,k2,k3⟩:=k;exact⟨c'',k1,k2.trans h2,fun i hi=>(k3 i (hd i hi).2).trans (h3 i (hd i hi).1)⟩
 ·rename_i hx;subst h;unfold SameBut at k;split at k
  ·rename_i c t z;exact absurd rfl (hx c t z)
  ·exact k
structure Fm (ρ:Rh) (ω:Nat→Option Nat) (w:World) (wh:Nat→Bool) (wc:Nat→Nat→Bool) (ρ':Rh) (ω':Nat→Option Nat) (w':World):Prop where
 os:w'.os=w.os
 tape:w'.tape=w.tape
 out:w'.output=w.output
 size:w.heap.size≤w'.heap.size
 ext:Ext ρ ρ'
 own:∀r b,r<w.heap.size→ω r=some b→wh b=false→ω' r=some b∧SameBut (wc b) w.heap[r]? w'.heap[r]?
 fgn:∀r,r<w.heap.size→ω r=none→ω' r=none∧w'.heap[r]? =w.heap[r]?
theorem Fm.refl(ρ:Rh)(ω:Nat→Option Nat)(w:World)(wh:Nat→Bool)(wc:Nat→Nat→Bool):Fm ρ ω w wh wc ρ ω w:=
 ⟨rfl,rfl,rfl,Qde _,Ext.refl _,fun r b _ h _=>⟨h,SameBut.refl _ _⟩,fun r _ h=>⟨h,rfl⟩⟩
theorem Fm.drew(ρ:Rh)(ω:Nat→Option Nat)(w:World)(wh:Nat→Bool)(wc:Nat→Nat→Bool):Fm ρ ω w wh wc ρ ω w.drew:=
 ⟨rfl,rfl,rfl,Qde _,Ext.refl _,fun r b _ h _=>⟨h,SameBut.refl _ _⟩,fun r _ h=>⟨h,rfl⟩⟩
theorem Fm.trans{ρ ρ' ρ'':Rh}{ω ω' ω'':Nat→Option Nat}{w w' w'':World}{wh wh' vh:Nat→Bool}{wc wc' vc:Nat→Nat→Bool}(h:Fm ρ ω w wh wc ρ' ω' w')(k:Fm ρ' ω' w' wh' wc' ρ'' ω'' w'')
  (hh:∀b,vh b=false→wh b=false∧wh' b=false) (hc:∀b i,vh b=false→vc b i=false→wc b i=false∧wc' b i=false):Fm ρ ω w vh vc ρ'' ω'' w'':=
 ⟨k.os.trans h.os,k.tape.trans h.tape,k.out.trans h.out,Qdx h.size k.size,h.ext.trans k.ext,
  fun r b hr ho hv=>by
  obtain⟨h1,h2⟩:=h.own r b hr ho (hh b hv).1;obtain⟨k1,k2⟩:=k.own r b (Qdr hr h.size) h1 (hh b hv).2;exact⟨k1,h2.trans k2 fun i hi=>hc b i hv hi⟩,
  fun r hr ho=>by
  obtain⟨h1,h2⟩:=h.fgn r hr ho;obtain⟨k1,k2⟩:=k.fgn r (Qdr hr h.size) h1;exact⟨k1,k2.trans h2⟩⟩
structure AS where
 hp:Tr AO
 nx:Nat
 lg:SS
def wh(mk n:Nat)(L:SS)(b:Nat):Bool:=(Nat.ble mk b&&Nat.blt b n)||L.hd b
theorem YG{mk n:Nat}{L:SS}{b:Nat}:wh mk n L b=false↔(b<mk∨n≤b)∧L.hd b=false:=by
 unfold wh;rw[QdP,Qfj];refine and_congr_left fun _=>or_congr ⟨fun h=>?_,fun h=>?_⟩ ⟨fun h=>?_,fun h=>?_⟩
 ·exact QfO fun hle=>by rw[Qd4 hle] at h;cases h
 ·cases hb:Nat.ble mk b with
  | false=>rfl
  | true=>have:=Qdn hb;omega
 ·exact Nat.le_of_not_lt fun hlt=>by
   have:Nat.blt b n=true:=Qd4 hlt;rw[this] at h;cases h
 ·cases hb:Nat.blt b n with
  | false=>rfl
  | true=>have:=Qdn hb;omega
def ASame(d:Nat→Bool):Option AO→Option AO→Prop
 | some (.row t c o),y=>∃c':List AV,y=some (.row t c' o)∧c'.length=c.length∧∀i,d i=false→c'[i]? =c[i]?
 | x,y=>y=x
theorem ASame.refl(d:Nat→Bool)(x:Option AO):ASame d x x:=by
 unfold ASame;split
 ·exact⟨_,rfl,rfl,fun _ _=>rfl⟩
 ·rfl
theorem ASame.trans{d e f:Nat→Bool}{x y z:Option AO}(h:ASame d x y)(k:ASame e y z)(hd:∀i,f i=false→d i=false∧e i=false):ASame f x z:=by
 unfold ASame at h ⊢;split at h
 ·obtain⟨c',rfl,h2,h3⟩:=h;unfold ASame at k;obtain⟨c'',k1,k2,k3⟩:=k;exact⟨c'',k1,k2.trans h2,fun i hi=>(k3 i (hd i hi).2).trans (h3 i (hd i hi).1)⟩
 ·rename_i hx;subst h;unfold ASame at k;split at k
  ·rename_i c t z;exact absurd rfl (hx c t z)
  ·exact k
structure APost (mk:Nat) (s s':AS):Prop where
 nx:s.nx≤s'.nx
 lgh:∀b,s'.lg.hd b=false→s.lg.hd b=false
 lgc:∀b i,s'.lg.cl b i=false→s.lg.cl b i=false
 hpn:(∀b,s.nx≤b→s.hp.get b=none)→∀b,s'.nx≤b→s'.hp.get b=none
 abs:∀b,wh mk s'.nx s'.lg b=false→ASame (s'.lg.cl b) (s.hp.get b) (s'.hp.get b)
theorem APost.refl(mk:Nat)(s:AS):APost mk s s:=⟨Qde _,fun _ h=>h,fun _ _ h=>h,fun h=>h,fun _ _=>ASame.refl _ _⟩
theorem Ed{mk n n':Nat}{L L':SS}{b:Nat}(hn:n≤n')(hl:L'.hd b=false→L.hd b=false)(h:wh mk n' L' b=false):wh mk n L b=false:=by
 rw[YG] at h ⊢;exact⟨h.1.imp id fun k=>Qdx hn k,hl h.2⟩
theorem APost.trans{mk:Nat}{a b c:AS}(h:APost mk a b)(k:APost mk b c):APost mk a c:=
 ⟨Qdx h.nx k.nx,fun x hx=>h.lgh x (k.lgh x hx),fun x i hx=>h.lgc x i (k.lgc x i hx),fun hx=>k.hpn (h.hpn hx),
  fun x hx=>(h.abs x (Ed k.nx (k.lgh x) hx)).trans (k.abs x hx) fun i hi=>⟨k.lgc x i hi,hi⟩⟩
structure RPost (P:Program) (D:SS) (mk:Nat) (ρ:Rh) (ω:Nat→Option Nat) (w:World) (s s':AS) (ρ':Rh) (ω':Nat→Option Nat) (w':World):Prop where
 sim:Sim P ρ' ω' D.hd D.cl s'.hp.get w'
 fr:Fm ρ ω w (wh mk s'.nx s'.lg) s'.lg.cl ρ' ω' w'
 rng:∀b,ρ b=none→ρ' b≠none→s.nx≤b∧b<s'.nx
theorem RPost.trans{P:Program}{D:SS}{mk:Nat}{ρ ρ' ρ'':Rh}{ω ω' ω'':Nat→Option Nat}{w w' w'':World}{a b c:AS}(h:RPost P D mk ρ ω w a b ρ' ω' w')(k:RPost P D mk ρ' ω' w' b c ρ'' ω'' w'')(ha:APost mk a b)(hb:APost mk b c):RPost P D mk ρ ω w a c ρ'' ω'' w'':=
 ⟨k.sim,h.fr.trans k.fr (fun x hx=>⟨Ed hb.nx (hb.lgh x) hx,hx⟩) (fun x i _ hx=>⟨hb.lgc x i hx,hx⟩),fun x hx hn=>by
  cases hx':ρ' x with
  | none=>have:=k.rng x hx' hn;have:=ha.nx;omega
  | some g=>have:=h.rng x hx (by rw[hx'];simp);have:=hb.nx;omega⟩
theorem RPost.refl{P:Program}{D:SS}{mk:Nat}{ρ:Rh}{ω:Nat→Option Nat}{w:World}{s:AS}(h:Sim P ρ ω D.hd D.cl s.hp.get w):RPost P D mk ρ ω w s s ρ ω w:=
 ⟨h,Fm.refl _ _ _ _ _,fun b h1 h2=>absurd h1 h2⟩
theorem Sim.drew{P:Program}{ρ:Rh}{ω:Nat→Option Nat}{dh:Nat→Bool}{dc:Nat→Nat→Bool}{H:Nat→Option AO}{w:World}(h:Sim P ρ ω dh dc H w):Sim P ρ ω dh dc H w.drew:=h
theorem RPost.drew_pre{P:Program}{D:SS}{mk:Nat}{ρ ρ':Rh}{ω ω':Nat→Option Nat}{w w':World}{s s':AS}(h:RPost P D mk ρ ω w.drew s s' ρ' ω' w'):RPost P D mk ρ ω w s s' ρ' ω' w':=
 ⟨h.sim,⟨h.fr.os,h.fr.tape,h.fr.out,h.fr.size,h.fr.ext,h.fr.own,h.fr.fgn⟩,h.rng⟩
def upd{α:Type}(f:Nat→α)(k:Nat)(v:α):Nat→α:=fun j=>if j=k then v else f j
theorem Yu{α:Type}(f:Nat→α)(k:Nat)(v:α):upd f k v k=v:=Qdm rfl
theorem Zu{α:Type}(f:Nat→α){k j:Nat}(v:α)(h:j≠k):upd f k v j=f j:=Qdf h
theorem Ext.upd{ρ:Rh}{k:Nat}{g:Pl}(h:ρ k=none):Ext ρ (upd ρ k (some g)):=fun b x hb=>by
 rw[Zu _ _ (fun e=>by subst e;rw[h] at hb;cases hb)];exact hb
def AS.new(s:AS)(a:AO):Option AS:=if Nat.blt (s.nx+1) 1048576 then some ⟨s.hp.set 20 s.nx (some a),s.nx+1,s.lg⟩ else none
theorem Xf{a b:Nat}(h:Nat.blt a b=true):a<b:=Qdn h
theorem AS.new_get{s s':AS}{a:AO}(h:s.new a=some s'):s'.nx=s.nx+1∧s'.lg=s.lg∧∀j,s'.hp.get j=if j=s.nx then some a else s.hp.get j:=by
 unfold AS.new at h;split at h
 ·rename_i hb;cases h;exact⟨rfl,rfl,fun j=>Tr.get_set _ _ _ _ (by have:=Xf hb;omega) j⟩
 ·cases h
theorem APost.new{mk:Nat}{s s':AS}{a:AO}(h:s.new a=some s')(hm:mk≤s.nx):APost mk s s':=by
 obtain⟨h1,h2,h3⟩:=AS.new_get h;refine⟨by omega,fun b hb=>by rwa [h2] at hb,fun b i hb=>by rwa [h2] at hb,fun hn b hb=>?_,fun b hb=>?_⟩
 ·rw[h3,Qdf (by omega)];exact hn b (by omega)
 ·have:=(YG.1 hb).1;rw[h3,Qdf (by omega)];exact ASame.refl _ _
theorem ZX(w:World)(o:Obj){r:Nat}(h:r<w.heap.size):(w.alloc o).heap[r]? =w.heap[r]? :=Below.heap_alloc w o r h
theorem RPost.new{P:Program}{D:SS}{mk:Nat}{ρ:Rh}{ω:Nat→Option Nat}{w:World}{s s':AS}{a:AO}{o:Obj}(cap:Nat)(hcap:cap<9223372036854775808)(h:s.new a=some s')(hs:Sim P ρ ω D.hd D.cl s.hp.get w)(hf:ρ s.nx=none)
  (hwn:wn s.nx a=some s.nx) (ho:OR P ρ (D.cl s.nx) a ⟨w.heap.size,0,cap,hcap⟩ (some o)):RPost P D mk ρ ω w s s' (upd ρ s.nx (some ⟨w.heap.size,0,cap,hcap⟩)) (upd ω w.heap.size (some s.nx)) (w.alloc o):=by
 obtain⟨h1,h2,h3⟩:=AS.new_get h;have e:=Ext.upd (g:=⟨w.heap.size,0,cap,hcap⟩) hf;refine⟨fun b ao hd hb=>?_,⟨rfl,rfl,rfl,by simp,e,fun r b hr hb hw=>?_,fun r hr hn=>?_⟩,fun b h4 h5=>?_⟩
 ·rw[h3] at hb;by_cases eb:b=s.nx
  ·subst eb;rw[Qdm rfl] at hb;cases hb;refine⟨_,Yu _ _ _,(Yu _ _ _).trans hwn.symm,by simp,?_⟩;have:(w.alloc o).heap[w.heap.size]? =some o:=heap_alloc_new w o;rw[this];exact ho.mono e
  ·rw[Qdf eb] at hb;obtain⟨g,k1,k2,k3,k4⟩:=hs b ao hd hb;refine⟨g,e _ _ k1,by rw[Zu _ _ (by omega)];exact k2,by simp;omega,?_⟩;rw[ZX w o k3];exact k4.mono e
 ·exact⟨by rw[Zu _ _ (by omega)];exact hb,SameBut.of_eq (ZX w o hr)⟩
 ·exact⟨by rw[Zu _ _ (by omega)];exact hn,ZX w o hr⟩
 ·by_cases eb:b=s.nx
  ·omega
  ·rw[Zu _ _ eb] at h5;exact absurd h4 h5
def AS.rd(D:SS)(s:AS)(b o n:Nat):Option (List AV):=
 match s.hp.get b with
 | some (.row _ cs _)=>if D.free b o n&&Nat.ble (o+n) cs.length then some ((cs.drop o).take n) else none
 | some (.ro _ cs)=>if !D.hd b&&Nat.ble (o+n) cs.length then some ((cs.drop o).take n) else none
 | _=>none
theorem SS.free_hd{D:SS}{b o n:Nat}(h:D.free b o n=true):D.hd b=false:=by
 simp only[SS.free,Qdo,Qe5] at h;exact h.1
theorem SS.free_cl{D:SS}{b o n:Nat}(h:D.free b o n=true):∀i,i<n→D.cl b (o+i)=false:=by
 simp only[SS.free,Qdo,QdG,Qex,Qe5] at h;intro i hi;unfold SS.cl;rw[List.any_eq_false];intro x hx;have:=h.2 x hx;simp only[Qdo,not_and];intro e1 e2 e3;rcases this with (h1|h1)|h1
 ·rw[e1] at h1;cases h1
 ·have:=Qdn h1;have:=Xf e3;omega
 ·have:=Qdn h1;have:=Qdn e2;omega
theorem SS.whole_free{D:SS}{b:Nat}(h:D.whole b=true):D.hd b=false∧∀i,D.cl b i=false:=by
 simp only[SS.whole,Qdo,QdG,Qe5] at h;refine⟨h.1,fun i=>?_⟩;unfold SS.cl;rw[List.any_eq_false];intro x hx;simp only[Qdo,not_and,h.2 x hx];intro e;cases e
theorem AS.rd_ok{P:Program}{D:SS}{ρ:Rh}{ω:Nat→Option Nat}{w:World}{s:AS}{b o n:Nat}{l:List AV}(hs:Sim P ρ ω D.hd D.cl s.hp.get w)(h:s.rd D b o n=some l):
  ∃g vs,ρ b=some g∧(∀j v,vs[j]? =some v→w.cell? ⟨g.blk,g.off+o+j,none⟩=some v)∧RVs ρ l vs∧l.length=n:=by
 unfold AS.rd at h;split at h
 ·rename_i t cs opn hg;split at h
  ·rename_i hc;cases h;simp only[Qdo] at hc;have hle:=Qdn hc.2;obtain⟨g,h1,h2,h3,c,h4,h5,h6,h7,h8⟩:=hs b _ (SS.free_hd hc.1) hg;have hl:((cs.drop o).take n).length=n:=by simp;omega
   refine⟨g,(c.toList.drop o).take n,h1,fun j v hv=>?_,RVs.of (by simp;omega) fun i a v hi hv=>?_,hl⟩
   ·have hj:j<n:=by
     have:=(Qdt.1 hv).1;simp at this;omega
    rw[QdH hj,QeH] at hv;rw[h6,Qd5];simp only[World.cell?,h4,Option.isSome_none,QdN,QdV];simpa using hv
   ·have hj:i<n:=by
     have:=(Qdt.1 hi).1;simp at this;omega
    rw[QdH hj,QeH] at hi hv;obtain⟨v',k1,k2⟩:=h8 (o+i) a hi (SS.free_cl hc.1 i hj);have:v'=v:=by
     have:c.toList[o+i]? =some v':=by simpa using k1
     rw[this] at hv;exact Option.some.inj hv
    exact this▸k2
  ·cases h
 ·rename_i t cs hg;split at h
  ·rename_i hc;cases h;simp only[Qdo,Qe5] at hc;have hle:=Qdn hc.2;obtain⟨g,h1,h2,h3,c,t2,z,h4,h8⟩:=hs b _ hc.1 hg;have hl:((cs.drop o).take n).length=n:=by simp;omega
   have hsz:∀i,i<n→g.off+(o+i)<c.size:=fun i hi=>by
    obtain⟨a,ha⟩:∃a,cs[o+i]? =some a:=⟨_,Qdk (by omega)⟩;obtain⟨v,hv,_⟩:=h8 _ a ha;exact (QdQ.1 hv).1
   have hn0:n≤((c.toList.drop (g.off+o)).take n).length:=by
    rw[Qds,Qdq];rcases Nat.eq_zero_or_pos n with h0|h0
    ·omega
    ·have:=hsz (n-1) (by omega);simp;omega
   refine⟨g,(c.toList.drop (g.off+o)).take n,h1,fun j v hv=>?_,RVs.of (by rw[hl];have:=List.length_take_le n (c.toList.drop (g.off+o));omega) fun i a v hi hv=>?_,hl⟩
   ·have hj:j<n:=by
     have:=(Qdt.1 hv).1;simp at this;omega
    rw[QdH hj,QeH] at hv;simp only[World.cell?,h4,Option.isSome_none,QdN,QdV];simpa using hv
   ·have hj:i<n:=by
     have:=(Qdt.1 hi).1;simp at this;omega
    rw[QdH hj,QeH] at hi hv;obtain⟨v',k1,k2⟩:=h8 (o+i) a hi;have:v'=v:=by
     have:c.toList[g.off+o+i]? =some v':=by rw[Qeb];simpa using k1
     rw[this] at hv;exact Option.some.inj hv
    exact this▸k2
  ·cases h
 ·cases h
def AS.wr(D:SS)(mk:Nat)(s:AS)(b o:Nat)(l:List AV):Option AS:=
 match s.hp.get b with
 | some (.row t cs opn)=>
  if D.free b o l.length&&(Nat.ble (o+l.length) cs.length&&(Nat.blt b s.nx&&Nat.blt (b+1) 1048576)) then
   some ⟨s.hp.set 20 b (some (.row t (cs.take o++l++cs.drop (o+l.length)) opn)),s.nx,bif Nat.blt b mk then ⟨s.lg.hds,(b,o,l.length)::s.lg.cls⟩ else s.lg⟩
  else none
 | _=>none
structure WrIs (D:SS) (mk:Nat) (s:AS) (b o:Nat) (l:List AV) (s':AS) (t:TypeId) (cs:List AV) (opn:Bool):Prop where
 old:s.hp.get b=some (.row t cs opn)
 free:D.free b o l.length=true
 le:o+l.length≤cs.length
 lt:b<s.nx
 nx:s'.nx=s.nx
 get:∀j,s'.hp.get j=if j=b then some (.row t (cs.take o++l++cs.drop (o+l.length)) opn) else s.hp.get j
 hd:∀x,s'.lg.hd x=s.lg.hd x
 cl:∀x i,s'.lg.cl x i=false→s.lg.cl x i=false
 wr:b<mk→∀i,s'.lg.cl b i=false→i<o∨o+l.length≤i
theorem AS.wr_is{D:SS}{mk:Nat}{s s':AS}{b o:Nat}{l:List AV}(h:s.wr D mk b o l=some s'):∃t cs opn,WrIs D mk s b o l s' t cs opn:=by
 unfold AS.wr at h;split at h
 ·rename_i t cs opn hg;split at h
  ·rename_i hc;simp only[Qdo] at hc;cases h;refine⟨t,cs,opn,hg,hc.1,Qdn hc.2.1,Xf hc.2.2.1,rfl,fun j=>Tr.get_set _ _ _ _ (Xf hc.2.2.2) j,fun x=>?_,fun x i hx=>?_,fun hb i hi=>?_⟩
   ·dsimp only;cases Nat.blt b mk <;> rfl
   ·dsimp only at hx;cases hm:Nat.blt b mk with
    | false=>simpa only[hm,cond_false] using hx
    | true=>
     simp only[hm,QdE,SS.cl,List.any_cons,QdP] at hx;exact hx.2
   ·have hm:Nat.blt b mk=true:=Qd4 hb;dsimp only at hi;simp only[hm,QdE,SS.cl,List.any_cons,QdP,Nat.beq_refl,Bool.true_and] at hi;have h1:=hi.1;rcases Qee i o with h2|h2
    ·exact .inl h2
    ·rw[Qd4 h2,Bool.true_and] at h1;refine .inr (Nat.le_of_not_lt fun h3=>?_);have:Nat.blt i (o+l.length)=true:=Qd4 h3;rw[this] at h1;cases h1
  ·cases h
 ·cases h
theorem Jy{α:Type}{o:Nat}{l cs:List α}(h:o+l.length≤cs.length):(cs.take o++l++cs.drop (o+l.length)).length=cs.length:=by simp;omega
theorem Wo{α:Type}{o:Nat}{l cs:List α}(h:o+l.length≤cs.length){i:Nat}(hi:i<o∨o+l.length≤i):(cs.take o++l++cs.drop (o+l.length))[i]? =cs[i]? :=by
 rcases hi with hi|hi
 ·rw[Qd0,Qd3 (by simp;omega),QdH hi]
 ·rw[QdB (by simp;omega),QeH];congr 1;simp;omega
theorem Sk{α:Type}{o:Nat}{l cs:List α}(h:o+l.length≤cs.length){i:Nat}(hi:i<l.length):(cs.take o++l++cs.drop (o+l.length))[o+i]? =l[i]? :=by
 rw[Qd0,QdB (by simp;omega),Qd3 (by simp;omega)];congr 1;simp;omega
theorem APost.wr{D:SS}{mk:Nat}{s s':AS}{b o:Nat}{l:List AV}(h:s.wr D mk b o l=some s'):APost mk s s':=by
 obtain⟨t,cs,opn,k⟩:=AS.wr_is h;refine⟨by rw[k.nx];exact Qde _,fun x hx=>by rw[←k.hd];exact hx,k.cl,fun hn x hx=>?_,fun x hx=>?_⟩
 ·rw[k.nx] at hx;rw[k.get,Qdf (by have:=k.lt;omega)];exact hn x hx
 ·rw[k.get];by_cases e:x=b
  ·subst e;rw[Qdm rfl,k.old];refine⟨_,rfl,Jy k.le,fun i hi=>Wo k.le (k.wr ?_ i hi)⟩;have:=(YG.1 hx).1;have:=k.nx;have:=k.lt;omega
  ·rw[Qdf e];exact ASame.refl _ _
theorem Yz(w:World)(g:Nat)(c:Array Value){r:Nat}(h:r≠g):(w.setRow g c).heap[r]? =w.heap[r]? :=by
 simp[World.setRow,QeR,Ne.symm h]
theorem RPost.wr{P:Program}{D:SS}{mk:Nat}{ρ:Rh}{ω:Nat→Option Nat}{w:World}{s s':AS}{b o:Nat}{l:List AV}(h:s.wr D mk b o l=some s')(hs:Sim P ρ ω D.hd D.cl s.hp.get w){vs:List Value}(hl:RVs ρ l vs):
  ∃g t c,ρ b=some g∧g.off=0∧w.heap[g.blk]? =some (.cells c t (0,0))∧o+vs.length≤c.size∧RPost P D mk ρ ω w s s' ρ ω (w.setRow g.blk (c.toList.take o++vs++c.toList.drop (o+vs.length)).toArray):=by
 obtain⟨t,cs,opn,k⟩:=AS.wr_is h;obtain⟨g,h1,h2,h3,c,h4,h5,h6,h7,h8⟩:=hs b _ (SS.free_hd k.free) k.old;have hle:o+vs.length≤c.toList.length:=by have:=k.le;rw[hl.length];simp;omega
 refine⟨g,t,c,h1,h6,h4,by simpa using hle,fun x ao hd hx=>?_,⟨rfl,rfl,rfl,by simp,Ext.refl _,fun r x hr hx hw=>?_,fun r hr hn=>?_⟩,fun x k1 k2=>absurd k1 k2⟩
 ·rw[k.get] at hx;by_cases e:x=b
  ·subst e;rw[Qdm rfl] at hx;cases hx;refine⟨g,h1,h2,by simpa using h3,_,setRow_heap w g.blk c _ t (0,0) h4,?_,h6,fun e=>?_,fun i a hi hd=>?_⟩
   ·rw[Jy k.le];simp only[Qdv];rw[Jy hle];simpa using h5
   ·simp only[Qdv];rw[Jy hle];simpa using h7 e
   ·simp only[Qdp];by_cases hr:i<o∨o+l.length≤i
    ·rw[Wo k.le hr] at hi;rw[Wo hle (by rw[hl.length];exact hr)];obtain⟨v,k1,k2⟩:=h8 i a hi hd;exact⟨v,by simpa using k1,k2⟩
    ·obtain⟨j,rfl⟩:∃j,i=o+j:=⟨i-o,by omega⟩;rw[Sk k.le (by omega)] at hi;rw[Sk hle (by rw[hl.length];omega)];exact hl.get hi
  ·rw[Qdf e] at hx;obtain⟨g',k1,k2,k3,k4⟩:=hs x ao hd hx;have hne:g'.blk≠g.blk:=fun e'=>by rw[e',h2] at k2;exact e (TL k2.symm)
   refine⟨g',k1,k2,by simpa using k3,?_⟩;rw[Yz w g.blk _ hne];exact k4
 ·refine⟨hx,?_⟩;by_cases e:r=g.blk
  ·subst e;rw[h2] at hx;cases hx;rw[setRow_heap w g.blk c _ t (0,0) h4,h4];refine⟨_,rfl,by simp only[Qdv];rw[Jy hle];simp,fun i hi=>?_⟩;simp only[Qdp];rw[Wo hle ?_]
   ·simp
   ·rw[hl.length];refine k.wr ?_ i hi;have:=(YG.1 hw).1;have:=k.nx;have:=k.lt;omega
  ·exact SameBut.of_eq (Yz w g.blk _ e)
 ·have e:r≠g.blk:=fun e=>by rw[e,h2] at hn;cases hn
  exact⟨hn,Yz w g.blk _ e⟩
def Pw(mk b:Nat)(L:SS):SS:=bif Nat.blt b mk then ⟨(b,b+1)::L.hds,L.cls⟩ else L
theorem JS{mk b:Nat}{L:SS}{x:Nat}(h:(Pw mk b L).hd x=false):L.hd x=false∧(b<mk→x≠b):=by
 unfold Pw at h;cases hm:Nat.blt b mk with
 | false=>
  rw[hm] at h;refine⟨h,fun hb=>?_⟩;have:Nat.blt b mk=true:=Qd4 hb;rw[hm] at this;cases this
 | true=>
  rw[hm] at h;simp only[QdE,SS.hd,List.any_cons,QdP] at h;refine⟨h.2,fun _ e=>?_⟩;subst e;have h1:=h.1;rw[Qd4 (Qde x),show Nat.blt x (x+1)=true from Qd4 (Qde _)] at h1;cases h1
theorem BE{mk b:Nat}{L:SS}{x i:Nat}:(Pw mk b L).cl x i=L.cl x i:=by
 unfold Pw;cases Nat.blt b mk <;> rfl
def AS.app(D:SS)(mk:Nat)(s:AS)(b n:Nat)(l:List AV):Option AS:=
 match s.hp.get b with
 | some (.row t cs true)=>
  if D.whole b&&(Nat.ble n cs.length&&(Nat.blt b s.nx&&(Nat.blt (b+1) 1048576&&Nat.blt (s.nx+1) 1048576))) then
   some ⟨(s.hp.set 20 b none).set 20 s.nx (some (.row t (cs.take n++l) true)),s.nx+1,Pw mk b s.lg⟩
  else none
 | _=>none
structure AppIs (D:SS) (mk:Nat) (s:AS) (b n:Nat) (l:List AV) (s':AS) (t:TypeId) (cs:List AV):Prop where
 old:s.hp.get b=some (.row t cs true)
 free:D.whole b=true
 le:n≤cs.length
 lt:b<s.nx
 nx:s'.nx=s.nx+1
 get:∀j,s'.hp.get j=if j=s.nx then some (.row t (cs.take n++l) true) else if j=b then none else s.hp.get j
 lg:s'.lg=Pw mk b s.lg
theorem AS.app_is{D:SS}{mk:Nat}{s s':AS}{b n:Nat}{l:List AV}(h:s.app D mk b n l=some s'):∃t cs,AppIs D mk s b n l s' t cs:=by
 unfold AS.app at h;split at h
 ·rename_i t cs hg;split at h
  ·rename_i hc;simp only[Qdo] at hc;cases h;refine⟨t,cs,hg,hc.1,Qdn hc.2.1,Xf hc.2.2.1,rfl,fun j=>?_,rfl⟩;rw[Tr.get_set _ _ _ _ (Xf hc.2.2.2.2),Tr.get_set _ _ _ _ (Xf hc.2.2.2.1)]
  ·cases h
 ·cases h
theorem APost.app{D:SS}{mk:Nat}{s s':AS}{b n:Nat}{l:List AV}(h:s.app D mk b n l=some s')(hm:mk≤s.nx):APost mk s s':=by
 obtain⟨t,cs,k⟩:=AS.app_is h;refine⟨by rw[k.nx];omega,fun x hx=>?_,fun x i hx=>?_,fun hn x hx=>?_,fun x hx=>?_⟩
 ·rw[k.lg] at hx;exact (JS hx).1
 ·rw[k.lg,BE] at hx;exact hx
 ·have:=k.nx;have:=k.lt;rw[k.get,Qdf (by omega),Qdf (by omega)];exact hn x (by omega)
 ·obtain⟨h1,h2⟩:=YG.1 hx;rw[k.lg] at h2;have hb:=(JS h2).2;have:=k.nx;have:=k.lt;rw[k.get,Qdf (by omega),Qdf (fun e=>by subst e;exact h1.elim (fun h1=>hb h1 rfl) (fun h1=>by omega))];exact ASame.refl _ _
theorem Rw{α:Type}{n:Nat}{l cs:List α}(h:n≤cs.length):(cs.take n++l).length=n+l.length:=by simp;omega
theorem RPost.app_in{P:Program}{D:SS}{mk:Nat}{ρ:Rh}{ω:Nat→Option Nat}{w:World}{s s':AS}{b n:Nat}{l:List AV}(h:s.app D mk b n l=some s')(hs:Sim P ρ ω D.hd D.cl s.hp.get w)(hf:ρ s.nx=none){vs:List Value}(hl:RVs ρ l vs)
  {t:TypeId} {cs:List AV} (hk:AppIs D mk s b n l s' t cs) {g:Pl} (hg:ρ b=some g) {c:Array Value} (hc:w.heap[g.blk]? =some (.cells c t (0,0))) (hle:n+vs.length≤c.size):
  RPost P D mk ρ ω w s s' (upd ρ s.nx (some g)) (upd ω g.blk (some s.nx)) (w.setRow g.blk (c.toList.take n++vs++c.toList.drop (n+vs.length)).toArray):=by
 have k:=hk;have hfr:=SS.whole_free k.free;obtain⟨g',h1,h2,h3,c',h4,h5,h6,h7,h8⟩:=hs b _ hfr.1 k.old;rw[hg] at h1;cases h1;rw[hc] at h4;cases h4;have e:=Ext.upd (g:=g) hf;have hle':n+vs.length≤c.toList.length:=by simpa using hle
 refine⟨fun x ao hd hx=>?_,⟨rfl,rfl,rfl,by simp,e,fun r x hr hx hw=>?_,fun r hr hn=>?_⟩,fun x k1 k2=>?_⟩
 ·rw[k.get] at hx;by_cases e1:x=s.nx
  ·subst e1;rw[Qdm rfl] at hx;cases hx;refine⟨g,Yu _ _ _,Yu _ _ _,by simpa using h3,?_⟩;refine OR.mono e ⟨_,setRow_heap w g.blk c _ t (0,0) hc,?_,h6,fun _=>?_,fun i a hi _=>?_⟩
   ·rw[Rw k.le];simp only[Qdv];rw[Jy hle',←hl.length];exact hle'
   ·simp only[Qdv];rw[Jy hle'];simpa using h7 rfl
   ·simp only[Qdp];by_cases hr:i<n
    ·rw[Qd3 (by rw[Qds];have:=k.le;omega),QdH hr] at hi;rw[Wo hle' (.inl hr)];obtain⟨v,k1,k2⟩:=h8 i a hi (hfr.2 i);exact⟨v,by simpa using k1,k2⟩
    ·obtain⟨j,rfl⟩:∃j,i=n+j:=⟨i-n,by omega⟩;have hj:j<l.length:=by
      have:=(Qdt.1 hi).1;rw[Rw k.le] at this;omega
     rw[QdB (by rw[Qds];have:=k.le;omega),show n+j-(cs.take n).length=j by rw[Qds];have:=k.le;omega] at hi;rw[Sk hle' (by rw[hl.length];exact hj)];exact hl.get hi
  ·rw[Qdf e1] at hx;by_cases e2:x=b
   ·subst e2;rw[Qdm rfl] at hx;cases hx
   ·rw[Qdf e2] at hx;obtain⟨g',k1,k2,k3,k4⟩:=hs x ao hd hx;have hne:g'.blk≠g.blk:=fun e'=>by rw[e',h2] at k2;exact e2 (TL k2.symm)
    refine⟨g',e _ _ k1,by rw[Zu _ _ hne];exact k2,by simpa using k3,?_⟩;rw[Yz w g.blk _ hne];exact k4.mono e
 ·have hne:r≠g.blk:=fun e'=>by
   rw[e',h2] at hx;cases hx;obtain⟨hw1,hw2⟩:=YG.1 hw;rw[k.lg] at hw2;have hb:=(JS hw2).2;have:=k.nx;have:=k.lt;rcases hw1 with hw1|hw1
   ·exact hb hw1 rfl
   ·omega
  exact⟨by rw[Zu _ _ hne];exact hx,SameBut.of_eq (Yz w g.blk _ hne)⟩
 ·have hne:r≠g.blk:=fun e=>by rw[e,h2] at hn;cases hn
  exact⟨by rw[Zu _ _ hne];exact hn,Yz w g.blk _ hne⟩
 ·by_cases e1:x=s.nx
  ·have:=k.nx;omega
  ·rw[Zu _ _ e1] at k2;exact absurd k1 k2
theorem RPost.app_new{P:Program}{D:SS}{mk:Nat}{ρ:Rh}{ω:Nat→Option Nat}{w:World}{s s':AS}{b n:Nat}{l:List AV}(h:s.app D mk b n l=some s')(hs:Sim P ρ ω D.hd D.cl s.hp.get w)(hf:ρ s.nx=none){vs:List Value}(hl:RVs ρ l vs)
  {t:TypeId} {cs:List AV} (hk:AppIs D mk s b n l s' t cs) {old rest:List Value} (hold:RVs ρ (cs.take n) old) {cap:Nat} (hlt:cap<9223372036854775808) (hcap:(old++vs++rest).length=cap*P.cellsOf t):
  RPost P D mk ρ ω w s s' (upd ρ s.nx (some ⟨w.heap.size,0,cap,hlt⟩)) (upd ω w.heap.size (some s.nx)) (w.alloc (.cells (old++vs++rest).toArray t)):=by
 have k:=hk;have hfr:=SS.whole_free k.free;have e:=Ext.upd (g:=⟨w.heap.size,0,cap,hlt⟩) hf;refine⟨fun x ao hd hx=>?_,⟨rfl,rfl,rfl,by simp,e,fun r x hr hx hw=>?_,fun r hr hn=>?_⟩,fun x k1 k2=>?_⟩
 ·rw[k.get] at hx;by_cases e1:x=s.nx
  ·subst e1;rw[Qdm rfl] at hx;cases hx;refine⟨_,Yu _ _ _,Yu _ _ _,by simp,?_⟩;refine OR.mono e ⟨_,heap_alloc_new w _,?_,rfl,fun _=>hcap,fun i a hi _=>?_⟩
   ·simp only[Qdj,Qdv];rw[hl.length,hold.length];omega
   ·simp only[Qdp];obtain⟨v,k1,k2⟩:=(hold.append hl).get hi;exact⟨v,by rw[Qd3 (Qdt.1 k1).1];exact k1,k2⟩
  ·rw[Qdf e1] at hx;by_cases e2:x=b
   ·subst e2;rw[Qdm rfl] at hx;cases hx
   ·rw[Qdf e2] at hx;obtain⟨g',k1,k2,k3,k4⟩:=hs x ao hd hx;refine⟨g',e _ _ k1,by rw[Zu _ _ (by omega)];exact k2,by simp;omega,?_⟩;rw[ZX w _ k3];exact k4.mono e
 ·exact⟨by rw[Zu _ _ (by omega)];exact hx,SameBut.of_eq (ZX w _ hr)⟩
 ·exact⟨by rw[Zu _ _ (by omega)];exact hn,ZX w _ hr⟩
 ·by_cases e1:x=s.nx
  ·have:=k.nx;omega
  ·rw[Zu _ _ e1] at k2;exact absurd k1 k2
def AS.mset(D:SS)(mk:Nat)(s:AS)(b:Nat)(es:List (AV×AV×Nat))(n:Nat):Option AS:=
 match s.hp.get b with
 | some (.mp _ _)=>
  if D.whole b&&(Nat.blt b s.nx&&Nat.blt (b+1) 1048576) then some ⟨s.hp.set 20 b (some (.mp es n)),s.nx,Pw mk b s.lg⟩ else none
 | _=>none
def AS.mget(D:SS)(s:AS)(b:Nat):Option (List (AV×AV×Nat)×Nat):=
 match s.hp.get b with
 | some (.mp es n)=>if D.whole b then some (es,n) else none
 | _=>none
theorem AS.mget_ok{P:Program}{D:SS}{ρ:Rh}{ω:Nat→Option Nat}{w:World}{s:AS}{b n:Nat}{es:List (AV×AV×Nat)}(hs:Sim P ρ ω D.hd D.cl s.hp.get w)(h:s.mget D b=some (es,n)):
  ∃g es',ρ b=some g∧g.blk<w.heap.size∧w.heap[g.blk]? =some (.map (List.toArray es') n)∧REs ρ es es':=by
 unfold AS.mget at h;split at h
 ·rename_i es0 n0 hg;split at h
  ·rename_i hc;cases h;obtain⟨g,h1,h2,h3,es',h4,h5⟩:=hs b _ (SS.whole_free hc).1 hg;exact⟨g,es',h1,h3,h4,h5⟩
  ·cases h
 ·cases h
theorem Es{D:SS}{mk:Nat}{s s':AS}{b n:Nat}{es:List (AV×AV×Nat)}(h:s.mset D mk b es n=some s'):(∃es0 n0,s.hp.get b=some (.mp es0 n0))∧D.whole b=true∧b<s.nx∧s'.nx=s.nx∧s'.lg=Pw mk b s.lg∧∀j,s'.hp.get j=if j=b then some (.mp es n) else s.hp.get j:=by
 unfold AS.mset at h;split at h
 ·rename_i es0 n0 hg;split at h
  ·rename_i hc;simp only[Qdo] at hc;cases h;exact⟨⟨_,_,hg⟩,hc.1,Xf hc.2.1,rfl,rfl,fun j=>Tr.get_set _ _ _ _ (Xf hc.2.2) j⟩
  ·cases h
 ·cases h
theorem APost.mset{D:SS}{mk:Nat}{s s':AS}{b n:Nat}{es:List (AV×AV×Nat)}(h:s.mset D mk b es n=some s'):APost mk s s':=by
 obtain⟨_,h1,h2,h3,h4,h5⟩:=Es h;refine⟨by omega,fun x hx=>?_,fun x i hx=>?_,fun hn x hx=>?_,fun x hx=>?_⟩
 ·rw[h4] at hx;exact (JS hx).1
 ·rw[h4,BE] at hx;exact hx
 ·rw[h5,Qdf (by omega)];exact hn x (by omega)
 ·obtain⟨k1,k2⟩:=YG.1 hx;rw[h4] at k2;have hb:=(JS k2).2;rw[h5,Qdf (fun e=>by subst e;exact k1.elim (fun h1=>hb h1 rfl) (fun h1=>by omega))];exact ASame.refl _ _
theorem WW(w:World)(g:Nat)(o:Obj){r:Nat}(h:r≠g):(w.heap.setIfInBounds g o)[r]? =w.heap[r]? :=Array.getElem?_setIfInBounds_ne (Ne.symm h)
theorem RPost.mset{P:Program}{D:SS}{mk:Nat}{ρ:Rh}{ω:Nat→Option Nat}{w:World}{s s':AS}{b n:Nat}{es:List (AV×AV×Nat)}(h:s.mset D mk b es n=some s')(hs:Sim P ρ ω D.hd D.cl s.hp.get w){es':List MapEntry}(he:REs ρ es es'){g:Pl}(hg:ρ b=some g):
  RPost P D mk ρ ω w s s' ρ ω {w with heap:=w.heap.setIfInBounds g.blk (.map es'.toArray n)}:=by
 obtain⟨⟨es0,n0,h0⟩,h1,h2,h3,h4,h5⟩:=Es h;have hfr:=SS.whole_free h1;obtain⟨g',k1,k2,k3,k4⟩:=hs b _ hfr.1 h0;rw[hg] at k1;cases k1;refine⟨fun x ao hd hx=>?_,⟨rfl,rfl,rfl,by simp,Ext.refl _,fun r x hr hx hw=>?_,fun r hr hn=>?_⟩,fun x k1 k2=>absurd k1 k2⟩
 ·rw[h5] at hx;by_cases e:x=b
  ·subst e;rw[Qdm rfl] at hx;cases hx;exact⟨g,hg,k2,by simpa using k3,es',by simp[k3],he⟩
  ·rw[Qdf e] at hx;obtain⟨g',m1,m2,m3,m4⟩:=hs x ao hd hx;have hne:g'.blk≠g.blk:=fun e'=>by rw[e',k2] at m2;exact e (TL m2.symm)
   refine⟨g',m1,m2,by simpa using m3,?_⟩;dsimp only;rw[WW w g.blk _ hne];exact m4
 ·have hne:r≠g.blk:=fun e'=>by
   rw[e',k2] at hx;cases hx;obtain⟨hw1,hw2⟩:=YG.1 hw;rw[h4] at hw2;have hb:=(JS hw2).2;rcases hw1 with hw1|hw1
   ·exact hb hw1 rfl
   ·omega
  exact⟨hx,SameBut.of_eq (WW w g.blk _ hne)⟩
 ·have hne:r≠g.blk:=fun e=>by rw[e,k2] at hn;cases hn
  exact⟨hn,WW w g.blk _ hne⟩
end Go.Proofs.YthdaabapiicnhaaGreatDoor.Av
