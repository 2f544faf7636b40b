/- Steps of the proof. -/
import Derived.Great.FillDense
import Derived.Laws.BytesString
import Derived.Test.YthdaabapiicnhaaGreatDoorTr29
set_option linter.all false
set_option maxRecDepth 100000
set_option maxHeartbeats 4000000
open Go.Proofs.Tryz
namespace Go.Proofs.YthdaabapiicnhaaGreatDoor.Av
open Go.RowKit
def Ym:AV→List AV
 | .agg l=>l
 | a=>[a]
theorem Pc{ρ:Rh}{a:AV}{v:Value}(h:RV ρ a v):RVs ρ (Ym a) v.cells.toList:=by
 cases a <;> simp only[Ym] <;> first
  | (simp only[RV] at h;obtain⟨xs,rfl,hl⟩:=h;exact hl)
  | (
    have h0:=h;simp only[RV] at h;have e:v.cells=#[v]:=by
     first
      | (subst h;rfl)
      | (obtain⟨g,c,_,_,rfl⟩:=h;rfl)
      | (obtain⟨g,_,_,rfl⟩:=h;rfl)
      | (obtain⟨g,_,rfl⟩:=h;rfl)
      | (obtain⟨g,c,rfl⟩:=h;rfl)
      | (obtain⟨g,rfl,_⟩:=h;rfl)
      | (obtain⟨g,c,rfl,_⟩:=h;rfl)
    rw[e];exact RVs.cons h0 RVs.nil)
def Pv(P:Program)(t:TypeId):Option (List AV):=
 match P.info? t with
 | some i=>match i.zero with
  | some z=>avs (av 8) z.cells.toList
  | none=>none
 | none=>none
theorem JR{P:Program}{ρ:Rh}{t:TypeId}{l:List AV}(h:Pv P t=some l)(w:World):∃z,(zeroValue t).run P w= .ok z w∧RVs ρ l z.cells.toList:=by
 unfold Pv at h;split at h
 ·rename_i i hi;split at h
  ·rename_i z hz;refine⟨z,?_,GY (fun v a k=>Nj 8 v a k) _ _ h⟩;unfold zeroValue;rw[Qdl,run_typeInfo w hi,Qdi,hz];rfl
  ·cases h
 ·cases h
def Nn(place:Nat→Option (Nat×Nat)):List AV→List (Nat×AV)→Option (List AV)
 | cells,[]=>some cells
 | cells,(i,v)::rest=>match place i with
  | none=>none
  | some (off,size)=>bif Nat.beq (Ym v).length size&&Nat.ble (off+(Ym v).length) cells.length then
    Nn place (cells.take off++Ym v++cells.drop (off+(Ym v).length)) rest
   else none
def RPs(ρ:Rh):List (Nat×AV)→List (Nat×Value)→Prop
 | [],vs=>vs=[]
 | a::l,vs=>∃v r,vs=(a.1,v)::r∧RV ρ a.2 v∧RPs ρ l r
theorem Lf(off:Nat)(v:Array Value)(cs:List Value)(h:off+v.size≤cs.length):v.zipIdx.foldl (fun cs (x:Value×Nat)=>cs.setIfInBounds (off+x.2) x.1) cs.toArray=(cs.take off++v.toList++cs.drop (off+v.size)).toArray:=by
 obtain⟨h1,h2⟩:=Go.Great.foldl_set off v.toList 0 cs.toArray;have e:v.zipIdx.foldl (fun cs (x:Value×Nat)=>cs.setIfInBounds (off+x.2) x.1) cs.toArray=(v.toList.zipIdx 0).foldl (fun cs (x:Value×Nat)=>cs.setIfInBounds (off+x.2) x.1) cs.toArray:=by
  rw[←Array.foldl_toList,Array.toList_zipIdx]
 rw[e];have hs:v.toList.length=v.size:=rfl;have hlen:(cs.take off++v.toList++cs.drop (off+v.size)).length=cs.length:=by rw[←hs];exact Jy (by rw[hs];exact h)
 apply Array.ext_getElem?;intro k;rw[h2 k];simp only[Qea,Qdv,Qdp];by_cases hk:off≤k∧k<off+v.size
 ·obtain⟨j,rfl⟩:∃j,k=off+j:=⟨k-off,by omega⟩;rw[Qdm ⟨by omega,by rw[hs];omega,by omega⟩,←hs,Sk (by rw[hs];exact h) (by rw[hs];omega)];congr 1;omega
 ·rw[Qdf (by rw[hs];omega),←hs,Wo (by rw[hs];exact h) (by rw[hs];omega)]
theorem G7{ρ:Rh}{place:Nat→Option (Nat×Nat)}:∀{parts:List (Nat×AV)} {cells l:List AV} {cs:List Value} {ps:List (Nat×Value)},Nn place cells parts=some l→RVs ρ cells cs→RPs ρ parts ps→
  ∃r,Instr.fill place cs.toArray ps=some (List.toArray r)∧RVs ρ l r
 | [],cells,l,cs,ps,h,hc,hp=>by
  simp only[Nn,Option.some.injEq] at h;simp only[RPs] at hp;subst h hp;exact⟨cs,rfl,hc⟩
 | (i,v)::rest,cells,l,cs,ps,h,hc,hp=>by
  simp only[RPs] at hp;obtain⟨v',r,rfl,hv,hr⟩:=hp;simp only[Nn] at h;simp only[Instr.fill];split at h
  ·cases h
  ·rename_i off size hpl;rw[hpl];have hac:=Pc hv;have hlen:v'.cells.size=(Ym v).length:=hac.length;cases hb:(Nat.beq (Ym v).length size&&Nat.ble (off+(Ym v).length) cells.length) with
   | false=>rw[hb] at h;cases h
   | true=>
    rw[hb] at h;simp only[QdE] at h;simp only[Qdo] at hb;have b1:=Qd7 hb.1;have b2:=Qdn hb.2;have hcl:=hc.length;simp only;rw[Qdf (by rw[hlen];simp only[Qdv,Qex,QdM];omega)];rw[Lf off v'.cells cs (by omega),hlen];refine G7 h ?_ hr;exact ((hc.take off).append hac).append (hc.drop _)
def VO(ae:AE):List (Nat×Operand)→Option (List (Nat×AV))
 | []=>some []
 | (i,x)::r=>match ae x,VO ae r with
  | some a,some l=>some ((i,a)::l)
  | _,_=>none
theorem Pa{ρ:Rh}{ae:AE}{e:Operand→Value}(he:∀x a,ae x=some a→RV ρ a (e x)):∀{l:List (Nat×Operand)} {m:List (Nat×AV)},VO ae l=some m→RPs ρ m (l.map fun x=>(x.1,e x.2))
 | [],m,h=>by simp only[VO,Option.some.injEq] at h;subst h;simp[RPs]
 | (i,x)::r,m,h=>by
  simp only[VO] at h;split at h
  ·rename_i a l h1 h2;simp only[Option.some.injEq] at h;subst h;simp only[RPs,List.map_cons];exact⟨_,_,rfl,he _ _ h1,Pa he h2⟩
  ·cases h
def Gy(P:Program):List Field→Option (List (Nat×Nat))
 | []=>some []
 | f::r=>match P.info? f.type,Gy P r with
  | some i,some l=>some ((f.offset,i.size)::l)
  | _,_=>none
theorem Nl{P:Program}(w:World):∀{fs:List Field} {l:List (Nat×Nat)},Gy P fs=some l→(fs.mapM fun f=>do pure (f.offset,←sizeOf f.type):Sem (List (Nat×Nat))).run P w= .ok l w
 | [],l,h=>by simp only[Gy,Option.some.injEq] at h;subst h;rfl
 | f::r,l,h=>by
  simp only[Gy] at h;split at h
  ·rename_i i m h1 h2;simp only[Option.some.injEq] at h;subst h;simp only[List.mapM_cons,Qdl,run_sizeOf w h1,Qu h1,Qdi,Qd1];rw[Nl w h2];rfl
  ·cases h
def DC(P:Program)(t:TypeId)(parts:List (Nat×AV)):Option AV:=
 match P.underlying t,Pv P t with
 | some (.struct fs),some z=>match Gy P fs.toList with
  | some pl=>(Nn (fun i=>pl[i]?) z parts).map .agg
  | none=>none
 | some (.array _ e),some z=>match P.info? e with
  | some i=>(Nn (fun j=>some (j*i.size,i.size)) z parts).map .agg
  | none=>none
 | _,_=>none
theorem Lw{P:Program}{ρ:Rh}{t:TypeId}{parts:List (Nat×AV)}{v:AV}(h:DC P t parts=some v){ps:List (Nat×Value)}(hp:RPs ρ parts ps)(w:World):
  ∃v',(Instr.build t ps.toArray).run P w= .ok v' w∧RV ρ v v':=by
 unfold DC at h;split at h
 ·rename_i fs z hd hz;split at h
  ·rename_i pl hpl;simp only[QdJ] at h;obtain⟨l,hl,rfl⟩:=h;obtain⟨z',hz1,hz2⟩:=JR (ρ:=ρ) hz w;obtain⟨r,hr1,hr2⟩:=G7 hl hz2 hp;refine⟨.agg r.toArray,?_,by simp only[RV];exact⟨r,rfl,hr2⟩⟩;unfold Instr.build;simp only[Qdl,hz1,Qdi,Qd6 hd];have hm:=Nl w hpl;rw[Array.mapM_eq_mapM_toList,Sem.run_map,hm];simp only[Qdi,Qdp,QeD];rw[show z'.cells.toList.toArray=z'.cells from rfl] at hr1;rw[hr1];rfl
  ·cases h
 ·rename_i n e z hd hz;split at h
  ·rename_i i hi;simp only[QdJ] at h;obtain⟨l,hl,rfl⟩:=h;obtain⟨z',hz1,hz2⟩:=JR (ρ:=ρ) hz w;obtain⟨r,hr1,hr2⟩:=G7 hl hz2 hp;refine⟨.agg r.toArray,?_,by simp only[RV];exact⟨r,rfl,hr2⟩⟩;unfold Instr.build;simp only[Qdl,hz1,Qdi,Qd6 hd,run_sizeOf w hi,Qu hi,QeD];rw[show z'.cells.toList.toArray=z'.cells from rfl] at hr1;rw[hr1];rfl
  ·cases h
 ·cases h
theorem O9{P:Program}{ρ:Rh}{x v:AV}{xt t:TypeId}{ok:Bool}(h:ES P x t ok=some v){x':Value}(hx:RV ρ x x')(w:World):∃v',(Instr.typeAssert x' xt t ok).run P w= .ok v' w∧RV ρ v v':=by
 unfold ES at h;split at h
 ·cases h
 ·rename_i d hni hd;split at h
  ·rename_i u a;simp only[RV] at hx;obtain⟨y,rfl,hy⟩:=hx;have run:(Instr.typeAssert (.iface u y) xt t ok).run P w=(if u=t then (pure (if ok then .tuple #[y,.bool true] else y):Sem Value) else (do
     if ok then pure (.tuple #[← zeroValue t, .bool false]) else runtimePanic (.typeAssertion (some xt) (some u) t ""))).run P w := by
    unfold Instr.typeAssert;simp only[Qdl,Qd6 hd,Qdi]
   rw[run];cases hb:Nat.beq u t with
   | true=>
    have e:=Qd7 hb;rw[hb] at h;rw[Qdm e];cases ok with
    | true=>cases h;exact⟨_,rfl,by simp only[RV];exact⟨[y,.bool true],rfl,RVs.cons hy (RVs.cons XU RVs.nil)⟩⟩
    | false=>cases h;exact⟨_,rfl,hy⟩
   | false=>
    have e:=QdS hb;rw[hb] at h;rw[Qdf e];cases ok with
    | false=>cases h
    | true=>
     simp only[cond_false,QdE] at h;split at h
     ·rename_i i hi;split at h
      ·rename_i z hz;simp only[QdJ] at h;obtain⟨z',hz',rfl⟩:=h;refine⟨.tuple #[z,.bool false],?_,by simp only[RV];exact⟨[z,.bool false],rfl,RVs.cons (Nj 8 _ _ hz') (RVs.cons XU RVs.nil)⟩⟩;simp only[QdC,Qdl,zeroValue,run_typeInfo w hi,Qdi,hz,Qd1]
      ·cases h
     ·cases h
  ·cases h
 ·cases h
theorem Qb3{P:Program}{ρ:Rh}{t tt:TypeId}{ts:Array TypeId}(ht:ts[0]? =some t){x v:AV}(h:Qda P t x=some v){x':Value}(hx:RV ρ x x')(w:World):∃v',(Builtin.len_ ts tt #[x']).run P w= .ok v' w∧RV ρ v v':=by
 unfold Qda at h;split at h
 all_goals first|(cases h;done)|skip
 all_goals
  rename_i hd;cases h
  try simp only[RV] at hx
  refine⟨_,?_,Yg⟩
  try first
   | subst hx
   | (obtain⟨g,c,_,_,rfl⟩:=hx)
   | (obtain⟨g,_,_,rfl⟩:=hx)
   | (obtain⟨g,_,rfl⟩:=hx)
   | (obtain⟨g,c,rfl,_⟩:=hx)
  unfold Builtin.len_;simp only[ht,Qdp,Qe6,Qdl,Qd6 hd,Qdi];rfl
theorem OL{P:Program}{ρ:Rh}{s d:TypeId}{a v:AV}(h:EX P s d a=some v){x:Value}(hx:RV ρ a x)(w:World):∃v',(convert s d x).run P w= .ok v' w∧RV ρ v v':=by
 unfold EX at h;split at h
 ·rename_i ds k' k n h1 h2;cases h;simp only[RV] at hx;subst hx;refine⟨_,?_,Yg⟩;unfold convert;simp only[Qdl,Qd6 h1,Qd6 h2,Qdi,YP];rfl
 ·split at h
  ·rename_i u hu;obtain⟨r,h1,h2⟩:=Gv (ρ:=ρ) h;rw[ZH _ _ _ hx hu];exact⟨r,YT h1 w,h2⟩
  ·cases h
theorem BH{P:Program}{ρ:Rh}{b:Builtin}{ts:Array TypeId}{t:TypeId}{l:List AV}{v:AV}(h:Nq P b ts t l=some v){xs:List Value}(hx:RVs ρ l xs)(cs:Array Bool)(w:World):
  ∃v',(builtin b ts t cs xs.toArray).run P w= .ok (.value v') w∧RV ρ v v':=by
 unfold Nq at h;split at h
 ·rename_i x;split at h
  ·rename_i t0 ht;simp only[RVs] at hx;obtain⟨x',r,rfl,hx,rfl⟩:=hx;obtain⟨v',h1,h2⟩:=Qb3 (tt:=t) ht h hx w;exact⟨v',Xi h1,h2⟩
  ·cases h
 ·split at h
  ·rename_i us hu;obtain⟨r,h1,h2⟩:=Gv (ρ:=ρ) h;rw[Hu _ _ _ hx hu];exact⟨r,Xi (YT h1 w),h2⟩
  ·cases h
 ·split at h
  ·rename_i us hu;obtain⟨r,h1,h2⟩:=Gv (ρ:=ρ) h;rw[Hu _ _ _ hx hu];exact⟨r,Xi (YT h1 w),h2⟩
  ·cases h
 ·cases h
def TZ(ae:AE)(a b:Operand):Option AV→Option AV
 | some (.bool true)=>ae a
 | some (.bool false)=>ae b
 | _=>none
def binK(P:Program)(op:BinOp)(t:TypeId)(x y:Operand)(a b:AV):Option AV→Option AV
 | some v=>some v
 | none=>OM P op t x y a b
def CE(P:Program)(op:BinOp)(t:TypeId)(x y:Operand):Option AV→Option AV→Option AV
 | some (.int k m),some (.int k' n)=>binK P op t x y (.int k m) (.int k' n) (zop op k k' m n)
 | some a,some b=>OM P op t x y a b
 | _,_=>none
def My(P:Program)(op:UnOp):Option AV→Option AV
 | some a=>match vof a with
  | some u=>(Hy P (Op.unary op u)).bind (av 8)
  | none=>none
 | none=>none
def CA(P:Program)(t:TypeId)(a:Option AV):Option AV:=
 match P.underlying t,a with
 | some (.interface _),_=>none
 | some _,some a=>some (.ifc t a)
 | _,_=>none
def M0(ae:AE)(f:FuncId)(a b:Array Operand):Option AV:=
 match aes ae a.toList,aes ae b.toList with
 | some x,some y=>some (.fn f x y)
 | _,_=>none
def CD(i:Nat):Option AV→Option AV
 | some (.tup l)=>l[i]?
 | _=>none
def P5(f:AV→Option AV):Option AV→Option AV
 | some a=>f a
 | none=>none
def F6(f:AV→AV→Option AV):Option AV→Option AV→Option AV
 | some a,some b=>f a b
 | _,_=>none
def Mz(P:Program)(t:TypeId):Option AV→Option (Option AV)→Option (Option AV)→Option (Option AV)→Option AV
 | some a,some l,some h,some m=>D3 P t a l h m
 | _,_,_,_=>none
def C4:Option AV→Option AV
 | some (.ptr b o)=>some (.ptr b o)
 | some (.fn f a b)=>some (.fn f a b)
 | some (.ifc t a)=>some (.ifc t a)
 | _=>none
def Kr(P:Program)(t:TypeId):Option (List (Nat×AV))→Option AV
 | some l=>DC P t l
 | none=>none
def RR(P:Program)(b:Builtin)(ts:Array TypeId)(t:TypeId):Option (List AV)→Option AV
 | some l=>Nq P b ts t l
 | none=>none
def pop(P:Program)(ae:AE)(o:Oper):Option AV:=
 match o.op with
 | .move x=>ae x
 | .assign x=>ae x
 | .pick c a b=>TZ ae a b (ae c)
 | .binOp op t x y _=>CE P op t x y (ae x) (ae y)
 | .unOp op _ x=>My P op (ae x)
 | .convert s d x=>P5 (EX P s d) (ae x)
 | .makeInterface t x=>CA P t (ae x)
 | .makeFunc (.func f) a b=>M0 ae f a b
 | .extract x i=>CD i (ae x)
 | .field t x f=>P5 (fun a=>SQ P t a f) (ae x)
 | .index t x i=>F6 (SO P t) (ae x) (ae i)
 | .fieldAddr t x f=>P5 (fun a=>Vr P t a f) (ae x)
 | .indexAddr t x i=>F6 (Vq P t) (ae x) (ae i)
 | .slice t x lo hi mx=>Mz P t (ae x) (SK ae lo) (SK ae hi) (SK ae mx)
 | .nilCheck x=>C4 (ae x)
 | .typeAssert x _ t ok=>P5 (fun a=>ES P a t ok) (ae x)
 | .build t parts=>Kr P t (VO ae parts.toList)
 | .call {callee:=.builtin b,args,argTypes}=>RR P b argTypes o.type (aes ae args.toList)
 | _=>none
theorem Qcq{P:Program}{ρ:Rh}{ae:AE}{e:Operand→Value}{o:Oper}{v:AV}(h:pop P ae o=some v)(he:∀x a,ae x=some a→RV ρ a (e x))(w:World):∃v',(execOp e o).run P w= .ok (.value v') w∧RV ρ v v':=by
 obtain⟨dst,op,type,pos,after,guard⟩:=o;unfold pop at h;simp only at h;split at h
 ·exact⟨_,rfl,he _ _ h⟩
 ·exact⟨_,rfl,he _ _ h⟩
 ·rename_i c a b;unfold TZ at h;split at h
  ·rename_i hc;have:=he _ _ hc;simp only[RV] at this;refine⟨e a,?_,he _ _ h⟩;simp only[execOp,this,asBool];rfl
  ·rename_i hc;have:=he _ _ hc;simp only[RV] at this;refine⟨e b,?_,he _ _ h⟩;simp only[execOp,this,asBool];rfl
  ·cases h
 ·rename_i op t x y yt;have gen:∀{a b:AV},ae x=some a→ae y=some b→OM P op t x y a b=some v→∃v',(execOp e ⟨dst,.binOp op t x y yt,type,pos,after,guard⟩).run P w= .ok (.value v') w∧RV ρ v v':=fun {a b} ha hb hh=>by
   obtain⟨v',h1,h2⟩:=Qb7 hh (he _ _ ha) (he _ _ hb) w;exact⟨v',Xi h1,h2⟩
  unfold CE at h;split at h
  ·rename_i k m k' n hx hy;unfold binK at h;split at h
   ·rename_i v0 hz;cases h;obtain⟨v',h1,h2⟩:=QbY (P:=P) (ρ:=ρ) hz t w;have ex:=he _ _ hx;have ey:=he _ _ hy;simp only[RV] at ex ey;refine⟨v',Xi ?_,h2⟩;rw[ex,ey,Qdl];have:(eqGuard op t x y (.int k m) (.int k' n)).run P w= .ok () w:=by cases op <;> rfl
    rw[this];exact h1
   ·exact gen hx hy h
  ·rename_i a b _ hx hy;exact gen hx hy h
  ·cases h
 ·rename_i op t x;unfold My at h;split at h
  ·rename_i a ha;split at h
   ·rename_i u hu;obtain⟨r,h1,h2⟩:=Gv (ρ:=ρ) h;refine⟨r,Xi ?_,h2⟩;rw[ZH _ _ _ (he _ _ ha) hu];exact YT h1 w
   ·cases h
  ·cases h
 ·unfold P5 at h;split at h
  ·rename_i a ha;obtain⟨v',h1,h2⟩:=OL h (he _ _ ha) w;exact⟨v',Xi h1,h2⟩
  ·cases h
 ·rename_i t x;unfold CA at h;split at h
  ·cases h
  ·rename_i d a hni hd ha;cases h;refine⟨.iface t (e x),Xi ?_,by simp only[RV];exact⟨_,rfl,he _ _ ha⟩⟩;unfold Instr.makeInterface;simp only[Qdl,Qd6 hd,Qdi];cases d <;> first|exact absurd hd (hni _)|rfl
  ·cases h
 ·rename_i f a b;unfold M0 at h;split at h
  ·rename_i x y hx hy;cases h;refine⟨.func (.func f) (a.toList.map e).toArray (b.toList.map e).toArray,Xi ?_,by simp only[RV];exact⟨_,_,rfl,Hp he hx,Hp he hy⟩⟩;unfold Instr.makeFunc;rw[Qd1,←Qf4,←Qf4]
  ·cases h
 ·rename_i x i;unfold CD at h;split at h
  ·rename_i l hx;have:=he _ _ hx;simp only[RV] at this;obtain⟨xs,ex,hl⟩:=this;obtain⟨v',h1,h2⟩:=hl.get h;refine⟨v',Xi ?_,h2⟩;rw[ex];unfold Instr.extract;simp only[Qdp,h1];rfl
  ·cases h
 ·unfold P5 at h;split at h
  ·rename_i a ha;obtain⟨v',h1,h2⟩:=Ls w h (he _ _ ha);exact⟨v',Xi h1,h2⟩
  ·cases h
 ·unfold F6 at h;split at h
  ·rename_i a b ha hb;obtain⟨v',h1,h2⟩:=Lr w h (he _ _ ha) (he _ _ hb);exact⟨v',Xi h1,h2⟩
  ·cases h
 ·unfold P5 at h;split at h
  ·rename_i a ha;obtain⟨v',h1,h2⟩:=NT w h (he _ _ ha);exact⟨v',Xi h1,h2⟩
  ·cases h
 ·unfold F6 at h;split at h
  ·rename_i a b ha hb;obtain⟨v',h1,h2⟩:=NS w h (he _ _ ha) (he _ _ hb);exact⟨v',Xi h1,h2⟩
  ·cases h
 ·unfold Mz at h;split at h
  ·rename_i a l hh m ha hl hhi hm;obtain⟨v',h1,h2⟩:=Lo w h (he _ _ ha) (SJ he hl) (SJ he hhi) (SJ he hm);exact⟨v',Xi h1,h2⟩
  ·cases h
 ·rename_i x;unfold C4 at h;split at h
  ·rename_i b o hx;cases h;have hv:=he _ _ hx;have hv':=hv;simp only[RV] at hv';obtain⟨g,_,ev⟩:=hv';refine⟨e x,?_,hv⟩;simp only[execOp,ev];rfl
  ·rename_i f a b hx;cases h;have hv:=he _ _ hx;have hv':=hv;simp only[RV] at hv';obtain⟨xs,ys,ev,_⟩:=hv';refine⟨e x,?_,hv⟩;simp only[execOp,ev];rfl
  ·rename_i t a hx;cases h;have hv:=he _ _ hx;have hv':=hv;simp only[RV] at hv';obtain⟨y,ev,_⟩:=hv';refine⟨e x,?_,hv⟩;simp only[execOp,ev];rfl
  ·cases h
 ·unfold P5 at h;split at h
  ·rename_i a ha;obtain⟨v',h1,h2⟩:=O9 h (he _ _ ha) w;exact⟨v',Xi h1,h2⟩
  ·cases h
 ·rename_i t parts;unfold Kr at h;split at h
  ·rename_i l hl;obtain⟨v',h1,h2⟩:=Lw h (Pa he hl) w;refine⟨v',Xi ?_,h2⟩;rw[←h1];congr 2;exact QeO.1 (by simp)
  ·cases h
 ·rename_i b args ts;unfold RR at h;split at h
  ·rename_i l hl;obtain⟨v',h1,h2⟩:=BH h (Hp he hl) (args.map fun | .const _=>true|_=>false) w;refine⟨v',?_,h2⟩;rw[←h1];simp only[execOp,resolve,Qdl,Qd1,Qdi,invoke];congr 2;exact QeO.1 (by simp)
  ·cases h
 ·cases h
def OpR(P:Program)(D:SS)(mk:Nat)(ρ:Rh)(ω:Nat→Option Nat)(w:World)(s s':AS)(v:AV)(r:Result Next):Prop:=
 ∃v' w' ρ' ω',(r= .ok (.value v') w'∨(r= .ok .skip w'∧v'=undef))∧RV ρ' v v'∧RPost P D mk ρ ω w s s' ρ' ω' w'
def Frs(ρ:Rh)(s s':AS):Prop:=∀b,s.nx≤b→b<s'.nx→ρ b=none
theorem OpR.value{P:Program}{D:SS}{mk:Nat}{ρ ρ':Rh}{ω ω':Nat→Option Nat}{w w':World}{s s':AS}{v:AV}{v':Value}{m:Sem Value}(h:m.run P w= .ok v' w')(hv:RV ρ' v v')(hp:RPost P D mk ρ ω w s s' ρ' ω' w'):
  OpR P D mk ρ ω w s s' v (((do pure (Next.value (←m))):Sem Next).run P w):=⟨v',w',ρ',ω',.inl (by rw[Qdl,h];rfl),hv,hp⟩
theorem OpR.unit{P:Program}{D:SS}{mk:Nat}{ρ ρ':Rh}{ω ω':Nat→Option Nat}{w w':World}{s s':AS}{m:Sem Unit}(h:m.run P w= .ok () w')(hp:RPost P D mk ρ ω w s s' ρ' ω' w'):
  OpR P D mk ρ ω w s s' (.tup []) (((do m;pure Next.skip):Sem Next).run P w):=⟨undef,w',ρ',ω',.inr ⟨by rw[Qdl,h];rfl,rfl⟩,by simp only[RV];exact⟨[],rfl,RVs.nil⟩,hp⟩
def G4(P:Program)(D:SS)(s:AS)(t:TypeId)(x:AV):Option AV:=
 match x with
 | .ptr b o=>match P.underlying t,P.info? t with
  | some d,some i=>bif FT d then (match s.rd D b o i.size with
    | some l=>some (.agg l)
    | none=>none) else match s.rd D b o 1 with
    | some [a]=>some a
    | _=>none
  | _,_=>none
 | _=>none
theorem Yh{P:Program}{w:World}{g o:Nat}{vs:List Value}(h:∀j v,vs[j]? =some v→w.cell? ⟨g,o+j,none⟩=some v):(loadCells ⟨g,o,none⟩ vs.length).run P w= .ok vs.toArray w:=
 run_loadCells_list (P:=P) w ⟨g,o,none⟩ vs fun j v hv=>by rw[VR];exact h j v hv
theorem RH{P:Program}{w:World}{a:Addr}{v:Value}(h:w.cell? a=some v):(load a).run P w= .ok v w:=by
 simp only[load,Sem.run,h]
theorem BD{P:Program}{D:SS}{ρ:Rh}{ω:Nat→Option Nat}{w:World}{s:AS}{t:TypeId}{x v:AV}(h:G4 P D s t x=some v)(hs:Sim P ρ ω D.hd D.cl s.hp.get w){x':Value}(hx:RV ρ x x'):
  ∃v',(Instr.loadAt t x').run P w= .ok v' w∧RV ρ v v':=by
 unfold G4 at h;split at h
 ·rename_i b o;simp only[RV] at hx;obtain⟨g,hg,rfl⟩:=hx;split at h
  ·rename_i d i hd hi;cases ha:FT d with
   | true=>
    rw[ha] at h;simp only[QdE] at h;split at h
    ·rename_i l hl;cases h;obtain⟨g',vs,h1,h2,h3,h4⟩:=AS.rd_ok hs hl;rw[hg] at h1;cases h1;refine⟨.agg vs.toArray,?_,by simp only[RV];exact⟨vs,rfl,h3⟩⟩;simp only[Instr.loadAt,Instr.sureAddr,Qdl,Qd1,Qdi,loadVar,Kl hd,ha,QdC,run_sizeOf w hi,Qu hi];rw[←h4,←h3.length,Yh h2];rfl
    ·cases h
   | false=>
    rw[ha] at h;simp only[cond_false] at h;split at h
    ·rename_i a hl;cases h;obtain⟨g',vs,h1,h2,h3,h4⟩:=AS.rd_ok hs hl;rw[hg] at h1;cases h1;simp only[RVs] at h3;obtain⟨v',r,rfl,hv,rfl⟩:=h3;refine⟨v',?_,hv⟩;simp only[Instr.loadAt,Instr.sureAddr,Qdl,Qd1,Qdi,loadVar,Kl hd,ha,QdN,QdV];exact RH (h2 0 v' rfl)
    ·cases h
  ·cases h
 ·cases h
def one:AV→Bool
 | .agg _ | .tup _=>false
 | _=>true
theorem Qc1{ρ:Rh}{a:AV}{v:Value}(h:one a=true)(hv:RV ρ a v):v.oneCell'=true:=by
 cases a <;> first|(simp[one] at h;done)|skip
 all_goals
  simp only[RV] at hv
  first
   | (subst hv;rfl)
   | (obtain⟨g,c,_,_,rfl⟩:=hv;rfl)
   | (obtain⟨g,_,_,rfl⟩:=hv;rfl)
   | (obtain⟨g,_,rfl⟩:=hv;rfl)
   | (obtain⟨g,c,rfl⟩:=hv;rfl)
   | (obtain⟨g,rfl,_⟩:=hv;rfl)
   | (obtain⟨g,c,rfl,_⟩:=hv;rfl)
theorem Gf{ρ:Rh}:∀{l:List AV} {vs:List Value},l.all one=true→RVs ρ l vs→∀v∈vs,v.oneCell'=true
 | [],vs,_,hv,v,hm=>by simp only[RVs] at hv;subst hv;cases hm
 | a::l,vs,h,hv,v,hm=>by
  simp only[RVs] at hv;obtain⟨x,r,rfl,h1,h2⟩:=hv;simp only[QfK,Qdo] at h;rcases QdW.1 hm with rfl|hm
  ·exact Qc1 h.1 h1
  ·exact Gf h.2 h2 v hm
def Vp(P:Program)(D:SS)(mk:Nat)(s:AS)(t:TypeId)(x y:AV):Option AS:=
 match x,P.info? t with
 | .ptr b o,some i=>bif Nat.beq (Ym y).length i.size&&(Ym y).all one then s.wr D mk b o (Ym y) else none
 | _,_=>none
theorem Jc{P:Program}{w:World}{g o:Nat}{t:TypeId}{c:Array Value}{vs:List Value}(hc:w.heap[g]? =some (.cells c t (0,0)))(hl:o+vs.length≤c.size)(h1:∀v∈vs,v.oneCell'=true):
  (storeCells ⟨g,o,none⟩ vs).run P w= .ok () (w.setRow g (c.toList.take o++vs++c.toList.drop (o+vs.length)).toArray):=run_storeCells_at P g o t vs 0 c w hc (by simpa using hl) h1
theorem Ln{P:Program}{D:SS}{mk:Nat}{ρ:Rh}{ω:Nat→Option Nat}{w:World}{s s':AS}{t:TypeId}{x y:AV}(h:Vp P D mk s t x y=some s')(hs:Sim P ρ ω D.hd D.cl s.hp.get w){x' y':Value}(hx:RV ρ x x')(hy:RV ρ y y'):
  APost mk s s'∧∃w',(Instr.storeAt t x' y').run P w= .ok () w'∧RPost P D mk ρ ω w s s' ρ ω w':=by
 unfold Vp at h;split at h
 ·rename_i b o i hi;cases hb:(Nat.beq (Ym y).length i.size&&(Ym y).all one) with
  | false=>rw[hb] at h;cases h
  | true=>
   rw[hb] at h;simp only[QdE] at h;simp only[Qdo] at hb;simp only[RV] at hx;obtain⟨g,hg,rfl⟩:=hx;have hl:=Pc hy;obtain⟨g',tt,c,k1,k0,k2,k3,k4⟩:=RPost.wr h hs hl;rw[hg] at k1;cases k1;rw[k0,Qd5];refine⟨APost.wr h,_,?_,k4⟩;simp only[Instr.storeAt,Instr.sureAddr,Qdl,Qd1,Qdi,storeVar,run_sizeOf w hi,Qu hi];have:y'.cells.size=i.size:=by
    have:=hl.length;rw[←Qd7 hb.1,←this];rfl
   rw[Qdf (by simp[this])];exact Jc k2 k3 (Gf hb.2 hl)
 ·cases h
def B9(s:AS)(t:TypeId)(l:List AV)(opn:Bool):Option AS:=s.new (.row t l opn)
theorem PS{P:Program}{D:SS}{mk:Nat}{ρ:Rh}{ω:Nat→Option Nat}{w:World}{s s':AS}{t:TypeId}{l:List AV}(h:B9 s t l false=some s')(hm:mk≤s.nx)(hs:Sim P ρ ω D.hd D.cl s.hp.get w)(hf:Frs ρ s s'){c:Array Value}(hl:RVs ρ l c.toList):
  APost mk s s'∧∃ρ' g,(newRow t c).run P w= .ok ⟨w.heap.size,0,none⟩ (w.alloc (.cells c t))∧Ext ρ ρ'∧ρ' s.nx=some g∧(g.blk=w.heap.size∧g.off=0)∧RPost P D mk ρ ω w s s' ρ' (upd ω w.heap.size (some s.nx)) (w.alloc (.cells c t)):=by
 have hn:ρ s.nx=none:=hf s.nx (Qde _) (by have:=(AS.new_get h).1;omega);refine⟨APost.new h hm,_,_,rfl,Ext.upd hn,Yu _ _ _,⟨rfl,rfl⟩,RPost.new 0 (by decide) h hs hn rfl ⟨c,rfl,?_,rfl,fun e=>(by cases e),fun i a hi _=>?_⟩⟩
 ·have:=hl.length;simp at this;omega
 ·obtain⟨v,h1,h2⟩:=hl.get hi;exact⟨v,by simpa using h1,h2⟩
def Vo(z:List AV):Nat→List AV
 | 0=>[]
 | n+1=>z++Vo z n
theorem JA(z:List AV):∀n,(Vo z n).length=n*z.length
 | 0=>by simp[Vo]
 | n+1=>by simp[Vo,JA z n,Qff];omega
theorem Nh(z:List AV):∀(n i:Nat),i<n*z.length→(Vo z n)[i]? =z[i%z.length]?
 | 0,i,h=>by simp at h
 | n+1,i,h=>by
  rw[Qff] at h;unfold Vo;by_cases hi:i<z.length
  ·rw[Qd3 hi,Qez hi]
  ·rw[QdB (by omega),Nh z n _ (by omega),←Nat.mod_eq_sub_mod (by omega)]
theorem Tg{ρ:Rh}{z:List AV}{zs:Array Value}(h:RVs ρ z zs.toList)(n:Nat):RVs ρ (Vo z n) ((Array.range (n*zs.size)).map (zs[· % zs.size]!)).toList:=by
 have hl:zs.size=z.length:=h.length;refine RVs.of (by simp[JA,hl]) fun i a v h1 h2=>?_;have hi:i<n*z.length:=by have:=(Qdt.1 h1).1;rwa [JA] at this
 rw[Nh z n i hi] at h1;obtain⟨v',k1,k2⟩:=h.get h1;have hz:0<z.length:=by
  rcases Nat.eq_zero_or_pos z.length with h0|h0
  ·rw[h0] at hi;simp at hi
  ·exact h0
 have hlt:i%zs.size<zs.size:=Qen _ (by omega);have e:zs[i%zs.size]! =v':=by
  rw[getElem!_pos zs _ hlt];have:zs.toList[i%z.length]? =some v':=k1;rw[←hl] at this;have:=(Qdt.1 this).2;simpa using this
 have:v=v':=by
  simp only[Qf4,Array.toList_range,QdI] at h2;rw[List.getElem?_range (by rw[hl];exact hi)] at h2;simp only[Qf9,Option.some.injEq] at h2;rw[←h2,e]
 exact this▸k2
def VT:List AV→Option (List UInt8)
 | []=>some []
 | .int .u8 (.ofNat n)::r=>(VT r).map (UInt8.ofNat n::·)
 | _=>none
theorem TA{ρ:Rh}:∀{l:List AV} {bs:List UInt8} {vs:List Value},VT l=some bs→RVs ρ l vs→∃ns:List Int,vs=ns.map (Value.int .u8)∧ns.map (fun n=>UInt8.ofNat n.toNat)=bs
 | [],bs,vs,h,hv=>by
  simp only[VT,Option.some.injEq] at h;simp only[RVs] at hv;subst h hv;exact⟨[],rfl,rfl⟩
 | a::r,bs,vs,h,hv=>by
  unfold VT at h;split at h
  ·rename_i e;cases e
  ·rename_i n r' e;cases e;simp only[QdJ] at h;obtain⟨b,hb,rfl⟩:=h;simp only[RVs,RV] at hv;obtain⟨v,vs',rfl,rfl,hr⟩:=hv;obtain⟨ns,rfl,e2⟩:=TA hb hr;exact⟨(n:Int)::ns,rfl,by simp[e2]⟩
  ·cases h
theorem Dh(ns:List Int):∀(l:List UInt8),ns.foldl (fun (r:ByteArray) n=>r.push (UInt8.ofNat n.toNat)) ⟨l.toArray⟩=⟨(l++ns.map fun n=>UInt8.ofNat n.toNat).toArray⟩:=by
 induction ns with
 | nil=>intro l;simp
 | cons n ns ih=>
  intro l;rw[Qf8];have:(⟨l.toArray⟩:ByteArray).push (UInt8.ofNat n.toNat)=⟨(l++[UInt8.ofNat n.toNat]).toArray⟩:=by
   simp[ByteArray.push]
  rw[this,ih];simp
def Qb1(P:Program)(D:SS)(s:AS)(src dst:TypeId)(x:AV):Option AV:=
 match P.underlying src,P.underlying dst with
 | some (.slice e),some .string=>match P.underlying e with
  | some (.int .u8)=>match x with
   | .slc b o n c=>match s.rd D b o n with
    | some l=>(VT l).map .str
    | none=>none
   | .slo b n=>match s.rd D b 0 n with
    | some l=>(VT l).map .str
    | none=>none
   | .slu b o n=>match s.rd D b o n with
    | some l=>(VT l).map .str
    | none=>none
   | .emp=>some (.str [])
   | _=>none
  | _=>none
 | _,_=>none
theorem Qb0{P:Program}{D:SS}{ρ:Rh}{ω:Nat→Option Nat}{w:World}{s:AS}{src dst:TypeId}{x v:AV}(h:Qb1 P D s src dst x=some v)(hs:Sim P ρ ω D.hd D.cl s.hp.get w){x':Value}(hx:RV ρ x x'):
  ∃v',(convert src dst x').run P w= .ok v' w∧RV ρ v v':=by
 unfold Qb1 at h;split at h
 ·rename_i e h1 h2;split at h
  ·rename_i h3;have go:∀{b o n c:Nat} {g:Pl},ρ b=some g→(match s.rd D b o n with
     | some l=>(VT l).map AV.str
     | none=>none)=some v→∃v',(convert src dst (.slice (some ⟨g.blk,g.off+o,none⟩) n c)).run P w= .ok v' w∧RV ρ v v':=fun {b o n c g} hg h=>by
    split at h
    ·rename_i l hl;simp only[QdJ] at h;obtain⟨bs,hbs,rfl⟩:=h;obtain⟨g',vs,k1,k2,k3,k4⟩:=AS.rd_ok hs hl;rw[hg] at k1;cases k1;obtain⟨ns,rfl,e2⟩:=TA hbs k3;refine⟨.string ⟨bs.toArray⟩,?_,by simp only[RV]⟩;rw[run_convert_bytes_string w src dst e _ _ _ h1 h3 h2,run_bytesToString w _ n c ns (by rw[←k4,←k3.length];exact Yh k2)];have:=Dh ns [];rw[show (ByteArray.empty:ByteArray)=⟨([]:List UInt8).toArray⟩ from rfl,this,QdU,e2]
    ·cases h
   split at h
   ·simp only[RV] at hx;obtain⟨g,hg,rfl⟩:=hx;exact go hg h
   ·simp only[RV] at hx;obtain⟨g,hg,_,rfl⟩:=hx;exact go hg h
   ·simp only[RV] at hx;obtain⟨g,c,hg,_,rfl⟩:=hx;exact go hg h
   ·cases h;simp only[RV] at hx;obtain⟨a,c,rfl,_⟩:=hx;refine⟨.string ⟨([]:List UInt8).toArray⟩,?_,by simp only[RV]⟩;rw[run_convert_bytes_string w src dst e _ _ _ h1 h3 h2];cases a with
    | none=>rfl
    | some a=>rw[run_bytesToString w _ 0 c [] rfl];rfl
   ·cases h
  ·cases h
 ·cases h
def WA(P:Program)(s:AS)(t:TypeId)(len:Nat)(parts:List (Nat×AV)):Option (AV×AS):=
 match P.underlying t with
 | some (.slice e)=>match Pv P e,P.info? e with
  | some z,some i=>bif Nat.beq z.length i.size&&Nat.ble (len*i.size) 16777216 then
    match Nn (fun j=>some (j*i.size,i.size)) (Vo z len) parts with
    | some l=>match B9 s e l false with
     | some s'=>some (.slc s.nx 0 len len,s')
     | none=>none
    | none=>none
   else none
  | _,_=>none
 | _=>none
theorem QbJ(z:Value)(n k:Nat)(hk:z.cells.size=k):((Array.range (n*k)).map fun x=>(if n*k=0 then #[] else z.cells)[x%(if n*k=0 then #[] else z.cells).size]!)=(Array.range (n*z.cells.size)).map (z.cells[· % z.cells.size]!):=by
 by_cases h0:n*k=0
 ·rw[hk,h0];simp
 ·rw[Qdf h0,hk]
theorem DD{P:Program}{D:SS}{mk:Nat}{ρ:Rh}{ω:Nat→Option Nat}{w:World}{s s':AS}{t:TypeId}{len:Nat}{parts:List (Nat×AV)}{v:AV}(h:WA P s t len parts=some (v,s'))(hm:mk≤s.nx)(hs:Sim P ρ ω D.hd D.cl s.hp.get w)(hf:Frs ρ s s'){ps:List (Nat×Value)}(hp:RPs ρ parts ps):
  APost mk s s'∧∃v' w' ρ' ω',(Instr.buildSlice t len ps.toArray).run P w= .ok v' w'∧RV ρ' v v'∧RPost P D mk ρ ω w s s' ρ' ω' w':=by
 unfold WA at h;split at h
 ·rename_i e hd;split at h
  ·rename_i z i hz hi;cases hb:(Nat.beq z.length i.size&&Nat.ble (len*i.size) 16777216) with
   | false=>rw[hb] at h;cases h
   | true=>
    rw[hb] at h;simp only[QdE] at h;simp only[Qdo] at hb;have b1:=Qd7 hb.1;have b2:=Qdn hb.2;split at h
    ·rename_i l hl;split at h
     ·rename_i s1 hn;cases h;obtain⟨z',hz1,hz2⟩:=JR (ρ:=ρ) hz w;have hzs:z'.cells.size=z.length:=hz2.length;obtain⟨r,hr1,hr2⟩:=G7 hl (Tg hz2 len) hp;have hr2':RVs ρ l r.toArray.toList:=hr2;obtain⟨k1,ρ',g,k2,k3,k4,k5,k6⟩:=PS hn hm hs hf hr2';refine⟨k1,.slice (some ⟨g.blk,0,none⟩) len len,_,ρ',_,?_,by simp only[RV];exact⟨g,k4,by rw[k5.2]⟩,k6⟩;unfold Instr.buildSlice;simp only[Qdl,Qd6 hd,Qdi,run_sizeOf w hi,Qu hi];rw[Qdf (by simp;omega)];have e0:=QbJ z' len i.size (hzs.trans b1);have e1:((Array.range (len*z'.cells.size)).map (z'.cells[· % z'.cells.size]!))=((Array.range (len*z'.cells.size)).map (z'.cells[· % z'.cells.size]!)).toList.toArray:=rfl;by_cases h0:len*i.size=0
      ·simp only[Qdm h0] at e0;rw[Qdm h0];simp only[Qdl,Qd1,Qdi,QeD];rw[e0,e1,hr1];simp only[Qdl,k2,Qdi,Qd1,k5.1]
      ·simp only[Qdf h0] at e0;rw[Qdf h0];simp only[Qdl,hz1,Qd1,Qdi,QeD];rw[e0,e1,hr1];simp only[Qdl,k2,Qdi,Qd1,k5.1]
     ·cases h
    ·cases h
  ·cases h
 ·cases h
def T0(P:Program)(s:AS)(t:TypeId)(x y:AV):Option (AV×AS):=
 match P.underlying t,Nm x,Nm y with
 | some (.slice e),some n,some c=>match Pv P e,P.info? e with
  | some z,some i=>bif Nat.beq z.length i.size&&(Nat.ble n c&&(Nat.ble (i.bytes*c) 281474976710656&&Nat.ble c 281474976710656)) then
    match B9 s e (Vo z c) false with
    | some s'=>some (.slc s.nx 0 n c,s')
    | none=>none
   else none
  | _,_=>none
 | _,_,_=>none
theorem PW{n:Nat}(h:n≤281474976710656):IntKind.i64.wrap (n:Int)=n:=by
 rw[←YP];show (bif Nat.blt n 9223372036854775808 then Int.ofNat n else _)=_;have:Nat.blt n 9223372036854775808=true:=Qd4 (by omega);rw[this];rfl
theorem OE{P:Program}{D:SS}{mk:Nat}{ρ:Rh}{ω:Nat→Option Nat}{w:World}{s s':AS}{t:TypeId}{x y v:AV}(h:T0 P s t x y=some (v,s'))(hm:mk≤s.nx)(hs:Sim P ρ ω D.hd D.cl s.hp.get w)(hf:Frs ρ s s'){x' y':Value}(hx:RV ρ x x')(hy:RV ρ y y'):
  APost mk s s'∧∃v' w' ρ' ω',(Instr.makeSlice t x' y').run P w= .ok v' w'∧RV ρ' v v'∧RPost P D mk ρ ω w s s' ρ' ω' w':=by
 unfold T0 at h;split at h
 ·rename_i e n c hd hn hc;split at h
  ·rename_i z i hz hi;cases hb:(Nat.beq z.length i.size&&(Nat.ble n c&&(Nat.ble (i.bytes*c) 281474976710656&&Nat.ble c 281474976710656))) with
   | false=>rw[hb] at h;cases h
   | true=>
    rw[hb] at h;simp only[QdE] at h;simp only[Qdo] at hb;have b1:=Qd7 hb.1;have b2:=Qdn hb.2.1;have b3:=Qdn hb.2.2.1;have b4:=Qdn hb.2.2.2;split at h
    ·rename_i s1 ha;cases h;obtain⟨k,rfl⟩:=PT hn hx;obtain⟨k',rfl⟩:=PT hc hy;obtain⟨z',hz1,hz2⟩:=JR (ρ:=ρ) hz w;have hzs:z'.cells.size=z.length:=hz2.length;obtain⟨k1,ρ',g,k2,k3,k4,k5,k6⟩:=PS ha hm hs hf (Tg hz2 c);refine⟨k1,.slice (some ⟨g.blk,0,none⟩) n c,_,ρ',_,?_,by simp only[RV];exact⟨g,k4,by rw[k5.2]⟩,k6⟩;unfold Instr.makeSlice;simp only[Qdl,Qd6 hd,Qdi,asInt,asIntOf,Qd1,run_typeInfo w hi,PW b4,PW (Qdx b2 b4)];have hb3:¬((i.bytes:Int)*(c:Int) > 2^48):=by
      have:=Int.ofNat_le.2 b3;rw[Int.natCast_mul] at this;have e:(2:Int)^48=((281474976710656:Nat):Int):=rfl;rw[e];exact Int.not_lt.2 this
     rw[Qdf (by
      simp only[Qex,QdM,not_or];exact⟨⟨⟨by omega,hb3⟩,by omega⟩,by omega⟩)]
     simp only[Qdl,run_askRoom,Qdi,run_sizeOf w hi,Qu hi,Qe4,Qd1];have e0:=QbJ z' c i.size (hzs.trans b1);by_cases h0:c*i.size=0
     ·simp only[Qdm h0] at e0;rw[Qdm h0];simp only[Qdl,Qd1,Qdi];rw[e0];simp only[k2,Qdi,k5.1]
     ·simp only[Qdf h0] at e0;rw[Qdf h0];simp only[Qdl,hz1,Qd1,Qdi];rw[e0];simp only[k2,Qdi,k5.1]
    ·cases h
  ·cases h
 ·cases h
def Qb2(D:SS)(s:AS)(z:Nat)(x:AV):Option (Nat×(Nat→Option (List AV))):=
 match x with
 | .nils=>some (0,fun _=>some [])
 | .slc b o n _=>some (n,fun m=>s.rd D b o (m*z))
 | .slo b n=>some (n,fun m=>s.rd D b 0 (m*z))
 | .slu b o n=>some (n,fun m=>s.rd D b o (m*z))
 | .emp=>some (0,fun m=>bif Nat.beq m 0 then some [] else none)
 | .str t=>some (t.length,fun m=>some ((t.take m).map fun b=>.int .u8 (.ofNat b.toNat)))
 | _=>none
theorem SI{P:Program}{D:SS}{ρ:Rh}{ω:Nat→Option Nat}{w:World}{s:AS}{z n m:Nat}{x:AV}{f:Nat→Option (List AV)}{l:List AV}(h:Qb2 D s z x=some (n,f))(hf:f m=some l)(hs:Sim P ρ ω D.hd D.cl s.hp.get w){x':Value}(hx:RV ρ x x'):
  (Builtin.lenOf x').run P w= .ok n w∧∃c:Array Value,(Builtin.firstCells z m x').run P w= .ok c w∧RVs ρ l c.toList:=by
 have rd:∀{b o n c:Nat} {g:Pl},ρ b=some g→s.rd D b o (m*z)=some l→(Builtin.lenOf (.slice (some ⟨g.blk,g.off+o,none⟩) n c)).run P w= .ok n w∧∃c':Array Value,(Builtin.firstCells z m (.slice (some ⟨g.blk,g.off+o,none⟩) n c)).run P w= .ok c' w∧RVs ρ l c'.toList:=fun {b o n c g} hg hl=>by
  obtain⟨g',vs,k1,k2,k3,k4⟩:=AS.rd_ok hs hl;rw[hg] at k1;cases k1;refine⟨rfl,vs.toArray,?_,k3⟩;unfold Builtin.firstCells;simp only;rw[←k4,←k3.length];exact Yh k2
 unfold Qb2 at h;split at h
 ·cases h;cases hf;simp only[RV] at hx;subst hx;exact⟨rfl,#[],rfl,RVs.nil⟩
 ·cases h;simp only[RV] at hx;obtain⟨g,hg,rfl⟩:=hx;exact rd hg hf
 ·cases h;simp only[RV] at hx;obtain⟨g,hg,_,rfl⟩:=hx;exact rd hg hf
 ·cases h;simp only[RV] at hx;obtain⟨g,c,hg,_,rfl⟩:=hx;exact rd hg hf
 ·cases h;simp only[RV] at hx;obtain⟨a,c,rfl,_⟩:=hx;replace hf:(bif Nat.beq m 0 then some [] else none)=some l:=hf;cases hb:Nat.beq m 0 with
  | false=>rw[hb] at hf;cases hf
  | true=>
   rw[hb] at hf;cases hf;have:=Qd7 hb;subst this;refine⟨rfl,#[],?_,RVs.nil⟩;unfold Builtin.firstCells;cases a with
   | none=>rfl
   | some a=>simp only[QfD];rfl
 ·cases h;cases hf;rename_i t;simp only[RV] at hx;subst hx;refine⟨rfl,((⟨t.toArray⟩:ByteArray).extract 0 m).data.map fun b=>.int .u8 b.toNat,rfl,?_⟩;have e:((⟨t.toArray⟩:ByteArray).extract 0 m).data.toList=t.take m:=by
   simp[ByteArray.data_extract]
  refine RVs.of ?_ fun i a v h1 h2=>?_
  ·rw[Qf4,QdA,QdA,e]
  ·rw[Qf4,e,QdI] at h2;rw[QdI] at h1;cases hb:(t.take m)[i]? with
   | none=>rw[hb] at h1;cases h1
   | some b=>
    rw[hb] at h1 h2;simp only[Qf9,Option.some.injEq] at h1 h2;subst h1 h2;exact Yg
 ·cases h
def T7(P:Program)(D:SS)(mk:Nat)(s:AS)(ts:Array TypeId)(x y:AV):Option (AV×AS):=
 match ts[0]? with
 | none=>none
 | some t=>match P.underlying t with
  | some (.slice e)=>match P.info? e with
   | none=>none
   | some i=>match Qb2 D s i.size y with
    | none=>none
    | some (n,f)=>
     let go (b o k:Nat):Option (AV×AS):=match f (Nat.min n k) with
      | none=>none
      | some l=>bif l.all one then match s.wr D mk b o l with
       | some s'=>some (.int .i64 (.ofNat (Nat.min n k)),s')
       | none=>none else none
     match x with
     | .slc b o k _=>go b o k
     | .slo b k=>go b 0 k
     | .slu b o k=>go b o k
     | _=>none
  | _=>none
theorem OK{P:Program}{D:SS}{mk:Nat}{ρ:Rh}{ω:Nat→Option Nat}{w:World}{s s':AS}{ts:Array TypeId}{tt:TypeId}{x y v:AV}(h:T7 P D mk s ts x y=some (v,s'))(hs:Sim P ρ ω D.hd D.cl s.hp.get w){x' y':Value}(hx:RV ρ x x')(hy:RV ρ y y'):
  APost mk s s'∧∃v' w',(Builtin.copy_ ts tt #[x',y']).run P w= .ok v' w'∧RV ρ v v'∧RPost P D mk ρ ω w s s' ρ ω w':=by
 unfold T7 at h;split at h
 ·cases h
 rename_i t ht;split at h
 ·rename_i e hd;split at h
  ·cases h
  rename_i i hi;split at h
  ·cases h
  rename_i n f hsrc;have go:∀{b o k c:Nat} {g:Pl},ρ b=some g→(match f (Nat.min n k) with
      | none=>none
      | some l=>bif l.all one then match s.wr D mk b o l with
       | some s'=>some (AV.int .i64 (.ofNat (Nat.min n k)),s')
       | none=>none else none)=some (v,s')→x'= .slice (some ⟨g.blk,g.off+o,none⟩) k c→
    APost mk s s'∧∃v' w',(Builtin.copy_ ts tt #[x',y']).run P w= .ok v' w'∧RV ρ v v'∧RPost P D mk ρ ω w s s' ρ ω w':=fun {b o k c g} hg h ex=>by
   subst ex;split at h
   ·cases h
   rename_i l hl;cases ho:l.all one with
   | false=>rw[ho] at h;cases h
   | true=>
    rw[ho] at h;simp only[QdE] at h;split at h
    ·rename_i s1 hw;cases h;obtain⟨k1,cc,k2,k3⟩:=SI hsrc hl hs hy;obtain⟨g',tt',c',m1,m0,m2,m3,m4⟩:=RPost.wr hw hs k3;rw[hg] at m1;cases m1;rw[m0,Qd5];refine⟨APost.wr hw,_,_,?_,Yg,m4⟩;unfold Builtin.copy_;simp only[ht,Qdp,Qe6,Qd2,Qdl,Qd6 hd,Qdi,k1,run_sizeOf w hi,Qu hi,k2];rw[Jc m2 m3 (Gf ho k3)];rfl
    ·cases h
  simp only at h;split at h
  ·simp only[RV] at hx;obtain⟨g,hg,hx⟩:=hx;exact go hg h hx
  ·simp only[RV] at hx;obtain⟨g,hg,_,hx⟩:=hx;exact go hg h hx
  ·simp only[RV] at hx;obtain⟨g,c,hg,_,hx⟩:=hx;exact go hg h hx
  ·cases h
 ·cases h
end Go.Proofs.YthdaabapiicnhaaGreatDoor.Av
