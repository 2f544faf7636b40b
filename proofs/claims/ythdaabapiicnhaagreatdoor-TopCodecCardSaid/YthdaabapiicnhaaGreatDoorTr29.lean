/- Steps of the proof. -/
import Derived.Test.YthdaabapiicnhaaGreatDoorTr28
set_option linter.all false
set_option maxRecDepth 100000
set_option maxHeartbeats 4000000
open Go.Proofs.Tryz
namespace Go.Proofs.YthdaabapiicnhaaGreatDoor.Av
open Go.RowKit
def Hy{α:Type}(P:Program):Sem α→Option α
 | .pure a=>some a
 | .program k=>Hy P (k P)
 | _=>none
theorem YT{α:Type}{P:Program}:∀{s:Sem α} {a:α},Hy P s=some a→∀w,s.run P w= .ok a w:=by
 intro s;induction s with
 | pure x=>intro a h w;simp only[Hy,Option.some.injEq] at h;subst h;rfl
 | program k ih=>intro a h w;exact ih P h w
 | _=>intro a h;simp[Hy] at h
mutual
def vof:AV→Option Value
 | .int k n=>some (.int k n)
 | .bool b=>some (.bool b)
 | .str s=>some (.string ⟨s.toArray⟩)
 | .nilp=>some (.pointer none)
 | .nils=>some (.slice none 0 0)
 | .nilm=>some (.map none)
 | .nilf=>some .nilFunc
 | .nili=>some .nilIface
 | .ifc t v=>(vof v).map (.iface t)
 | .agg l=>(Ro l).map fun xs=>.agg xs.toArray
 | .tup l=>(Ro l).map fun xs=>.tuple xs.toArray
 | _=>none
def Ro:List AV→Option (List Value)
 | []=>some []
 | a::l=>match vof a,Ro l with
  | some v,some r=>some (v::r)
  | _,_=>none
end
mutual
theorem ZH{ρ:Rh}:∀(a:AV) (v u:Value),RV ρ a v→vof a=some u→v=u
 | .int _ _,v,u,h,k | .bool _,v,u,h,k | .str _,v,u,h,k | .nilp,v,u,h,k | .nils,v,u,h,k | .nilm,v,u,h,k | .nilf,v,u,h,k | .nili,v,u,h,k=>by
  simp only[RV] at h;simp only[vof,Option.some.injEq] at k;rw[h,k]
 | .ptr _ _,v,u,h,k | .slc _ _ _ _,v,u,h,k | .slo _ _,v,u,h,k | .slu _ _ _,v,u,h,k | .emp,v,u,h,k | .map _,v,u,h,k | .fn _ _ _,v,u,h,k=>by simp[vof] at k
 | .ifc t x,v,u,h,k=>by
  simp only[RV] at h;simp only[vof,QdJ] at k;obtain⟨y,rfl,hy⟩:=h;obtain⟨z,hz,rfl⟩:=k;rw[ZH x y z hy hz]
 | .agg l,v,u,h,k=>by
  simp only[RV] at h;simp only[vof,QdJ] at k;obtain⟨y,rfl,hy⟩:=h;obtain⟨z,hz,rfl⟩:=k;rw[Hu l y z hy hz]
 | .tup l,v,u,h,k=>by
  simp only[RV] at h;simp only[vof,QdJ] at k;obtain⟨y,rfl,hy⟩:=h;obtain⟨z,hz,rfl⟩:=k;rw[Hu l y z hy hz]
theorem Hu{ρ:Rh}:∀(a:List AV) (v u:List Value),RVs ρ a v→Ro a=some u→v=u
 | [],v,u,h,k=>by
  simp only[RVs] at h;simp only[Ro,Option.some.injEq] at k;rw[h,k]
 | a::l,v,u,h,k=>by
  simp only[RVs] at h;simp only[Ro] at k;obtain⟨x,r,rfl,h1,h2⟩:=h;split at k
  ·rename_i y s hy hs;simp only[Option.some.injEq] at k;rw[←k,ZH a x y h1 hy,Hu l r s h2 hs]
  ·cases k
end
def V3(k:IntKind)(n:Int):Int:=
 match n with
 | .ofNat m=>match k with
  | .u8=>.ofNat (m%256)
  | .u16=>.ofNat (m%65536)
  | .u32=>.ofNat (m%4294967296)
  | .u64=>.ofNat (m%18446744073709551616)
  | .i64=>bif Nat.blt m 9223372036854775808 then .ofNat m else k.wrap n
  | _=>k.wrap n
 | _=>k.wrap n
theorem YP(k:IntKind)(n:Int):V3 k n=k.wrap n:=by
 cases n with
 | negSucc m=>rfl
 | ofNat m=>
  cases k <;> simp only[V3,IntKind.wrap,IntKind.bits,IntKind.signed,Bool.false_and,Bool.true_and,QdV,QdN]
  case i64=>
   cases hb:Nat.blt m 9223372036854775808 with
   | false=>rfl
   | true=>
    have:=Xf hb;have e:(Int.ofNat m)%2^64=Int.ofNat m:=by
     have:(2:Int)^64=18446744073709551616:=rfl;rw[this,Qeu];omega
    simp only[QdE,e];rw[Qdf];have:(2:Int)^(64-1)=9223372036854775808:=rfl;rw[this,Qeu,QdM];omega
  all_goals rfl
def two(k:IntKind):Nat:=match k with
 | .i8 | .u8=>256
 | .i16 | .u16=>65536
 | .i32 | .u32=>4294967296
 | .i64 | .u64=>18446744073709551616
theorem Cg(k:IntKind):two k=2^k.bits:=by cases k <;> rfl
def zlt:Int→Int→Bool
 | .ofNat a,.ofNat b=>Nat.blt a b
 | .ofNat _,.negSucc _=>false
 | .negSucc _,.ofNat _=>true
 | .negSucc a,.negSucc b=>Nat.blt b a
theorem Nf(a b:Nat):Nat.blt a b=decide (a<b):=by
 cases h:Nat.blt a b with
 | true=>have:=Xf h;simp[this]
 | false=>
  have:¬a<b:=fun hlt=>by
   have:Nat.blt a b=true:=Qd4 hlt;rw[h] at this;cases this
  simp[this]
theorem TH(a b:Int):zlt a b=decide (a<b):=by
 rw[QeE,QdM];cases a <;> cases b <;> simp only[zlt,Nf,QdM,Int.negSucc_eq,Qeu,QdN,true_iff,false_iff] <;> omega
def zeq:Int→Int→Bool
 | .ofNat a,.ofNat b=>Nat.beq a b
 | .negSucc a,.negSucc b=>Nat.beq a b
 | _,_=>false
theorem Dx(a b:Nat):Nat.beq a b=decide (a=b):=by
 cases h:Nat.beq a b with
 | true=>simp[Qd7 h]
 | false=>simp[QdS h]
theorem LZ(a b:Int):zeq a b=decide (a=b):=by
 rw[QeE,QdM];cases a <;> cases b <;> simp only[zeq,Dx,QdM,Int.negSucc_eq,Qeu,QdN,true_iff,false_iff] <;> omega
def kix:IntKind→Nat
 | .i8=>0 | .i16=>1 | .i32=>2 | .i64=>3 | .u8=>4 | .u16=>5 | .u32=>6 | .u64=>7
def keq(k k':IntKind):Bool:=Nat.beq (kix k) (kix k')
theorem QcB{k k':IntKind}(h:keq k k'=true):k=k':=by cases k <;> cases k' <;> first|rfl|cases h
def zshl(k:IntKind):Int→Int→Option AV
 | .ofNat m,.ofNat n=>some (.int k (V3 k (.ofNat (m*2^(Nat.min n k.bits)))))
 | _,_=>none
def zshr(k:IntKind):Int→Int→Option AV
 | .ofNat m,.ofNat n=>some (.int k (.ofNat (m/2^(Nat.min n k.bits))))
 | _,_=>none
def zadd(k:IntKind)(x y:Int):Option AV:=some (.int k (V3 k (x+y)))
def zsub(k:IntKind)(x y:Int):Option AV:=some (.int k (V3 k (x-y)))
def zmul(k:IntKind)(x y:Int):Option AV:=some (.int k (V3 k (x*y)))
def zquo(k:IntKind):Int→Int→Option AV
 | .ofNat m,.ofNat (n+1)=>some (.int k (V3 k (.ofNat (m/(n+1)))))
 | _,_=>none
def zrem(k:IntKind):Int→Int→Option AV
 | .ofNat m,.ofNat (n+1)=>some (.int k (.ofNat (m%(n+1))))
 | _,_=>none
def zand(k:IntKind):Int→Int→Option AV
 | .ofNat m,.ofNat n=>some (.int k (V3 k (.ofNat ((m%two k)&&& (n%two k)))))
 | _,_=>none
def zor(k:IntKind):Int→Int→Option AV
 | .ofNat m,.ofNat n=>some (.int k (V3 k (.ofNat ((m%two k)||| (n%two k)))))
 | _,_=>none
def zxor(k:IntKind):Int→Int→Option AV
 | .ofNat m,.ofNat n=>some (.int k (V3 k (.ofNat ((m%two k) ^^^ (n%two k)))))
 | _,_=>none
def zop2(op:BinOp)(k:IntKind)(x y:Int):Option AV:=
 match op with
 | .add=>zadd k x y
 | .sub=>zsub k x y
 | .mul=>zmul k x y
 | .quo=>zquo k x y
 | .rem=>zrem k x y
 | .and=>zand k x y
 | .or=>zor k x y
 | .xor=>zxor k x y
 | .eql=>some (.bool (zeq x y))
 | .neq=>some (.bool (!zeq x y))
 | .lss=>some (.bool (zlt x y))
 | .leq=>some (.bool (!zlt y x))
 | .gtr=>some (.bool (zlt y x))
 | .geq=>some (.bool (!zlt x y))
 | _=>none
def zop(op:BinOp)(k k':IntKind)(x y:Int):Option AV:=
 match op with
 | .shl=>zshl k x y
 | .shr=>zshr k x y
 | op=>bif keq k k' then zop2 op k x y else none
theorem VF(b m:Nat):(BitVec.ofInt b (Int.ofNat m)).toNat=m%2^b:=by
 rw[BitVec.toNat_ofInt,Qeu,←Int.natCast_emod];rfl
theorem Yg{ρ:Rh}{k:IntKind}{n:Int}:RV ρ (.int k n) (.int k n):=by simp only[RV]
theorem XU{ρ:Rh}{b:Bool}:RV ρ (.bool b) (.bool b):=by simp only[RV]
theorem QbY{P:Program}{ρ:Rh}{op:BinOp}{k k':IntKind}{x y:Int}{v:AV}(h:zop op k k' x y=some v)(t:TypeId)(w:World):
  ∃v',(binOp op t (.int k x) (.int k' y)).run P w= .ok v' w∧RV ρ v v':=by
 unfold zop at h;split at h
 ·unfold zshl at h;split at h
  ·rename_i m n;cases h;refine⟨_,?_,Yg⟩;simp only[binOp,Op.shift,Qeu,YP];rw[Qdf (by omega)];simp only[Qe4,Int.natCast_mul,Int.natCast_pow];rfl
  ·cases h
 ·unfold zshr at h;split at h
  ·rename_i m n;cases h;refine⟨_,?_,Yg⟩;simp only[binOp,Op.shift,Qeu];rw[Qdf (by omega)];simp only[Qe4];have:((m:Int).fdiv (2^(min n k.bits)))=((m/2^(Nat.min n k.bits):Nat):Int):=by
    rw[Int.fdiv_eq_ediv_of_nonneg _ (by exact Int.le_of_lt (Int.pow_pos (by decide))),Int.natCast_ediv,Int.natCast_pow];rfl
   rw[this];rfl
  ·cases h
 ·rename_i h1 h2;cases hk:keq k k' with
  | false=>rw[hk] at h;cases h
  | true=>
   rw[hk] at h;have hk':=QcB hk;subst hk';simp only[QdE] at h;cases op <;> simp only[zop2,zadd,zsub,zmul,zquo,zrem,zand,zor,zxor] at h
   case add=>cases h;exact⟨_,by simp only[binOp,Op.intArith,YP,ne_eq,not_true,QdV];rfl,Yg⟩
   case sub=>cases h;exact⟨_,by simp only[binOp,Op.intArith,YP,ne_eq,not_true,QdV];rfl,Yg⟩
   case mul=>cases h;exact⟨_,by simp only[binOp,Op.intArith,YP,ne_eq,not_true,QdV];rfl,Yg⟩
   case quo=>
    split at h
    ·rename_i m n;cases h;refine⟨_,?_,Yg⟩;simp only[binOp,Op.intDiv,ne_eq,not_true,QdV,YP];rw[Qdf (by simp only[Qeu];omega)];rfl
    ·cases h
   case rem=>
    split at h
    ·rename_i m n;cases h;refine⟨_,?_,Yg⟩;simp only[binOp,Op.intDiv,ne_eq,not_true,QdV];rw[Qdf (by simp only[Qeu];omega)];rfl
    ·cases h
   case and=>
    split at h
    ·rename_i m n;cases h;refine⟨_,?_,Yg⟩;simp only[binOp,Op.intBits,ne_eq,not_true,QdV,YP,BitVec.toNat_and,VF,Cg];rfl
    ·cases h
   case or=>
    split at h
    ·rename_i m n;cases h;refine⟨_,?_,Yg⟩;simp only[binOp,Op.intBits,ne_eq,not_true,QdV,YP,BitVec.toNat_or,VF,Cg];rfl
    ·cases h
   case xor=>
    split at h
    ·rename_i m n;cases h;refine⟨_,?_,Yg⟩;simp only[binOp,Op.intBits,ne_eq,not_true,QdV,YP,BitVec.toNat_xor,VF,Cg];rfl
    ·cases h
   case eql=>
    cases h;refine⟨_,?_,XU⟩;simp only[binOp,Op.intCmp,ne_eq,not_true,QdV,LZ];simp only[Qd1];congr 2
   case neq=>
    cases h;refine⟨_,?_,XU⟩;simp only[binOp,Op.intCmp,ne_eq,not_true,QdV,LZ];simp only[Qd1];congr 2
   case lss=>cases h;exact⟨_,by simp only[binOp,Op.intCmp,ne_eq,not_true,QdV,TH];rfl,XU⟩
   case leq=>
    cases h;refine⟨_,?_,XU⟩;simp only[binOp,Op.intCmp,ne_eq,not_true,QdV,TH,Qd1];congr 2;rw[←decide_not,decide_eq_decide];omega
   case gtr=>
    cases h;refine⟨_,?_,XU⟩;simp only[binOp,Op.intCmp,ne_eq,not_true,QdV,TH,Qd1]
   case geq=>
    cases h;refine⟨_,?_,XU⟩;simp only[binOp,Op.intCmp,ne_eq,not_true,QdV,TH,Qd1];congr 2;rw[←decide_not,decide_eq_decide];omega
   all_goals first|cases h|exact absurd rfl h1|exact absurd rfl h2
abbrev AE:=Operand→Option AV
def aes(ae:AE):List Operand→Option (List AV)
 | []=>some []
 | x::r=>match ae x,aes ae r with
  | some a,some l=>some (a::l)
  | _,_=>none
theorem Hp{ρ:Rh}{ae:AE}{e:Operand→Value}(he:∀x a,ae x=some a→RV ρ a (e x)):∀{l:List Operand} {m:List AV},aes ae l=some m→RVs ρ m (l.map e)
 | [],m,h=>by simp only[aes,Option.some.injEq] at h;subst h;exact RVs.nil
 | x::r,m,h=>by
  simp only[aes] at h;split at h
  ·rename_i a l h1 h2;simp only[Option.some.injEq] at h;subst h;exact RVs.cons (he _ _ h1) (Hp he h2)
  ·cases h
def FT:TypeDesc→Bool
 | .struct _ | .array _ _=>true
 | _=>false
theorem Kl{P:Program}{t:TypeId}{d:TypeDesc}(h:P.underlying t=some d)(w:World):(isAgg t).run P w= .ok (FT d) w:=by
 unfold isAgg;rw[Qdl,Qd6 h];cases d <;> rfl
theorem VR(g o n:Nat):(⟨g,o,none⟩:Addr).add n=⟨g,o+n,none⟩:=by
 unfold Addr.add;split
 ·rename_i h;subst h;rfl
 ·rfl
def EU(P:Program)(t:TypeId)(cs:List AV)(off:Nat):Option AV:=
 match P.underlying t,P.info? t with
 | some d,some i=>bif FT d then some (.agg ((cs.drop off).take i.size)) else cs[off]?
 | _,_=>none
theorem Qu{P:Program}{t:TypeId}{i:TypeInfo}(h:P.info? t=some i):P.cellsOf t=i.size:=by unfold Program.cellsOf;rw[h];rfl
theorem By{P:Program}{ρ:Rh}{t:TypeId}{l:List AV}{cs:List Value}{off:Nat}{v:AV}(h:EU P t l off=some v)(hl:RVs ρ l cs)(w:World):
  ∃v',(part t cs.toArray off).run P w= .ok v' w∧RV ρ v v':=by
 unfold EU at h;split at h
 ·rename_i d i hd hi;unfold part;rw[Qdl,Kl hd,Qdi];cases ha:FT d with
  | true=>
   rw[ha] at h;cases h;refine⟨.agg ((cs.drop off).take i.size).toArray,?_,by simp only[RV];exact⟨_,rfl,(hl.drop off).take i.size⟩⟩;simp only[QdC,Qdl,run_sizeOf w hi,Qdi,Qu hi,Qd1];congr 2;simp[QfV,QfA]
  | false=>
   rw[ha] at h;simp only[cond_false] at h;obtain⟨v',h1,h2⟩:=hl.get h;refine⟨v',?_,h2⟩;simp only[QdN,QdV,Qdp,h1];rfl
 ·cases h
def OD(P:Program)(op:BinOp)(t:TypeId)(a b:AV):Option Bool:=
 match P.underlying t,a,b with
 | some (.pointer _),.ptr _ _,.nilp=>some false
 | some (.pointer _),.nilp,.ptr _ _=>some false
 | some (.slice _),.slc _ _ _ _,.nils=>some false
 | some (.slice _),.slo _ _,.nils=>some false
 | some (.slice _),.slu _ _ _,.nils=>some false
 | some (.interface _),.ifc _ _,.nili=>some false
 | some (.interface _),.nili,.ifc _ _=>some false
 | _,_,_=>none
theorem KW{P:Program}{ρ:Rh}{t:TypeId}{a b:AV}{op:BinOp}{r:Bool}(h:OD P op t a b=some r){u v:Value}(hu:RV ρ a u)(hv:RV ρ b v)(w:World):(Op.equal t u v).run P w= .ok r w∧(∀k n,u≠.int k n)∧(∀k n,u≠.float k n)∧(∀k n m,u≠.complex k n m)∧(∀s,u≠.string s)∧(u= .nilIface→v≠.nilIface)∧(∀cs,u≠.agg cs):=by
 unfold OD at h;split at h
 all_goals first|(cases h;done)|skip
 all_goals
  rename_i hd;cases h;simp only[RV] at hu hv;have hr:=fun w=>Qd6 hd w
 all_goals
  first
   | (obtain⟨g,c,_,_,rfl⟩:=hu;subst hv)
   | (obtain⟨g,_,_,rfl⟩:=hu;subst hv)
   | (obtain⟨g,_,rfl⟩:=hu;subst hv)
   | (obtain⟨g,c,rfl⟩:=hu;subst hv)
   | (obtain⟨g,rfl,_⟩:=hu;subst hv)
   | (obtain⟨g,_,rfl⟩:=hv;subst hu)
   | (obtain⟨g,rfl,_⟩:=hv;subst hu)
  refine⟨?_,by simp,by simp,by simp,by simp,by simp,by simp⟩;refine (fun (h:∀d,(Op.equalIn (d+1) t _ _).run P w= .ok _ w)=>h 9999) fun d=>?_;simp only[Op.equalIn,Qdl,hr,Qdi];rfl
def OM(P:Program)(op:BinOp)(t:TypeId)(x y:Operand)(a b:AV):Option AV:=
 match vof a,vof b with
 | some u,some v=>match Hy P (do eqGuard op t x y u v;binOp op t u v) with
  | some r=>av 8 r
  | none=>none
 | _,_=>match op with
  | .eql=>(OD P op t a b).map .bool
  | .neq=>(OD P op t a b).map fun r=>.bool !r
  | _=>none
theorem Qb7{P:Program}{ρ:Rh}{op:BinOp}{t:TypeId}{x y:Operand}{a b v:AV}(h:OM P op t x y a b=some v){u u':Value}(hu:RV ρ a u)(hv:RV ρ b u')(w:World):
  ∃v',((do eqGuard op t x y u u';binOp op t u u'):Sem Value).run P w= .ok v' w∧RV ρ v v':=by
 unfold OM at h;split at h
 ·rename_i p q hp hq;rw[ZH a u p hu hp,ZH b u' q hv hq];split at h
  ·rename_i r hr;exact⟨r,YT hr w,Nj 8 r v h⟩
  ·cases h
 ·have guard:∀{r},OD P op t a b=some r→(eqGuard op t x y u u').run P w= .ok () w:=fun {r} hr=>by
   obtain⟨_,h1,h2,h3,h4,h5,h6⟩:=KW (op:=op) hr hu hv w;cases op <;> first
    | rfl
    | (cases u <;> first|rfl|exact absurd rfl (h6 _)|(cases u' <;> first|rfl|exact absurd rfl (h5 rfl)))
  split at h
  ·simp only[QdJ] at h;obtain⟨r,hr,rfl⟩:=h;obtain⟨h0,h1,h2,h3,h4,h5,h6⟩:=KW (op:=.eql) hr hu hv w;refine⟨_,?_,XU⟩;rw[Qdl,guard hr,Qdi];have:binOp .eql t u u'=(do pure (.bool (←Op.equal t u u'))):=by
    cases u <;> first|rfl|exact absurd rfl (h1 _ _)|exact absurd rfl (h2 _ _)|exact absurd rfl (h3 _ _ _)|exact absurd rfl (h4 _)
   rw[this,Qdl,h0];rfl
  ·simp only[QdJ] at h;obtain⟨r,hr,rfl⟩:=h;obtain⟨h0,h1,h2,h3,h4,h5,h6⟩:=KW (op:=.neq) hr hu hv w;refine⟨_,?_,XU⟩;rw[Qdl,guard hr,Qdi];have:binOp .neq t u u'=(do pure (.bool (!(←Op.equal t u u')))):=by
    cases u <;> first|rfl|exact absurd rfl (h1 _ _)|exact absurd rfl (h2 _ _)|exact absurd rfl (h3 _ _ _)|exact absurd rfl (h4 _)
   rw[this,Qdl,h0];rfl
  ·cases h
def Nm:AV→Option Nat
 | .int _ (.ofNat n)=>some n
 | _=>none
theorem JP{P:Program}{ρ:Rh}{a:AV}{n y:Nat}{v:Value}(h:Nm a=some n)(hv:RV ρ a v)(hy:n≤y)(c:BoundsCode)(w:World):(Instr.sliceBound v y c).run P w= .ok n w:=by
 unfold Nm at h;split at h
 ·rename_i k m;cases h;simp only[RV] at hv;subst hv;simp only[Instr.sliceBound,asIntOf,Qdl,Qd1,Qdi,Qeu];rw[Qdm ⟨by omega,by omega⟩];rfl
 ·cases h
def Yd(n c:Nat)(lo hi mx:Option AV):Option (Nat×Nat×Nat):=
 match (match mx with|some v=>Nm v|none=>some c),(match hi,mx with|some v,_=>Nm v|none,none=>some n|none,some _=>none),(match lo with|some v=>Nm v|none=>some 0) with
 | some m,some h,some l=>if Nat.ble m c&&(Nat.ble h m&&Nat.ble l h) then some (l,h,m) else none
 | _,_,_=>none
def RO(ρ:Rh):Option AV→Option Value→Prop
 | none,none=>True
 | some a,some v=>RV ρ a v
 | _,_=>False
theorem Jt{P:Program}{ρ:Rh}{sl:Bool}{n c l h m:Nat}{lo hi mx:Option AV}{lo' hi' mx':Option Value}(k:Yd n c lo hi mx=some (l,h,m))(h1:RO ρ lo lo')(h2:RO ρ hi hi')(h3:RO ρ mx mx')(w:World):
  (Instr.sliceBounds sl n c lo' hi' mx').run P w= .ok (l,h,m) w∧m≤c∧h≤m∧l≤h:=by
 unfold Yd at k;split at k
 ·rename_i m0 h0 l0 e1 e2 e3;split at k
  ·rename_i hc;cases k;simp only[Qdo] at hc;have c1:=Qdn hc.1;have c2:=Qdn hc.2.1;have c3:=Qdn hc.2.2;refine⟨?_,c1,c2,c3⟩;unfold Instr.sliceBounds;cases mx with
   | none=>
    cases mx' with
    | some _=>exact h3.elim
    | none=>
     simp only[Option.some.injEq] at e1;subst e1;simp only[Qdl,Qd1,Qdi];cases hi with
     | none=>
      cases hi' with
      | some _=>exact h2.elim
      | none=>
       simp only[Option.some.injEq] at e2;subst e2;simp only[Qdl,Qd1,Qdi];cases lo with
       | none=>
        cases lo' with
        | some _=>exact h1.elim
        | none=>
         simp only[Option.some.injEq] at e3;subst e3;rfl
       | some lv=>
        cases lo' with
        | none=>exact h1.elim
        | some lv'=>
         simp only at e3;simp only[Qdl,JP e3 h1 c3,Qdi,Qd1]
     | some hv=>
      cases hi' with
      | none=>exact h2.elim
      | some hv'=>
       simp only at e2;simp only[Qdl,JP e2 h2 c2,Qdi,Qd1];cases lo with
       | none=>
        cases lo' with
        | some _=>exact h1.elim
        | none=>
         simp only[Option.some.injEq] at e3;subst e3;rfl
       | some lv=>
        cases lo' with
        | none=>exact h1.elim
        | some lv'=>
         simp only at e3;simp only[Qdl,JP e3 h1 c3,Qdi,Qd1]
   | some mv=>
    cases mx' with
    | none=>exact h3.elim
    | some mv'=>
     simp only at e1;simp only[Qdl,JP e1 h3 c1,Qdi,Qd1];cases hi with
     | none=>simp at e2
     | some hv=>
      cases hi' with
      | none=>exact h2.elim
      | some hv'=>
       simp only at e2;simp only[Qdl,JP e2 h2 c2,Qdi,Qd1];cases lo with
       | none=>
        cases lo' with
        | some _=>exact h1.elim
        | none=>
         simp only[Option.some.injEq] at e3;subst e3;rfl
       | some lv=>
        cases lo' with
        | none=>exact h1.elim
        | some lv'=>
         simp only at e3;simp only[Qdl,JP e3 h1 c3,Qdi,Qd1]
  ·cases k
 ·cases k
def SK(ae:AE):Option Operand→Option (Option AV)
 | none=>some none
 | some x=>(ae x).map some
theorem SJ{ρ:Rh}{ae:AE}{e:Operand→Value}(he:∀x a,ae x=some a→RV ρ a (e x)){x:Option Operand}{m:Option AV}(h:SK ae x=some m):RO ρ m (x.map e):=by
 cases x with
 | none=>simp only[SK,Option.some.injEq] at h;subst h;trivial
 | some x=>
  simp only[SK,QdJ] at h;obtain⟨a,h1,rfl⟩:=h;exact he _ _ h1
def asl(z:Nat)(x:AV)(lo hi mx:Option AV):Option AV:=
 match x with
 | .slc b o n c=>match Yd n c lo hi mx with
  | some (l,h,m)=>bif Nat.beq m l then some (.slc b o (h-l) (m-l)) else some (.slc b (o+l*z) (h-l) (m-l))
  | none=>none
 | .slo b n=>match mx,Yd n n lo hi mx with
  | some _,some (l,h,m)=>bif Nat.beq m l then some (.slc b 0 (h-l) (m-l)) else some (.slc b (l*z) (h-l) (m-l))
  | none,some (l,h,_)=>bif Nat.beq l 0 then some (.slo b h) else bif Nat.beq h l then some .emp else some (.slu b (l*z) (h-l))
  | _,none=>none
 | .slu b o n=>match mx,Yd n n lo hi mx with
  | some _,some (l,h,m)=>bif Nat.beq m l then some (.slc b o (h-l) (m-l)) else some (.slc b (o+l*z) (h-l) (m-l))
  | none,some (l,h,_)=>bif Nat.beq l 0 then some (.slu b o h) else bif Nat.beq h l then some .emp else some (.slu b (o+l*z) (h-l))
  | _,none=>none
 | .emp=>match mx,Yd 0 0 lo hi mx with
  | none,some _=>some .emp
  | _,_=>none
 | _=>none
theorem Hq{n c l h m:Nat}{lo hi:Option AV}(k:Yd n n lo hi none=some (l,h,m))(hc:n≤c):Yd n c lo hi none=some (l,h,c)∧m=n∧h≤n∧l≤h:=by
 unfold Yd at k ⊢;simp only at k ⊢;split at k
 ·rename_i m0 h0 l0 e1 e2 e3;cases e1;split at k
  ·rename_i hcc;cases k;simp only[Qdo] at hcc;have c2:=Qdn hcc.2.1;have c3:=Qdn hcc.2.2;refine⟨?_,rfl,c2,c3⟩;simp only[e2,e3];rw[Qdm];simp only[Qdo,Nat.ble_eq];omega
  ·cases k
 ·cases k
theorem Ns{n c l h m:Nat}{lo hi:Option AV}{x:AV}(k:Yd n n lo hi (some x)=some (l,h,m))(hc:n≤c):Yd n c lo hi (some x)=some (l,h,m):=by
 unfold Yd at k ⊢;simp only at k ⊢;split at k
 ·rename_i m0 h0 l0 e1 e2 e3;split at k
  ·rename_i hcc;cases k;simp only[Qdo] at hcc;have c1:=Qdn hcc.1;rw[Qdm];simp only[Qdo,Nat.ble_eq] at hcc ⊢;omega
  ·cases k
 ·cases k
theorem GF{P:Program}{t e:TypeId}{i:TypeInfo}(ht:P.underlying t=some (.slice e))(hi:P.info? e=some i)(a:Option Addr)(n c:Nat)(lo hi' mx:Option Value)(w:World){l h m:Nat}
  (hb:(Instr.sliceBounds true n c lo hi' mx).run P w= .ok (l,h,m) w):
  (Instr.sliceAt t (.slice a n c) lo hi' mx).run P w= .ok (.slice (if m=l then a else a.map (·.add (l*i.size))) (h-l) (m-l)) w:=by
 unfold Instr.sliceAt;rw[Qdl,Qd6 ht,Qdi];simp only;unfold Instr.slice;rw[Qdl,Qd6 ht,Qdi];simp only[Qdl,hb,Qdi,run_sizeOf w hi,Qu hi,Qd1]
theorem QcY{P:Program}{ρ:Rh}{t e:TypeId}{i:TypeInfo}(ht:P.underlying t=some (.slice e))(hi:P.info? e=some i){x v:AV}{lo hi' mx:Option AV}(h:asl i.size x lo hi' mx=some v){x':Value}{lo' hi'' mx':Option Value}
  (hx:RV ρ x x') (h1:RO ρ lo lo') (h2:RO ρ hi' hi'') (h3:RO ρ mx mx') (w:World):∃v',(Instr.sliceAt t x' lo' hi'' mx').run P w= .ok v' w∧RV ρ v v':=by
 have one:∀{g:Pl} {b o n c l h m:Nat},ρ b=some g→Yd n c lo hi' mx=some (l,h,m)→
   ∃v',(Instr.sliceAt t (.slice (some ⟨g.blk,o,none⟩) n c) lo' hi'' mx').run P w= .ok v' w∧v'= .slice (some ⟨g.blk,if m=l then o else o+l*i.size,none⟩) (h-l) (m-l)∧m≤c∧h≤m∧l≤h:=fun {g b o n c l h m} hg hk=>by
  obtain⟨k1,k2,k3,k4⟩:=Jt (sl:=true) hk h1 h2 h3 w;refine⟨_,GF ht hi _ _ _ _ _ _ w k1,?_,k2,k3,k4⟩;split
  ·rfl
  ·rw[Qf9,VR]
 unfold asl at h;split at h
 ·rename_i b o n c;simp only[RV] at hx;obtain⟨g,hg,rfl⟩:=hx;split at h
  ·rename_i l hh m hk;obtain⟨v',e1,rfl,_⟩:=one (o:=g.off+o) hg hk;refine⟨_,e1,?_⟩;cases hb:Nat.beq m l with
   | true=>
    have:=Qd7 hb;rw[hb] at h;cases h;simp only[RV];exact⟨g,hg,by rw[Qdm this]⟩
   | false=>
    have:=QdS hb;rw[hb] at h;cases h;simp only[RV];exact⟨g,hg,by rw[Qdf this,Qeb]⟩
  ·cases h
 ·rename_i b n;simp only[RV] at hx;obtain⟨g,hg,hn,rfl⟩:=hx;split at h
  ·rename_i x l hh m hk;obtain⟨v',e1,rfl,_⟩:=one (o:=g.off) hg (Ns hk hn);refine⟨_,e1,?_⟩;cases hb:Nat.beq m l with
   | true=>
    have:=Qd7 hb;rw[hb] at h;cases h;simp only[RV];exact⟨g,hg,by rw[Qdm this];rfl⟩
   | false=>
    have:=QdS hb;rw[hb] at h;cases h;simp only[RV];exact⟨g,hg,by rw[Qdf this]⟩
  ·rename_i l hh m hk;obtain⟨ku,rfl,kh,kl⟩:=Hq hk hn;obtain⟨v',e1,rfl,_⟩:=one (o:=g.off) hg ku;refine⟨_,e1,?_⟩;cases hb:Nat.beq l 0 with
   | true=>
    have:=Qd7 hb;subst this;rw[hb] at h;cases h;simp only[RV];exact⟨g,hg,by omega,by simp⟩
   | false=>
    have l0:=QdS hb;rw[hb] at h;cases hb2:Nat.beq hh l with
    | true=>
     have:=Qd7 hb2;rw[hb2] at h;cases h;simp only[RV];exact⟨_,_,by rw[this,Qe9],by have:=g.lt;omega,fun e=>by cases e⟩
    | false=>
     have:=QdS hb2;rw[hb2] at h;cases h;simp only[RV];exact⟨g,g.cap-l,hg,by have:=g.lt;omega,by rw[Qdf (by omega)]⟩
  ·cases h
 ·rename_i b o n;simp only[RV] at hx;obtain⟨g,c,hg,hn,rfl⟩:=hx;split at h
  ·rename_i x l hh m hk;obtain⟨v',e1,rfl,_⟩:=one (o:=g.off+o) hg (Ns hk hn.1);refine⟨_,e1,?_⟩;cases hb:Nat.beq m l with
   | true=>
    have:=Qd7 hb;rw[hb] at h;cases h;simp only[RV];exact⟨g,hg,by rw[Qdm this]⟩
   | false=>
    have:=QdS hb;rw[hb] at h;cases h;simp only[RV];exact⟨g,hg,by rw[Qdf this,Qeb]⟩
  ·rename_i l hh m hk;obtain⟨ku,rfl,kh,kl⟩:=Hq hk hn.1;have hn2:=hn.2;obtain⟨v',e1,rfl,_⟩:=one (o:=g.off+o) hg ku;refine⟨_,e1,?_⟩;cases hb:Nat.beq l 0 with
   | true=>
    have:=Qd7 hb;subst this;rw[hb] at h;cases h;simp only[RV];exact⟨g,c,hg,by omega,by simp⟩
   | false=>
    have l0:=QdS hb;rw[hb] at h;cases hb2:Nat.beq hh l with
    | true=>
     have:=Qd7 hb2;rw[hb2] at h;cases h;simp only[RV];exact⟨_,_,by rw[this,Qe9],by omega,fun e=>by cases e⟩
    | false=>
     have:=QdS hb2;rw[hb2] at h;cases h;simp only[RV];exact⟨g,c-l,hg,by omega,by rw[Qdf (by omega),Qeb]⟩
  ·cases h
 ·simp only[RV] at hx;obtain⟨a,c,rfl,hc1,hc2⟩:=hx;split at h
  ·rename_i p hk;obtain⟨l,hh,m⟩:=p;obtain⟨ku,rfl,kh,kl⟩:=Hq hk (Qdw c);cases h;obtain⟨k1,k2,k3,k4⟩:=Jt (sl:=true) ku h1 h2 h3 w;refine⟨_,GF ht hi _ _ _ _ _ _ w k1,?_⟩;simp only[RV];have e1:hh=0:=by omega
   have e2:l=0:=by omega
   subst e1 e2;split
   ·exact⟨_,_,rfl,by omega,fun e=>by rw[QfS];exact hc2 e⟩
   ·exact⟨_,_,rfl,by omega,fun e=>by
     rw[QfS];cases a with
     | none=>exact hc2 rfl
     | some x=>cases e⟩
  ·cases h
 ·cases h
theorem TW{P:Program}{t e a:TypeId}{i:TypeInfo}{n:Nat}(ht:P.underlying t=some (.pointer a))(ha:P.underlying a=some (.array n e))(hi:P.info? e=some i)(g o:Nat)(lo hi' mx:Option Value)(w:World){l h m:Nat}
  (hb:(Instr.sliceBounds false n n lo hi' mx).run P w= .ok (l,h,m) w):
  (Instr.sliceAt t (.pointer (some ⟨g,o,none⟩)) lo hi' mx).run P w= .ok (.slice (some (if m=l then ⟨g,o,none⟩ else ⟨g,o+l*i.size,none⟩)) (h-l) (m-l)) w:=by
 unfold Instr.sliceAt;rw[Qdl,Qd6 ht,Qdi];simp only;unfold Instr.slice;rw[Qdl,Qd6 ht,Qdi];simp only[asAddr,Qdl,Qd1,Qdi,Qd6 ha,hb,run_sizeOf w hi,Qu hi,VR]
theorem ND{P:Program}{t e:TypeId}{i:TypeInfo}{n:Nat}(ha:P.underlying t=some (.array n e))(hi:P.info? e=some i)(g o:Nat)(lo hi' mx:Option Value)(w:World){l h m:Nat}
  (hb:(Instr.sliceBounds false n n lo hi' mx).run P w= .ok (l,h,m) w):
  (Instr.sliceAt t (.pointer (some ⟨g,o,none⟩)) lo hi' mx).run P w= .ok (.slice (some (if m=l then ⟨g,o,none⟩ else ⟨g,o+l*i.size,none⟩)) (h-l) (m-l)) w:=by
 unfold Instr.sliceAt;rw[Qdl,Qd6 ha,Qdi];simp only[Instr.sureAddr,Qdl,Qd1,Qdi,hb,run_sizeOf w hi,Qu hi,VR]
def SQ(P:Program)(t:TypeId)(x:AV)(f:Nat):Option AV:=
 match P.underlying t,x with
 | some (.struct fs),.agg l=>match fs[f]? with
  | some fd=>EU P fd.type l fd.offset
  | none=>none
 | _,_=>none
def SO(P:Program)(t:TypeId)(x i:AV):Option AV:=
 match P.underlying t,x,Nm i with
 | some (.array n e),.agg l,some j=>match P.info? e with
  | some inf=>bif Nat.blt j n then EU P e l (j*inf.size) else none
  | none=>none
 | _,_,_=>match vof x,vof i with
  | some u,some v=>(Hy P (Instr.index t u v)).bind (av 8)
  | _,_=>none
def Vr(P:Program)(t:TypeId)(x:AV)(f:Nat):Option AV:=
 match P.underlying t,x with
 | some (.struct fs),.ptr b o=>match fs[f]? with
  | some fd=>match P.info? fd.type with
   | some i=>bif Nat.beq i.size 0 then none else some (.ptr b (o+fd.offset))
   | none=>none
  | none=>none
 | _,_=>none
def Vq(P:Program)(t:TypeId)(x i:AV):Option AV:=
 match Nm i with
 | none=>none
 | some j=>match P.underlying t,x with
  | some (.array n e),.ptr b o=>match P.info? e with
   | some inf=>bif Nat.blt j n then some (.ptr b (o+j*inf.size)) else none
   | none=>none
  | some (.slice e),.slc b o n c=>match P.info? e with
   | some inf=>bif Nat.blt j n then some (.ptr b (o+j*inf.size)) else none
   | none=>none
  | some (.slice e),.slo b n=>match P.info? e with
   | some inf=>bif Nat.blt j n then some (.ptr b (0+j*inf.size)) else none
   | none=>none
  | some (.slice e),.slu b o n=>match P.info? e with
   | some inf=>bif Nat.blt j n then some (.ptr b (o+j*inf.size)) else none
   | none=>none
  | _,_=>none
def D3(P:Program)(t:TypeId)(x:AV)(lo hi mx:Option AV):Option AV:=
 match P.underlying t,x with
 | some (.slice e),_=>match P.info? e with
  | some i=>match x with
   | .nils=>match Yd 0 0 lo hi mx with
    | some _=>some .nils
    | none=>none
   | x=>asl i.size x lo hi mx
  | none=>none
 | some (.array n e),.ptr b o=>match P.info? e,Yd n n lo hi mx with
  | some i,some (l,h,m)=>bif Nat.beq m l then some (.slc b o (h-l) (m-l)) else some (.slc b (o+l*i.size) (h-l) (m-l))
  | _,_=>none
 | some (.pointer a),.ptr b o=>match P.underlying a with
  | some (.array n e)=>match P.info? e,Yd n n lo hi mx with
   | some i,some (l,h,m)=>bif Nat.beq m l then some (.slc b o (h-l) (m-l)) else some (.slc b (o+l*i.size) (h-l) (m-l))
   | _,_=>none
  | _=>none
 | _,_=>none
def ES(P:Program)(x:AV)(t:TypeId)(ok:Bool):Option AV:=
 match P.underlying t with
 | some (.interface _)=>none
 | some _=>match x with
  | .ifc u v=>bif Nat.beq u t then some (bif ok then .tup [v,.bool true] else v) else
   bif ok then match P.info? t with
    | some i=>match i.zero with
     | some z=>(av 8 z).map fun z=>.tup [z,.bool false]
     | none=>none
    | none=>none
   else none
  | _=>none
 | none=>none
def Qda(P:Program)(t:TypeId)(x:AV):Option AV:=
 match P.underlying t,x with
 | some (.slice _),.nils=>some (.int .i64 0)
 | some (.slice _),.slc _ _ n _=>some (.int .i64 (.ofNat n))
 | some (.slice _),.slo _ n=>some (.int .i64 (.ofNat n))
 | some (.slice _),.slu _ _ n=>some (.int .i64 (.ofNat n))
 | some (.slice _),.emp=>some (.int .i64 0)
 | some .string,.str s=>some (.int .i64 (.ofNat s.length))
 | some (.array n _),_=>some (.int .i64 (.ofNat n))
 | _,_=>none
def EX(P:Program)(s d:TypeId)(a:AV):Option AV:=
 match P.underlying s,P.underlying d,a with
 | some _,some (.int k'),.int k n=>some (.int k' (V3 k' n))
 | _,_,a=>match vof a with
  | some u=>(Hy P (convert s d u)).bind (av 8)
  | none=>none
def Nq(P:Program)(b:Builtin)(ts:Array TypeId)(t:TypeId)(l:List AV):Option AV:=
 match b,l with
 | .len,[x]=>match ts[0]? with
  | some t=>Qda P t x
  | none=>none
 | .min,l=>match Ro l with
  | some us=>(Hy P (Builtin.min_ ts t us.toArray)).bind (av 8)
  | none=>none
 | .max,l=>match Ro l with
  | some us=>(Hy P (Builtin.max_ ts t us.toArray)).bind (av 8)
  | none=>none
 | _,_=>none
theorem Xi{P:Program}{w:World}{v:Value}{s:Sem Value}(h:s.run P w= .ok v w):((do pure (Next.value (←s))):Sem Next).run P w= .ok (.value v) w:=by
 rw[Qdl,h];rfl
section
variable {P:Program} {ρ:Rh} (w:World)
theorem Ls{t:TypeId}{x v:AV}{f:Nat}(h:SQ P t x f=some v){x':Value}(hx:RV ρ x x'):∃v',(Instr.field t x' f).run P w= .ok v' w∧RV ρ v v':=by
 unfold SQ at h;split at h
 ·rename_i fs l hd;split at h
  ·rename_i fd hf;simp only[RV] at hx;obtain⟨xs,rfl,hl⟩:=hx;obtain⟨v',h1,h2⟩:=By h hl w;refine⟨v',?_,h2⟩;simp only[Instr.field,Qdl,Qd6 hd,Qdi,hf,asAgg,Qd1,h1]
  ·cases h
 ·cases h
theorem PT{a:AV}{n:Nat}(h:Nm a=some n){v:Value}(hv:RV ρ a v):∃k,v= .int k (n:Int):=by
 unfold Nm at h;split at h
 ·cases h;simp only[RV] at hv;exact⟨_,hv⟩
 ·cases h
theorem Gv{s:Option Value}{v:AV}(h:s.bind (av 8)=some v):∃u,s=some u∧RV ρ v u:=by
 simp only[Option.bind_eq_some_iff] at h;obtain⟨u,h1,h2⟩:=h;exact⟨u,h1,Nj 8 u v h2⟩
theorem Lr{t:TypeId}{x i v:AV}(h:SO P t x i=some v){x' i':Value}(hx:RV ρ x x')(hi:RV ρ i i'):∃v',(Instr.index t x' i').run P w= .ok v' w∧RV ρ v v':=by
 unfold SO at h;split at h
 ·rename_i n e l j hd hj;split at h
  ·rename_i inf hinf;cases hb:Nat.blt j n with
   | false=>rw[hb] at h;cases h
   | true=>
    rw[hb] at h;have hlt:=Xf hb;simp only[RV] at hx;obtain⟨xs,rfl,hl⟩:=hx;obtain⟨k,rfl⟩:=PT hj hi;obtain⟨v',h1,h2⟩:=By h hl w;refine⟨v',?_,h2⟩;simp only[Instr.index,asIntOf,Qdl,Qd1,Qd6 hd,Qdi];rw[Qdm ⟨by omega,by omega⟩,Qdl,run_sizeOf w hinf,Qdi,Qu hinf];exact h1
  ·cases h
 ·split at h
  ·rename_i p q hp hq;obtain⟨u,h1,h2⟩:=Gv (ρ:=ρ) h;rw[ZH _ _ _ hx hp,ZH _ _ _ hi hq];exact⟨u,YT h1 w,h2⟩
  ·cases h
theorem NT{t:TypeId}{x v:AV}{f:Nat}(h:Vr P t x f=some v){x':Value}(hx:RV ρ x x'):∃v',(Instr.fieldAt t x' f).run P w= .ok v' w∧RV ρ v v':=by
 unfold Vr at h;split at h
 ·rename_i fs b o hd;split at h
  ·rename_i fd hf;split at h
   ·rename_i i hi;cases hb:Nat.beq i.size 0 with
    | true=>rw[hb] at h;cases h
    | false=>
     rw[hb] at h;cases h;have hne:=QdS hb;simp only[RV] at hx;obtain⟨g,hg,rfl⟩:=hx;refine⟨.pointer (some ⟨g.blk,g.off+(o+fd.offset),none⟩),?_,by simp only[RV];exact⟨g,hg,rfl⟩⟩;simp only[Instr.fieldAt,Qdl,Qd6 hd,Qdi,hf,Instr.sureAddr,Qd1,fieldPlace,run_sizeOf w hi,Qu hi,Qdf hne,VR,Qeb]
   ·cases h
  ·cases h
 ·cases h
theorem NS{t:TypeId}{x i v:AV}(h:Vq P t x i=some v){x' i':Value}(hx:RV ρ x x')(hi:RV ρ i i'):∃v',(Instr.indexAt t x' i').run P w= .ok v' w∧RV ρ v v':=by
 unfold Vq at h;split at h
 ·cases h
 ·rename_i j hj;obtain⟨k,rfl⟩:=PT hj hi;have sl:∀{e:TypeId} {inf:TypeInfo} {b o n c:Nat} {g:Pl},P.underlying t=some (.slice e)→P.info? e=some inf→ρ b=some g→(bif Nat.blt j n then some (AV.ptr b (o+j*inf.size)) else none)=some v→
    ∃v',(Instr.indexAt t (.slice (some ⟨g.blk,g.off+o,none⟩) n c) (.int k j)).run P w= .ok v' w∧RV ρ v v':=fun {e inf b o n c g} hd hinf hg h=>by
   cases hb:Nat.blt j n with
   | false=>rw[hb] at h;cases h
   | true=>
    rw[hb] at h;cases h;have hlt:=Xf hb;refine⟨.pointer (some ⟨g.blk,g.off+(o+j*inf.size),none⟩),?_,by simp only[RV];exact⟨g,hg,rfl⟩⟩;simp only[Instr.indexAt,asIntOf,Qdl,Qd1,Qd6 hd,Qdi];rw[Qdm ⟨by omega,by omega⟩];simp only[Qdl,run_sizeOf w hinf,Qdi,Qu hinf,Qd1,VR,Qe4,Qeb]
  split at h
  ·rename_i n e b o hd;split at h
   ·rename_i inf hinf;cases hb:Nat.blt j n with
    | false=>rw[hb] at h;cases h
    | true=>
     rw[hb] at h;cases h;have hlt:=Xf hb;simp only[RV] at hx;obtain⟨g,hg,rfl⟩:=hx;refine⟨.pointer (some ⟨g.blk,g.off+(o+j*inf.size),none⟩),?_,by simp only[RV];exact⟨g,hg,rfl⟩⟩;simp only[Instr.indexAt,asIntOf,Qdl,Qd1,Qd6 hd,Qdi,Instr.sureAddr];rw[Qdm ⟨by omega,by omega⟩];simp only[Qdl,run_sizeOf w hinf,Qdi,Qu hinf,Qd1,VR,Qe4,Qeb]
   ·cases h
  ·rename_i e b o n c hd;split at h
   ·rename_i inf hinf;simp only[RV] at hx;obtain⟨g,hg,rfl⟩:=hx;exact sl hd hinf hg h
   ·cases h
  ·rename_i e b n hd;split at h
   ·rename_i inf hinf;simp only[RV] at hx;obtain⟨g,hg,_,rfl⟩:=hx;exact sl hd hinf hg h
   ·cases h
  ·rename_i e b o n hd;split at h
   ·rename_i inf hinf;simp only[RV] at hx;obtain⟨g,c,hg,_,rfl⟩:=hx;exact sl hd hinf hg h
   ·cases h
  ·cases h
theorem Lo{t:TypeId}{x v:AV}{lo hi mx:Option AV}(h:D3 P t x lo hi mx=some v){x':Value}{lo' hi' mx':Option Value}(hx:RV ρ x x')(h1:RO ρ lo lo')(h2:RO ρ hi hi')(h3:RO ρ mx mx'):
  ∃v',(Instr.sliceAt t x' lo' hi' mx').run P w= .ok v' w∧RV ρ v v':=by
 have arr:∀{b o n l h m:Nat} {i:TypeInfo} {g:Pl},ρ b=some g→(bif Nat.beq m l then some (AV.slc b o (h-l) (m-l)) else some (.slc b (o+l*i.size) (h-l) (m-l)))=some v→
   RV ρ v (.slice (some (if m=l then ⟨g.blk,g.off+o,none⟩ else ⟨g.blk,g.off+o+l*i.size,none⟩)) (h-l) (m-l)):=fun {b o n l h m i g} hg k=>by
  cases hb:Nat.beq m l with
  | true=>
   have:=Qd7 hb;rw[hb] at k;cases k;simp only[RV];exact⟨g,hg,by rw[Qdm this]⟩
  | false=>
   have:=QdS hb;rw[hb] at k;cases k;simp only[RV];exact⟨g,hg,by rw[Qdf this,Qeb]⟩
 unfold D3 at h;split at h
 ·rename_i e hd;split at h
  ·rename_i i hinf;split at h
   ·split at h
    ·rename_i p hk;obtain⟨l,hh,m⟩:=p;cases h;simp only[RV] at hx;subst hx;refine⟨.slice none 0 0,?_,by simp only[RV]⟩;obtain⟨k1,k2,k3,k4⟩:=Jt (P:=P) (sl:=true) hk h1 h2 h3 w;rw[GF hd hinf none 0 0 _ _ _ w k1];have e1:m=0:=by omega
     have e2:hh=0:=by omega
     have e3:l=0:=by omega
     subst e1 e2 e3;rfl
    ·cases h
   ·exact QcY hd hinf h hx h1 h2 h3 w
  ·cases h
 ·rename_i n e b o hd;split at h
  ·rename_i i l hh m hinf hk;simp only[RV] at hx;obtain⟨g,hg,rfl⟩:=hx;obtain⟨k1,_⟩:=Jt (P:=P) (sl:=false) hk h1 h2 h3 w;exact⟨_,ND hd hinf _ _ _ _ _ w k1,arr (n:=n) hg h⟩
  ·cases h
 ·rename_i a b o hd;split at h
  ·rename_i n e ha;split at h
   ·rename_i i l hh m hinf hk;simp only[RV] at hx;obtain⟨g,hg,rfl⟩:=hx;obtain⟨k1,_⟩:=Jt (P:=P) (sl:=false) hk h1 h2 h3 w;exact⟨_,TW hd ha hinf _ _ _ _ _ w k1,arr (n:=n) hg h⟩
   ·cases h
  ·cases h
 ·cases h
end
end Go.Proofs.YthdaabapiicnhaaGreatDoor.Av
