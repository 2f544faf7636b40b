/- Steps of the proof. -/
import Derived.Laws.StructEq
import Derived.Test.YthdaabapiicnhaaGreatDoorTr14
set_option linter.all false
set_option maxRecDepth 100000
set_option maxHeartbeats 4000000
open Go.Proofs.Tryz
namespace Go.Proofs.YthdaabapiicnhaaGreatDoor
open Go.RowKit
theorem QbQ(l k:List UInt8)(b:Bool)(hl:l.length=32)(hk:k.length=32)(hb:(decide (l=k))=b)(w:World):
  (Op.equalIn 9999 27 (.agg (Qp l)) (.agg (Qp k))).run prog w= .ok b w:=by
 obtain⟨i,hi⟩:=Qem.1 (show (prog.info? 5).isSome=true by kernel_rfl);rw[run_equalIn_array w 9998 (Qp l) (Qp k) underlying27 hi,show prog.cellsOf 5=1 by kernel_rfl,
  Zx w 9997 .u8 .u8 (by kernel_rfl) underlying5 (fun i=>((l.getD i 0).toNat:Int)) (fun i=>((k.getD i 0).toNat:Int)) _ _ _ (fun i h=>⟨Yp l i (by have:i<32:=(by simpa using h);omega),Yp k i (by have:i<32:=(by simpa using h);omega)⟩)]
 refine congrArg (fun b=>Result.ok b w) ?_;rw[←hb,QeE];simp only[QdG,QeA,beq_iff_eq,QdM];constructor
 ·intro h;apply Qfd (by omega);intro i h1 h2;have e:=h i (by omega);have e4:l.getD i 0=k.getD i 0:=Qfu.1 (by omega)
  rwa [QeC,QeC,Qdk h1,Qdk h2] at e4
 ·rintro rfl i _;rfl
theorem Wi(xs:Array Value)(off:Nat)(l:List UInt8)(h:xs.extract off (off+32)=Qp l)(w:World):(part 27 xs off).run prog w= .ok (.agg (Qp l)) w:=by
 have h1:(isAgg 27).run prog w= .ok true w:=by kernel_rfl
 have h2:(sizeOf 27).run prog w= .ok 32 w:=by kernel_rfl
 unfold part;simp only[Qdl,h1,Qdi,QdC,h2,Qd1,h]
theorem E9(x:Hd)(h:x.2.1.length=32):(hdC x).toArray.extract 1 (1+32)=Qp x.2.1:=by
 apply Array.ext';unfold hdC Qp;simp only[QfV,QfA,Qfr,Qf7,List.drop_zero];rw[Qet (by simp[h]),Qd8 (by simp[h])]
theorem E8(x:Hd)(h:x.2.1.length=32)(h2:x.2.2.1.length=32):(hdC x).toArray.extract 33 (33+32)=Qp x.2.2.1:=by
 apply Array.ext';unfold hdC Qp;simp only[QfV,QfA,Qfr,Qf7];rw[Qe8 (by simp[h]),QdY (by simp[h]),QdU,Qet (by simp[h2]),Qd8 (by simp[h2])]
theorem Oe(x:Hd)(h:x.2.1.length=32∧x.2.2.1.length=32):(hdC x).toArray[0]? =some (.int .u32 (x.1:Nat))∧(hdC x).toArray[65]? =some (.int .u32 (x.2.2.2.1:Nat))∧(hdC x).toArray[66]? =some (.int .u32 (x.2.2.2.2.1:Nat))∧(hdC x).toArray[67]? =some (.int .u32 (x.2.2.2.2.2:Nat)):=by
 have e:∀j,(hdC x)[65+j]? =([.int .u32 (x.2.2.2.1:Nat),.int .u32 (x.2.2.2.2.1:Nat),.int .u32 (x.2.2.2.2.2:Nat)]:List Value)[j]? :=fun j=>by
  unfold hdC;rw[show 65+j=(64+j)+1 by omega,Qd2,QdB (by simp[h.1];omega),QdB (by simp[h.1,h.2];omega)];simp only[QdA,h.1,h.2];congr 1;omega
 refine⟨rfl,?_,?_,?_⟩
 ·exact (Qdp ..).trans (e 0)
 ·exact (Qdp ..).trans (e 1)
 ·exact (Qdp ..).trans (e 2)
theorem Lb : (prog.fieldsOf 30).toList.map (fun f => (f.name == "_", f.type, f.offset)) = [(false, 22, 0), (false, 27, 1), (false, 27, 33), (false, 22, 65), (false, 22, 66), (false, 22, 67)] := by kernel_rfl
theorem QcF:prog.underlying 30=some (.struct (prog.fieldsOf 30)):=by kernel_rfl
theorem MZ:prog.stoodInHeld 30=false:=by kernel_rfl
theorem ZE:prog.plainKey 22=true:=by kernel_rfl
theorem QaR(p q:Nat):(((p:Int)==(q:Int)):Bool)=decide (p=q):=by
 by_cases h:p=q
 ·subst h;simp
 ·rw[decide_eq_false h];simpa using (by omega:¬(p:Int)=q)
theorem QcG(x y:Hd)(b:Bool)(hb:decide (x=y)=b):b=(decide (x.1=y.1)&&(decide (x.2.1=y.2.1)&&(decide (x.2.2.1=y.2.2.1)&&(decide (x.2.2.2.1=y.2.2.2.1)&&(decide (x.2.2.2.2.1=y.2.2.2.2.1)&&decide (x.2.2.2.2.2=y.2.2.2.2.2)))))):=by
 rw[←hb,QeE];simp only[Qdo,QdM];obtain⟨a0,a1,a2,a3,a4,a5⟩:=x;obtain⟨b0,b1,b2,b3,b4,b5⟩:=y;simp only[Prod.mk.injEq]
theorem Zv (d : Nat) (xs ys : Array Value) (f : Field) (fs : List Field) (a b : Value) (r q : Bool) (w : World) (hn : ¬ f.name = "_") (ha : (part f.type xs f.offset).run prog w = .ok a w) (hb : (part f.type ys f.offset).run prog w = .ok b w)
  (he:(Op.equalIn d f.type a b).run prog w= .ok r w) (ht:(Op.eqFields d xs ys fs).run prog w= .ok q w):(Op.eqFields d xs ys (f::fs)).run prog w= .ok (r&&q) w:=by
 unfold Op.eqFields;rw[Qdm hn];simp only[Qdl,ha,hb,he,Qdi];cases r
 ·rfl
 ·exact ht
theorem Sw(d:Nat)(a b:Int)(w:World):(Op.equalIn (d+1) 22 (.int .u32 a) (.int .u32 b)).run prog w= .ok (a==b) w:=run_equalIn_int w d 22 .u32 .u32 a b underlying22
theorem Qbp(d:Nat)(hd:d=9998)(x y:Hd)(hx:x.2.1.length=32∧x.2.2.1.length=32)(hy:y.2.1.length=32∧y.2.2.1.length=32)(w:World)(fs:List Field)
  (hf : fs.map (fun f => (f.name == "_", f.type, f.offset)) = [(false, 22, 0), (false, 27, 1), (false, 27, 33), (false, 22, 65), (false, 22, 66), (false, 22, 67)]) :
  (Op.eqFields (d+1) (hdC x).toArray (hdC y).toArray fs).run prog w= .ok (decide (x.1=y.1)&&(decide (x.2.1=y.2.1)&&(decide (x.2.2.1=y.2.2.1)&&(decide (x.2.2.2.1=y.2.2.2.1)&&(decide (x.2.2.2.2.1=y.2.2.2.2.1)&&decide (x.2.2.2.2.2=y.2.2.2.2.2)))))) w:=by
 obtain⟨x0,x1,x2,x3⟩:=Oe x hx;obtain⟨y0,y1,y2,y3⟩:=Oe y hy;have px:=Wi _ 1 _ (E9 x hx.1) w;have py:=Wi _ 1 _ (E9 y hy.1) w;have qx:=Wi _ 33 _ (E8 x hx.1 hx.2) w;have qy:=Wi _ 33 _ (E8 y hy.1 hy.2) w;have e1:(Op.equalIn (d+1) 27 (.agg (Qp x.2.1)) (.agg (Qp y.2.1))).run prog w= .ok (decide (x.2.1=y.2.1)) w:=by subst hd;exact QbQ x.2.1 y.2.1 _ hx.1 hy.1 rfl w
 have e2:(Op.equalIn (d+1) 27 (.agg (Qp x.2.2.1)) (.agg (Qp y.2.2.1))).run prog w= .ok (decide (x.2.2.1=y.2.2.1)) w:=by subst hd;exact QbQ x.2.2.1 y.2.2.1 _ hx.2 hy.2 rfl w
 have hl:fs.length=6:=by
  have:=congrArg List.length hf;simpa using this
 match fs,hl,hf with
 | [f0,f1,f2,f3,f4,f5],_,hf=>
  simp only[List.map_cons,List.map_nil,List.cons.injEq,Prod.mk.injEq,and_true,beq_eq_false_iff_ne] at hf;obtain⟨⟨n0,t0,o0⟩,⟨n1,t1,o1⟩,⟨n2,t2,o2⟩,⟨n3,t3,o3⟩,⟨n4,t4,o4⟩,⟨n5,t5,o5⟩⟩:=hf;have i0:=Sw d (x.1:Nat) (y.1:Nat) w;have i3:=Sw d (x.2.2.2.1:Nat) (y.2.2.2.1:Nat) w;have i4:=Sw d (x.2.2.2.2.1:Nat) (y.2.2.2.2.1:Nat) w;have i5:=Sw d (x.2.2.2.2.2:Nat) (y.2.2.2.2.2:Nat) w;rw[QaR] at i0 i3 i4 i5;refine Zv _ _ _ _ _ _ _ _ _ w n0 (by rw[t0,o0];exact run_part_plain w ZE x0) (by rw[t0,o0];exact run_part_plain w ZE y0) (by rw[t0];exact i0) ?_;refine Zv _ _ _ _ _ _ _ _ _ w n1 (by rw[t1,o1];exact px) (by rw[t1,o1];exact py) (by rw[t1];exact e1) ?_;refine Zv _ _ _ _ _ _ _ _ _ w n2 (by rw[t2,o2];exact qx) (by rw[t2,o2];exact qy) (by rw[t2];exact e2) ?_;refine Zv _ _ _ _ _ _ _ _ _ w n3 (by rw[t3,o3];exact run_part_plain w ZE x1) (by rw[t3,o3];exact run_part_plain w ZE y1) (by rw[t3];exact i3) ?_;refine Zv _ _ _ _ _ _ _ _ _ w n4 (by rw[t4,o4];exact run_part_plain w ZE x2) (by rw[t4,o4];exact run_part_plain w ZE y2) (by rw[t4];exact i4) ?_;have h:=Zv (d+1) (hdC x).toArray (hdC y).toArray f5 [] _ _ _ true w n5 (by rw[t5,o5];exact run_part_plain w ZE x3) (by rw[t5,o5];exact run_part_plain w ZE y3) (by rw[t5];exact i5) rfl;rw[Bool.and_true] at h;exact h
theorem eqHd(x y:Hd)(b:Bool)(hx:x.2.1.length=32∧x.2.2.1.length=32)(hy:y.2.1.length=32∧y.2.2.1.length=32)(hb:decide (x=y)=b)(w:World):
  (Op.equalIn 10000 30 (.agg (hdC x).toArray) (.agg (hdC y).toArray)).run prog w= .ok b w:=by
 rw[QcG x y b hb];exact (run_equalIn_struct w 9999 30 _ _ QcF MZ).trans (Qbp 9998 rfl x y hx hy w _ Lb)
def GOkN(F:Nat→Value→World→Prop)(dsts:List (Option Tmp))(o:Oper)(b:Bool):Prop:=
 GOk F dsts o b∨∃j want c g,o.guard=some (j,want)∧(Qr o).contains j=true∧(∃t,dsts[j]? =some (some t))∧(∀u w,F j u w→u=if g=true then .bool c else undef)∧(g&&(c==want))=b
theorem GOkN.wanted{F:Nat→Value→World→Prop}{l:List Oper}{dsts:List (Option Tmp)}{o:Oper}{b:Bool}(h:GOkN F dsts o b)(hds:l.map (·.dst)=dsts){tmps:Array Value}{γ:Nat→Value}{w:World}
  (hF:∀j,(Qr o).contains j=true→F j (γ j) w) (hs:∀j,(Qr o).contains j=true→∀t,dsts[j]? =some (some t)→t<tmps.size∧tmps.getD t undef=γ j):Region.wanted o (yielded l.toArray tmps)=b:=by
 rcases h with h|⟨j,want,c,g,hg,he,⟨t,ht⟩,hc,rfl⟩
 ·exact h.wanted hds hF hs
 ·obtain⟨h1,h2⟩:=hs j he t ht;rw[hc _ _ (hF j he)] at h2;have h3:tmps[t]? =some (if g=true then .bool c else undef):=by
   rw[QdK,Qev h1] at h2;rw[Qev h1];exact congrArg some h2
  have h4:((l[j]?).bind (·.dst))=some t:=by
   rw[←hds,QdI] at ht;cases hl:l[j]? with
   | none=>rw[hl] at ht;cases ht
   | some o'=>
    rw[hl] at ht;simpa using ht
  have h5:yielded l.toArray tmps j=if g=true then some c else none:=by
   unfold yielded;rw[Qdp,h4,QfN,h3];cases g <;> rfl
  simp only[Region.wanted,hg,h5];cases g <;> cases c <;> cases want <;> rfl
def Rk(P:Program)(Q:Exit→Act→World→Prop)(w0:World)(dsts:List (Option Tmp))(F:Nat→Value→World→Prop)(a0:Act)(i:Nat)(o:Oper):Prop:=
 ∃b:Bool,GOkN F dsts o b∧(b=false→∀w,F i undef w)∧(b=true→∀(A:Act) w' (γ:Nat→Value),Below w0.heap.size w0 w'→(∀j,(Qr o).contains j=true→F j (γ j) w')→YC dsts γ a0 o A→
  o.wp P A w' (fun a' w''=>∃u,a'=A.put o.dst u∧Below w'.heap.size w' w''∧F i u w'') Q)
theorem YE{P:Program}{Q:Exit→Act→World→Prop}{id:Nat}{l:List Oper}{a:Act}{w:World}(dsts:List (Option Tmp))(F:Nat→Value→World→Prop)
  (hF:∀j u w1 w2,F j u w1→Below w1.heap.size w1 w2→F j u w2)
  (hds:l.map (·.dst)=dsts) (hnd:Y9 dsts=true) (hord:ordGo 0 l=true) (hin:inD a.tmps.size dsts=true)
  (step:StepAll (Rk P Q w dsts F a) 0 l)
  (fin:∀γ w',Below w.heap.size w w'→(∀j,j<l.length→F j (γ j) w')→Q .normal (Fr γ (fun _=>true) dsts 0 a) w'):(Code.region id l.toArray false).wp P Q a w:=by
 refine wp_region_lit ?_;have hlen:dsts.length=l.length:=by rw[←hds,QdA]
 have main:∀(n k:Nat),l.length-k=n→k≤l.length→∀γ w',Below w.heap.size w w'→(∀j,j<k→F j (γ j) w')→wpList P l.toArray Q (l.drop k) (Fr γ (fun j=>decide (j<k)) dsts 0 a) w':=by
  intro n;induction n with
  | zero=>
   intro k hk hkl γ w' hb hFs;obtain rfl:k=l.length:=by omega
   rw[QeN];have e:Fr γ (fun j=>decide (j<l.length)) dsts 0 a=Fr γ (fun _=>true) dsts 0 a:=
    Xo _ _ _ _ dsts 0 a fun j _ hj=>⟨decide_eq_true (by omega),fun _=>rfl⟩
   rw[e];exact wpList_nil (fin γ w' hb hFs)
  | succ n ih=>
   intro k hk hkl γ w' hb hFs;have hlt:k<l.length:=by omega
   have ho:l[k]? =some l[k]:=Qdk hlt;rw[Qew hlt];generalize l[k]=o at ho;have hdep:∀j,(Qr o).contains j=true→j<k:=fun j hj=>by
    have:=ordGo.at hord k o ho j (QdD.1 hj);omega
   have hSF:YC dsts γ a o (Fr γ (fun j=>decide (j<k)) dsts 0 a):=
    ⟨fun j hj t ht=>Z6 γ _ t j (decide_eq_true (hdep j hj)) dsts 0 a hnd (Qdw _) (by simpa using ht) (YA hin ht),fun t ht=>ZL γ _ t dsts 0 a ht⟩
   have hd:dsts[k]? =some o.dst:=by rw[←hds,QdI,ho];rfl
   have hon:(fun j=>decide (j<k+1))=onL (fun j=>decide (j<k)) k:=by
    funext j;unfold onL;by_cases e:j=k
    ·subst e;simp
    ·have:decide (j<k+1)=decide (j<k):=by simp;omega
     rw[this];simp[e]
   have key:∀u w'',Below w'.heap.size w' w''→F k u w''→wpList P l.toArray Q (l.drop (k+1)) ((Fr γ (fun j=>decide (j<k)) dsts 0 a).put o.dst u) w'':=by
    intro u w'' hb2 hFu;have e:(Fr γ (fun j=>decide (j<k)) dsts 0 a).put o.dst u=Fr (fun j=>if j=k then u else γ j) (fun j=>decide (j<k+1)) dsts 0 a:=by
     rw[hon,P2 _ _ k (by simp) dsts 0 a o.dst hnd (Qdw _) (by simpa using hd)];simp only[QdC];congr 1;refine Xo _ _ _ _ dsts 0 a fun j _ _=>⟨rfl,fun hj=>?_⟩;have:j<k:=Qer hj;rw[Qdf (by omega)]
    rw[e];refine ih (k+1) (by omega) (by omega) _ w'' (bt hb hb2) fun j hj=>?_;by_cases e2:j=k
    ·subst e2;simpa using hFu
    ·simp only[e2,QdV];exact hF j _ _ _ (hFs j (by omega)) hb2
   have st:=step.at k o ho;simp only[Qd5] at st;obtain⟨b,hg,h0,h1⟩:=st;have hwant:Region.wanted o (yielded l.toArray (Fr γ (fun j=>decide (j<k)) dsts 0 a).tmps)=b:=
    hg.wanted hds (fun j hj=>hFs j (hdep j hj)) (fun j hj t ht=>⟨by rw[Vt];exact YA hin ht,hSF.1 j hj t ht⟩)
   unfold wpList;rw[hwant];cases b
   ·rw[Qdf (by decide)];exact key undef w' (Below.refl _ _) (h0 rfl w')
   ·rw[Qdm rfl];left;refine Oper.wp_mono ?_ (h1 rfl _ w' γ hb (fun j hj=>hFs j (hdep j hj)) hSF);rintro a'' w'' ⟨u,rfl,hbel,hFu⟩;exact key u w'' hbel hFu
 have h:=main l.length 0 (by omega) (Qdw _) (fun _=>undef) w (Below.refl _ _) (fun j hj=>by omega);have e0:∀(r:List (Option Tmp)) (k:Nat),Fr (fun _=>undef) (fun j=>decide (j<0)) r k a=a:=by
  intro r;induction r with
  | nil=>intro k;rfl
  | cons d r ih=>
   intro k;unfold Fr;simp only[Nat.not_lt_zero,decide_false];exact ih (k+1)
 rw[e0] at h;exact h
def ItV(c:Bool)(v:Value):VP:=fun u _=>u=if c=true then v else undef
theorem Qc(c:Bool)(v:Value):VW (ItV c v):=fun _ _ _ h _=>h
theorem itv{c:Bool}{v u:Value}{w:World}(h:ItV c v u w)(hc:c=true):u=v:=by
 unfold ItV at h;rw[h,Qdm hc]
section
variable {P:Program} {Q:Exit→Act→World→Prop} {o:Oper} {w0 w:World} {A:Act} {dsts:List (Option Tmp)} {F:Nat→Value→World→Prop} {a0:Act} {i:Nat}
theorem Xc(h:Cc P Q w0 dsts F a0 i o):Rk P Q w0 dsts F a0 i o:=by
 rcases h with ⟨h1,h2⟩|⟨h1,h2⟩
 ·exact⟨false,.inl h1,fun _=>h2,fun h=>by cases h⟩
 ·exact⟨true,.inl h1,fun h=>by (cases h),fun _=>h2⟩
theorem Qx(j:Nat)(want c:Bool)(h:o.guard=some (j,want))(he:(Qr o).contains j=true)(t:Tmp)(ht:dsts[j]? =some (some t))(hc:∀u w,F j u w→u= .bool c)
  (h0:(c==want)=false→∀w,F i undef w) (h1:(c==want)=true→∀(A:Act) w' (γ:Nat→Value),Below w0.heap.size w0 w'→(∀j,(Qr o).contains j=true→F j (γ j) w')→YC dsts γ a0 o A→
   o.wp P A w' (fun a' w''=>∃u,a'=A.put o.dst u∧Below w'.heap.size w' w''∧F i u w'') Q):Rk P Q w0 dsts F a0 i o:=
 ⟨c==want,.inl (.inr ⟨j,want,c,h,he,⟨t,ht⟩,hc,rfl⟩),h0,h1⟩
theorem Xr(j:Nat)(want c g:Bool)(h:o.guard=some (j,want))(he:(Qr o).contains j=true)(t:Tmp)(ht:dsts[j]? =some (some t))(hc:∀u w,F j u w→ItV g (.bool c) u w)
  (h0:(g&&(c==want))=false→∀w,F i undef w) (h1:(g&&(c==want))=true→∀(A:Act) w' (γ:Nat→Value),Below w0.heap.size w0 w'→(∀j,(Qr o).contains j=true→F j (γ j) w')→YC dsts γ a0 o A→
   o.wp P A w' (fun a' w''=>∃u,a'=A.put o.dst u∧Below w'.heap.size w' w''∧F i u w'') Q):Rk P Q w0 dsts F a0 i o:=
 ⟨g&&(c==want),.inr ⟨j,want,c,g,h,he,⟨t,ht⟩,hc,rfl⟩,h0,h1⟩
theorem Qi{c:Bool}{v:Value}(h:c=false)(w:World):ItV c v undef w:=by
 unfold ItV;rw[h];rfl
theorem Qo{c:Bool}{v:Value}(hc:c=true)(h:o.wp P A w (fun a' w''=>∃u,a'=A.put o.dst u∧Below w.heap.size w w''∧EqV v u w'') Q):o.wp P A w (fun a' w''=>∃u,a'=A.put o.dst u∧Below w.heap.size w w''∧ItV c v u w'') Q:=
 Oper.wp_mono (fun _ _ ⟨u,h1,h2,h3⟩=>⟨u,h1,h2,by unfold ItV;rw[Qdm hc];exact h3⟩) h
theorem WR{a b:Bool}(h:a=true)(h2:b=true):(a&&b)=true:=by rw[h,h2];rfl
end
end Go.Proofs.YthdaabapiicnhaaGreatDoor
