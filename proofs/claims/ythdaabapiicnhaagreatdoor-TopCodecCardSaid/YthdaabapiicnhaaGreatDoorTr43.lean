/- The statement TopCodec: for every input the call returns true, and its arguments read as before; the card ties SHA-256's tables to the program's text. -/
import Derived.Test.YthdaabapiicnhaaGreatDoorTr40
import Derived.Test.YthdaabapiicnhaaGreatDoorTr42
set_option linter.all false
set_option maxRecDepth 100000
set_option maxHeartbeats 4000000
open Go.Proofs.Tryz
namespace Go.Proofs.YthdaabapiicnhaaGreatDoor
open Go.ChangeShapes Go.WideShapes Go.ChangeAt Go.RowKit
open Go.ChangeMaps (open_string shut_string)
theorem Nx(w:World)(hL:Laid w)(a0:Int)(w0:(Lit.int .u32 a0).wf=true)(k:Int)(hk:(Lit.int .i64 k).wf=true)(m:Mf)(hM:M9 w m)(a2:Option Addr)(l2:List UInt8)(n2 c2:Nat)(hn2:l2.length=n2)(hc2:n2≤c2)(hm2:c2≤140737488355328)(ho2:a2=none→n2=0∧c2=0)(hr2:RdS w a2 l2):
  Calls prog 3 #[.int .u32 a0,.agg (rc k m).toArray,.slice a2 n2 c2] w fun e w'=>e= .returned (.bool true)∧Below w.heap.size w w':=by
 obtain⟨M,rfl,hM4⟩:=Rq w0;exact NU w hL M hM4 k hk m hM a2 n2 c2 l2 hn2 hc2 hm2 ho2 hr2
theorem GU(H:Type)(enc:TypeId×Value→H)(W:World)(base:Nat)(args:Array Value)(ds gs:List (DataW H))(before:List MemPlace)
  (hval0:∀(j:Nat) t v,Tryz.f3.params[j]? =some t→args[j]? =some v→Value.okWide prog W .any base t v)
  (hW:DataW.Whole enc prog Tryz.f3.params.toList Rows.topCodecSpec.vars false W args.toList ds gs before)
  (hwt0:(DataW.weightsEach prog (Tryz.f3.params.toList++(OpenSpec.ofChange Rows.topCodecSpec).bare.plain.varTypes prog) (ds++gs)).all (·≤reachBytes)=true)
  (hL:Laid W):
  Calls prog 3 args W fun e W'=>∃v,e= .returned v∧Rows.topCodecSpec.post enc prog Tryz.f3 false true false false W args v W':=by
 have hval:∀(j:Nat) t v,Tryz.f3.params[j]? =some t→args[j]? =some v→Value.okWide prog W .any base t v:=hval0;have hW':=hW;obtain⟨p,q,hA0,hV,rfl,hfz,hnd⟩:=hW;have hA:DataW.TrodAll enc prog W 0 (fun _=>true) true Tryz.f3.params.toList args.toList ds p:=hA0;rw[params3] at hA hval hwt0;obtain⟨v0,vs0,d0,ds0,p0,q0,hargs,rfl,rfl,h0,r0⟩:=trodAll_cons hA;obtain⟨v1,vs1,d1,ds1,p1,q1,rfl,rfl,rfl,h1,r1⟩:=trodAll_cons r0;obtain⟨v2,vs2,d2,ds2,p2,q2,rfl,rfl,rfl,h2,r2⟩:=trodAll_cons r1;obtain⟨rfl,rfl,rfl⟩:=trodAll_nil r2;obtain rfl:args=#[v0,v1,v2]:=by cases args;simp_all
 obtain⟨rfl,rfl⟩:=trodVars_none hV;have hwt:(DataW.weights prog 22 d0).all (·≤reachBytes)=true∧(DataW.weights prog 39 d1).all (·≤reachBytes)=true∧(DataW.weights prog 31 d2).all (·≤reachBytes)=true:=by
  have h:(DataW.weightsEach prog [22,39,31] [d0,d1,d2]).all (·≤reachBytes)=true:=hwt0;simp only[DataW.weightsEach,Qfv,Qdo,QdF] at h;simpa only[and_assoc,List.all_nil,and_true] using h
 obtain⟨wt0,wt1,wt2⟩:=hwt;obtain⟨a0,rfl,rfl,rfl,w0⟩:=open_int underlying22 (hval 0 22 v0 rfl rfl) h0;have k1:=h1;have lt1:∀x∈p1,x.block<W.heap.size:=by obtain⟨m,hm⟩:=k1;exact DataW.trod_lt m _ _ _ hm
 obtain⟨z1,m1,rfl,hz1,hM1⟩:=QaN (hval 1 39 _ rfl rfl) h1;have k2:=h2;have lt2:∀x∈p2,x.block<W.heap.size:=by obtain⟨m,hm⟩:=k2;exact DataW.trod_lt m _ _ _ hm
 obtain⟨a2,n2,c2,l2,rfl,hn2,hc2,hm2,ho2,hr2⟩:=CO underlying31 underlying5 (by kernel_rfl) (by kernel_rfl) (hval 2 31 _ rfl rfl) h2 wt2;clear hA0 hval0;refine (Nx W hL a0 w0 z1 hz1 m1 hM1 a2 l2 n2 c2 hn2 hc2 hm2 ho2 hr2).mono fun e W' ⟨he,bel⟩=>?_;subst he;exact⟨_,rfl,_,_,_,[],_,[],hW',trodAll_mk1 (shut_bool underlying4 _),(trodAll_cons_mk (shut_int underlying22 w0) (trodAll_cons_mk (Below.trod Ew (by kernel_rfl) (Qer (by kernel_rfl)) k1 bel lt1) (trodAll_cons_mk (Below.trod Ew (by kernel_rfl) (Qer (by kernel_rfl)) k2 bel lt2) trodAll_mk0))),rfl,bel.frame _,fun h=>by cases h⟩
theorem GN(os:Os):laidMet prog Rows.topCodecRow.laid ((Hm os).forCall (fun _ _=>0) ⟨#[],#[.int .u32 0,Qay,.slice none 0 0],[]⟩).memory:=
 laidMet_of_run' 8 (by kernel_rfl) (by kernel_rfl)
theorem NF(os:Os){H:Type}(enc:TypeId×Value→H):∃places,DataW.whole enc prog ((Hm os).forCall (fun _ _=>0) ⟨#[],#[.int .u32 0,Qay,.slice none 0 0],[]⟩).memory Tryz.f3.params.toList Rows.topCodecSpec.vars false (#[.int .u32 0,Qay,.slice none 0 0]:Array Value).toList 8=some ([.lit (.int .u32 0),dat9,.nil],[],places):=
 ⟨[],by kernel_rfl⟩
theorem KI(os:Os)(started:os.Started)(H:Type)(enc:TypeId×Value→H)(F:Stop.Interp):
  ReturnsInHanded {} Tryz.checked os 3 .any ((OpenSpec.ofChange Rows.topCodecSpec).preRow enc prog Tryz.f3 Rows.topCodecRow.domain false Rows.topCodecRow.laid) (((OpenSpec.ofChange Rows.topCodecSpec).at F).post enc prog Tryz.f3 false true false false):=by
 obtain⟨places,hx⟩:=NF os enc;refine returnsInHanded_of_row (C:=Tryz.checked) (s:=OpenSpec.ofChange Rows.topCodecSpec) own started (by kernel_rfl) func3
  (witness_row_at (enc:=enc) (C:=Tryz.checked) false (Hm os) #[.int .u32 0,Qay,.slice none 0 0] rfl (by kernel_rfl) (by kernel_rfl) (by kernel_rfl)
   (OpenSpec.preRow_of_cond 8 hx (by kernel_rfl) (fun k hk=>by cases hk) (by kernel_rfl) (GN os))) ?_
 intro W base args ds gs before hval hW _ _ hwt hL _ _;exact GU H enc W base args ds gs before hval hW hwt (Qal hL)
theorem NV:Rows.TopCodecSaid:=
 OpenClaim.holds_of_cond 3 Tryz.f3 rfl rfl rfl rfl rfl rfl rfl ⟨rfl,rfl,rfl,rfl,rfl⟩ rfl rfl rfl rfl rfl MR func3 MS
  (Qer (by kernel_rfl)) (by unfold Func.isWrapper;first|(rw[Qdm (by decide+kernel)];kernel_rfl)|(rw[Qdf (by decide+kernel)];exact⟨rfl,rfl⟩))
  (fun os started H enc _ F=>by rw[OpenClaim.pre_eq_preRow];exact KI os started H enc F)
theorem TopCodec_holds:Rows.TopCodecCardSaid:=
 Claim7.holds_tied_plain_at .later [] _ _ _ _ NV (fun _ h=>by cases h) (by kernel_rfl) (fun _ h=>by cases h) topCodec_row_tie rfl ⟨rfl,rfl⟩ (by kernel_rfl) rfl (M3 (by kernel_rfl) Qba func3 (by kernel_rfl)) QcC
#print axioms TopCodec_holds
end Go.Proofs.YthdaabapiicnhaaGreatDoor
