/- Steps of the proof. -/
import Derived.Test.YthdaabapiicnhaaGreatDoorTr03
set_option linter.all false
set_option maxRecDepth 100000
set_option maxHeartbeats 4000000
open Go.Proofs.Tryz
namespace Go.Proofs.YthdaabapiicnhaaGreatDoor
theorem QR{a b:Bool}(ha:a=true)(hb:b=true):(a&&b)=true:=by rw[ha,hb];rfl
theorem jf0:(Rows.topCodecRow.wf (OpenSpec.ofChange (OpenSpec.ofChange Rows.topCodecSpec).bare))=true:=by kernel_rfl
theorem jf1:(laidOutB Tryz.pinned.checked.prog)=true:=by kernel_rfl
theorem jf2:(mapsRowed Tryz.pinned.checked.prog)=true:=by kernel_rfl
theorem jf3:(Tryz.f3.params.all (Tryz.pinned.checked.prog.readableRec ·))=true:=by kernel_rfl
theorem jf4:(namedTie Tryz.pinned.checked.prog Rows.topCodecRow.named (OpenSpec.ofChange Rows.topCodecSpec).bare.vars)=true:=by kernel_rfl
theorem jf5:((Rows.topCodecRow.stops==[]))=true:=by kernel_rfl
theorem jf6:((Tryz.pinned.checked.prog.stops==[]))=true:=by kernel_rfl
theorem jf7:((Rows.topCodecRow.knobs==[]))=true:=by kernel_rfl
theorem jf8:((Tryz.pinned.checked.prog.stopKnobs==[]))=true:=by kernel_rfl
theorem jf9:((Rows.topCodecRow.inPlace==Tryz.pinned.checked.prog.inPlace 3))=true:=by kernel_rfl
theorem jf10:((Rows.topCodecRow.unfollowed==Tryz.pinned.checked.prog.unfollowed 3))=true:=by kernel_rfl
theorem jf11:((Rows.topCodecRow.recurses==Tryz.pinned.checked.prog.recurses 3))=true:=by kernel_rfl
theorem jf12:((Rows.topCodecRow.named==Tryz.pinned.checked.prog.varsNamed 3))=true:=by kernel_rfl
theorem jf13:((Rows.topCodecRow.maps==(Tryz.f3.params.toList++(OpenSpec.ofChange Rows.topCodecSpec).bare.plain.varTypes Tryz.pinned.checked.prog).any (Tryz.pinned.checked.prog.mapsRec ·)))=true:=by kernel_rfl
theorem jf14:((Rows.topCodecRow.ifaces==(Tryz.f3.params.toList++(OpenSpec.ofChange Rows.topCodecSpec).bare.plain.varTypes Tryz.pinned.checked.prog).any (Tryz.pinned.checked.prog.ifacesRec ·)))=true:=by kernel_rfl
theorem jf15:((Rows.topCodecRow.mapsOut==Tryz.pinned.checked.prog.mapsAmong Tryz.f3.resultTypes.toList))=true:=by kernel_rfl
theorem jf16:((Rows.topCodecRow.loops==(Tryz.f3.params.toList++(OpenSpec.ofChange Rows.topCodecSpec).bare.plain.varTypes Tryz.pinned.checked.prog).any (Tryz.pinned.checked.prog.loopsFrom ·)))=true:=by kernel_rfl
theorem jf17:((Rows.topCodecRow.wideKeys==(Tryz.f3.params.toList++(OpenSpec.ofChange Rows.topCodecSpec).bare.plain.varTypes Tryz.pinned.checked.prog++Tryz.f3.resultTypes.toList).any (Tryz.pinned.checked.prog.wideKeysFrom ·)))=true:=by kernel_rfl
theorem jf18:((OpenSpec.ofChange Rows.topCodecSpec).bare.vars.all (Tryz.pinned.checked.prog.varReadable ·))=true:=by kernel_rfl
theorem jf19:(Tryz.f3.resultTypes.all (fun t=>Tryz.pinned.checked.prog.readableRec t&&decide (t<Tryz.pinned.checked.prog.types.size)))=true:=by kernel_rfl
theorem jf20:((Rows.topCodecRow.ifacesOut==Tryz.f3.resultTypes.toList.any (Tryz.pinned.checked.prog.ifacesRec ·)))=true:=by kernel_rfl
theorem jf21:((Rows.topCodecRow.loopsOut==Tryz.f3.resultTypes.toList.any (Tryz.pinned.checked.prog.loopsFrom ·)))=true:=by kernel_rfl
theorem jf22:((Rows.topCodecRow.plainKeys==Tryz.pinned.checked.prog.plainKeys))=true:=by kernel_rfl
theorem jf23:(Rows.topCodecRow.shortTexts.isNone)=true:=by kernel_rfl
theorem jf24:(Tryz.pinned.checked.prog.stopsHeard)=true:=by kernel_rfl
theorem jf25:(Tryz.pinned.checked.prog.mayEnter)=true:=by kernel_rfl
theorem jf26:((Rows.topCodecRow.lifted==Tryz.pinned.checked.prog.liftsFinal))=true:=by kernel_rfl
theorem jf27:((Tryz.pinned.checked.prog.make==some Rows.topCodecRow.make))=true:=by kernel_rfl
theorem jf28:((Rows.topCodecRow.kinds==(if Rows.topCodecRow.domain.isEmpty then [] else Tryz.f3.params.toList.map fun t=>match Tryz.pinned.checked.prog.underlying t with|some (.int k)=>some k|_=>none)))=true:=by kernel_rfl
theorem jf29:((Rows.topCodecRow.pinned==Rows.topCodecRow.pinnedBy))=true:=by kernel_rfl
theorem jf30:((Rows.topCodecRow.veiled==(Tryz.f3.params.toList++(OpenSpec.ofChange Rows.topCodecSpec).bare.plain.varTypes Tryz.pinned.checked.prog++Tryz.f3.resultTypes.toList).any (Tryz.pinned.checked.prog.veiledRec ·)))=true:=by kernel_rfl
theorem jf31:(Rows.topCodecRow.veiledFits Tryz.pinned.checked.prog Tryz.f3.params.toList (Tryz.f3.params.toList++(OpenSpec.ofChange Rows.topCodecSpec).bare.plain.varTypes Tryz.pinned.checked.prog++Tryz.f3.resultTypes.toList))=true:=by kernel_rfl
theorem MR:Tryz.pinned.checked.prog.funcNamed Rows.topCodecRow.func=some 3:=by kernel_rfl
theorem Qba:prog.funcNamed Rows.topCodecRow.func=some 3:=MR
theorem QcC:false=Rows.topCodecRow.goesBy Tryz.pinned.checked.prog:=by kernel_rfl
def Qay:Value:=.agg (#[.int .i64 0,.int .u32 0,.int .u64 0,.int .u32 0,.slice none 0 0,.slice none 0 0]++Array.replicate 32 (.int .u8 0)++#[.slice none 0 0,.int .u32 0]++Array.replicate 64 (.int .u8 0)++#[.int .u32 0,.int .u32 0,.int .u32 0,.int .u32 0,.slice none 0 0,.slice none 0 0,.int .u32 0,.slice none 0 0,.slice none 0 0,.int .u32 0])
def dat9{H:Type}:DataW H:=.agg [.lit (.int .i64 0),.lit (.int .u32 0),.lit (.int .u64 0),.lit (.int .u32 0),.nil,.nil,.agg (List.replicate 32 (.lit (.int .u8 0))),.nil,.agg [.agg [.lit (.int .u32 0),.agg (List.replicate 32 (.lit (.int .u8 0))),.agg (List.replicate 32 (.lit (.int .u8 0))),.lit (.int .u32 0),.lit (.int .u32 0),.lit (.int .u32 0)],.lit (.int .u32 0),.nil,.nil],.agg [.lit (.int .u32 0),.nil,.nil,.lit (.int .u32 0)]]
end Go.Proofs.YthdaabapiicnhaaGreatDoor
