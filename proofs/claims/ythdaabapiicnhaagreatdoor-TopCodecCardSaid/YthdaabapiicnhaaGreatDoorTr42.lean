/- Steps of the proof. -/
import Derived.Test.YthdaabapiicnhaaGreatDoorTr41
set_option linter.all false
set_option maxRecDepth 100000
set_option maxHeartbeats 4000000
open Go.Proofs.Tryz
namespace Go.Proofs.YthdaabapiicnhaaGreatDoor
theorem MS:joinedFacts Tryz.pinned.checked.prog 3 Tryz.f3 (OpenSpec.ofChange Rows.topCodecSpec).bare Rows.topCodecRow=true:=by
 unfold joinedFacts;exact (QR (QR (QR (QR (QR (QR (QR (QR (QR (QR (QR (QR (QR (QR (QR (QR (QR (QR (QR (QR (QR (QR (QR (QR (QR (QR (QR (QR (QR (QR (QR jf0 jf1) jf2) jf3) jf4) jf5) jf6) jf7) jf8) jf9) jf10) jf11) jf12) jf13) jf14) jf15) jf16) jf17) jf18) jf19) jf20) jf21) jf22) jf23) jf24) jf25) jf26) jf27) jf28) jf29) jf30) jf31)
end Go.Proofs.YthdaabapiicnhaaGreatDoor
