/- Steps of the proof. -/
import Derived.Test.YthdaabapiicnhaaGreatDoorTr35
set_option linter.all false
set_option maxRecDepth 100000
set_option maxHeartbeats 4000000
open Go.Proofs.Tryz
namespace Go.Proofs.YthdaabapiicnhaaGreatDoor.Av
open Go.RowKit
theorem p3:WK prog isO orc 39 (VG Tryz.f4.body 3) t3 h3 n3 k4=some (.normal,t4,h4,n4):=by kernel_rfl
end Go.Proofs.YthdaabapiicnhaaGreatDoor.Av
