/- Steps of the proof. -/
import Derived.Test.YthdaabapiicnhaaGreatDoorTr35
set_option linter.all false
set_option maxRecDepth 100000
set_option maxHeartbeats 4000000
open Go.Proofs.Tryz
namespace Go.Proofs.YthdaabapiicnhaaGreatDoor.Av
open Go.RowKit
theorem p2:WK prog isO orc 39 (VG Tryz.f4.body 2) t2 h2 n2 k3=some (.normal,t3,h3,n3):=by kernel_rfl
end Go.Proofs.YthdaabapiicnhaaGreatDoor.Av
