/- Steps of the proof. -/
import Derived.Test.YthdaabapiicnhaaGreatDoorTr35
set_option linter.all false
set_option maxRecDepth 100000
set_option maxHeartbeats 4000000
open Go.Proofs.Tryz
namespace Go.Proofs.YthdaabapiicnhaaGreatDoor.Av
open Go.RowKit
theorem p1:WK prog isO orc 39 (VG Tryz.f4.body 1) t1 h1 n1 k2=some (.normal,t2,h2,n2):=by kernel_rfl
end Go.Proofs.YthdaabapiicnhaaGreatDoor.Av
