/- target.Work: of good bits (not done). -/
import Derived.Test.YtndockjflnicjaaTargC
import Derived.Test.YtndockjflnicjaaLaw01Div
import Derived.Test.YtndockjflnicjaaOne
namespace Go.Proofs.Ytndockjflnicjaa
open Go.RowKit
set_option linter.unusedVariables false
end Go.Proofs.Ytndockjflnicjaa
