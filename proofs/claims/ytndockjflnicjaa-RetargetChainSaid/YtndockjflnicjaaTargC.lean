/- target.Work: of bad bits. -/
import Derived.Test.YtndockjflnicjaaTargB
namespace Go.Proofs.Ytndockjflnicjaa
open Go.RowKit
set_option linter.unusedVariables false
end Go.Proofs.Ytndockjflnicjaa
