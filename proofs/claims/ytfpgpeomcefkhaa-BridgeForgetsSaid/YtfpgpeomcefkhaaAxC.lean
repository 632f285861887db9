/- A contract on abstract values, told of the program's values. -/
import Derived.Test.YtfpgpeomcefkhaaAx30
import Derived.Test.YtfpgpeomcefkhaaOpen
namespace Go.Proofs.Ytfpgpeomcefkhaa
open Go.RowKit Go.ChangeShapes Go.WideShapes Go.ChangeAt
set_option linter.unusedVariables false
end Go.Proofs.Ytfpgpeomcefkhaa
