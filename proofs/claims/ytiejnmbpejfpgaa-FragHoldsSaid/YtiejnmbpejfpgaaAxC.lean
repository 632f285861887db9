/- A contract on abstract values, told of the program's values. -/
import Derived.Test.YtiejnmbpejfpgaaAx30
import Derived.Test.YtiejnmbpejfpgaaOpen
namespace Go.Proofs.Ytiejnmbpejfpgaa
open Go.RowKit Go.ChangeShapes Go.WideShapes Go.ChangeAt
set_option linter.unusedVariables false
end Go.Proofs.Ytiejnmbpejfpgaa
