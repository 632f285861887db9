/- A contract on abstract values, told of the program's values. -/
import Derived.Test.YtjacmhaeemhinaaAx30
import Derived.Test.YtjacmhaeemhinaaOpen
namespace Go.Proofs.Ytjacmhaeemhinaa
open Go.RowKit Go.ChangeShapes Go.WideShapes Go.ChangeAt
set_option linter.unusedVariables false
end Go.Proofs.Ytjacmhaeemhinaa
