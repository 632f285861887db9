/- A contract on abstract values, told of the program's values. -/
import Derived.Test.YtbkekpecfgmelaaAx30
import Derived.Test.YtbkekpecfgmelaaOpen
namespace Go.Proofs.Ytbkekpecfgmelaa
open Go.RowKit Go.ChangeShapes Go.WideShapes Go.ChangeAt
set_option linter.unusedVariables false
end Go.Proofs.Ytbkekpecfgmelaa
