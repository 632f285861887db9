/- Arguments, opened: what a law's walk is told of each argument that came in. -/
import Derived.ProofKit
import Derived.OpenShut
import Derived.ChangeOld
import Derived.Deep.Draws
import Derived.Test.YtjacmhaeemhinaaKit
namespace Go.Proofs.Ytjacmhaeemhinaa
open Go.ChangeShapes Go.WideShapes Go.ChangeAt Go.RowKit

section
variable {H : Type} {enc : TypeId × Value → H} {P : Program} {w : World} {base : Nat} {spare : Nat → Bool} {held : Bool}

end
end Go.Proofs.Ytjacmhaeemhinaa
