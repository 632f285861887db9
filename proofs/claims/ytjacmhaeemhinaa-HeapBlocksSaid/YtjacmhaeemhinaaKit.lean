/- Small helpers for walks, for every program: endings from equations of what they hold. -/
import Derived.WalkKit
namespace Go.Proofs.Ytjacmhaeemhinaa
open Go.RowKit

theorem hid {p : Prop} (h : p) : Hid p := h
end Go.Proofs.Ytjacmhaeemhinaa
