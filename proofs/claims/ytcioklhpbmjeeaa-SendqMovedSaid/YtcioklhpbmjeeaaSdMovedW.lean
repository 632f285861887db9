/- SendqMoved: the walk, told of the program's values. -/
import Derived.Test.YtcioklhpbmjeeaaSdMoved
import Derived.Test.YtcioklhpbmjeeaaAxC
namespace Go.Proofs.Ytcioklhpbmjeeaa
open Go.RowKit
set_option linter.unusedVariables false
theorem SendqMoved_walk {r : Reach} {b0 base : Nat} {H : Type} {enc : TypeId × Value → H} {spare : Nat → Bool} {held : Bool} {d : DataW H} {p : List MemPlace} (a b : Int) (v : Value) (W : World) (ha : 0 ≤ a ∧ a ≤ 4294967295) (hb : 0 ≤ b ∧ b ≤ 4294967295) (hv : Value.okWide Try.prog W r b0 28 v) (k : DataW.Trod enc Try.prog W base spare held 28 v d p) :
    Calls Try.prog 4 #[.int .u32 a, .int .u32 b, v] W fun e W' => e = .returned (.bool true) ∧ Below W.heap.size W W' := by
  obtain ⟨l, hr, hl, hq⟩ := ops_arg hv k
  exact acall_lawF (sendqMoved_ok a b ha hb l (len_le hl) hq) W [_, _, _] ⟨.pure _ _ (.int _ _), .pure _ _ (.int _ _), .pure _ _ hr, trivial⟩
end Go.Proofs.Ytcioklhpbmjeeaa
