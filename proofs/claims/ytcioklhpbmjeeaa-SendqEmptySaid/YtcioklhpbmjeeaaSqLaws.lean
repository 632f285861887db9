/- The laws' walks, as the rows want them. -/
import Derived.Test.YtcioklhpbmjeeaaSendqEmpty
namespace Go.Proofs.Ytcioklhpbmjeeaa
open Go.RowKit Go.ChangeShapes Go.WideShapes
set_option linter.unusedVariables false

theorem open_ops' {H : Type} {enc : TypeId × Value → H} {r : Reach} {b0 base : Nat} {spare : Nat → Bool} {held : Bool} {d : DataW H} {p : List MemPlace} {v : Value} {w : World}
    (hv : Value.okWide Try.prog w r b0 28 v) (k : DataW.Trod enc Try.prog w base spare held 28 v d p) : ∃ a n c l, v = .slice a n c ∧ Ops w a n c l :=
  open_ops (Rd.of_trod k) (fun cs hc => by
    subst hc
    obtain ⟨_, _, _, h⟩ := okWide_slice Try.underlying28 hv
    cases h)

theorem SendqEmpty_walk {H : Type} {enc : TypeId × Value → H} {r : Reach} {b0 base : Nat} {spare : Nat → Bool} {held : Bool} {d : DataW H} {p : List MemPlace} (una : Int) (v : Value) (w : World) (hu : 0 ≤ una ∧ una ≤ 4294967295)
    (hv : Value.okWide Try.prog w r b0 28 v) (k : DataW.Trod enc Try.prog w base spare held 28 v d p) :
    Calls Try.prog 7 #[.int .u32 una, v] w fun e w' => e = .returned (.bool true) ∧ Below w.heap.size w w' := by
  obtain ⟨a, n, c, l, rfl, h⟩ := open_ops' hv k
  exact SendqEmpty_ops una a n c l w hu h
end Go.Proofs.Ytcioklhpbmjeeaa
