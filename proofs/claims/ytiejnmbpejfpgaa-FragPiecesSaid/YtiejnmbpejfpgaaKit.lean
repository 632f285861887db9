/- Small helpers for walks, for every program: endings from equations of what they hold. -/
import Derived.WalkKit
namespace Go.Proofs.Ytiejnmbpejfpgaa
open Go.RowKit

theorem hid {p : Prop} (h : p) : Hid p := h
theorem ret_int {k : IntKind} {a b : Int} (h : a = b) : Ending.returned (.int k a) = .returned (.int k b) := by rw [h]
theorem ret_bool {a b : Bool} (h : a = b) : Ending.returned (.bool a) = .returned (.bool b) := by rw [h]

theorem tmod_pos (n m : Int) (h : 0 ≤ n) : n.tmod m = n % m := Int.tmod_eq_emod_of_nonneg h
theorem tmod_bd (n m : Int) (hm : 0 < m) : -m < n.tmod m ∧ n.tmod m < m ∧ (0 ≤ n → 0 ≤ n.tmod m) ∧ (n ≤ 0 → n.tmod m ≤ 0) := by
  rcases Int.lt_or_le n 0 with h | h
  · have h3 : n.tmod m = -((-n).tmod m) := by rw [Int.neg_tmod, Int.neg_neg]
    have h2 := Int.tmod_nonneg m (show 0 ≤ -n by omega)
    have h4 := Int.tmod_lt_of_pos (-n) hm
    omega
  · have h1 := Int.tmod_nonneg m h
    have h2 := Int.tmod_lt_of_pos n hm
    refine ⟨by omega, h2, fun _ => h1, fun h0 => ?_⟩
    have : n = 0 := by omega
    subst this
    simp
end Go.Proofs.Ytiejnmbpejfpgaa
