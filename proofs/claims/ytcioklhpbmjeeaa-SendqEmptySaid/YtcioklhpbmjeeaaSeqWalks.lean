/- Each function of the numbers' chapter, and of its reference, returns what the plain arithmetic says, and leaves memory as it was. -/
import Derived.Test.YtcioklhpbmjeeaaProg
import Derived.Test.YtcioklhpbmjeeaaSeqFns
namespace Go.Proofs.Ytcioklhpbmjeeaa
open Go.RowKit

theorem seqAdd_any (a n : Int) (w : World) (ha : 0 ≤ a ∧ a ≤ 4294967295) (hn : -9223372036854775808 ≤ n ∧ n ≤ 9223372036854775807) :
    Calls Try.prog 25 #[.int .u32 a, .int .i64 n] w fun e w' => e = .returned (.int .u32 (sAdd a n)) ∧ w = w' := by
  obtain ⟨h1, h2⟩ := ha
  obtain ⟨h3, h4⟩ := hn
  go_enter Try.func25, Try.ntmps25
  go_wp2
  go_ret
  exact ⟨by simp [sAdd], rfl⟩

theorem seqDiff_any (a b : Int) (w : World) (ha : 0 ≤ a ∧ a ≤ 4294967295) (hb : 0 ≤ b ∧ b ≤ 4294967295) :
    Calls Try.prog 27 #[.int .u32 a, .int .u32 b] w fun e w' => e = .returned (.int .i64 (sDiff a b)) ∧ w = w' := by
  obtain ⟨h1, h2⟩ := ha
  obtain ⟨h3, h4⟩ := hb
  go_enter Try.func27, Try.ntmps27
  go_wp2
  go_ret
  exact ⟨by simp [sDiff_walk], rfl⟩

theorem refMod_any (n : Int) (w : World) (hn : -9223372036854775808 ≤ n ∧ n ≤ 9223372036854775807) :
    Calls Try.prog 34 #[.int .i64 n] w fun e w' => e = .returned (.int .i64 (n % 4294967296)) ∧ w = w' := by
  obtain ⟨h5, h6⟩ := hn
  have hb := tmod_bd n 4294967296 (by omega)
  have he := Int.mul_tdiv_add_tmod n 4294967296
  go_enter Try.func34, Try.ntmps34
  go_wp2
  all_goals go_ret
  all_goals exact ⟨ret_int (by omega), rfl⟩

theorem refAdd_any (a n : Int) (w : World) (ha : 0 ≤ a ∧ a ≤ 4294967295) (hn : -9223372036854775808 ≤ n ∧ n ≤ 9223372036854775807) :
    Calls Try.prog 32 #[.int .u32 a, .int .i64 n] w fun e w' => e = .returned (.int .u32 (sAdd a n)) ∧ w = w' := by
  obtain ⟨h1, h2⟩ := ha
  obtain ⟨h5, h6⟩ := hn
  have hb := tmod_bd n 4294967296 (by omega)
  have he := Int.mul_tdiv_add_tmod n 4294967296
  go_enter Try.func32, Try.ntmps32
  go_wp2_with (go_at_call 34; refine (refMod_any _ _ (by omega)).mono ?_; rintro e w' ⟨rfl, rfl⟩)
  go_ret
  exact ⟨ret_int (by simp [sAdd]; omega), rfl⟩

theorem refDiff_any (a b : Int) (w : World) (ha : 0 ≤ a ∧ a ≤ 4294967295) (hb : 0 ≤ b ∧ b ≤ 4294967295) :
    Calls Try.prog 33 #[.int .u32 a, .int .u32 b] w fun e w' => e = .returned (.int .i64 (sDiff a b)) ∧ w = w' := by
  obtain ⟨h1, h2⟩ := ha
  obtain ⟨h3, h4⟩ := hb
  go_enter Try.func33, Try.ntmps33
  go_wp2_with (go_at_call 34; refine (refMod_any _ _ (by omega)).mono ?_; rintro e w' ⟨rfl, rfl⟩)
  all_goals go_ret
  all_goals exact ⟨ret_int (by simp [sDiff]; omega), rfl⟩

end Go.Proofs.Ytcioklhpbmjeeaa
