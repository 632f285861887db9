/- Plain arithmetic of numbers that go round at 2^32: no program in sight. -/
import Derived.Test.YtcioklhpbmjeeaaKit
namespace Go.Proofs.Ytcioklhpbmjeeaa
open Go.RowKit
set_option linter.unusedVariables false

def sAdd (a n : Int) : Int := (a + n) % 4294967296
def sDiff (a b : Int) : Int := (a - b + 2147483648) % 4294967296 - 2147483648
def sLess (a b : Int) : Bool := decide (sDiff a b < 0)
def sMax (a b : Int) : Int := if sDiff a b < 0 then b else a
def sIn (a f n : Int) : Bool := decide (0 < n ∧ (a - f) % 4294967296 < n)
def sFits (a n f w : Int) : Bool :=
  if n ≤ 0 then (if w ≤ 0 then decide (a = f) else sIn a f w)
  else if w ≤ 0 then false else sIn a f w || sIn (sAdd a (n - 1)) f w || sIn f a n

theorem sAdd_bd (a n : Int) : 0 ≤ sAdd a n ∧ sAdd a n ≤ 4294967295 := by unfold sAdd; omega
theorem sDiff_bd (a b : Int) : -2147483648 ≤ sDiff a b ∧ sDiff a b ≤ 2147483647 := by unfold sDiff; omega
theorem sMax_bd (a b : Int) (ha : 0 ≤ a ∧ a ≤ 4294967295) (hb : 0 ≤ b ∧ b ≤ 4294967295) : 0 ≤ sMax a b ∧ sMax a b ≤ 4294967295 := by
  unfold sMax; split <;> omega

theorem sAdd_walk (a n : Int) : (a + n % 4294967296) % 4294967296 = sAdd a n := by unfold sAdd; omega
theorem sDiff_walk (a b : Int) : wrap64 (wrap32 ((a - b) % 4294967296)) = sDiff a b := by
  unfold wrap64 wrap32 sDiff; omega

theorem sIn_true {a f n : Int} : sIn a f n = true ↔ 0 < n ∧ (a - f) % 4294967296 < n := by simp [sIn]
theorem sIn_eq (a f n : Int) (h : 0 < n) : decide ((a - f) % 4294967296 < n) = sIn a f n := by simp [sIn, h]

/-- The reference's window test, place by place, is the code's. -/
theorem sFits_ref (a n f w : Int) (hn : 0 < n) (hw : 0 < w) :
    sFits a n f w = (decide ((a - f) % 4294967296 < w) || decide (4294967296 < (a - f) % 4294967296 + min n 4294967296)) := by
  rw [Bool.eq_iff_iff]
  simp only [sFits, sIn, sAdd, Bool.or_eq_true, decide_eq_true_eq, if_neg (show ¬ n ≤ 0 by omega), if_neg (show ¬ w ≤ 0 by omega)]
  constructor
  · rintro ((h | h) | h)
    · exact .inl h.2
    · have := of_decide_eq_true h; omega
    · omega
  · intro h
    by_cases h1 : (a - f) % 4294967296 < w
    · exact .inl (.inl ⟨hw, h1⟩)
    · exact .inr ⟨hn, by omega⟩
theorem sFits_two (a n f w : Int) (hn : 0 < n) (hw : 0 < w) : sFits a n f w = (sIn a f w || sIn f a n) := by
  unfold sFits
  rw [if_neg (by omega), if_neg (by omega)]
  cases h1 : sIn a f w <;> cases h2 : sIn f a n <;> simp
  rw [Bool.eq_false_iff] at *
  intro h
  rw [ne_eq, sIn_true] at h1 h2
  have := sIn_true.1 h
  unfold sAdd at this
  omega
theorem sFits_comm (a n f w : Int) (hn : 0 < n) (hw : 0 < w) : sFits a n f w = sFits f w a n := by
  rw [sFits_two a n f w hn hw, sFits_two f w a n hw hn, Bool.or_comm]

theorem mv_diff (a b y : Int) : sDiff ((a + y) % 4294967296) ((b + y) % 4294967296) = sDiff a b := by unfold sDiff; omega
theorem mv_less (a b y : Int) : sLess ((a + y) % 4294967296) ((b + y) % 4294967296) = sLess a b := by unfold sLess; rw [mv_diff]
theorem mv_max (a b y : Int) : sMax ((a + y) % 4294967296) ((b + y) % 4294967296) = (sMax a b + y) % 4294967296 := by
  unfold sMax; rw [mv_diff]; split <;> rfl
theorem mv_in (a b y n : Int) : sIn ((a + y) % 4294967296) ((b + y) % 4294967296) n = sIn a b n := by
  unfold sIn; rw [show ((a + y) % 4294967296 - (b + y) % 4294967296) % 4294967296 = (a - b) % 4294967296 by omega]
theorem mv_fits (a b y n m : Int) (ha : 0 ≤ a ∧ a ≤ 4294967295) (hb : 0 ≤ b ∧ b ≤ 4294967295) : sFits ((a + y) % 4294967296) n ((b + y) % 4294967296) m = sFits a n b m := by
  have h1 := mv_in (sAdd a (n - 1)) b y m
  unfold sFits
  rw [mv_in, mv_in, show sAdd ((a + y) % 4294967296) (n - 1) = (sAdd a (n - 1) + y) % 4294967296 by unfold sAdd; omega, h1]
  rw [show decide ((a + y) % 4294967296 = (b + y) % 4294967296) = decide (a = b) by rw [decide_eq_decide]; omega]


/-- Is one of the first k numbers from a on in the window? -/
def tch (a f w : Int) : Nat → Bool
  | 0 => false
  | k + 1 => tch a f w k || sIn (sAdd a k) f w

theorem tch_iff (a f w : Int) : ∀ k, tch a f w k = true ↔ ∃ i : Nat, i < k ∧ sIn (sAdd a i) f w = true
  | 0 => by simp [tch]
  | k + 1 => by
    simp only [tch, Bool.or_eq_true, tch_iff a f w k]
    constructor
    · rintro (⟨i, h, hi⟩ | h)
      · exact ⟨i, by omega, hi⟩
      · exact ⟨k, by omega, h⟩
    · rintro ⟨i, h, hi⟩
      by_cases hk : i = k
      · subst hk; exact .inr hi
      · exact .inl ⟨i, by omega, hi⟩

theorem tch_fits (a f w : Int) (n : Nat) (hn : 0 < n) (hn2 : n ≤ 255) (hw : 0 ≤ w ∧ w ≤ 255) : sFits a n f w = tch a f w n := by
  rw [Bool.eq_iff_iff, tch_iff]
  by_cases h0 : w = 0
  · subst h0
    simp [sFits, sIn]; omega
  · rw [sFits_two a n f w (by omega) (by omega), Bool.or_eq_true, sIn_true, sIn_true]
    constructor
    · rintro (h | h)
      · exact ⟨0, hn, by rw [sIn_true]; unfold sAdd; omega⟩
      · exact ⟨((f - a) % 4294967296).toNat, by omega, by rw [sIn_true]; unfold sAdd; omega⟩
    · rintro ⟨i, hi, h⟩
      rw [sIn_true] at h
      unfold sAdd at h
      omega

theorem tch_zero (a f w : Int) (ha : 0 ≤ a ∧ a ≤ 4294967295) (hf : 0 ≤ f ∧ f ≤ 4294967295) (hw : 0 ≤ w) : sFits a 0 f w = (sIn a f w || (w == 0 && a == f)) := by
  rw [Bool.eq_iff_iff]
  by_cases h0 : w = 0
  · subst h0; simp [sFits, sIn]
  · have h1 : ¬ w ≤ 0 := by omega
    simp [sFits, h0, h1]

end Go.Proofs.Ytcioklhpbmjeeaa
