/- Chapter 3's laws, walked: each returns true and leaves what was there as it was. -/
import Derived.Test.YtjbmmgdjgcfagaaSeqWalks
import Derived.Test.YtjbmmgdjgcfagaaOpen
import Derived.Deep.QuietTactic
import Derived.BigQuiet
namespace Go.Proofs.Ytjbmmgdjgcfagaa
open Go.RowKit
set_option linter.unusedVariables false

theorem lives_any (w : World) :
    Calls Try.prog 10 #[] w fun e w' => e = .returned (.bool true) ∧ w = w' := by
  go_enter Try.func10, Try.ntmps10
  go_wp2
  go_ret
  exact ⟨rfl, rfl⟩

theorem two_of {l : List Int} (h : l.length = 2) : ∃ x y, l = [x, y] := by
  match l, h with
  | [x, y], _ => exact ⟨x, y, rfl⟩

theorem SeqWindows_walk (a b : Int) (l : List Int) (w : World) (ha : 0 ≤ a ∧ a ≤ 4294967295) (hb : 0 ≤ b ∧ b ≤ 4294967295) (hl : l.length = 2) (hw : ∀ x ∈ l, (Lit.int .i64 x).wf = true) :
    Calls Try.prog 3 #[.int .u32 a, .int .u32 b, .agg (l.map (Value.int .i64)).toArray] w fun e w' => e = .returned (.bool true) ∧ Below w.heap.size w w' := by
  obtain ⟨n, m, rfl⟩ := two_of hl
  have hn := bounds_i64 (hw n (by simp))
  have hm := bounds_i64 (hw m (by simp))
  clear hw hl
  simp only [List.map_cons, List.map_nil]
  go_enter Try.func3, Try.ntmps3
  go_wp2
  go_quiet (fail)
  go_wp2_with (first
      | (go_at_call 10; refine (lives_any _).mono ?_; rintro e w' ⟨rfl, rfl⟩)
      | (go_at_call 11; refine (seqIn_any _ _ _ _ (by omega) (by omega) (by omega)).mono ?_; rintro e w' ⟨rfl, rfl⟩)
      | (go_at_call 12; refine (refIn_any _ _ _ _ (by omega) (by omega) (by omega)).mono ?_; rintro e w' ⟨rfl, rfl⟩)
      | (go_at_call 13; refine (seqFits_any _ _ _ _ _ (by omega) (by omega) (by omega) (by omega)).mono ?_; rintro e w' ⟨rfl, rfl⟩)
      | (go_at_call 14; refine (refFits_any _ _ _ _ _ (by omega) (by omega) (by omega) (by omega)).mono ?_; rintro e w' ⟨rfl, rfl⟩))
  go_ret
  exact ⟨rfl, below_drewN ((Below.refl _ _).alloc (Nat.le_refl _) _) _⟩

theorem SeqNumbers_walk (a b n : Int) (w : World) (ha : 0 ≤ a ∧ a ≤ 4294967295) (hb : 0 ≤ b ∧ b ≤ 4294967295) (hn : -9223372036854775808 ≤ n ∧ n ≤ 9223372036854775807) :
    Calls Try.prog 7 #[.int .u32 a, .int .u32 b, .int .i64 n] w fun e w' => e = .returned (.bool true) ∧ Below w.heap.size w w' := by
  have hd := sDiff_bd a b
  by_cases h : sDiff a b < 0
  · obtain ⟨m, hm⟩ : ∃ m, sMax a b = m := ⟨_, rfl⟩
    have hmb : m = b := by rw [← hm]; simp [sMax, h]
    subst hmb
    have hl : sLess a m = true := by simp [sLess, h]
    go_enter Try.func7, Try.ntmps7
    go_wp2_with (first
        | (go_at_call 10; refine (lives_any _).mono ?_; rintro e w' ⟨rfl, rfl⟩)
        | (go_at_call 15; refine (seqAdd_any _ _ _ (by omega) (by omega)).mono ?_; rintro e w' ⟨rfl, rfl⟩)
        | (go_at_call 19; refine (refAdd_any _ _ _ (by omega) (by omega)).mono ?_; rintro e w' ⟨rfl, rfl⟩)
        | (go_at_call 16; refine (seqDiff_any _ _ _ (by omega) (by omega)).mono ?_; rintro e w' ⟨rfl, rfl⟩)
        | (go_at_call 18; refine (refDiff_any _ _ _ (by omega) (by omega)).mono ?_; rintro e w' ⟨rfl, rfl⟩)
        | (go_at_call 17; refine (seqLess_any _ _ _ (by omega) (by omega)).mono ?_; rintro e w' ⟨rfl, rfl⟩)
        | (go_at_call 20; refine (seqMax_any _ _ _ (by omega) (by omega)).mono ?_; rintro e w' ⟨rfl, rfl⟩))
    go_ret
    exact ⟨rfl, Below.refl _ _⟩
  · obtain ⟨m, hm⟩ : ∃ m, sMax a b = m := ⟨_, rfl⟩
    have hmb : m = a := by rw [← hm]; simp [sMax, h]
    subst hmb
    have hl : sLess m b = false := by simp [sLess]; omega
    have hq : decide (sDiff m b < 0) = false := by simpa using h
    go_enter Try.func7, Try.ntmps7
    go_wp2_with (first
        | (go_at_call 10; refine (lives_any _).mono ?_; rintro e w' ⟨rfl, rfl⟩)
        | (go_at_call 15; refine (seqAdd_any _ _ _ (by omega) (by omega)).mono ?_; rintro e w' ⟨rfl, rfl⟩)
        | (go_at_call 19; refine (refAdd_any _ _ _ (by omega) (by omega)).mono ?_; rintro e w' ⟨rfl, rfl⟩)
        | (go_at_call 16; refine (seqDiff_any _ _ _ (by omega) (by omega)).mono ?_; rintro e w' ⟨rfl, rfl⟩)
        | (go_at_call 18; refine (refDiff_any _ _ _ (by omega) (by omega)).mono ?_; rintro e w' ⟨rfl, rfl⟩)
        | (go_at_call 17; refine (seqLess_any _ _ _ (by omega) (by omega)).mono ?_; rintro e w' ⟨rfl, rfl⟩)
        | (go_at_call 20; refine (seqMax_any _ _ _ (by omega) (by omega)).mono ?_; rintro e w' ⟨rfl, rfl⟩))
    go_ret
    exact ⟨rfl, Below.refl _ _⟩

theorem SeqMax_walk (a b : Int) (w : World) (ha : 0 ≤ a ∧ a ≤ 4294967295) (hb : 0 ≤ b ∧ b ≤ 4294967295) :
    Calls Try.prog 9 #[.int .u32 a, .int .u32 b] w fun e w' => e = .returned (.bool true) ∧ Below w.heap.size w w' := by
  have hd := sDiff_bd a b
  by_cases hx : (a - b) % 4294967296 = 2147483648
  · have hq : ((a - b) % 4294967296 == 2147483648) = true := by simpa using hx
    have h1 : sMax a b = b := by unfold sMax sDiff; rw [if_pos (by omega)]
    have h2 : sMax b a = a := by unfold sMax sDiff; rw [if_pos (by omega)]
    clear hx
    go_enter Try.func9, Try.ntmps9
    go_wp2_with (first
        | (go_at_call 10; refine (lives_any _).mono ?_; rintro e w' ⟨rfl, rfl⟩)
        | (go_at_call 20; refine (seqMax_any _ _ _ (by omega) (by omega)).mono ?_; rintro e w' ⟨rfl, rfl⟩))
    go_ret
    exact ⟨rfl, Below.refl _ _⟩
  · have hq : ((a - b) % 4294967296 == 2147483648) = false := by simpa using hx
    by_cases h : sDiff a b < 0
    · have h1 : sMax a b = b := by simp [sMax, h]
      have h2 : sMax b a = b := by unfold sMax; rw [if_neg]; unfold sDiff at *; omega
      have h3 : sLess b a = false := by unfold sLess sDiff at *; simp; omega
      have h4 : sLess b b = false := by unfold sLess sDiff; simp
      clear hx
      by_cases hab : b = a
      · subst hab
        go_enter Try.func9, Try.ntmps9
        go_wp2_with (first
            | (go_at_call 10; refine (lives_any _).mono ?_; rintro e w' ⟨rfl, rfl⟩)
            | (go_at_call 17; refine (seqLess_any _ _ _ (by omega) (by omega)).mono ?_; rintro e w' ⟨rfl, rfl⟩)
            | (go_at_call 20; refine (seqMax_any _ _ _ (by omega) (by omega)).mono ?_; rintro e w' ⟨rfl, rfl⟩))
        go_ret
        exact ⟨rfl, Below.refl _ _⟩
      · have hab' : (b == a) = false := by simpa using hab
        go_enter Try.func9, Try.ntmps9
        go_wp2_with (first
            | (go_at_call 10; refine (lives_any _).mono ?_; rintro e w' ⟨rfl, rfl⟩)
            | (go_at_call 17; refine (seqLess_any _ _ _ (by omega) (by omega)).mono ?_; rintro e w' ⟨rfl, rfl⟩)
            | (go_at_call 20; refine (seqMax_any _ _ _ (by omega) (by omega)).mono ?_; rintro e w' ⟨rfl, rfl⟩))
        go_ret
        exact ⟨rfl, Below.refl _ _⟩
    · have h1 : sMax a b = a := by simp [sMax, h]
      have h2 : sMax b a = a := by
        unfold sMax
        by_cases h5 : sDiff b a < 0
        · rw [if_pos h5]
        · rw [if_neg h5]; unfold sDiff at *; omega
      have h3 : sLess a b = false := by unfold sLess; simp; omega
      have h4 : sLess a a = false := by unfold sLess sDiff; simp
      clear hx
      go_enter Try.func9, Try.ntmps9
      go_wp2_with (first
          | (go_at_call 10; refine (lives_any _).mono ?_; rintro e w' ⟨rfl, rfl⟩)
          | (go_at_call 17; refine (seqLess_any _ _ _ (by omega) (by omega)).mono ?_; rintro e w' ⟨rfl, rfl⟩)
          | (go_at_call 20; refine (seqMax_any _ _ _ (by omega) (by omega)).mono ?_; rintro e w' ⟨rfl, rfl⟩))
      go_ret
      exact ⟨rfl, Below.refl _ _⟩

theorem u64_wrap (n : Int) : IntKind.u64.wrap n = n % 18446744073709551616 := by
  unfold IntKind.wrap IntKind.bits IntKind.signed; rfl
theorem wrap64_of {n : Int} (h : -9223372036854775808 ≤ n ∧ n ≤ 9223372036854775807) : wrap64 n = n := by unfold wrap64; omega
set_option maxHeartbeats 2000000 in
theorem SeqMoved_walk (a b : Int) (l : List Int) (w : World) (ha : 0 ≤ a ∧ a ≤ 4294967295) (hb : 0 ≤ b ∧ b ≤ 4294967295) (hl : l.length = 2) (hw : ∀ x ∈ l, (Lit.int .i64 x).wf = true) :
    Calls Try.prog 8 #[.int .u32 a, .int .u32 b, .agg (l.map (Value.int .i64)).toArray] w fun e w' => e = .returned (.bool true) ∧ Below w.heap.size w w' := by
  obtain ⟨x, n, rfl⟩ := two_of hl
  have hx := bounds_i64 (hw x (by simp))
  have hn := bounds_i64 (hw n (by simp))
  clear hw hl
  simp only [List.map_cons, List.map_nil]
  obtain ⟨y, hy⟩ : ∃ y, x % 4294967296 = y := ⟨_, rfl⟩
  have e1 := mv_diff a b y
  have e2 := mv_less a b y
  have e3 := mv_max a b y
  have e4 := mv_in a b y n
  have e5 := mv_fits a b y n (n.tdiv 2) ha hb
  obtain ⟨p, hp⟩ : ∃ p, (a + y) % 4294967296 = p := ⟨_, rfl⟩
  obtain ⟨q, hq⟩ : ∃ q, (b + y) % 4294967296 = q := ⟨_, rfl⟩
  obtain ⟨r, hr⟩ : ∃ r, (sMax a b + y) % 4294967296 = r := ⟨_, rfl⟩
  have hh : -9223372036854775808 ≤ n.tdiv 2 ∧ n.tdiv 2 ≤ 9223372036854775807 := by have := Int.mul_tdiv_add_tmod n 2; have := tmod_bd n 2 (by omega); omega
  have hw := wrap64_of hh
  obtain ⟨h, eh⟩ : ∃ h, n.tdiv 2 = h := ⟨_, rfl⟩
  have hpb : 0 ≤ p ∧ p ≤ 4294967295 := by omega
  have hqb : 0 ≤ q ∧ q ≤ 4294967295 := by omega
  have hyb : 0 ≤ y ∧ y ≤ 4294967295 := by omega
  have hrb : 0 ≤ r ∧ r ≤ 4294967295 := by omega
  rw [hp, hq] at e1 e2 e3 e4 e5
  rw [hr] at e3
  rw [eh] at hh hw e5
  have C1 : ∀ w, Calls Try.prog 16 #[.int .u32 p, .int .u32 q] w fun e w' => e = .returned (.int .i64 (sDiff a b)) ∧ w = w' := fun w => e1 ▸ seqDiff_any p q w hpb hqb
  have C2 : ∀ w, Calls Try.prog 17 #[.int .u32 p, .int .u32 q] w fun e w' => e = .returned (.bool (sLess a b)) ∧ w = w' := fun w => e2 ▸ seqLess_any p q w hpb hqb
  have C3 : ∀ w, Calls Try.prog 20 #[.int .u32 p, .int .u32 q] w fun e w' => e = .returned (.int .u32 r) ∧ w = w' := fun w => e3 ▸ seqMax_any p q w hpb hqb
  have C4 : ∀ w, Calls Try.prog 11 #[.int .u32 p, .int .u32 q, .int .i64 n] w fun e w' => e = .returned (.bool (sIn a b n)) ∧ w = w' := fun w => e4 ▸ seqIn_any p q n w hpb hqb hn
  have C5 : ∀ w, Calls Try.prog 13 #[.int .u32 p, .int .i64 n, .int .u32 q, .int .i64 h] w fun e w' => e = .returned (.bool (sFits a n b h)) ∧ w = w' := fun w => e5 ▸ seqFits_any p n q h w hpb hqb hn hh
  have D1 := hid C1
  have D2 := hid C2
  have D3 := hid C3
  have D4 := hid C4
  have D5 := hid C5
  clear C1 C2 C3 C4 C5 e1 e2 e3 e4 e5
  go_enter Try.func8, Try.ntmps8
  go_wp2
  go_quiet (fail)
  go_wp2_with (first
    | (go_at_call 10; refine (lives_any _).mono ?_; rintro e w' ⟨rfl, rfl⟩)
    | (go_at_call 16; with_reducible refine (D1.out _).mono ?_; rintro e w' ⟨rfl, rfl⟩)
    | (go_at_call 16; refine (seqDiff_any a b _ ha hb).mono ?_; rintro e w' ⟨rfl, rfl⟩)
    | (go_at_call 17; with_reducible refine (D2.out _).mono ?_; rintro e w' ⟨rfl, rfl⟩)
    | (go_at_call 17; refine (seqLess_any a b _ ha hb).mono ?_; rintro e w' ⟨rfl, rfl⟩)
    | (go_at_call 20; with_reducible refine (D3.out _).mono ?_; rintro e w' ⟨rfl, rfl⟩)
    | (go_at_call 20; refine (seqMax_any a b _ ha hb).mono ?_; rintro e w' ⟨rfl, rfl⟩)
    | (go_at_call 11; with_reducible refine (D4.out _).mono ?_; rintro e w' ⟨rfl, rfl⟩)
    | (go_at_call 11; refine (seqIn_any a b n _ ha hb hn).mono ?_; rintro e w' ⟨rfl, rfl⟩)
    | (go_at_call 13; with_reducible refine (D5.out _).mono ?_; rintro e w' ⟨rfl, rfl⟩)
    | (go_at_call 13; refine (seqFits_any a n b h _ ha hb hn hh).mono ?_; rintro e w' ⟨rfl, rfl⟩))
  go_ret
  exact ⟨rfl, below_drewN ((Below.refl _ _).alloc (Nat.le_refl _) _) _⟩

theorem SeqBack_walk (a n i : Int) (w : World) (ha : 0 ≤ a ∧ a ≤ 4294967295) (_hn : -9223372036854775808 ≤ n ∧ n ≤ 9223372036854775807) (_hi : -9223372036854775808 ≤ i ∧ i ≤ 9223372036854775807) :
    Calls Try.prog 5 #[.int .u32 a, .int .i64 n, .int .i64 i] w fun e w' => e = .returned (.bool true) ∧ Below w.heap.size w w' := by
  obtain ⟨m, hm⟩ : ∃ m, wrap64 (wrap32 n) = m := ⟨_, rfl⟩
  have hmb : -2147483648 ≤ m ∧ m ≤ 2147483647 := by rw [← hm]; unfold wrap64 wrap32; omega
  obtain ⟨b, hb⟩ : ∃ b, sAdd a m = b := ⟨_, rfl⟩
  have hbb : 0 ≤ b ∧ b ≤ 4294967295 := by rw [← hb]; exact sAdd_bd a m
  have C1 : ∀ w, Calls Try.prog 15 #[.int .u32 a, .int .i64 m] w fun e w' => e = .returned (.int .u32 b) ∧ w = w' := fun w => hb ▸ seqAdd_any a m w ha (by omega)
  obtain ⟨k, hk⟩ : ∃ k, wrap64 ((IntKind.u64.wrap i).tmod 1048576) = k := ⟨_, rfl⟩
  have hkb : 0 ≤ k ∧ k ≤ 1048575 := by
    rw [← hk, u64_wrap]
    have h1 := tmod_bd (i % 18446744073709551616) 1048576 (by omega)
    have h2 := h1.2.2.1 (by omega)
    rw [wrap64_of (by omega)]
    omega
  obtain ⟨c, hc⟩ : ∃ c, sAdd a k = c := ⟨_, rfl⟩
  have hcb : 0 ≤ c ∧ c ≤ 4294967295 := by rw [← hc]; exact sAdd_bd a k
  obtain ⟨d, hd⟩ : ∃ d, sAdd a (-1) = d := ⟨_, rfl⟩
  have hdb : 0 ≤ d ∧ d ≤ 4294967295 := by rw [← hd]; exact sAdd_bd a (-1)
  have f2 : sAdd b (-m) = a := by rw [← hb]; unfold sAdd; omega
  have f3 : sDiff b a = m := by rw [← hb]; unfold sDiff sAdd; omega
  have f4 : sIn c a (k + 1) = true := by rw [sIn_true, ← hc]; unfold sAdd; omega
  have f5 : sIn c a k = false := by rw [Bool.eq_false_iff, ne_eq, sIn_true, ← hc]; unfold sAdd; omega
  have f6 : sIn d a k = false := by rw [Bool.eq_false_iff, ne_eq, sIn_true, ← hd]; unfold sAdd; omega
  have C2 : ∀ w, Calls Try.prog 15 #[.int .u32 b, .int .i64 (-m)] w fun e w' => e = .returned (.int .u32 a) ∧ w = w' := fun w => by have := seqAdd_any b (-m) w hbb (by omega); rw [f2] at this; exact this
  have C3 : ∀ w, Calls Try.prog 16 #[.int .u32 b, .int .u32 a] w fun e w' => e = .returned (.int .i64 m) ∧ w = w' := fun w => by have := seqDiff_any b a w hbb ha; rw [f3] at this; exact this
  have C4 : ∀ w, Calls Try.prog 15 #[.int .u32 a, .int .i64 k] w fun e w' => e = .returned (.int .u32 c) ∧ w = w' := fun w => by have := seqAdd_any a k w ha (by omega); rw [hc] at this; exact this
  have C5 : ∀ w, Calls Try.prog 11 #[.int .u32 c, .int .u32 a, .int .i64 (k + 1)] w fun e w' => e = .returned (.bool true) ∧ w = w' := fun w => by have := seqIn_any c a (k + 1) w hcb ha (by omega); rw [f4] at this; exact this
  have C6 : ∀ w, Calls Try.prog 11 #[.int .u32 c, .int .u32 a, .int .i64 k] w fun e w' => e = .returned (.bool false) ∧ w = w' := fun w => by have := seqIn_any c a k w hcb ha (by omega); rw [f5] at this; exact this
  have C7 : ∀ w, Calls Try.prog 15 #[.int .u32 a, .int .i64 (-1)] w fun e w' => e = .returned (.int .u32 d) ∧ w = w' := fun w => by have := seqAdd_any a (-1) w ha (by omega); rw [hd] at this; exact this
  have C8 : ∀ w, Calls Try.prog 11 #[.int .u32 d, .int .u32 a, .int .i64 k] w fun e w' => e = .returned (.bool false) ∧ w = w' := fun w => by have := seqIn_any d a k w hdb ha (by omega); rw [f6] at this; exact this
  have D1 := hid C1
  have D2 := hid C2
  have D3 := hid C3
  have D4 := hid C4
  have D5 := hid C5
  have D6 := hid C6
  have D7 := hid C7
  have D8 := hid C8
  clear C1 C2 C3 C4 C5 C6 C7 C8 f2 f3 f4 f5 f6 hb hc hd
  go_enter Try.func5, Try.ntmps5
  go_wp2_with (first
    | (go_at_call 10; refine (lives_any _).mono ?_; rintro e w' ⟨rfl, rfl⟩)
    | (go_at_call 15; with_reducible refine (D1.out _).mono ?_; rintro e w' ⟨rfl, rfl⟩)
    | (go_at_call 15; with_reducible refine (D2.out _).mono ?_; rintro e w' ⟨rfl, rfl⟩)
    | (go_at_call 15; with_reducible refine (D4.out _).mono ?_; rintro e w' ⟨rfl, rfl⟩)
    | (go_at_call 15; with_reducible refine (D7.out _).mono ?_; rintro e w' ⟨rfl, rfl⟩)
    | (go_at_call 16; with_reducible refine (D3.out _).mono ?_; rintro e w' ⟨rfl, rfl⟩)
    | (go_at_call 11; with_reducible refine (D5.out _).mono ?_; rintro e w' ⟨rfl, rfl⟩)
    | (go_at_call 11; with_reducible refine (D6.out _).mono ?_; rintro e w' ⟨rfl, rfl⟩)
    | (go_at_call 11; with_reducible refine (D8.out _).mono ?_; rintro e w' ⟨rfl, rfl⟩))
  go_ret
  exact ⟨rfl, Below.refl _ _⟩

theorem SeqSides_walk (a b : Int) (l : List Int) (w : World) (ha : 0 ≤ a ∧ a ≤ 4294967295) (hb : 0 ≤ b ∧ b ≤ 4294967295) (hl : l.length = 2) (hw : ∀ x ∈ l, (Lit.int .u32 x).wf = true) :
    Calls Try.prog 6 #[.int .u32 a, .int .u32 b, .agg (l.map (Value.int .u32)).toArray] w fun e w' => e = .returned (.bool true) ∧ Below w.heap.size w w' := by
  obtain ⟨n, m, rfl⟩ := two_of hl
  have hn := bounds_u32 (hw n (by simp))
  have hm := bounds_u32 (hw m (by simp))
  clear hw hl
  simp only [List.map_cons, List.map_nil]
  have e1 : sFits b (1 + m / 2) a (1 + n / 2) = sFits a (1 + n / 2) b (1 + m / 2) := sFits_comm _ _ _ _ (by omega) (by omega)
  have C1 : ∀ w, Calls Try.prog 13 #[.int .u32 b, .int .i64 (1 + m / 2), .int .u32 a, .int .i64 (1 + n / 2)] w fun e w' => e = .returned (.bool (sFits a (1 + n / 2) b (1 + m / 2))) ∧ w = w' := fun w => e1 ▸ seqFits_any b _ a _ w hb ha (by omega) (by omega)
  have C2 : ∀ w, Calls Try.prog 13 #[.int .u32 a, .int .i64 (1 + n / 2), .int .u32 b, .int .i64 (1 + m / 2)] w fun e w' => e = .returned (.bool (sFits a (1 + n / 2) b (1 + m / 2))) ∧ w = w' := fun w => seqFits_any a _ b _ w ha hb (by omega) (by omega)
  have D1 := hid C1
  have D2 := hid C2
  clear C1 C2 e1
  have hx : sLess a b = false ∨ (sLess a b = true ∧ sLess b a = false) ∨ (sLess a b = true ∧ sLess b a = true ∧ ((a - b) % 4294967296 == 2147483648) = true) := by
    unfold sLess sDiff; simp; omega
  rcases hx with h1 | ⟨h1, h2⟩ | ⟨h1, h2, h3⟩
  all_goals
    go_enter Try.func6, Try.ntmps6
    go_wp2
    go_quiet (fail)
    go_wp2_with (first
      | (go_at_call 10; refine (lives_any _).mono ?_; rintro e w' ⟨rfl, rfl⟩)
      | (go_at_call 17; refine (seqLess_any _ _ _ (by omega) (by omega)).mono ?_; rintro e w' ⟨rfl, rfl⟩)
      | (go_at_call 13; with_reducible refine (D1.out _).mono ?_; rintro e w' ⟨rfl, rfl⟩)
      | (go_at_call 13; with_reducible refine (D2.out _).mono ?_; rintro e w' ⟨rfl, rfl⟩))
    go_ret
    exact ⟨rfl, below_drewN ((Below.refl _ _).alloc (Nat.le_refl _) _) _⟩

set_option maxHeartbeats 2000000 in
theorem SeqTouch_walk (a b : Int) (l : List Int) (w : World) (ha : 0 ≤ a ∧ a ≤ 4294967295) (hb : 0 ≤ b ∧ b ≤ 4294967295) (hl : l.length = 2) (hw : ∀ x ∈ l, (Lit.int .u8 x).wf = true) :
    Calls Try.prog 4 #[.int .u32 a, .int .u32 b, .agg (l.map (Value.int .u8)).toArray] w fun e w' => e = .returned (.bool true) ∧ Below w.heap.size w w' := by
  obtain ⟨n0, m, rfl⟩ := two_of hl
  have hn := bounds_u8 (hw n0 (by simp))
  have hm := bounds_u8 (hw m (by simp))
  clear hw hl
  obtain ⟨n, rfl⟩ := Int.eq_ofNat_of_zero_le hn.1
  have hn2 : n ≤ 255 := by omega
  have hn3 : (n : Int) ≤ 255 := by omega
  simp only [List.map_cons, List.map_nil]
  go_enter Try.func4, Try.ntmps4
  go_wp2
  go_quiet (fail)
  go_wp2_with (go_at_call 10; refine (lives_any _).mono ?_; rintro e w' ⟨rfl, rfl⟩)
  go_loop [9, 19] (fun t i => ∃ k : Nat, k ≤ n ∧ i = .int .i64 k ∧ t = .bool (tch a b m k)) (fun _ i => n - (intOf i).toNat)
  case atStart => exact ⟨0, Nat.zero_le _, rfl, rfl⟩
  case round =>
    obtain ⟨k, hk, rfl, rfl⟩ := hrel
    by_cases hlt : k < n
    · have hkb := sAdd_bd a k
      have hts : tch a b m (k + 1) = (tch a b m k || sIn (sAdd a k) b m) := rfl
      have Hts := hid hts
      clear hts
      cases ht : tch a b m k
      all_goals
        rw [ht] at Hts
        have I1 : ∀ w, Calls Try.prog 11 #[.int .u32 (sAdd a k), .int .u32 b, .int .i64 m] w fun e w' => e = .returned (.bool (sIn (sAdd a k) b m)) ∧ w = w' := fun w => seqIn_any _ _ _ _ hkb hb (by omega)
        have J1 := hid I1
        clear I1 ht
        go_wp2_with (first
          | (go_at_call 15; refine (seqAdd_any _ _ _ (by omega) (by omega)).mono ?_; rintro e w' ⟨rfl, rfl⟩)
          | (go_at_call 11; with_reducible refine (J1.out _).mono ?_; rintro e w' ⟨rfl, rfl⟩))
        go_round
        case rel => exact ⟨k + 1, by omega, by go_num, by rw [Hts.out]; rfl⟩
        case measure => simp [intOf]; omega
    · obtain rfl : k = n := by omega
      by_cases h0 : k = 0
      · subst h0
        have hz := tch_zero a b m ha hb hm.1
        have I1 : ∀ w, Calls Try.prog 11 #[.int .u32 a, .int .u32 b, .int .i64 m] w fun e w' => e = .returned (.bool (sIn a b m)) ∧ w = w' := fun w => seqIn_any _ _ _ _ ha hb (by omega)
        have I2 : ∀ w, Calls Try.prog 13 #[.int .u32 a, .int .i64 0, .int .u32 b, .int .i64 m] w fun e w' => e = .returned (.bool (sIn a b m || (m == 0 && a == b))) ∧ w = w' := fun w => by rw [← hz]; exact seqFits_any _ _ _ _ _ ha hb (by omega) (by omega)
        clear hz
        cases hc : sIn a b m <;> cases hd : (m == 0) <;> cases he : (a == b)
        all_goals
          rw [hc] at I1
          rw [hc, hd, he] at I2
          have J1 := hid I1
          have J2 := hid I2
          clear I1 I2 hc
          go_wp2_with (first
            | (go_at_call 11; with_reducible refine (J1.out _).mono ?_; rintro e w' ⟨rfl, rfl⟩)
            | (go_at_call 13; with_reducible refine (J2.out _).mono ?_; rintro e w' ⟨rfl, rfl⟩))
          go_ret
          exact ⟨rfl, below_drewN ((Below.refl _ _).alloc (Nat.le_refl _) _) _⟩
      · have hz := tch_fits a b m k (by omega) hn2 hm
        have Hz := hid hz
        clear hz
        have I1 : ∀ w, Calls Try.prog 13 #[.int .u32 a, .int .i64 k, .int .u32 b, .int .i64 m] w fun e w' => e = .returned (.bool (tch a b m k)) ∧ w = w' := fun w => by rw [← Hz.out]; exact seqFits_any _ _ _ _ _ ha hb (by omega) (by omega)
        have J1 := hid I1
        clear I1
        have h0' : ((k : Int) == 0) = false := by simpa using h0
        go_wp2_with (go_at_call 13; with_reducible refine (J1.out _).mono ?_; rintro e w' ⟨rfl, rfl⟩)
        go_ret
        exact ⟨rfl, below_drewN ((Below.refl _ _).alloc (Nat.le_refl _) _) _⟩
end Go.Proofs.Ytjbmmgdjgcfagaa
