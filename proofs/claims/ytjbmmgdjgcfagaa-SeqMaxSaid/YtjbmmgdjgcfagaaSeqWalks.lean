/- Each function of the numbers' chapter, and of its reference, returns what the plain arithmetic says, and leaves memory as it was. -/
import Derived.Test.YtjbmmgdjgcfagaaProg
import Derived.Test.YtjbmmgdjgcfagaaSeqFns
namespace Go.Proofs.Ytjbmmgdjgcfagaa
open Go.RowKit

theorem seqAdd_any (a n : Int) (w : World) (ha : 0 ≤ a ∧ a ≤ 4294967295) (hn : -9223372036854775808 ≤ n ∧ n ≤ 9223372036854775807) :
    Calls Try.prog 15 #[.int .u32 a, .int .i64 n] w fun e w' => e = .returned (.int .u32 (sAdd a n)) ∧ w = w' := by
  obtain ⟨h1, h2⟩ := ha
  obtain ⟨h3, h4⟩ := hn
  go_enter Try.func15, Try.ntmps15
  go_wp2
  go_ret
  exact ⟨by simp [sAdd], rfl⟩

theorem seqDiff_any (a b : Int) (w : World) (ha : 0 ≤ a ∧ a ≤ 4294967295) (hb : 0 ≤ b ∧ b ≤ 4294967295) :
    Calls Try.prog 16 #[.int .u32 a, .int .u32 b] w fun e w' => e = .returned (.int .i64 (sDiff a b)) ∧ w = w' := by
  obtain ⟨h1, h2⟩ := ha
  obtain ⟨h3, h4⟩ := hb
  go_enter Try.func16, Try.ntmps16
  go_wp2
  go_ret
  exact ⟨by simp [sDiff_walk], rfl⟩

theorem seqLess_any (a b : Int) (w : World) (ha : 0 ≤ a ∧ a ≤ 4294967295) (hb : 0 ≤ b ∧ b ≤ 4294967295) :
    Calls Try.prog 17 #[.int .u32 a, .int .u32 b] w fun e w' => e = .returned (.bool (sLess a b)) ∧ w = w' := by
  go_enter Try.func17, Try.ntmps17
  go_wp2_with (go_at_call 16; refine (seqDiff_any _ _ _ ha hb).mono ?_; rintro e w' ⟨rfl, rfl⟩)
  go_ret
  exact ⟨by simp [sLess], rfl⟩

theorem seqMax_any (a b : Int) (w : World) (ha : 0 ≤ a ∧ a ≤ 4294967295) (hb : 0 ≤ b ∧ b ≤ 4294967295) :
    Calls Try.prog 20 #[.int .u32 a, .int .u32 b] w fun e w' => e = .returned (.int .u32 (sMax a b)) ∧ w = w' := by
  by_cases h : sDiff a b < 0
  · have hl : sLess a b = true := by simp [sLess, h]
    have hm : sMax a b = b := by simp [sMax, h]
    rw [hm]; clear hm
    go_enter Try.func20, Try.ntmps20
    go_wp2_with (go_at_call 17; refine (seqLess_any _ _ _ ha hb).mono ?_; rintro e w' ⟨rfl, rfl⟩)
    go_ret
    exact ⟨rfl, rfl⟩
  · have hl : sLess a b = false := by simp [sLess]; omega
    have hm : sMax a b = a := by simp [sMax, h]
    rw [hm]; clear hm
    go_enter Try.func20, Try.ntmps20
    go_wp2_with (go_at_call 17; refine (seqLess_any _ _ _ ha hb).mono ?_; rintro e w' ⟨rfl, rfl⟩)
    go_ret
    exact ⟨rfl, rfl⟩

theorem seqIn_any (a b n : Int) (w : World) (ha : 0 ≤ a ∧ a ≤ 4294967295) (hb : 0 ≤ b ∧ b ≤ 4294967295) (hn : -9223372036854775808 ≤ n ∧ n ≤ 9223372036854775807) :
    Calls Try.prog 11 #[.int .u32 a, .int .u32 b, .int .i64 n] w fun e w' => e = .returned (.bool (sIn a b n)) ∧ w = w' := by
  obtain ⟨h1, h2⟩ := ha
  obtain ⟨h3, h4⟩ := hb
  obtain ⟨h5, h6⟩ := hn
  by_cases h : 0 < n
  · go_enter Try.func11, Try.ntmps11
    go_wp2
    go_ret
    exact ⟨by simp [sIn_eq a b n h], rfl⟩
  · have : sIn a b n = false := by simp [sIn]; omega
    rw [this]
    go_enter Try.func11, Try.ntmps11
    go_wp2
    go_ret
    exact ⟨rfl, rfl⟩

theorem seqFits_any (a n b m : Int) (w : World) (ha : 0 ≤ a ∧ a ≤ 4294967295) (hb : 0 ≤ b ∧ b ≤ 4294967295)
    (hn : -9223372036854775808 ≤ n ∧ n ≤ 9223372036854775807) (hm : -9223372036854775808 ≤ m ∧ m ≤ 9223372036854775807) :
    Calls Try.prog 13 #[.int .u32 a, .int .i64 n, .int .u32 b, .int .i64 m] w fun e w' => e = .returned (.bool (sFits a n b m)) ∧ w = w' := by
  obtain ⟨h5, h6⟩ := hn
  obtain ⟨h7, h8⟩ := hm
  by_cases c1 : n ≤ 0
  · by_cases c2 : m ≤ 0
    · rw [show sFits a n b m = (a == b) by simp [sFits, c1, c2, BEq.beq]]
      go_enter Try.func13, Try.ntmps13
      go_wp2
      go_ret
      exact ⟨rfl, rfl⟩
    · rw [show sFits a n b m = sIn a b m by simp [sFits, c1, c2]]
      go_enter Try.func13, Try.ntmps13
      go_wp2_with (go_at_call 11; refine (seqIn_any _ _ _ _ ha hb (by omega)).mono ?_; rintro e w' ⟨rfl, rfl⟩)
      go_ret
      exact ⟨rfl, rfl⟩
  · by_cases c2 : m ≤ 0
    · rw [show sFits a n b m = false by simp [sFits, c1, c2]]
      go_enter Try.func13, Try.ntmps13
      go_wp2
      go_ret
      exact ⟨rfl, rfl⟩
    · have hx := sAdd_bd a (n - 1)
      rw [show sFits a n b m = (sIn a b m || sIn (sAdd a (n - 1)) b m || sIn b a n) by simp [sFits, c1, c2]]
      generalize hs : sAdd a (n - 1) = s at *
      have Hs := hid hs
      clear hs
      have A1 : ∀ w, Calls Try.prog 15 #[.int .u32 a, .int .i64 (n - 1)] w fun e w' => e = .returned (.int .u32 s) ∧ w = w' := by
        intro w; rw [← Hs.out]; exact seqAdd_any _ _ _ ha (by omega)
      cases hA : sIn a b m <;> cases hB : sIn s b m <;> cases hC : sIn b a n
      all_goals
        have I1 : ∀ w, Calls Try.prog 11 #[.int .u32 a, .int .u32 b, .int .i64 m] w fun e w' => e = .returned (.bool (sIn a b m)) ∧ w = w' := fun w => seqIn_any _ _ _ _ ha hb (by omega)
        have I2 : ∀ w, Calls Try.prog 11 #[.int .u32 s, .int .u32 b, .int .i64 m] w fun e w' => e = .returned (.bool (sIn s b m)) ∧ w = w' := fun w => seqIn_any _ _ _ _ hx hb (by omega)
        have I3 : ∀ w, Calls Try.prog 11 #[.int .u32 b, .int .u32 a, .int .i64 n] w fun e w' => e = .returned (.bool (sIn b a n)) ∧ w = w' := fun w => seqIn_any _ _ _ _ hb ha (by omega)
        rw [hA] at I1; rw [hB] at I2; rw [hC] at I3
        have J1 := hid I1; have J2 := hid I2; have J3 := hid I3; have J4 := hid A1
        clear I1 I2 I3 A1 hA hB hC
        go_enter Try.func13, Try.ntmps13
        go_wp2_with (first
          | (go_at_call 15; refine (J4.out _).mono ?_; rintro e w' ⟨rfl, rfl⟩)
          | (go_at_call 11; with_reducible refine (J1.out _).mono ?_; rintro e w' ⟨rfl, rfl⟩)
          | (go_at_call 11; with_reducible refine (J2.out _).mono ?_; rintro e w' ⟨rfl, rfl⟩)
          | (go_at_call 11; with_reducible refine (J3.out _).mono ?_; rintro e w' ⟨rfl, rfl⟩))
        go_ret
        exact ⟨rfl, rfl⟩

theorem refMod_any (n : Int) (w : World) (hn : -9223372036854775808 ≤ n ∧ n ≤ 9223372036854775807) :
    Calls Try.prog 21 #[.int .i64 n] w fun e w' => e = .returned (.int .i64 (n % 4294967296)) ∧ w = w' := by
  obtain ⟨h5, h6⟩ := hn
  have hb := tmod_bd n 4294967296 (by omega)
  have he := Int.mul_tdiv_add_tmod n 4294967296
  go_enter Try.func21, Try.ntmps21
  go_wp2
  all_goals go_ret
  all_goals exact ⟨ret_int (by omega), rfl⟩

theorem refAdd_any (a n : Int) (w : World) (ha : 0 ≤ a ∧ a ≤ 4294967295) (hn : -9223372036854775808 ≤ n ∧ n ≤ 9223372036854775807) :
    Calls Try.prog 19 #[.int .u32 a, .int .i64 n] w fun e w' => e = .returned (.int .u32 (sAdd a n)) ∧ w = w' := by
  obtain ⟨h1, h2⟩ := ha
  obtain ⟨h5, h6⟩ := hn
  have hb := tmod_bd n 4294967296 (by omega)
  have he := Int.mul_tdiv_add_tmod n 4294967296
  go_enter Try.func19, Try.ntmps19
  go_wp2_with (go_at_call 21; refine (refMod_any _ _ (by omega)).mono ?_; rintro e w' ⟨rfl, rfl⟩)
  go_ret
  exact ⟨ret_int (by simp [sAdd]; omega), rfl⟩

theorem refDiff_any (a b : Int) (w : World) (ha : 0 ≤ a ∧ a ≤ 4294967295) (hb : 0 ≤ b ∧ b ≤ 4294967295) :
    Calls Try.prog 18 #[.int .u32 a, .int .u32 b] w fun e w' => e = .returned (.int .i64 (sDiff a b)) ∧ w = w' := by
  obtain ⟨h1, h2⟩ := ha
  obtain ⟨h3, h4⟩ := hb
  go_enter Try.func18, Try.ntmps18
  go_wp2_with (go_at_call 21; refine (refMod_any _ _ (by omega)).mono ?_; rintro e w' ⟨rfl, rfl⟩)
  all_goals go_ret
  all_goals exact ⟨ret_int (by simp [sDiff]; omega), rfl⟩

theorem refIn_any (a b n : Int) (w : World) (ha : 0 ≤ a ∧ a ≤ 4294967295) (hb : 0 ≤ b ∧ b ≤ 4294967295) (hn : -9223372036854775808 ≤ n ∧ n ≤ 9223372036854775807) :
    Calls Try.prog 12 #[.int .u32 a, .int .u32 b, .int .i64 n] w fun e w' => e = .returned (.bool (sIn a b n)) ∧ w = w' := by
  obtain ⟨h1, h2⟩ := ha
  obtain ⟨h3, h4⟩ := hb
  obtain ⟨h5, h6⟩ := hn
  by_cases h : 0 < n
  · go_enter Try.func12, Try.ntmps12
    go_wp2_with (go_at_call 21; refine (refMod_any _ _ (by omega)).mono ?_; rintro e w' ⟨rfl, rfl⟩)
    go_ret
    exact ⟨by simp [sIn_eq a b n h], rfl⟩
  · have : sIn a b n = false := by simp [sIn]; omega
    rw [this]
    go_enter Try.func12, Try.ntmps12
    go_wp2
    go_ret
    exact ⟨rfl, rfl⟩

theorem refFits_any (a n b m : Int) (w : World) (ha : 0 ≤ a ∧ a ≤ 4294967295) (hb : 0 ≤ b ∧ b ≤ 4294967295)
    (hn : -9223372036854775808 ≤ n ∧ n ≤ 9223372036854775807) (hm : -9223372036854775808 ≤ m ∧ m ≤ 9223372036854775807) :
    Calls Try.prog 14 #[.int .u32 a, .int .i64 n, .int .u32 b, .int .i64 m] w fun e w' => e = .returned (.bool (sFits a n b m)) ∧ w = w' := by
  obtain ⟨h1, h2⟩ := ha
  obtain ⟨h3, h4⟩ := hb
  obtain ⟨h5, h6⟩ := hn
  obtain ⟨h7, h8⟩ := hm
  obtain ⟨N, eN⟩ : ∃ N, (if n < 0 then 0 else n) = N := ⟨_, rfl⟩
  obtain ⟨M, eM⟩ : ∃ M, (if m < 0 then 0 else m) = M := ⟨_, rfl⟩
  have bN : 0 ≤ N ∧ N ≤ 9223372036854775807 ∧ (N = 0 ↔ n ≤ 0) ∧ (0 < n → N = n) := by rw [← eN]; split <;> omega
  have bM : 0 ≤ M ∧ M ≤ 9223372036854775807 ∧ (M = 0 ↔ m ≤ 0) ∧ (0 < m → M = m) := by rw [← eM]; split <;> omega
  obtain ⟨n1, n2, n3, n4⟩ := bN
  obtain ⟨m1, m2, m3, m4⟩ := bM
  have N3 := hid n3
  have N4 := hid n4
  have M3 := hid m3
  have M4 := hid m4
  clear n3 n4 m3 m4
  by_cases c1 : N = 0
  · by_cases c2 : M = 0
    · subst c1 c2
      have hfin : sFits a n b m = decide ((a - b) % 4294967296 = 0) := by simp [sFits, N3.out.1, M3.out.1]; omega
      rw [hfin]
      go_enter Try.func14, Try.ntmps14
      go_wp2_with (go_at_call 21; refine (refMod_any _ _ (by omega)).mono ?_; rintro e w' ⟨rfl, rfl⟩)
      go_ret
      exact ⟨by simp [BEq.beq], rfl⟩
    · subst c1
      have c2' : (M == 0) = false := by simpa using c2
      have hm : M = m := M4.out (by have := M3.out; omega)
      have hfin : sFits a n b m = decide ((a - b) % 4294967296 < M) := by
        have c3 : 0 < M := by omega
        rw [← hm]; simp [sFits, sIn, N3.out.1, c3]; omega
      rw [hfin]
      clear hfin hm c2
      go_enter Try.func14, Try.ntmps14
      go_wp2_with (go_at_call 21; refine (refMod_any _ _ (by omega)).mono ?_; rintro e w' ⟨rfl, rfl⟩)
      go_ret
      exact ⟨rfl, rfl⟩
  · have c1' : (N == 0) = false := by simpa using c1
    have c1'' : 0 < N := by omega
    have hn : N = n := N4.out (by have := N3.out; omega)
    by_cases c2 : M = 0
    · subst c2
      have hfin : sFits a n b m = false := by simp [sFits, M3.out.1]; omega
      rw [hfin]
      clear hfin hn c1
      go_enter Try.func14, Try.ntmps14
      go_wp2_with (go_at_call 21; refine (refMod_any _ _ (by omega)).mono ?_; rintro e w' ⟨rfl, rfl⟩)
      go_ret
      exact ⟨rfl, rfl⟩
    · have c2' : (M == 0) = false := by simpa using c2
      have c2'' : 0 < M := by omega
      have hm : M = m := M4.out (by have := M3.out; omega)
      have hfin := sFits_ref a N b M c1'' c2''
      rw [← hn, ← hm, hfin]
      clear hfin hn hm c1 c2
      obtain ⟨mn, emn⟩ : ∃ mn, (if (4294967296 : Int) < N then 4294967296 else N) = mn := ⟨_, rfl⟩
      have hmn : min N 4294967296 = mn := by rw [← emn]; split <;> omega
      have bmn : 0 ≤ mn ∧ mn ≤ 4294967296 := by omega
      obtain ⟨b1, b2⟩ := bmn
      rw [hmn]
      clear hmn
      by_cases c3 : (a - b) % 4294967296 < M
      · go_enter Try.func14, Try.ntmps14
        go_wp2_with (go_at_call 21; refine (refMod_any _ _ (by omega)).mono ?_; rintro e w' ⟨rfl, rfl⟩)
        go_ret
        exact ⟨by simp [c3], rfl⟩
      · go_enter Try.func14, Try.ntmps14
        go_wp2_with (go_at_call 21; refine (refMod_any _ _ (by omega)).mono ?_; rintro e w' ⟨rfl, rfl⟩)
        go_ret
        exact ⟨by simp, rfl⟩
end Go.Proofs.Ytjbmmgdjgcfagaa
