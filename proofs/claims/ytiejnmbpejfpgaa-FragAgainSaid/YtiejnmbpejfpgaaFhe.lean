/- FragAgain: the walk. -/
import Derived.Test.YtiejnmbpejfpgaaFha
namespace Go.Proofs.Ytiejnmbpejfpgaa
open Go.RowKit
set_option linter.unusedVariables false
set_option linter.unusedSimpArgs false
set_option maxRecDepth 100000
set_option maxHeartbeats 4000000
def holesA (q : Pk) (M a i : Nat) : List Hl := if i = 0 ∨ i = M then [] else [HA q M a i]
theorem piece_self {q : Pk} (h0 : q.o = 0) (hm : q.mo = false) (hn : q.dt.length ≤ 176) : piece q 0 = q := by
  obtain ⟨x1, x2, x3, x4, x5, x6, x7, x8, x9, xa, xb, xc, xd, dt⟩ := q
  dsimp only at h0 hm hn
  subst h0 hm
  show (⟨x1, decide (176 * 0 + 176 < dt.length), 176 * ((0 : Nat) : Int), x4, x5, x6, x7, x8, x9, xa, xb, xc, xd, (dt.drop (176 * 0)).take 176⟩ : Pk) = _
  rw [decide_eq_false (by omega), List.take_of_length_le (by simp; omega)]
  rfl
theorem wrap_small (M : Int) (t : Int) (h0 : 1 ≤ M) (h1 : M ≤ 10) : ∃ K : Nat, IntKind.i64.wrap (t % 18446744073709551616 % M) = (K : Int) ∧ (K : Int) < M := by
  have g1 := Int.emod_nonneg (t % 18446744073709551616) (show M ≠ 0 by omega)
  have g2 := Int.emod_lt_of_pos (t % 18446744073709551616) (show 0 < M by omega)
  generalize t % 18446744073709551616 % M = m at g1 g2
  refine ⟨m.toNat, ?_, by omega⟩
  have : m = 0 ∨ m = 1 ∨ m = 2 ∨ m = 3 ∨ m = 4 ∨ m = 5 ∨ m = 6 ∨ m = 7 ∨ m = 8 ∨ m = 9 := by omega
  rcases this with rfl | rfl | rfl | rfl | rfl | rfl | rfl | rfl | rfl | rfl <;> decide
theorem mod_sA {M a K i : Nat} (hK : K < M) (ha : a = M - 1 - K) (hi : i < M) : ((i : Int) + (K : Int)) % (M : Int) = (M : Int) - 1 - (sA M a i : Nat) := by
  unfold sA
  by_cases h : i ≤ a
  · rw [if_pos h, Int.emod_eq_of_lt (by omega) (by omega)]; omega
  · rw [if_neg h, show (i : Int) + (K : Int) = ((i : Int) + (K : Int) - (M : Int)) + (M : Int) by omega, Int.add_emod_right, Int.emod_eq_of_lt (by omega) (by omega)]; omega
theorem fragAgain_ok (p : Pk) (hL : (p.dt.length : Int) ≤ 9223372036854775807) (turn twice : Int) (ht : -9223372036854775808 ≤ turn ∧ turn ≤ 9223372036854775807) (hw : -9223372036854775808 ≤ twice ∧ twice ≤ 9223372036854775807) : ACall Try.prog 5 [pk false p, .int .i64 turn, .int .i64 twice] (.bool true) [] := by
  have hl := lives_ok
  by_cases h10 : 1000 < p.dt.length
  · obtain ⟨i, mo, o, tt, pr, s0, s1, s2, s3, d0, d1, d2, d3, dt⟩ := p
    unfold pk pkc
    dsimp only at hL h10 ⊢
    have el := by8_len dt
    refine acall_walk (N := 129) Try.func5 (by kernel_rfl) p_caravellaw07_FragAgain rfl ?_; unfold c_caravellaw07_FragAgain; dsimp only [enum, Nat.reduceAdd]
    (repeat (first | ((with_reducible show RG _ _ (_ :: _) _ _ _); refine RG.go1 (k := ?_)) | ((with_reducible show DG _ _ (_ :: _) _ _ _ _ _); refine DG.go1 (k := ?_)) | (with_reducible first | apply RG.nil | apply W.seq | apply W.reg | apply W.skip | apply W.block | apply W.drw | apply DG.nil | refine W.done (QB.n ?_)) | refine W.cndT ?_ | refine W.cndF ?_))
    (first | ((with_reducible show RG _ _ (_ :: _) _ _ _); refine RG.ca (hl) (k := ?_)) | ((with_reducible show DG _ _ (_ :: _) _ _ _ _ _); refine DG.ca (hl) (k := ?_)))
    (repeat (first | ((with_reducible show RG _ _ (_ :: _) _ _ _); refine RG.go1 (k := ?_)) | ((with_reducible show DG _ _ (_ :: _) _ _ _ _ _); refine DG.go1 (k := ?_)) | (with_reducible first | apply RG.nil | apply W.seq | apply W.reg | apply W.skip | apply W.block | apply W.drw | apply DG.nil | refine W.done (QB.n ?_)) | refine W.cndT ?_ | refine W.cndF ?_))
    (first | ((with_reducible show RG _ _ (_ :: _) _ _ _); refine RG.ca (hl) (k := ?_)) | ((with_reducible show DG _ _ (_ :: _) _ _ _ _ _); refine DG.ca (hl) (k := ?_)))
    (repeat (first | ((with_reducible show RG _ _ (_ :: _) _ _ _); refine RG.go1 (k := ?_)) | ((with_reducible show DG _ _ (_ :: _) _ _ _ _ _); refine DG.go1 (k := ?_)) | (with_reducible first | apply RG.nil | apply W.seq | apply W.reg | apply W.skip | apply W.block | apply W.drw | apply DG.nil | refine W.done (QB.n ?_)) | refine W.cndT ?_ | refine W.cndF ?_))
    (refine W.ret ?_; (repeat (with_reducible first | refine QB.r ?_ | refine QL.r ?_ | refine QC.r ?_)); refine QF.r ?_)
    exact RetOk.rs (vs := [_]) r_caravellaw07_FragAgain []
  obtain ⟨i, mo, o, tt, pr, s0, s1, s2, s3, d0, d1, d2, d3, dt⟩ := p
  dsimp only at hL h10
  obtain ⟨q, hq⟩ : ∃ q : Pk, q = ⟨i, false, 0, tt, pr, s0, s1, s2, s3, d0, d1, d2, d3, dt⟩ := ⟨_, rfl⟩
  have hqd : q.dt = dt := by rw [hq]
  have hq0 : q.o = 0 := by rw [hq]
  have hqm : q.mo = false := by rw [hq]
  have c1 := splitF_ok q hq0 hqm (by rw [hqd]; omega)
  rw [hqd] at c1
  have hpk : pk false q = .agg [.int .u16 i, .bool false, .int .i64 0, .int .u8 tt, .int .u8 pr, .int .u8 s0, .int .u8 s1, .int .u8 s2, .int .u8 s3, .int .u8 d0, .int .u8 d1, .int .u8 d2, .int .u8 d3, .sl false 1 (dt.map by8)] := by rw [hq]; rfl
  rw [hpk] at c1
  have csm := sameF_ok q (by rw [hqd]; omega)
  rw [hpk] at csm
  unfold pk pkc
  dsimp only
  have el := by8_len dt
  have hM : (1 ≤ cntD dt.length ∧ dt.length ≤ 176 * cntD dt.length) ∧ cntD dt.length ≤ 10 ∧ (∀ j, j < cntD dt.length → j = 0 ∨ 176 * j < dt.length) ∧ cntD dt.length = max 1 ((dt.length + 175) / 176) := by
    unfold cntD cntP
    refine ⟨by omega, by omega, fun j hj => by omega, rfl⟩
  obtain ⟨M, hMM⟩ : ∃ M, cntD dt.length = M := ⟨_, rfl⟩
  rw [hMM] at hM c1
  clear hMM
  obtain ⟨⟨hM1, hM2⟩, hM3, hM4, hM5⟩ := hM
  obtain ⟨L, hLL⟩ : ∃ L, (pieces q M).map (pk false) = L := ⟨_, rfl⟩
  rw [hLL] at c1
  have ell : L.length = M := by rw [← hLL, List.length_map, pieces_len]
  have hE : ∀ j, j < M → L[j]?.getD .any = .agg (pkc false (piece q j)) := fun j hj => by
    rw [← hLL, pk_at (pieces q M) j (by rw [pieces_len]; exact hj) rfl, pieces_at]
  have hM6 : 2 ≤ M → 176 < q.dt.length ∧ ∀ j, j < M → 176 * j < q.dt.length := fun h => by
    rw [hqd]
    refine ⟨by omega, fun j hj => ?_⟩
    rcases hM4 j hj with h0 | h0
    · subst h0; omega
    · exact h0
  have hM7 : M = 1 → q.dt.length ≤ 176 := fun h => by rw [hqd]; omega
  have hq1 : q.dt.length ≤ 176 * M := by rw [hqd]; exact hM2
  have hq2 : q.dt.length ≤ 1000 := by rw [hqd]; omega
  clear hM4 hM5
  refine acall_walk (N := 129) Try.func5 (by kernel_rfl) p_caravellaw07_FragAgain rfl ?_; unfold c_caravellaw07_FragAgain; dsimp only [enum, Nat.reduceAdd]
  (repeat (first | ((with_reducible show RG _ _ (_ :: _) _ _ _); refine RG.go1 (k := ?_)) | ((with_reducible show DG _ _ (_ :: _) _ _ _ _ _); refine DG.go1 (k := ?_)) | (with_reducible first | apply RG.nil | apply W.seq | apply W.reg | apply W.skip | apply W.block | apply W.drw | apply DG.nil | refine W.done (QB.n ?_)) | refine W.cndT ?_ | refine W.cndF ?_))
  (first | ((with_reducible show RG _ _ (_ :: _) _ _ _); refine RG.ca (hl) (k := ?_)) | ((with_reducible show DG _ _ (_ :: _) _ _ _ _ _); refine DG.ca (hl) (k := ?_)))
  (repeat (first | ((with_reducible show RG _ _ (_ :: _) _ _ _); refine RG.go1 (k := ?_)) | ((with_reducible show DG _ _ (_ :: _) _ _ _ _ _); refine DG.go1 (k := ?_)) | (with_reducible first | apply RG.nil | apply W.seq | apply W.reg | apply W.skip | apply W.block | apply W.drw | apply DG.nil | refine W.done (QB.n ?_)) | refine W.cndT ?_ | refine W.cndF ?_))
  (first | ((with_reducible show RG _ _ (_ :: _) _ _ _); refine RG.ca (c1) (k := ?_)) | ((with_reducible show DG _ _ (_ :: _) _ _ _ _ _); refine DG.ca (c1) (k := ?_)))
  (repeat (first | ((with_reducible show RG _ _ (_ :: _) _ _ _); refine RG.go1 (k := ?_)) | ((with_reducible show DG _ _ (_ :: _) _ _ _ _ _); refine DG.go1 (k := ?_)) | (with_reducible first | apply RG.nil | apply W.seq | apply W.reg | apply W.skip | apply W.block | apply W.drw | apply DG.nil | refine W.done (QB.n ?_)) | refine W.cndT ?_ | refine W.cndF ?_))
  obtain ⟨K, hK, hKM⟩ := wrap_small (L.length : Int) turn (by omega) (by omega)
  rw [hK]
  obtain ⟨a, ha⟩ : ∃ a, a = M - 1 - K := ⟨_, rfl⟩
  rw [ell] at hKM ⊢
  refine W.loop (ι := {j : Nat // j ≤ M}) (fun j => ⟨[(49, .int .i64 j.1), (48, .int .i64 M), (7, .sl false 14 L), (9, .sl false 14 ((holesA q M a j.1).map hol)), (10, .int .i64 K), (2, .int .i64 twice), (3, .bptr 0 0)], [some [.int .u16 i, .bool false, .int .i64 0, .int .u8 tt, .int .u8 pr, .int .u8 s0, .int .u8 s1, .int .u8 s2, .int .u8 s3, .int .u8 d0, .int .u8 d1, .int .u8 d2, .int .u8 d3, .sl false 1 (dt.map by8)]], [], 1, 0⟩) (fun j => M - j.1) ⟨0, Nat.zero_le _⟩ ?_ ?_
  · have q2 : ALe .nil (.sl false 14 []) := ALe.nil _ _
    dsimp only
    rw [show (holesA q M a 0).map hol = [] from rfl]
    exact Wk.rn ([0] ) ( [])
  clear hK ht
  rintro ⟨j, hj⟩
  dsimp only
  by_cases hlt : j < M
  · have hs : sA M a j < M := by unfold sA; split <;> omega
    have hR := mod_sA (i := j) (by omega) ha hlt
    have hEj := hE _ hs
    obtain ⟨x, hx⟩ : ∃ x, piece q (sA M a j) = x := ⟨_, rfl⟩
    rw [hx] at hEj
    rw [show sA M a j = ((L.length : Int) - 1 - ((j : Int) + (K : Int)) % (L.length : Int)).toNat by rw [ell, hR]; omega] at hEj
    rw [← ell] at hR
    rw [ell] at hR
    rw [show (M : Int) = (L.length : Int) by rw [ell]] at hR
    have ha2 : a < M := by omega
    have cS : j + 1 < M → ACall Try.prog 11 [.sl true 14 ((holesA q M a j).map hol), pk false (piece q (sA M a j)), .int .u64 5] (.tup [.sl false 14 ((holesA q M a (j + 1)).map hol), pkz, .bool false, .int .i64 0]) [] := fun h => by
      obtain ⟨g1, g2⟩ := hM6 (by omega)
      have e1 : holesA q M a (j + 1) = [HA q M a (j + 1)] := by unfold holesA; rw [if_neg (by omega)]
      rw [e1]
      by_cases h0 : j = 0
      · subst h0
        exact add0_ok g1 g2 hq1 hq2 ha2
      · rw [show holesA q M a j = [HA q M a j] by unfold holesA; rw [if_neg (by omega)]]
        exact addS_ok g1 g2 hq1 hq2 ha2 (by omega) h
    have cD : j + 1 < M → ACall Try.prog 11 [.sl true 14 ((holesA q M a (j + 1)).map hol), pk false (piece q (sA M a j)), .int .u64 5] (.tup [.sl false 14 ((holesA q M a (j + 1)).map hol), pkz, .bool false, .int .i64 0]) [] := fun h => by
      obtain ⟨g1, g2⟩ := hM6 (by omega)
      have e1 : holesA q M a (j + 1) = [HA q M a (j + 1)] := by unfold holesA; rw [if_neg (by omega)]
      rw [e1]
      exact addD_ok g1 g2 hq1 hq2 ha2 h
    have cL : j + 1 = M → ACall Try.prog 11 [.sl true 14 ((holesA q M a j).map hol), pk false (piece q (sA M a j)), .int .u64 5] (.tup [.sl false 14 ((holesA q M a (j + 1)).map hol), pk false q, .bool true, .int .i64 0]) [] := fun h => by
      rw [show holesA q M a (j + 1) = [] by unfold holesA; rw [if_pos (.inr h)]]
      by_cases h0 : j = 0
      · subst h0
        have hn7 := hM7 (by omega)
        have hs0 : sA M a 0 = 0 := by unfold sA; rw [if_pos (Nat.zero_le _)]; omega
        rw [hs0, piece_self hq0 hqm hn7, show holesA q M a 0 = [] from rfl]
        exact add_whole (been0 5 (by decide) (by decide)) q hq0 hqm hq2
      · obtain ⟨g1, g2⟩ := hM6 (by omega)
        rw [show holesA q M a j = [HA q M a j] by unfold holesA; rw [if_neg (by omega)]]
        exact addL_ok g1 g2 hq1 hq2 ha2 hq0 hqm (by omega) h
    have hjm : j + 1 < M ∨ j + 1 = M := by omega
    rw [hpk] at cL
    clear hM6 hM7 hq1 hq2 c1
    rw [hx] at cS cD cL
    clear hx
    generalize (holesA q M a j).map hol = h1s at *
    obtain ⟨h2s, hh2⟩ : ∃ h, (holesA q M a (j + 1)).map hol = h := ⟨_, rfl⟩
    rw [hh2] at cS cD cL
    unfold pk pkc pkz at cS cD
    unfold pk pkc at cL
    unfold pkc at hEj
    rcases hjm with hjm | hjm
    · have cS := cS hjm
      have cD := cD hjm
      clear cL
      (repeat (first | ((with_reducible show RG _ _ (_ :: _) _ _ _); refine RG.go1 (k := ?_)) | ((with_reducible show DG _ _ (_ :: _) _ _ _ _ _); refine DG.go1 (k := ?_)) | (with_reducible first | apply RG.nil | apply W.seq | apply W.reg | apply W.skip | apply W.block | apply W.drw | apply DG.nil | refine W.done (QB.n ?_))))
      refine W.cnd (fun h1 => ?_) (fun h1 => ?_)
      · clear h1
        (repeat (first | ((with_reducible show RG _ _ (_ :: _) _ _ _); refine RG.go1 (k := ?_)) | ((with_reducible show DG _ _ (_ :: _) _ _ _ _ _); refine DG.go1 (k := ?_)) | (with_reducible first | apply RG.nil | apply W.seq | apply W.reg | apply W.skip | apply W.block | apply W.drw | apply DG.nil | refine W.done (QB.n ?_)) | refine W.cndT ?_ | refine W.cndF ?_))
        (first | ((with_reducible show RG _ _ (_ :: _) _ _ _); refine RG.ew (cptr_of (hEj) (by (conv => lhs; whnf) <;> exact rfl)) (k := ?_)) | ((with_reducible show DG _ _ (_ :: _) _ _ _ _ _); refine DG.ew (cptr_of (hEj) (by (conv => lhs; whnf) <;> exact rfl)) (k := ?_)))
        (repeat (first | ((with_reducible show RG _ _ (_ :: _) _ _ _); refine RG.go1 (k := ?_)) | ((with_reducible show DG _ _ (_ :: _) _ _ _ _ _); refine DG.go1 (k := ?_)) | (with_reducible first | apply RG.nil | apply W.seq | apply W.reg | apply W.skip | apply W.block | apply W.drw | apply DG.nil | refine W.done (QB.n ?_)) | refine W.cndT ?_ | refine W.cndF ?_))
        refine W.cnd (fun h2 => ?_) (fun h2 => ?_)
        · clear h2
          (repeat (first | ((with_reducible show RG _ _ (_ :: _) _ _ _); refine RG.go1 (k := ?_)) | ((with_reducible show DG _ _ (_ :: _) _ _ _ _ _); refine DG.go1 (k := ?_)) | (with_reducible first | apply RG.nil | apply W.seq | apply W.reg | apply W.skip | apply W.block | apply W.drw | apply DG.nil | refine W.done (QB.n ?_)) | refine W.cndT ?_ | refine W.cndF ?_))
          (first | ((with_reducible show RG _ _ (_ :: _) _ _ _); refine RG.ca (cS) (k := ?_)) | ((with_reducible show DG _ _ (_ :: _) _ _ _ _ _); refine DG.ca (cS) (k := ?_)))
          (repeat (first | ((with_reducible show RG _ _ (_ :: _) _ _ _); refine RG.go1 (k := ?_)) | ((with_reducible show DG _ _ (_ :: _) _ _ _ _ _); refine DG.go1 (k := ?_)) | (with_reducible first | apply RG.nil | apply W.seq | apply W.reg | apply W.skip | apply W.block | apply W.drw | apply DG.nil | refine W.done (QB.n ?_)) | refine W.cndT ?_ | refine W.cndF ?_))
          (first | ((with_reducible show RG _ _ (_ :: _) _ _ _); refine RG.ca (cD) (k := ?_)) | ((with_reducible show DG _ _ (_ :: _) _ _ _ _ _); refine DG.ca (cD) (k := ?_)))
          (repeat (first | ((with_reducible show RG _ _ (_ :: _) _ _ _); refine RG.go1 (k := ?_)) | ((with_reducible show DG _ _ (_ :: _) _ _ _ _ _); refine DG.go1 (k := ?_)) | (with_reducible first | apply RG.nil | apply W.seq | apply W.reg | apply W.skip | apply W.block | apply W.drw | apply DG.nil | refine W.done (QB.n ?_)) | refine W.cndT ?_ | refine W.cndF ?_))
          refine W.done (QL.n (⟨j + 1, by omega⟩) ?_ ?_)
          · dsimp only
            rw [hh2]
            exact Wk.rn ([0] ) ( [])
          · dsimp only; omega
        · clear h2
          (repeat (first | ((with_reducible show RG _ _ (_ :: _) _ _ _); refine RG.go1 (k := ?_)) | ((with_reducible show DG _ _ (_ :: _) _ _ _ _ _); refine DG.go1 (k := ?_)) | (with_reducible first | apply RG.nil | apply W.seq | apply W.reg | apply W.skip | apply W.block | apply W.drw | apply DG.nil | refine W.done (QB.n ?_)) | refine W.cndT ?_ | refine W.cndF ?_))
          (first | ((with_reducible show RG _ _ (_ :: _) _ _ _); refine RG.ca (cS) (k := ?_)) | ((with_reducible show DG _ _ (_ :: _) _ _ _ _ _); refine DG.ca (cS) (k := ?_)))
          (repeat (first | ((with_reducible show RG _ _ (_ :: _) _ _ _); refine RG.go1 (k := ?_)) | ((with_reducible show DG _ _ (_ :: _) _ _ _ _ _); refine DG.go1 (k := ?_)) | (with_reducible first | apply RG.nil | apply W.seq | apply W.reg | apply W.skip | apply W.block | apply W.drw | apply DG.nil | refine W.done (QB.n ?_)) | refine W.cndT ?_ | refine W.cndF ?_))
          refine W.done (QL.n (⟨j + 1, by omega⟩) ?_ ?_)
          · dsimp only
            rw [hh2]
            exact Wk.rn ([0] ) ( [])
          · dsimp only; omega
      · simp at h1
    · have cL := cL hjm
      clear cS cD
      (repeat (first | ((with_reducible show RG _ _ (_ :: _) _ _ _); refine RG.go1 (k := ?_)) | ((with_reducible show DG _ _ (_ :: _) _ _ _ _ _); refine DG.go1 (k := ?_)) | (with_reducible first | apply RG.nil | apply W.seq | apply W.reg | apply W.skip | apply W.block | apply W.drw | apply DG.nil | refine W.done (QB.n ?_))))
      refine W.cnd (fun h1 => ?_) (fun h1 => ?_)
      · clear h1
        (repeat (first | ((with_reducible show RG _ _ (_ :: _) _ _ _); refine RG.go1 (k := ?_)) | ((with_reducible show DG _ _ (_ :: _) _ _ _ _ _); refine DG.go1 (k := ?_)) | (with_reducible first | apply RG.nil | apply W.seq | apply W.reg | apply W.skip | apply W.block | apply W.drw | apply DG.nil | refine W.done (QB.n ?_)) | refine W.cndT ?_ | refine W.cndF ?_))
        (first | ((with_reducible show RG _ _ (_ :: _) _ _ _); refine RG.ew (cptr_of (hEj) (by (conv => lhs; whnf) <;> exact rfl)) (k := ?_)) | ((with_reducible show DG _ _ (_ :: _) _ _ _ _ _); refine DG.ew (cptr_of (hEj) (by (conv => lhs; whnf) <;> exact rfl)) (k := ?_)))
        (repeat (first | ((with_reducible show RG _ _ (_ :: _) _ _ _); refine RG.go1 (k := ?_)) | ((with_reducible show DG _ _ (_ :: _) _ _ _ _ _); refine DG.go1 (k := ?_)) | (with_reducible first | apply RG.nil | apply W.seq | apply W.reg | apply W.skip | apply W.block | apply W.drw | apply DG.nil | refine W.done (QB.n ?_)) | refine W.cndT ?_ | refine W.cndF ?_))
        refine W.cnd (fun h2 => ?_) (fun h2 => ?_)
        · have hlast : (j : Int) = (L.length : Int) - 1 := by omega
          simp [hlast] at h2
        · clear h2
          (repeat (first | ((with_reducible show RG _ _ (_ :: _) _ _ _); refine RG.go1 (k := ?_)) | ((with_reducible show DG _ _ (_ :: _) _ _ _ _ _); refine DG.go1 (k := ?_)) | (with_reducible first | apply RG.nil | apply W.seq | apply W.reg | apply W.skip | apply W.block | apply W.drw | apply DG.nil | refine W.done (QB.n ?_)) | refine W.cndT ?_ | refine W.cndF ?_))
          (first | ((with_reducible show RG _ _ (_ :: _) _ _ _); refine RG.ca (cL) (k := ?_)) | ((with_reducible show DG _ _ (_ :: _) _ _ _ _ _); refine DG.ca (cL) (k := ?_)))
          (repeat (first | ((with_reducible show RG _ _ (_ :: _) _ _ _); refine RG.go1 (k := ?_)) | ((with_reducible show DG _ _ (_ :: _) _ _ _ _ _); refine DG.go1 (k := ?_)) | (with_reducible first | apply RG.nil | apply W.seq | apply W.reg | apply W.skip | apply W.block | apply W.drw | apply DG.nil | refine W.done (QB.n ?_)) | refine W.cndT ?_ | refine W.cndF ?_))
          (first | ((with_reducible show RG _ _ (_ :: _) _ _ _); refine RG.gca (fun _ => csm) (k := ?_)) | ((with_reducible show DG _ _ (_ :: _) _ _ _ _ _); refine DG.gca (fun _ => csm) (k := ?_)))
          (repeat (first | ((with_reducible show RG _ _ (_ :: _) _ _ _); refine RG.go1 (k := ?_)) | ((with_reducible show DG _ _ (_ :: _) _ _ _ _ _); refine DG.go1 (k := ?_)) | (with_reducible first | apply RG.nil | apply W.seq | apply W.reg | apply W.skip | apply W.block | apply W.drw | apply DG.nil | refine W.done (QB.n ?_)) | refine W.cndT ?_ | refine W.cndF ?_))
          refine W.done (QL.n (⟨j + 1, by omega⟩) ?_ ?_)
          · dsimp only
            rw [hh2]
            exact Wk.rn ([0] ) ( [])
          · dsimp only; omega
      · simp at h1
  · obtain rfl : j = M := by omega
    have e0 : (holesA q j a j).map hol = [] := by unfold holesA; rw [if_pos (.inr rfl)]; rfl
    rw [e0]
    clear hE
    (repeat (first | ((with_reducible show RG _ _ (_ :: _) _ _ _); refine RG.go1 (k := ?_)) | ((with_reducible show DG _ _ (_ :: _) _ _ _ _ _); refine DG.go1 (k := ?_)) | (with_reducible first | apply RG.nil | apply W.seq | apply W.reg | apply W.skip | apply W.block | apply W.drw | apply DG.nil | refine W.done (QB.n ?_)) | refine W.cndT ?_ | refine W.cndF ?_))
    (refine W.exit ?_; (repeat (first | (with_reducible first | refine QL.x ?_ | refine QC.x ?_ | refine QB.x ?_) | (with_reducible refine QB.o (by decide) ?_))))
    (repeat (first | ((with_reducible show RG _ _ (_ :: _) _ _ _); refine RG.go1 (k := ?_)) | ((with_reducible show DG _ _ (_ :: _) _ _ _ _ _); refine DG.go1 (k := ?_)) | (with_reducible first | apply RG.nil | apply W.seq | apply W.reg | apply W.skip | apply W.block | apply W.drw | apply DG.nil | refine W.done (QB.n ?_)) | refine W.cndT ?_ | refine W.cndF ?_))
    (refine W.ret ?_; (repeat (with_reducible first | refine QB.r ?_ | refine QL.r ?_ | refine QC.r ?_)); refine QF.r ?_)
    exact RetOk.rs (vs := [_]) r_caravellaw07_FragAgain []
theorem FragAgain_walk {r : Reach} {b0 base : Nat} {H : Type} {enc : TypeId × Value → H} {spare : Nat → Bool} {held : Bool} {d : DataW H} {p : List MemPlace} (v : Value) (turn twice : Int) (W : World) (hv : Value.okWide Try.prog W r b0 27 v) (k : DataW.Trod enc Try.prog W base spare held 27 v d p) (h1 : -9223372036854775808 ≤ turn ∧ turn ≤ 9223372036854775807) (h2 : -9223372036854775808 ≤ twice ∧ twice ≤ 9223372036854775807) :
    Calls Try.prog 5 #[v, .int .i64 turn, .int .i64 twice] W fun e W' => e = .returned (.bool true) ∧ Below W.heap.size W W' := by
  obtain ⟨q, hr, hl⟩ := pk_arg hv k
  exact acall_lawF (fragAgain_ok q (len_le hl) turn twice h1 h2) W [_, _, _] ⟨.pure _ _ hr, .pure _ _ (.int _ _), .pure _ _ (.int _ _), trivial⟩
end Go.Proofs.Ytiejnmbpejfpgaa
