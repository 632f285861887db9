/- FragPieces: the walk. -/
import Derived.Test.YtiejnmbpejfpgaaFs5
namespace Go.Proofs.Ytiejnmbpejfpgaa
open Go.RowKit
set_option linter.unusedVariables false
set_option linter.unusedSimpArgs false
set_option maxRecDepth 100000
set_option maxHeartbeats 4000000
theorem pieces_at (q : Pk) (m j : Nat) (h : j < (pieces q m).length) : (pieces q m)[j] = piece q j := by simp [pieces]
theorem fragPieces_ok (p : Pk) (hL : (p.dt.length : Int) ≤ 9223372036854775807) : ACall Try.prog 4 [pk false p] (.bool true) [] := by
  have hl := lives_ok
  by_cases h10 : 1000 < p.dt.length
  · obtain ⟨i, mo, o, tt, pr, s0, s1, s2, s3, d0, d1, d2, d3, dt⟩ := p
    unfold pk pkc
    dsimp only at hL h10 ⊢
    have el := by8_len dt
    refine acall_walk (N := 114) Try.func4 (by kernel_rfl) p_caravellaw07_FragPieces rfl ?_; unfold c_caravellaw07_FragPieces; dsimp only [enum, Nat.reduceAdd]
    (repeat (first | ((with_reducible show RG _ _ (_ :: _) _ _ _); refine RG.go1 (k := ?_)) | ((with_reducible show DG _ _ (_ :: _) _ _ _ _ _); refine DG.go1 (k := ?_)) | (with_reducible first | apply RG.nil | apply W.seq | apply W.reg | apply W.skip | apply W.block | apply W.drw | apply DG.nil | refine W.done (QB.n ?_)) | refine W.cndT ?_ | refine W.cndF ?_))
    (first | ((with_reducible show RG _ _ (_ :: _) _ _ _); refine RG.ca (hl) (k := ?_)) | ((with_reducible show DG _ _ (_ :: _) _ _ _ _ _); refine DG.ca (hl) (k := ?_)))
    (repeat (first | ((with_reducible show RG _ _ (_ :: _) _ _ _); refine RG.go1 (k := ?_)) | ((with_reducible show DG _ _ (_ :: _) _ _ _ _ _); refine DG.go1 (k := ?_)) | (with_reducible first | apply RG.nil | apply W.seq | apply W.reg | apply W.skip | apply W.block | apply W.drw | apply DG.nil | refine W.done (QB.n ?_)) | refine W.cndT ?_ | refine W.cndF ?_))
    (first | ((with_reducible show RG _ _ (_ :: _) _ _ _); refine RG.ca (hl) (k := ?_)) | ((with_reducible show DG _ _ (_ :: _) _ _ _ _ _); refine DG.ca (hl) (k := ?_)))
    (repeat (first | ((with_reducible show RG _ _ (_ :: _) _ _ _); refine RG.go1 (k := ?_)) | ((with_reducible show DG _ _ (_ :: _) _ _ _ _ _); refine DG.go1 (k := ?_)) | (with_reducible first | apply RG.nil | apply W.seq | apply W.reg | apply W.skip | apply W.block | apply W.drw | apply DG.nil | refine W.done (QB.n ?_)) | refine W.cndT ?_ | refine W.cndF ?_))
    (refine W.ret ?_; (repeat (with_reducible first | refine QB.r ?_ | refine QL.r ?_ | refine QC.r ?_)); refine QF.r ?_)
    exact RetOk.rs (vs := [_]) r_caravellaw07_FragPieces []
  obtain ⟨i, mo, o, tt, pr, s0, s1, s2, s3, d0, d1, d2, d3, dt⟩ := p
  dsimp only at hL h10
  obtain ⟨q, hq⟩ : ∃ q : Pk, q = ⟨i, false, 0, tt, pr, s0, s1, s2, s3, d0, d1, d2, d3, dt⟩ := ⟨_, rfl⟩
  have hqd : q.dt = dt := by rw [hq]
  have c1 := splitF_ok q (by rw [hq]) (by rw [hq]) (by rw [hqd]; omega)
  rw [hqd] at c1
  have hpk : pk false q = .agg [.int .u16 i, .bool false, .int .i64 0, .int .u8 tt, .int .u8 pr, .int .u8 s0, .int .u8 s1, .int .u8 s2, .int .u8 s3, .int .u8 d0, .int .u8 d1, .int .u8 d2, .int .u8 d3, .sl false 1 (dt.map by8)] := by rw [hq]; rfl
  rw [hpk] at c1
  unfold pk pkc
  dsimp only
  have el := by8_len dt
  have hM : (1 ≤ cntD dt.length ∧ dt.length ≤ 176 * cntD dt.length) ∧ cntD dt.length ≤ 10 ∧ (∀ j, j < cntD dt.length → j = 0 ∨ 176 * j < dt.length) ∧ cntD dt.length = max 1 ((dt.length + 175) / 176) := by
    unfold cntD cntP
    refine ⟨by omega, by omega, fun j hj => by omega, rfl⟩
  obtain ⟨M, hMM⟩ : ∃ M, cntD dt.length = M := ⟨_, rfl⟩
  rw [hMM] at hM c1
  clear hMM
  obtain ⟨⟨hM1, hM2⟩, hM3, hM4, hM5⟩ := hM
  obtain ⟨L, hLL⟩ : ∃ L, (pieces q M).map (pk false) = L := ⟨_, rfl⟩
  rw [hLL] at c1
  have ell : L.length = M := by rw [← hLL, List.length_map, pieces_len]
  refine acall_walk (N := 114) Try.func4 (by kernel_rfl) p_caravellaw07_FragPieces rfl ?_; unfold c_caravellaw07_FragPieces; dsimp only [enum, Nat.reduceAdd]
  (repeat (first | ((with_reducible show RG _ _ (_ :: _) _ _ _); refine RG.go1 (k := ?_)) | ((with_reducible show DG _ _ (_ :: _) _ _ _ _ _); refine DG.go1 (k := ?_)) | (with_reducible first | apply RG.nil | apply W.seq | apply W.reg | apply W.skip | apply W.block | apply W.drw | apply DG.nil | refine W.done (QB.n ?_)) | refine W.cndT ?_ | refine W.cndF ?_))
  (first | ((with_reducible show RG _ _ (_ :: _) _ _ _); refine RG.ca (hl) (k := ?_)) | ((with_reducible show DG _ _ (_ :: _) _ _ _ _ _); refine DG.ca (hl) (k := ?_)))
  (repeat (first | ((with_reducible show RG _ _ (_ :: _) _ _ _); refine RG.go1 (k := ?_)) | ((with_reducible show DG _ _ (_ :: _) _ _ _ _ _); refine DG.go1 (k := ?_)) | (with_reducible first | apply RG.nil | apply W.seq | apply W.reg | apply W.skip | apply W.block | apply W.drw | apply DG.nil | refine W.done (QB.n ?_)) | refine W.cndT ?_ | refine W.cndF ?_))
  (first | ((with_reducible show RG _ _ (_ :: _) _ _ _); refine RG.ca (c1) (k := ?_)) | ((with_reducible show DG _ _ (_ :: _) _ _ _ _ _); refine DG.ca (c1) (k := ?_)))
  (repeat (first | ((with_reducible show RG _ _ (_ :: _) _ _ _); refine RG.go1 (k := ?_)) | ((with_reducible show DG _ _ (_ :: _) _ _ _ _ _); refine DG.go1 (k := ?_)) | (with_reducible first | apply RG.nil | apply W.seq | apply W.reg | apply W.skip | apply W.block | apply W.drw | apply DG.nil | refine W.done (QB.n ?_)) | refine W.cndT ?_ | refine W.cndF ?_))
  rw [ell]
  refine W.loop (ι := {j : Nat // j ≤ M}) (fun j => ⟨[(26, .int .i64 j.1), (25, .int .i64 M), (24, .sl false 14 L), (3, .sl false 14 L), (4, .int .i64 0), (5, .int .i64 ((min (176 * j.1) dt.length : Nat) : Int)), (1, .bptr 0 0)], [some [.int .u16 i, .bool false, .int .i64 0, .int .u8 tt, .int .u8 pr, .int .u8 s0, .int .u8 s1, .int .u8 s2, .int .u8 s3, .int .u8 d0, .int .u8 d1, .int .u8 d2, .int .u8 d3, .sl false 1 (dt.map by8)]], [], 1, 0⟩) (fun j => M - j.1) ⟨0, Nat.zero_le _⟩ ?_ ?_
  · dsimp only
    rw [show ((min (176 * 0) dt.length : Nat) : Int) = 0 by omega]
    exact Wk.rn ([0] ) ( [])
  rintro ⟨j, hj⟩
  dsimp only
  by_cases hlt : j < M
  · have hj4 := hM4 j hlt
    have hE : L[((j : Nat) : Int).toNat]?.getD .any = .agg (pkc false (piece q j)) := by
      rw [← hLL, pk_at (pieces q M) j (by rw [pieces_len]; exact hlt) (j := ((j : Nat) : Int).toNat) (by simp), pieces_at]
    obtain ⟨cd, hcd⟩ : ∃ cd, (dt.drop (176 * j)).take 176 = cd := ⟨_, rfl⟩
    have hcl : cd.length = min 176 (dt.length - 176 * j) := by rw [← hcd]; simp
    have ecd := by8_len cd
    rw [show pkc false (piece q j) = [.int .u16 i, .bool (decide (176 * j + 176 < dt.length)), .int .i64 (176 * (j : Int)), .int .u8 tt, .int .u8 pr, .int .u8 s0, .int .u8 s1, .int .u8 s2, .int .u8 s3, .int .u8 d0, .int .u8 d1, .int .u8 d2, .int .u8 d3, .sl false 1 (cd.map by8)] by rw [← hcd, hq]; rfl] at hE
    rw [show ((min (176 * j) dt.length : Nat) : Int) = 176 * (j : Int) by omega]
    have hb : decide (176 * j + 176 < dt.length) = decide (j + 1 < M) := by
      congr 1
      apply propext
      constructor
      · intro h; omega
      · intro h; exact (hM4 (j + 1) h).elim (fun h => by omega) (fun h => by omega)
    rw [hb] at hE
    have hck : ((dt.map by8).take (176 * (j : Int) + ((cd.map by8).length : Int)).toNat).drop (176 * (j : Int)).toNat = cd.map by8 := by
      rw [ecd, ← hcd, ← List.map_take, ← List.map_drop]
      congr 1
      rw [List.drop_take]
      rw [show (176 * (j : Int)).toNat = 176 * j by omega]
      rw [show (176 * (j : Int) + (((dt.drop (176 * j)).take 176).length : Int)).toNat - 176 * j = min 176 (dt.length - 176 * j) by rw [List.length_take, List.length_drop]; omega]
      by_cases h5 : 176 ≤ dt.length - 176 * j
      · rw [Nat.min_eq_left h5]
      · rw [Nat.min_eq_right (by omega), List.take_of_length_le (by simp), List.take_of_length_le (by simp; omega)]
    have qs := four_q s0 s1 s2 s3
    have qd := four_q d0 d1 d2 d3
    have hx : (decide (j + 1 < M) != decide ((j : Int) < (L.length : Int) - 1)) = false := by
      rw [ell, show decide ((j : Int) < (M : Int) - 1) = decide (j + 1 < M) by congr 1; apply propext; omega]
      cases decide (j + 1 < M) <;> rfl
    clear hM4 hcd hb hM5
    (repeat (first | ((with_reducible show RG _ _ (_ :: _) _ _ _); refine RG.go1 (k := ?_)) | ((with_reducible show DG _ _ (_ :: _) _ _ _ _ _); refine DG.go1 (k := ?_)) | (with_reducible first | apply RG.nil | apply W.seq | apply W.reg | apply W.skip | apply W.block | apply W.drw | apply DG.nil | refine W.done (QB.n ?_))))
    refine W.cnd (fun h1 => ?_) (fun h1 => ?_)
    · clear h1
      (repeat (first | ((with_reducible show RG _ _ (_ :: _) _ _ _); refine RG.go1 (k := ?_)) | ((with_reducible show DG _ _ (_ :: _) _ _ _ _ _); refine DG.go1 (k := ?_)) | (with_reducible first | apply RG.nil | apply W.seq | apply W.reg | apply W.skip | apply W.block | apply W.drw | apply DG.nil | refine W.done (QB.n ?_)) | refine W.cndT ?_ | refine W.cndF ?_))
      (first | ((with_reducible show RG _ _ (_ :: _) _ _ _); refine RG.ew (cptr_of (hE) (by (conv => lhs; whnf) <;> exact rfl)) (k := ?_)) | ((with_reducible show DG _ _ (_ :: _) _ _ _ _ _); refine DG.ew (cptr_of (hE) (by (conv => lhs; whnf) <;> exact rfl)) (k := ?_)))
      (repeat (first | ((with_reducible show RG _ _ (_ :: _) _ _ _); refine RG.go1 (k := ?_)) | ((with_reducible show DG _ _ (_ :: _) _ _ _ _ _); refine DG.go1 (k := ?_)) | (with_reducible first | apply RG.nil | apply W.seq | apply W.reg | apply W.skip | apply W.block | apply W.drw | apply DG.nil | refine W.done (QB.n ?_)) | refine W.cndT ?_ | refine W.cndF ?_))
      (first | ((with_reducible show RG _ _ (_ :: _) _ _ _); refine RG.ewg (sl_of hck) (k := ?_)) | ((with_reducible show DG _ _ (_ :: _) _ _ _ _ _); refine DG.ewg (sl_of hck) (k := ?_)))
      (repeat (first | ((with_reducible show RG _ _ (_ :: _) _ _ _); refine RG.go1 (k := ?_)) | ((with_reducible show DG _ _ (_ :: _) _ _ _ _ _); refine DG.go1 (k := ?_)) | (with_reducible first | apply RG.nil | apply W.seq | apply W.reg | apply W.skip | apply W.block | apply W.drw | apply DG.nil | refine W.done (QB.n ?_)) | refine W.cndT ?_ | refine W.cndF ?_))
      refine W.cnd (fun h2 => ?_) (fun h2 => ?_)
      · rw [hx] at h2
        cases h2
      (repeat (first | ((with_reducible show RG _ _ (_ :: _) _ _ _); refine RG.go1 (k := ?_)) | ((with_reducible show DG _ _ (_ :: _) _ _ _ _ _); refine DG.go1 (k := ?_)) | (with_reducible first | apply RG.nil | apply W.seq | apply W.reg | apply W.skip | apply W.block | apply W.drw | apply DG.nil | refine W.done (QB.n ?_)) | refine W.cndT ?_ | refine W.cndF ?_))
      refine W.done (QL.n (⟨j + 1, by omega⟩) ?_ ?_)
      · dsimp only
        rw [show ((min (176 * (j + 1)) dt.length : Nat) : Int) = 176 * (j : Int) + ((cd.map by8).length : Int) by omega]
        exact Wk.rn ([0] ) ( [])
      · dsimp only; omega
    · simp at h1
  · obtain rfl : j = M := by omega
    rw [show ((min (176 * j) dt.length : Nat) : Int) = (dt.length : Int) by omega]
    clear hM4
    (repeat (first | ((with_reducible show RG _ _ (_ :: _) _ _ _); refine RG.go1 (k := ?_)) | ((with_reducible show DG _ _ (_ :: _) _ _ _ _ _); refine DG.go1 (k := ?_)) | (with_reducible first | apply RG.nil | apply W.seq | apply W.reg | apply W.skip | apply W.block | apply W.drw | apply DG.nil | refine W.done (QB.n ?_)) | refine W.cndT ?_ | refine W.cndF ?_))
    (refine W.exit ?_; (repeat (first | (with_reducible first | refine QL.x ?_ | refine QC.x ?_ | refine QB.x ?_) | (with_reducible refine QB.o (by decide) ?_))))
    (repeat (first | ((with_reducible show RG _ _ (_ :: _) _ _ _); refine RG.go1 (k := ?_)) | ((with_reducible show DG _ _ (_ :: _) _ _ _ _ _); refine DG.go1 (k := ?_)) | (with_reducible first | apply RG.nil | apply W.seq | apply W.reg | apply W.skip | apply W.block | apply W.drw | apply DG.nil | refine W.done (QB.n ?_)) | refine W.cndT ?_ | refine W.cndF ?_))
    (refine W.ret ?_; (repeat (with_reducible first | refine QB.r ?_ | refine QL.r ?_ | refine QC.r ?_)); refine QF.r ?_)
    exact RetOk.rs (vs := [_]) r_caravellaw07_FragPieces []
theorem FragPieces_walk {r : Reach} {b0 base : Nat} {H : Type} {enc : TypeId × Value → H} {spare : Nat → Bool} {held : Bool} {d : DataW H} {p : List MemPlace} (v : Value) (W : World) (hv : Value.okWide Try.prog W r b0 27 v) (k : DataW.Trod enc Try.prog W base spare held 27 v d p) :
    Calls Try.prog 4 #[v] W fun e W' => e = .returned (.bool true) ∧ Below W.heap.size W W' := by
  obtain ⟨q, hr, hl⟩ := pk_arg hv k
  exact acall_lawF (fragPieces_ok q (len_le hl)) W [_] ⟨.pure _ _ hr, trivial⟩
end Go.Proofs.Ytiejnmbpejfpgaa
