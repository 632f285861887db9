/- The document's Split. -/
import Derived.Test.YtiejnmbpejfpgaaFs3
namespace Go.Proofs.Ytiejnmbpejfpgaa
open Go.RowKit
set_option linter.unusedVariables false
set_option linter.unusedSimpArgs false
set_option maxRecDepth 100000
set_option maxHeartbeats 4000000
theorem dSplit_ok (p : Pk) (h0 : p.o = 0) (hm : p.mo = false) (hl : p.dt.length ≤ 1000) : ACall Try.prog 9 [pk false p] (.tup [.sl false 14 ((pieces p (cntD p.dt.length)).map (pk false)), .int .i64 0]) [] := by
  obtain ⟨q, hq⟩ : ∃ q, q = p := ⟨p, rfl⟩
  obtain ⟨i, mo, o, tt, pr, s0, s1, s2, s3, d0, d1, d2, d3, dt⟩ := p
  dsimp only at h0 hm hl ⊢
  subst h0 hm
  rw [← hq]
  have el := by8_len dt
  have hpk : pk false q = .agg [.int .u16 i, .bool false, .int .i64 0, .int .u8 tt, .int .u8 pr, .int .u8 s0, .int .u8 s1, .int .u8 s2, .int .u8 s3, .int .u8 d0, .int .u8 d1, .int .u8 d2, .int .u8 d3, .sl false 1 (dt.map by8)] := by rw [hq]; rfl
  rw [hpk]
  have hM : (1 ≤ cntD dt.length ∧ dt.length ≤ 176 * cntD dt.length) ∧ cntD dt.length ≤ 10 ∧ ∀ j, j < cntD dt.length → j = 0 ∨ 176 * j < dt.length := by
    unfold cntD cntP
    refine ⟨by omega, by omega, fun j hj => by omega⟩
  obtain ⟨M, hMM⟩ : ∃ M, cntD dt.length = M := ⟨_, rfl⟩
  rw [hMM] at hM ⊢
  clear hMM
  obtain ⟨⟨hM1, hM2⟩, hM3, hM4⟩ := hM
  refine acall_walk (N := 55) Try.func9 (by kernel_rfl) p_caravelref07_Split rfl ?_; unfold c_caravelref07_Split; dsimp only [enum, Nat.reduceAdd]
  (repeat (first | ((with_reducible show RG _ _ (_ :: _) _ _ _); refine RG.go1 (k := ?_)) | ((with_reducible show DG _ _ (_ :: _) _ _ _ _ _); refine DG.go1 (k := ?_)) | (with_reducible first | apply RG.nil | apply W.seq | apply W.reg | apply W.skip | apply W.block | apply W.drw | apply DG.nil | refine W.done (QB.n ?_)) | refine W.cndT ?_ | refine W.cndF ?_))
  refine W.wk (Wk.nilT (t := 4) 14 rfl) ?_ (by simp)
  refine W.loop (ι := {j : Nat // j ≤ M}) (fun j => ⟨[(5, .int .i64 (176 * (j.1 : Int))), (4, .ref 0 14 0 j.1), (1, .bptr 0 0)], [some [.int .u16 i, .bool false, .int .i64 0, .int .u8 tt, .int .u8 pr, .int .u8 s0, .int .u8 s1, .int .u8 s2, .int .u8 s3, .int .u8 d0, .int .u8 d1, .int .u8 d2, .int .u8 d3, .sl false 1 (dt.map by8)]], [some ⟨false, 14, (pieces q j.1).map (pk false)⟩], 1, 1⟩) (fun j => M - j.1) ⟨0, Nat.zero_le _⟩ ?_ ?_
  · dsimp only
    rw [show pieces q 0 = [] from rfl, List.map_nil]
    exact Wk.rn ([0] ) ( [0])
  rintro ⟨j, hj⟩
  dsimp only
  by_cases hlt : j < M
  · have hj4 := hM4 j hlt
    obtain ⟨cd, hcd⟩ : ∃ cd, (dt.drop (176 * j)).take 176 = cd := ⟨_, rfl⟩
    have hcl : cd.length = min 176 (dt.length - 176 * j) := by rw [← hcd]; simp
    have hpl : ((pieces q j).map (pk false)).length = j := by rw [List.length_map, pieces_len]
    have hpl0 := pieces_len q j
    have hpp := pk_pure (pieces q j)
    have hck : ((dt.map by8).take (min (176 * (j : Int) + 176) (dt.length : Int)).toNat).drop (176 * (j : Int)).toNat = cd.map by8 := by
      rw [← hcd, ← List.map_take, ← List.map_drop]
      congr 1
      rw [List.drop_take]
      rw [show (176 * (j : Int)).toNat = 176 * j by omega]
      by_cases h5 : 176 * j + 176 ≤ dt.length
      · rw [show (min (176 * (j : Int) + 176) (dt.length : Int)).toNat - 176 * j = 176 by omega]
      · rw [show (min (176 * (j : Int) + 176) (dt.length : Int)).toNat - 176 * j = dt.length - 176 * j by omega, List.take_of_length_le (by simp), List.take_of_length_le (by simp; omega)]
    have hsn : (pieces q j).map (pk false) ++ [.agg [.int .u16 i, .bool (decide (176 * (j : Int) + 176 < (dt.length : Int))), .int .i64 (176 * (j : Int)), .int .u8 tt, .int .u8 pr, .int .u8 s0, .int .u8 s1, .int .u8 s2, .int .u8 s3, .int .u8 d0, .int .u8 d1, .int .u8 d2, .int .u8 d3, .sl false 1 (cd.map by8)]] = (pieces q (j + 1)).map (pk false) := by
      rw [pieces_s, List.map_append]
      congr 1
      have hmo : decide (176 * (j : Int) + 176 < (dt.length : Int)) = decide (176 * j + 176 < dt.length) := by
        congr 1
        apply propext
        omega
      rw [hmo]
      subst hq
      simp only [List.map_cons, List.map_nil, pk, pkc, piece, hcd]
    clear hM4 hcd hM2
    (repeat (first | ((with_reducible show RG _ _ (_ :: _) _ _ _); refine RG.go1 (k := ?_)) | ((with_reducible show DG _ _ (_ :: _) _ _ _ _ _); refine DG.go1 (k := ?_)) | (with_reducible first | apply RG.nil | apply W.seq | apply W.reg | apply W.skip | apply W.block | apply W.drw | apply DG.nil | refine W.done (QB.n ?_))))
    refine W.cnd (fun h1 => ?_) (fun h1 => ?_)
    · clear h1
      (repeat (first | ((with_reducible show RG _ _ (_ :: _) _ _ _); refine RG.go1 (k := ?_)) | ((with_reducible show DG _ _ (_ :: _) _ _ _ _ _); refine DG.go1 (k := ?_)) | (with_reducible first | apply RG.nil | apply W.seq | apply W.reg | apply W.skip | apply W.block | apply W.drw | apply DG.nil | refine W.done (QB.n ?_)) | refine W.cndT ?_ | refine W.cndF ?_))
      rw [el]
      (first | ((with_reducible show RG _ _ (_ :: _) _ _ _); refine RG.ew (sl_of (hck)) (k := ?_)) | ((with_reducible show DG _ _ (_ :: _) _ _ _ _ _); refine DG.ew (sl_of (hck)) (k := ?_)))
      (repeat (first | ((with_reducible show RG _ _ (_ :: _) _ _ _); refine RG.go1 (k := ?_)) | ((with_reducible show DG _ _ (_ :: _) _ _ _ _ _); refine DG.go1 (k := ?_)) | (with_reducible first | apply RG.nil | apply W.seq | apply W.reg | apply W.skip | apply W.block | apply W.drw | apply DG.nil | refine W.done (QB.n ?_)) | refine W.cndT ?_ | refine W.cndF ?_))
      rw [hsn, show 176 * (j : Int) + 176 = 176 * ((j + 1 : Nat) : Int) by omega]
      refine W.done (QL.n (⟨j + 1, by omega⟩) ?_ ?_)
      · exact Wk.rn ([0] ) ( [2])
      · dsimp only; omega
    · simp at h1
      omega
  · obtain rfl : j = M := by omega
    have hpl : ((pieces q j).map (pk false)).length = j := by rw [List.length_map, pieces_len]
    have hpl0 := pieces_len q j
    clear hM4
    (repeat (first | ((with_reducible show RG _ _ (_ :: _) _ _ _); refine RG.go1 (k := ?_)) | ((with_reducible show DG _ _ (_ :: _) _ _ _ _ _); refine DG.go1 (k := ?_)) | (with_reducible first | apply RG.nil | apply W.seq | apply W.reg | apply W.skip | apply W.block | apply W.drw | apply DG.nil | refine W.done (QB.n ?_)) | refine W.cndT ?_ | refine W.cndF ?_))
    (refine W.exit ?_; (repeat (first | (with_reducible first | refine QL.x ?_ | refine QC.x ?_ | refine QB.x ?_) | (with_reducible refine QB.o (by decide) ?_))))
    (repeat (first | ((with_reducible show RG _ _ (_ :: _) _ _ _); refine RG.go1 (k := ?_)) | ((with_reducible show DG _ _ (_ :: _) _ _ _ _ _); refine DG.go1 (k := ?_)) | (with_reducible first | apply RG.nil | apply W.seq | apply W.reg | apply W.skip | apply W.block | apply W.drw | apply DG.nil | refine W.done (QB.n ?_)) | refine W.cndT ?_ | refine W.cndF ?_))
    (refine W.ret ?_; (repeat (with_reducible first | refine QB.r ?_ | refine QL.r ?_ | refine QC.r ?_)); refine QF.r ?_)
    (refine RetOk.wk (Wk.frz (b := 0) rfl rfl) ?_; refine RetOk.wk (Wk.tmp (t := 2) (Cl.ice rfl rfl rfl (by first | assumption | decide | omega | (simp; (first | (all_goals fail) | fail)) | (simp <;> omega)) (by first | exact take_all _ | exact take_len (by first | (simp; (first | (all_goals fail) | fail)) | (simp <;> omega)) | exact rfl))) ?_; dsimp only [setO])
    exact RetOk.rs (vs := [_, _]) r_caravelref07_Split []
end Go.Proofs.Ytiejnmbpejfpgaa
