/- Packets; Split. -/
import Derived.Test.YtiejnmbpejfpgaaFs1
namespace Go.Proofs.Ytiejnmbpejfpgaa
open Go.RowKit
set_option linter.unusedVariables false
set_option linter.unusedSimpArgs false
set_option maxRecDepth 100000
set_option maxHeartbeats 4000000
structure Pk where
  i : Int
  mo : Bool
  o : Int
  tt : Int
  pr : Int
  s0 : Int
  s1 : Int
  s2 : Int
  s3 : Int
  d0 : Int
  d1 : Int
  d2 : Int
  d3 : Int
  dt : List UInt8
def pkc (vol : Bool) (p : Pk) : List AV := [.int .u16 p.i, .bool p.mo, .int .i64 p.o, .int .u8 p.tt, .int .u8 p.pr, .int .u8 p.s0, .int .u8 p.s1, .int .u8 p.s2, .int .u8 p.s3, .int .u8 p.d0, .int .u8 p.d1, .int .u8 p.d2, .int .u8 p.d3, .sl vol 1 (p.dt.map by8)]
def pk (vol : Bool) (p : Pk) : AV := .agg (pkc vol p)
/-- A piece. -/
def piece (p : Pk) (j : Nat) : Pk := { p with o := 176 * j, mo := decide (176 * j + 176 < p.dt.length), dt := (p.dt.drop (176 * j)).take 176 }
def cntP (n : Nat) : Nat := (n + 175) / 176
def pieces (p : Pk) (m : Nat) : List Pk := (List.range m).map (piece p)
theorem pieces_s (p : Pk) (m : Nat) : pieces p (m + 1) = pieces p m ++ [piece p m] := by simp [pieces, List.range_succ]
theorem pieces_len (p : Pk) (m : Nat) : (pieces p m).length = m := by simp [pieces]
theorem pk_pure (l : List Pk) : (l.map (pk false)).all pureV = true := by simp [pk, pkc, pureV, pureC]
theorem split_err (vol : Bool) (p : Pk) (h : p.o ≠ 0 ∨ p.mo = true) : ACall Try.prog 8 [pk vol p] (.tup [.nil, .int .i64 1]) [] := by
  obtain ⟨i, mo, o, tt, pr, s0, s1, s2, s3, d0, d1, d2, d3, dt⟩ := p
  dsimp only at h
  unfold pk pkc
  dsimp only
  by_cases h0 : o = 0
  · have hm : mo = true := h.elim (fun q => absurd h0 q) id
    subst hm h0
    refine acallx_walk (N := 50) Try.func8 (by kernel_rfl) p_frag_Split rfl ?_
    unfold c_frag_Split
    dsimp only [enum, Nat.reduceAdd]
    refine AWX.w ?_
    (repeat (first | ((with_reducible show RG _ _ (_ :: _) _ _ _); refine RG.go1 (k := ?_)) | ((with_reducible show DG _ _ (_ :: _) _ _ _ _ _); refine DG.go1 (k := ?_)) | (with_reducible first | apply RG.nil | apply W.seq | apply W.reg | apply W.skip | apply W.block | apply W.drw | apply DG.nil | refine W.done (QB.n ?_))))
    refine W.done (QX.n ?_)
    refine AWX.w ?_
    (repeat (first | ((with_reducible show RG _ _ (_ :: _) _ _ _); refine RG.go1 (k := ?_)) | ((with_reducible show DG _ _ (_ :: _) _ _ _ _ _); refine DG.go1 (k := ?_)) | (with_reducible first | apply RG.nil | apply W.seq | apply W.reg | apply W.skip | apply W.block | apply W.drw | apply DG.nil | refine W.done (QB.n ?_)) | refine W.cndT ?_ | refine W.cndF ?_))
    refine W.ret (QX.r ?_)
    refine QF.r ?_
    exact RetOk.rs (vs := [_, _]) r_frag_Split []
  · clear h
    refine acallx_walk (N := 50) Try.func8 (by kernel_rfl) p_frag_Split rfl ?_
    unfold c_frag_Split
    dsimp only [enum, Nat.reduceAdd]
    refine AWX.w ?_
    (repeat (first | ((with_reducible show RG _ _ (_ :: _) _ _ _); refine RG.go1 (k := ?_)) | ((with_reducible show DG _ _ (_ :: _) _ _ _ _ _); refine DG.go1 (k := ?_)) | (with_reducible first | apply RG.nil | apply W.seq | apply W.reg | apply W.skip | apply W.block | apply W.drw | apply DG.nil | refine W.done (QB.n ?_))))
    refine W.done (QX.n ?_)
    refine AWX.w ?_
    (repeat (first | ((with_reducible show RG _ _ (_ :: _) _ _ _); refine RG.go1 (k := ?_)) | ((with_reducible show DG _ _ (_ :: _) _ _ _ _ _); refine DG.go1 (k := ?_)) | (with_reducible first | apply RG.nil | apply W.seq | apply W.reg | apply W.skip | apply W.block | apply W.drw | apply DG.nil | refine W.done (QB.n ?_)) | refine W.cndT ?_ | refine W.cndF ?_))
    refine W.ret (QX.r ?_)
    refine QF.r ?_
    exact RetOk.rs (vs := [_, _]) r_frag_Split []
theorem split_long (vol : Bool) (p : Pk) (h0 : p.o = 0) (hm : p.mo = false) (hl : 1000 < p.dt.length) : ACall Try.prog 8 [pk vol p] (.tup [.nil, .int .i64 4]) [] := by
  obtain ⟨i, mo, o, tt, pr, s0, s1, s2, s3, d0, d1, d2, d3, dt⟩ := p
  dsimp only at h0 hm hl
  subst h0 hm
  unfold pk pkc
  dsimp only
  have el := by8_len dt
  refine acallx_walk (N := 50) Try.func8 (by kernel_rfl) p_frag_Split rfl ?_
  unfold c_frag_Split
  dsimp only [enum, Nat.reduceAdd]
  refine AWX.w ?_
  (repeat (first | ((with_reducible show RG _ _ (_ :: _) _ _ _); refine RG.go1 (k := ?_)) | ((with_reducible show DG _ _ (_ :: _) _ _ _ _ _); refine DG.go1 (k := ?_)) | (with_reducible first | apply RG.nil | apply W.seq | apply W.reg | apply W.skip | apply W.block | apply W.drw | apply DG.nil | refine W.done (QB.n ?_))))
  refine W.done (QX.n ?_)
  refine AWX.w ?_
  (repeat (first | ((with_reducible show RG _ _ (_ :: _) _ _ _); refine RG.go1 (k := ?_)) | ((with_reducible show DG _ _ (_ :: _) _ _ _ _ _); refine DG.go1 (k := ?_)) | (with_reducible first | apply RG.nil | apply W.seq | apply W.reg | apply W.skip | apply W.block | apply W.drw | apply DG.nil | refine W.done (QB.n ?_)) | refine W.cndT ?_ | refine W.cndF ?_))
  refine W.done (QX.n ?_)
  refine AWX.w ?_
  (repeat (first | ((with_reducible show RG _ _ (_ :: _) _ _ _); refine RG.go1 (k := ?_)) | ((with_reducible show DG _ _ (_ :: _) _ _ _ _ _); refine DG.go1 (k := ?_)) | (with_reducible first | apply RG.nil | apply W.seq | apply W.reg | apply W.skip | apply W.block | apply W.drw | apply DG.nil | refine W.done (QB.n ?_)) | refine W.cndT ?_ | refine W.cndF ?_))
  refine W.ret (QX.r ?_)
  refine QF.r ?_
  exact RetOk.rs (vs := [_, _]) r_frag_Split []
theorem split_ok (vol : Bool) (p : Pk) (h0 : p.o = 0) (hm : p.mo = false) (hl : p.dt.length ≤ 1000) (hne : 0 < p.dt.length) : ACall Try.prog 8 [pk vol p] (.tup [.sl false 14 ((pieces p (cntP p.dt.length)).map (pk false)), .int .i64 0]) [] := by
  obtain ⟨q, hq⟩ : ∃ q, q = p := ⟨p, rfl⟩
  obtain ⟨i, mo, o, tt, pr, s0, s1, s2, s3, d0, d1, d2, d3, dt⟩ := p
  dsimp only at h0 hm hl hne ⊢
  subst h0 hm
  rw [← hq]
  have el := by8_len dt
  have hit := chunk_iter vol (dt.map by8) (by omega)
  have hcv := chunk_v vol (dt.map by8) (by omega)
  rw [el] at hit
  have hpk : pk vol q = .agg [.int .u16 i, .bool false, .int .i64 0, .int .u8 tt, .int .u8 pr, .int .u8 s0, .int .u8 s1, .int .u8 s2, .int .u8 s3, .int .u8 d0, .int .u8 d1, .int .u8 d2, .int .u8 d3, .sl vol 1 (dt.map by8)] := by rw [hq]; rfl
  rw [hpk]
  refine acallx_walk (N := 50) Try.func8 (by kernel_rfl) p_frag_Split rfl ?_
  unfold c_frag_Split
  dsimp only [enum, Nat.reduceAdd]
  refine AWX.w ?_
  (repeat (first | ((with_reducible show RG _ _ (_ :: _) _ _ _); refine RG.go1 (k := ?_)) | ((with_reducible show DG _ _ (_ :: _) _ _ _ _ _); refine DG.go1 (k := ?_)) | (with_reducible first | apply RG.nil | apply W.seq | apply W.reg | apply W.skip | apply W.block | apply W.drw | apply DG.nil | refine W.done (QB.n ?_))))
  refine W.done (QX.n ?_)
  refine AWX.w ?_
  (repeat (first | ((with_reducible show RG _ _ (_ :: _) _ _ _); refine RG.go1 (k := ?_)) | ((with_reducible show DG _ _ (_ :: _) _ _ _ _ _); refine DG.go1 (k := ?_)) | (with_reducible first | apply RG.nil | apply W.seq | apply W.reg | apply W.skip | apply W.block | apply W.drw | apply DG.nil | refine W.done (QB.n ?_)) | refine W.cndT ?_ | refine W.cndF ?_))
  refine W.done (QX.n ?_)
  refine AWX.w ?_
  (repeat (first | ((with_reducible show RG _ _ (_ :: _) _ _ _); refine RG.go1 (k := ?_)) | ((with_reducible show DG _ _ (_ :: _) _ _ _ _ _); refine DG.go1 (k := ?_)) | (with_reducible first | apply RG.nil | apply W.seq | apply W.reg | apply W.skip | apply W.block | apply W.drw | apply DG.nil | refine W.done (QB.n ?_)) | refine W.cndT ?_ | refine W.cndF ?_))
  refine W.done (QX.n ?_)
  refine AWX.w ?_
  (repeat (first | ((with_reducible show RG _ _ (_ :: _) _ _ _); refine RG.go1 (k := ?_)) | ((with_reducible show DG _ _ (_ :: _) _ _ _ _ _); refine DG.go1 (k := ?_)) | (with_reducible first | apply RG.nil | apply W.seq | apply W.reg | apply W.skip | apply W.block | apply W.drw | apply DG.nil | refine W.done (QB.n ?_)) | refine W.cndT ?_ | refine W.cndF ?_))
  refine W.done (QX.n ?_)
  refine AWX.v ?_
  refine AWX.w ?_
  (repeat (first | ((with_reducible show RG _ _ (_ :: _) _ _ _); refine RG.go1 (k := ?_)) | ((with_reducible show DG _ _ (_ :: _) _ _ _ _ _); refine DG.go1 (k := ?_)) | (with_reducible first | apply RG.nil | apply W.seq | apply W.reg | apply W.skip | apply W.block | apply W.drw | apply DG.nil | refine W.done (QB.n ?_)) | refine W.cndT ?_ | refine W.cndF ?_))
  refine RG.vcall hcv rfl (fun x hx => ?_) ?_
  · simp at hx
    rcases hx with rfl | rfl
    · exact ⟨trivial, rfl⟩
    · exact ⟨trivial, rfl⟩
  (repeat (first | ((with_reducible show RG _ _ (_ :: _) _ _ _); refine RG.go1 (k := ?_)) | ((with_reducible show DG _ _ (_ :: _) _ _ _ _ _); refine DG.go1 (k := ?_)) | (with_reducible first | apply RG.nil | apply W.seq | apply W.reg | apply W.skip | apply W.block | apply W.drw | apply DG.nil | refine W.done (QB.n ?_))))
  refine W.done (QX.n ?_)
  refine AWX.blk ?_
  refine AWX.rf (cnt := cntP dt.length) (nB := 2) (nb := 2) (nr := 1) (tmK := [(1, .bptr 0 0), (4, .bptr 1 0)]) (bxs := fun j => [some [.int .u16 i, .bool false, .int .i64 0, .int .u8 tt, .int .u8 pr, .int .u8 s0, .int .u8 s1, .int .u8 s2, .int .u8 s3, .int .u8 d0, .int .u8 d1, .int .u8 d2, .int .u8 d3, .sl vol 1 (dt.map by8)], some [.ref 0 14 0 j]]) (rws := fun j => [some ⟨false, 14, (pieces q j).map (pk false)⟩]) rfl (fn_free fun x hx => ?_) hit (by decide) (by decide) ?_ (fun t => ?_) (fun b hb => ?_) (fun gb j hj => ?_) ⟨rfl, ?_⟩
  · simp at hx
    rcases hx with rfl | rfl
    · exact ⟨_, rfl, fun y hy => by simp at hy; subst hy; rfl⟩
    · exact ⟨_, rfl, fun y hy => by simp at hy; subst hy; rfl⟩
  · rw [show pieces q 0 = [] from rfl, List.map_nil]
    refine Wk.trans (Wk.nilB (b := 1) (i := 0) 14 rfl rfl) ?_
    exact Wk.rn ([0, 1] ) ( [0])
  · simp only [gT]
    cases (1 == t) <;> cases (4 == t) <;> rfl
  · rcases (show b = 0 ∨ b = 1 by omega) with rfl | rfl
    · exact ⟨1, 0, rfl⟩
    · exact ⟨4, 0, rfl⟩
  · have hlt : 176 * j < dt.length := by unfold cntP at hj; omega
    obtain ⟨cd, hcd⟩ : ∃ cd, (dt.drop (176 * j)).take 176 = cd := ⟨_, rfl⟩
    have hcl : cd.length = min 176 (dt.length - 176 * j) := by rw [← hcd]; simp
    have hck : chk (dt.map by8) j = cd.map by8 := by unfold chk; rw [← hcd, ← List.map_drop, ← List.map_take]
    have ecd := by8_len cd
    have cc := ybClone_ok cd (by omega)
    have hpl : ((pieces q j).map (pk false)).length = j := by rw [List.length_map, pieces_len]
    have hpl0 := pieces_len q j
    have hpp := pk_pure (pieces q j)
    have hsn : (pieces q j).map (pk false) ++ [.agg [.int .u16 i, .bool (decide (176 * (j : Int) + (cd.length : Int) < (dt.length : Int))), .int .i64 (176 * (j : Int)), .int .u8 tt, .int .u8 pr, .int .u8 s0, .int .u8 s1, .int .u8 s2, .int .u8 s3, .int .u8 d0, .int .u8 d1, .int .u8 d2, .int .u8 d3, .sl false 1 (cd.map by8)]] = (pieces q (j + 1)).map (pk false) := by
      rw [pieces_s, List.map_append]
      congr 1
      have hmo : decide (176 * (j : Int) + (cd.length : Int) < (dt.length : Int)) = decide (176 * j + 176 < dt.length) := by
        congr 1
        apply propext
        omega
      rw [hmo]
      subst hq
      simp only [List.map_cons, List.map_nil, pk, pkc, piece, hcd]
    rw [hck]
    clear hck hit hcv hcd
    dsimp only [ghB, List.cons_append, List.nil_append, Nat.zero_add, Nat.reduceAdd]
    (repeat (first | ((with_reducible show RG _ _ (_ :: _) _ _ _); refine RG.go1 (k := ?_)) | ((with_reducible show DG _ _ (_ :: _) _ _ _ _ _); refine DG.go1 (k := ?_)) | (with_reducible first | apply RG.nil | apply W.seq | apply W.reg | apply W.skip | apply W.block | apply W.drw | apply DG.nil | refine W.done (QB.n ?_))))
    (first | ((with_reducible show RG _ _ (_ :: _) _ _ _); refine RG.ca (cc) (k := ?_)) | ((with_reducible show DG _ _ (_ :: _) _ _ _ _ _); refine DG.ca (cc) (k := ?_)))
    (repeat (first | ((with_reducible show RG _ _ (_ :: _) _ _ _); refine RG.go1 (k := ?_)) | ((with_reducible show DG _ _ (_ :: _) _ _ _ _ _); refine DG.go1 (k := ?_)) | (with_reducible first | apply RG.nil | apply W.seq | apply W.reg | apply W.skip | apply W.block | apply W.drw | apply DG.nil | refine W.done (QB.n ?_))))
    rw [ecd, el]
    (repeat (first | ((with_reducible show RG _ _ (_ :: _) _ _ _); refine RG.go1 (k := ?_)) | ((with_reducible show DG _ _ (_ :: _) _ _ _ _ _); refine DG.go1 (k := ?_)) | (with_reducible first | apply RG.nil | apply W.seq | apply W.reg | apply W.skip | apply W.block | apply W.drw | apply DG.nil | refine W.done (QB.n ?_))))
    rw [hsn]
    refine W.done ⟨rfl, [(1000000, .batt 0 (gb 0)), (1000001, .batt 1 (gb 1))], ?_, fun b hb => ?_⟩
    · dsimp only
      exact Wk.rn ([0, 1] ) ( [3])
    · rcases (show b = 0 ∨ b = 1 by omega) with rfl | rfl
      · rfl
      · rfl
  · have hcp : 0 < cntP dt.length ∧ cntP dt.length ≤ 10 := by unfold cntP; omega
    have hpl : ((pieces q (cntP dt.length)).map (pk false)).length = cntP dt.length := by rw [List.length_map, pieces_len]
    generalize (pieces q (cntP dt.length)).map (pk false) = l at *
    generalize cntP dt.length = m at *
    refine QY.n ?_
    (repeat (first | ((with_reducible show RG _ _ (_ :: _) _ _ _); refine RG.go1 (k := ?_)) | ((with_reducible show DG _ _ (_ :: _) _ _ _ _ _); refine DG.go1 (k := ?_)) | (with_reducible first | apply RG.nil | apply W.seq | apply W.reg | apply W.skip | apply W.block | apply W.drw | apply DG.nil | refine W.done (QB.n ?_)) | refine W.cndT ?_ | refine W.cndF ?_))
    (refine W.ret ?_; (repeat (with_reducible first | refine QB.r ?_ | refine QL.r ?_ | refine QC.r ?_)); refine QF.r ?_)
    (refine RetOk.wk (Wk.frz (b := 0) rfl rfl) ?_; refine RetOk.wk (Wk.tmp (t := 2) (Cl.ice rfl rfl rfl (by first | assumption | decide | omega | (simp; (first | (all_goals fail) | fail)) | (simp <;> omega)) (by first | exact take_all _ | exact take_len (by first | (simp; (first | (all_goals fail) | fail)) | (simp <;> omega)) | exact rfl))) ?_; dsimp only [setO])
    exact RetOk.rs (vs := [_, _]) r_frag_Split []
theorem split_nil (p : Pk) (h0 : p.o = 0) (hm : p.mo = false) (hne : p.dt = []) : ACall Try.prog 8 [pk false p] (.tup [.sl false 14 [pk false p], .int .i64 0]) [] := by
  obtain ⟨i, mo, o, tt, pr, s0, s1, s2, s3, d0, d1, d2, d3, dt⟩ := p
  dsimp only at h0 hm hne ⊢
  subst h0 hm hne
  have hit := chunk_iter false [] (by decide)
  have hcv := chunk_v false [] (by decide)
  unfold pk pkc
  dsimp only [List.map_nil]
  refine acallx_walk (N := 50) Try.func8 (by kernel_rfl) p_frag_Split rfl ?_
  unfold c_frag_Split
  dsimp only [enum, Nat.reduceAdd]
  refine AWX.w ?_
  (repeat (first | ((with_reducible show RG _ _ (_ :: _) _ _ _); refine RG.go1 (k := ?_)) | ((with_reducible show DG _ _ (_ :: _) _ _ _ _ _); refine DG.go1 (k := ?_)) | (with_reducible first | apply RG.nil | apply W.seq | apply W.reg | apply W.skip | apply W.block | apply W.drw | apply DG.nil | refine W.done (QB.n ?_))))
  refine W.done (QX.n ?_)
  refine AWX.w ?_
  (repeat (first | ((with_reducible show RG _ _ (_ :: _) _ _ _); refine RG.go1 (k := ?_)) | ((with_reducible show DG _ _ (_ :: _) _ _ _ _ _); refine DG.go1 (k := ?_)) | (with_reducible first | apply RG.nil | apply W.seq | apply W.reg | apply W.skip | apply W.block | apply W.drw | apply DG.nil | refine W.done (QB.n ?_)) | refine W.cndT ?_ | refine W.cndF ?_))
  refine W.done (QX.n ?_)
  refine AWX.w ?_
  (repeat (first | ((with_reducible show RG _ _ (_ :: _) _ _ _); refine RG.go1 (k := ?_)) | ((with_reducible show DG _ _ (_ :: _) _ _ _ _ _); refine DG.go1 (k := ?_)) | (with_reducible first | apply RG.nil | apply W.seq | apply W.reg | apply W.skip | apply W.block | apply W.drw | apply DG.nil | refine W.done (QB.n ?_)) | refine W.cndT ?_ | refine W.cndF ?_))
  refine W.done (QX.n ?_)
  refine AWX.w ?_
  (repeat (first | ((with_reducible show RG _ _ (_ :: _) _ _ _); refine RG.go1 (k := ?_)) | ((with_reducible show DG _ _ (_ :: _) _ _ _ _ _); refine DG.go1 (k := ?_)) | (with_reducible first | apply RG.nil | apply W.seq | apply W.reg | apply W.skip | apply W.block | apply W.drw | apply DG.nil | refine W.done (QB.n ?_)) | refine W.cndT ?_ | refine W.cndF ?_))
  refine W.done (QX.n ?_)
  refine AWX.v ?_
  refine AWX.w ?_
  (repeat (first | ((with_reducible show RG _ _ (_ :: _) _ _ _); refine RG.go1 (k := ?_)) | ((with_reducible show DG _ _ (_ :: _) _ _ _ _ _); refine DG.go1 (k := ?_)) | (with_reducible first | apply RG.nil | apply W.seq | apply W.reg | apply W.skip | apply W.block | apply W.drw | apply DG.nil | refine W.done (QB.n ?_)) | refine W.cndT ?_ | refine W.cndF ?_))
  refine RG.vcall hcv rfl (fun x hx => ?_) ?_
  · simp at hx
    rcases hx with rfl | rfl
    · exact ⟨trivial, rfl⟩
    · exact ⟨trivial, rfl⟩
  (repeat (first | ((with_reducible show RG _ _ (_ :: _) _ _ _); refine RG.go1 (k := ?_)) | ((with_reducible show DG _ _ (_ :: _) _ _ _ _ _); refine DG.go1 (k := ?_)) | (with_reducible first | apply RG.nil | apply W.seq | apply W.reg | apply W.skip | apply W.block | apply W.drw | apply DG.nil | refine W.done (QB.n ?_))))
  refine W.done (QX.n ?_)
  refine AWX.blk ?_
  refine AWX.rf (cnt := 0) (nB := 2) (nb := 2) (nr := 0) (tmK := [(1, .bptr 0 0), (4, .bptr 1 0)]) (bxs := fun j => [some [.int .u16 i, .bool false, .int .i64 0, .int .u8 tt, .int .u8 pr, .int .u8 s0, .int .u8 s1, .int .u8 s2, .int .u8 s3, .int .u8 d0, .int .u8 d1, .int .u8 d2, .int .u8 d3, .sl false 1 []], some [.nil]]) (rws := fun j => []) rfl (fn_free fun x hx => ?_) hit (by decide) (by decide) ?_ (fun t => ?_) (fun b hb => ?_) (fun gb j hj => absurd hj (Nat.not_lt_zero _)) ⟨rfl, ?_⟩
  · simp at hx
    rcases hx with rfl | rfl
    · exact ⟨_, rfl, fun y hy => by simp at hy; subst hy; rfl⟩
    · exact ⟨_, rfl, fun y hy => by simp at hy; subst hy; rfl⟩
  · exact Wk.rn ([0, 1] ) ( [])
  · simp only [gT]
    cases (1 == t) <;> cases (4 == t) <;> rfl
  · rcases (show b = 0 ∨ b = 1 by omega) with rfl | rfl
    · exact ⟨1, 0, rfl⟩
    · exact ⟨4, 0, rfl⟩
  · refine QY.n ?_
    (repeat (first | ((with_reducible show RG _ _ (_ :: _) _ _ _); refine RG.go1 (k := ?_)) | ((with_reducible show DG _ _ (_ :: _) _ _ _ _ _); refine DG.go1 (k := ?_)) | (with_reducible first | apply RG.nil | apply W.seq | apply W.reg | apply W.skip | apply W.block | apply W.drw | apply DG.nil | refine W.done (QB.n ?_)) | refine W.cndT ?_ | refine W.cndF ?_))
    (refine W.ret ?_; (repeat (with_reducible first | refine QB.r ?_ | refine QL.r ?_ | refine QC.r ?_)); refine QF.r ?_)
    (refine RetOk.wk (Wk.frz (b := 0) rfl rfl) ?_; refine RetOk.wk (Wk.tmp (t := 2) (Cl.ice rfl rfl rfl (by first | assumption | decide | omega | (simp; (first | (all_goals fail) | fail)) | (simp <;> omega)) (by first | exact take_all _ | exact take_len (by first | (simp; (first | (all_goals fail) | fail)) | (simp <;> omega)) | exact rfl))) ?_; dsimp only [setO])
    exact RetOk.rs (vs := [_, _]) r_frag_Split []
end Go.Proofs.Ytiejnmbpejfpgaa
