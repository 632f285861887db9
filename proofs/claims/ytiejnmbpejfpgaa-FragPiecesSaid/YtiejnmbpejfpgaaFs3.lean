/- Packets: Same, same, lives; the document's Split. -/
import Derived.Test.YtiejnmbpejfpgaaFs2
namespace Go.Proofs.Ytiejnmbpejfpgaa
open Go.RowKit
set_option linter.unusedVariables false
set_option linter.unusedSimpArgs false
set_option maxRecDepth 100000
set_option maxHeartbeats 4000000
theorem rep_by8 (n : Nat) : List.replicate n (AV.int .u8 0) = (List.replicate n (0 : UInt8)).map by8 := by simp [by8]
theorem slt_of {a b : List UInt8} (h : a = b) : AV.str a = AV.str b := by rw [h]
theorem four_q (a b c d : Int) : eqTs [0, 0, 0, 0] [.int .u8 a, .int .u8 b, .int .u8 c, .int .u8 d] [.int .u8 a, .int .u8 b, .int .u8 c, .int .u8 d] = some true :=
  (eqts_i (eqts_i (eqts_i (eqts_i eqts_nil)))).trans (by simp)
theorem same_ok (p : Pk) (hl : p.dt.length ≤ 100000) : ACall Try.prog 12 [pk true p, pk true p] (.bool true) [] := by
  obtain ⟨i, mo, o, tt, pr, s0, s1, s2, s3, d0, d1, d2, d3, dt⟩ := p
  dsimp only at hl
  unfold pk pkc
  dsimp only
  have el := by8_len dt
  have q1 := four_q s0 s1 s2 s3
  have q2 := four_q d0 d1 d2 d3
  cases mo
  · refine acall_walk (N := 61) Try.func12 (by kernel_rfl) p_caravelref06_Same rfl ?_; unfold c_caravelref06_Same; dsimp only [enum, Nat.reduceAdd]
    (repeat (first | ((with_reducible show RG _ _ (_ :: _) _ _ _); refine RG.go1 (k := ?_)) | ((with_reducible show DG _ _ (_ :: _) _ _ _ _ _); refine DG.go1 (k := ?_)) | (with_reducible first | apply RG.nil | apply W.seq | apply W.reg | apply W.skip | apply W.block | apply W.drw | apply DG.nil | refine W.done (QB.n ?_)) | refine W.cndT ?_ | refine W.cndF ?_))
    (refine W.ret ?_; (repeat (with_reducible first | refine QB.r ?_ | refine QL.r ?_ | refine QC.r ?_)); refine QF.r ?_)
    exact RetOk.rs (vs := [_]) r_caravelref06_Same []
  · refine acall_walk (N := 61) Try.func12 (by kernel_rfl) p_caravelref06_Same rfl ?_; unfold c_caravelref06_Same; dsimp only [enum, Nat.reduceAdd]
    (repeat (first | ((with_reducible show RG _ _ (_ :: _) _ _ _); refine RG.go1 (k := ?_)) | ((with_reducible show DG _ _ (_ :: _) _ _ _ _ _); refine DG.go1 (k := ?_)) | (with_reducible first | apply RG.nil | apply W.seq | apply W.reg | apply W.skip | apply W.block | apply W.drw | apply DG.nil | refine W.done (QB.n ?_)) | refine W.cndT ?_ | refine W.cndF ?_))
    (refine W.ret ?_; (repeat (with_reducible first | refine QB.r ?_ | refine QL.r ?_ | refine QC.r ?_)); refine QF.r ?_)
    exact RetOk.rs (vs := [_]) r_caravelref06_Same []
theorem pk_at (l : List Pk) (i : Nat) (h : i < l.length) {j : Nat} (hj : j = i) : (l.map (pk false))[j]?.getD .any = .agg (pkc false l[i]) := at_map (pk false) l i _ (List.getElem?_eq_getElem h) hj
theorem pk_len (v : Bool) (l : List Pk) : (l.map (pk v)).length = l.length := by simp
theorem pk_le (p : Pk) : ALe (pk false p) (pk true p) := by
  unfold pk pkc
  refine .agg _ _ rfl fun i x y e1 e2 => ?_
  match i, e1, e2 with
  | 0, e1, e2 => simp at e1 e2; subst e1 e2; exact .refl _
  | 1, e1, e2 => simp at e1 e2; subst e1 e2; exact .refl _
  | 2, e1, e2 => simp at e1 e2; subst e1 e2; exact .refl _
  | 3, e1, e2 => simp at e1 e2; subst e1 e2; exact .refl _
  | 4, e1, e2 => simp at e1 e2; subst e1 e2; exact .refl _
  | 5, e1, e2 => simp at e1 e2; subst e1 e2; exact .refl _
  | 6, e1, e2 => simp at e1 e2; subst e1 e2; exact .refl _
  | 7, e1, e2 => simp at e1 e2; subst e1 e2; exact .refl _
  | 8, e1, e2 => simp at e1 e2; subst e1 e2; exact .refl _
  | 9, e1, e2 => simp at e1 e2; subst e1 e2; exact .refl _
  | 10, e1, e2 => simp at e1 e2; subst e1 e2; exact .refl _
  | 11, e1, e2 => simp at e1 e2; subst e1 e2; exact .refl _
  | 12, e1, e2 => simp at e1 e2; subst e1 e2; exact .refl _
  | 13, e1, e2 => simp at e1 e2; subst e1 e2; exact ALe.slv rfl
  | i + 14, e1, e2 => simp at e1
theorem sameF_ok (p : Pk) (hl : p.dt.length ≤ 100000) : ACall Try.prog 12 [pk false p, pk false p] (.bool true) [] := (same_ok p hl).mono ⟨pk_le p, pk_le p, trivial⟩
theorem sames_ok (l : List Pk) (hl : l.length ≤ 100000) (hd : ∀ p ∈ l, p.dt.length ≤ 100000) : ACall Try.prog 10 [.sl true 14 (l.map (pk false)), .sl true 14 (l.map (pk false))] (.bool true) [] := by
  have el := pk_len false l
  refine acall_walk (N := 27) Try.func10 (by kernel_rfl) p_caravellaw07_same rfl ?_; unfold c_caravellaw07_same; dsimp only [enum, Nat.reduceAdd]
  (repeat (first | ((with_reducible show RG _ _ (_ :: _) _ _ _); refine RG.go1 (k := ?_)) | ((with_reducible show DG _ _ (_ :: _) _ _ _ _ _); refine DG.go1 (k := ?_)) | (with_reducible first | apply RG.nil | apply W.seq | apply W.reg | apply W.skip | apply W.block | apply W.drw | apply DG.nil | refine W.done (QB.n ?_)) | refine W.cndT ?_ | refine W.cndF ?_))
  rw [el]
  refine W.loop (ι := {i : Nat // i ≤ l.length}) (fun i => ⟨[(13, .int .i64 i.1), (12, .int .i64 l.length), (0, .sl true 14 (l.map (pk false))), (1, .sl true 14 (l.map (pk false)))], [], [], 0, 0⟩) (fun i => l.length - i.1) ⟨0, Nat.zero_le _⟩ ?_ ?_
  · exact Wk.rn ([] ) ( [])
  rintro ⟨i, hi⟩
  dsimp only
  (repeat (first | ((with_reducible show RG _ _ (_ :: _) _ _ _); refine RG.go1 (k := ?_)) | ((with_reducible show DG _ _ (_ :: _) _ _ _ _ _); refine DG.go1 (k := ?_)) | (with_reducible first | apply RG.nil | apply W.seq | apply W.reg | apply W.skip | apply W.block | apply W.drw | apply DG.nil | refine W.done (QB.n ?_))))
  refine W.cnd (fun h1 => ?_) (fun h1 => ?_)
  · have hlt : i < l.length := by simp at h1; omega
    have hE := pk_at l i hlt (j := ((i : Nat) : Int).toNat) (by simp)
    have cs := sameF_ok l[i] (hd _ (List.getElem_mem hlt))
    generalize l[i] = x at *
    unfold pkc at hE
    unfold pk pkc at cs
    clear h1 hd
    (repeat (first | ((with_reducible show RG _ _ (_ :: _) _ _ _); refine RG.go1 (k := ?_)) | ((with_reducible show DG _ _ (_ :: _) _ _ _ _ _); refine DG.go1 (k := ?_)) | (with_reducible first | apply RG.nil | apply W.seq | apply W.reg | apply W.skip | apply W.block | apply W.drw | apply DG.nil | refine W.done (QB.n ?_)) | refine W.cndT ?_ | refine W.cndF ?_))
    (first | ((with_reducible show RG _ _ (_ :: _) _ _ _); refine RG.ew (cptr_of (hE) (by (conv => lhs; whnf) <;> exact rfl)) (k := ?_)) | ((with_reducible show DG _ _ (_ :: _) _ _ _ _ _); refine DG.ew (cptr_of (hE) (by (conv => lhs; whnf) <;> exact rfl)) (k := ?_)))
    (repeat (first | ((with_reducible show RG _ _ (_ :: _) _ _ _); refine RG.go1 (k := ?_)) | ((with_reducible show DG _ _ (_ :: _) _ _ _ _ _); refine DG.go1 (k := ?_)) | (with_reducible first | apply RG.nil | apply W.seq | apply W.reg | apply W.skip | apply W.block | apply W.drw | apply DG.nil | refine W.done (QB.n ?_)) | refine W.cndT ?_ | refine W.cndF ?_))
    (first | ((with_reducible show RG _ _ (_ :: _) _ _ _); refine RG.ew (cptr_of (hE) (by (conv => lhs; whnf) <;> exact rfl)) (k := ?_)) | ((with_reducible show DG _ _ (_ :: _) _ _ _ _ _); refine DG.ew (cptr_of (hE) (by (conv => lhs; whnf) <;> exact rfl)) (k := ?_)))
    (repeat (first | ((with_reducible show RG _ _ (_ :: _) _ _ _); refine RG.go1 (k := ?_)) | ((with_reducible show DG _ _ (_ :: _) _ _ _ _ _); refine DG.go1 (k := ?_)) | (with_reducible first | apply RG.nil | apply W.seq | apply W.reg | apply W.skip | apply W.block | apply W.drw | apply DG.nil | refine W.done (QB.n ?_)) | refine W.cndT ?_ | refine W.cndF ?_))
    (first | ((with_reducible show RG _ _ (_ :: _) _ _ _); refine RG.ca (cs) (k := ?_)) | ((with_reducible show DG _ _ (_ :: _) _ _ _ _ _); refine DG.ca (cs) (k := ?_)))
    (repeat (first | ((with_reducible show RG _ _ (_ :: _) _ _ _); refine RG.go1 (k := ?_)) | ((with_reducible show DG _ _ (_ :: _) _ _ _ _ _); refine DG.go1 (k := ?_)) | (with_reducible first | apply RG.nil | apply W.seq | apply W.reg | apply W.skip | apply W.block | apply W.drw | apply DG.nil | refine W.done (QB.n ?_)) | refine W.cndT ?_ | refine W.cndF ?_))
    refine W.done (QL.n (⟨i + 1, by omega⟩) ?_ ?_)
    · exact Wk.rn ([] ) ( [])
    · dsimp only; omega
  · (refine W.exit ?_; (repeat (first | (with_reducible first | refine QL.x ?_ | refine QC.x ?_ | refine QB.x ?_) | (with_reducible refine QB.o (by decide) ?_))))
    (repeat (first | ((with_reducible show RG _ _ (_ :: _) _ _ _); refine RG.go1 (k := ?_)) | ((with_reducible show DG _ _ (_ :: _) _ _ _ _ _); refine DG.go1 (k := ?_)) | (with_reducible first | apply RG.nil | apply W.seq | apply W.reg | apply W.skip | apply W.block | apply W.drw | apply DG.nil | refine W.done (QB.n ?_)) | refine W.cndT ?_ | refine W.cndF ?_))
    (refine W.ret ?_; (repeat (with_reducible first | refine QB.r ?_ | refine QL.r ?_ | refine QC.r ?_)); refine QF.r ?_)
    exact RetOk.rs (vs := [_]) r_caravellaw07_same []
theorem lives_ok : ACall Try.prog 7 [] (.bool true) [] := by
  have cs := split_ok true ⟨0, false, 0, 0, 0, 0, 0, 0, 0, 0, 0, 0, 0, List.replicate 200 0⟩ rfl rfl (by simp) (by simp)
  have e : (pieces ⟨0, false, 0, 0, 0, 0, 0, 0, 0, 0, 0, 0, 0, List.replicate 200 0⟩ (cntP (List.replicate 200 (0 : UInt8)).length)).map (pk false) = [.agg [.int .u16 0, .bool true, .int .i64 0, .int .u8 0, .int .u8 0, .int .u8 0, .int .u8 0, .int .u8 0, .int .u8 0, .int .u8 0, .int .u8 0, .int .u8 0, .int .u8 0, .sl false 1 ((List.replicate 176 0).map by8)], .agg [.int .u16 0, .bool false, .int .i64 176, .int .u8 0, .int .u8 0, .int .u8 0, .int .u8 0, .int .u8 0, .int .u8 0, .int .u8 0, .int .u8 0, .int .u8 0, .int .u8 0, .sl false 1 ((List.replicate 24 0).map by8)]] := by
    simp [cntP, pieces, List.range_succ, piece, pk, pkc, List.take_replicate, List.drop_replicate]
  dsimp only at cs
  rw [e] at cs
  clear e
  unfold pk pkc at cs
  dsimp only at cs
  have e1 : ((List.replicate 24 0).map by8).length = 24 := by simp
  generalize (List.replicate 24 0).map by8 = u at *
  generalize (List.replicate 176 0).map by8 = v at *
  obtain ⟨L, hL⟩ : ∃ L, L = [AV.agg [.int .u16 0, .bool true, .int .i64 0, .int .u8 0, .int .u8 0, .int .u8 0, .int .u8 0, .int .u8 0, .int .u8 0, .int .u8 0, .int .u8 0, .int .u8 0, .int .u8 0, .sl false 1 v], AV.agg [.int .u16 0, .bool false, .int .i64 176, .int .u8 0, .int .u8 0, .int .u8 0, .int .u8 0, .int .u8 0, .int .u8 0, .int .u8 0, .int .u8 0, .int .u8 0, .int .u8 0, .sl false 1 u]] := ⟨_, rfl⟩
  rw [← hL] at cs
  have l1 : L.length = 2 := by rw [hL]; rfl
  have E0 : L[Int.toNat 0]?.getD .any = AV.agg [.int .u16 0, .bool true, .int .i64 0, .int .u8 0, .int .u8 0, .int .u8 0, .int .u8 0, .int .u8 0, .int .u8 0, .int .u8 0, .int .u8 0, .int .u8 0, .int .u8 0, .sl false 1 v] := by rw [hL]; rfl
  have E1 : L[Int.toNat 1]?.getD .any = AV.agg [.int .u16 0, .bool false, .int .i64 176, .int .u8 0, .int .u8 0, .int .u8 0, .int .u8 0, .int .u8 0, .int .u8 0, .int .u8 0, .int .u8 0, .int .u8 0, .int .u8 0, .sl false 1 u] := by rw [hL]; rfl
  clear hL
  refine acall_walk (N := 37) Try.func7 (by kernel_rfl) p_caravellaw07_lives rfl ?_; unfold c_caravellaw07_lives; dsimp only [enum, Nat.reduceAdd]
  (repeat (first | ((with_reducible show RG _ _ (_ :: _) _ _ _); refine RG.go1 (k := ?_)) | ((with_reducible show DG _ _ (_ :: _) _ _ _ _ _); refine DG.go1 (k := ?_)) | (with_reducible first | apply RG.nil | apply W.seq | apply W.reg | apply W.skip | apply W.block | apply W.drw | apply DG.nil | refine W.done (QB.n ?_)) | refine W.cndT ?_ | refine W.cndF ?_))
  rw [show Int.toNat 200 = 200 from rfl, rep_by8]
  (repeat (first | ((with_reducible show RG _ _ (_ :: _) _ _ _); refine RG.go1 (k := ?_)) | ((with_reducible show DG _ _ (_ :: _) _ _ _ _ _); refine DG.go1 (k := ?_)) | (with_reducible first | apply RG.nil | apply W.seq | apply W.reg | apply W.skip | apply W.block | apply W.drw | apply DG.nil | refine W.done (QB.n ?_))))
  (first | ((with_reducible show RG _ _ (_ :: _) _ _ _); refine RG.ca (cs) (k := ?_)) | ((with_reducible show DG _ _ (_ :: _) _ _ _ _ _); refine DG.ca (cs) (k := ?_)))
  (repeat (first | ((with_reducible show RG _ _ (_ :: _) _ _ _); refine RG.go1 (k := ?_)) | ((with_reducible show DG _ _ (_ :: _) _ _ _ _ _); refine DG.go1 (k := ?_)) | (with_reducible first | apply RG.nil | apply W.seq | apply W.reg | apply W.skip | apply W.block | apply W.drw | apply DG.nil | refine W.done (QB.n ?_)) | refine W.cndT ?_ | refine W.cndF ?_))
  (first | ((with_reducible show RG _ _ (_ :: _) _ _ _); refine RG.ewg (cptr_of (E0) (by (conv => lhs; whnf) <;> exact rfl)) (k := ?_)) | ((with_reducible show DG _ _ (_ :: _) _ _ _ _ _); refine DG.ewg (cptr_of (E0) (by (conv => lhs; whnf) <;> exact rfl)) (k := ?_)))
  (repeat (first | ((with_reducible show RG _ _ (_ :: _) _ _ _); refine RG.go1 (k := ?_)) | ((with_reducible show DG _ _ (_ :: _) _ _ _ _ _); refine DG.go1 (k := ?_)) | (with_reducible first | apply RG.nil | apply W.seq | apply W.reg | apply W.skip | apply W.block | apply W.drw | apply DG.nil | refine W.done (QB.n ?_)) | refine W.cndT ?_ | refine W.cndF ?_))
  (first | ((with_reducible show RG _ _ (_ :: _) _ _ _); refine RG.ewg (cptr_of (E1) (by (conv => lhs; whnf) <;> exact rfl)) (k := ?_)) | ((with_reducible show DG _ _ (_ :: _) _ _ _ _ _); refine DG.ewg (cptr_of (E1) (by (conv => lhs; whnf) <;> exact rfl)) (k := ?_)))
  (repeat (first | ((with_reducible show RG _ _ (_ :: _) _ _ _); refine RG.go1 (k := ?_)) | ((with_reducible show DG _ _ (_ :: _) _ _ _ _ _); refine DG.go1 (k := ?_)) | (with_reducible first | apply RG.nil | apply W.seq | apply W.reg | apply W.skip | apply W.block | apply W.drw | apply DG.nil | refine W.done (QB.n ?_)) | refine W.cndT ?_ | refine W.cndF ?_))
  (first | ((with_reducible show RG _ _ (_ :: _) _ _ _); refine RG.ewg (cptr_of (E1) (by (conv => lhs; whnf) <;> exact rfl)) (k := ?_)) | ((with_reducible show DG _ _ (_ :: _) _ _ _ _ _); refine DG.ewg (cptr_of (E1) (by (conv => lhs; whnf) <;> exact rfl)) (k := ?_)))
  (repeat (first | ((with_reducible show RG _ _ (_ :: _) _ _ _); refine RG.go1 (k := ?_)) | ((with_reducible show DG _ _ (_ :: _) _ _ _ _ _); refine DG.go1 (k := ?_)) | (with_reducible first | apply RG.nil | apply W.seq | apply W.reg | apply W.skip | apply W.block | apply W.drw | apply DG.nil | refine W.done (QB.n ?_)) | refine W.cndT ?_ | refine W.cndF ?_))
  (refine W.ret ?_; (repeat (with_reducible first | refine QB.r ?_ | refine QL.r ?_ | refine QC.r ?_)); refine QF.r ?_)
  exact RetOk.rs (vs := [_]) r_caravellaw07_lives []
/-- How many pieces the document has. -/
def cntD (n : Nat) : Nat := max 1 (cntP n)
theorem piece0 (p : Pk) (h0 : p.o = 0) (hm : p.mo = false) (hd : p.dt = []) : piece p 0 = p := by
  obtain ⟨i, mo, o, tt, pr, s0, s1, s2, s3, d0, d1, d2, d3, dt⟩ := p
  dsimp only at h0 hm hd
  subst h0 hm hd
  rfl
theorem splitF_ok (p : Pk) (h0 : p.o = 0) (hm : p.mo = false) (hl : p.dt.length ≤ 1000) : ACall Try.prog 8 [pk false p] (.tup [.sl false 14 ((pieces p (cntD p.dt.length)).map (pk false)), .int .i64 0]) [] := by
  by_cases hd : p.dt = []
  · have := split_nil p h0 hm hd
    rw [show (pieces p (cntD p.dt.length)).map (pk false) = [pk false p] by
      rw [hd, show cntD ([] : List UInt8).length = 1 from rfl]
      simp [pieces, List.range_succ, piece0 p h0 hm hd]]
    exact this
  · have hn : 0 < p.dt.length := List.length_pos_iff.2 hd
    have := split_ok false p h0 hm hl hn
    rw [show cntD p.dt.length = cntP p.dt.length by unfold cntD cntP; omega]
    exact this
theorem dSplit_err (p : Pk) (h : p.o ≠ 0 ∨ p.mo = true) : ACall Try.prog 9 [pk false p] (.tup [.nil, .int .i64 1]) [] := by
  obtain ⟨i, mo, o, tt, pr, s0, s1, s2, s3, d0, d1, d2, d3, dt⟩ := p
  dsimp only at h
  unfold pk pkc
  dsimp only
  by_cases h0 : o = 0
  · have hm : mo = true := h.elim (fun q => absurd h0 q) id
    subst hm h0
    refine acall_walk (N := 55) Try.func9 (by kernel_rfl) p_caravelref07_Split rfl ?_; unfold c_caravelref07_Split; dsimp only [enum, Nat.reduceAdd]
    (repeat (first | ((with_reducible show RG _ _ (_ :: _) _ _ _); refine RG.go1 (k := ?_)) | ((with_reducible show DG _ _ (_ :: _) _ _ _ _ _); refine DG.go1 (k := ?_)) | (with_reducible first | apply RG.nil | apply W.seq | apply W.reg | apply W.skip | apply W.block | apply W.drw | apply DG.nil | refine W.done (QB.n ?_)) | refine W.cndT ?_ | refine W.cndF ?_))
    (refine W.ret ?_; (repeat (with_reducible first | refine QB.r ?_ | refine QL.r ?_ | refine QC.r ?_)); refine QF.r ?_)
    exact RetOk.rs (vs := [_, _]) r_caravelref07_Split []
  · clear h
    refine acall_walk (N := 55) Try.func9 (by kernel_rfl) p_caravelref07_Split rfl ?_; unfold c_caravelref07_Split; dsimp only [enum, Nat.reduceAdd]
    (repeat (first | ((with_reducible show RG _ _ (_ :: _) _ _ _); refine RG.go1 (k := ?_)) | ((with_reducible show DG _ _ (_ :: _) _ _ _ _ _); refine DG.go1 (k := ?_)) | (with_reducible first | apply RG.nil | apply W.seq | apply W.reg | apply W.skip | apply W.block | apply W.drw | apply DG.nil | refine W.done (QB.n ?_)) | refine W.cndT ?_ | refine W.cndF ?_))
    (refine W.ret ?_; (repeat (with_reducible first | refine QB.r ?_ | refine QL.r ?_ | refine QC.r ?_)); refine QF.r ?_)
    exact RetOk.rs (vs := [_, _]) r_caravelref07_Split []
theorem dSplit_long (p : Pk) (h0 : p.o = 0) (hm : p.mo = false) (hl : 1000 < p.dt.length) : ACall Try.prog 9 [pk false p] (.tup [.nil, .int .i64 4]) [] := by
  obtain ⟨i, mo, o, tt, pr, s0, s1, s2, s3, d0, d1, d2, d3, dt⟩ := p
  dsimp only at h0 hm hl
  subst h0 hm
  unfold pk pkc
  dsimp only
  have el := by8_len dt
  refine acall_walk (N := 55) Try.func9 (by kernel_rfl) p_caravelref07_Split rfl ?_; unfold c_caravelref07_Split; dsimp only [enum, Nat.reduceAdd]
  (repeat (first | ((with_reducible show RG _ _ (_ :: _) _ _ _); refine RG.go1 (k := ?_)) | ((with_reducible show DG _ _ (_ :: _) _ _ _ _ _); refine DG.go1 (k := ?_)) | (with_reducible first | apply RG.nil | apply W.seq | apply W.reg | apply W.skip | apply W.block | apply W.drw | apply DG.nil | refine W.done (QB.n ?_)) | refine W.cndT ?_ | refine W.cndF ?_))
  (refine W.ret ?_; (repeat (with_reducible first | refine QB.r ?_ | refine QL.r ?_ | refine QC.r ?_)); refine QF.r ?_)
  exact RetOk.rs (vs := [_, _]) r_caravelref07_Split []
end Go.Proofs.Ytiejnmbpejfpgaa
