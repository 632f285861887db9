/- What bridge.Forward computes. -/
import Derived.Test.YtfpgpeomcefkhaaBr5
namespace Go.Proofs.Ytfpgpeomcefkhaa
open Go.RowKit
set_option linter.unusedVariables false
set_option linter.unusedSimpArgs false
set_option maxRecDepth 100000
set_option maxHeartbeats 4000000
def iv (z : Int) : AV := .int .i64 z
theorem iv_len (l : List Int) : (l.map iv).length = l.length := by simp
def allMac : Mac := ⟨255, 255, 255, 255, 255, 255⟩
def Mac.ne (a b : Mac) : Bool := !(decide (a.a0 = b.a0) && (decide (a.a1 = b.a1) && (decide (a.a2 = b.a2) && (decide (a.a3 = b.a3) && (decide (a.a4 = b.a4) && (decide (a.a5 = b.a5) && true))))))
def outP (p : Int) (i : Nat) : List Int := ((List.range i).map fun (n : Nat) => (n : Int)).filter fun z => decide (z ≠ p)
theorem outP_len (p : Int) (i : Nat) : (outP p i).length ≤ i := by
  unfold outP; refine Nat.le_trans (List.length_filter_le _ _) ?_; simp
theorem outP_ne {p : Int} {i : Nat} (h : (i : Int) ≠ p) : outP p (i + 1) = outP p i ++ [(i : Int)] := by
  unfold outP; rw [List.range_succ]; simp [h]
theorem outP_eq {p : Int} {i : Nat} (h : (i : Int) = p) : outP p (i + 1) = outP p i := by
  unfold outP; rw [List.range_succ]; simp [h]
structure FwR where
  l : List Lrn
  out : List Int
  e : Int
def fseen (l : List Lrn) (p : Int) (s : List UInt8) : List Lrn := if (mac6 ((s.drop 6).take 6)).a0 % 2 = 1 then l else blearn l (mac6 ((s.drop 6).take 6)) p
def fout (l : List Lrn) (np : Nat) (p : Int) (d : Mac) : List Int :=
  if ((bfind l d).2 && d.ne allMac) = true then (if (bfind l d).1 = p then [] else [(bfind l d).1]) else outP p np
def bfwd (np : Nat) (l : List Lrn) (p : Int) (s : List UInt8) : FwR :=
  if p < 0 ∨ (np : Int) ≤ p then ⟨l, [], 1⟩ else if s.length < 14 then ⟨l, [], 6⟩
  else ⟨fseen l p s, fout (fseen l p s) np p (mac6 (s.take 6)), 0⟩
theorem s14 {s : List UInt8} (h : ¬ s.length < 14) : ∃ a0 a1 a2 a3 a4 a5 a6 a7 a8 a9 b0 b1 b2 b3 t, s = a0 :: a1 :: a2 :: a3 :: a4 :: a5 :: a6 :: a7 :: a8 :: a9 :: b0 :: b1 :: b2 :: b3 :: t := by
  match s, h with
  | a0 :: a1 :: a2 :: a3 :: a4 :: a5 :: a6 :: a7 :: a8 :: a9 :: b0 :: b1 :: b2 :: b3 :: t, _ => exact ⟨a0, a1, a2, a3, a4, a5, a6, a7, a8, a9, b0, b1, b2, b3, t, rfl⟩
  | [], h | [_], h | [_, _], h | [_, _, _], h | [_, _, _, _], h | [_, _, _, _, _], h | [_, _, _, _, _, _], h | [_, _, _, _, _, _, _], h | [_, _, _, _, _, _, _, _], h | [_, _, _, _, _, _, _, _, _], h | [_, _, _, _, _, _, _, _, _, _], h | [_, _, _, _, _, _, _, _, _, _, _], h | [_, _, _, _, _, _, _, _, _, _, _, _], h | [_, _, _, _, _, _, _, _, _, _, _, _, _], h => exact absurd (by simp) h
theorem bForward_ok (np : Nat) (hnp : np ≤ 8) (l : List Lrn) (hl : l.length ≤ 1000) (p : Int) (s : List UInt8) (hs : s.length ≤ 1000000) :
    ACall Try.prog 9 [.agg [.int .i64 np, .sl true 7 (l.map lrn)], .int .i64 p, .sl true 1 (s.map by8)]
      (.tup [.agg [.int .i64 np, .sl false 7 ((bfwd np l p s).l.map lrn)], .sl false 1 ((bfwd np l p s).out.map iv), .int .i64 (bfwd np l p s).e]) [] := by
  have cc := lrClone_ok l (by omega)
  have el := lr_len l
  have esl : (s.map by8).length = s.length := by simp
  unfold bfwd
  by_cases h1 : p < 0 ∨ (np : Int) ≤ p
  · rw [if_pos h1]
    rcases Int.lt_or_le p 0 with h | h
    · refine acall_walk (N := 85) Try.func9 (by kernel_rfl) p_bridge_Forward rfl ?_; unfold c_bridge_Forward; dsimp only [enum, Nat.reduceAdd]
      (repeat (first | ((with_reducible show RG _ _ (_ :: _) _ _ _); refine RG.go1 (k := ?_)) | ((with_reducible show DG _ _ (_ :: _) _ _ _ _ _); refine DG.go1 (k := ?_)) | with_reducible apply RG.nil | with_reducible apply W.seq | with_reducible apply W.reg | with_reducible apply W.skip | with_reducible apply W.block | with_reducible apply W.drw | with_reducible apply DG.nil | (with_reducible refine W.done (QB.n ?_)) | refine W.cndT ?_ | refine W.cndF ?_))
      (first | ((with_reducible show RG _ _ (_ :: _) _ _ _); refine RG.ca (cc) (k := ?_)) | ((with_reducible show DG _ _ (_ :: _) _ _ _ _ _); refine DG.ca (cc) (k := ?_)))
      (repeat (first | ((with_reducible show RG _ _ (_ :: _) _ _ _); refine RG.go1 (k := ?_)) | ((with_reducible show DG _ _ (_ :: _) _ _ _ _ _); refine DG.go1 (k := ?_)) | with_reducible apply RG.nil | with_reducible apply W.seq | with_reducible apply W.reg | with_reducible apply W.skip | with_reducible apply W.block | with_reducible apply W.drw | with_reducible apply DG.nil | (with_reducible refine W.done (QB.n ?_)) | refine W.cndT ?_ | refine W.cndF ?_))
      (refine W.ret ?_; (repeat (with_reducible first | refine QB.r ?_ | refine QL.r ?_ | refine QC.r ?_)); refine QF.r ?_)
      (refine RetOk.wk (Wk.frz (b := 0) rfl rfl) ?_; refine RetOk.wk (Wk.box (b := 1) (cs' := [_, _]) rfl (by dsimp only [ClL]; (repeat' (first | exact True.intro | exact Cl.ice rfl rfl rfl (by first | assumption | decide | omega | (simp; (first | (all_goals fail) | fail)) | (simp <;> omega)) (by first | exact take_all _ | exact take_len (by first | (simp; (first | (all_goals fail) | fail)) | (simp <;> omega)) | exact rfl) | exact Cl.le (.refl _) | apply And.intro)); (first | (all_goals fail) | fail))) ?_; dsimp only [setO])
      exact RetOk.rs (vs := [_, _, _]) r_bridge_Forward []
    · have h2 : (np : Int) ≤ p := by omega
      clear h1
      refine acall_walk (N := 85) Try.func9 (by kernel_rfl) p_bridge_Forward rfl ?_; unfold c_bridge_Forward; dsimp only [enum, Nat.reduceAdd]
      (repeat (first | ((with_reducible show RG _ _ (_ :: _) _ _ _); refine RG.go1 (k := ?_)) | ((with_reducible show DG _ _ (_ :: _) _ _ _ _ _); refine DG.go1 (k := ?_)) | with_reducible apply RG.nil | with_reducible apply W.seq | with_reducible apply W.reg | with_reducible apply W.skip | with_reducible apply W.block | with_reducible apply W.drw | with_reducible apply DG.nil | (with_reducible refine W.done (QB.n ?_)) | refine W.cndT ?_ | refine W.cndF ?_))
      (first | ((with_reducible show RG _ _ (_ :: _) _ _ _); refine RG.ca (cc) (k := ?_)) | ((with_reducible show DG _ _ (_ :: _) _ _ _ _ _); refine DG.ca (cc) (k := ?_)))
      (repeat (first | ((with_reducible show RG _ _ (_ :: _) _ _ _); refine RG.go1 (k := ?_)) | ((with_reducible show DG _ _ (_ :: _) _ _ _ _ _); refine DG.go1 (k := ?_)) | with_reducible apply RG.nil | with_reducible apply W.seq | with_reducible apply W.reg | with_reducible apply W.skip | with_reducible apply W.block | with_reducible apply W.drw | with_reducible apply DG.nil | (with_reducible refine W.done (QB.n ?_)) | refine W.cndT ?_ | refine W.cndF ?_))
      (refine W.ret ?_; (repeat (with_reducible first | refine QB.r ?_ | refine QL.r ?_ | refine QC.r ?_)); refine QF.r ?_)
      (refine RetOk.wk (Wk.frz (b := 0) rfl rfl) ?_; refine RetOk.wk (Wk.box (b := 1) (cs' := [_, _]) rfl (by dsimp only [ClL]; (repeat' (first | exact True.intro | exact Cl.ice rfl rfl rfl (by first | assumption | decide | omega | (simp; (first | (all_goals fail) | fail)) | (simp <;> omega)) (by first | exact take_all _ | exact take_len (by first | (simp; (first | (all_goals fail) | fail)) | (simp <;> omega)) | exact rfl) | exact Cl.le (.refl _) | apply And.intro)); (first | (all_goals fail) | fail))) ?_; dsimp only [setO])
      exact RetOk.rs (vs := [_, _, _]) r_bridge_Forward []
  rw [if_neg h1]
  have h1 : 0 ≤ p ∧ p < np := by omega
  by_cases h2 : s.length < 14
  · rw [if_pos h2]
    refine acall_walk (N := 85) Try.func9 (by kernel_rfl) p_bridge_Forward rfl ?_; unfold c_bridge_Forward; dsimp only [enum, Nat.reduceAdd]
    (repeat (first | ((with_reducible show RG _ _ (_ :: _) _ _ _); refine RG.go1 (k := ?_)) | ((with_reducible show DG _ _ (_ :: _) _ _ _ _ _); refine DG.go1 (k := ?_)) | with_reducible apply RG.nil | with_reducible apply W.seq | with_reducible apply W.reg | with_reducible apply W.skip | with_reducible apply W.block | with_reducible apply W.drw | with_reducible apply DG.nil | (with_reducible refine W.done (QB.n ?_)) | refine W.cndT ?_ | refine W.cndF ?_))
    (first | ((with_reducible show RG _ _ (_ :: _) _ _ _); refine RG.ca (cc) (k := ?_)) | ((with_reducible show DG _ _ (_ :: _) _ _ _ _ _); refine DG.ca (cc) (k := ?_)))
    (repeat (first | ((with_reducible show RG _ _ (_ :: _) _ _ _); refine RG.go1 (k := ?_)) | ((with_reducible show DG _ _ (_ :: _) _ _ _ _ _); refine DG.go1 (k := ?_)) | with_reducible apply RG.nil | with_reducible apply W.seq | with_reducible apply W.reg | with_reducible apply W.skip | with_reducible apply W.block | with_reducible apply W.drw | with_reducible apply DG.nil | (with_reducible refine W.done (QB.n ?_)) | refine W.cndT ?_ | refine W.cndF ?_))
    (refine W.ret ?_; (repeat (with_reducible first | refine QB.r ?_ | refine QL.r ?_ | refine QC.r ?_)); refine QF.r ?_)
    (refine RetOk.wk (Wk.frz (b := 0) rfl rfl) ?_; refine RetOk.wk (Wk.box (b := 1) (cs' := [_, _]) rfl (by dsimp only [ClL]; (repeat' (first | exact True.intro | exact Cl.ice rfl rfl rfl (by first | assumption | decide | omega | (simp; (first | (all_goals fail) | fail)) | (simp <;> omega)) (by first | exact take_all _ | exact take_len (by first | (simp; (first | (all_goals fail) | fail)) | (simp <;> omega)) | exact rfl) | exact Cl.le (.refl _) | apply And.intro)); (first | (all_goals fail) | fail))) ?_; dsimp only [setO])
    exact RetOk.rs (vs := [_, _, _]) r_bridge_Forward []
  rw [if_neg h2]
  obtain ⟨a0, a1, a2, a3, a4, a5, a6, a7, a8, a9, b0, b1, b2, b3, t, rfl⟩ := s14 h2
  have ef : fseen l p (a0 :: a1 :: a2 :: a3 :: a4 :: a5 :: a6 :: a7 :: a8 :: a9 :: b0 :: b1 :: b2 :: b3 :: t) = if (a6.toNat : Int) % 2 = 1 then l else blearn l ⟨a6.toNat, a7.toNat, a8.toNat, a9.toNat, b0.toNat, b1.toNat⟩ p := rfl
  have em : mac6 (List.take 6 (a0 :: a1 :: a2 :: a3 :: a4 :: a5 :: a6 :: a7 :: a8 :: a9 :: b0 :: b1 :: b2 :: b3 :: t)) = ⟨a0.toNat, a1.toNat, a2.toNat, a3.toNat, a4.toNat, a5.toNat⟩ := rfl
  rw [ef, em]
  clear ef em
  have hc0 : 0 ≤ (a6.toNat : Int) ∧ (a6.toNat : Int) ≤ 255 := by have := a6.toNat_lt; omega
  have hb2 : 0 ≤ (b2.toNat : Int) := by omega
  simp only [List.map, by8] at esl ⊢
  generalize (a0.toNat : Int) = d0 at *
  generalize (a1.toNat : Int) = d1 at *
  generalize (a2.toNat : Int) = d2 at *
  generalize (a3.toNat : Int) = d3 at *
  generalize (a4.toNat : Int) = d4 at *
  generalize (a5.toNat : Int) = d5 at *
  generalize (a6.toNat : Int) = c0 at *
  generalize (a7.toNat : Int) = c1 at *
  generalize (a8.toNat : Int) = c2 at *
  generalize (a9.toNat : Int) = c3 at *
  generalize (b0.toNat : Int) = c4 at *
  generalize (b1.toNat : Int) = c5 at *
  generalize (b2.toNat : Int) = x2 at *
  generalize (b3.toNat : Int) = x3 at *
  simp only [List.length_cons] at esl h2 hs
  generalize hT : t.map (fun c : UInt8 => AV.int .u8 (c.toNat : Int)) = T at *
  have q1 : (⟨false, 1, [AV.int .u8 0, AV.int .u8 0, AV.int .u8 0, AV.int .u8 0, AV.int .u8 0, AV.int .u8 0]⟩ : ARow).es.take 0 ++ ((AV.int .u8 d0 :: AV.int .u8 d1 :: AV.int .u8 d2 :: AV.int .u8 d3 :: AV.int .u8 d4 :: AV.int .u8 d5 :: AV.int .u8 c0 :: AV.int .u8 c1 :: AV.int .u8 c2 :: AV.int .u8 c3 :: AV.int .u8 c4 :: AV.int .u8 c5 :: AV.int .u8 x2 :: AV.int .u8 x3 :: t.map by8).take 6 ++ (⟨false, 1, [AV.int .u8 0, AV.int .u8 0, AV.int .u8 0, AV.int .u8 0, AV.int .u8 0, AV.int .u8 0]⟩ : ARow).es.drop (0 + 6)) = [AV.int .u8 d0, AV.int .u8 d1, AV.int .u8 d2, AV.int .u8 d3, AV.int .u8 d4, AV.int .u8 d5] := rfl
  have q2 : (⟨false, 1, [AV.int .u8 0, AV.int .u8 0, AV.int .u8 0, AV.int .u8 0, AV.int .u8 0, AV.int .u8 0]⟩ : ARow).es.take 0 ++ ((AV.int .u8 c0 :: AV.int .u8 c1 :: AV.int .u8 c2 :: AV.int .u8 c3 :: AV.int .u8 c4 :: AV.int .u8 c5 :: AV.int .u8 x2 :: AV.int .u8 x3 :: t.map by8).take 6 ++ (⟨false, 1, [AV.int .u8 0, AV.int .u8 0, AV.int .u8 0, AV.int .u8 0, AV.int .u8 0, AV.int .u8 0]⟩ : ARow).es.drop (0 + 6)) = [AV.int .u8 c0, AV.int .u8 c1, AV.int .u8 c2, AV.int .u8 c3, AV.int .u8 c4, AV.int .u8 c5] := rfl
  have q3 : ((AV.int .u8 d0 :: AV.int .u8 d1 :: AV.int .u8 d2 :: AV.int .u8 d3 :: AV.int .u8 d4 :: AV.int .u8 d5 :: AV.int .u8 c0 :: AV.int .u8 c1 :: AV.int .u8 c2 :: AV.int .u8 c3 :: AV.int .u8 c4 :: AV.int .u8 c5 :: AV.int .u8 x2 :: AV.int .u8 x3 :: t.map by8).take (((AV.int .u8 d0 :: AV.int .u8 d1 :: AV.int .u8 d2 :: AV.int .u8 d3 :: AV.int .u8 d4 :: AV.int .u8 d5 :: AV.int .u8 c0 :: AV.int .u8 c1 :: AV.int .u8 c2 :: AV.int .u8 c3 :: AV.int .u8 c4 :: AV.int .u8 c5 :: AV.int .u8 x2 :: AV.int .u8 x3 :: t.map by8).length : Nat) : Int).toNat).drop (6 : Int).toNat = AV.int .u8 c0 :: AV.int .u8 c1 :: AV.int .u8 c2 :: AV.int .u8 c3 :: AV.int .u8 c4 :: AV.int .u8 c5 :: AV.int .u8 x2 :: AV.int .u8 x3 :: t.map by8 := by rw [show (((AV.int .u8 d0 :: AV.int .u8 d1 :: AV.int .u8 d2 :: AV.int .u8 d3 :: AV.int .u8 d4 :: AV.int .u8 d5 :: AV.int .u8 c0 :: AV.int .u8 c1 :: AV.int .u8 c2 :: AV.int .u8 c3 :: AV.int .u8 c4 :: AV.int .u8 c5 :: AV.int .u8 x2 :: AV.int .u8 x3 :: t.map by8).length : Nat) : Int).toNat = (AV.int .u8 d0 :: AV.int .u8 d1 :: AV.int .u8 d2 :: AV.int .u8 d3 :: AV.int .u8 d4 :: AV.int .u8 d5 :: AV.int .u8 c0 :: AV.int .u8 c1 :: AV.int .u8 c2 :: AV.int .u8 c3 :: AV.int .u8 c4 :: AV.int .u8 c5 :: AV.int .u8 x2 :: AV.int .u8 x3 :: t.map by8).length from rfl, List.take_length]; rfl
  have cg := bGroup_ok ⟨c0, c1, c2, c3, c4, c5⟩ hc0
  dsimp only [Mac.l] at cg
  refine acall_walk (N := 85) Try.func9 (by kernel_rfl) p_bridge_Forward rfl ?_; unfold c_bridge_Forward; dsimp only [enum, Nat.reduceAdd]
  (repeat (first | ((with_reducible show RG _ _ (_ :: _) _ _ _); refine RG.go1 (k := ?_)) | ((with_reducible show DG _ _ (_ :: _) _ _ _ _ _); refine DG.go1 (k := ?_)) | with_reducible apply RG.nil | with_reducible apply W.seq | with_reducible apply W.reg | with_reducible apply W.skip | with_reducible apply W.block | with_reducible apply W.drw | with_reducible apply DG.nil | (with_reducible refine W.done (QB.n ?_)) | refine W.cndT ?_ | refine W.cndF ?_))
  (first | ((with_reducible show RG _ _ (_ :: _) _ _ _); refine RG.ca (cc) (k := ?_)) | ((with_reducible show DG _ _ (_ :: _) _ _ _ _ _); refine DG.ca (cc) (k := ?_)))
  (repeat (first | ((with_reducible show RG _ _ (_ :: _) _ _ _); refine RG.go1 (k := ?_)) | ((with_reducible show DG _ _ (_ :: _) _ _ _ _ _); refine DG.go1 (k := ?_)) | with_reducible apply RG.nil | with_reducible apply W.seq | with_reducible apply W.reg | with_reducible apply W.skip | with_reducible apply W.block | with_reducible apply W.drw | with_reducible apply DG.nil | (with_reducible refine W.done (QB.n ?_)) | refine W.cndT ?_ | refine W.cndF ?_))
  (first | ((with_reducible show RG _ _ (_ :: _) _ _ _); refine RG.sm (A.cpy (q1)) (k := ?_)) | ((with_reducible show DG _ _ (_ :: _) _ _ _ _ _); refine DG.sm (A.cpy (q1)) (k := ?_)))
  (repeat (first | ((with_reducible show RG _ _ (_ :: _) _ _ _); refine RG.go1 (k := ?_)) | ((with_reducible show DG _ _ (_ :: _) _ _ _ _ _); refine DG.go1 (k := ?_)) | with_reducible apply RG.nil | with_reducible apply W.seq | with_reducible apply W.reg | with_reducible apply W.skip | with_reducible apply W.block | with_reducible apply W.drw | with_reducible apply DG.nil | (with_reducible refine W.done (QB.n ?_)) | refine W.cndT ?_ | refine W.cndF ?_))
  (first | ((with_reducible show RG _ _ (_ :: _) _ _ _); refine RG.ew (sl_of (q3)) (k := ?_)) | ((with_reducible show DG _ _ (_ :: _) _ _ _ _ _); refine DG.ew (sl_of (q3)) (k := ?_)))
  (repeat (first | ((with_reducible show RG _ _ (_ :: _) _ _ _); refine RG.go1 (k := ?_)) | ((with_reducible show DG _ _ (_ :: _) _ _ _ _ _); refine DG.go1 (k := ?_)) | with_reducible apply RG.nil | with_reducible apply W.seq | with_reducible apply W.reg | with_reducible apply W.skip | with_reducible apply W.block | with_reducible apply W.drw | with_reducible apply DG.nil | (with_reducible refine W.done (QB.n ?_)) | refine W.cndT ?_ | refine W.cndF ?_))
  (first | ((with_reducible show RG _ _ (_ :: _) _ _ _); refine RG.sm (A.cpy (q2)) (k := ?_)) | ((with_reducible show DG _ _ (_ :: _) _ _ _ _ _); refine DG.sm (A.cpy (q2)) (k := ?_)))
  (repeat (first | ((with_reducible show RG _ _ (_ :: _) _ _ _); refine RG.go1 (k := ?_)) | ((with_reducible show DG _ _ (_ :: _) _ _ _ _ _); refine DG.go1 (k := ?_)) | with_reducible apply RG.nil | with_reducible apply W.seq | with_reducible apply W.reg | with_reducible apply W.skip | with_reducible apply W.block | with_reducible apply W.drw | with_reducible apply DG.nil | (with_reducible refine W.done (QB.n ?_)) | refine W.cndT ?_ | refine W.cndF ?_))
  (first | ((with_reducible show RG _ _ (_ :: _) _ _ _); refine RG.ca (cg) (k := ?_)) | ((with_reducible show DG _ _ (_ :: _) _ _ _ _ _); refine DG.ca (cg) (k := ?_)))
  (repeat (first | ((with_reducible show RG _ _ (_ :: _) _ _ _); refine RG.go1 (k := ?_)) | ((with_reducible show DG _ _ (_ :: _) _ _ _ _ _); refine DG.go1 (k := ?_)) | with_reducible apply RG.nil | with_reducible apply W.seq | with_reducible apply W.reg | with_reducible apply W.skip | with_reducible apply W.block | with_reducible apply W.drw | with_reducible apply DG.nil | (with_reducible refine W.done (QB.n ?_)) | refine W.cndT ?_ | refine W.cndF ?_))
  clear q1 q2 q3 cg cc esl hT h2 hs hb2
  (refine W.wk (Wk.frz (b := 0) rfl rfl) ?_ (by simp); refine W.wk (Wk.box (b := 2) (cs' := [_, _]) rfl (by dsimp only [ClL]; (repeat' (first | exact True.intro | exact Cl.ice rfl rfl rfl (by first | assumption | decide | omega | (simp; (first | (all_goals fail) | fail)) | (simp <;> omega)) (by first | exact take_all _ | exact take_len (by first | (simp; (first | (all_goals fail) | fail)) | (simp <;> omega)) | exact rfl) | exact Cl.le (.refl _) | apply And.intro)); (first | (all_goals fail) | fail))) ?_ (by simp); dsimp only [setO])
  obtain ⟨l', hl'⟩ : ∃ q, (if c0 % 2 = 1 then l else blearn l ⟨c0, c1, c2, c3, c4, c5⟩ p) = q := ⟨_, rfl⟩
  have hll : l'.length ≤ 1001 := by
    rw [← hl']; split
    · omega
    · unfold blearn btail bout
      rw [List.length_append]
      have := List.length_filter_le (fun x => !Mac.is ⟨c0, c1, c2, c3, c4, c5⟩ x) l
      split <;> simp <;> omega
  rw [hl']
  refine W.cut (ι := Unit) (fun _ => ⟨[(10, .aptr 0 6), (9, .bptr 2 0), (6, .bptr 1 0), (3, .bptr 0 0), (1, .int .i64 p)], [some [.int .i64 np, .sl true 7 (l.map lrn)], some [.int .i64 0, .nil], some [.int .i64 np, .sl false 7 (l'.map lrn)]], [some ⟨false, 1, [AV.int .u8 d0, .int .u8 d1, .int .u8 d2, .int .u8 d3, .int .u8 d4, .int .u8 d5]⟩], 3, 1⟩) ?_ (by simp) ?_
  · by_cases hp : c0 % 2 = 1
    · rw [if_pos hp] at hl'
      rw [decide_eq_true hp, hl']
      (repeat (first | ((with_reducible show RG _ _ (_ :: _) _ _ _); refine RG.go1 (k := ?_)) | ((with_reducible show DG _ _ (_ :: _) _ _ _ _ _); refine DG.go1 (k := ?_)) | with_reducible apply RG.nil | with_reducible apply W.seq | with_reducible apply W.reg | with_reducible apply W.skip | with_reducible apply W.block | with_reducible apply W.drw | with_reducible apply DG.nil | (with_reducible refine W.done (QB.n ?_)) | refine W.cndT ?_ | refine W.cndF ?_))
      refine W.done (QC.n (()) ?_)
      exact Wk.rn ([0, 1, 2] ) ( [1])
    · rw [if_neg hp] at hl'
      rw [decide_eq_false hp]
      have cl := bLearn_ok np l (by omega) ⟨c0, c1, c2, c3, c4, c5⟩ p
      rw [hl'] at cl
      dsimp only [Mac.l] at cl
      (repeat (first | ((with_reducible show RG _ _ (_ :: _) _ _ _); refine RG.go1 (k := ?_)) | ((with_reducible show DG _ _ (_ :: _) _ _ _ _ _); refine DG.go1 (k := ?_)) | with_reducible apply RG.nil | with_reducible apply W.seq | with_reducible apply W.reg | with_reducible apply W.skip | with_reducible apply W.block | with_reducible apply W.drw | with_reducible apply DG.nil | (with_reducible refine W.done (QB.n ?_)) | refine W.cndT ?_ | refine W.cndF ?_))
      (first | ((with_reducible show RG _ _ (_ :: _) _ _ _); refine RG.ca (cl) (k := ?_)) | ((with_reducible show DG _ _ (_ :: _) _ _ _ _ _); refine DG.ca (cl) (k := ?_)))
      (repeat (first | ((with_reducible show RG _ _ (_ :: _) _ _ _); refine RG.go1 (k := ?_)) | ((with_reducible show DG _ _ (_ :: _) _ _ _ _ _); refine DG.go1 (k := ?_)) | with_reducible apply RG.nil | with_reducible apply W.seq | with_reducible apply W.reg | with_reducible apply W.skip | with_reducible apply W.block | with_reducible apply W.drw | with_reducible apply DG.nil | (with_reducible refine W.done (QB.n ?_)) | refine W.cndT ?_ | refine W.cndF ?_))
      refine W.done (QC.n (()) ?_)
      exact Wk.rn ([0, 1, 2] ) ( [1])
  intro _
  clear hl' hc0 el
  have el := lr_len l'
  have cf := bFind_ok np l' (by omega) ⟨d0, d1, d2, d3, d4, d5⟩
  unfold fout
  generalize bfind l' ⟨d0, d1, d2, d3, d4, d5⟩ = r at cf ⊢
  obtain ⟨at_, ok⟩ := r
  dsimp only [Mac.l] at cf ⊢
  obtain ⟨B, hB⟩ : ∃ B, Mac.ne ⟨d0, d1, d2, d3, d4, d5⟩ allMac = B := ⟨_, rfl⟩
  rw [hB]
  have hB2 : (!(decide (d0 = 255) && (decide (d1 = 255) && (decide (d2 = 255) && (decide (d3 = 255) && (decide (d4 = 255) && (decide (d5 = 255) && true))))))) = B := hB
  with_reducible apply W.seq
  with_reducible apply W.seq
  (with_reducible first | apply W.reg | apply W.drw)
  (repeat (first | ((with_reducible show RG _ _ (_ :: _) _ _ _); refine RG.go1 (k := ?_)) | ((with_reducible show DG _ _ (_ :: _) _ _ _ _ _); refine DG.go1 (k := ?_)) | with_reducible apply RG.nil | with_reducible apply DG.nil))
  (first | ((with_reducible show RG _ _ (_ :: _) _ _ _); refine RG.ca (cf) (k := ?_)) | ((with_reducible show DG _ _ (_ :: _) _ _ _ _ _); refine DG.ca (cf) (k := ?_)))
  (repeat (first | ((with_reducible show RG _ _ (_ :: _) _ _ _); refine RG.go1 (k := ?_)) | ((with_reducible show DG _ _ (_ :: _) _ _ _ _ _); refine DG.go1 (k := ?_)) | with_reducible apply RG.nil | with_reducible apply DG.nil))
  refine W.cut (ι := {u : Unit // (ok && B) = false}) (fun _ => ⟨[(9, .bptr 2 0), (6, .bptr 1 0), (3, .bptr 0 0), (1, .int .i64 p)], [some [.int .i64 np, .sl true 7 (l.map lrn)], some [.int .i64 0, .nil], some [.int .i64 np, .sl false 7 (l'.map lrn)]], [], 3, 0⟩) ?_ (by simp) ?_
  · cases ok
    · (repeat (first | ((with_reducible show RG _ _ (_ :: _) _ _ _); refine RG.go1 (k := ?_)) | ((with_reducible show DG _ _ (_ :: _) _ _ _ _ _); refine DG.go1 (k := ?_)) | with_reducible apply RG.nil | with_reducible apply W.seq | with_reducible apply W.reg | with_reducible apply W.skip | with_reducible apply W.block | with_reducible apply W.drw | with_reducible apply DG.nil | (with_reducible refine W.done (QB.n ?_)) | refine W.cndT ?_ | refine W.cndF ?_))
      refine W.done (QC.n (⟨(), rfl⟩) ?_)
      exact Wk.rn ([0, 1, 2] ) ( [])
    · (repeat (first | ((with_reducible show RG _ _ (_ :: _) _ _ _); refine RG.go1 (k := ?_)) | ((with_reducible show DG _ _ (_ :: _) _ _ _ _ _); refine DG.go1 (k := ?_)) | with_reducible apply RG.nil | with_reducible apply W.seq | with_reducible apply W.reg | with_reducible apply W.skip | with_reducible apply W.block | with_reducible apply W.drw | with_reducible apply DG.nil | (with_reducible refine W.done (QB.n ?_)) | refine W.cndT ?_ | refine W.cndF ?_))
      (first | ((with_reducible show RG _ _ (_ :: _) _ _ _); refine RG.gca (fun _ => all_ok) (k := ?_)) | ((with_reducible show DG _ _ (_ :: _) _ _ _ _ _); refine DG.gca (fun _ => all_ok) (k := ?_)))
      (repeat (first | ((with_reducible show RG _ _ (_ :: _) _ _ _); refine RG.go1 (k := ?_)) | ((with_reducible show DG _ _ (_ :: _) _ _ _ _ _); refine DG.go1 (k := ?_)) | with_reducible apply RG.nil | with_reducible apply W.seq | with_reducible apply W.reg | with_reducible apply W.skip | with_reducible apply W.block | with_reducible apply W.drw | with_reducible apply DG.nil | (with_reducible refine W.done (QB.n ?_)) | refine W.cndT ?_ | refine W.cndF ?_))
      rw [hB2]
      cases B
      · refine W.cndF ?_
        (repeat (first | ((with_reducible show RG _ _ (_ :: _) _ _ _); refine RG.go1 (k := ?_)) | ((with_reducible show DG _ _ (_ :: _) _ _ _ _ _); refine DG.go1 (k := ?_)) | with_reducible apply RG.nil | with_reducible apply W.seq | with_reducible apply W.reg | with_reducible apply W.skip | with_reducible apply W.block | with_reducible apply W.drw | with_reducible apply DG.nil | (with_reducible refine W.done (QB.n ?_)) | refine W.cndT ?_ | refine W.cndF ?_))
        refine W.done (QC.n (⟨(), rfl⟩) ?_)
        exact Wk.rn ([0, 1, 2] ) ( [])
      · refine W.cndT ?_
        rw [if_pos (show (true && true) = true from rfl)]
        by_cases hap : at_ = p
        · rw [if_pos hap]
          (repeat (first | ((with_reducible show RG _ _ (_ :: _) _ _ _); refine RG.go1 (k := ?_)) | ((with_reducible show DG _ _ (_ :: _) _ _ _ _ _); refine DG.go1 (k := ?_)) | with_reducible apply RG.nil | with_reducible apply W.seq | with_reducible apply W.reg | with_reducible apply W.skip | with_reducible apply W.block | with_reducible apply W.drw | with_reducible apply DG.nil | (with_reducible refine W.done (QB.n ?_)) | refine W.cndT ?_ | refine W.cndF ?_))
          (refine W.ret ?_; (repeat (with_reducible first | refine QB.r ?_ | refine QL.r ?_ | refine QC.r ?_)); refine QF.r ?_)
          exact RetOk.rs (vs := [_, _, _]) r_bridge_Forward []
        · rw [if_neg hap]
          (repeat (first | ((with_reducible show RG _ _ (_ :: _) _ _ _); refine RG.go1 (k := ?_)) | ((with_reducible show DG _ _ (_ :: _) _ _ _ _ _); refine DG.go1 (k := ?_)) | with_reducible apply RG.nil | with_reducible apply W.seq | with_reducible apply W.reg | with_reducible apply W.skip | with_reducible apply W.block | with_reducible apply W.drw | with_reducible apply DG.nil | (with_reducible refine W.done (QB.n ?_)) | refine W.cndT ?_ | refine W.cndF ?_))
          (refine W.ret ?_; (repeat (with_reducible first | refine QB.r ?_ | refine QL.r ?_ | refine QC.r ?_)); refine QF.r ?_)
          (refine RetOk.wk (Wk.frz (b := 1) rfl rfl) ?_; refine RetOk.wk (Wk.tmp (t := 7) (Cl.ice rfl rfl rfl (by first | assumption | decide | omega | (simp; (first | (all_goals fail) | fail)) | (simp <;> omega)) (by first | exact take_all _ | exact take_len (by first | (simp; (first | (all_goals fail) | fail)) | (simp <;> omega)) | exact rfl))) ?_; dsimp only [setO])
          exact RetOk.rs (vs := [_, _, _]) r_bridge_Forward []
  intro ⟨_, hOB⟩
  rw [if_neg (by rw [hOB]; decide)]
  (repeat (first | ((with_reducible show RG _ _ (_ :: _) _ _ _); refine RG.go1 (k := ?_)) | ((with_reducible show DG _ _ (_ :: _) _ _ _ _ _); refine DG.go1 (k := ?_)) | with_reducible apply RG.nil | with_reducible apply W.seq | with_reducible apply W.reg | with_reducible apply W.skip | with_reducible apply W.block | with_reducible apply W.drw | with_reducible apply DG.nil | (with_reducible refine W.done (QB.n ?_)) | refine W.cndT ?_ | refine W.cndF ?_))
  refine W.wk (Wk.nilT (t := 14) 1 rfl) ?_ (by simp)
  refine W.loop (ι := {i : Nat // i ≤ np}) (fun i => ⟨[(72, .int .i64 i.1), (71, .int .i64 np), (14, .ref 0 1 0 (outP p i.1).length), (9, .bptr 2 0), (6, .bptr 1 0), (1, .int .i64 p)], [some [.int .i64 np, .sl true 7 (l.map lrn)], some [.int .i64 0, .nil], some [.int .i64 np, .sl false 7 (l'.map lrn)]], [some ⟨false, 1, (outP p i.1).map iv⟩], 3, 1⟩) (fun i => np - i.1) ⟨0, Nat.zero_le _⟩ ?_ ?_
  · have e0 : outP p 0 = [] := rfl
    dsimp only
    rw [e0]
    exact Wk.rn ([0, 1, 2] ) ( [0])
  rintro ⟨i, hi⟩
  dsimp only
  have hol := outP_len p i
  have hoe := iv_len (outP p i)
  (repeat (first | ((with_reducible show RG _ _ (_ :: _) _ _ _); refine RG.go1 (k := ?_)) | ((with_reducible show DG _ _ (_ :: _) _ _ _ _ _); refine DG.go1 (k := ?_)) | with_reducible apply RG.nil | with_reducible apply W.seq | with_reducible apply W.reg | with_reducible apply W.skip | with_reducible apply W.block | with_reducible apply W.drw | with_reducible apply DG.nil | (with_reducible refine W.done (QB.n ?_))))
  refine W.cnd (fun h3 => ?_) (fun h3 => ?_)
  · have hlt : i < np := by simp at h3; omega
    clear h3
    by_cases hip : (i : Int) = p
    · have hsn := outP_eq hip
      (repeat (first | ((with_reducible show RG _ _ (_ :: _) _ _ _); refine RG.go1 (k := ?_)) | ((with_reducible show DG _ _ (_ :: _) _ _ _ _ _); refine DG.go1 (k := ?_)) | with_reducible apply RG.nil | with_reducible apply W.seq | with_reducible apply W.reg | with_reducible apply W.skip | with_reducible apply W.block | with_reducible apply W.drw | with_reducible apply DG.nil | (with_reducible refine W.done (QB.n ?_)) | refine W.cndT ?_ | refine W.cndF ?_))
      rw [← hsn]
      refine W.done (QL.n (⟨i + 1, by omega⟩) ?_ ?_)
      · exact Wk.rn ([0, 1, 2] ) ( [0])
      · dsimp only; omega
    · have hsn := outP_ne hip
      have hs2 : (outP p i).map iv ++ [.int .i64 i] = (outP p (i + 1)).map iv := by rw [hsn, List.map_append]; rfl
      have hs3 : (outP p (i + 1)).length = (outP p i).length + 1 := by rw [hsn]; simp
      clear hsn
      (repeat (first | ((with_reducible show RG _ _ (_ :: _) _ _ _); refine RG.go1 (k := ?_)) | ((with_reducible show DG _ _ (_ :: _) _ _ _ _ _); refine DG.go1 (k := ?_)) | with_reducible apply RG.nil | with_reducible apply W.seq | with_reducible apply W.reg | with_reducible apply W.skip | with_reducible apply W.block | with_reducible apply W.drw | with_reducible apply DG.nil | (with_reducible refine W.done (QB.n ?_)) | refine W.cndT ?_ | refine W.cndF ?_))
      rw [hs2, ← hs3]
      refine W.done (QL.n (⟨i + 1, by omega⟩) ?_ ?_)
      · exact Wk.rn ([0, 1, 2] ) ( [2])
      · dsimp only; omega
  · have hlt : i = np := by simp at h3; omega
    clear h3
    subst hlt
    (refine W.exit ?_; (repeat (first | (with_reducible first | refine QL.x ?_ | refine QC.x ?_ | refine QB.x ?_) | (with_reducible refine QB.o (by decide) ?_))))
    (repeat (first | ((with_reducible show RG _ _ (_ :: _) _ _ _); refine RG.go1 (k := ?_)) | ((with_reducible show DG _ _ (_ :: _) _ _ _ _ _); refine DG.go1 (k := ?_)) | with_reducible apply RG.nil | with_reducible apply W.seq | with_reducible apply W.reg | with_reducible apply W.skip | with_reducible apply W.block | with_reducible apply W.drw | with_reducible apply DG.nil | (with_reducible refine W.done (QB.n ?_)) | refine W.cndT ?_ | refine W.cndF ?_))
    (refine W.ret ?_; (repeat (with_reducible first | refine QB.r ?_ | refine QL.r ?_ | refine QC.r ?_)); refine QF.r ?_)
    (refine RetOk.wk (Wk.frz (b := 0) rfl rfl) ?_; refine RetOk.wk (Wk.tmp (t := 7) (Cl.ice rfl rfl rfl (by first | assumption | decide | omega | (simp; (first | (all_goals fail) | fail)) | (simp <;> omega)) (by first | exact take_all _ | exact take_len (by first | (simp; (first | (all_goals fail) | fail)) | (simp <;> omega)) | exact rfl))) ?_; dsimp only [setO])
    exact RetOk.rs (vs := [_, _, _]) r_bridge_Forward []
end Go.Proofs.Ytfpgpeomcefkhaa
