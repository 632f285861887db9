/- Heaps: Clone, New, find, inside, mark. -/
import Derived.Test.YtjacmhaeemhinaaHs1
namespace Go.Proofs.Ytjacmhaeemhinaa
open Go.RowKit
set_option linter.unusedVariables false
set_option linter.unusedSimpArgs false
set_option maxRecDepth 100000
set_option maxHeartbeats 4000000
structure Hp where
  s : List UInt8
  l : List Blk
  d : List Bool
def hv (vol : Bool) (h : Hp) : AV := .agg [.sl vol 1 (h.s.map by8), .sl vol 2 (h.l.map bk), .sl vol 1 (h.d.map bo)]
structure Hp.Few (h : Hp) : Prop where
  s : h.s.length ≤ 100000
  l : h.l.length ≤ 100000
  d : h.d.length ≤ 100000
theorem hClone_ok (h : Hp) (hf : h.Few) : ACall Try.prog 23 [hv true h] (.agg [.ref 0 1 0 h.s.length, .ref 1 2 0 h.l.length, .ref 2 1 0 h.d.length]) [⟨false, 1, h.s.map by8⟩, ⟨false, 2, h.l.map bk⟩, ⟨false, 1, h.d.map bo⟩] := by
  have h1 := hf.s; have h2 := hf.l; have h3 := hf.d
  have c1 := ybClone_ok h.s (by omega)
  have c2 := bkClone_ok h.l (by omega)
  have c3 := bbClone_ok h.d (by omega)
  unfold hv
  refine acall_walk (N := 13) Try.func23 (by kernel_rfl) p_heap_Clone rfl ?_; unfold c_heap_Clone; dsimp only [enum, Nat.reduceAdd]
  (repeat (first | ((with_reducible show RG _ _ (_ :: _) _ _ _); refine RG.go1 (k := ?_)) | ((with_reducible show DG _ _ (_ :: _) _ _ _ _ _); refine DG.go1 (k := ?_)) | (with_reducible first | apply RG.nil | apply W.seq | apply W.reg | apply W.skip | apply W.block | apply W.drw | apply DG.nil | refine W.done (QB.n ?_)) | refine W.cndT ?_ | refine W.cndF ?_))
  (first | ((with_reducible show RG _ _ (_ :: _) _ _ _); refine RG.ca (c1) (k := ?_)) | ((with_reducible show DG _ _ (_ :: _) _ _ _ _ _); refine DG.ca (c1) (k := ?_)))
  (repeat (first | ((with_reducible show RG _ _ (_ :: _) _ _ _); refine RG.go1 (k := ?_)) | ((with_reducible show DG _ _ (_ :: _) _ _ _ _ _); refine DG.go1 (k := ?_)) | (with_reducible first | apply RG.nil | apply W.seq | apply W.reg | apply W.skip | apply W.block | apply W.drw | apply DG.nil | refine W.done (QB.n ?_)) | refine W.cndT ?_ | refine W.cndF ?_))
  (first | ((with_reducible show RG _ _ (_ :: _) _ _ _); refine RG.ca (c2) (k := ?_)) | ((with_reducible show DG _ _ (_ :: _) _ _ _ _ _); refine DG.ca (c2) (k := ?_)))
  (repeat (first | ((with_reducible show RG _ _ (_ :: _) _ _ _); refine RG.go1 (k := ?_)) | ((with_reducible show DG _ _ (_ :: _) _ _ _ _ _); refine DG.go1 (k := ?_)) | (with_reducible first | apply RG.nil | apply W.seq | apply W.reg | apply W.skip | apply W.block | apply W.drw | apply DG.nil | refine W.done (QB.n ?_)) | refine W.cndT ?_ | refine W.cndF ?_))
  (first | ((with_reducible show RG _ _ (_ :: _) _ _ _); refine RG.ca (c3) (k := ?_)) | ((with_reducible show DG _ _ (_ :: _) _ _ _ _ _); refine DG.ca (c3) (k := ?_)))
  (repeat (first | ((with_reducible show RG _ _ (_ :: _) _ _ _); refine RG.go1 (k := ?_)) | ((with_reducible show DG _ _ (_ :: _) _ _ _ _ _); refine DG.go1 (k := ?_)) | (with_reducible first | apply RG.nil | apply W.seq | apply W.reg | apply W.skip | apply W.block | apply W.drw | apply DG.nil | refine W.done (QB.n ?_)) | refine W.cndT ?_ | refine W.cndF ?_))
  (refine W.ret ?_; (repeat (with_reducible first | refine QB.r ?_ | refine QL.r ?_ | refine QC.r ?_)); refine QF.r ?_)
  exact RetOk.rs (vs := [_]) r_heap_Clone [0, 1, 2]
theorem hCloneF_ok (h : Hp) (hf : h.Few) : ACall Try.prog 23 [hv true h] (hv false h) [] := by
  have h1 := hf.s; have h2 := hf.l; have h3 := hf.d
  have e1 := by8_len h.s
  have e2 := bk_len h.l
  have e3 := bo_len h.d
  have c1 := ybClone_ok h.s (by omega)
  have c2 := bkClone_ok h.l (by omega)
  have c3 := bbClone_ok h.d (by omega)
  unfold hv
  refine acall_walk (N := 13) Try.func23 (by kernel_rfl) p_heap_Clone rfl ?_; unfold c_heap_Clone; dsimp only [enum, Nat.reduceAdd]
  (repeat (first | ((with_reducible show RG _ _ (_ :: _) _ _ _); refine RG.go1 (k := ?_)) | ((with_reducible show DG _ _ (_ :: _) _ _ _ _ _); refine DG.go1 (k := ?_)) | (with_reducible first | apply RG.nil | apply W.seq | apply W.reg | apply W.skip | apply W.block | apply W.drw | apply DG.nil | refine W.done (QB.n ?_)) | refine W.cndT ?_ | refine W.cndF ?_))
  (first | ((with_reducible show RG _ _ (_ :: _) _ _ _); refine RG.ca (c1) (k := ?_)) | ((with_reducible show DG _ _ (_ :: _) _ _ _ _ _); refine DG.ca (c1) (k := ?_)))
  (repeat (first | ((with_reducible show RG _ _ (_ :: _) _ _ _); refine RG.go1 (k := ?_)) | ((with_reducible show DG _ _ (_ :: _) _ _ _ _ _); refine DG.go1 (k := ?_)) | (with_reducible first | apply RG.nil | apply W.seq | apply W.reg | apply W.skip | apply W.block | apply W.drw | apply DG.nil | refine W.done (QB.n ?_)) | refine W.cndT ?_ | refine W.cndF ?_))
  (first | ((with_reducible show RG _ _ (_ :: _) _ _ _); refine RG.ca (c2) (k := ?_)) | ((with_reducible show DG _ _ (_ :: _) _ _ _ _ _); refine DG.ca (c2) (k := ?_)))
  (repeat (first | ((with_reducible show RG _ _ (_ :: _) _ _ _); refine RG.go1 (k := ?_)) | ((with_reducible show DG _ _ (_ :: _) _ _ _ _ _); refine DG.go1 (k := ?_)) | (with_reducible first | apply RG.nil | apply W.seq | apply W.reg | apply W.skip | apply W.block | apply W.drw | apply DG.nil | refine W.done (QB.n ?_)) | refine W.cndT ?_ | refine W.cndF ?_))
  (first | ((with_reducible show RG _ _ (_ :: _) _ _ _); refine RG.ca (c3) (k := ?_)) | ((with_reducible show DG _ _ (_ :: _) _ _ _ _ _); refine DG.ca (c3) (k := ?_)))
  (repeat (first | ((with_reducible show RG _ _ (_ :: _) _ _ _); refine RG.go1 (k := ?_)) | ((with_reducible show DG _ _ (_ :: _) _ _ _ _ _); refine DG.go1 (k := ?_)) | (with_reducible first | apply RG.nil | apply W.seq | apply W.reg | apply W.skip | apply W.block | apply W.drw | apply DG.nil | refine W.done (QB.n ?_)) | refine W.cndT ?_ | refine W.cndF ?_))
  (refine W.ret ?_; (repeat (with_reducible first | refine QB.r ?_ | refine QL.r ?_ | refine QC.r ?_)); refine QF.r ?_)
  (refine RetOk.wk (Wk.frz (b := 0) rfl rfl) ?_; dsimp only [setO])
  (refine RetOk.wk (Wk.frz (b := 1) rfl rfl) ?_; dsimp only [setO])
  (refine RetOk.wk (Wk.frz (b := 2) rfl rfl) ?_; refine RetOk.wk (Wk.box (b := 1) (cs' := [_, _, _]) rfl (by dsimp only [ClL]; (repeat' (first | exact True.intro | exact Cl.ice rfl rfl rfl (by first | assumption | decide | omega | (simp; (first | (all_goals fail) | fail)) | (simp <;> omega)) (by first | exact take_all _ | exact take_len (by first | (simp; (first | (all_goals fail) | fail)) | (simp <;> omega)) | exact rfl) | exact Cl.le (.refl _) | apply And.intro)); (first | (all_goals fail) | fail))) ?_; dsimp only [setO])
  exact RetOk.rs (vs := [_]) r_heap_Clone []
def hnew (n : Nat) : Hp := ⟨List.replicate (64 * n) 0, [], List.replicate n false⟩
theorem rep_by8 (n : Nat) : List.replicate n (AV.int .u8 0) = (List.replicate n (0 : UInt8)).map by8 := by simp [by8]
theorem rep_bo (n : Nat) : List.replicate n (AV.bool false) = (List.replicate n false).map bo := by simp [bo]
theorem hNew_ok (n : Int) : ACall Try.prog 11 [.int .i64 n] (if 1 ≤ n ∧ n ≤ 64 then .tup [.agg [.sl false 1 (List.replicate (64 * n.toNat) (.int .u8 0)), .nil, .sl false 1 (List.replicate n.toNat (.bool false))], .int .i64 0] else .tup [.agg [.nil, .nil, .nil], .int .i64 1]) [] := by
  by_cases h : 1 ≤ n ∧ n ≤ 64
  · rw [if_pos h]
    obtain ⟨m, rfl⟩ : ∃ m : Nat, n = m := ⟨n.toNat, by omega⟩
    obtain ⟨h1, h2⟩ := h
    rw [show ((m : Nat) : Int).toNat = m by omega]
    refine acall_walk (N := 17) Try.func11 (by kernel_rfl) p_heap_New rfl ?_; unfold c_heap_New; dsimp only [enum, Nat.reduceAdd]
    (repeat (first | ((with_reducible show RG _ _ (_ :: _) _ _ _); refine RG.go1 (k := ?_)) | ((with_reducible show DG _ _ (_ :: _) _ _ _ _ _); refine DG.go1 (k := ?_)) | (with_reducible first | apply RG.nil | apply W.seq | apply W.reg | apply W.skip | apply W.block | apply W.drw | apply DG.nil | refine W.done (QB.n ?_)) | refine W.cndT ?_ | refine W.cndF ?_))
    rw [show ((m : Int) * 64).toNat = 64 * m by omega, show ((m : Nat) : Int).toNat = m by omega]
    (refine W.ret ?_; (repeat (with_reducible first | refine QB.r ?_ | refine QL.r ?_ | refine QC.r ?_)); refine QF.r ?_)
    (refine RetOk.wk (Wk.frz (b := 0) rfl rfl) ?_; dsimp only [setO])
    (refine RetOk.wk (Wk.frz (b := 1) rfl rfl) ?_; refine RetOk.wk (Wk.box (b := 0) (cs' := [_, _, _]) rfl (by dsimp only [ClL]; (repeat' (first | exact True.intro | exact Cl.ice rfl rfl rfl (by first | assumption | decide | omega | (simp; (first | (all_goals fail) | fail)) | (simp <;> omega)) (by first | exact take_all _ | exact take_len (by first | (simp; (first | (all_goals fail) | fail)) | (simp <;> omega)) | exact rfl) | exact Cl.le (.refl _) | apply And.intro)); (first | (all_goals fail) | fail))) ?_; dsimp only [setO])
    exact RetOk.rs (vs := [_, _]) r_heap_New []
  · rw [if_neg h]
    rcases Int.lt_or_le n 1 with q | q
    · clear h
      refine acall_walk (N := 17) Try.func11 (by kernel_rfl) p_heap_New rfl ?_; unfold c_heap_New; dsimp only [enum, Nat.reduceAdd]
      (repeat (first | ((with_reducible show RG _ _ (_ :: _) _ _ _); refine RG.go1 (k := ?_)) | ((with_reducible show DG _ _ (_ :: _) _ _ _ _ _); refine DG.go1 (k := ?_)) | (with_reducible first | apply RG.nil | apply W.seq | apply W.reg | apply W.skip | apply W.block | apply W.drw | apply DG.nil | refine W.done (QB.n ?_)) | refine W.cndT ?_ | refine W.cndF ?_))
      (refine W.ret ?_; (repeat (with_reducible first | refine QB.r ?_ | refine QL.r ?_ | refine QC.r ?_)); refine QF.r ?_)
      exact RetOk.rs (vs := [_, _]) r_heap_New []
    · have q2 : 64 < n := by omega
      clear h
      refine acall_walk (N := 17) Try.func11 (by kernel_rfl) p_heap_New rfl ?_; unfold c_heap_New; dsimp only [enum, Nat.reduceAdd]
      (repeat (first | ((with_reducible show RG _ _ (_ :: _) _ _ _); refine RG.go1 (k := ?_)) | ((with_reducible show DG _ _ (_ :: _) _ _ _ _ _); refine DG.go1 (k := ?_)) | (with_reducible first | apply RG.nil | apply W.seq | apply W.reg | apply W.skip | apply W.block | apply W.drw | apply DG.nil | refine W.done (QB.n ?_)) | refine W.cndT ?_ | refine W.cndF ?_))
      (refine W.ret ?_; (repeat (with_reducible first | refine QB.r ?_ | refine QL.r ?_ | refine QC.r ?_)); refine QF.r ?_)
      exact RetOk.rs (vs := [_, _]) r_heap_New []
theorem find1_ok (x : Blk) (ca : Int) : ACall Try.prog 45 [bk x, .cptr true [.int .i64 ca]] (.bool (decide (x.at_ = ca))) [] := by
  unfold bk
  refine acall_walk (N := 8) Try.func45 (by kernel_rfl) p_heap_find_1 rfl ?_; unfold c_heap_find_1; dsimp only [enum, Nat.reduceAdd]
  (repeat (first | ((with_reducible show RG _ _ (_ :: _) _ _ _); refine RG.go1 (k := ?_)) | ((with_reducible show DG _ _ (_ :: _) _ _ _ _ _); refine DG.go1 (k := ?_)) | (with_reducible first | apply RG.nil | apply W.seq | apply W.reg | apply W.skip | apply W.block | apply W.drw | apply DG.nil | refine W.done (QB.n ?_)) | refine W.cndT ?_ | refine W.cndF ?_))
  (refine W.ret ?_; (repeat (with_reducible first | refine QB.r ?_ | refine QL.r ?_ | refine QC.r ?_)); refine QF.r ?_)
  exact RetOk.rs (vs := [_]) r_heap_find_1 []
def hfind (l : List Blk) (a : Int) : Int := if l.any (fun x => decide (x.at_ = a)) then (l.findIdx (fun x => decide (x.at_ = a)) : Int) else -1
theorem hFind_ok (h : Hp) (hf : h.Few) (a : Int) : ACall Try.prog 28 [hv true h, .int .i64 a] (.int .i64 (hfind h.l a)) [] := by
  have h2 := hf.l
  have ci := bkIndex_ok h.l (by omega) 45 a (fun x => decide (x.at_ = a)) fun x _ => find1_ok x a
  unfold hv hfind
  refine acall_walk (N := 9) Try.func28 (by kernel_rfl) p_heap_find rfl ?_; unfold c_heap_find; dsimp only [enum, Nat.reduceAdd]
  (repeat (first | ((with_reducible show RG _ _ (_ :: _) _ _ _); refine RG.go1 (k := ?_)) | ((with_reducible show DG _ _ (_ :: _) _ _ _ _ _); refine DG.go1 (k := ?_)) | (with_reducible first | apply RG.nil | apply W.seq | apply W.reg | apply W.skip | apply W.block | apply W.drw | apply DG.nil | refine W.done (QB.n ?_)) | refine W.cndT ?_ | refine W.cndF ?_))
  (first | ((with_reducible show RG _ _ (_ :: _) _ _ _); refine RG.ca (ci) (k := ?_)) | ((with_reducible show DG _ _ (_ :: _) _ _ _ _ _); refine DG.ca (ci) (k := ?_)))
  (repeat (first | ((with_reducible show RG _ _ (_ :: _) _ _ _); refine RG.go1 (k := ?_)) | ((with_reducible show DG _ _ (_ :: _) _ _ _ _ _); refine DG.go1 (k := ?_)) | (with_reducible first | apply RG.nil | apply W.seq | apply W.reg | apply W.skip | apply W.block | apply W.drw | apply DG.nil | refine W.done (QB.n ?_)) | refine W.cndT ?_ | refine W.cndF ?_))
  (refine W.ret ?_; (repeat (with_reducible first | refine QB.r ?_ | refine QL.r ?_ | refine QC.r ?_)); refine QF.r ?_)
  exact RetOk.rs (vs := [_]) r_heap_find []
/-- A block that lies where blocks may lie. -/
def BOk (N : Int) (x : Blk) : Prop := 0 ≤ x.at_ ∧ x.at_ % 8 = 0 ∧ 8 ≤ x.ln ∧ x.ln % 8 = 0 ∧ x.at_ + x.ln ≤ N
def insB (a n : Int) (x : Blk) : Bool := decide (x.at_ ≤ a) && decide (n ≤ x.at_ + x.ln - a)
theorem inside1_ok (x : Blk) {N : Int} (hN : N ≤ 100000) (hx : BOk N x) (a n : Int) (ha : 0 ≤ a ∧ a ≤ 9223372036854775807) : ACall Try.prog 43 [bk x, .cptr true [.int .i64 a], .cptr true [.int .i64 n]] (.bool (insB a n x)) [] := by
  obtain ⟨h1, h2, h3, h4, h5⟩ := hx
  clear h2 h4
  unfold bk insB
  by_cases q1 : x.at_ ≤ a
  · rw [decide_eq_true q1, Bool.true_and]
    refine acall_walk (N := 20) Try.func43 (by kernel_rfl) p_heap_inside_1 rfl ?_; unfold c_heap_inside_1; dsimp only [enum, Nat.reduceAdd]
    (repeat (first | ((with_reducible show RG _ _ (_ :: _) _ _ _); refine RG.go1 (k := ?_)) | ((with_reducible show DG _ _ (_ :: _) _ _ _ _ _); refine DG.go1 (k := ?_)) | (with_reducible first | apply RG.nil | apply W.seq | apply W.reg | apply W.skip | apply W.block | apply W.drw | apply DG.nil | refine W.done (QB.n ?_)) | refine W.cndT ?_ | refine W.cndF ?_))
    (refine W.ret ?_; (repeat (with_reducible first | refine QB.r ?_ | refine QL.r ?_ | refine QC.r ?_)); refine QF.r ?_)
    exact RetOk.rs (vs := [_]) r_heap_inside_1 []
  · rw [decide_eq_false q1, Bool.false_and]
    refine acall_walk (N := 20) Try.func43 (by kernel_rfl) p_heap_inside_1 rfl ?_; unfold c_heap_inside_1; dsimp only [enum, Nat.reduceAdd]
    (repeat (first | ((with_reducible show RG _ _ (_ :: _) _ _ _); refine RG.go1 (k := ?_)) | ((with_reducible show DG _ _ (_ :: _) _ _ _ _ _); refine DG.go1 (k := ?_)) | (with_reducible first | apply RG.nil | apply W.seq | apply W.reg | apply W.skip | apply W.block | apply W.drw | apply DG.nil | refine W.done (QB.n ?_)) | refine W.cndT ?_ | refine W.cndF ?_))
    (refine W.ret ?_; (repeat (with_reducible first | refine QB.r ?_ | refine QL.r ?_ | refine QC.r ?_)); refine QF.r ?_)
    exact RetOk.rs (vs := [_]) r_heap_inside_1 []
theorem hInside_ok (h : Hp) (hf : h.Few) {N : Int} (hN : N ≤ 100000) (hb : ∀ x ∈ h.l, BOk N x) (a n : Int) (ha : 0 ≤ a ∧ a ≤ 9223372036854775807) : ACall Try.prog 26 [hv true h, .int .i64 a, .int .i64 n] (.bool (h.l.any (insB a n))) [] := by
  have h2 := hf.l
  have ci := bkContainsR_ok h.l (by omega) 43 a n (insB a n) fun x hx => inside1_ok x hN (hb x hx) a n ha
  unfold hv
  refine acall_walk (N := 11) Try.func26 (by kernel_rfl) p_heap_inside rfl ?_; unfold c_heap_inside; dsimp only [enum, Nat.reduceAdd]
  (repeat (first | ((with_reducible show RG _ _ (_ :: _) _ _ _); refine RG.go1 (k := ?_)) | ((with_reducible show DG _ _ (_ :: _) _ _ _ _ _); refine DG.go1 (k := ?_)) | (with_reducible first | apply RG.nil | apply W.seq | apply W.reg | apply W.skip | apply W.block | apply W.drw | apply DG.nil | refine W.done (QB.n ?_)) | refine W.cndT ?_ | refine W.cndF ?_))
  (first | ((with_reducible show RG _ _ (_ :: _) _ _ _); refine RG.ca (ci) (k := ?_)) | ((with_reducible show DG _ _ (_ :: _) _ _ _ _ _); refine DG.ca (ci) (k := ?_)))
  (repeat (first | ((with_reducible show RG _ _ (_ :: _) _ _ _); refine RG.go1 (k := ?_)) | ((with_reducible show DG _ _ (_ :: _) _ _ _ _ _); refine DG.go1 (k := ?_)) | (with_reducible first | apply RG.nil | apply W.seq | apply W.reg | apply W.skip | apply W.block | apply W.drw | apply DG.nil | refine W.done (QB.n ?_)) | refine W.cndT ?_ | refine W.cndF ?_))
  (refine W.ret ?_; (repeat (with_reducible first | refine QB.r ?_ | refine QL.r ?_ | refine QC.r ?_)); refine QF.r ?_)
  exact RetOk.rs (vs := [_]) r_heap_inside []
/-- The pages that are touched. -/
def touch (a n : Int) (p : Nat) : Bool := decide (0 < n) && (decide (a < 64 * ((p : Int) + 1)) && decide (64 * (p : Int) < a + n))
def markP (d : List Bool) (a n : Int) : List Bool := d.mapIdx fun p b => b || touch a n p
/-- .. up to a page. -/
def markTo (d : List Bool) (a n : Int) (q : Nat) : List Bool := d.mapIdx fun p b => b || (decide (p < q) && touch a n p)
theorem markTo_len (d : List Bool) (a n : Int) (q : Nat) : (markTo d a n q).length = d.length := by simp [markTo]
theorem markP_len (d : List Bool) (a n : Int) : (markP d a n).length = d.length := by simp [markP]
theorem markTo_at (d : List Bool) (a n : Int) (q i : Nat) (h : i < (markTo d a n q).length) (h2 : i < d.length) : (markTo d a n q)[i] = (d[i] || (decide (i < q) && touch a n i)) := List.getElem_mapIdx ..
theorem markP_at (d : List Bool) (a n : Int) (i : Nat) (h : i < (markP d a n).length) (h2 : i < d.length) : (markP d a n)[i] = (d[i] || touch a n i) := List.getElem_mapIdx ..
theorem markTo_0 {d : List Bool} {a n : Int} {q : Nat} (h : (q : Int) * 64 ≤ a) : markTo d a n q = d := by
  apply List.ext_getElem (markTo_len d a n q)
  intro i h1 h2
  rw [markTo_at d a n q i h1 h2]
  have : (decide (i < q) && touch a n i) = false := by
    unfold touch
    by_cases g : i < q
    · rw [decide_eq_false (show ¬ a < 64 * ((i : Int) + 1) by omega)]; simp
    · rw [decide_eq_false g]; rfl
  rw [this, Bool.or_false]
theorem markTo_s {d : List Bool} {a n : Int} {q : Nat} (hq : q < d.length) (ht : touch a n q = true) : (markTo d a n q).set q true = markTo d a n (q + 1) := by
  apply List.ext_getElem
  · rw [List.length_set, markTo_len, markTo_len]
  · intro i h1 h2
    have hi : i < d.length := by rw [markTo_len] at h2; exact h2
    rw [List.getElem_set, markTo_at d a n (q + 1) i h2 hi, markTo_at d a n q i (by rw [markTo_len]; exact hi) hi]
    by_cases g : q = i
    · subst g
      rw [if_pos rfl, ht, decide_eq_true (by omega)]; simp
    · rw [if_neg g]
      have : decide (i < q + 1) = decide (i < q) := by
        by_cases g2 : i < q
        · rw [decide_eq_true g2, decide_eq_true (by omega)]
        · rw [decide_eq_false g2, decide_eq_false (by omega)]
      rw [this]
theorem markTo_end {d : List Bool} {a n : Int} {q : Nat} (h : n ≤ 0 ∨ a + n ≤ q * 64) : markTo d a n q = markP d a n := by
  apply List.ext_getElem
  · rw [markTo_len, markP_len]
  · intro i h1 h2
    have hi : i < d.length := by rw [markP_len] at h2; exact h2
    rw [markTo_at d a n q i h1 hi, markP_at d a n i h2 hi]
    congr 1
    unfold touch
    by_cases g : i < q
    · rw [decide_eq_true g, Bool.true_and]
    · rw [decide_eq_false g, Bool.false_and]
      symm
      rcases h with h | h
      · rw [decide_eq_false (by omega)]; rfl
      · rw [decide_eq_false (show ¬ 64 * (i : Int) < a + n by omega)]; simp
theorem hMark_ok (S : List UInt8) (L : List Blk) (d : List Bool) (hd : d.length ≤ 1000) (a n : Int) (ha : 0 ≤ a ∧ a ≤ 100000) (hn : 0 ≤ n ∧ a + n ≤ 64 * d.length) :
    MCall Try.prog 27 [.agg [.sl true 1 (S.map by8), .sl true 2 (L.map bk), .ref 0 1 0 d.length], .int .i64 a, .int .i64 n] [] [⟨false, 1, d.map bo⟩] (.tup []) [] [some ⟨false, 1, (markP d a n).map bo⟩] [] := by
  obtain ⟨q0, hq0⟩ : ∃ q0 : Nat, a / 64 = q0 := ⟨(a / 64).toNat, by omega⟩
  obtain ⟨nd, hnd⟩ : ∃ nd : Nat, d.length = nd := ⟨_, rfl⟩
  obtain ⟨a1, a2⟩ := ha
  obtain ⟨n1, n2⟩ := hn
  rw [hnd] at n2 ⊢
  have hq1 : q0 * 64 ≤ a := by omega
  have hq2 : a < (q0 + 1) * 64 := by omega
  have e0 := @markTo_0 d a n q0 (by omega)
  refine mcall_walk (N := 25) Try.func27 (by kernel_rfl) p_heap_mark rfl rfl rfl ?_; intro gb pl; unfold c_heap_mark; dsimp only [enum, ghB, ghR, k_lc, k_ln, k_ap, k_an, k_m0, k_mc, Nat.reduceAdd, Nat.zero_add, Nat.add_zero]
  (repeat (first | ((with_reducible show RG _ _ (_ :: _) _ _ _); refine RG.go1 (k := ?_)) | ((with_reducible show DG _ _ (_ :: _) _ _ _ _ _); refine DG.go1 (k := ?_)) | (with_reducible first | apply RG.nil | apply W.seq | apply W.reg | apply W.skip | apply W.block | apply W.drw | apply DG.nil | refine W.done (QB.n ?_))))
  rw [hq0]
  clear hq0
  refine W.loop (ι := {q : Nat // q0 ≤ q ∧ q ≤ nd}) (fun q => ⟨[(6, .int .i64 q.1), (3, .bptr 0 0), (1, .int .i64 a), (2, .int .i64 n), (1100000, .ratt 0 (pl 0))], [some [.sl true 1 (S.map by8), .sl true 2 (L.map bk), .ref 0 1 0 nd]], [some ⟨false, 1, (markTo d a n q.1).map bo⟩], 1, 1⟩) (fun q => nd - q.1) ⟨q0, Nat.le_refl _, by omega⟩ ?_ ?_
  · dsimp only
    rw [e0]
    exact Wk.rn ([0] ) ( [0])
  rintro ⟨q, hqa, hqb⟩
  dsimp only
  by_cases hn0 : 0 < n
  · have hl : ((markTo d a n q).map bo).length = nd := by rw [List.length_map, markTo_len, hnd]
    (repeat (first | ((with_reducible show RG _ _ (_ :: _) _ _ _); refine RG.go1 (k := ?_)) | ((with_reducible show DG _ _ (_ :: _) _ _ _ _ _); refine DG.go1 (k := ?_)) | (with_reducible first | apply RG.nil | apply W.seq | apply W.reg | apply W.skip | apply W.block | apply W.drw | apply DG.nil | refine W.done (QB.n ?_))))
    refine W.cnd (fun h1 => ?_) (fun h1 => ?_)
    · have h2 : (q : Int) * 64 < a + n := by simpa using h1
      have ht : touch a n q = true := by unfold touch; simp; omega
      have hs : ((markTo d a n q).map bo).set q (.bool true) = (markTo d a n (q + 1)).map bo := by
        rw [← markTo_s (by omega) ht, List.map_set]; rfl
      clear ht h1
      (repeat (first | ((with_reducible show RG _ _ (_ :: _) _ _ _); refine RG.go1 (k := ?_)) | ((with_reducible show DG _ _ (_ :: _) _ _ _ _ _); refine DG.go1 (k := ?_)) | (with_reducible first | apply RG.nil | apply W.seq | apply W.reg | apply W.skip | apply W.block | apply W.drw | apply DG.nil | refine W.done (QB.n ?_))))
      (first | ((with_reducible show RG _ _ (_ :: _) _ _ _); refine RG.ew (ix_of ((show 0 + ((q : Nat) : Int).toNat = q by omega))) (k := ?_)) | ((with_reducible show DG _ _ (_ :: _) _ _ _ _ _); refine DG.ew (ix_of ((show 0 + ((q : Nat) : Int).toNat = q by omega))) (k := ?_)))
      (repeat (first | ((with_reducible show RG _ _ (_ :: _) _ _ _); refine RG.go1 (k := ?_)) | ((with_reducible show DG _ _ (_ :: _) _ _ _ _ _); refine DG.go1 (k := ?_)) | (with_reducible first | apply RG.nil | apply W.seq | apply W.reg | apply W.skip | apply W.block | apply W.drw | apply DG.nil | refine W.done (QB.n ?_))))
      (first | ((with_reducible show RG _ _ (_ :: _) _ _ _); refine RG.sn (A.str (hs)) (k := ?_)) | ((with_reducible show DG _ _ (_ :: _) _ _ _ _ _); refine DG.sn (A.str (hs)) (k := ?_)))
      (repeat (first | ((with_reducible show RG _ _ (_ :: _) _ _ _); refine RG.go1 (k := ?_)) | ((with_reducible show DG _ _ (_ :: _) _ _ _ _ _); refine DG.go1 (k := ?_)) | (with_reducible first | apply RG.nil | apply W.seq | apply W.reg | apply W.skip | apply W.block | apply W.drw | apply DG.nil | refine W.done (QB.n ?_))))
      refine W.done (QL.n (⟨q + 1, by omega, by omega⟩) ?_ ?_)
      · exact Wk.rn ([0] ) ( [0])
      · dsimp only; omega
    · have h2 : a + n ≤ (q : Int) * 64 := by simpa using h1
      (refine W.exit ?_; (repeat (first | (with_reducible first | refine QL.x ?_ | refine QC.x ?_ | refine QB.x ?_) | (with_reducible refine QB.o (by decide) ?_))))
      (repeat (first | ((with_reducible show RG _ _ (_ :: _) _ _ _); refine RG.go1 (k := ?_)) | ((with_reducible show DG _ _ (_ :: _) _ _ _ _ _); refine DG.go1 (k := ?_)) | (with_reducible first | apply RG.nil | apply W.seq | apply W.reg | apply W.skip | apply W.block | apply W.drw | apply DG.nil | refine W.done (QB.n ?_))))
      rw [markTo_end (Or.inr h2)]
      (refine W.done ?_; (repeat (with_reducible first | refine QB.n ?_ | refine QC.n ?_)); refine QM.n ?_)
      exact RetM.rs (vs := []) (tm' := [(1100000, .ratt 0 (pl 0))]) r_heap_mark ([]) ([0]) 0 1
  · rw [markTo_end (Or.inl (by omega))]
    (repeat (first | ((with_reducible show RG _ _ (_ :: _) _ _ _); refine RG.go1 (k := ?_)) | ((with_reducible show DG _ _ (_ :: _) _ _ _ _ _); refine DG.go1 (k := ?_)) | (with_reducible first | apply RG.nil | apply W.seq | apply W.reg | apply W.skip | apply W.block | apply W.drw | apply DG.nil | refine W.done (QB.n ?_)) | refine W.cndT ?_ | refine W.cndF ?_))
    (refine W.exit ?_; (repeat (first | (with_reducible first | refine QL.x ?_ | refine QC.x ?_ | refine QB.x ?_) | (with_reducible refine QB.o (by decide) ?_))))
    (repeat (first | ((with_reducible show RG _ _ (_ :: _) _ _ _); refine RG.go1 (k := ?_)) | ((with_reducible show DG _ _ (_ :: _) _ _ _ _ _); refine DG.go1 (k := ?_)) | (with_reducible first | apply RG.nil | apply W.seq | apply W.reg | apply W.skip | apply W.block | apply W.drw | apply DG.nil | refine W.done (QB.n ?_))))
    (refine W.done ?_; (repeat (with_reducible first | refine QB.n ?_ | refine QC.n ?_)); refine QM.n ?_)
    exact RetM.rs (vs := []) (tm' := [(1100000, .ratt 0 (pl 0))]) r_heap_mark ([]) ([0]) 0 1
end Go.Proofs.Ytjacmhaeemhinaa
