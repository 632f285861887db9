/- The law's frames fit; the chapter's example. -/
import Derived.Test.YtfpgpeomcefkhaaBp1
namespace Go.Proofs.Ytfpgpeomcefkhaa
open Go.RowKit
set_option linter.unusedVariables false
set_option linter.unusedSimpArgs false
set_option maxRecDepth 100000
set_option maxHeartbeats 4000000
def frF (f : Fr) : AV := .agg [.int .i64 f.port, .int .u8 f.dst.toNat, .int .u8 f.src.toNat, .sl false 1 (f.raw.map by8)]
theorem frF_len (l : List Fr) : (l.map frF).length = l.length := by simp
theorem frF_at (l : List Fr) (i : Nat) (h : i < l.length) {j : Nat} (hj : j = i) : (l.map frF)[j]?.getD .any = .agg [.int .i64 l[i].port, .int .u8 l[i].dst.toNat, .int .u8 l[i].src.toNat, .sl false 1 (l[i].raw.map by8)] := at_map frF l i _ (List.getElem?_eq_getElem h) hj
def fitsB (l : List Fr) : Bool := (l.all fun f => decide (f.raw.length ≤ 300)) && decide (l.length ≤ 100)
theorem fits_ok (l : List Fr) (hl : (l.length : Int) ≤ 9223372036854775807) : ACall Try.prog 7 [.sl true 4 (l.map frF)] (.bool (fitsB l)) [] := by
  have el := frF_len l
  refine acall_walk (N := 19) Try.func7 (by kernel_rfl) p_caravellaw12_fits rfl ?_; unfold c_caravellaw12_fits; dsimp only [enum, Nat.reduceAdd]
  (repeat (first | ((with_reducible show RG _ _ (_ :: _) _ _ _); refine RG.go1 (k := ?_)) | ((with_reducible show DG _ _ (_ :: _) _ _ _ _ _); refine DG.go1 (k := ?_)) | with_reducible apply RG.nil | with_reducible apply W.seq | with_reducible apply W.reg | with_reducible apply W.skip | with_reducible apply W.block | with_reducible apply W.drw | with_reducible apply DG.nil | (with_reducible refine W.done (QB.n ?_)) | refine W.cndT ?_ | refine W.cndF ?_))
  refine W.loop (ι := {i : Nat // i ≤ l.length ∧ ∀ j : Nat, (h : j < l.length) → j < i → l[j].raw.length ≤ 300}) (fun i => ⟨[(7, .int .i64 i.1), (6, .int .i64 l.length), (5, .sl true 4 (l.map frF)), (0, .sl true 4 (l.map frF))], [], [], 0, 0⟩) (fun i => l.length - i.1) ⟨0, Nat.zero_le _, fun j _ h => absurd h (Nat.not_lt_zero _)⟩ ?_ ?_
  · dsimp only
    rw [el]
    exact Wk.rn ([] ) ( [])
  rintro ⟨i, hi, hall⟩
  dsimp only
  (repeat (first | ((with_reducible show RG _ _ (_ :: _) _ _ _); refine RG.go1 (k := ?_)) | ((with_reducible show DG _ _ (_ :: _) _ _ _ _ _); refine DG.go1 (k := ?_)) | with_reducible apply RG.nil | with_reducible apply W.seq | with_reducible apply W.reg | with_reducible apply W.skip | with_reducible apply W.block | with_reducible apply W.drw | with_reducible apply DG.nil | (with_reducible refine W.done (QB.n ?_))))
  refine W.cnd (fun h1 => ?_) (fun h1 => ?_)
  · have hlt : i < l.length := by simp at h1; omega
    have hE := frF_at l i hlt (j := ((i : Nat) : Int).toNat) (by simp)
    have elr : (l[i].raw.map by8).length = l[i].raw.length := by simp
    clear h1
    by_cases hid : l[i].raw.length ≤ 300
    · have hall2 : ∀ j : Nat, (h : j < l.length) → j < i + 1 → l[j].raw.length ≤ 300 := fun j h hj => by
        rcases Nat.lt_or_ge j i with q | q
        · exact hall j h q
        · obtain rfl : j = i := by omega
          exact hid
      generalize l[i] = x at hE hid elr
      (repeat (first | ((with_reducible show RG _ _ (_ :: _) _ _ _); refine RG.go1 (k := ?_)) | ((with_reducible show DG _ _ (_ :: _) _ _ _ _ _); refine DG.go1 (k := ?_)) | with_reducible apply RG.nil | with_reducible apply W.seq | with_reducible apply W.reg | with_reducible apply W.skip | with_reducible apply W.block | with_reducible apply W.drw | with_reducible apply DG.nil | (with_reducible refine W.done (QB.n ?_)) | refine W.cndT ?_ | refine W.cndF ?_))
      (first | ((with_reducible show RG _ _ (_ :: _) _ _ _); refine RG.ew (cptr_of (hE) (by (conv => lhs; whnf) <;> exact rfl)) (k := ?_)) | ((with_reducible show DG _ _ (_ :: _) _ _ _ _ _); refine DG.ew (cptr_of (hE) (by (conv => lhs; whnf) <;> exact rfl)) (k := ?_)))
      (repeat (first | ((with_reducible show RG _ _ (_ :: _) _ _ _); refine RG.go1 (k := ?_)) | ((with_reducible show DG _ _ (_ :: _) _ _ _ _ _); refine DG.go1 (k := ?_)) | with_reducible apply RG.nil | with_reducible apply W.seq | with_reducible apply W.reg | with_reducible apply W.skip | with_reducible apply W.block | with_reducible apply W.drw | with_reducible apply DG.nil | (with_reducible refine W.done (QB.n ?_)) | refine W.cndT ?_ | refine W.cndF ?_))
      refine W.done (QL.n (⟨i + 1, by omega, hall2⟩) ?_ ?_)
      · exact Wk.rn ([] ) ( [])
      · dsimp only; omega
    · have hw : fitsB l = false := by
        unfold fitsB
        have : (l.all fun f => decide (f.raw.length ≤ 300)) = false := by
          rw [List.all_eq_false]
          exact ⟨l[i], List.getElem_mem hlt, by simpa using hid⟩
        rw [this]; rfl
      rw [hw]
      have hid : 300 < l[i].raw.length := by omega
      generalize l[i] = x at hE hid elr
      (repeat (first | ((with_reducible show RG _ _ (_ :: _) _ _ _); refine RG.go1 (k := ?_)) | ((with_reducible show DG _ _ (_ :: _) _ _ _ _ _); refine DG.go1 (k := ?_)) | with_reducible apply RG.nil | with_reducible apply W.seq | with_reducible apply W.reg | with_reducible apply W.skip | with_reducible apply W.block | with_reducible apply W.drw | with_reducible apply DG.nil | (with_reducible refine W.done (QB.n ?_)) | refine W.cndT ?_ | refine W.cndF ?_))
      (first | ((with_reducible show RG _ _ (_ :: _) _ _ _); refine RG.ew (cptr_of (hE) (by (conv => lhs; whnf) <;> exact rfl)) (k := ?_)) | ((with_reducible show DG _ _ (_ :: _) _ _ _ _ _); refine DG.ew (cptr_of (hE) (by (conv => lhs; whnf) <;> exact rfl)) (k := ?_)))
      (repeat (first | ((with_reducible show RG _ _ (_ :: _) _ _ _); refine RG.go1 (k := ?_)) | ((with_reducible show DG _ _ (_ :: _) _ _ _ _ _); refine DG.go1 (k := ?_)) | with_reducible apply RG.nil | with_reducible apply W.seq | with_reducible apply W.reg | with_reducible apply W.skip | with_reducible apply W.block | with_reducible apply W.drw | with_reducible apply DG.nil | (with_reducible refine W.done (QB.n ?_)) | refine W.cndT ?_ | refine W.cndF ?_))
      (refine W.ret ?_; (repeat (with_reducible first | refine QB.r ?_ | refine QL.r ?_ | refine QC.r ?_)); refine QF.r ?_)
      exact RetOk.rs (vs := [_]) r_caravellaw12_fits []
  have hw : fitsB l = decide ((l.length : Int) ≤ 100) := by
    unfold fitsB
    have : (l.all fun f => decide (f.raw.length ≤ 300)) = true := by
      rw [List.all_eq_true]
      intro x hx
      obtain ⟨j, hj, rfl⟩ := List.getElem_of_mem hx
      simpa using hall j hj (by simp at h1; omega)
    rw [this, Bool.true_and]
    congr 1
    apply propext
    omega
  rw [hw]
  clear h1
  (refine W.exit ?_; (repeat (first | (with_reducible first | refine QL.x ?_ | refine QC.x ?_ | refine QB.x ?_) | (with_reducible refine QB.o (by decide) ?_))))
  by_cases hd : (l.length : Int) ≤ 100
  · rw [decide_eq_true hd]
    (repeat (first | ((with_reducible show RG _ _ (_ :: _) _ _ _); refine RG.go1 (k := ?_)) | ((with_reducible show DG _ _ (_ :: _) _ _ _ _ _); refine DG.go1 (k := ?_)) | with_reducible apply RG.nil | with_reducible apply W.seq | with_reducible apply W.reg | with_reducible apply W.skip | with_reducible apply W.block | with_reducible apply W.drw | with_reducible apply DG.nil | (with_reducible refine W.done (QB.n ?_)) | refine W.cndT ?_ | refine W.cndF ?_))
    (refine W.ret ?_; (repeat (with_reducible first | refine QB.r ?_ | refine QL.r ?_ | refine QC.r ?_)); refine QF.r ?_)
    exact RetOk.rs (vs := [_]) r_caravellaw12_fits []
  · rw [decide_eq_false hd]
    (repeat (first | ((with_reducible show RG _ _ (_ :: _) _ _ _); refine RG.go1 (k := ?_)) | ((with_reducible show DG _ _ (_ :: _) _ _ _ _ _); refine DG.go1 (k := ?_)) | with_reducible apply RG.nil | with_reducible apply W.seq | with_reducible apply W.reg | with_reducible apply W.skip | with_reducible apply W.block | with_reducible apply W.drw | with_reducible apply DG.nil | (with_reducible refine W.done (QB.n ?_)) | refine W.cndT ?_ | refine W.cndF ?_))
    (refine W.ret ?_; (repeat (with_reducible first | refine QB.r ?_ | refine QL.r ?_ | refine QC.r ?_)); refine QF.r ?_)
    exact RetOk.rs (vs := [_]) r_caravellaw12_fits []
theorem lives_ok : ACall Try.prog 6 [] (.bool true) [] := by
  have cn := bNew_ok 3
  rw [if_pos (by decide), if_pos (by decide)] at cn
  have ca := frame_ok ⟨2, 2, 0, 0, 0, 0⟩ ⟨2, 1, 0, 0, 0, 0⟩
  have cc := frame_ok ⟨2, 1, 0, 0, 0, 0⟩ ⟨2, 2, 0, 0, 0, 0⟩
  have f1 := bForward_ok 3 (by decide) [] (by decide) 0 [2, 2, 0, 0, 0, 0, 2, 1, 0, 0, 0, 0, 8, 0] (by decide)
  have f2 := bForward_ok 3 (by decide) [⟨2, 1, 0, 0, 0, 0, 0⟩] (by decide) 2 [2, 1, 0, 0, 0, 0, 2, 2, 0, 0, 0, 0, 8, 0] (by decide)
  have f3 := bForward_ok 3 (by decide) [⟨2, 1, 0, 0, 0, 0, 0⟩, ⟨2, 2, 0, 0, 0, 0, 2⟩] (by decide) 0 [2, 2, 0, 0, 0, 0, 2, 1, 0, 0, 0, 0, 8, 0] (by decide)
  rw [show bfwd 3 [] 0 [2, 2, 0, 0, 0, 0, 2, 1, 0, 0, 0, 0, 8, 0] = ⟨[⟨2, 1, 0, 0, 0, 0, 0⟩], [1, 2], 0⟩ from rfl] at f1
  rw [show bfwd 3 [⟨2, 1, 0, 0, 0, 0, 0⟩] 2 [2, 1, 0, 0, 0, 0, 2, 2, 0, 0, 0, 0, 8, 0] = ⟨[⟨2, 1, 0, 0, 0, 0, 0⟩, ⟨2, 2, 0, 0, 0, 0, 2⟩], [0], 0⟩ from rfl] at f2
  rw [show bfwd 3 [⟨2, 1, 0, 0, 0, 0, 0⟩, ⟨2, 2, 0, 0, 0, 0, 2⟩] 0 [2, 2, 0, 0, 0, 0, 2, 1, 0, 0, 0, 0, 8, 0] = ⟨[⟨2, 2, 0, 0, 0, 0, 2⟩, ⟨2, 1, 0, 0, 0, 0, 0⟩], [2], 0⟩ from rfl] at f3
  simp only [Mac.l, List.cons_append, List.nil_append] at ca cc
  simp only [List.map, lrn, iv] at f1 f2 f3
  refine acall_walk (N := 86) Try.func6 (by kernel_rfl) p_caravellaw12_lives rfl ?_; unfold c_caravellaw12_lives; dsimp only [enum, Nat.reduceAdd]
  (repeat (first | ((with_reducible show RG _ _ (_ :: _) _ _ _); refine RG.go1 (k := ?_)) | ((with_reducible show DG _ _ (_ :: _) _ _ _ _ _); refine DG.go1 (k := ?_)) | with_reducible apply RG.nil | with_reducible apply W.seq | with_reducible apply W.reg | with_reducible apply W.skip | with_reducible apply W.block | with_reducible apply W.drw | with_reducible apply DG.nil | (with_reducible refine W.done (QB.n ?_)) | refine W.cndT ?_ | refine W.cndF ?_))
  (first | ((with_reducible show RG _ _ (_ :: _) _ _ _); refine RG.ca (cn) (k := ?_)) | ((with_reducible show DG _ _ (_ :: _) _ _ _ _ _); refine DG.ca (cn) (k := ?_)))
  (repeat (first | ((with_reducible show RG _ _ (_ :: _) _ _ _); refine RG.go1 (k := ?_)) | ((with_reducible show DG _ _ (_ :: _) _ _ _ _ _); refine DG.go1 (k := ?_)) | with_reducible apply RG.nil | with_reducible apply W.seq | with_reducible apply W.reg | with_reducible apply W.skip | with_reducible apply W.block | with_reducible apply W.drw | with_reducible apply DG.nil | (with_reducible refine W.done (QB.n ?_)) | refine W.cndT ?_ | refine W.cndF ?_))
  (first | ((with_reducible show RG _ _ (_ :: _) _ _ _); refine RG.ca (ca) (k := ?_)) | ((with_reducible show DG _ _ (_ :: _) _ _ _ _ _); refine DG.ca (ca) (k := ?_)))
  (repeat (first | ((with_reducible show RG _ _ (_ :: _) _ _ _); refine RG.go1 (k := ?_)) | ((with_reducible show DG _ _ (_ :: _) _ _ _ _ _); refine DG.go1 (k := ?_)) | with_reducible apply RG.nil | with_reducible apply W.seq | with_reducible apply W.reg | with_reducible apply W.skip | with_reducible apply W.block | with_reducible apply W.drw | with_reducible apply DG.nil | (with_reducible refine W.done (QB.n ?_)) | refine W.cndT ?_ | refine W.cndF ?_))
  (first | ((with_reducible show RG _ _ (_ :: _) _ _ _); refine RG.ca (f1) (k := ?_)) | ((with_reducible show DG _ _ (_ :: _) _ _ _ _ _); refine DG.ca (f1) (k := ?_)))
  (repeat (first | ((with_reducible show RG _ _ (_ :: _) _ _ _); refine RG.go1 (k := ?_)) | ((with_reducible show DG _ _ (_ :: _) _ _ _ _ _); refine DG.go1 (k := ?_)) | with_reducible apply RG.nil | with_reducible apply W.seq | with_reducible apply W.reg | with_reducible apply W.skip | with_reducible apply W.block | with_reducible apply W.drw | with_reducible apply DG.nil | (with_reducible refine W.done (QB.n ?_)) | refine W.cndT ?_ | refine W.cndF ?_))
  (first | ((with_reducible show RG _ _ (_ :: _) _ _ _); refine RG.ca (cc) (k := ?_)) | ((with_reducible show DG _ _ (_ :: _) _ _ _ _ _); refine DG.ca (cc) (k := ?_)))
  (repeat (first | ((with_reducible show RG _ _ (_ :: _) _ _ _); refine RG.go1 (k := ?_)) | ((with_reducible show DG _ _ (_ :: _) _ _ _ _ _); refine DG.go1 (k := ?_)) | with_reducible apply RG.nil | with_reducible apply W.seq | with_reducible apply W.reg | with_reducible apply W.skip | with_reducible apply W.block | with_reducible apply W.drw | with_reducible apply DG.nil | (with_reducible refine W.done (QB.n ?_)) | refine W.cndT ?_ | refine W.cndF ?_))
  (first | ((with_reducible show RG _ _ (_ :: _) _ _ _); refine RG.ca (f2) (k := ?_)) | ((with_reducible show DG _ _ (_ :: _) _ _ _ _ _); refine DG.ca (f2) (k := ?_)))
  (repeat (first | ((with_reducible show RG _ _ (_ :: _) _ _ _); refine RG.go1 (k := ?_)) | ((with_reducible show DG _ _ (_ :: _) _ _ _ _ _); refine DG.go1 (k := ?_)) | with_reducible apply RG.nil | with_reducible apply W.seq | with_reducible apply W.reg | with_reducible apply W.skip | with_reducible apply W.block | with_reducible apply W.drw | with_reducible apply DG.nil | (with_reducible refine W.done (QB.n ?_)) | refine W.cndT ?_ | refine W.cndF ?_))
  (first | ((with_reducible show RG _ _ (_ :: _) _ _ _); refine RG.ca (ca) (k := ?_)) | ((with_reducible show DG _ _ (_ :: _) _ _ _ _ _); refine DG.ca (ca) (k := ?_)))
  (repeat (first | ((with_reducible show RG _ _ (_ :: _) _ _ _); refine RG.go1 (k := ?_)) | ((with_reducible show DG _ _ (_ :: _) _ _ _ _ _); refine DG.go1 (k := ?_)) | with_reducible apply RG.nil | with_reducible apply W.seq | with_reducible apply W.reg | with_reducible apply W.skip | with_reducible apply W.block | with_reducible apply W.drw | with_reducible apply DG.nil | (with_reducible refine W.done (QB.n ?_)) | refine W.cndT ?_ | refine W.cndF ?_))
  (first | ((with_reducible show RG _ _ (_ :: _) _ _ _); refine RG.ca (f3) (k := ?_)) | ((with_reducible show DG _ _ (_ :: _) _ _ _ _ _); refine DG.ca (f3) (k := ?_)))
  (repeat (first | ((with_reducible show RG _ _ (_ :: _) _ _ _); refine RG.go1 (k := ?_)) | ((with_reducible show DG _ _ (_ :: _) _ _ _ _ _); refine DG.go1 (k := ?_)) | with_reducible apply RG.nil | with_reducible apply W.seq | with_reducible apply W.reg | with_reducible apply W.skip | with_reducible apply W.block | with_reducible apply W.drw | with_reducible apply DG.nil | (with_reducible refine W.done (QB.n ?_)) | refine W.cndT ?_ | refine W.cndF ?_))
  (first | ((with_reducible show RG _ _ (_ :: _) _ _ _); refine RG.ewg (cptr_of ((show [AV.int IntKind.i64 0][(0 : Int).toNat]?.getD .any = .int .i64 0 from rfl)) (by (conv => lhs; whnf) <;> exact rfl)) (k := ?_)) | ((with_reducible show DG _ _ (_ :: _) _ _ _ _ _); refine DG.ewg (cptr_of ((show [AV.int IntKind.i64 0][(0 : Int).toNat]?.getD .any = .int .i64 0 from rfl)) (by (conv => lhs; whnf) <;> exact rfl)) (k := ?_)))
  (repeat (first | ((with_reducible show RG _ _ (_ :: _) _ _ _); refine RG.go1 (k := ?_)) | ((with_reducible show DG _ _ (_ :: _) _ _ _ _ _); refine DG.go1 (k := ?_)) | with_reducible apply RG.nil | with_reducible apply W.seq | with_reducible apply W.reg | with_reducible apply W.skip | with_reducible apply W.block | with_reducible apply W.drw | with_reducible apply DG.nil | (with_reducible refine W.done (QB.n ?_)) | refine W.cndT ?_ | refine W.cndF ?_))
  (first | ((with_reducible show RG _ _ (_ :: _) _ _ _); refine RG.ewg (cptr_of ((show [AV.int IntKind.i64 2][(0 : Int).toNat]?.getD .any = .int .i64 2 from rfl)) (by (conv => lhs; whnf) <;> exact rfl)) (k := ?_)) | ((with_reducible show DG _ _ (_ :: _) _ _ _ _ _); refine DG.ewg (cptr_of ((show [AV.int IntKind.i64 2][(0 : Int).toNat]?.getD .any = .int .i64 2 from rfl)) (by (conv => lhs; whnf) <;> exact rfl)) (k := ?_)))
  (repeat (first | ((with_reducible show RG _ _ (_ :: _) _ _ _); refine RG.go1 (k := ?_)) | ((with_reducible show DG _ _ (_ :: _) _ _ _ _ _); refine DG.go1 (k := ?_)) | with_reducible apply RG.nil | with_reducible apply W.seq | with_reducible apply W.reg | with_reducible apply W.skip | with_reducible apply W.block | with_reducible apply W.drw | with_reducible apply DG.nil | (with_reducible refine W.done (QB.n ?_)) | refine W.cndT ?_ | refine W.cndF ?_))
  (refine W.ret ?_; (repeat (with_reducible first | refine QB.r ?_ | refine QL.r ?_ | refine QC.r ?_)); refine QF.r ?_)
  exact RetOk.rs (vs := [_]) r_caravellaw12_lives []
end Go.Proofs.Ytfpgpeomcefkhaa
