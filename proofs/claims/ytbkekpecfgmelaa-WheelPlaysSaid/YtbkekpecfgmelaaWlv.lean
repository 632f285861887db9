/- The chapter's example; WheelRight. -/
import Derived.Test.YtbkekpecfgmelaaWw3
import Derived.Test.YtbkekpecfgmelaaWw4
namespace Go.Proofs.Ytbkekpecfgmelaa
open Go.RowKit
set_option linter.unusedVariables false
set_option linter.unusedSimpArgs false
set_option maxRecDepth 100000
set_option maxHeartbeats 4000000
theorem len_le {n : Nat} (h : n ≤ maxLen) : (n : Int) ≤ 9223372036854775807 := by
  have h2 : (maxLen : Int) ≤ 9223372036854775807 := by decide
  omega
theorem lives_ok : ACall Try.prog 7 [] (.bool true) [] := by
  have c1 := wSet_ok 0 (by omega) [] (by decide) 1 2 (by omega)
  have c2 := wSet_ok 0 (by omega) [⟨1, 2⟩] (by decide) 2 1 (by omega)
  have c3 := wSet_ok 0 (by omega) [⟨2, 1⟩, ⟨1, 2⟩] (by decide) 3 2 (by omega)
  have c4 := wTick_ok 0 (by omega) [⟨2, 1⟩, ⟨1, 2⟩, ⟨3, 2⟩] (by decide)
  have c5 := wTick_ok 1 (by omega) [⟨1, 2⟩, ⟨3, 2⟩] (by decide)
  rw [show wset 0 [] 1 2 = ([⟨1, 2⟩], 0) from rfl] at c1
  rw [show wset 0 [⟨1, 2⟩] 2 1 = ([⟨2, 1⟩, ⟨1, 2⟩], 0) from rfl] at c2
  rw [show wset 0 [⟨2, 1⟩, ⟨1, 2⟩] 3 2 = ([⟨2, 1⟩, ⟨1, 2⟩, ⟨3, 2⟩], 0) from rfl] at c3
  rw [show tickK (0 + 1) [⟨2, 1⟩, ⟨1, 2⟩, ⟨3, 2⟩] = 1 from rfl] at c4
  rw [show tickK (1 + 1) [⟨1, 2⟩, ⟨3, 2⟩] = 2 from rfl] at c5
  simp only [wv, tmr, idv, List.map, List.drop, List.take] at c1 c2 c3 c4 c5
  refine acall_walk (N := 71) Try.func7 (by kernel_rfl) p_caravellaw16_lives rfl ?_; unfold c_caravellaw16_lives; dsimp only [enum, Nat.reduceAdd]
  (repeat (first | ((with_reducible show RG _ _ (_ :: _) _ _ _); refine RG.go1 (k := ?_)) | ((with_reducible show DG _ _ (_ :: _) _ _ _ _ _); refine DG.go1 (k := ?_)) | with_reducible apply RG.nil | with_reducible apply W.seq | with_reducible apply W.reg | with_reducible apply W.skip | with_reducible apply W.block | with_reducible apply W.drw | with_reducible apply DG.nil | (with_reducible refine W.done (QB.n ?_))))
  (first | ((with_reducible show RG _ _ (_ :: _) _ _ _); refine RG.ca (c1) (k := ?_)) | ((with_reducible show DG _ _ (_ :: _) _ _ _ _ _); refine DG.ca (c1) (k := ?_)))
  (repeat (first | ((with_reducible show RG _ _ (_ :: _) _ _ _); refine RG.go1 (k := ?_)) | ((with_reducible show DG _ _ (_ :: _) _ _ _ _ _); refine DG.go1 (k := ?_)) | with_reducible apply RG.nil | with_reducible apply W.seq | with_reducible apply W.reg | with_reducible apply W.skip | with_reducible apply W.block | with_reducible apply W.drw | with_reducible apply DG.nil | (with_reducible refine W.done (QB.n ?_))))
  (first | ((with_reducible show RG _ _ (_ :: _) _ _ _); refine RG.ca (c2) (k := ?_)) | ((with_reducible show DG _ _ (_ :: _) _ _ _ _ _); refine DG.ca (c2) (k := ?_)))
  (repeat (first | ((with_reducible show RG _ _ (_ :: _) _ _ _); refine RG.go1 (k := ?_)) | ((with_reducible show DG _ _ (_ :: _) _ _ _ _ _); refine DG.go1 (k := ?_)) | with_reducible apply RG.nil | with_reducible apply W.seq | with_reducible apply W.reg | with_reducible apply W.skip | with_reducible apply W.block | with_reducible apply W.drw | with_reducible apply DG.nil | (with_reducible refine W.done (QB.n ?_))))
  (first | ((with_reducible show RG _ _ (_ :: _) _ _ _); refine RG.ca (c3) (k := ?_)) | ((with_reducible show DG _ _ (_ :: _) _ _ _ _ _); refine DG.ca (c3) (k := ?_)))
  (repeat (first | ((with_reducible show RG _ _ (_ :: _) _ _ _); refine RG.go1 (k := ?_)) | ((with_reducible show DG _ _ (_ :: _) _ _ _ _ _); refine DG.go1 (k := ?_)) | with_reducible apply RG.nil | with_reducible apply W.seq | with_reducible apply W.reg | with_reducible apply W.skip | with_reducible apply W.block | with_reducible apply W.drw | with_reducible apply DG.nil | (with_reducible refine W.done (QB.n ?_))))
  (first | ((with_reducible show RG _ _ (_ :: _) _ _ _); refine RG.ca (c4) (k := ?_)) | ((with_reducible show DG _ _ (_ :: _) _ _ _ _ _); refine DG.ca (c4) (k := ?_)))
  (repeat (first | ((with_reducible show RG _ _ (_ :: _) _ _ _); refine RG.go1 (k := ?_)) | ((with_reducible show DG _ _ (_ :: _) _ _ _ _ _); refine DG.go1 (k := ?_)) | with_reducible apply RG.nil | with_reducible apply W.seq | with_reducible apply W.reg | with_reducible apply W.skip | with_reducible apply W.block | with_reducible apply W.drw | with_reducible apply DG.nil | (with_reducible refine W.done (QB.n ?_))))
  (first | ((with_reducible show RG _ _ (_ :: _) _ _ _); refine RG.ca (c5) (k := ?_)) | ((with_reducible show DG _ _ (_ :: _) _ _ _ _ _); refine DG.ca (c5) (k := ?_)))
  (repeat (first | ((with_reducible show RG _ _ (_ :: _) _ _ _); refine RG.go1 (k := ?_)) | ((with_reducible show DG _ _ (_ :: _) _ _ _ _ _); refine DG.go1 (k := ?_)) | with_reducible apply RG.nil | with_reducible apply W.seq | with_reducible apply W.reg | with_reducible apply W.skip | with_reducible apply W.block | with_reducible apply W.drw | with_reducible apply DG.nil | (with_reducible refine W.done (QB.n ?_))))
  (first | ((with_reducible show RG _ _ (_ :: _) _ _ _); refine RG.ewg (cptr_of ((show [AV.int IntKind.i64 2][(0 : Int).toNat]?.getD .any = .int .i64 2 from rfl)) (by (conv => lhs; whnf) <;> exact rfl)) (k := ?_)) | ((with_reducible show DG _ _ (_ :: _) _ _ _ _ _); refine DG.ewg (cptr_of ((show [AV.int IntKind.i64 2][(0 : Int).toNat]?.getD .any = .int .i64 2 from rfl)) (by (conv => lhs; whnf) <;> exact rfl)) (k := ?_)))
  (repeat (first | ((with_reducible show RG _ _ (_ :: _) _ _ _); refine RG.go1 (k := ?_)) | ((with_reducible show DG _ _ (_ :: _) _ _ _ _ _); refine DG.go1 (k := ?_)) | with_reducible apply RG.nil | with_reducible apply W.seq | with_reducible apply W.reg | with_reducible apply W.skip | with_reducible apply W.block | with_reducible apply W.drw | with_reducible apply DG.nil | (with_reducible refine W.done (QB.n ?_))))
  (first | ((with_reducible show RG _ _ (_ :: _) _ _ _); refine RG.ewg (cptr_of ((show [AV.int IntKind.i64 1, AV.int IntKind.i64 3][(0 : Int).toNat]?.getD .any = .int .i64 1 from rfl)) (by (conv => lhs; whnf) <;> exact rfl)) (k := ?_)) | ((with_reducible show DG _ _ (_ :: _) _ _ _ _ _); refine DG.ewg (cptr_of ((show [AV.int IntKind.i64 1, AV.int IntKind.i64 3][(0 : Int).toNat]?.getD .any = .int .i64 1 from rfl)) (by (conv => lhs; whnf) <;> exact rfl)) (k := ?_)))
  (repeat (first | ((with_reducible show RG _ _ (_ :: _) _ _ _); refine RG.go1 (k := ?_)) | ((with_reducible show DG _ _ (_ :: _) _ _ _ _ _); refine DG.go1 (k := ?_)) | with_reducible apply RG.nil | with_reducible apply W.seq | with_reducible apply W.reg | with_reducible apply W.skip | with_reducible apply W.block | with_reducible apply W.drw | with_reducible apply DG.nil | (with_reducible refine W.done (QB.n ?_))))
  (first | ((with_reducible show RG _ _ (_ :: _) _ _ _); refine RG.ewg (cptr_of ((show [AV.int IntKind.i64 1, AV.int IntKind.i64 3][(1 : Int).toNat]?.getD .any = .int .i64 3 from rfl)) (by (conv => lhs; whnf) <;> exact rfl)) (k := ?_)) | ((with_reducible show DG _ _ (_ :: _) _ _ _ _ _); refine DG.ewg (cptr_of ((show [AV.int IntKind.i64 1, AV.int IntKind.i64 3][(1 : Int).toNat]?.getD .any = .int .i64 3 from rfl)) (by (conv => lhs; whnf) <;> exact rfl)) (k := ?_)))
  (repeat (first | ((with_reducible show RG _ _ (_ :: _) _ _ _); refine RG.go1 (k := ?_)) | ((with_reducible show DG _ _ (_ :: _) _ _ _ _ _); refine DG.go1 (k := ?_)) | with_reducible apply RG.nil | with_reducible apply W.seq | with_reducible apply W.reg | with_reducible apply W.skip | with_reducible apply W.block | with_reducible apply W.drw | with_reducible apply DG.nil | (with_reducible refine W.done (QB.n ?_))))
  (refine W.ret ?_; (repeat (with_reducible first | refine QB.r ?_ | refine QL.r ?_ | refine QC.r ?_)); refine QF.r ?_)
  exact RetOk.rs (vs := [_]) r_caravellaw16_lives []
end Go.Proofs.Ytbkekpecfgmelaa
