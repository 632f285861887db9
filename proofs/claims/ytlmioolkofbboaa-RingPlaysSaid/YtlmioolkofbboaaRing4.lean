/- The law's helpers of layer 11. -/
import Derived.Test.YtlmioolkofbboaaRing3
namespace Go.Proofs.Ytlmioolkofbboaa
open Go.RowKit
set_option linter.unusedVariables false
set_option linter.unusedSimpArgs false
set_option maxRecDepth 100000
set_option maxHeartbeats 4000000
theorem lives_ok : ACall Try.prog 6 [] (.bool true) [] := by
  have c0 := ringNew_ok 2 (by decide) (by decide)
  have c1 : ACall Try.prog 8 [Rg.av ⟨[[], []], 0, 0, 0, 0⟩, .sl true 1 ([97].map by8)] (.tup [Rg.fr ⟨[[97], []], 1, 0, 0, 0⟩, .int .i64 0]) [] := ringPost_ok ⟨[[], []], 0, 0, 0, 0⟩ ⟨by decide, by simp, by decide, by decide, by decide, by decide⟩ [97] (by decide)
  have c2 : ACall Try.prog 8 [Rg.av ⟨[[97], []], 1, 0, 0, 0⟩, .sl true 1 ([98].map by8)] (.tup [Rg.fr ⟨[[97], [98]], 2, 0, 0, 0⟩, .int .i64 0]) [] := ringPost_ok ⟨[[97], []], 1, 0, 0, 0⟩ ⟨by decide, by simp, by decide, by decide, by decide, by decide⟩ [98] (by decide)
  have c3 : ACall Try.prog 8 [Rg.av ⟨[[97], [98]], 2, 0, 0, 0⟩, .sl true 1 ([].map by8)] (.tup [Rg.fr ⟨[[97], [98]], 2, 0, 0, 0⟩, .int .i64 5]) [] := ringPost_ok ⟨[[97], [98]], 2, 0, 0, 0⟩ ⟨by decide, by simp, by decide, by decide, by decide, by decide⟩ [] (by decide)
  have c4 : ACall Try.prog 9 [Rg.av ⟨[[97], [98]], 2, 0, 0, 0⟩] (.tup [Rg.fr ⟨[[97], [98]], 2, 1, 0, 0⟩, .ref 0 1 0 1, .int .i64 0]) [⟨false, 1, [97].map by8⟩] := ringTake_ok ⟨[[97], [98]], 2, 0, 0, 0⟩ ⟨by decide, by simp, by decide, by decide, by decide, by decide⟩
  have c5 : ACall Try.prog 12 [Rg.av ⟨[[97], [98]], 2, 1, 0, 0⟩] (.int .i64 2) [] := ringLen_ok ⟨[[97], [98]], 2, 1, 0, 0⟩ ⟨by decide, by simp, by decide, by decide, by decide, by decide⟩
  unfold Rg.av at c1 c2 c3 c4 c5
  unfold Rg.fr at c1 c2 c3 c4
  have e0 : (List.replicate (2 : Int).toNat ([] : List UInt8)).map bs = [[], []].map bs := rfl
  rw [e0] at c0
  refine acall_walk (N := 66) Try.func6 (by kernel_rfl) p_caravellaw11_lives rfl ?_; unfold c_caravellaw11_lives; dsimp only [enum, Nat.reduceAdd]
  (repeat (first | ((with_reducible show RG _ _ (_ :: _) _ _ _); refine RG.go1 (k := ?_)) | ((with_reducible show DG _ _ (_ :: _) _ _ _ _ _); refine DG.go1 (k := ?_)) | with_reducible apply RG.nil | with_reducible apply W.seq | with_reducible apply W.reg | with_reducible apply W.skip | with_reducible apply W.block | with_reducible apply W.drw | with_reducible apply DG.nil | (with_reducible refine W.done (QB.n ?_))))
  (first | ((with_reducible show RG _ _ (_ :: _) _ _ _); refine RG.ca (c0) (k := ?_)) | ((with_reducible show DG _ _ (_ :: _) _ _ _ _ _); refine DG.ca (c0) (k := ?_)))
  (repeat (first | ((with_reducible show RG _ _ (_ :: _) _ _ _); refine RG.go1 (k := ?_)) | ((with_reducible show DG _ _ (_ :: _) _ _ _ _ _); refine DG.go1 (k := ?_)) | with_reducible apply RG.nil | with_reducible apply W.seq | with_reducible apply W.reg | with_reducible apply W.skip | with_reducible apply W.block | with_reducible apply W.drw | with_reducible apply DG.nil | (with_reducible refine W.done (QB.n ?_))))
  (first | ((with_reducible show RG _ _ (_ :: _) _ _ _); refine RG.ca (c1) (k := ?_)) | ((with_reducible show DG _ _ (_ :: _) _ _ _ _ _); refine DG.ca (c1) (k := ?_)))
  (repeat (first | ((with_reducible show RG _ _ (_ :: _) _ _ _); refine RG.go1 (k := ?_)) | ((with_reducible show DG _ _ (_ :: _) _ _ _ _ _); refine DG.go1 (k := ?_)) | with_reducible apply RG.nil | with_reducible apply W.seq | with_reducible apply W.reg | with_reducible apply W.skip | with_reducible apply W.block | with_reducible apply W.drw | with_reducible apply DG.nil | (with_reducible refine W.done (QB.n ?_))))
  (first | ((with_reducible show RG _ _ (_ :: _) _ _ _); refine RG.ca (c2) (k := ?_)) | ((with_reducible show DG _ _ (_ :: _) _ _ _ _ _); refine DG.ca (c2) (k := ?_)))
  (repeat (first | ((with_reducible show RG _ _ (_ :: _) _ _ _); refine RG.go1 (k := ?_)) | ((with_reducible show DG _ _ (_ :: _) _ _ _ _ _); refine DG.go1 (k := ?_)) | with_reducible apply RG.nil | with_reducible apply W.seq | with_reducible apply W.reg | with_reducible apply W.skip | with_reducible apply W.block | with_reducible apply W.drw | with_reducible apply DG.nil | (with_reducible refine W.done (QB.n ?_))))
  (first | ((with_reducible show RG _ _ (_ :: _) _ _ _); refine RG.ca (c3) (k := ?_)) | ((with_reducible show DG _ _ (_ :: _) _ _ _ _ _); refine DG.ca (c3) (k := ?_)))
  (repeat (first | ((with_reducible show RG _ _ (_ :: _) _ _ _); refine RG.go1 (k := ?_)) | ((with_reducible show DG _ _ (_ :: _) _ _ _ _ _); refine DG.go1 (k := ?_)) | with_reducible apply RG.nil | with_reducible apply W.seq | with_reducible apply W.reg | with_reducible apply W.skip | with_reducible apply W.block | with_reducible apply W.drw | with_reducible apply DG.nil | (with_reducible refine W.done (QB.n ?_))))
  (first | ((with_reducible show RG _ _ (_ :: _) _ _ _); refine RG.ca (c4) (k := ?_)) | ((with_reducible show DG _ _ (_ :: _) _ _ _ _ _); refine DG.ca (c4) (k := ?_)))
  (repeat (first | ((with_reducible show RG _ _ (_ :: _) _ _ _); refine RG.go1 (k := ?_)) | ((with_reducible show DG _ _ (_ :: _) _ _ _ _ _); refine DG.go1 (k := ?_)) | with_reducible apply RG.nil | with_reducible apply W.seq | with_reducible apply W.reg | with_reducible apply W.skip | with_reducible apply W.block | with_reducible apply W.drw | with_reducible apply DG.nil | (with_reducible refine W.done (QB.n ?_))))
  (first | ((with_reducible show RG _ _ (_ :: _) _ _ _); refine RG.gca (fun _ => c5) (k := ?_)) | ((with_reducible show DG _ _ (_ :: _) _ _ _ _ _); refine DG.gca (fun _ => c5) (k := ?_)))
  (repeat (first | ((with_reducible show RG _ _ (_ :: _) _ _ _); refine RG.go1 (k := ?_)) | ((with_reducible show DG _ _ (_ :: _) _ _ _ _ _); refine DG.go1 (k := ?_)) | with_reducible apply RG.nil | with_reducible apply W.seq | with_reducible apply W.reg | with_reducible apply W.skip | with_reducible apply W.block | with_reducible apply W.drw | with_reducible apply DG.nil | (with_reducible refine W.done (QB.n ?_))))
  (refine W.ret ?_; (repeat (with_reducible first | refine QB.r ?_ | refine QL.r ?_ | refine QC.r ?_)); refine QF.r ?_)
  exact RetOk.rs (vs := [_]) r_caravellaw11_lives []
theorem lawAt_ok (n : Nat) (c : Int) (hn : 1 ≤ n ∧ n ≤ 16) (hd : (65536 : Int) % n = 0) (hc : 0 ≤ c ∧ c < 65536) :
    ACall Try.prog 7 [.int .i64 n, .int .u16 c] (.tup [.agg [.sl false 1 ((List.replicate n []).map bs), .int .u16 c, .int .u16 c, .int .u16 c, .int .u16 c], .agg [.int .i64 n, .sl false 1 [], .sl false 1 [], .sl false 1 [], .int .i64 c]]) [] := by
  have c0 := ringNew_ok n (by omega) hd
  rw [Int.toNat_natCast] at c0
  refine acall_walk (N := 26) Try.func7 (by kernel_rfl) p_caravellaw11_at rfl ?_; unfold c_caravellaw11_at; dsimp only [enum, Nat.reduceAdd]
  (repeat (first | ((with_reducible show RG _ _ (_ :: _) _ _ _); refine RG.go1 (k := ?_)) | ((with_reducible show DG _ _ (_ :: _) _ _ _ _ _); refine DG.go1 (k := ?_)) | with_reducible apply RG.nil | with_reducible apply W.seq | with_reducible apply W.reg | with_reducible apply W.skip | with_reducible apply W.block | with_reducible apply W.drw | with_reducible apply DG.nil | (with_reducible refine W.done (QB.n ?_))))
  (first | ((with_reducible show RG _ _ (_ :: _) _ _ _); refine RG.ca (c0) (k := ?_)) | ((with_reducible show DG _ _ (_ :: _) _ _ _ _ _); refine DG.ca (c0) (k := ?_)))
  (repeat (first | ((with_reducible show RG _ _ (_ :: _) _ _ _); refine RG.go1 (k := ?_)) | ((with_reducible show DG _ _ (_ :: _) _ _ _ _ _); refine DG.go1 (k := ?_)) | with_reducible apply RG.nil | with_reducible apply W.seq | with_reducible apply W.reg | with_reducible apply W.skip | with_reducible apply W.block | with_reducible apply W.drw | with_reducible apply DG.nil | (with_reducible refine W.done (QB.n ?_))))
  (refine W.ret ?_; (repeat (with_reducible first | refine QB.r ?_ | refine QL.r ?_ | refine QC.r ?_)); refine QF.r ?_)
  exact RetOk.rs (vs := [_, _]) r_caravellaw11_at []
end Go.Proofs.Ytlmioolkofbboaa
