/- What bridge's functions compute: group. -/
import Derived.Test.YtfpgpeomcefkhaaBr3
namespace Go.Proofs.Ytfpgpeomcefkhaa
open Go.RowKit
set_option linter.unusedVariables false
set_option linter.unusedSimpArgs false
set_option maxRecDepth 100000
set_option maxHeartbeats 4000000
theorem bGroup_ok (m : Mac) (h : 0 ≤ m.a0 ∧ m.a0 ≤ 255) : ACall Try.prog 18 [.agg m.l] (.bool (decide (m.a0 % 2 = 1))) [] := by
  have e : ((BitVec.ofInt IntKind.u8.bits m.a0 &&& BitVec.ofInt IntKind.u8.bits 1).toNat : Int) % 256 = m.a0 % 2 := by
    obtain ⟨q, hq⟩ : ∃ q : Nat, m.a0 = q := ⟨m.a0.toNat, by omega⟩
    have h1 : (BitVec.ofInt IntKind.u8.bits (q : Int)).toNat = q % 256 := by
      rw [BitVec.ofInt_natCast, BitVec.toNat_ofNat]; rfl
    have h2 : (BitVec.ofInt IntKind.u8.bits 1).toNat = 1 := by decide
    rw [hq, BitVec.toNat_and, h1, h2, Nat.and_one_is_mod]
    omega
  unfold Mac.l
  refine acall_walk (N := 7) Try.func18 (by kernel_rfl) p_bridge_group rfl ?_; unfold c_bridge_group; dsimp only [enum, Nat.reduceAdd]
  (repeat (first | ((with_reducible show RG _ _ (_ :: _) _ _ _); refine RG.go1 (k := ?_)) | ((with_reducible show DG _ _ (_ :: _) _ _ _ _ _); refine DG.go1 (k := ?_)) | with_reducible apply RG.nil | with_reducible apply W.seq | with_reducible apply W.reg | with_reducible apply W.skip | with_reducible apply W.block | with_reducible apply W.drw | with_reducible apply DG.nil | (with_reducible refine W.done (QB.n ?_))))
  (first | ((with_reducible show RG _ _ (_ :: _) _ _ _); refine RG.sm (A.ldr ((show [AV.int .u8 m.a0, .int .u8 m.a1, .int .u8 m.a2, .int .u8 m.a3, .int .u8 m.a4, .int .u8 m.a5][0]?.getD .any = .int .u8 m.a0 from rfl))) (k := ?_)) | ((with_reducible show DG _ _ (_ :: _) _ _ _ _ _); refine DG.sm (A.ldr ((show [AV.int .u8 m.a0, .int .u8 m.a1, .int .u8 m.a2, .int .u8 m.a3, .int .u8 m.a4, .int .u8 m.a5][0]?.getD .any = .int .u8 m.a0 from rfl))) (k := ?_)))
  (repeat (first | ((with_reducible show RG _ _ (_ :: _) _ _ _); refine RG.go1 (k := ?_)) | ((with_reducible show DG _ _ (_ :: _) _ _ _ _ _); refine DG.go1 (k := ?_)) | with_reducible apply RG.nil | with_reducible apply W.seq | with_reducible apply W.reg | with_reducible apply W.skip | with_reducible apply W.block | with_reducible apply W.drw | with_reducible apply DG.nil | (with_reducible refine W.done (QB.n ?_))))
  (refine W.ret ?_; (repeat (with_reducible first | refine QB.r ?_ | refine QL.r ?_ | refine QC.r ?_)); refine QF.r ?_)
  rw [e]
  exact RetOk.rs (vs := [_]) r_bridge_group []
end Go.Proofs.Ytfpgpeomcefkhaa
