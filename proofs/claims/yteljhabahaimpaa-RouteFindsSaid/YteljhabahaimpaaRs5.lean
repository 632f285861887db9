/- The document: words, Mask, First, Within. -/
import Derived.Test.YteljhabahaimpaaRs3
namespace Go.Proofs.Yteljhabahaimpaa
open Go.RowKit
set_option linter.unusedVariables false
set_option linter.unusedSimpArgs false
set_option maxRecDepth 100000
set_option maxHeartbeats 4000000
def W4 (a b c d : Int) : Int := ((a * 256 + b) * 256 + c) * 256 + d
theorem W4_b {a b c d : Int} (h0 : 0 ≤ a ∧ a ≤ 255) (h1 : 0 ≤ b ∧ b ≤ 255) (h2 : 0 ≤ c ∧ c ≤ 255) (h3 : 0 ≤ d ∧ d ≤ 255) : 0 ≤ W4 a b c d ∧ W4 a b c d ≤ 4294967295 := by unfold W4; omega
theorem word14_ok (a b c d : Int) (h0 : 0 ≤ a ∧ a ≤ 255) (h1 : 0 ≤ b ∧ b ≤ 255) (h2 : 0 ≤ c ∧ c ≤ 255) (h3 : 0 ≤ d ∧ d ≤ 255) : ACall Try.prog 29 [.agg [.int .u8 a, .int .u8 b, .int .u8 c, .int .u8 d]] (.int .i64 (W4 a b c d)) [] := by
  unfold W4
  refine acall_walk (N := 21) Try.func29 (by kernel_rfl) p_caravelref14_word rfl ?_; unfold c_caravelref14_word; dsimp only [enum, Nat.reduceAdd]
  (repeat (first | ((with_reducible show RG _ _ (_ :: _) _ _ _); refine RG.go1 (k := ?_)) | ((with_reducible show DG _ _ (_ :: _) _ _ _ _ _); refine DG.go1 (k := ?_)) | with_reducible apply RG.nil | with_reducible apply W.seq | with_reducible apply W.reg | with_reducible apply W.skip | with_reducible apply W.block | with_reducible apply W.drw | with_reducible apply DG.nil | (with_reducible refine W.done (QB.n ?_)) | refine W.cndT ?_ | refine W.cndF ?_))
  (first | ((with_reducible show RG _ _ (_ :: _) _ _ _); refine RG.sm (A.ldr ((show [AV.int .u8 a, .int .u8 b, .int .u8 c, .int .u8 d][(0 : Int).toNat]?.getD .any = .int .u8 a from rfl))) (k := ?_)) | ((with_reducible show DG _ _ (_ :: _) _ _ _ _ _); refine DG.sm (A.ldr ((show [AV.int .u8 a, .int .u8 b, .int .u8 c, .int .u8 d][(0 : Int).toNat]?.getD .any = .int .u8 a from rfl))) (k := ?_)))
  (repeat (first | ((with_reducible show RG _ _ (_ :: _) _ _ _); refine RG.go1 (k := ?_)) | ((with_reducible show DG _ _ (_ :: _) _ _ _ _ _); refine DG.go1 (k := ?_)) | with_reducible apply RG.nil | with_reducible apply W.seq | with_reducible apply W.reg | with_reducible apply W.skip | with_reducible apply W.block | with_reducible apply W.drw | with_reducible apply DG.nil | (with_reducible refine W.done (QB.n ?_)) | refine W.cndT ?_ | refine W.cndF ?_))
  (first | ((with_reducible show RG _ _ (_ :: _) _ _ _); refine RG.sm (A.ldr ((show [AV.int .u8 a, .int .u8 b, .int .u8 c, .int .u8 d][(1 : Int).toNat]?.getD .any = .int .u8 b from rfl))) (k := ?_)) | ((with_reducible show DG _ _ (_ :: _) _ _ _ _ _); refine DG.sm (A.ldr ((show [AV.int .u8 a, .int .u8 b, .int .u8 c, .int .u8 d][(1 : Int).toNat]?.getD .any = .int .u8 b from rfl))) (k := ?_)))
  (repeat (first | ((with_reducible show RG _ _ (_ :: _) _ _ _); refine RG.go1 (k := ?_)) | ((with_reducible show DG _ _ (_ :: _) _ _ _ _ _); refine DG.go1 (k := ?_)) | with_reducible apply RG.nil | with_reducible apply W.seq | with_reducible apply W.reg | with_reducible apply W.skip | with_reducible apply W.block | with_reducible apply W.drw | with_reducible apply DG.nil | (with_reducible refine W.done (QB.n ?_)) | refine W.cndT ?_ | refine W.cndF ?_))
  (first | ((with_reducible show RG _ _ (_ :: _) _ _ _); refine RG.sm (A.ldr ((show [AV.int .u8 a, .int .u8 b, .int .u8 c, .int .u8 d][(2 : Int).toNat]?.getD .any = .int .u8 c from rfl))) (k := ?_)) | ((with_reducible show DG _ _ (_ :: _) _ _ _ _ _); refine DG.sm (A.ldr ((show [AV.int .u8 a, .int .u8 b, .int .u8 c, .int .u8 d][(2 : Int).toNat]?.getD .any = .int .u8 c from rfl))) (k := ?_)))
  (repeat (first | ((with_reducible show RG _ _ (_ :: _) _ _ _); refine RG.go1 (k := ?_)) | ((with_reducible show DG _ _ (_ :: _) _ _ _ _ _); refine DG.go1 (k := ?_)) | with_reducible apply RG.nil | with_reducible apply W.seq | with_reducible apply W.reg | with_reducible apply W.skip | with_reducible apply W.block | with_reducible apply W.drw | with_reducible apply DG.nil | (with_reducible refine W.done (QB.n ?_)) | refine W.cndT ?_ | refine W.cndF ?_))
  (first | ((with_reducible show RG _ _ (_ :: _) _ _ _); refine RG.sm (A.ldr ((show [AV.int .u8 a, .int .u8 b, .int .u8 c, .int .u8 d][(3 : Int).toNat]?.getD .any = .int .u8 d from rfl))) (k := ?_)) | ((with_reducible show DG _ _ (_ :: _) _ _ _ _ _); refine DG.sm (A.ldr ((show [AV.int .u8 a, .int .u8 b, .int .u8 c, .int .u8 d][(3 : Int).toNat]?.getD .any = .int .u8 d from rfl))) (k := ?_)))
  (repeat (first | ((with_reducible show RG _ _ (_ :: _) _ _ _); refine RG.go1 (k := ?_)) | ((with_reducible show DG _ _ (_ :: _) _ _ _ _ _); refine DG.go1 (k := ?_)) | with_reducible apply RG.nil | with_reducible apply W.seq | with_reducible apply W.reg | with_reducible apply W.skip | with_reducible apply W.block | with_reducible apply W.drw | with_reducible apply DG.nil | (with_reducible refine W.done (QB.n ?_)) | refine W.cndT ?_ | refine W.cndF ?_))
  (refine W.ret ?_; (repeat (with_reducible first | refine QB.r ?_ | refine QL.r ?_ | refine QC.r ?_)); refine QF.r ?_)
  exact RetOk.rs (vs := [_]) r_caravelref14_word []
def wpre (a b c d : Int) : Nat → Int
  | 0 => 0
  | 1 => a
  | 2 => a * 256 + b
  | 3 => (a * 256 + b) * 256 + c
  | _ => ((a * 256 + b) * 256 + c) * 256 + d
theorem word4_ok (a b c d : Int) (h0 : 0 ≤ a ∧ a ≤ 255) (h1 : 0 ≤ b ∧ b ≤ 255) (h2 : 0 ≤ c ∧ c ≤ 255) (h3 : 0 ≤ d ∧ d ≤ 255) : ACall Try.prog 21 [.agg [.int .u8 a, .int .u8 b, .int .u8 c, .int .u8 d]] (.int .i64 (W4 a b c d)) [] := by
  unfold W4
  have p0 : wpre a b c d 0 = 0 := rfl
  have p1 : wpre a b c d 1 = a := rfl
  have p2 : wpre a b c d 2 = a * 256 + b := rfl
  have p3 : wpre a b c d 3 = (a * 256 + b) * 256 + c := rfl
  have p4 : wpre a b c d 4 = ((a * 256 + b) * 256 + c) * 256 + d := rfl
  refine acall_walk (N := 17) Try.func21 (by kernel_rfl) p_caravelref04_word rfl ?_; unfold c_caravelref04_word; dsimp only [enum, Nat.reduceAdd]
  (repeat (first | ((with_reducible show RG _ _ (_ :: _) _ _ _); refine RG.go1 (k := ?_)) | ((with_reducible show DG _ _ (_ :: _) _ _ _ _ _); refine DG.go1 (k := ?_)) | with_reducible apply RG.nil | with_reducible apply W.seq | with_reducible apply W.reg | with_reducible apply W.skip | with_reducible apply W.block | with_reducible apply W.drw | with_reducible apply DG.nil | (with_reducible refine W.done (QB.n ?_)) | refine W.cndT ?_ | refine W.cndF ?_))
  refine W.loop (ι := {i : Nat // i ≤ 4}) (fun i => ⟨[(4, .int .i64 i.1), (3, .int .i64 (wpre a b c d i.1)), (1, .aptr 0 4)], [], [some ⟨false, 1, [.int .u8 a, .int .u8 b, .int .u8 c, .int .u8 d]⟩], 0, 1⟩) (fun q => 4 - q.1) ⟨0, by omega⟩ ?_ ?_
  · exact Wk.rn ([] ) ( [0])
  intro q
  obtain ⟨i, hi⟩ : ∃ i, q.1 = i := ⟨_, rfl⟩
  rw [hi]
  have h4 : i ≤ 4 := by rw [← hi]; exact q.2
  obtain rfl | rfl | rfl | rfl | rfl : i = 0 ∨ i = 1 ∨ i = 2 ∨ i = 3 ∨ i = 4 := by omega
  · (repeat (first | ((with_reducible show RG _ _ (_ :: _) _ _ _); refine RG.go1 (k := ?_)) | ((with_reducible show DG _ _ (_ :: _) _ _ _ _ _); refine DG.go1 (k := ?_)) | with_reducible apply RG.nil | with_reducible apply W.seq | with_reducible apply W.reg | with_reducible apply W.skip | with_reducible apply W.block | with_reducible apply W.drw | with_reducible apply DG.nil | (with_reducible refine W.done (QB.n ?_)) | refine W.cndT ?_ | refine W.cndF ?_))
    (first | ((with_reducible show RG _ _ (_ :: _) _ _ _); refine RG.sm (A.ldr ((show [AV.int .u8 a, .int .u8 b, .int .u8 c, .int .u8 d][((0 : Nat) : Int).toNat]?.getD .any = .int .u8 a from rfl))) (k := ?_)) | ((with_reducible show DG _ _ (_ :: _) _ _ _ _ _); refine DG.sm (A.ldr ((show [AV.int .u8 a, .int .u8 b, .int .u8 c, .int .u8 d][((0 : Nat) : Int).toNat]?.getD .any = .int .u8 a from rfl))) (k := ?_)))
    (repeat (first | ((with_reducible show RG _ _ (_ :: _) _ _ _); refine RG.go1 (k := ?_)) | ((with_reducible show DG _ _ (_ :: _) _ _ _ _ _); refine DG.go1 (k := ?_)) | with_reducible apply RG.nil | with_reducible apply W.seq | with_reducible apply W.reg | with_reducible apply W.skip | with_reducible apply W.block | with_reducible apply W.drw | with_reducible apply DG.nil | (with_reducible refine W.done (QB.n ?_)) | refine W.cndT ?_ | refine W.cndF ?_))
    refine W.done (QL.n (⟨1, by omega⟩) ?_ ?_)
    · exact Wk.rn ([] ) ( [0])
    · dsimp only; omega
  · (repeat (first | ((with_reducible show RG _ _ (_ :: _) _ _ _); refine RG.go1 (k := ?_)) | ((with_reducible show DG _ _ (_ :: _) _ _ _ _ _); refine DG.go1 (k := ?_)) | with_reducible apply RG.nil | with_reducible apply W.seq | with_reducible apply W.reg | with_reducible apply W.skip | with_reducible apply W.block | with_reducible apply W.drw | with_reducible apply DG.nil | (with_reducible refine W.done (QB.n ?_)) | refine W.cndT ?_ | refine W.cndF ?_))
    (first | ((with_reducible show RG _ _ (_ :: _) _ _ _); refine RG.sm (A.ldr ((show [AV.int .u8 a, .int .u8 b, .int .u8 c, .int .u8 d][((1 : Nat) : Int).toNat]?.getD .any = .int .u8 b from rfl))) (k := ?_)) | ((with_reducible show DG _ _ (_ :: _) _ _ _ _ _); refine DG.sm (A.ldr ((show [AV.int .u8 a, .int .u8 b, .int .u8 c, .int .u8 d][((1 : Nat) : Int).toNat]?.getD .any = .int .u8 b from rfl))) (k := ?_)))
    (repeat (first | ((with_reducible show RG _ _ (_ :: _) _ _ _); refine RG.go1 (k := ?_)) | ((with_reducible show DG _ _ (_ :: _) _ _ _ _ _); refine DG.go1 (k := ?_)) | with_reducible apply RG.nil | with_reducible apply W.seq | with_reducible apply W.reg | with_reducible apply W.skip | with_reducible apply W.block | with_reducible apply W.drw | with_reducible apply DG.nil | (with_reducible refine W.done (QB.n ?_)) | refine W.cndT ?_ | refine W.cndF ?_))
    refine W.done (QL.n (⟨2, by omega⟩) ?_ ?_)
    · exact Wk.rn ([] ) ( [0])
    · dsimp only; omega
  · (repeat (first | ((with_reducible show RG _ _ (_ :: _) _ _ _); refine RG.go1 (k := ?_)) | ((with_reducible show DG _ _ (_ :: _) _ _ _ _ _); refine DG.go1 (k := ?_)) | with_reducible apply RG.nil | with_reducible apply W.seq | with_reducible apply W.reg | with_reducible apply W.skip | with_reducible apply W.block | with_reducible apply W.drw | with_reducible apply DG.nil | (with_reducible refine W.done (QB.n ?_)) | refine W.cndT ?_ | refine W.cndF ?_))
    (first | ((with_reducible show RG _ _ (_ :: _) _ _ _); refine RG.sm (A.ldr ((show [AV.int .u8 a, .int .u8 b, .int .u8 c, .int .u8 d][((2 : Nat) : Int).toNat]?.getD .any = .int .u8 c from rfl))) (k := ?_)) | ((with_reducible show DG _ _ (_ :: _) _ _ _ _ _); refine DG.sm (A.ldr ((show [AV.int .u8 a, .int .u8 b, .int .u8 c, .int .u8 d][((2 : Nat) : Int).toNat]?.getD .any = .int .u8 c from rfl))) (k := ?_)))
    (repeat (first | ((with_reducible show RG _ _ (_ :: _) _ _ _); refine RG.go1 (k := ?_)) | ((with_reducible show DG _ _ (_ :: _) _ _ _ _ _); refine DG.go1 (k := ?_)) | with_reducible apply RG.nil | with_reducible apply W.seq | with_reducible apply W.reg | with_reducible apply W.skip | with_reducible apply W.block | with_reducible apply W.drw | with_reducible apply DG.nil | (with_reducible refine W.done (QB.n ?_)) | refine W.cndT ?_ | refine W.cndF ?_))
    refine W.done (QL.n (⟨3, by omega⟩) ?_ ?_)
    · exact Wk.rn ([] ) ( [0])
    · dsimp only; omega
  · (repeat (first | ((with_reducible show RG _ _ (_ :: _) _ _ _); refine RG.go1 (k := ?_)) | ((with_reducible show DG _ _ (_ :: _) _ _ _ _ _); refine DG.go1 (k := ?_)) | with_reducible apply RG.nil | with_reducible apply W.seq | with_reducible apply W.reg | with_reducible apply W.skip | with_reducible apply W.block | with_reducible apply W.drw | with_reducible apply DG.nil | (with_reducible refine W.done (QB.n ?_)) | refine W.cndT ?_ | refine W.cndF ?_))
    (first | ((with_reducible show RG _ _ (_ :: _) _ _ _); refine RG.sm (A.ldr ((show [AV.int .u8 a, .int .u8 b, .int .u8 c, .int .u8 d][((3 : Nat) : Int).toNat]?.getD .any = .int .u8 d from rfl))) (k := ?_)) | ((with_reducible show DG _ _ (_ :: _) _ _ _ _ _); refine DG.sm (A.ldr ((show [AV.int .u8 a, .int .u8 b, .int .u8 c, .int .u8 d][((3 : Nat) : Int).toNat]?.getD .any = .int .u8 d from rfl))) (k := ?_)))
    (repeat (first | ((with_reducible show RG _ _ (_ :: _) _ _ _); refine RG.go1 (k := ?_)) | ((with_reducible show DG _ _ (_ :: _) _ _ _ _ _); refine DG.go1 (k := ?_)) | with_reducible apply RG.nil | with_reducible apply W.seq | with_reducible apply W.reg | with_reducible apply W.skip | with_reducible apply W.block | with_reducible apply W.drw | with_reducible apply DG.nil | (with_reducible refine W.done (QB.n ?_)) | refine W.cndT ?_ | refine W.cndF ?_))
    refine W.done (QL.n (⟨4, by omega⟩) ?_ ?_)
    · exact Wk.rn ([] ) ( [0])
    · dsimp only; omega
  · (repeat (first | ((with_reducible show RG _ _ (_ :: _) _ _ _); refine RG.go1 (k := ?_)) | ((with_reducible show DG _ _ (_ :: _) _ _ _ _ _); refine DG.go1 (k := ?_)) | with_reducible apply RG.nil | with_reducible apply W.seq | with_reducible apply W.reg | with_reducible apply W.skip | with_reducible apply W.block | with_reducible apply W.drw | with_reducible apply DG.nil | (with_reducible refine W.done (QB.n ?_)) | refine W.cndT ?_ | refine W.cndF ?_))
    (refine W.exit ?_; (repeat (first | (with_reducible first | refine QL.x ?_ | refine QC.x ?_ | refine QB.x ?_) | (with_reducible refine QB.o (by decide) ?_))))
    (repeat (first | ((with_reducible show RG _ _ (_ :: _) _ _ _); refine RG.go1 (k := ?_)) | ((with_reducible show DG _ _ (_ :: _) _ _ _ _ _); refine DG.go1 (k := ?_)) | with_reducible apply RG.nil | with_reducible apply W.seq | with_reducible apply W.reg | with_reducible apply W.skip | with_reducible apply W.block | with_reducible apply W.drw | with_reducible apply DG.nil | (with_reducible refine W.done (QB.n ?_)) | refine W.cndT ?_ | refine W.cndF ?_))
    (refine W.ret ?_; (repeat (with_reducible first | refine QB.r ?_ | refine QL.r ?_ | refine QC.r ?_)); refine QF.r ?_)
    rw [p4]
    exact RetOk.rs (vs := [_]) r_caravelref04_word []
theorem div_half (X : Int) (k : Nat) : X / 2 ^ (k + 1) = X / 2 ^ k / 2 := by
  rw [Int.pow_succ, Int.ediv_ediv_of_nonneg (Int.pow_nonneg (by decide))]
theorem div_b {X : Int} (h : 0 ≤ X ∧ X ≤ 4294967295) (k : Nat) : 0 ≤ X / 2 ^ k ∧ X / 2 ^ k ≤ 4294967295 := by
  have h1 : 0 ≤ X / 2 ^ k := Int.ediv_nonneg h.1 (Int.pow_nonneg (by decide))
  have h2 : X / 2 ^ k ≤ X := Int.ediv_le_self _ h.1
  omega
def wwithin (b X Y : Int) : Bool := decide (0 ≤ b ∧ b ≤ 32) && decide (X / 2 ^ (32 - b).toNat = Y / 2 ^ (32 - b).toNat)
theorem within4_ok (a0 a1 a2 a3 n0 n1 n2 n3 b : Int) (ha0 : 0 ≤ a0 ∧ a0 ≤ 255) (ha1 : 0 ≤ a1 ∧ a1 ≤ 255) (ha2 : 0 ≤ a2 ∧ a2 ≤ 255) (ha3 : 0 ≤ a3 ∧ a3 ≤ 255) (hn0 : 0 ≤ n0 ∧ n0 ≤ 255) (hn1 : 0 ≤ n1 ∧ n1 ≤ 255) (hn2 : 0 ≤ n2 ∧ n2 ≤ 255) (hn3 : 0 ≤ n3 ∧ n3 ≤ 255) :
    ACall Try.prog 11 [.agg [.int .u8 a0, .int .u8 a1, .int .u8 a2, .int .u8 a3], .agg [.int .u8 n0, .int .u8 n1, .int .u8 n2, .int .u8 n3], .int .i64 b] (.bool (wwithin b (W4 a0 a1 a2 a3) (W4 n0 n1 n2 n3))) [] := by
  have c1 := word4_ok a0 a1 a2 a3 ha0 ha1 ha2 ha3
  have c2 := word4_ok n0 n1 n2 n3 hn0 hn1 hn2 hn3
  have b1 := W4_b ha0 ha1 ha2 ha3
  have b2 := W4_b hn0 hn1 hn2 hn3
  generalize W4 a0 a1 a2 a3 = X at *
  generalize W4 n0 n1 n2 n3 = Y at *
  clear ha0 ha1 ha2 ha3 hn0 hn1 hn2 hn3
  unfold wwithin
  by_cases hb : 0 ≤ b ∧ b ≤ 32
  · rw [decide_eq_true hb, Bool.true_and]
    obtain ⟨hb1, hb2⟩ := hb
    obtain ⟨X', hX⟩ : ∃ Z, X / 2 ^ (32 - b).toNat = Z := ⟨_, rfl⟩
    obtain ⟨Y', hY⟩ : ∃ Z, Y / 2 ^ (32 - b).toNat = Z := ⟨_, rfl⟩
    rw [hX, hY]
    obtain ⟨m, rfl⟩ : ∃ m : Nat, b = m := ⟨b.toNat, by omega⟩
    refine acall_walk (N := 32) Try.func11 (by kernel_rfl) p_caravelref04_Within rfl ?_; unfold c_caravelref04_Within; dsimp only [enum, Nat.reduceAdd]
    (repeat (first | ((with_reducible show RG _ _ (_ :: _) _ _ _); refine RG.go1 (k := ?_)) | ((with_reducible show DG _ _ (_ :: _) _ _ _ _ _); refine DG.go1 (k := ?_)) | with_reducible apply RG.nil | with_reducible apply W.seq | with_reducible apply W.reg | with_reducible apply W.skip | with_reducible apply W.block | with_reducible apply W.drw | with_reducible apply DG.nil | (with_reducible refine W.done (QB.n ?_)) | refine W.cndT ?_ | refine W.cndF ?_))
    (first | ((with_reducible show RG _ _ (_ :: _) _ _ _); refine RG.ca (c1) (k := ?_)) | ((with_reducible show DG _ _ (_ :: _) _ _ _ _ _); refine DG.ca (c1) (k := ?_)))
    (repeat (first | ((with_reducible show RG _ _ (_ :: _) _ _ _); refine RG.go1 (k := ?_)) | ((with_reducible show DG _ _ (_ :: _) _ _ _ _ _); refine DG.go1 (k := ?_)) | with_reducible apply RG.nil | with_reducible apply W.seq | with_reducible apply W.reg | with_reducible apply W.skip | with_reducible apply W.block | with_reducible apply W.drw | with_reducible apply DG.nil | (with_reducible refine W.done (QB.n ?_)) | refine W.cndT ?_ | refine W.cndF ?_))
    (first | ((with_reducible show RG _ _ (_ :: _) _ _ _); refine RG.ca (c2) (k := ?_)) | ((with_reducible show DG _ _ (_ :: _) _ _ _ _ _); refine DG.ca (c2) (k := ?_)))
    (repeat (first | ((with_reducible show RG _ _ (_ :: _) _ _ _); refine RG.go1 (k := ?_)) | ((with_reducible show DG _ _ (_ :: _) _ _ _ _ _); refine DG.go1 (k := ?_)) | with_reducible apply RG.nil | with_reducible apply W.seq | with_reducible apply W.reg | with_reducible apply W.skip | with_reducible apply W.block | with_reducible apply W.drw | with_reducible apply DG.nil | (with_reducible refine W.done (QB.n ?_)) | refine W.cndT ?_ | refine W.cndF ?_))
    refine W.loop (ι := {i : Nat // m + i ≤ 32}) (fun i => ⟨[(9, .int .i64 ((m : Int) + i.1)), (7, .int .i64 (X / 2 ^ i.1)), (8, .int .i64 (Y / 2 ^ i.1))], [], [], 0, 0⟩) (fun q => 32 - q.1) ⟨0, by omega⟩ ?_ ?_
    · have q1 : ALe (.int .i64 X) (.int .i64 (X / 2 ^ 0)) := ALe.int (by simp)
      have q2 : ALe (.int .i64 Y) (.int .i64 (Y / 2 ^ 0)) := ALe.int (by simp)
      dsimp only
      exact Wk.rn ([] ) ( [])
    rintro ⟨i, hi⟩
    dsimp only
    have d1 := div_b b1 i
    have d2 := div_b b2 i
    have e1 := div_half X i
    have e2 := div_half Y i
    (repeat (first | ((with_reducible show RG _ _ (_ :: _) _ _ _); refine RG.go1 (k := ?_)) | ((with_reducible show DG _ _ (_ :: _) _ _ _ _ _); refine DG.go1 (k := ?_)) | with_reducible apply RG.nil | with_reducible apply W.seq | with_reducible apply W.reg | with_reducible apply W.skip | with_reducible apply W.block | with_reducible apply W.drw | with_reducible apply DG.nil | (with_reducible refine W.done (QB.n ?_))))
    refine W.cnd (fun h1 => ?_) (fun h1 => ?_)
    · have hlt : m + i < 32 := by simp at h1; omega
      clear h1
      obtain ⟨x, hx⟩ : ∃ x, X / 2 ^ i = x := ⟨_, rfl⟩
      obtain ⟨y, hy⟩ : ∃ y, Y / 2 ^ i = y := ⟨_, rfl⟩
      rw [hx] at d1 e1 ⊢
      rw [hy] at d2 e2 ⊢
      clear hx hy hX hY
      (repeat (first | ((with_reducible show RG _ _ (_ :: _) _ _ _); refine RG.go1 (k := ?_)) | ((with_reducible show DG _ _ (_ :: _) _ _ _ _ _); refine DG.go1 (k := ?_)) | with_reducible apply RG.nil | with_reducible apply W.seq | with_reducible apply W.reg | with_reducible apply W.skip | with_reducible apply W.block | with_reducible apply W.drw | with_reducible apply DG.nil | (with_reducible refine W.done (QB.n ?_)) | refine W.cndT ?_ | refine W.cndF ?_))
      rw [← e1, ← e2]
      refine W.done (QL.n (⟨i + 1, by omega⟩) ?_ ?_)
      · exact Wk.rn ([] ) ( [])
      · dsimp only; omega
    have hi2 : i = (32 - (m : Int)).toNat := by simp at h1; omega
    rw [← hi2] at hX hY
    clear h1
    (refine W.exit ?_; (repeat (first | (with_reducible first | refine QL.x ?_ | refine QC.x ?_ | refine QB.x ?_) | (with_reducible refine QB.o (by decide) ?_))))
    rw [hX, hY]
    (repeat (first | ((with_reducible show RG _ _ (_ :: _) _ _ _); refine RG.go1 (k := ?_)) | ((with_reducible show DG _ _ (_ :: _) _ _ _ _ _); refine DG.go1 (k := ?_)) | with_reducible apply RG.nil | with_reducible apply W.seq | with_reducible apply W.reg | with_reducible apply W.skip | with_reducible apply W.block | with_reducible apply W.drw | with_reducible apply DG.nil | (with_reducible refine W.done (QB.n ?_)) | refine W.cndT ?_ | refine W.cndF ?_))
    (refine W.ret ?_; (repeat (with_reducible first | refine QB.r ?_ | refine QL.r ?_ | refine QC.r ?_)); refine QF.r ?_)
    exact RetOk.rs (vs := [_]) r_caravelref04_Within []
  · rw [decide_eq_false hb, Bool.false_and]
    rcases Int.lt_or_le b 0 with q | q
    · clear hb
      refine acall_walk (N := 32) Try.func11 (by kernel_rfl) p_caravelref04_Within rfl ?_; unfold c_caravelref04_Within; dsimp only [enum, Nat.reduceAdd]
      (repeat (first | ((with_reducible show RG _ _ (_ :: _) _ _ _); refine RG.go1 (k := ?_)) | ((with_reducible show DG _ _ (_ :: _) _ _ _ _ _); refine DG.go1 (k := ?_)) | with_reducible apply RG.nil | with_reducible apply W.seq | with_reducible apply W.reg | with_reducible apply W.skip | with_reducible apply W.block | with_reducible apply W.drw | with_reducible apply DG.nil | (with_reducible refine W.done (QB.n ?_)) | refine W.cndT ?_ | refine W.cndF ?_))
      (refine W.ret ?_; (repeat (with_reducible first | refine QB.r ?_ | refine QL.r ?_ | refine QC.r ?_)); refine QF.r ?_)
      exact RetOk.rs (vs := [_]) r_caravelref04_Within []
    · have q2 : 32 < b := by omega
      clear hb
      refine acall_walk (N := 32) Try.func11 (by kernel_rfl) p_caravelref04_Within rfl ?_; unfold c_caravelref04_Within; dsimp only [enum, Nat.reduceAdd]
      (repeat (first | ((with_reducible show RG _ _ (_ :: _) _ _ _); refine RG.go1 (k := ?_)) | ((with_reducible show DG _ _ (_ :: _) _ _ _ _ _); refine DG.go1 (k := ?_)) | with_reducible apply RG.nil | with_reducible apply W.seq | with_reducible apply W.reg | with_reducible apply W.skip | with_reducible apply W.block | with_reducible apply W.drw | with_reducible apply DG.nil | (with_reducible refine W.done (QB.n ?_)) | refine W.cndT ?_ | refine W.cndF ?_))
      (refine W.ret ?_; (repeat (with_reducible first | refine QB.r ?_ | refine QL.r ?_ | refine QC.r ?_)); refine QF.r ?_)
      exact RetOk.rs (vs := [_]) r_caravelref04_Within []
def msk (X b : Int) : Int := X / 2 ^ (32 - b).toNat * 2 ^ (32 - b).toNat
theorem pow_b : ∀ k : Nat, k ≤ 32 → 1 ≤ (2 : Int) ^ k ∧ (2 : Int) ^ k ≤ 4294967296
  | 0, _ => by decide
  | k + 1, h => by
    have := pow_b k (by omega)
    refine ⟨by rw [Int.pow_succ]; omega, ?_⟩
    have h2 : ∀ j : Fin 33, (2 : Int) ^ j.1 ≤ 4294967296 := by decide
    exact h2 ⟨k + 1, by omega⟩
theorem Mask_ok (a b c d n : Int) (hn : 0 ≤ n ∧ n ≤ 32) (h0 : 0 ≤ a ∧ a ≤ 255) (h1 : 0 ≤ b ∧ b ≤ 255) (h2 : 0 ≤ c ∧ c ≤ 255) (h3 : 0 ≤ d ∧ d ≤ 255) :
    ACall Try.prog 18 [.agg [.int .u8 a, .int .u8 b, .int .u8 c, .int .u8 d], .int .i64 n] (.agg [.int .u8 (msk (W4 a b c d) n / 16777216 % 256), .int .u8 (msk (W4 a b c d) n / 65536 % 256), .int .u8 (msk (W4 a b c d) n / 256 % 256), .int .u8 (msk (W4 a b c d) n % 256)]) [] := by
  have cw := word14_ok a b c d h0 h1 h2 h3
  have b1 := W4_b h0 h1 h2 h3
  generalize W4 a b c d = X at *
  clear h0 h1 h2 h3
  unfold msk
  obtain ⟨m, rfl⟩ : ∃ m : Nat, n = m := ⟨n.toNat, by omega⟩
  obtain ⟨k, hk⟩ : ∃ k, (32 - (m : Int)).toNat = k := ⟨_, rfl⟩
  rw [hk]
  obtain ⟨U, hU⟩ : ∃ U, (2 : Int) ^ k = U := ⟨_, rfl⟩
  have hUb := pow_b k (by omega)
  have hq := div_b b1 k
  rw [hU] at hUb hq
  have hm1 : X / U * U ≤ X := Int.ediv_mul_le X (by omega)
  have hm0 : 0 ≤ X / U * U := Int.mul_nonneg hq.1 (by omega)
  rw [hU]
  refine acall_walk (N := 34) Try.func18 (by kernel_rfl) p_caravelref14_Mask rfl ?_; unfold c_caravelref14_Mask; dsimp only [enum, Nat.reduceAdd]
  (repeat (first | ((with_reducible show RG _ _ (_ :: _) _ _ _); refine RG.go1 (k := ?_)) | ((with_reducible show DG _ _ (_ :: _) _ _ _ _ _); refine DG.go1 (k := ?_)) | with_reducible apply RG.nil | with_reducible apply W.seq | with_reducible apply W.reg | with_reducible apply W.skip | with_reducible apply W.block | with_reducible apply W.drw | with_reducible apply DG.nil | (with_reducible refine W.done (QB.n ?_)) | refine W.cndT ?_ | refine W.cndF ?_))
  (first | ((with_reducible show RG _ _ (_ :: _) _ _ _); refine RG.ca (cw) (k := ?_)) | ((with_reducible show DG _ _ (_ :: _) _ _ _ _ _); refine DG.ca (cw) (k := ?_)))
  (repeat (first | ((with_reducible show RG _ _ (_ :: _) _ _ _); refine RG.go1 (k := ?_)) | ((with_reducible show DG _ _ (_ :: _) _ _ _ _ _); refine DG.go1 (k := ?_)) | with_reducible apply RG.nil | with_reducible apply W.seq | with_reducible apply W.reg | with_reducible apply W.skip | with_reducible apply W.block | with_reducible apply W.drw | with_reducible apply DG.nil | (with_reducible refine W.done (QB.n ?_)) | refine W.cndT ?_ | refine W.cndF ?_))
  refine W.loop (ι := {i : Nat // m + i ≤ 32}) (fun i => ⟨[(7, .int .i64 ((m : Int) + i.1)), (6, .int .i64 (2 ^ i.1)), (5, .int .i64 X), (4, .aptr 1 4)], [], [some ⟨false, 1, [.int .u8 a, .int .u8 b, .int .u8 c, .int .u8 d]⟩, some ⟨false, 1, [.int .u8 0, .int .u8 0, .int .u8 0, .int .u8 0]⟩], 0, 2⟩) (fun q => 32 - q.1) ⟨0, by omega⟩ ?_ ?_
  · have q1 : ALe (.int .i64 1) (.int .i64 (2 ^ 0)) := ALe.int rfl
    dsimp only
    exact Wk.rn ([] ) ( [0, 1])
  rintro ⟨i, hi⟩
  dsimp only
  have d1 := pow_b i (by omega)
  have e1 : (2 : Int) ^ (i + 1) = 2 ^ i * 2 := Int.pow_succ _ _
  (repeat (first | ((with_reducible show RG _ _ (_ :: _) _ _ _); refine RG.go1 (k := ?_)) | ((with_reducible show DG _ _ (_ :: _) _ _ _ _ _); refine DG.go1 (k := ?_)) | with_reducible apply RG.nil | with_reducible apply W.seq | with_reducible apply W.reg | with_reducible apply W.skip | with_reducible apply W.block | with_reducible apply W.drw | with_reducible apply DG.nil | (with_reducible refine W.done (QB.n ?_))))
  refine W.cnd (fun h1 => ?_) (fun h1 => ?_)
  · have hlt : m + i < 32 := by simp at h1; omega
    clear h1 hm1 hm0 hq
    obtain ⟨x, hx⟩ : ∃ x, (2 : Int) ^ i = x := ⟨_, rfl⟩
    rw [hx] at d1 e1 ⊢
    clear hx hU hUb
    (repeat (first | ((with_reducible show RG _ _ (_ :: _) _ _ _); refine RG.go1 (k := ?_)) | ((with_reducible show DG _ _ (_ :: _) _ _ _ _ _); refine DG.go1 (k := ?_)) | with_reducible apply RG.nil | with_reducible apply W.seq | with_reducible apply W.reg | with_reducible apply W.skip | with_reducible apply W.block | with_reducible apply W.drw | with_reducible apply DG.nil | (with_reducible refine W.done (QB.n ?_)) | refine W.cndT ?_ | refine W.cndF ?_))
    rw [← e1]
    refine W.done (QL.n (⟨i + 1, by omega⟩) ?_ ?_)
    · exact Wk.rn ([] ) ( [0, 1])
    · dsimp only; omega
  have hi2 : i = k := by simp at h1; omega
  subst hi2
  clear h1 d1 e1
  (refine W.exit ?_; (repeat (first | (with_reducible first | refine QL.x ?_ | refine QC.x ?_ | refine QB.x ?_) | (with_reducible refine QB.o (by decide) ?_))))
  rw [hU]
  clear hU
  (repeat (first | ((with_reducible show RG _ _ (_ :: _) _ _ _); refine RG.go1 (k := ?_)) | ((with_reducible show DG _ _ (_ :: _) _ _ _ _ _); refine DG.go1 (k := ?_)) | with_reducible apply RG.nil | with_reducible apply W.seq | with_reducible apply W.reg | with_reducible apply W.skip | with_reducible apply W.block | with_reducible apply W.drw | with_reducible apply DG.nil | (with_reducible refine W.done (QB.n ?_)) | refine W.cndT ?_ | refine W.cndF ?_))
  rw [show X / U * U / 16777216 % 256 = X / U * U / 16777216 by omega]
  (refine W.ret ?_; (repeat (with_reducible first | refine QB.r ?_ | refine QL.r ?_ | refine QC.r ?_)); refine QF.r ?_)
  exact RetOk.rs (vs := [_]) r_caravelref14_Mask []
end Go.Proofs.Yteljhabahaimpaa
