/- route.mask, addr.Within. -/
import Derived.Test.YteljhabahaimpaaRs2
namespace Go.Proofs.Yteljhabahaimpaa
open Go.RowKit
set_option linter.unusedVariables false
set_option linter.unusedSimpArgs false
set_option maxRecDepth 100000
set_option maxHeartbeats 4000000
def mexp (x m : Int) : Int := ((BitVec.ofInt IntKind.u8.bits x &&& BitVec.ofInt IntKind.u8.bits (IntKind.u8.wrap ((BitVec.ofInt IntKind.u8.bits (if IntKind.u8.signed = true then -1 else IntKind.u8.max) ^^^ BitVec.ofInt IntKind.u8.bits (Int.fdiv 255 (2 ^ min m.toNat IntKind.u8.bits))).toNat))).toNat : Int) % 256
/-- noughts behind the first m bits of a byte -/
def keep8 (x m : Int) : Int := x / 2 ^ (8 - m).toNat * 2 ^ (8 - m).toNat
theorem mexp_all : ∀ m : Fin 9, ∀ x : Fin 256, mexp (x.1 : Int) (m.1 : Int) = keep8 (x.1 : Int) (m.1 : Int) := by decide +kernel
theorem mexp_eq {x m : Int} (hx : 0 ≤ x ∧ x ≤ 255) (hm : 0 ≤ m ∧ m ≤ 8) : mexp x m = keep8 x m := by
  have := mexp_all ⟨m.toNat, by omega⟩ ⟨x.toNat, by omega⟩
  dsimp only at this
  rw [show ((m.toNat : Nat) : Int) = m by omega, show ((x.toNat : Nat) : Int) = x by omega] at this
  exact this
def mn (b : Int) (i : Int) : Int := max 0 (min (b - 8 * i) 8)
theorem mn_b (b i : Int) : 0 ≤ mn b i ∧ mn b i ≤ 8 := by unfold mn; omega
def mrow (N K : List AV) (i : Nat) : List AV := K.take i ++ N.drop i
theorem mask_ok (n0 n1 n2 n3 b : Int) (hb : 0 ≤ b ∧ b ≤ 32) (h0 : 0 ≤ n0 ∧ n0 ≤ 255) (h1 : 0 ≤ n1 ∧ n1 ≤ 255) (h2 : 0 ≤ n2 ∧ n2 ≤ 255) (h3 : 0 ≤ n3 ∧ n3 ≤ 255) :
    ACall Try.prog 22 [.agg [.int .u8 n0, .int .u8 n1, .int .u8 n2, .int .u8 n3], .int .i64 b] (.agg [.int .u8 (keep8 n0 (mn b 0)), .int .u8 (keep8 n1 (mn b 1)), .int .u8 (keep8 n2 (mn b 2)), .int .u8 (keep8 n3 (mn b 3))]) [] := by
  obtain ⟨k0, hk0⟩ : ∃ k, keep8 n0 (mn b 0) = k := ⟨_, rfl⟩
  obtain ⟨k1, hk1⟩ : ∃ k, keep8 n1 (mn b 1) = k := ⟨_, rfl⟩
  obtain ⟨k2, hk2⟩ : ∃ k, keep8 n2 (mn b 2) = k := ⟨_, rfl⟩
  obtain ⟨k3, hk3⟩ : ∃ k, keep8 n3 (mn b 3) = k := ⟨_, rfl⟩
  rw [hk0, hk1, hk2, hk3]
  refine acall_walk (N := 26) Try.func22 (by kernel_rfl) p_route_mask rfl ?_; unfold c_route_mask; dsimp only [enum, Nat.reduceAdd]
  (repeat (first | ((with_reducible show RG _ _ (_ :: _) _ _ _); refine RG.go1 (k := ?_)) | ((with_reducible show DG _ _ (_ :: _) _ _ _ _ _); refine DG.go1 (k := ?_)) | with_reducible apply RG.nil | with_reducible apply W.seq | with_reducible apply W.reg | with_reducible apply W.skip | with_reducible apply W.block | with_reducible apply W.drw | with_reducible apply DG.nil | (with_reducible refine W.done (QB.n ?_)) | refine W.cndT ?_ | refine W.cndF ?_))
  refine W.loop (ι := {i : Nat // i ≤ 4}) (fun i => ⟨[(7, .int .i64 i.1), (2, .aptr 0 4), (4, .aptr 1 4), (1, .int .i64 b)], [], [some ⟨false, 1, mrow [.int .u8 n0, .int .u8 n1, .int .u8 n2, .int .u8 n3] [.int .u8 k0, .int .u8 k1, .int .u8 k2, .int .u8 k3] i.1⟩, some ⟨false, 1, [.int .u8 0, .int .u8 0, .int .u8 0, .int .u8 0]⟩], 0, 2⟩) (fun i => 4 - i.1) ⟨0, by omega⟩ ?_ ?_
  · exact Wk.rn ([] ) ( [0, 1])
  intro q
  obtain ⟨i, hi⟩ : ∃ i, q.1 = i := ⟨_, rfl⟩
  rw [hi]
  have h4 : i ≤ 4 := by rw [← hi]; exact q.2
  obtain rfl | rfl | rfl | rfl | rfl : i = 0 ∨ i = 1 ∨ i = 2 ∨ i = 3 ∨ i = 4 := by omega
  · skip
    rw [show mrow [.int .u8 n0, .int .u8 n1, .int .u8 n2, .int .u8 n3] [.int .u8 k0, .int .u8 k1, .int .u8 k2, .int .u8 k3] 0 = [.int .u8 n0, .int .u8 n1, .int .u8 n2, .int .u8 n3] from rfl]
    obtain ⟨m, hm⟩ : ∃ m, mn b ((0 : Nat) : Int) = m := ⟨_, rfl⟩
    have hm2 := mn_b b ((0 : Nat) : Int)
    rw [hm] at hm2
    have hx := mexp_eq (x := n0) (m := m) (by omega) hm2
    have hkk := hk0
    rw [show mn b 0 = m from hm] at hkk
    unfold mn at hm
    (repeat (first | ((with_reducible show RG _ _ (_ :: _) _ _ _); refine RG.go1 (k := ?_)) | ((with_reducible show DG _ _ (_ :: _) _ _ _ _ _); refine DG.go1 (k := ?_)) | with_reducible apply RG.nil | with_reducible apply W.seq | with_reducible apply W.reg | with_reducible apply W.skip | with_reducible apply W.block | with_reducible apply W.drw | with_reducible apply DG.nil | (with_reducible refine W.done (QB.n ?_)) | refine W.cndT ?_ | refine W.cndF ?_))
    rw [hm]
    clear hm
    (first | ((with_reducible show RG _ _ (_ :: _) _ _ _); refine RG.sm (A.ldr ((show ([.int .u8 n0, .int .u8 n1, .int .u8 n2, .int .u8 n3] : List AV)[((0 : Nat) : Int).toNat]?.getD .any = .int .u8 n0 from rfl))) (k := ?_)) | ((with_reducible show DG _ _ (_ :: _) _ _ _ _ _); refine DG.sm (A.ldr ((show ([.int .u8 n0, .int .u8 n1, .int .u8 n2, .int .u8 n3] : List AV)[((0 : Nat) : Int).toNat]?.getD .any = .int .u8 n0 from rfl))) (k := ?_)))
    (repeat (first | ((with_reducible show RG _ _ (_ :: _) _ _ _); refine RG.go1 (k := ?_)) | ((with_reducible show DG _ _ (_ :: _) _ _ _ _ _); refine DG.go1 (k := ?_)) | with_reducible apply RG.nil | with_reducible apply W.seq | with_reducible apply W.reg | with_reducible apply W.skip | with_reducible apply W.block | with_reducible apply W.drw | with_reducible apply DG.nil | (with_reducible refine W.done (QB.n ?_)) | refine W.cndT ?_ | refine W.cndF ?_))
    rw [show ((BitVec.ofInt IntKind.u8.bits n0 &&& BitVec.ofInt IntKind.u8.bits (IntKind.u8.wrap ((BitVec.ofInt IntKind.u8.bits (if IntKind.u8.signed = true then -1 else IntKind.u8.max) ^^^ BitVec.ofInt IntKind.u8.bits (Int.fdiv 255 (2 ^ min m.toNat IntKind.u8.bits))).toNat))).toNat : Int) % 256 = keep8 n0 m from hx]
    (first | ((with_reducible show RG _ _ (_ :: _) _ _ _); refine RG.sn (A.str ((show ([.int .u8 n0, .int .u8 n1, .int .u8 n2, .int .u8 n3] : List AV).set ((0 : Nat) : Int).toNat (.int .u8 (keep8 n0 m)) = [.int .u8 (keep8 n0 m), .int .u8 n1, .int .u8 n2, .int .u8 n3] from rfl))) (k := ?_)) | ((with_reducible show DG _ _ (_ :: _) _ _ _ _ _); refine DG.sn (A.str ((show ([.int .u8 n0, .int .u8 n1, .int .u8 n2, .int .u8 n3] : List AV).set ((0 : Nat) : Int).toNat (.int .u8 (keep8 n0 m)) = [.int .u8 (keep8 n0 m), .int .u8 n1, .int .u8 n2, .int .u8 n3] from rfl))) (k := ?_)))
    (repeat (first | ((with_reducible show RG _ _ (_ :: _) _ _ _); refine RG.go1 (k := ?_)) | ((with_reducible show DG _ _ (_ :: _) _ _ _ _ _); refine DG.go1 (k := ?_)) | with_reducible apply RG.nil | with_reducible apply W.seq | with_reducible apply W.reg | with_reducible apply W.skip | with_reducible apply W.block | with_reducible apply W.drw | with_reducible apply DG.nil | (with_reducible refine W.done (QB.n ?_)) | refine W.cndT ?_ | refine W.cndF ?_))
    rw [hkk]
    refine W.done (QL.n (⟨1, by omega⟩) ?_ ?_)
    · exact Wk.rn ([] ) ( [0, 1])
    · dsimp only; omega
  · skip
    rw [show mrow [.int .u8 n0, .int .u8 n1, .int .u8 n2, .int .u8 n3] [.int .u8 k0, .int .u8 k1, .int .u8 k2, .int .u8 k3] 1 = [.int .u8 k0, .int .u8 n1, .int .u8 n2, .int .u8 n3] from rfl]
    obtain ⟨m, hm⟩ : ∃ m, mn b ((1 : Nat) : Int) = m := ⟨_, rfl⟩
    have hm2 := mn_b b ((1 : Nat) : Int)
    rw [hm] at hm2
    have hx := mexp_eq (x := n1) (m := m) (by omega) hm2
    have hkk := hk1
    rw [show mn b 1 = m from hm] at hkk
    unfold mn at hm
    (repeat (first | ((with_reducible show RG _ _ (_ :: _) _ _ _); refine RG.go1 (k := ?_)) | ((with_reducible show DG _ _ (_ :: _) _ _ _ _ _); refine DG.go1 (k := ?_)) | with_reducible apply RG.nil | with_reducible apply W.seq | with_reducible apply W.reg | with_reducible apply W.skip | with_reducible apply W.block | with_reducible apply W.drw | with_reducible apply DG.nil | (with_reducible refine W.done (QB.n ?_)) | refine W.cndT ?_ | refine W.cndF ?_))
    rw [hm]
    clear hm
    (first | ((with_reducible show RG _ _ (_ :: _) _ _ _); refine RG.sm (A.ldr ((show ([.int .u8 k0, .int .u8 n1, .int .u8 n2, .int .u8 n3] : List AV)[((1 : Nat) : Int).toNat]?.getD .any = .int .u8 n1 from rfl))) (k := ?_)) | ((with_reducible show DG _ _ (_ :: _) _ _ _ _ _); refine DG.sm (A.ldr ((show ([.int .u8 k0, .int .u8 n1, .int .u8 n2, .int .u8 n3] : List AV)[((1 : Nat) : Int).toNat]?.getD .any = .int .u8 n1 from rfl))) (k := ?_)))
    (repeat (first | ((with_reducible show RG _ _ (_ :: _) _ _ _); refine RG.go1 (k := ?_)) | ((with_reducible show DG _ _ (_ :: _) _ _ _ _ _); refine DG.go1 (k := ?_)) | with_reducible apply RG.nil | with_reducible apply W.seq | with_reducible apply W.reg | with_reducible apply W.skip | with_reducible apply W.block | with_reducible apply W.drw | with_reducible apply DG.nil | (with_reducible refine W.done (QB.n ?_)) | refine W.cndT ?_ | refine W.cndF ?_))
    rw [show ((BitVec.ofInt IntKind.u8.bits n1 &&& BitVec.ofInt IntKind.u8.bits (IntKind.u8.wrap ((BitVec.ofInt IntKind.u8.bits (if IntKind.u8.signed = true then -1 else IntKind.u8.max) ^^^ BitVec.ofInt IntKind.u8.bits (Int.fdiv 255 (2 ^ min m.toNat IntKind.u8.bits))).toNat))).toNat : Int) % 256 = keep8 n1 m from hx]
    (first | ((with_reducible show RG _ _ (_ :: _) _ _ _); refine RG.sn (A.str ((show ([.int .u8 k0, .int .u8 n1, .int .u8 n2, .int .u8 n3] : List AV).set ((1 : Nat) : Int).toNat (.int .u8 (keep8 n1 m)) = [.int .u8 k0, .int .u8 (keep8 n1 m), .int .u8 n2, .int .u8 n3] from rfl))) (k := ?_)) | ((with_reducible show DG _ _ (_ :: _) _ _ _ _ _); refine DG.sn (A.str ((show ([.int .u8 k0, .int .u8 n1, .int .u8 n2, .int .u8 n3] : List AV).set ((1 : Nat) : Int).toNat (.int .u8 (keep8 n1 m)) = [.int .u8 k0, .int .u8 (keep8 n1 m), .int .u8 n2, .int .u8 n3] from rfl))) (k := ?_)))
    (repeat (first | ((with_reducible show RG _ _ (_ :: _) _ _ _); refine RG.go1 (k := ?_)) | ((with_reducible show DG _ _ (_ :: _) _ _ _ _ _); refine DG.go1 (k := ?_)) | with_reducible apply RG.nil | with_reducible apply W.seq | with_reducible apply W.reg | with_reducible apply W.skip | with_reducible apply W.block | with_reducible apply W.drw | with_reducible apply DG.nil | (with_reducible refine W.done (QB.n ?_)) | refine W.cndT ?_ | refine W.cndF ?_))
    rw [hkk]
    refine W.done (QL.n (⟨2, by omega⟩) ?_ ?_)
    · exact Wk.rn ([] ) ( [0, 1])
    · dsimp only; omega
  · skip
    rw [show mrow [.int .u8 n0, .int .u8 n1, .int .u8 n2, .int .u8 n3] [.int .u8 k0, .int .u8 k1, .int .u8 k2, .int .u8 k3] 2 = [.int .u8 k0, .int .u8 k1, .int .u8 n2, .int .u8 n3] from rfl]
    obtain ⟨m, hm⟩ : ∃ m, mn b ((2 : Nat) : Int) = m := ⟨_, rfl⟩
    have hm2 := mn_b b ((2 : Nat) : Int)
    rw [hm] at hm2
    have hx := mexp_eq (x := n2) (m := m) (by omega) hm2
    have hkk := hk2
    rw [show mn b 2 = m from hm] at hkk
    unfold mn at hm
    (repeat (first | ((with_reducible show RG _ _ (_ :: _) _ _ _); refine RG.go1 (k := ?_)) | ((with_reducible show DG _ _ (_ :: _) _ _ _ _ _); refine DG.go1 (k := ?_)) | with_reducible apply RG.nil | with_reducible apply W.seq | with_reducible apply W.reg | with_reducible apply W.skip | with_reducible apply W.block | with_reducible apply W.drw | with_reducible apply DG.nil | (with_reducible refine W.done (QB.n ?_)) | refine W.cndT ?_ | refine W.cndF ?_))
    rw [hm]
    clear hm
    (first | ((with_reducible show RG _ _ (_ :: _) _ _ _); refine RG.sm (A.ldr ((show ([.int .u8 k0, .int .u8 k1, .int .u8 n2, .int .u8 n3] : List AV)[((2 : Nat) : Int).toNat]?.getD .any = .int .u8 n2 from rfl))) (k := ?_)) | ((with_reducible show DG _ _ (_ :: _) _ _ _ _ _); refine DG.sm (A.ldr ((show ([.int .u8 k0, .int .u8 k1, .int .u8 n2, .int .u8 n3] : List AV)[((2 : Nat) : Int).toNat]?.getD .any = .int .u8 n2 from rfl))) (k := ?_)))
    (repeat (first | ((with_reducible show RG _ _ (_ :: _) _ _ _); refine RG.go1 (k := ?_)) | ((with_reducible show DG _ _ (_ :: _) _ _ _ _ _); refine DG.go1 (k := ?_)) | with_reducible apply RG.nil | with_reducible apply W.seq | with_reducible apply W.reg | with_reducible apply W.skip | with_reducible apply W.block | with_reducible apply W.drw | with_reducible apply DG.nil | (with_reducible refine W.done (QB.n ?_)) | refine W.cndT ?_ | refine W.cndF ?_))
    rw [show ((BitVec.ofInt IntKind.u8.bits n2 &&& BitVec.ofInt IntKind.u8.bits (IntKind.u8.wrap ((BitVec.ofInt IntKind.u8.bits (if IntKind.u8.signed = true then -1 else IntKind.u8.max) ^^^ BitVec.ofInt IntKind.u8.bits (Int.fdiv 255 (2 ^ min m.toNat IntKind.u8.bits))).toNat))).toNat : Int) % 256 = keep8 n2 m from hx]
    (first | ((with_reducible show RG _ _ (_ :: _) _ _ _); refine RG.sn (A.str ((show ([.int .u8 k0, .int .u8 k1, .int .u8 n2, .int .u8 n3] : List AV).set ((2 : Nat) : Int).toNat (.int .u8 (keep8 n2 m)) = [.int .u8 k0, .int .u8 k1, .int .u8 (keep8 n2 m), .int .u8 n3] from rfl))) (k := ?_)) | ((with_reducible show DG _ _ (_ :: _) _ _ _ _ _); refine DG.sn (A.str ((show ([.int .u8 k0, .int .u8 k1, .int .u8 n2, .int .u8 n3] : List AV).set ((2 : Nat) : Int).toNat (.int .u8 (keep8 n2 m)) = [.int .u8 k0, .int .u8 k1, .int .u8 (keep8 n2 m), .int .u8 n3] from rfl))) (k := ?_)))
    (repeat (first | ((with_reducible show RG _ _ (_ :: _) _ _ _); refine RG.go1 (k := ?_)) | ((with_reducible show DG _ _ (_ :: _) _ _ _ _ _); refine DG.go1 (k := ?_)) | with_reducible apply RG.nil | with_reducible apply W.seq | with_reducible apply W.reg | with_reducible apply W.skip | with_reducible apply W.block | with_reducible apply W.drw | with_reducible apply DG.nil | (with_reducible refine W.done (QB.n ?_)) | refine W.cndT ?_ | refine W.cndF ?_))
    rw [hkk]
    refine W.done (QL.n (⟨3, by omega⟩) ?_ ?_)
    · exact Wk.rn ([] ) ( [0, 1])
    · dsimp only; omega
  · skip
    rw [show mrow [.int .u8 n0, .int .u8 n1, .int .u8 n2, .int .u8 n3] [.int .u8 k0, .int .u8 k1, .int .u8 k2, .int .u8 k3] 3 = [.int .u8 k0, .int .u8 k1, .int .u8 k2, .int .u8 n3] from rfl]
    obtain ⟨m, hm⟩ : ∃ m, mn b ((3 : Nat) : Int) = m := ⟨_, rfl⟩
    have hm2 := mn_b b ((3 : Nat) : Int)
    rw [hm] at hm2
    have hx := mexp_eq (x := n3) (m := m) (by omega) hm2
    have hkk := hk3
    rw [show mn b 3 = m from hm] at hkk
    unfold mn at hm
    (repeat (first | ((with_reducible show RG _ _ (_ :: _) _ _ _); refine RG.go1 (k := ?_)) | ((with_reducible show DG _ _ (_ :: _) _ _ _ _ _); refine DG.go1 (k := ?_)) | with_reducible apply RG.nil | with_reducible apply W.seq | with_reducible apply W.reg | with_reducible apply W.skip | with_reducible apply W.block | with_reducible apply W.drw | with_reducible apply DG.nil | (with_reducible refine W.done (QB.n ?_)) | refine W.cndT ?_ | refine W.cndF ?_))
    rw [hm]
    clear hm
    (first | ((with_reducible show RG _ _ (_ :: _) _ _ _); refine RG.sm (A.ldr ((show ([.int .u8 k0, .int .u8 k1, .int .u8 k2, .int .u8 n3] : List AV)[((3 : Nat) : Int).toNat]?.getD .any = .int .u8 n3 from rfl))) (k := ?_)) | ((with_reducible show DG _ _ (_ :: _) _ _ _ _ _); refine DG.sm (A.ldr ((show ([.int .u8 k0, .int .u8 k1, .int .u8 k2, .int .u8 n3] : List AV)[((3 : Nat) : Int).toNat]?.getD .any = .int .u8 n3 from rfl))) (k := ?_)))
    (repeat (first | ((with_reducible show RG _ _ (_ :: _) _ _ _); refine RG.go1 (k := ?_)) | ((with_reducible show DG _ _ (_ :: _) _ _ _ _ _); refine DG.go1 (k := ?_)) | with_reducible apply RG.nil | with_reducible apply W.seq | with_reducible apply W.reg | with_reducible apply W.skip | with_reducible apply W.block | with_reducible apply W.drw | with_reducible apply DG.nil | (with_reducible refine W.done (QB.n ?_)) | refine W.cndT ?_ | refine W.cndF ?_))
    rw [show ((BitVec.ofInt IntKind.u8.bits n3 &&& BitVec.ofInt IntKind.u8.bits (IntKind.u8.wrap ((BitVec.ofInt IntKind.u8.bits (if IntKind.u8.signed = true then -1 else IntKind.u8.max) ^^^ BitVec.ofInt IntKind.u8.bits (Int.fdiv 255 (2 ^ min m.toNat IntKind.u8.bits))).toNat))).toNat : Int) % 256 = keep8 n3 m from hx]
    (first | ((with_reducible show RG _ _ (_ :: _) _ _ _); refine RG.sn (A.str ((show ([.int .u8 k0, .int .u8 k1, .int .u8 k2, .int .u8 n3] : List AV).set ((3 : Nat) : Int).toNat (.int .u8 (keep8 n3 m)) = [.int .u8 k0, .int .u8 k1, .int .u8 k2, .int .u8 (keep8 n3 m)] from rfl))) (k := ?_)) | ((with_reducible show DG _ _ (_ :: _) _ _ _ _ _); refine DG.sn (A.str ((show ([.int .u8 k0, .int .u8 k1, .int .u8 k2, .int .u8 n3] : List AV).set ((3 : Nat) : Int).toNat (.int .u8 (keep8 n3 m)) = [.int .u8 k0, .int .u8 k1, .int .u8 k2, .int .u8 (keep8 n3 m)] from rfl))) (k := ?_)))
    (repeat (first | ((with_reducible show RG _ _ (_ :: _) _ _ _); refine RG.go1 (k := ?_)) | ((with_reducible show DG _ _ (_ :: _) _ _ _ _ _); refine DG.go1 (k := ?_)) | with_reducible apply RG.nil | with_reducible apply W.seq | with_reducible apply W.reg | with_reducible apply W.skip | with_reducible apply W.block | with_reducible apply W.drw | with_reducible apply DG.nil | (with_reducible refine W.done (QB.n ?_)) | refine W.cndT ?_ | refine W.cndF ?_))
    rw [hkk]
    refine W.done (QL.n (⟨4, by omega⟩) ?_ ?_)
    · exact Wk.rn ([] ) ( [0, 1])
    · dsimp only; omega
  · (repeat (first | ((with_reducible show RG _ _ (_ :: _) _ _ _); refine RG.go1 (k := ?_)) | ((with_reducible show DG _ _ (_ :: _) _ _ _ _ _); refine DG.go1 (k := ?_)) | with_reducible apply RG.nil | with_reducible apply W.seq | with_reducible apply W.reg | with_reducible apply W.skip | with_reducible apply W.block | with_reducible apply W.drw | with_reducible apply DG.nil | (with_reducible refine W.done (QB.n ?_)) | refine W.cndT ?_ | refine W.cndF ?_))
    (refine W.exit ?_; (repeat (first | (with_reducible first | refine QL.x ?_ | refine QC.x ?_ | refine QB.x ?_) | (with_reducible refine QB.o (by decide) ?_))))
    (repeat (first | ((with_reducible show RG _ _ (_ :: _) _ _ _); refine RG.go1 (k := ?_)) | ((with_reducible show DG _ _ (_ :: _) _ _ _ _ _); refine DG.go1 (k := ?_)) | with_reducible apply RG.nil | with_reducible apply W.seq | with_reducible apply W.reg | with_reducible apply W.skip | with_reducible apply W.block | with_reducible apply W.drw | with_reducible apply DG.nil | (with_reducible refine W.done (QB.n ?_)) | refine W.cndT ?_ | refine W.cndF ?_))
    (refine W.ret ?_; (repeat (with_reducible first | refine QB.r ?_ | refine QL.r ?_ | refine QC.r ?_)); refine QF.r ?_)
    exact RetOk.rs (vs := [_]) r_route_mask []
theorem xor_div {x y k : Nat} : (x ^^^ y) / 2 ^ k = 0 ↔ x / 2 ^ k = y / 2 ^ k := by
  rw [← Nat.shiftRight_eq_div_pow, ← Nat.shiftRight_eq_div_pow, ← Nat.shiftRight_eq_div_pow, Nat.shiftRight_xor_distrib]
  constructor
  · intro h
    apply Nat.eq_of_testBit_eq
    intro i
    have h2 : (x >>> k ^^^ y >>> k).testBit i = false := by rw [h]; simp
    rw [Nat.testBit_xor] at h2
    simpa using h2
  · intro h
    rw [h, Nat.xor_self]
theorem ofInt_u8 {x : Int} (h : 0 ≤ x ∧ x ≤ 255) : (BitVec.ofInt IntKind.u8.bits x).toNat = x.toNat := by
  obtain ⟨k, rfl⟩ : ∃ k : Nat, x = k := ⟨x.toNat, by omega⟩
  rw [BitVec.ofInt_natCast, BitVec.toNat_ofNat]
  show k % 256 = k
  omega
/-- the first m bits of two bytes are alike -/
def bitsEq (x y m : Int) : Bool := decide (x / 2 ^ (8 - m).toNat = y / 2 ^ (8 - m).toNat)
theorem xexp_eq {x y m : Int} (hx : 0 ≤ x ∧ x ≤ 255) (hy : 0 ≤ y ∧ y ≤ 255) (hm : 0 ≤ m ∧ m ≤ 8) :
    decide (Int.fdiv (((BitVec.ofInt IntKind.u8.bits x ^^^ BitVec.ofInt IntKind.u8.bits y).toNat : Int) % 256) (2 ^ min (8 - m).toNat IntKind.u8.bits) ≠ 0) = !bitsEq x y m := by
  obtain ⟨a, rfl⟩ : ∃ k : Nat, x = k := ⟨x.toNat, by omega⟩
  obtain ⟨b, rfl⟩ : ∃ k : Nat, y = k := ⟨y.toNat, by omega⟩
  have h1 : (BitVec.ofInt IntKind.u8.bits (a : Int) ^^^ BitVec.ofInt IntKind.u8.bits (b : Int)).toNat = a ^^^ b := by
    rw [BitVec.toNat_xor, ofInt_u8 hx, ofInt_u8 hy]; rfl
  have h2 : a ^^^ b < 256 := Nat.xor_lt_two_pow (n := 8) (by omega) (by omega)
  rw [h1]
  have h3 : min (8 - m).toNat IntKind.u8.bits = (8 - m).toNat := by
    show min (8 - m).toNat 8 = _
    omega
  rw [h3]
  unfold bitsEq
  generalize (8 - m).toNat = k
  have h4 : ((a ^^^ b : Nat) : Int) % 256 = ((a ^^^ b : Nat) : Int) := by omega
  rw [h4, Int.fdiv_eq_ediv_of_nonneg _ (Int.pow_nonneg (by decide))]
  have h5 : ∀ n : Nat, ((n : Nat) : Int) / 2 ^ k = ((n / 2 ^ k : Nat) : Int) := fun n => by simp
  rw [h5, h5, h5]
  have h6 := xor_div (x := a) (y := b) (k := k)
  by_cases q : a / 2 ^ k = b / 2 ^ k
  · rw [h6.2 q, q]; simp
  · have h7 : ¬ (a ^^^ b) / 2 ^ k = 0 := fun h => q (h6.1 h)
    generalize (a ^^^ b) / 2 ^ k = u at h7
    generalize a / 2 ^ k = v at q
    generalize b / 2 ^ k = w at q
    rw [decide_eq_true (by omega), decide_eq_false (by omega)]; rfl
def bt (b : Int) (A N : List Int) (j : Nat) : Bool := bitsEq (A.getD j 0) (N.getD j 0) (mn b j)
def within (b : Int) (A N : List Int) : Bool := decide (0 ≤ b ∧ b ≤ 32) && (List.range 4).all (bt b A N)
def By4 (A : List Int) : Prop := A.length = 4 ∧ ∀ x ∈ A, 0 ≤ x ∧ x ≤ 255
theorem By4.at {A : List Int} (h : By4 A) (j : Nat) (hj : j < 4) : 0 ≤ A[j]'(by rw [h.1]; exact hj) ∧ A[j]'(by rw [h.1]; exact hj) ≤ 255 := h.2 _ (List.getElem_mem _)
theorem four {A : List Int} (h : A.length = 4) : ∃ a b c d, A = [a, b, c, d] := by
  match A, h with
  | [a, b, c, d], _ => exact ⟨a, b, c, d, rfl⟩
theorem all_step (f : Nat → Bool) (n i : Nat) (h : ∀ j, j < i → f j = true) (hi : i < n) (hf : f i = false) : (List.range n).all f = false := by
  rw [List.all_eq_false]
  exact ⟨i, List.mem_range.2 hi, by rw [hf]; decide⟩
theorem within_ok (A N : List Int) (b : Int) (hA : By4 A) (hN : By4 N) : ACall Try.prog 20 [.agg (A.map ub), .agg (N.map ub), .int .i64 b] (.bool (within b A N)) [] := by
  unfold within
  have gA := hA.at
  have gN := hN.at
  have eA : ∀ (i : Nat) (h : i < 4), (A.map ub)[((i : Nat) : Int).toNat]?.getD .any = .int .u8 (A[i]'(by rw [hA.1]; exact h)) := fun i h => ub_at A i _ (by simp)
  have eN : ∀ (i : Nat) (h : i < 4), (N.map ub)[((i : Nat) : Int).toNat]?.getD .any = .int .u8 (N[i]'(by rw [hN.1]; exact h)) := fun i h => ub_at N i _ (by simp)
  have eB : ∀ (i : Nat) (h : i < 4), bt b A N i = bitsEq (A[i]'(by rw [hA.1]; exact h)) (N[i]'(by rw [hN.1]; exact h)) (mn b i) := fun i h => by
    unfold bt
    rw [List.getD_eq_getElem?_getD, List.getD_eq_getElem?_getD, List.getElem?_eq_getElem (by rw [hA.1]; exact h), List.getElem?_eq_getElem (by rw [hN.1]; exact h)]; rfl
  generalize bt b A N = f at *
  obtain ⟨a0, a1, a2, a3, rfl⟩ := four hA.1
  obtain ⟨n0, n1, n2, n3, rfl⟩ := four hN.1
  simp only [List.map, ub] at eA eN ⊢
  by_cases hb : 0 ≤ b ∧ b ≤ 32
  · rw [decide_eq_true hb, Bool.true_and]
    obtain ⟨R, hR⟩ : ∃ R, (List.range 4).all f = R := ⟨_, rfl⟩
    rw [hR]
    obtain ⟨hb1, hb2⟩ := hb
    refine acall_walk (N := 36) Try.func20 (by kernel_rfl) p_addr_Within rfl ?_; unfold c_addr_Within; dsimp only [enum, Nat.reduceAdd]
    (repeat (first | ((with_reducible show RG _ _ (_ :: _) _ _ _); refine RG.go1 (k := ?_)) | ((with_reducible show DG _ _ (_ :: _) _ _ _ _ _); refine DG.go1 (k := ?_)) | with_reducible apply RG.nil | with_reducible apply W.seq | with_reducible apply W.reg | with_reducible apply W.skip | with_reducible apply W.block | with_reducible apply W.drw | with_reducible apply DG.nil | (with_reducible refine W.done (QB.n ?_)) | refine W.cndT ?_ | refine W.cndF ?_))
    refine W.loop (ι := {i : Nat // i ≤ 4 ∧ ∀ j, j < i → f j = true}) (fun i => ⟨[(15, .int .i64 i.1), (3, .aptr 0 4), (4, .aptr 1 4), (2, .int .i64 b)], [], [some ⟨false, 1, [.int .u8 a0, .int .u8 a1, .int .u8 a2, .int .u8 a3]⟩, some ⟨false, 1, [.int .u8 n0, .int .u8 n1, .int .u8 n2, .int .u8 n3]⟩], 0, 2⟩) (fun i => 4 - i.1) ⟨0, by omega, fun j h => absurd h (Nat.not_lt_zero _)⟩ ?_ ?_
    · exact Wk.rn ([] ) ( [0, 1])
    rintro ⟨i, hi, hall⟩
    dsimp only
    (repeat (first | ((with_reducible show RG _ _ (_ :: _) _ _ _); refine RG.go1 (k := ?_)) | ((with_reducible show DG _ _ (_ :: _) _ _ _ _ _); refine DG.go1 (k := ?_)) | with_reducible apply RG.nil | with_reducible apply W.seq | with_reducible apply W.reg | with_reducible apply W.skip | with_reducible apply W.block | with_reducible apply W.drw | with_reducible apply DG.nil | (with_reducible refine W.done (QB.n ?_))))
    refine W.cnd (fun h1 => ?_) (fun h1 => ?_)
    · have hlt : i < 4 := by simp at h1; omega
      clear h1
      have gA := gA i hlt
      have gN := gN i hlt
      have eA := eA i hlt
      have eN := eN i hlt
      have eB := eB i hlt
      generalize [a0, a1, a2, a3][i] = x at gA eA eB
      generalize [n0, n1, n2, n3][i] = y at gN eN eB
      have hm2 := mn_b b i
      have hx := xexp_eq gA gN hm2
      rw [← eB] at hx
      obtain ⟨m, hm⟩ : ∃ m, mn b i = m := ⟨_, rfl⟩
      rw [hm] at hx hm2
      unfold mn at hm
      (repeat (first | ((with_reducible show RG _ _ (_ :: _) _ _ _); refine RG.go1 (k := ?_)) | ((with_reducible show DG _ _ (_ :: _) _ _ _ _ _); refine DG.go1 (k := ?_)) | with_reducible apply RG.nil | with_reducible apply W.seq | with_reducible apply W.reg | with_reducible apply W.skip | with_reducible apply W.block | with_reducible apply W.drw | with_reducible apply DG.nil | (with_reducible refine W.done (QB.n ?_)) | refine W.cndT ?_ | refine W.cndF ?_))
      rw [hm]
      clear hm
      (first | ((with_reducible show RG _ _ (_ :: _) _ _ _); refine RG.sm (A.ldr (eA)) (k := ?_)) | ((with_reducible show DG _ _ (_ :: _) _ _ _ _ _); refine DG.sm (A.ldr (eA)) (k := ?_)))
      (repeat (first | ((with_reducible show RG _ _ (_ :: _) _ _ _); refine RG.go1 (k := ?_)) | ((with_reducible show DG _ _ (_ :: _) _ _ _ _ _); refine DG.go1 (k := ?_)) | with_reducible apply RG.nil | with_reducible apply W.seq | with_reducible apply W.reg | with_reducible apply W.skip | with_reducible apply W.block | with_reducible apply W.drw | with_reducible apply DG.nil | (with_reducible refine W.done (QB.n ?_)) | refine W.cndT ?_ | refine W.cndF ?_))
      (first | ((with_reducible show RG _ _ (_ :: _) _ _ _); refine RG.sm (A.ldr (eN)) (k := ?_)) | ((with_reducible show DG _ _ (_ :: _) _ _ _ _ _); refine DG.sm (A.ldr (eN)) (k := ?_)))
      (repeat (first | ((with_reducible show RG _ _ (_ :: _) _ _ _); refine RG.go1 (k := ?_)) | ((with_reducible show DG _ _ (_ :: _) _ _ _ _ _); refine DG.go1 (k := ?_)) | with_reducible apply RG.nil | with_reducible apply W.seq | with_reducible apply W.reg | with_reducible apply W.skip | with_reducible apply W.block | with_reducible apply W.drw | with_reducible apply DG.nil | (with_reducible refine W.done (QB.n ?_)) | refine W.cndT ?_ | refine W.cndF ?_))
      rw [show decide (Int.fdiv (((BitVec.ofInt IntKind.u8.bits x ^^^ BitVec.ofInt IntKind.u8.bits y).toNat : Int) % 256) (2 ^ min (8 - m).toNat IntKind.u8.bits) ≠ 0) = !f i from hx]
      cases hf : f i
      · obtain rfl : R = false := by rw [← hR]; exact all_step f 4 i hall hlt hf
        clear hR eB hx
        (repeat (first | ((with_reducible show RG _ _ (_ :: _) _ _ _); refine RG.go1 (k := ?_)) | ((with_reducible show DG _ _ (_ :: _) _ _ _ _ _); refine DG.go1 (k := ?_)) | with_reducible apply RG.nil | with_reducible apply W.seq | with_reducible apply W.reg | with_reducible apply W.skip | with_reducible apply W.block | with_reducible apply W.drw | with_reducible apply DG.nil | (with_reducible refine W.done (QB.n ?_)) | refine W.cndT ?_ | refine W.cndF ?_))
        (refine W.ret ?_; (repeat (with_reducible first | refine QB.r ?_ | refine QL.r ?_ | refine QC.r ?_)); refine QF.r ?_)
        exact RetOk.rs (vs := [_]) r_addr_Within []
      · clear eB hx
        (repeat (first | ((with_reducible show RG _ _ (_ :: _) _ _ _); refine RG.go1 (k := ?_)) | ((with_reducible show DG _ _ (_ :: _) _ _ _ _ _); refine DG.go1 (k := ?_)) | with_reducible apply RG.nil | with_reducible apply W.seq | with_reducible apply W.reg | with_reducible apply W.skip | with_reducible apply W.block | with_reducible apply W.drw | with_reducible apply DG.nil | (with_reducible refine W.done (QB.n ?_)) | refine W.cndT ?_ | refine W.cndF ?_))
        refine W.done (QL.n (⟨i + 1, by omega, fun j hj => by
          rcases Nat.lt_or_ge j i with q | q
          · exact hall j q
          · obtain rfl : j = i := by omega
            exact hf⟩) ?_ ?_)
        · exact Wk.rn ([] ) ( [0, 1])
        · dsimp only; omega
    obtain rfl : R = true := by
      rw [← hR, List.all_eq_true]
      intro j hj
      exact hall j (by have := List.mem_range.1 hj; simp at h1; omega)
    clear h1
    (refine W.exit ?_; (repeat (first | (with_reducible first | refine QL.x ?_ | refine QC.x ?_ | refine QB.x ?_) | (with_reducible refine QB.o (by decide) ?_))))
    (repeat (first | ((with_reducible show RG _ _ (_ :: _) _ _ _); refine RG.go1 (k := ?_)) | ((with_reducible show DG _ _ (_ :: _) _ _ _ _ _); refine DG.go1 (k := ?_)) | with_reducible apply RG.nil | with_reducible apply W.seq | with_reducible apply W.reg | with_reducible apply W.skip | with_reducible apply W.block | with_reducible apply W.drw | with_reducible apply DG.nil | (with_reducible refine W.done (QB.n ?_)) | refine W.cndT ?_ | refine W.cndF ?_))
    (refine W.ret ?_; (repeat (with_reducible first | refine QB.r ?_ | refine QL.r ?_ | refine QC.r ?_)); refine QF.r ?_)
    exact RetOk.rs (vs := [_]) r_addr_Within []
  · rw [decide_eq_false hb, Bool.false_and]
    rcases Int.lt_or_le b 0 with q | q
    · clear hb
      refine acall_walk (N := 36) Try.func20 (by kernel_rfl) p_addr_Within rfl ?_; unfold c_addr_Within; dsimp only [enum, Nat.reduceAdd]
      (repeat (first | ((with_reducible show RG _ _ (_ :: _) _ _ _); refine RG.go1 (k := ?_)) | ((with_reducible show DG _ _ (_ :: _) _ _ _ _ _); refine DG.go1 (k := ?_)) | with_reducible apply RG.nil | with_reducible apply W.seq | with_reducible apply W.reg | with_reducible apply W.skip | with_reducible apply W.block | with_reducible apply W.drw | with_reducible apply DG.nil | (with_reducible refine W.done (QB.n ?_)) | refine W.cndT ?_ | refine W.cndF ?_))
      (refine W.ret ?_; (repeat (with_reducible first | refine QB.r ?_ | refine QL.r ?_ | refine QC.r ?_)); refine QF.r ?_)
      exact RetOk.rs (vs := [_]) r_addr_Within []
    · have q2 : 32 < b := by omega
      clear hb
      refine acall_walk (N := 36) Try.func20 (by kernel_rfl) p_addr_Within rfl ?_; unfold c_addr_Within; dsimp only [enum, Nat.reduceAdd]
      (repeat (first | ((with_reducible show RG _ _ (_ :: _) _ _ _); refine RG.go1 (k := ?_)) | ((with_reducible show DG _ _ (_ :: _) _ _ _ _ _); refine DG.go1 (k := ?_)) | with_reducible apply RG.nil | with_reducible apply W.seq | with_reducible apply W.reg | with_reducible apply W.skip | with_reducible apply W.block | with_reducible apply W.drw | with_reducible apply DG.nil | (with_reducible refine W.done (QB.n ?_)) | refine W.cndT ?_ | refine W.cndF ?_))
      (refine W.ret ?_; (repeat (with_reducible first | refine QB.r ?_ | refine QL.r ?_ | refine QC.r ?_)); refine QF.r ?_)
      exact RetOk.rs (vs := [_]) r_addr_Within []
end Go.Proofs.Yteljhabahaimpaa
