/- RingFull: the walk. -/
import Derived.Test.YtlmioolkofbboaaRingP
import Derived.Test.YtlmioolkofbboaaAxC
namespace Go.Proofs.Ytlmioolkofbboaa
open Go.RowKit
set_option linter.unusedVariables false
set_option linter.unusedSimpArgs false
set_option maxRecDepth 100000
set_option maxHeartbeats 4000000
def byt (i : Nat) : List (List UInt8) := (List.range i).map fun j => [UInt8.ofNat j]
theorem byt_len (i : Nat) : (byt i).length = i := by simp [byt]
theorem byt_snoc (i : Nat) : byt i ++ [[UInt8.ofNat i]] = byt (i + 1) := by simp [byt, List.range_succ]
theorem byt_get (i j : Nat) (h : j < i) : (byt i).getD j [] = [UInt8.ofNat j] := by simp [byt, List.getD_eq_getElem?_getD, h]
theorem shl_places (z : Int) : IntKind.i64.wrap (1 * 2 ^ min (z % 5).toNat IntKind.i64.bits) = ((2 ^ (z % 5).toNat : Nat) : Int) := by
  have h1 : z % 5 = 0 ∨ z % 5 = 1 ∨ z % 5 = 2 ∨ z % 5 = 3 ∨ z % 5 = 4 := by omega
  rcases h1 with e | e | e | e | e <;> rw [e] <;> rfl
theorem by8_one (j : Nat) (h : j < 256) : [AV.int .u8 (j : Int)] = ([UInt8.ofNat j].map by8) := by
  simp only [List.map_cons, List.map_nil, by8]
  congr 2
  simp; omega
theorem by8_head (j : Nat) (h : j < 256) : ([UInt8.ofNat j].map by8)[(0 : Int).toNat]?.getD .any = .int .u8 (j : Int) := by
  rw [← by8_one j h]; rfl
theorem ringFull_ok (a c k : Int) (hc : 0 ≤ c ∧ c < 65536) : ACall Try.prog 3 [.int .i64 a, .int .u16 c, .int .i64 k] (.bool true) [] := by
  have hl := lives_ok
  obtain ⟨hn, hd⟩ := places_ok (a % 18446744073709551616) (by omega)
  have hsh := shl_places (a % 18446744073709551616)
  generalize (2 : Nat) ^ (a % 18446744073709551616 % 5).toNat = n at hn hd hsh
  have hat := lawAt_ok n c hn hd hc
  have hm1 := Int.emod_lt_of_pos (k % 18446744073709551616) (show (0 : Int) < (n : Int) + 1 by omega)
  have hm0 := Int.emod_nonneg (k % 18446744073709551616) (show (n : Int) + 1 ≠ 0 by omega)
  have hlog := log_at hn hd hc
  refine acall_walk (N := 148) Try.func3 (by kernel_rfl) p_caravellaw11_RingFull rfl ?_; unfold c_caravellaw11_RingFull; dsimp only [enum, Nat.reduceAdd]
  (repeat (first | ((with_reducible show RG _ _ (_ :: _) _ _ _); refine RG.go1 (k := ?_)) | ((with_reducible show DG _ _ (_ :: _) _ _ _ _ _); refine DG.go1 (k := ?_)) | with_reducible apply RG.nil | with_reducible apply W.seq | with_reducible apply W.reg | with_reducible apply W.skip | with_reducible apply W.block | with_reducible apply W.drw | with_reducible apply DG.nil | (with_reducible refine W.done (QB.n ?_))))
  (first | ((with_reducible show RG _ _ (_ :: _) _ _ _); refine RG.ca (hl) (k := ?_)) | ((with_reducible show DG _ _ (_ :: _) _ _ _ _ _); refine DG.ca (hl) (k := ?_)))
  (repeat (first | ((with_reducible show RG _ _ (_ :: _) _ _ _); refine RG.go1 (k := ?_)) | ((with_reducible show DG _ _ (_ :: _) _ _ _ _ _); refine DG.go1 (k := ?_)) | with_reducible apply RG.nil | with_reducible apply W.seq | with_reducible apply W.reg | with_reducible apply W.skip | with_reducible apply W.block | with_reducible apply W.drw | with_reducible apply DG.nil | (with_reducible refine W.done (QB.n ?_))))
  refine W.cndF ?_
  (repeat (first | ((with_reducible show RG _ _ (_ :: _) _ _ _); refine RG.go1 (k := ?_)) | ((with_reducible show DG _ _ (_ :: _) _ _ _ _ _); refine DG.go1 (k := ?_)) | with_reducible apply RG.nil | with_reducible apply W.seq | with_reducible apply W.reg | with_reducible apply W.skip | with_reducible apply W.block | with_reducible apply W.drw | with_reducible apply DG.nil | (with_reducible refine W.done (QB.n ?_))))
  rw [hsh]
  (first | ((with_reducible show RG _ _ (_ :: _) _ _ _); refine RG.ca (hat) (k := ?_)) | ((with_reducible show DG _ _ (_ :: _) _ _ _ _ _); refine DG.ca (hat) (k := ?_)))
  (repeat (first | ((with_reducible show RG _ _ (_ :: _) _ _ _); refine RG.go1 (k := ?_)) | ((with_reducible show DG _ _ (_ :: _) _ _ _ _ _); refine DG.go1 (k := ?_)) | with_reducible apply RG.nil | with_reducible apply W.seq | with_reducible apply W.reg | with_reducible apply W.skip | with_reducible apply W.block | with_reducible apply W.drw | with_reducible apply DG.nil | (with_reducible refine W.done (QB.n ?_))))
  refine W.loop (ι := {q : Nat × Rg // q.1 ≤ n + 1 ∧ Log q.2 n c (byt (min q.1 n)) 0 0 0}) (fun q => ⟨[(37, .int .i64 q.1.1), (36, .int .i64 ((n : Int) + 1)), (7, .int .i64 n), (8, .bptr 0 0), (2, .int .i64 k)], [some [.sl false 1 (q.1.2.s.map bs), .int .u16 q.1.2.p, .int .u16 q.1.2.t, .int .u16 q.1.2.d, .int .u16 q.1.2.r]], [], 1, 0⟩) (fun q => n + 1 - q.1.1) ⟨(0, Rg.at n c), Nat.zero_le _, by rw [Nat.zero_min]; exact hlog⟩ ?_ ?_
  · exact Wk.rn ([0] ) ( [])
  rintro ⟨⟨i, x⟩, hi, hx⟩
  dsimp only at hi hx ⊢
  (repeat (first | ((with_reducible show RG _ _ (_ :: _) _ _ _); refine RG.go1 (k := ?_)) | ((with_reducible show DG _ _ (_ :: _) _ _ _ _ _); refine DG.go1 (k := ?_)) | with_reducible apply RG.nil | with_reducible apply W.seq | with_reducible apply W.reg | with_reducible apply W.skip | with_reducible apply W.block | with_reducible apply W.drw | with_reducible apply DG.nil | (with_reducible refine W.done (QB.n ?_))))
  refine W.cnd (fun h1 => ?_) (fun h1 => ?_)
  · have hlt : i < n + 1 := by simp at h1; omega
    have h8 := by8_one i (by omega)
    have hlf : ([UInt8.ofNat i] : List UInt8).length = 1 := rfl
    by_cases hin : i < n
    · rw [Nat.min_eq_left (by omega)] at hx
      have hbl := byt_len i
      obtain ⟨e0, hx'⟩ := hx.post_ok (g := [UInt8.ofNat i]) (by rw [hlf]; omega) (by omega)
      rw [byt_snoc] at hx'
      have cp := ringPost_ok x hx.ok [UInt8.ofNat i] (by rw [hlf]; omega)
      rw [e0] at cp
      generalize (x.post [UInt8.ofNat i]).1 = x' at cp hx'
      (repeat (first | ((with_reducible show RG _ _ (_ :: _) _ _ _); refine RG.go1 (k := ?_)) | ((with_reducible show DG _ _ (_ :: _) _ _ _ _ _); refine DG.go1 (k := ?_)) | with_reducible apply RG.nil | with_reducible apply W.seq | with_reducible apply W.reg | with_reducible apply W.skip | with_reducible apply W.block | with_reducible apply W.drw | with_reducible apply DG.nil | (with_reducible refine W.done (QB.n ?_))))
      rw [h8]
      (first | ((with_reducible show RG _ _ (_ :: _) _ _ _); refine RG.ca (cp) (k := ?_)) | ((with_reducible show DG _ _ (_ :: _) _ _ _ _ _); refine DG.ca (cp) (k := ?_)))
      (repeat (first | ((with_reducible show RG _ _ (_ :: _) _ _ _); refine RG.go1 (k := ?_)) | ((with_reducible show DG _ _ (_ :: _) _ _ _ _ _); refine DG.go1 (k := ?_)) | with_reducible apply RG.nil | with_reducible apply W.seq | with_reducible apply W.reg | with_reducible apply W.skip | with_reducible apply W.block | with_reducible apply W.drw | with_reducible apply DG.nil | (with_reducible refine W.done (QB.n ?_))))
      refine W.cndF ?_
      (repeat (first | ((with_reducible show RG _ _ (_ :: _) _ _ _); refine RG.go1 (k := ?_)) | ((with_reducible show DG _ _ (_ :: _) _ _ _ _ _); refine DG.go1 (k := ?_)) | with_reducible apply RG.nil | with_reducible apply W.seq | with_reducible apply W.reg | with_reducible apply W.skip | with_reducible apply W.block | with_reducible apply W.drw | with_reducible apply DG.nil | (with_reducible refine W.done (QB.n ?_))))
      refine W.done (QL.n (⟨(i + 1, x'), by dsimp only; omega, by dsimp only; rw [Nat.min_eq_left (by omega)]; exact hx'⟩) ?_ ?_)
      · exact Wk.rn ([0] ) ( [])
      · dsimp only; omega
    · obtain rfl : i = n := by omega
      rw [Nat.min_self] at hx
      have hbl := byt_len i
      have ep := hx.post_full (g := [UInt8.ofNat i]) (by rw [hlf]; omega) (by omega)
      have cp := ringPost_ok x hx.ok [UInt8.ofNat i] (by rw [hlf]; omega)
      rw [ep] at cp
      (repeat (first | ((with_reducible show RG _ _ (_ :: _) _ _ _); refine RG.go1 (k := ?_)) | ((with_reducible show DG _ _ (_ :: _) _ _ _ _ _); refine DG.go1 (k := ?_)) | with_reducible apply RG.nil | with_reducible apply W.seq | with_reducible apply W.reg | with_reducible apply W.skip | with_reducible apply W.block | with_reducible apply W.drw | with_reducible apply DG.nil | (with_reducible refine W.done (QB.n ?_))))
      rw [h8]
      (first | ((with_reducible show RG _ _ (_ :: _) _ _ _); refine RG.ca (cp) (k := ?_)) | ((with_reducible show DG _ _ (_ :: _) _ _ _ _ _); refine DG.ca (cp) (k := ?_)))
      (repeat (first | ((with_reducible show RG _ _ (_ :: _) _ _ _); refine RG.go1 (k := ?_)) | ((with_reducible show DG _ _ (_ :: _) _ _ _ _ _); refine DG.go1 (k := ?_)) | with_reducible apply RG.nil | with_reducible apply W.seq | with_reducible apply W.reg | with_reducible apply W.skip | with_reducible apply W.block | with_reducible apply W.drw | with_reducible apply DG.nil | (with_reducible refine W.done (QB.n ?_))))
      refine W.cndF ?_
      (repeat (first | ((with_reducible show RG _ _ (_ :: _) _ _ _); refine RG.go1 (k := ?_)) | ((with_reducible show DG _ _ (_ :: _) _ _ _ _ _); refine DG.go1 (k := ?_)) | with_reducible apply RG.nil | with_reducible apply W.seq | with_reducible apply W.reg | with_reducible apply W.skip | with_reducible apply W.block | with_reducible apply W.drw | with_reducible apply DG.nil | (with_reducible refine W.done (QB.n ?_))))
      refine W.done (QL.n (⟨(i + 1, x), by dsimp only; omega, by dsimp only; rw [Nat.min_eq_right (by omega)]; exact hx⟩) ?_ ?_)
      · exact Wk.rn ([0] ) ( [])
      · dsimp only; omega
  obtain rfl : i = n + 1 := by simp at h1; omega
  rw [Nat.min_eq_right (by omega)] at hx
  have hbl := byt_len n
  (refine W.exit ?_; (repeat (first | refine QL.x ?_ | refine QC.x ?_ | refine QB.x ?_ | refine QB.o rfl ?_)))
  clear hlog hat hsh hi
  (repeat (first | ((with_reducible show RG _ _ (_ :: _) _ _ _); refine RG.go1 (k := ?_)) | ((with_reducible show DG _ _ (_ :: _) _ _ _ _ _); refine DG.go1 (k := ?_)) | with_reducible apply RG.nil | with_reducible apply W.seq | with_reducible apply W.reg | with_reducible apply W.skip | with_reducible apply W.block | with_reducible apply W.drw | with_reducible apply DG.nil | (with_reducible refine W.done (QB.n ?_))))
  obtain ⟨m, hm⟩ : ∃ m : Nat, k % 18446744073709551616 % ((n : Int) + 1) = m := ⟨_, (Int.toNat_of_nonneg hm0).symm⟩
  rw [hm]
  rw [hm] at hm1
  refine W.loop (ι := {q : Nat × Rg // q.1 ≤ m ∧ Log q.2 n c (byt n) q.1 0 0}) (fun q => ⟨[(72, .int .i64 q.1.1), (71, .int .i64 m), (13, .int .i64 m), (7, .int .i64 n), (8, .bptr 0 0)], [some [.sl false 1 (q.1.2.s.map bs), .int .u16 q.1.2.p, .int .u16 q.1.2.t, .int .u16 q.1.2.d, .int .u16 q.1.2.r]], [], 1, 0⟩) (fun q => m - q.1.1) ⟨(0, x), Nat.zero_le _, hx⟩ ?_ ?_
  · exact Wk.rn ([0] ) ( [])
  rintro ⟨⟨i, x⟩, hi, hx⟩
  dsimp only at hi hx ⊢
  (repeat (first | ((with_reducible show RG _ _ (_ :: _) _ _ _); refine RG.go1 (k := ?_)) | ((with_reducible show DG _ _ (_ :: _) _ _ _ _ _); refine DG.go1 (k := ?_)) | with_reducible apply RG.nil | with_reducible apply W.seq | with_reducible apply W.reg | with_reducible apply W.skip | with_reducible apply W.block | with_reducible apply W.drw | with_reducible apply DG.nil | (with_reducible refine W.done (QB.n ?_))))
  refine W.cnd (fun h1 => ?_) (fun h1 => ?_)
  · have hlt : i < m := by simp at h1; omega
    have ct := ringTake_ok x hx.ok
    obtain ⟨e0, hx'⟩ := hx.take_some (by omega)
    rw [e0] at ct
    dsimp only at ct
    generalize ({ x with t := (x.t + 1) % 65536 } : Rg) = x' at ct hx'
    (repeat (first | ((with_reducible show RG _ _ (_ :: _) _ _ _); refine RG.go1 (k := ?_)) | ((with_reducible show DG _ _ (_ :: _) _ _ _ _ _); refine DG.go1 (k := ?_)) | with_reducible apply RG.nil | with_reducible apply W.seq | with_reducible apply W.reg | with_reducible apply W.skip | with_reducible apply W.block | with_reducible apply W.drw | with_reducible apply DG.nil | (with_reducible refine W.done (QB.n ?_))))
    (first | ((with_reducible show RG _ _ (_ :: _) _ _ _); refine RG.ca (ct) (k := ?_)) | ((with_reducible show DG _ _ (_ :: _) _ _ _ _ _); refine DG.ca (ct) (k := ?_)))
    (repeat (first | ((with_reducible show RG _ _ (_ :: _) _ _ _); refine RG.go1 (k := ?_)) | ((with_reducible show DG _ _ (_ :: _) _ _ _ _ _); refine DG.go1 (k := ?_)) | with_reducible apply RG.nil | with_reducible apply W.seq | with_reducible apply W.reg | with_reducible apply W.skip | with_reducible apply W.block | with_reducible apply W.drw | with_reducible apply DG.nil | (with_reducible refine W.done (QB.n ?_))))
    refine W.done (QL.n (⟨(i + 1, x'), by dsimp only; omega, hx'⟩) ?_ ?_)
    · exact Wk.rn ([0] ) ( [])
    · dsimp only; omega
  have hi2 : i = m := by simp at h1; omega
  rw [hi2] at hx
  (refine W.exit ?_; (repeat (first | refine QL.x ?_ | refine QC.x ?_ | refine QB.x ?_ | refine QB.o rfl ?_)))
  clear h1 hi
  (repeat (first | ((with_reducible show RG _ _ (_ :: _) _ _ _); refine RG.go1 (k := ?_)) | ((with_reducible show DG _ _ (_ :: _) _ _ _ _ _); refine DG.go1 (k := ?_)) | with_reducible apply RG.nil | with_reducible apply W.seq | with_reducible apply W.reg | with_reducible apply W.skip | with_reducible apply W.block | with_reducible apply W.drw | with_reducible apply DG.nil | (with_reducible refine W.done (QB.n ?_))))
  refine W.loop (ι := {q : Nat × Rg // q.1 ≤ m + 1 ∧ Log q.2 n c (byt n) m (min q.1 m) 0}) (fun q => ⟨[(83, .int .i64 q.1.1), (82, .int .i64 ((m : Int) + 1)), (13, .int .i64 m), (7, .int .i64 n), (8, .bptr 0 0)], [some [.sl false 1 (q.1.2.s.map bs), .int .u16 q.1.2.p, .int .u16 q.1.2.t, .int .u16 q.1.2.d, .int .u16 q.1.2.r]], [], 1, 0⟩) (fun q => m + 1 - q.1.1) ⟨(0, x), Nat.zero_le _, by rw [Nat.zero_min]; exact hx⟩ ?_ ?_
  · exact Wk.rn ([0] ) ( [])
  rintro ⟨⟨i, x⟩, hi, hx⟩
  dsimp only at hi hx ⊢
  (repeat (first | ((with_reducible show RG _ _ (_ :: _) _ _ _); refine RG.go1 (k := ?_)) | ((with_reducible show DG _ _ (_ :: _) _ _ _ _ _); refine DG.go1 (k := ?_)) | with_reducible apply RG.nil | with_reducible apply W.seq | with_reducible apply W.reg | with_reducible apply W.skip | with_reducible apply W.block | with_reducible apply W.drw | with_reducible apply DG.nil | (with_reducible refine W.done (QB.n ?_))))
  refine W.cnd (fun h1 => ?_) (fun h1 => ?_)
  · have hlt : i < m + 1 := by simp at h1; omega
    have ct := ringFinish_ok x hx.ok
    by_cases hin : i < m
    · rw [Nat.min_eq_left (by omega)] at hx
      obtain ⟨e0, hx'⟩ := hx.finish_some (by omega)
      rw [e0] at ct
      dsimp only at ct
      generalize ({ x with d := (x.d + 1) % 65536 } : Rg) = x' at ct hx'
      (repeat (first | ((with_reducible show RG _ _ (_ :: _) _ _ _); refine RG.go1 (k := ?_)) | ((with_reducible show DG _ _ (_ :: _) _ _ _ _ _); refine DG.go1 (k := ?_)) | with_reducible apply RG.nil | with_reducible apply W.seq | with_reducible apply W.reg | with_reducible apply W.skip | with_reducible apply W.block | with_reducible apply W.drw | with_reducible apply DG.nil | (with_reducible refine W.done (QB.n ?_))))
      (first | ((with_reducible show RG _ _ (_ :: _) _ _ _); refine RG.ca (ct) (k := ?_)) | ((with_reducible show DG _ _ (_ :: _) _ _ _ _ _); refine DG.ca (ct) (k := ?_)))
      (repeat (first | ((with_reducible show RG _ _ (_ :: _) _ _ _); refine RG.go1 (k := ?_)) | ((with_reducible show DG _ _ (_ :: _) _ _ _ _ _); refine DG.go1 (k := ?_)) | with_reducible apply RG.nil | with_reducible apply W.seq | with_reducible apply W.reg | with_reducible apply W.skip | with_reducible apply W.block | with_reducible apply W.drw | with_reducible apply DG.nil | (with_reducible refine W.done (QB.n ?_))))
      refine W.cndF ?_
      (repeat (first | ((with_reducible show RG _ _ (_ :: _) _ _ _); refine RG.go1 (k := ?_)) | ((with_reducible show DG _ _ (_ :: _) _ _ _ _ _); refine DG.go1 (k := ?_)) | with_reducible apply RG.nil | with_reducible apply W.seq | with_reducible apply W.reg | with_reducible apply W.skip | with_reducible apply W.block | with_reducible apply W.drw | with_reducible apply DG.nil | (with_reducible refine W.done (QB.n ?_))))
      refine W.done (QL.n (⟨(i + 1, x'), by dsimp only; omega, by dsimp only; rw [Nat.min_eq_left (by omega)]; exact hx'⟩) ?_ ?_)
      · exact Wk.rn ([0] ) ( [])
      · dsimp only; omega
    · rw [Nat.min_eq_right (by omega)] at hx
      rw [hx.finish_none rfl] at ct
      (repeat (first | ((with_reducible show RG _ _ (_ :: _) _ _ _); refine RG.go1 (k := ?_)) | ((with_reducible show DG _ _ (_ :: _) _ _ _ _ _); refine DG.go1 (k := ?_)) | with_reducible apply RG.nil | with_reducible apply W.seq | with_reducible apply W.reg | with_reducible apply W.skip | with_reducible apply W.block | with_reducible apply W.drw | with_reducible apply DG.nil | (with_reducible refine W.done (QB.n ?_))))
      (first | ((with_reducible show RG _ _ (_ :: _) _ _ _); refine RG.ca (ct) (k := ?_)) | ((with_reducible show DG _ _ (_ :: _) _ _ _ _ _); refine DG.ca (ct) (k := ?_)))
      (repeat (first | ((with_reducible show RG _ _ (_ :: _) _ _ _); refine RG.go1 (k := ?_)) | ((with_reducible show DG _ _ (_ :: _) _ _ _ _ _); refine DG.go1 (k := ?_)) | with_reducible apply RG.nil | with_reducible apply W.seq | with_reducible apply W.reg | with_reducible apply W.skip | with_reducible apply W.block | with_reducible apply W.drw | with_reducible apply DG.nil | (with_reducible refine W.done (QB.n ?_))))
      refine W.cndF ?_
      (repeat (first | ((with_reducible show RG _ _ (_ :: _) _ _ _); refine RG.go1 (k := ?_)) | ((with_reducible show DG _ _ (_ :: _) _ _ _ _ _); refine DG.go1 (k := ?_)) | with_reducible apply RG.nil | with_reducible apply W.seq | with_reducible apply W.reg | with_reducible apply W.skip | with_reducible apply W.block | with_reducible apply W.drw | with_reducible apply DG.nil | (with_reducible refine W.done (QB.n ?_))))
      refine W.done (QL.n (⟨(i + 1, x), by dsimp only; omega, by dsimp only; rw [Nat.min_eq_right (by omega)]; exact hx⟩) ?_ ?_)
      · exact Wk.rn ([0] ) ( [])
      · dsimp only; omega
  have hi2 : i = m + 1 := by simp at h1; omega
  rw [Nat.min_eq_right (by omega)] at hx
  (refine W.exit ?_; (repeat (first | refine QL.x ?_ | refine QC.x ?_ | refine QB.x ?_ | refine QB.o rfl ?_)))
  clear h1 hi
  (repeat (first | ((with_reducible show RG _ _ (_ :: _) _ _ _); refine RG.go1 (k := ?_)) | ((with_reducible show DG _ _ (_ :: _) _ _ _ _ _); refine DG.go1 (k := ?_)) | with_reducible apply RG.nil | with_reducible apply W.seq | with_reducible apply W.reg | with_reducible apply W.skip | with_reducible apply W.block | with_reducible apply W.drw | with_reducible apply DG.nil | (with_reducible refine W.done (QB.n ?_))))
  refine W.loop (ι := {q : Nat × Rg // q.1 ≤ m + 1 ∧ Log q.2 n c (byt n) m m (min q.1 m)}) (fun q => ⟨[(101, .int .i64 q.1.1), (100, .int .i64 ((m : Int) + 1)), (13, .int .i64 m), (7, .int .i64 n), (8, .bptr 0 0)], [some [.sl false 1 (q.1.2.s.map bs), .int .u16 q.1.2.p, .int .u16 q.1.2.t, .int .u16 q.1.2.d, .int .u16 q.1.2.r]], [], 1, 0⟩) (fun q => m + 1 - q.1.1) ⟨(0, x), Nat.zero_le _, by rw [Nat.zero_min]; exact hx⟩ ?_ ?_
  · exact Wk.rn ([0] ) ( [])
  rintro ⟨⟨i, x⟩, hi, hx⟩
  dsimp only at hi hx ⊢
  (repeat (first | ((with_reducible show RG _ _ (_ :: _) _ _ _); refine RG.go1 (k := ?_)) | ((with_reducible show DG _ _ (_ :: _) _ _ _ _ _); refine DG.go1 (k := ?_)) | with_reducible apply RG.nil | with_reducible apply W.seq | with_reducible apply W.reg | with_reducible apply W.skip | with_reducible apply W.block | with_reducible apply W.drw | with_reducible apply DG.nil | (with_reducible refine W.done (QB.n ?_))))
  refine W.cnd (fun h1 => ?_) (fun h1 => ?_)
  · have hlt : i < m + 1 := by simp at h1; omega
    have ct := ringReap_ok x hx.ok
    by_cases hin : i < m
    · rw [Nat.min_eq_left (by omega)] at hx
      obtain ⟨e0, hx'⟩ := hx.reap_some (by omega)
      rw [e0, byt_get _ _ (by omega)] at ct
      dsimp only at ct
      generalize ({ x with s := x.s.set ((c + (i : Int)) % (n : Int)).toNat [], r := (x.r + 1) % 65536 } : Rg) = x' at ct hx'
      (repeat (first | ((with_reducible show RG _ _ (_ :: _) _ _ _); refine RG.go1 (k := ?_)) | ((with_reducible show DG _ _ (_ :: _) _ _ _ _ _); refine DG.go1 (k := ?_)) | with_reducible apply RG.nil | with_reducible apply W.seq | with_reducible apply W.reg | with_reducible apply W.skip | with_reducible apply W.block | with_reducible apply W.drw | with_reducible apply DG.nil | (with_reducible refine W.done (QB.n ?_))))
      (first | ((with_reducible show RG _ _ (_ :: _) _ _ _); refine RG.ca (ct) (k := ?_)) | ((with_reducible show DG _ _ (_ :: _) _ _ _ _ _); refine DG.ca (ct) (k := ?_)))
      (repeat (first | ((with_reducible show RG _ _ (_ :: _) _ _ _); refine RG.go1 (k := ?_)) | ((with_reducible show DG _ _ (_ :: _) _ _ _ _ _); refine DG.go1 (k := ?_)) | with_reducible apply RG.nil | with_reducible apply W.seq | with_reducible apply W.reg | with_reducible apply W.skip | with_reducible apply W.block | with_reducible apply W.drw | with_reducible apply DG.nil | (with_reducible refine W.done (QB.n ?_))))
      (first | ((with_reducible show RG _ _ (_ :: _) _ _ _); refine RG.ewg (cptr_of (by8_head i (by omega)) (by (conv => lhs; whnf) <;> exact rfl)) (k := ?_)) | ((with_reducible show DG _ _ (_ :: _) _ _ _ _ _); refine DG.ewg (cptr_of (by8_head i (by omega)) (by (conv => lhs; whnf) <;> exact rfl)) (k := ?_)))
      (repeat (first | ((with_reducible show RG _ _ (_ :: _) _ _ _); refine RG.go1 (k := ?_)) | ((with_reducible show DG _ _ (_ :: _) _ _ _ _ _); refine DG.go1 (k := ?_)) | with_reducible apply RG.nil | with_reducible apply W.seq | with_reducible apply W.reg | with_reducible apply W.skip | with_reducible apply W.block | with_reducible apply W.drw | with_reducible apply DG.nil | (with_reducible refine W.done (QB.n ?_))))
      refine W.cndF ?_
      (repeat (first | ((with_reducible show RG _ _ (_ :: _) _ _ _); refine RG.go1 (k := ?_)) | ((with_reducible show DG _ _ (_ :: _) _ _ _ _ _); refine DG.go1 (k := ?_)) | with_reducible apply RG.nil | with_reducible apply W.seq | with_reducible apply W.reg | with_reducible apply W.skip | with_reducible apply W.block | with_reducible apply W.drw | with_reducible apply DG.nil | (with_reducible refine W.done (QB.n ?_))))
      refine W.done (QL.n (⟨(i + 1, x'), by dsimp only; omega, by dsimp only; rw [Nat.min_eq_left (by omega)]; exact hx'⟩) ?_ ?_)
      · exact Wk.rn ([0] ) ( [])
      · dsimp only; omega
    · rw [Nat.min_eq_right (by omega)] at hx
      rw [hx.reap_none rfl] at ct
      (repeat (first | ((with_reducible show RG _ _ (_ :: _) _ _ _); refine RG.go1 (k := ?_)) | ((with_reducible show DG _ _ (_ :: _) _ _ _ _ _); refine DG.go1 (k := ?_)) | with_reducible apply RG.nil | with_reducible apply W.seq | with_reducible apply W.reg | with_reducible apply W.skip | with_reducible apply W.block | with_reducible apply W.drw | with_reducible apply DG.nil | (with_reducible refine W.done (QB.n ?_))))
      (first | ((with_reducible show RG _ _ (_ :: _) _ _ _); refine RG.ca (ct) (k := ?_)) | ((with_reducible show DG _ _ (_ :: _) _ _ _ _ _); refine DG.ca (ct) (k := ?_)))
      (repeat (first | ((with_reducible show RG _ _ (_ :: _) _ _ _); refine RG.go1 (k := ?_)) | ((with_reducible show DG _ _ (_ :: _) _ _ _ _ _); refine DG.go1 (k := ?_)) | with_reducible apply RG.nil | with_reducible apply W.seq | with_reducible apply W.reg | with_reducible apply W.skip | with_reducible apply W.block | with_reducible apply W.drw | with_reducible apply DG.nil | (with_reducible refine W.done (QB.n ?_))))
      refine W.cndF ?_
      (repeat (first | ((with_reducible show RG _ _ (_ :: _) _ _ _); refine RG.go1 (k := ?_)) | ((with_reducible show DG _ _ (_ :: _) _ _ _ _ _); refine DG.go1 (k := ?_)) | with_reducible apply RG.nil | with_reducible apply W.seq | with_reducible apply W.reg | with_reducible apply W.skip | with_reducible apply W.block | with_reducible apply W.drw | with_reducible apply DG.nil | (with_reducible refine W.done (QB.n ?_))))
      refine W.done (QL.n (⟨(i + 1, x), by dsimp only; omega, by dsimp only; rw [Nat.min_eq_right (by omega)]; exact hx⟩) ?_ ?_)
      · exact Wk.rn ([0] ) ( [])
      · dsimp only; omega
  have hi2 : i = m + 1 := by simp at h1; omega
  rw [Nat.min_eq_right (by omega)] at hx
  (refine W.exit ?_; (repeat (first | refine QL.x ?_ | refine QC.x ?_ | refine QB.x ?_ | refine QB.o rfl ?_)))
  clear h1 hi
  (repeat (first | ((with_reducible show RG _ _ (_ :: _) _ _ _); refine RG.go1 (k := ?_)) | ((with_reducible show DG _ _ (_ :: _) _ _ _ _ _); refine DG.go1 (k := ?_)) | with_reducible apply RG.nil | with_reducible apply W.seq | with_reducible apply W.reg | with_reducible apply W.skip | with_reducible apply W.block | with_reducible apply W.drw | with_reducible apply DG.nil | (with_reducible refine W.done (QB.n ?_))))
  have ct := ringPost_ok x hx.ok [] (by decide)
  have cl := ringLen_ok x hx.ok
  rw [hx.len, hbl] at cl
  by_cases h0 : 0 < m
  · obtain ⟨e0, _⟩ := hx.post_ok (g := []) (by decide) (by omega)
    rw [e0] at ct
    (first | ((with_reducible show RG _ _ (_ :: _) _ _ _); refine RG.ca (ct) (k := ?_)) | ((with_reducible show DG _ _ (_ :: _) _ _ _ _ _); refine DG.ca (ct) (k := ?_)))
    (repeat (first | ((with_reducible show RG _ _ (_ :: _) _ _ _); refine RG.go1 (k := ?_)) | ((with_reducible show DG _ _ (_ :: _) _ _ _ _ _); refine DG.go1 (k := ?_)) | with_reducible apply RG.nil | with_reducible apply W.seq | with_reducible apply W.reg | with_reducible apply W.skip | with_reducible apply W.block | with_reducible apply W.drw | with_reducible apply DG.nil | (with_reducible refine W.done (QB.n ?_))))
    (first | ((with_reducible show RG _ _ (_ :: _) _ _ _); refine RG.gca (fun _ => cl) (k := ?_)) | ((with_reducible show DG _ _ (_ :: _) _ _ _ _ _); refine DG.gca (fun _ => cl) (k := ?_)))
    (repeat (first | ((with_reducible show RG _ _ (_ :: _) _ _ _); refine RG.go1 (k := ?_)) | ((with_reducible show DG _ _ (_ :: _) _ _ _ _ _); refine DG.go1 (k := ?_)) | with_reducible apply RG.nil | with_reducible apply W.seq | with_reducible apply W.reg | with_reducible apply W.skip | with_reducible apply W.block | with_reducible apply W.drw | with_reducible apply DG.nil | (with_reducible refine W.done (QB.n ?_))))
    (refine W.ret ?_; (repeat (first | refine QB.r ?_ | refine QL.r ?_ | refine QC.r ?_)); refine QF.r ?_)
    exact RetOk.rs (vs := [_]) r_caravellaw11_RingFull []
  · rw [hx.post_full (g := []) (by decide) (by omega)] at ct
    (first | ((with_reducible show RG _ _ (_ :: _) _ _ _); refine RG.ca (ct) (k := ?_)) | ((with_reducible show DG _ _ (_ :: _) _ _ _ _ _); refine DG.ca (ct) (k := ?_)))
    (repeat (first | ((with_reducible show RG _ _ (_ :: _) _ _ _); refine RG.go1 (k := ?_)) | ((with_reducible show DG _ _ (_ :: _) _ _ _ _ _); refine DG.go1 (k := ?_)) | with_reducible apply RG.nil | with_reducible apply W.seq | with_reducible apply W.reg | with_reducible apply W.skip | with_reducible apply W.block | with_reducible apply W.drw | with_reducible apply DG.nil | (with_reducible refine W.done (QB.n ?_))))
    (first | ((with_reducible show RG _ _ (_ :: _) _ _ _); refine RG.gca (fun _ => cl) (k := ?_)) | ((with_reducible show DG _ _ (_ :: _) _ _ _ _ _); refine DG.gca (fun _ => cl) (k := ?_)))
    (repeat (first | ((with_reducible show RG _ _ (_ :: _) _ _ _); refine RG.go1 (k := ?_)) | ((with_reducible show DG _ _ (_ :: _) _ _ _ _ _); refine DG.go1 (k := ?_)) | with_reducible apply RG.nil | with_reducible apply W.seq | with_reducible apply W.reg | with_reducible apply W.skip | with_reducible apply W.block | with_reducible apply W.drw | with_reducible apply DG.nil | (with_reducible refine W.done (QB.n ?_))))
    (refine W.ret ?_; (repeat (first | refine QB.r ?_ | refine QL.r ?_ | refine QC.r ?_)); refine QF.r ?_)
    exact RetOk.rs (vs := [_]) r_caravellaw11_RingFull []
theorem RingFull_walk (a c k : Int) (W : World) (ha : -9223372036854775808 ≤ a ∧ a ≤ 9223372036854775807) (hc : 0 ≤ c ∧ c ≤ 65535) (hk : -9223372036854775808 ≤ k ∧ k ≤ 9223372036854775807) :
    Calls Try.prog 3 #[.int .i64 a, .int .u16 c, .int .i64 k] W fun e W' => e = .returned (.bool true) ∧ Below W.heap.size W W' :=
  acall_law (ringFull_ok a c k (by omega)) W [_, _, _] ⟨rep_int _ _, rep_int _ _, rep_int _ _, trivial⟩
end Go.Proofs.Ytlmioolkofbboaa
