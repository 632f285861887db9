/- BridgeFair: the walk. -/
import Derived.Test.YtfpgpeomcefkhaaBp2
import Derived.Test.YtfpgpeomcefkhaaBra
namespace Go.Proofs.Ytfpgpeomcefkhaa
open Go.RowKit
set_option linter.unusedVariables false
set_option linter.unusedSimpArgs false
set_option maxRecDepth 100000
set_option maxHeartbeats 4000000
structure FS2 where
  i : Nat
  l : List Lrn
theorem bridgeFair_ok (a b : Int) (l : List Fr) (hL : (l.length : Int) ≤ 9223372036854775807) :
    ACall Try.prog 4 [.sl false 4 (l.map frF), .int .i64 a, .int .i64 b] (.bool true) [] := by
  have hl := lives_ok
  have cf := fits_ok l hL
  have el := frF_len l
  have cn := bNew_ok 4
  rw [if_pos (by decide), if_pos (by decide)] at cn
  refine acall_walk (N := 162) Try.func4 (by kernel_rfl) p_caravellaw12_BridgeFair rfl ?_; unfold c_caravellaw12_BridgeFair; dsimp only [enum, Nat.reduceAdd]
  (repeat (first | ((with_reducible show RG _ _ (_ :: _) _ _ _); refine RG.go1 (k := ?_)) | ((with_reducible show DG _ _ (_ :: _) _ _ _ _ _); refine DG.go1 (k := ?_)) | with_reducible apply RG.nil | with_reducible apply W.seq | with_reducible apply W.reg | with_reducible apply W.skip | with_reducible apply W.block | with_reducible apply W.drw | with_reducible apply DG.nil | (with_reducible refine W.done (QB.n ?_)) | refine W.cndT ?_ | refine W.cndF ?_))
  (first | ((with_reducible show RG _ _ (_ :: _) _ _ _); refine RG.ca (hl) (k := ?_)) | ((with_reducible show DG _ _ (_ :: _) _ _ _ _ _); refine DG.ca (hl) (k := ?_)))
  (repeat (first | ((with_reducible show RG _ _ (_ :: _) _ _ _); refine RG.go1 (k := ?_)) | ((with_reducible show DG _ _ (_ :: _) _ _ _ _ _); refine DG.go1 (k := ?_)) | with_reducible apply RG.nil | with_reducible apply W.seq | with_reducible apply W.reg | with_reducible apply W.skip | with_reducible apply W.block | with_reducible apply W.drw | with_reducible apply DG.nil | (with_reducible refine W.done (QB.n ?_)) | refine W.cndT ?_ | refine W.cndF ?_))
  (first | ((with_reducible show RG _ _ (_ :: _) _ _ _); refine RG.gca (fun _ => cf) (k := ?_)) | ((with_reducible show DG _ _ (_ :: _) _ _ _ _ _); refine DG.gca (fun _ => cf) (k := ?_)))
  (repeat (first | ((with_reducible show RG _ _ (_ :: _) _ _ _); refine RG.go1 (k := ?_)) | ((with_reducible show DG _ _ (_ :: _) _ _ _ _ _); refine DG.go1 (k := ?_)) | with_reducible apply RG.nil | with_reducible apply W.seq | with_reducible apply W.reg | with_reducible apply W.skip | with_reducible apply W.block | with_reducible apply W.drw | with_reducible apply DG.nil | (with_reducible refine W.done (QB.n ?_)) | refine W.cndT ?_ | refine W.cndF ?_))
  refine W.cnd (fun h1 => ?_) (fun h1 => ?_)
  · (repeat (first | ((with_reducible show RG _ _ (_ :: _) _ _ _); refine RG.go1 (k := ?_)) | ((with_reducible show DG _ _ (_ :: _) _ _ _ _ _); refine DG.go1 (k := ?_)) | with_reducible apply RG.nil | with_reducible apply W.seq | with_reducible apply W.reg | with_reducible apply W.skip | with_reducible apply W.block | with_reducible apply W.drw | with_reducible apply DG.nil | (with_reducible refine W.done (QB.n ?_)) | refine W.cndT ?_ | refine W.cndF ?_))
    (first | ((with_reducible show RG _ _ (_ :: _) _ _ _); refine RG.ca (hl) (k := ?_)) | ((with_reducible show DG _ _ (_ :: _) _ _ _ _ _); refine DG.ca (hl) (k := ?_)))
    (repeat (first | ((with_reducible show RG _ _ (_ :: _) _ _ _); refine RG.go1 (k := ?_)) | ((with_reducible show DG _ _ (_ :: _) _ _ _ _ _); refine DG.go1 (k := ?_)) | with_reducible apply RG.nil | with_reducible apply W.seq | with_reducible apply W.reg | with_reducible apply W.skip | with_reducible apply W.block | with_reducible apply W.drw | with_reducible apply DG.nil | (with_reducible refine W.done (QB.n ?_)) | refine W.cndT ?_ | refine W.cndF ?_))
    (refine W.ret ?_; (repeat (with_reducible first | refine QB.r ?_ | refine QL.r ?_ | refine QC.r ?_)); refine QF.r ?_)
    exact RetOk.rs (vs := [_]) r_caravellaw12_BridgeFair []
  have hfit : fitsB l = true := by simpa using h1
  obtain ⟨hf1, hf2⟩ := fitsB_inv hfit
  clear cf h1 hfit
  (repeat (first | ((with_reducible show RG _ _ (_ :: _) _ _ _); refine RG.go1 (k := ?_)) | ((with_reducible show DG _ _ (_ :: _) _ _ _ _ _); refine DG.go1 (k := ?_)) | with_reducible apply RG.nil | with_reducible apply W.seq | with_reducible apply W.reg | with_reducible apply W.skip | with_reducible apply W.block | with_reducible apply W.drw | with_reducible apply DG.nil | (with_reducible refine W.done (QB.n ?_)) | refine W.cndT ?_ | refine W.cndF ?_))
  (first | ((with_reducible show RG _ _ (_ :: _) _ _ _); refine RG.ca (cn) (k := ?_)) | ((with_reducible show DG _ _ (_ :: _) _ _ _ _ _); refine DG.ca (cn) (k := ?_)))
  (repeat (first | ((with_reducible show RG _ _ (_ :: _) _ _ _); refine RG.go1 (k := ?_)) | ((with_reducible show DG _ _ (_ :: _) _ _ _ _ _); refine DG.go1 (k := ?_)) | with_reducible apply RG.nil | with_reducible apply W.seq | with_reducible apply W.reg | with_reducible apply W.skip | with_reducible apply W.block | with_reducible apply W.drw | with_reducible apply DG.nil | (with_reducible refine W.done (QB.n ?_)) | refine W.cndT ?_ | refine W.cndF ?_))
  clear cn hl
  refine W.loop (ι := {q : FS2 // q.i ≤ l.length ∧ KInv 4 q.l}) (fun q => ⟨[(40, .int .i64 q.1.i), (39, .int .i64 l.length), (38, .sl false 4 (l.map frF)), (8, .int .i64 0), (7, .bptr 0 0), (1, .int .i64 a), (2, .int .i64 b)], [some [.int .i64 4, .sl false 7 (q.1.l.map lrn)]], [], 1, 0⟩) (fun q => l.length - q.1.i) ⟨⟨0, []⟩, Nat.zero_le _, ⟨fun x h => (by cases h), Nat.zero_le _⟩⟩ ?_ ?_
  · have q2 : ALe .nil (.sl false 7 []) := ALe.nil _ _
    dsimp only
    rw [el]
    dsimp only [List.map]
    exact Wk.rn ([0] ) ( [])
  rintro ⟨⟨i, s⟩, hi, hinv⟩
  dsimp only at hi hinv ⊢
  have hsl := hinv.n
  (repeat (first | ((with_reducible show RG _ _ (_ :: _) _ _ _); refine RG.go1 (k := ?_)) | ((with_reducible show DG _ _ (_ :: _) _ _ _ _ _); refine DG.go1 (k := ?_)) | with_reducible apply RG.nil | with_reducible apply W.seq | with_reducible apply W.reg | with_reducible apply W.skip | with_reducible apply W.block | with_reducible apply W.drw | with_reducible apply DG.nil | (with_reducible refine W.done (QB.n ?_))))
  refine W.cnd (fun h1 => ?_) (fun h1 => ?_)
  · have hlt : i < l.length := by simp at h1; omega
    have hE := frF_at l i hlt (j := ((i : Nat) : Int).toNat) (by simp)
    have hfr := hf1 _ (List.getElem_mem hlt)
    clear h1
    generalize l[i] = f at hE hfr
    obtain ⟨fp, fd, fs, fr⟩ := f
    dsimp only at hE hfr
    have cb := bytes_ok ⟨fp, fd, fs, fr⟩ (by dsimp only; omega)
    have hbl := fby_len (f := ⟨fp, fd, fs, fr⟩) hfr
    dsimp only at cb
    generalize fby ⟨fp, fd, fs, fr⟩ = bs at cb hbl
    have c1 := bForward_ok 4 (by omega) s (by omega) fp bs (by omega)
    obtain ⟨e1, e2, e3⟩ := fwd_inv hinv fp bs
    generalize bfwd 4 s fp bs = R at c1 e1 e2 e3
    obtain ⟨s', out, er⟩ := R
    dsimp only at c1 e1 e2 e3
    have eo := iv_len out
    (repeat (first | ((with_reducible show RG _ _ (_ :: _) _ _ _); refine RG.go1 (k := ?_)) | ((with_reducible show DG _ _ (_ :: _) _ _ _ _ _); refine DG.go1 (k := ?_)) | with_reducible apply RG.nil | with_reducible apply W.seq | with_reducible apply W.reg | with_reducible apply W.skip | with_reducible apply W.block | with_reducible apply W.drw | with_reducible apply DG.nil | (with_reducible refine W.done (QB.n ?_)) | refine W.cndT ?_ | refine W.cndF ?_))
    (first | ((with_reducible show RG _ _ (_ :: _) _ _ _); refine RG.ew (cptr_of (hE) (by (conv => lhs; whnf) <;> exact rfl)) (k := ?_)) | ((with_reducible show DG _ _ (_ :: _) _ _ _ _ _); refine DG.ew (cptr_of (hE) (by (conv => lhs; whnf) <;> exact rfl)) (k := ?_)))
    (repeat (first | ((with_reducible show RG _ _ (_ :: _) _ _ _); refine RG.go1 (k := ?_)) | ((with_reducible show DG _ _ (_ :: _) _ _ _ _ _); refine DG.go1 (k := ?_)) | with_reducible apply RG.nil | with_reducible apply W.seq | with_reducible apply W.reg | with_reducible apply W.skip | with_reducible apply W.block | with_reducible apply W.drw | with_reducible apply DG.nil | (with_reducible refine W.done (QB.n ?_)) | refine W.cndT ?_ | refine W.cndF ?_))
    (first | ((with_reducible show RG _ _ (_ :: _) _ _ _); refine RG.ca (cb) (k := ?_)) | ((with_reducible show DG _ _ (_ :: _) _ _ _ _ _); refine DG.ca (cb) (k := ?_)))
    (repeat (first | ((with_reducible show RG _ _ (_ :: _) _ _ _); refine RG.go1 (k := ?_)) | ((with_reducible show DG _ _ (_ :: _) _ _ _ _ _); refine DG.go1 (k := ?_)) | with_reducible apply RG.nil | with_reducible apply W.seq | with_reducible apply W.reg | with_reducible apply W.skip | with_reducible apply W.block | with_reducible apply W.drw | with_reducible apply DG.nil | (with_reducible refine W.done (QB.n ?_)) | refine W.cndT ?_ | refine W.cndF ?_))
    (first | ((with_reducible show RG _ _ (_ :: _) _ _ _); refine RG.ca (c1) (k := ?_)) | ((with_reducible show DG _ _ (_ :: _) _ _ _ _ _); refine DG.ca (c1) (k := ?_)))
    (repeat (first | ((with_reducible show RG _ _ (_ :: _) _ _ _); refine RG.go1 (k := ?_)) | ((with_reducible show DG _ _ (_ :: _) _ _ _ _ _); refine DG.go1 (k := ?_)) | with_reducible apply RG.nil | with_reducible apply W.seq | with_reducible apply W.reg | with_reducible apply W.skip | with_reducible apply W.block | with_reducible apply W.drw | with_reducible apply DG.nil | (with_reducible refine W.done (QB.n ?_)) | refine W.cndT ?_ | refine W.cndF ?_))
    refine W.loop (ι := {j : Nat // j ≤ out.length}) (fun j => ⟨[(57, .int .i64 j.1), (56, .int .i64 out.length), (55, .sl false 1 (out.map iv)), (10, .bptr 1 0), (40, .int .i64 i), (39, .int .i64 l.length), (38, .sl false 4 (l.map frF)), (8, .int .i64 0), (7, .bptr 0 0), (1, .int .i64 a), (2, .int .i64 b)], [some [.int .i64 4, .sl false 7 (s'.map lrn)], some [.int .i64 fp, .int .u8 fd.toNat, .int .u8 fs.toNat, .sl false 1 (fr.map by8)]], [], 2, 0⟩) (fun j => out.length - j.1) ⟨0, Nat.zero_le _⟩ ?_ ?_
    · dsimp only
      rw [← eo]
      exact Wk.rn ([0, 1] ) ( [])
    rintro ⟨j, hj⟩
    dsimp only
    (repeat (first | ((with_reducible show RG _ _ (_ :: _) _ _ _); refine RG.go1 (k := ?_)) | ((with_reducible show DG _ _ (_ :: _) _ _ _ _ _); refine DG.go1 (k := ?_)) | with_reducible apply RG.nil | with_reducible apply W.seq | with_reducible apply W.reg | with_reducible apply W.skip | with_reducible apply W.block | with_reducible apply W.drw | with_reducible apply DG.nil | (with_reducible refine W.done (QB.n ?_))))
    refine W.cnd (fun h2 => ?_) (fun h2 => ?_)
    · have hjl : j < out.length := by simp at h2; omega
      have hE2 := iv_at out j hjl (j := ((j : Nat) : Int).toNat) (by simp)
      obtain ⟨g1, g2, g3⟩ := e2 _ (List.getElem_mem hjl)
      clear h2
      generalize out[j] = z at hE2 g1 g2 g3
      (repeat (first | ((with_reducible show RG _ _ (_ :: _) _ _ _); refine RG.go1 (k := ?_)) | ((with_reducible show DG _ _ (_ :: _) _ _ _ _ _); refine DG.go1 (k := ?_)) | with_reducible apply RG.nil | with_reducible apply W.seq | with_reducible apply W.reg | with_reducible apply W.skip | with_reducible apply W.block | with_reducible apply W.drw | with_reducible apply DG.nil | (with_reducible refine W.done (QB.n ?_)) | refine W.cndT ?_ | refine W.cndF ?_))
      (first | ((with_reducible show RG _ _ (_ :: _) _ _ _); refine RG.ew (cptr_of (hE2) (by (conv => lhs; whnf) <;> exact rfl)) (k := ?_)) | ((with_reducible show DG _ _ (_ :: _) _ _ _ _ _); refine DG.ew (cptr_of (hE2) (by (conv => lhs; whnf) <;> exact rfl)) (k := ?_)))
      (repeat (first | ((with_reducible show RG _ _ (_ :: _) _ _ _); refine RG.go1 (k := ?_)) | ((with_reducible show DG _ _ (_ :: _) _ _ _ _ _); refine DG.go1 (k := ?_)) | with_reducible apply RG.nil | with_reducible apply W.seq | with_reducible apply W.reg | with_reducible apply W.skip | with_reducible apply W.block | with_reducible apply W.drw | with_reducible apply DG.nil | (with_reducible refine W.done (QB.n ?_)) | refine W.cndT ?_ | refine W.cndF ?_))
      refine W.done (QL.n (⟨j + 1, by omega⟩) ?_ ?_)
      · exact Wk.rn ([0, 1] ) ( [])
      · dsimp only; omega
    clear h2
    (refine W.exit ?_; (repeat (first | (with_reducible first | refine QL.x ?_ | refine QC.x ?_ | refine QB.x ?_) | (with_reducible refine QB.o (by decide) ?_))))
    (repeat (first | ((with_reducible show RG _ _ (_ :: _) _ _ _); refine RG.go1 (k := ?_)) | ((with_reducible show DG _ _ (_ :: _) _ _ _ _ _); refine DG.go1 (k := ?_)) | with_reducible apply RG.nil | with_reducible apply W.seq | with_reducible apply W.reg | with_reducible apply W.skip | with_reducible apply W.block | with_reducible apply W.drw | with_reducible apply DG.nil | (with_reducible refine W.done (QB.n ?_)) | refine W.cndT ?_ | refine W.cndF ?_))
    refine W.done (QL.n (⟨⟨i + 1, s'⟩, by dsimp only; omega, e1⟩) ?_ ?_)
    · exact Wk.rn ([0] ) ( [])
    · dsimp only; omega
  clear h1
  obtain ⟨x, hx⟩ : ∃ x, a % 18446744073709551616 % 4 = x := ⟨_, rfl⟩
  obtain ⟨y, hy⟩ : ∃ y, b % 18446744073709551616 % 4 = y := ⟨_, rfl⟩
  have hx2 : 0 ≤ x ∧ x < 4 := by omega
  have hy2 : 0 ≤ y ∧ y < 4 := by omega
  obtain ⟨K1, K2, K3, K4, o1, o2, o4, t1, t2, t3, t4, t5, t6, t7⟩ := fair hinv hx2 hy2
  have c1 := bForward_ok 4 (by omega) s (by omega) x sA4 (by decide)
  have c2 := bForward_ok 4 (by omega) K1 (by omega) y sA5 (by decide)
  have c3 := bForward_ok 4 (by omega) K2 (by omega) y s45 (by decide)
  have c4 := bForward_ok 4 (by omega) K2 (by omega) y sA4 (by decide)
  rw [t1] at c1
  rw [t2] at c2
  rw [t3] at c3
  rw [t4] at c4
  dsimp only at c1 c2 c3 c4
  clear t1 t2 t3 t4
  have fa4 := frame_ok allMac c44
  have fa5 := frame_ok allMac c45
  have f45 := frame_ok c44 c45
  simp only [Mac.l, allMac, c44, c45, List.cons_append, List.nil_append] at fa4 fa5 f45
  have e4 := iv_len o4
  rw [t5] at e4
  (refine W.exit ?_; (repeat (first | (with_reducible first | refine QL.x ?_ | refine QC.x ?_ | refine QB.x ?_) | (with_reducible refine QB.o (by decide) ?_))))
  (repeat (first | ((with_reducible show RG _ _ (_ :: _) _ _ _); refine RG.go1 (k := ?_)) | ((with_reducible show DG _ _ (_ :: _) _ _ _ _ _); refine DG.go1 (k := ?_)) | with_reducible apply RG.nil | with_reducible apply W.seq | with_reducible apply W.reg | with_reducible apply W.skip | with_reducible apply W.block | with_reducible apply W.drw | with_reducible apply DG.nil | (with_reducible refine W.done (QB.n ?_)) | refine W.cndT ?_ | refine W.cndF ?_))
  rw [hx, hy]
  clear hx hy
  by_cases hxy : x = y
  · rw [if_pos hxy] at c3
    dsimp only [List.map] at c3
    (first | ((with_reducible show RG _ _ (_ :: _) _ _ _); refine RG.ca (all_ok) (k := ?_)) | ((with_reducible show DG _ _ (_ :: _) _ _ _ _ _); refine DG.ca (all_ok) (k := ?_)))
    (repeat (first | ((with_reducible show RG _ _ (_ :: _) _ _ _); refine RG.go1 (k := ?_)) | ((with_reducible show DG _ _ (_ :: _) _ _ _ _ _); refine DG.go1 (k := ?_)) | with_reducible apply RG.nil | with_reducible apply W.seq | with_reducible apply W.reg | with_reducible apply W.skip | with_reducible apply W.block | with_reducible apply W.drw | with_reducible apply DG.nil | (with_reducible refine W.done (QB.n ?_)) | refine W.cndT ?_ | refine W.cndF ?_))
    (first | ((with_reducible show RG _ _ (_ :: _) _ _ _); refine RG.ca (fa4) (k := ?_)) | ((with_reducible show DG _ _ (_ :: _) _ _ _ _ _); refine DG.ca (fa4) (k := ?_)))
    (repeat (first | ((with_reducible show RG _ _ (_ :: _) _ _ _); refine RG.go1 (k := ?_)) | ((with_reducible show DG _ _ (_ :: _) _ _ _ _ _); refine DG.go1 (k := ?_)) | with_reducible apply RG.nil | with_reducible apply W.seq | with_reducible apply W.reg | with_reducible apply W.skip | with_reducible apply W.block | with_reducible apply W.drw | with_reducible apply DG.nil | (with_reducible refine W.done (QB.n ?_)) | refine W.cndT ?_ | refine W.cndF ?_))
    (first | ((with_reducible show RG _ _ (_ :: _) _ _ _); refine RG.ca (c1) (k := ?_)) | ((with_reducible show DG _ _ (_ :: _) _ _ _ _ _); refine DG.ca (c1) (k := ?_)))
    (repeat (first | ((with_reducible show RG _ _ (_ :: _) _ _ _); refine RG.go1 (k := ?_)) | ((with_reducible show DG _ _ (_ :: _) _ _ _ _ _); refine DG.go1 (k := ?_)) | with_reducible apply RG.nil | with_reducible apply W.seq | with_reducible apply W.reg | with_reducible apply W.skip | with_reducible apply W.block | with_reducible apply W.drw | with_reducible apply DG.nil | (with_reducible refine W.done (QB.n ?_)) | refine W.cndT ?_ | refine W.cndF ?_))
    (first | ((with_reducible show RG _ _ (_ :: _) _ _ _); refine RG.ca (all_ok) (k := ?_)) | ((with_reducible show DG _ _ (_ :: _) _ _ _ _ _); refine DG.ca (all_ok) (k := ?_)))
    (repeat (first | ((with_reducible show RG _ _ (_ :: _) _ _ _); refine RG.go1 (k := ?_)) | ((with_reducible show DG _ _ (_ :: _) _ _ _ _ _); refine DG.go1 (k := ?_)) | with_reducible apply RG.nil | with_reducible apply W.seq | with_reducible apply W.reg | with_reducible apply W.skip | with_reducible apply W.block | with_reducible apply W.drw | with_reducible apply DG.nil | (with_reducible refine W.done (QB.n ?_)) | refine W.cndT ?_ | refine W.cndF ?_))
    (first | ((with_reducible show RG _ _ (_ :: _) _ _ _); refine RG.ca (fa5) (k := ?_)) | ((with_reducible show DG _ _ (_ :: _) _ _ _ _ _); refine DG.ca (fa5) (k := ?_)))
    (repeat (first | ((with_reducible show RG _ _ (_ :: _) _ _ _); refine RG.go1 (k := ?_)) | ((with_reducible show DG _ _ (_ :: _) _ _ _ _ _); refine DG.go1 (k := ?_)) | with_reducible apply RG.nil | with_reducible apply W.seq | with_reducible apply W.reg | with_reducible apply W.skip | with_reducible apply W.block | with_reducible apply W.drw | with_reducible apply DG.nil | (with_reducible refine W.done (QB.n ?_)) | refine W.cndT ?_ | refine W.cndF ?_))
    (first | ((with_reducible show RG _ _ (_ :: _) _ _ _); refine RG.ca (c2) (k := ?_)) | ((with_reducible show DG _ _ (_ :: _) _ _ _ _ _); refine DG.ca (c2) (k := ?_)))
    (repeat (first | ((with_reducible show RG _ _ (_ :: _) _ _ _); refine RG.go1 (k := ?_)) | ((with_reducible show DG _ _ (_ :: _) _ _ _ _ _); refine DG.go1 (k := ?_)) | with_reducible apply RG.nil | with_reducible apply W.seq | with_reducible apply W.reg | with_reducible apply W.skip | with_reducible apply W.block | with_reducible apply W.drw | with_reducible apply DG.nil | (with_reducible refine W.done (QB.n ?_)) | refine W.cndT ?_ | refine W.cndF ?_))
    (first | ((with_reducible show RG _ _ (_ :: _) _ _ _); refine RG.ca (f45) (k := ?_)) | ((with_reducible show DG _ _ (_ :: _) _ _ _ _ _); refine DG.ca (f45) (k := ?_)))
    (repeat (first | ((with_reducible show RG _ _ (_ :: _) _ _ _); refine RG.go1 (k := ?_)) | ((with_reducible show DG _ _ (_ :: _) _ _ _ _ _); refine DG.go1 (k := ?_)) | with_reducible apply RG.nil | with_reducible apply W.seq | with_reducible apply W.reg | with_reducible apply W.skip | with_reducible apply W.block | with_reducible apply W.drw | with_reducible apply DG.nil | (with_reducible refine W.done (QB.n ?_)) | refine W.cndT ?_ | refine W.cndF ?_))
    (first | ((with_reducible show RG _ _ (_ :: _) _ _ _); refine RG.ca (c3) (k := ?_)) | ((with_reducible show DG _ _ (_ :: _) _ _ _ _ _); refine DG.ca (c3) (k := ?_)))
    (repeat (first | ((with_reducible show RG _ _ (_ :: _) _ _ _); refine RG.go1 (k := ?_)) | ((with_reducible show DG _ _ (_ :: _) _ _ _ _ _); refine DG.go1 (k := ?_)) | with_reducible apply RG.nil | with_reducible apply W.seq | with_reducible apply W.reg | with_reducible apply W.skip | with_reducible apply W.block | with_reducible apply W.drw | with_reducible apply DG.nil | (with_reducible refine W.done (QB.n ?_)) | refine W.cndT ?_ | refine W.cndF ?_))
    (first | ((with_reducible show RG _ _ (_ :: _) _ _ _); refine RG.ca (all_ok) (k := ?_)) | ((with_reducible show DG _ _ (_ :: _) _ _ _ _ _); refine DG.ca (all_ok) (k := ?_)))
    (repeat (first | ((with_reducible show RG _ _ (_ :: _) _ _ _); refine RG.go1 (k := ?_)) | ((with_reducible show DG _ _ (_ :: _) _ _ _ _ _); refine DG.go1 (k := ?_)) | with_reducible apply RG.nil | with_reducible apply W.seq | with_reducible apply W.reg | with_reducible apply W.skip | with_reducible apply W.block | with_reducible apply W.drw | with_reducible apply DG.nil | (with_reducible refine W.done (QB.n ?_)) | refine W.cndT ?_ | refine W.cndF ?_))
    (first | ((with_reducible show RG _ _ (_ :: _) _ _ _); refine RG.ca (fa4) (k := ?_)) | ((with_reducible show DG _ _ (_ :: _) _ _ _ _ _); refine DG.ca (fa4) (k := ?_)))
    (repeat (first | ((with_reducible show RG _ _ (_ :: _) _ _ _); refine RG.go1 (k := ?_)) | ((with_reducible show DG _ _ (_ :: _) _ _ _ _ _); refine DG.go1 (k := ?_)) | with_reducible apply RG.nil | with_reducible apply W.seq | with_reducible apply W.reg | with_reducible apply W.skip | with_reducible apply W.block | with_reducible apply W.drw | with_reducible apply DG.nil | (with_reducible refine W.done (QB.n ?_)) | refine W.cndT ?_ | refine W.cndF ?_))
    (first | ((with_reducible show RG _ _ (_ :: _) _ _ _); refine RG.ca (c4) (k := ?_)) | ((with_reducible show DG _ _ (_ :: _) _ _ _ _ _); refine DG.ca (c4) (k := ?_)))
    (repeat (first | ((with_reducible show RG _ _ (_ :: _) _ _ _); refine RG.go1 (k := ?_)) | ((with_reducible show DG _ _ (_ :: _) _ _ _ _ _); refine DG.go1 (k := ?_)) | with_reducible apply RG.nil | with_reducible apply W.seq | with_reducible apply W.reg | with_reducible apply W.skip | with_reducible apply W.block | with_reducible apply W.drw | with_reducible apply DG.nil | (with_reducible refine W.done (QB.n ?_)) | refine W.cndT ?_ | refine W.cndF ?_))
    (refine W.ret ?_; (repeat (with_reducible first | refine QB.r ?_ | refine QL.r ?_ | refine QC.r ?_)); refine QF.r ?_)
    exact RetOk.rs (vs := [_]) r_caravellaw12_BridgeFair []
  · rw [if_neg hxy] at c3
    dsimp only [List.map, iv] at c3
    (first | ((with_reducible show RG _ _ (_ :: _) _ _ _); refine RG.ca (all_ok) (k := ?_)) | ((with_reducible show DG _ _ (_ :: _) _ _ _ _ _); refine DG.ca (all_ok) (k := ?_)))
    (repeat (first | ((with_reducible show RG _ _ (_ :: _) _ _ _); refine RG.go1 (k := ?_)) | ((with_reducible show DG _ _ (_ :: _) _ _ _ _ _); refine DG.go1 (k := ?_)) | with_reducible apply RG.nil | with_reducible apply W.seq | with_reducible apply W.reg | with_reducible apply W.skip | with_reducible apply W.block | with_reducible apply W.drw | with_reducible apply DG.nil | (with_reducible refine W.done (QB.n ?_)) | refine W.cndT ?_ | refine W.cndF ?_))
    (first | ((with_reducible show RG _ _ (_ :: _) _ _ _); refine RG.ca (fa4) (k := ?_)) | ((with_reducible show DG _ _ (_ :: _) _ _ _ _ _); refine DG.ca (fa4) (k := ?_)))
    (repeat (first | ((with_reducible show RG _ _ (_ :: _) _ _ _); refine RG.go1 (k := ?_)) | ((with_reducible show DG _ _ (_ :: _) _ _ _ _ _); refine DG.go1 (k := ?_)) | with_reducible apply RG.nil | with_reducible apply W.seq | with_reducible apply W.reg | with_reducible apply W.skip | with_reducible apply W.block | with_reducible apply W.drw | with_reducible apply DG.nil | (with_reducible refine W.done (QB.n ?_)) | refine W.cndT ?_ | refine W.cndF ?_))
    (first | ((with_reducible show RG _ _ (_ :: _) _ _ _); refine RG.ca (c1) (k := ?_)) | ((with_reducible show DG _ _ (_ :: _) _ _ _ _ _); refine DG.ca (c1) (k := ?_)))
    (repeat (first | ((with_reducible show RG _ _ (_ :: _) _ _ _); refine RG.go1 (k := ?_)) | ((with_reducible show DG _ _ (_ :: _) _ _ _ _ _); refine DG.go1 (k := ?_)) | with_reducible apply RG.nil | with_reducible apply W.seq | with_reducible apply W.reg | with_reducible apply W.skip | with_reducible apply W.block | with_reducible apply W.drw | with_reducible apply DG.nil | (with_reducible refine W.done (QB.n ?_)) | refine W.cndT ?_ | refine W.cndF ?_))
    (first | ((with_reducible show RG _ _ (_ :: _) _ _ _); refine RG.ca (all_ok) (k := ?_)) | ((with_reducible show DG _ _ (_ :: _) _ _ _ _ _); refine DG.ca (all_ok) (k := ?_)))
    (repeat (first | ((with_reducible show RG _ _ (_ :: _) _ _ _); refine RG.go1 (k := ?_)) | ((with_reducible show DG _ _ (_ :: _) _ _ _ _ _); refine DG.go1 (k := ?_)) | with_reducible apply RG.nil | with_reducible apply W.seq | with_reducible apply W.reg | with_reducible apply W.skip | with_reducible apply W.block | with_reducible apply W.drw | with_reducible apply DG.nil | (with_reducible refine W.done (QB.n ?_)) | refine W.cndT ?_ | refine W.cndF ?_))
    (first | ((with_reducible show RG _ _ (_ :: _) _ _ _); refine RG.ca (fa5) (k := ?_)) | ((with_reducible show DG _ _ (_ :: _) _ _ _ _ _); refine DG.ca (fa5) (k := ?_)))
    (repeat (first | ((with_reducible show RG _ _ (_ :: _) _ _ _); refine RG.go1 (k := ?_)) | ((with_reducible show DG _ _ (_ :: _) _ _ _ _ _); refine DG.go1 (k := ?_)) | with_reducible apply RG.nil | with_reducible apply W.seq | with_reducible apply W.reg | with_reducible apply W.skip | with_reducible apply W.block | with_reducible apply W.drw | with_reducible apply DG.nil | (with_reducible refine W.done (QB.n ?_)) | refine W.cndT ?_ | refine W.cndF ?_))
    (first | ((with_reducible show RG _ _ (_ :: _) _ _ _); refine RG.ca (c2) (k := ?_)) | ((with_reducible show DG _ _ (_ :: _) _ _ _ _ _); refine DG.ca (c2) (k := ?_)))
    (repeat (first | ((with_reducible show RG _ _ (_ :: _) _ _ _); refine RG.go1 (k := ?_)) | ((with_reducible show DG _ _ (_ :: _) _ _ _ _ _); refine DG.go1 (k := ?_)) | with_reducible apply RG.nil | with_reducible apply W.seq | with_reducible apply W.reg | with_reducible apply W.skip | with_reducible apply W.block | with_reducible apply W.drw | with_reducible apply DG.nil | (with_reducible refine W.done (QB.n ?_)) | refine W.cndT ?_ | refine W.cndF ?_))
    (first | ((with_reducible show RG _ _ (_ :: _) _ _ _); refine RG.ca (f45) (k := ?_)) | ((with_reducible show DG _ _ (_ :: _) _ _ _ _ _); refine DG.ca (f45) (k := ?_)))
    (repeat (first | ((with_reducible show RG _ _ (_ :: _) _ _ _); refine RG.go1 (k := ?_)) | ((with_reducible show DG _ _ (_ :: _) _ _ _ _ _); refine DG.go1 (k := ?_)) | with_reducible apply RG.nil | with_reducible apply W.seq | with_reducible apply W.reg | with_reducible apply W.skip | with_reducible apply W.block | with_reducible apply W.drw | with_reducible apply DG.nil | (with_reducible refine W.done (QB.n ?_)) | refine W.cndT ?_ | refine W.cndF ?_))
    (first | ((with_reducible show RG _ _ (_ :: _) _ _ _); refine RG.ca (c3) (k := ?_)) | ((with_reducible show DG _ _ (_ :: _) _ _ _ _ _); refine DG.ca (c3) (k := ?_)))
    (repeat (first | ((with_reducible show RG _ _ (_ :: _) _ _ _); refine RG.go1 (k := ?_)) | ((with_reducible show DG _ _ (_ :: _) _ _ _ _ _); refine DG.go1 (k := ?_)) | with_reducible apply RG.nil | with_reducible apply W.seq | with_reducible apply W.reg | with_reducible apply W.skip | with_reducible apply W.block | with_reducible apply W.drw | with_reducible apply DG.nil | (with_reducible refine W.done (QB.n ?_)) | refine W.cndT ?_ | refine W.cndF ?_))
    (first | ((with_reducible show RG _ _ (_ :: _) _ _ _); refine RG.ca (all_ok) (k := ?_)) | ((with_reducible show DG _ _ (_ :: _) _ _ _ _ _); refine DG.ca (all_ok) (k := ?_)))
    (repeat (first | ((with_reducible show RG _ _ (_ :: _) _ _ _); refine RG.go1 (k := ?_)) | ((with_reducible show DG _ _ (_ :: _) _ _ _ _ _); refine DG.go1 (k := ?_)) | with_reducible apply RG.nil | with_reducible apply W.seq | with_reducible apply W.reg | with_reducible apply W.skip | with_reducible apply W.block | with_reducible apply W.drw | with_reducible apply DG.nil | (with_reducible refine W.done (QB.n ?_)) | refine W.cndT ?_ | refine W.cndF ?_))
    (first | ((with_reducible show RG _ _ (_ :: _) _ _ _); refine RG.ca (fa4) (k := ?_)) | ((with_reducible show DG _ _ (_ :: _) _ _ _ _ _); refine DG.ca (fa4) (k := ?_)))
    (repeat (first | ((with_reducible show RG _ _ (_ :: _) _ _ _); refine RG.go1 (k := ?_)) | ((with_reducible show DG _ _ (_ :: _) _ _ _ _ _); refine DG.go1 (k := ?_)) | with_reducible apply RG.nil | with_reducible apply W.seq | with_reducible apply W.reg | with_reducible apply W.skip | with_reducible apply W.block | with_reducible apply W.drw | with_reducible apply DG.nil | (with_reducible refine W.done (QB.n ?_)) | refine W.cndT ?_ | refine W.cndF ?_))
    (first | ((with_reducible show RG _ _ (_ :: _) _ _ _); refine RG.ca (c4) (k := ?_)) | ((with_reducible show DG _ _ (_ :: _) _ _ _ _ _); refine DG.ca (c4) (k := ?_)))
    (repeat (first | ((with_reducible show RG _ _ (_ :: _) _ _ _); refine RG.go1 (k := ?_)) | ((with_reducible show DG _ _ (_ :: _) _ _ _ _ _); refine DG.go1 (k := ?_)) | with_reducible apply RG.nil | with_reducible apply W.seq | with_reducible apply W.reg | with_reducible apply W.skip | with_reducible apply W.block | with_reducible apply W.drw | with_reducible apply DG.nil | (with_reducible refine W.done (QB.n ?_)) | refine W.cndT ?_ | refine W.cndF ?_))
    (first | ((with_reducible show RG _ _ (_ :: _) _ _ _); refine RG.ewg (cptr_of ((show [AV.int IntKind.i64 x][(0 : Int).toNat]?.getD .any = .int .i64 x from rfl)) (by (conv => lhs; whnf) <;> exact rfl)) (k := ?_)) | ((with_reducible show DG _ _ (_ :: _) _ _ _ _ _); refine DG.ewg (cptr_of ((show [AV.int IntKind.i64 x][(0 : Int).toNat]?.getD .any = .int .i64 x from rfl)) (by (conv => lhs; whnf) <;> exact rfl)) (k := ?_)))
    (repeat (first | ((with_reducible show RG _ _ (_ :: _) _ _ _); refine RG.go1 (k := ?_)) | ((with_reducible show DG _ _ (_ :: _) _ _ _ _ _); refine DG.go1 (k := ?_)) | with_reducible apply RG.nil | with_reducible apply W.seq | with_reducible apply W.reg | with_reducible apply W.skip | with_reducible apply W.block | with_reducible apply W.drw | with_reducible apply DG.nil | (with_reducible refine W.done (QB.n ?_)) | refine W.cndT ?_ | refine W.cndF ?_))
    (refine W.ret ?_; (repeat (with_reducible first | refine QB.r ?_ | refine QL.r ?_ | refine QC.r ?_)); refine QF.r ?_)
    exact RetOk.rs (vs := [_]) r_caravellaw12_BridgeFair []
theorem BridgeFair_walk {r : Reach} {b0 base : Nat} {H : Type} {enc : TypeId × Value → H} {spare : Nat → Bool} {held : Bool} {d : DataW H} {p : List MemPlace} (v : Value) (a b : Int) (W : World) (hv : Value.okWide Try.prog W r b0 22 v) (k : DataW.Trod enc Try.prog W base spare held 22 v d p) (ha : -9223372036854775808 ≤ a ∧ a ≤ 9223372036854775807) (hb : -9223372036854775808 ≤ b ∧ b ≤ 9223372036854775807) :
    Calls Try.prog 4 #[v, .int .i64 a, .int .i64 b] W fun e W' => e = .returned (.bool true) ∧ Below W.heap.size W W' := by
  obtain ⟨l, hr, hl⟩ := frames_arg hv k
  exact acall_lawF (bridgeFair_ok a b l (len_le hl)) W [_, _, _] ⟨.pure _ _ hr, .pure _ _ (.int _ _), .pure _ _ (.int _ _), trivial⟩
end Go.Proofs.Ytfpgpeomcefkhaa
