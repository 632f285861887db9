/- Heaps: Alloc. -/
import Derived.Test.YtjacmhaeemhinaaHp1
namespace Go.Proofs.Ytjacmhaeemhinaa
open Go.RowKit
set_option linter.unusedVariables false
set_option linter.unusedSimpArgs false
set_option maxRecDepth 100000
set_option maxHeartbeats 4000000
theorem bkm (x : Blk) : bk x = .agg [.int .i64 x.at_, .int .i64 x.ln] := rfl
theorem hAllocC_ok {h : Hp} {m : Nat} (k : h.Ok m) (n : Int) : ACall Try.prog 12 [hv true h, .int .i64 n] (.tup [hv false (hAlloc h n).1, .int .i64 (hAlloc h n).2.1, .int .i64 (hAlloc h n).2.2]) [] := by
  obtain ⟨l1, l2, l3⟩ := k.lens
  have cc := hCloneF_ok h k.few
  have co := hClone_ok h k.few
  have es := by8_len h.s
  have el := bk_len h.l
  have ed := bo_len h.d
  unfold hAlloc
  unfold hv at cc co ⊢
  by_cases q1 : n < 1
  · rw [if_pos q1]
    dsimp only
    refine acall_walk (N := 80) Try.func12 (by kernel_rfl) p_heap_Alloc rfl ?_; unfold c_heap_Alloc; dsimp only [enum, Nat.reduceAdd]
    (repeat (first | ((with_reducible show RG _ _ (_ :: _) _ _ _); refine RG.go1 (k := ?_)) | ((with_reducible show DG _ _ (_ :: _) _ _ _ _ _); refine DG.go1 (k := ?_)) | (with_reducible first | apply RG.nil | apply W.seq | apply W.reg | apply W.skip | apply W.block | apply W.drw | apply DG.nil | refine W.done (QB.n ?_)) | refine W.cndT ?_ | refine W.cndF ?_))
    (first | ((with_reducible show RG _ _ (_ :: _) _ _ _); refine RG.ca (cc) (k := ?_)) | ((with_reducible show DG _ _ (_ :: _) _ _ _ _ _); refine DG.ca (cc) (k := ?_)))
    (repeat (first | ((with_reducible show RG _ _ (_ :: _) _ _ _); refine RG.go1 (k := ?_)) | ((with_reducible show DG _ _ (_ :: _) _ _ _ _ _); refine DG.go1 (k := ?_)) | (with_reducible first | apply RG.nil | apply W.seq | apply W.reg | apply W.skip | apply W.block | apply W.drw | apply DG.nil | refine W.done (QB.n ?_)) | refine W.cndT ?_ | refine W.cndF ?_))
    (refine W.ret ?_; (repeat (with_reducible first | refine QB.r ?_ | refine QL.r ?_ | refine QC.r ?_)); refine QF.r ?_)
    exact RetOk.rs (vs := [_, _, _]) r_heap_Alloc []
  rw [if_neg q1]
  by_cases q2 : h.s.length < n
  · rw [if_pos q2]
    dsimp only
    refine acall_walk (N := 80) Try.func12 (by kernel_rfl) p_heap_Alloc rfl ?_; unfold c_heap_Alloc; dsimp only [enum, Nat.reduceAdd]
    (repeat (first | ((with_reducible show RG _ _ (_ :: _) _ _ _); refine RG.go1 (k := ?_)) | ((with_reducible show DG _ _ (_ :: _) _ _ _ _ _); refine DG.go1 (k := ?_)) | (with_reducible first | apply RG.nil | apply W.seq | apply W.reg | apply W.skip | apply W.block | apply W.drw | apply DG.nil | refine W.done (QB.n ?_)) | refine W.cndT ?_ | refine W.cndF ?_))
    (first | ((with_reducible show RG _ _ (_ :: _) _ _ _); refine RG.ca (cc) (k := ?_)) | ((with_reducible show DG _ _ (_ :: _) _ _ _ _ _); refine DG.ca (cc) (k := ?_)))
    (repeat (first | ((with_reducible show RG _ _ (_ :: _) _ _ _); refine RG.go1 (k := ?_)) | ((with_reducible show DG _ _ (_ :: _) _ _ _ _ _); refine DG.go1 (k := ?_)) | (with_reducible first | apply RG.nil | apply W.seq | apply W.reg | apply W.skip | apply W.block | apply W.drw | apply DG.nil | refine W.done (QB.n ?_)) | refine W.cndT ?_ | refine W.cndF ?_))
    (refine W.ret ?_; (repeat (with_reducible first | refine QB.r ?_ | refine QL.r ?_ | refine QC.r ?_)); refine QF.r ?_)
    exact RetOk.rs (vs := [_, _, _]) r_heap_Alloc []
  rw [if_neg q2]
  obtain ⟨u, hu⟩ : ∃ u, up8 n = u := ⟨_, rfl⟩
  have hu2 : (n + 8 - 1) / 8 * 8 = u := hu
  obtain ⟨u1, u2, u3, u4⟩ := up8_bd (n := n) (by omega)
  rw [hu] at u1 u2 u3 u4 ⊢
  have gb := gapA_bd u k.l (Int.le_refl _) rfl
  have gi := gapI_le u h.l 0
  obtain ⟨g, hg⟩ : ∃ g, gapA u 0 h.l = g := ⟨_, rfl⟩
  obtain ⟨i0, hi⟩ : ∃ i, gapI u 0 h.l = i := ⟨_, rfl⟩
  rw [hg, hi]
  rw [hg] at gb
  rw [hi] at gi
  have hm := k.l.mem (Int.le_refl _)
  have km := k.m2
  have hsm := k.s
  clear u2 hu
  have ci := bkIns_ok h.l (by omega) i0 gi ⟨g, u⟩
  dsimp only at ci
  obtain ⟨lr, hlr⟩ : ∃ r, h.l.take i0 ++ ⟨g, u⟩ :: h.l.drop i0 = r := ⟨_, rfl⟩
  have elr2 : lr.length = h.l.length + 1 := by rw [← hlr]; simp; omega
  have elr : (lr.map bk).length = h.l.length + 1 := by rw [← hlr]; simp; omega
  rw [hlr] at ci ⊢
  refine acall_walk (N := 80) Try.func12 (by kernel_rfl) p_heap_Alloc rfl ?_; unfold c_heap_Alloc; dsimp only [enum, Nat.reduceAdd]
  (repeat (first | ((with_reducible show RG _ _ (_ :: _) _ _ _); refine RG.go1 (k := ?_)) | ((with_reducible show DG _ _ (_ :: _) _ _ _ _ _); refine DG.go1 (k := ?_)) | (with_reducible first | apply RG.nil | apply W.seq | apply W.reg | apply W.skip | apply W.block | apply W.drw | apply DG.nil | refine W.done (QB.n ?_)) | refine W.cndT ?_ | refine W.cndF ?_))
  rw [hu2]
  (repeat (first | ((with_reducible show RG _ _ (_ :: _) _ _ _); refine RG.go1 (k := ?_)) | ((with_reducible show DG _ _ (_ :: _) _ _ _ _ _); refine DG.go1 (k := ?_)) | (with_reducible first | apply RG.nil | apply W.seq | apply W.reg | apply W.skip | apply W.block | apply W.drw | apply DG.nil | refine W.done (QB.n ?_)) | refine W.cndT ?_ | refine W.cndF ?_))
  refine W.loop (ι := {p : Int × Nat // gapA u p.1 (h.l.drop p.2) = g ∧ p.2 + gapI u p.1 (h.l.drop p.2) = i0 ∧ 0 ≤ p.1 ∧ p.1 ≤ 4096 ∧ p.2 ≤ h.l.length}) (fun p => ⟨[(8, .int .i64 p.1.2), (7, .int .i64 p.1.1), (1, .int .i64 u), (6, .int .i64 0), (5, .int .i64 0), (4, .bptr 1 0), (2, .bptr 0 0)], [some [.sl true 1 (h.s.map by8), .sl true 2 (h.l.map bk), .sl true 1 (h.d.map bo)], some [.nil, .nil, .nil]], [], 2, 0⟩) (fun p => h.l.length - p.1.2) ⟨(0, 0), hg, by simpa using hi, by omega, by omega, by omega⟩ ?_ ?_
  · exact Wk.rn ([0, 1] ) ( [])
  rintro ⟨⟨e, i⟩, r1, r2, r3, r4, r5⟩
  dsimp only at r1 r2 r3 r4 r5 ⊢
  by_cases hlt : i < h.l.length
  · have hE := bk_at h.l i hlt (j := ((i : Nat) : Int).toNat) (by simp)
    obtain ⟨m0, m1, m2, m3, m4, m5⟩ := hm _ (List.getElem_mem hlt)
    rw [List.drop_eq_getElem_cons hlt] at r1 r2
    unfold gapA at r1
    unfold gapI at r2
    obtain ⟨xa, hxa⟩ : ∃ a, h.l[i].at_ = a := ⟨_, rfl⟩
    obtain ⟨xn, hxn⟩ : ∃ a, h.l[i].ln = a := ⟨_, rfl⟩
    rw [hxa] at r1 r2 hE m0 m1 m2 m5
    rw [hxn] at r1 r2 hE m3 m4 m5
    clear m2 m4 hxa hxn
    by_cases hq : xa - e < u
    · rw [if_pos hq] at r1 r2
      (repeat (first | ((with_reducible show RG _ _ (_ :: _) _ _ _); refine RG.go1 (k := ?_)) | ((with_reducible show DG _ _ (_ :: _) _ _ _ _ _); refine DG.go1 (k := ?_)) | (with_reducible first | apply RG.nil | apply W.seq | apply W.reg | apply W.skip | apply W.block | apply W.drw | apply DG.nil | refine W.done (QB.n ?_))))
      (first | ((with_reducible show RG _ _ (_ :: _) _ _ _); refine RG.ewg (cptr_of (hE) (by (conv => lhs; whnf) <;> exact rfl)) (k := ?_)) | ((with_reducible show DG _ _ (_ :: _) _ _ _ _ _); refine DG.ewg (cptr_of (hE) (by (conv => lhs; whnf) <;> exact rfl)) (k := ?_)))
      (repeat (first | ((with_reducible show RG _ _ (_ :: _) _ _ _); refine RG.go1 (k := ?_)) | ((with_reducible show DG _ _ (_ :: _) _ _ _ _ _); refine DG.go1 (k := ?_)) | (with_reducible first | apply RG.nil | apply W.seq | apply W.reg | apply W.skip | apply W.block | apply W.drw | apply DG.nil | refine W.done (QB.n ?_)) | refine W.cndT ?_ | refine W.cndF ?_))
      (first | ((with_reducible show RG _ _ (_ :: _) _ _ _); refine RG.ew (cptr_of (hE) (by (conv => lhs; whnf) <;> exact rfl)) (k := ?_)) | ((with_reducible show DG _ _ (_ :: _) _ _ _ _ _); refine DG.ew (cptr_of (hE) (by (conv => lhs; whnf) <;> exact rfl)) (k := ?_)))
      (repeat (first | ((with_reducible show RG _ _ (_ :: _) _ _ _); refine RG.go1 (k := ?_)) | ((with_reducible show DG _ _ (_ :: _) _ _ _ _ _); refine DG.go1 (k := ?_)) | (with_reducible first | apply RG.nil | apply W.seq | apply W.reg | apply W.skip | apply W.block | apply W.drw | apply DG.nil | refine W.done (QB.n ?_))))
      (first | ((with_reducible show RG _ _ (_ :: _) _ _ _); refine RG.ew (cptr_of (hE) (by (conv => lhs; whnf) <;> exact rfl)) (k := ?_)) | ((with_reducible show DG _ _ (_ :: _) _ _ _ _ _); refine DG.ew (cptr_of (hE) (by (conv => lhs; whnf) <;> exact rfl)) (k := ?_)))
      (repeat (first | ((with_reducible show RG _ _ (_ :: _) _ _ _); refine RG.go1 (k := ?_)) | ((with_reducible show DG _ _ (_ :: _) _ _ _ _ _); refine DG.go1 (k := ?_)) | (with_reducible first | apply RG.nil | apply W.seq | apply W.reg | apply W.skip | apply W.block | apply W.drw | apply DG.nil | refine W.done (QB.n ?_))))
      refine W.done (QL.n (⟨(xa + xn, i + 1), r1, by show i + 1 + gapI u (xa + xn) (h.l.drop (i + 1)) = i0; omega, by show 0 ≤ xa + xn; omega, by show xa + xn ≤ 4096; omega, by show i + 1 ≤ h.l.length; omega⟩) ?_ ?_)
      · exact Wk.rn ([0, 1] ) ( [])
      · dsimp only; omega
    · rw [if_neg hq] at r1 r2
      obtain rfl : g = e := r1.symm
      obtain rfl : i0 = i := by omega
      (repeat (first | ((with_reducible show RG _ _ (_ :: _) _ _ _); refine RG.go1 (k := ?_)) | ((with_reducible show DG _ _ (_ :: _) _ _ _ _ _); refine DG.go1 (k := ?_)) | (with_reducible first | apply RG.nil | apply W.seq | apply W.reg | apply W.skip | apply W.block | apply W.drw | apply DG.nil | refine W.done (QB.n ?_))))
      (first | ((with_reducible show RG _ _ (_ :: _) _ _ _); refine RG.ewg (cptr_of (hE) (by (conv => lhs; whnf) <;> exact rfl)) (k := ?_)) | ((with_reducible show DG _ _ (_ :: _) _ _ _ _ _); refine DG.ewg (cptr_of (hE) (by (conv => lhs; whnf) <;> exact rfl)) (k := ?_)))
      (repeat (first | ((with_reducible show RG _ _ (_ :: _) _ _ _); refine RG.go1 (k := ?_)) | ((with_reducible show DG _ _ (_ :: _) _ _ _ _ _); refine DG.go1 (k := ?_)) | (with_reducible first | apply RG.nil | apply W.seq | apply W.reg | apply W.skip | apply W.block | apply W.drw | apply DG.nil | refine W.done (QB.n ?_)) | refine W.cndT ?_ | refine W.cndF ?_))
      (refine W.exit ?_; (repeat (first | (with_reducible first | refine QL.x ?_ | refine QC.x ?_ | refine QB.x ?_) | (with_reducible refine QB.o (by decide) ?_))))
      by_cases q3 : g + u ≤ h.s.length
      · rw [if_pos q3]
        dsimp only
        (repeat (first | ((with_reducible show RG _ _ (_ :: _) _ _ _); refine RG.go1 (k := ?_)) | ((with_reducible show DG _ _ (_ :: _) _ _ _ _ _); refine DG.go1 (k := ?_)) | (with_reducible first | apply RG.nil | apply W.seq | apply W.reg | apply W.skip | apply W.block | apply W.drw | apply DG.nil | refine W.done (QB.n ?_)) | refine W.cndT ?_ | refine W.cndF ?_))
        (first | ((with_reducible show RG _ _ (_ :: _) _ _ _); refine RG.ca (co) (k := ?_)) | ((with_reducible show DG _ _ (_ :: _) _ _ _ _ _); refine DG.ca (co) (k := ?_)))
        (repeat (first | ((with_reducible show RG _ _ (_ :: _) _ _ _); refine RG.go1 (k := ?_)) | ((with_reducible show DG _ _ (_ :: _) _ _ _ _ _); refine DG.go1 (k := ?_)) | (with_reducible first | apply RG.nil | apply W.seq | apply W.reg | apply W.skip | apply W.block | apply W.drw | apply DG.nil | refine W.done (QB.n ?_)) | refine W.cndT ?_ | refine W.cndF ?_))
        (refine RG.mca ([]) ([1]) (ci) (k := ?_))
        (repeat (first | ((with_reducible show RG _ _ (_ :: _) _ _ _); refine RG.go1 (k := ?_)) | ((with_reducible show DG _ _ (_ :: _) _ _ _ _ _); refine DG.go1 (k := ?_)) | (with_reducible first | apply RG.nil | apply W.seq | apply W.reg | apply W.skip | apply W.block | apply W.drw | apply DG.nil | refine W.done (QB.n ?_)) | refine W.cndT ?_ | refine W.cndF ?_))
        (refine W.ret ?_; (repeat (with_reducible first | refine QB.r ?_ | refine QL.r ?_ | refine QC.r ?_)); refine QF.r ?_)
        (refine RetOk.wk (Wk.frz (b := 0) rfl rfl) ?_; dsimp only [setO])
        (refine RetOk.wk (Wk.frz (b := 2) rfl rfl) ?_; dsimp only [setO])
        (refine RetOk.wk (Wk.frz (b := 4) rfl rfl) ?_; refine RetOk.wk (Wk.box (b := 1) (cs' := [_, _, _]) rfl (by dsimp only [ClL]; (repeat' (first | exact True.intro | exact Cl.ice rfl rfl rfl (by first | assumption | decide | omega | (simp; (first | (all_goals fail) | fail)) | (simp <;> omega)) (by first | exact take_all _ | exact take_len (by first | (simp; (first | (all_goals fail) | fail)) | (simp <;> omega)) | exact rfl) | exact Cl.le (.refl _) | apply And.intro)); (first | (all_goals fail) | fail))) ?_; dsimp only [setO])
        exact RetOk.rs (vs := [_, _, _]) r_heap_Alloc []
      · rw [if_neg q3]
        dsimp only
        (repeat (first | ((with_reducible show RG _ _ (_ :: _) _ _ _); refine RG.go1 (k := ?_)) | ((with_reducible show DG _ _ (_ :: _) _ _ _ _ _); refine DG.go1 (k := ?_)) | (with_reducible first | apply RG.nil | apply W.seq | apply W.reg | apply W.skip | apply W.block | apply W.drw | apply DG.nil | refine W.done (QB.n ?_)) | refine W.cndT ?_ | refine W.cndF ?_))
        (first | ((with_reducible show RG _ _ (_ :: _) _ _ _); refine RG.ca (cc) (k := ?_)) | ((with_reducible show DG _ _ (_ :: _) _ _ _ _ _); refine DG.ca (cc) (k := ?_)))
        (repeat (first | ((with_reducible show RG _ _ (_ :: _) _ _ _); refine RG.go1 (k := ?_)) | ((with_reducible show DG _ _ (_ :: _) _ _ _ _ _); refine DG.go1 (k := ?_)) | (with_reducible first | apply RG.nil | apply W.seq | apply W.reg | apply W.skip | apply W.block | apply W.drw | apply DG.nil | refine W.done (QB.n ?_)) | refine W.cndT ?_ | refine W.cndF ?_))
        (refine W.ret ?_; (repeat (with_reducible first | refine QB.r ?_ | refine QL.r ?_ | refine QC.r ?_)); refine QF.r ?_)
        exact RetOk.rs (vs := [_, _, _]) r_heap_Alloc []
  · obtain rfl : i = h.l.length := by omega
    rw [List.drop_length] at r1 r2
    obtain rfl : g = e := r1.symm
    obtain rfl : h.l.length = i0 := r2
    (repeat (first | ((with_reducible show RG _ _ (_ :: _) _ _ _); refine RG.go1 (k := ?_)) | ((with_reducible show DG _ _ (_ :: _) _ _ _ _ _); refine DG.go1 (k := ?_)) | (with_reducible first | apply RG.nil | apply W.seq | apply W.reg | apply W.skip | apply W.block | apply W.drw | apply DG.nil | refine W.done (QB.n ?_)) | refine W.cndT ?_ | refine W.cndF ?_))
    (refine W.exit ?_; (repeat (first | (with_reducible first | refine QL.x ?_ | refine QC.x ?_ | refine QB.x ?_) | (with_reducible refine QB.o (by decide) ?_))))
    by_cases q3 : g + u ≤ h.s.length
    · rw [if_pos q3]
      dsimp only
      (repeat (first | ((with_reducible show RG _ _ (_ :: _) _ _ _); refine RG.go1 (k := ?_)) | ((with_reducible show DG _ _ (_ :: _) _ _ _ _ _); refine DG.go1 (k := ?_)) | (with_reducible first | apply RG.nil | apply W.seq | apply W.reg | apply W.skip | apply W.block | apply W.drw | apply DG.nil | refine W.done (QB.n ?_)) | refine W.cndT ?_ | refine W.cndF ?_))
      (first | ((with_reducible show RG _ _ (_ :: _) _ _ _); refine RG.ca (co) (k := ?_)) | ((with_reducible show DG _ _ (_ :: _) _ _ _ _ _); refine DG.ca (co) (k := ?_)))
      (repeat (first | ((with_reducible show RG _ _ (_ :: _) _ _ _); refine RG.go1 (k := ?_)) | ((with_reducible show DG _ _ (_ :: _) _ _ _ _ _); refine DG.go1 (k := ?_)) | (with_reducible first | apply RG.nil | apply W.seq | apply W.reg | apply W.skip | apply W.block | apply W.drw | apply DG.nil | refine W.done (QB.n ?_)) | refine W.cndT ?_ | refine W.cndF ?_))
      (refine RG.mca ([]) ([1]) (ci) (k := ?_))
      (repeat (first | ((with_reducible show RG _ _ (_ :: _) _ _ _); refine RG.go1 (k := ?_)) | ((with_reducible show DG _ _ (_ :: _) _ _ _ _ _); refine DG.go1 (k := ?_)) | (with_reducible first | apply RG.nil | apply W.seq | apply W.reg | apply W.skip | apply W.block | apply W.drw | apply DG.nil | refine W.done (QB.n ?_)) | refine W.cndT ?_ | refine W.cndF ?_))
      (refine W.ret ?_; (repeat (with_reducible first | refine QB.r ?_ | refine QL.r ?_ | refine QC.r ?_)); refine QF.r ?_)
      (refine RetOk.wk (Wk.frz (b := 0) rfl rfl) ?_; dsimp only [setO])
      (refine RetOk.wk (Wk.frz (b := 2) rfl rfl) ?_; dsimp only [setO])
      (refine RetOk.wk (Wk.frz (b := 4) rfl rfl) ?_; refine RetOk.wk (Wk.box (b := 1) (cs' := [_, _, _]) rfl (by dsimp only [ClL]; (repeat' (first | exact True.intro | exact Cl.ice rfl rfl rfl (by first | assumption | decide | omega | (simp; (first | (all_goals fail) | fail)) | (simp <;> omega)) (by first | exact take_all _ | exact take_len (by first | (simp; (first | (all_goals fail) | fail)) | (simp <;> omega)) | exact rfl) | exact Cl.le (.refl _) | apply And.intro)); (first | (all_goals fail) | fail))) ?_; dsimp only [setO])
      exact RetOk.rs (vs := [_, _, _]) r_heap_Alloc []
    · rw [if_neg q3]
      dsimp only
      (repeat (first | ((with_reducible show RG _ _ (_ :: _) _ _ _); refine RG.go1 (k := ?_)) | ((with_reducible show DG _ _ (_ :: _) _ _ _ _ _); refine DG.go1 (k := ?_)) | (with_reducible first | apply RG.nil | apply W.seq | apply W.reg | apply W.skip | apply W.block | apply W.drw | apply DG.nil | refine W.done (QB.n ?_)) | refine W.cndT ?_ | refine W.cndF ?_))
      (first | ((with_reducible show RG _ _ (_ :: _) _ _ _); refine RG.ca (cc) (k := ?_)) | ((with_reducible show DG _ _ (_ :: _) _ _ _ _ _); refine DG.ca (cc) (k := ?_)))
      (repeat (first | ((with_reducible show RG _ _ (_ :: _) _ _ _); refine RG.go1 (k := ?_)) | ((with_reducible show DG _ _ (_ :: _) _ _ _ _ _); refine DG.go1 (k := ?_)) | (with_reducible first | apply RG.nil | apply W.seq | apply W.reg | apply W.skip | apply W.block | apply W.drw | apply DG.nil | refine W.done (QB.n ?_)) | refine W.cndT ?_ | refine W.cndF ?_))
      (refine W.ret ?_; (repeat (with_reducible first | refine QB.r ?_ | refine QL.r ?_ | refine QC.r ?_)); refine QF.r ?_)
      exact RetOk.rs (vs := [_, _, _]) r_heap_Alloc []
theorem hInsideC_ok {h : Hp} {m : Nat} (k : h.Ok m) (a n : Int) (ha : 0 ≤ a ∧ a ≤ 9223372036854775807) : ACall Try.prog 26 [hv true h, .int .i64 a, .int .i64 n] (.bool (h.l.any (insB a n))) [] := hInside_ok h k.few (by decide) k.bok a n ha
theorem insB_neg {h : Hp} {m : Nat} (k : h.Ok m) {a n : Int} (ha : a < 0) : h.l.any (insB a n) = false := by
  rw [List.any_eq_false]
  intro x hx
  have := k.bok x hx
  unfold insB
  have : ¬ x.at_ ≤ a := by have := this.1; omega
  rw [decide_eq_false this]; simp
theorem putS_by8 (s v : List UInt8) (a : Nat) : (putS s a v).map by8 = (s.map by8).take a ++ ((v.map by8) ++ (s.map by8).drop (a + v.length)) := by
  unfold putS; simp
theorem hStoreC_ok {h : Hp} {m : Nat} (k : h.Ok m) (a : Int) (ha : a ≤ 9223372036854775807) (v : List UInt8) (hv1 : v.length ≤ 100000) : ACall Try.prog 13 [hv true h, .int .i64 a, .sl true 1 (v.map by8)] (.tup [hv false (hStore h a v).1, .int .i64 (hStore h a v).2]) [] := by
  obtain ⟨l1, l2, l3⟩ := k.lens
  have cc := hCloneF_ok h k.few
  have co := hClone_ok h k.few
  have es := by8_len h.s
  have ev := by8_len v
  have el := bk_len h.l
  have ed := bo_len h.d
  unfold hStore
  by_cases q1 : a < 0
  · rw [insB_neg k q1]
    unfold hv at cc ⊢
    rw [if_neg (by decide)]
    dsimp only
    refine acall_walk (N := 35) Try.func13 (by kernel_rfl) p_heap_Store rfl ?_; unfold c_heap_Store; dsimp only [enum, Nat.reduceAdd]
    (repeat (first | ((with_reducible show RG _ _ (_ :: _) _ _ _); refine RG.go1 (k := ?_)) | ((with_reducible show DG _ _ (_ :: _) _ _ _ _ _); refine DG.go1 (k := ?_)) | (with_reducible first | apply RG.nil | apply W.seq | apply W.reg | apply W.skip | apply W.block | apply W.drw | apply DG.nil | refine W.done (QB.n ?_)) | refine W.cndT ?_ | refine W.cndF ?_))
    (first | ((with_reducible show RG _ _ (_ :: _) _ _ _); refine RG.ca (cc) (k := ?_)) | ((with_reducible show DG _ _ (_ :: _) _ _ _ _ _); refine DG.ca (cc) (k := ?_)))
    (repeat (first | ((with_reducible show RG _ _ (_ :: _) _ _ _); refine RG.go1 (k := ?_)) | ((with_reducible show DG _ _ (_ :: _) _ _ _ _ _); refine DG.go1 (k := ?_)) | (with_reducible first | apply RG.nil | apply W.seq | apply W.reg | apply W.skip | apply W.block | apply W.drw | apply DG.nil | refine W.done (QB.n ?_)) | refine W.cndT ?_ | refine W.cndF ?_))
    (refine W.ret ?_; (repeat (with_reducible first | refine QB.r ?_ | refine QL.r ?_ | refine QC.r ?_)); refine QF.r ?_)
    exact RetOk.rs (vs := [_, _]) r_heap_Store []
  have ci := hInsideC_ok k a v.length ⟨by omega, ha⟩
  have hb := @insB_bd h m k a v.length
  cases hq : h.l.any (insB a v.length)
  · rw [hq] at ci
    unfold hv at cc ci ⊢
    rw [if_neg (by decide)]
    dsimp only
    refine acall_walk (N := 35) Try.func13 (by kernel_rfl) p_heap_Store rfl ?_; unfold c_heap_Store; dsimp only [enum, Nat.reduceAdd]
    (repeat (first | ((with_reducible show RG _ _ (_ :: _) _ _ _); refine RG.go1 (k := ?_)) | ((with_reducible show DG _ _ (_ :: _) _ _ _ _ _); refine DG.go1 (k := ?_)) | (with_reducible first | apply RG.nil | apply W.seq | apply W.reg | apply W.skip | apply W.block | apply W.drw | apply DG.nil | refine W.done (QB.n ?_)) | refine W.cndT ?_ | refine W.cndF ?_))
    rw [ev]
    (first | ((with_reducible show RG _ _ (_ :: _) _ _ _); refine RG.gca (fun _ => ci) (k := ?_)) | ((with_reducible show DG _ _ (_ :: _) _ _ _ _ _); refine DG.gca (fun _ => ci) (k := ?_)))
    (repeat (first | ((with_reducible show RG _ _ (_ :: _) _ _ _); refine RG.go1 (k := ?_)) | ((with_reducible show DG _ _ (_ :: _) _ _ _ _ _); refine DG.go1 (k := ?_)) | (with_reducible first | apply RG.nil | apply W.seq | apply W.reg | apply W.skip | apply W.block | apply W.drw | apply DG.nil | refine W.done (QB.n ?_)) | refine W.cndT ?_ | refine W.cndF ?_))
    (first | ((with_reducible show RG _ _ (_ :: _) _ _ _); refine RG.ca (cc) (k := ?_)) | ((with_reducible show DG _ _ (_ :: _) _ _ _ _ _); refine DG.ca (cc) (k := ?_)))
    (repeat (first | ((with_reducible show RG _ _ (_ :: _) _ _ _); refine RG.go1 (k := ?_)) | ((with_reducible show DG _ _ (_ :: _) _ _ _ _ _); refine DG.go1 (k := ?_)) | (with_reducible first | apply RG.nil | apply W.seq | apply W.reg | apply W.skip | apply W.block | apply W.drw | apply DG.nil | refine W.done (QB.n ?_)) | refine W.cndT ?_ | refine W.cndF ?_))
    (refine W.ret ?_; (repeat (with_reducible first | refine QB.r ?_ | refine QL.r ?_ | refine QC.r ?_)); refine QF.r ?_)
    exact RetOk.rs (vs := [_, _]) r_heap_Store []
  · rw [hq] at ci
    obtain ⟨b1, b2⟩ := hb hq
    have km := k.m2
    have hsm := k.s
    have hdm := k.d
    obtain ⟨b, rfl⟩ : ∃ b : Nat, a = b := ⟨a.toNat, by omega⟩
    have cm := hMark_ok (putS h.s b v) h.l h.d (by omega) b v.length ⟨by omega, by omega⟩ ⟨by omega, by omega⟩
    have hcp : (h.s.map by8).take b ++ ((v.map by8).take (h.s.length - b) ++ (h.s.map by8).drop (b + v.length)) = (putS h.s b v).map by8 := by rw [putS_by8, List.take_of_length_le (l := v.map by8) (by rw [ev]; omega)]
    have hpl := @putS_len h.s b v (by omega)
    unfold hv hPut at *
    rw [if_pos rfl]
    dsimp only
    rw [show ((b : Nat) : Int).toNat = b by omega]
    have hml := markP_len h.d b v.length
    obtain ⟨s2, hs2⟩ : ∃ s2, putS h.s b v = s2 := ⟨_, rfl⟩
    obtain ⟨d2, hd2⟩ : ∃ d2, markP h.d b v.length = d2 := ⟨_, rfl⟩
    rw [hs2] at cm hcp hpl ⊢
    rw [hd2] at cm hml ⊢
    clear hb hq hs2 hd2
    refine acall_walk (N := 35) Try.func13 (by kernel_rfl) p_heap_Store rfl ?_; unfold c_heap_Store; dsimp only [enum, Nat.reduceAdd]
    (repeat (first | ((with_reducible show RG _ _ (_ :: _) _ _ _); refine RG.go1 (k := ?_)) | ((with_reducible show DG _ _ (_ :: _) _ _ _ _ _); refine DG.go1 (k := ?_)) | (with_reducible first | apply RG.nil | apply W.seq | apply W.reg | apply W.skip | apply W.block | apply W.drw | apply DG.nil | refine W.done (QB.n ?_)) | refine W.cndT ?_ | refine W.cndF ?_))
    rw [ev]
    (first | ((with_reducible show RG _ _ (_ :: _) _ _ _); refine RG.gca (fun _ => ci) (k := ?_)) | ((with_reducible show DG _ _ (_ :: _) _ _ _ _ _); refine DG.gca (fun _ => ci) (k := ?_)))
    (repeat (first | ((with_reducible show RG _ _ (_ :: _) _ _ _); refine RG.go1 (k := ?_)) | ((with_reducible show DG _ _ (_ :: _) _ _ _ _ _); refine DG.go1 (k := ?_)) | (with_reducible first | apply RG.nil | apply W.seq | apply W.reg | apply W.skip | apply W.block | apply W.drw | apply DG.nil | refine W.done (QB.n ?_)) | refine W.cndT ?_ | refine W.cndF ?_))
    (first | ((with_reducible show RG _ _ (_ :: _) _ _ _); refine RG.ca (co) (k := ?_)) | ((with_reducible show DG _ _ (_ :: _) _ _ _ _ _); refine DG.ca (co) (k := ?_)))
    (repeat (first | ((with_reducible show RG _ _ (_ :: _) _ _ _); refine RG.go1 (k := ?_)) | ((with_reducible show DG _ _ (_ :: _) _ _ _ _ _); refine DG.go1 (k := ?_)) | (with_reducible first | apply RG.nil | apply W.seq | apply W.reg | apply W.skip | apply W.block | apply W.drw | apply DG.nil | refine W.done (QB.n ?_)) | refine W.cndT ?_ | refine W.cndF ?_))
    (first | ((with_reducible show RG _ _ (_ :: _) _ _ _); refine RG.ew ((show AV.ref 0 1 (0 + (b : Int).toNat) ((h.s.length : Int) - (b : Int)).toNat = AV.ref 0 1 b (h.s.length - b) by congr 1 <;> omega)) (k := ?_)) | ((with_reducible show DG _ _ (_ :: _) _ _ _ _ _); refine DG.ew ((show AV.ref 0 1 (0 + (b : Int).toNat) ((h.s.length : Int) - (b : Int)).toNat = AV.ref 0 1 b (h.s.length - b) by congr 1 <;> omega)) (k := ?_)))
    (repeat (first | ((with_reducible show RG _ _ (_ :: _) _ _ _); refine RG.go1 (k := ?_)) | ((with_reducible show DG _ _ (_ :: _) _ _ _ _ _); refine DG.go1 (k := ?_)) | (with_reducible first | apply RG.nil | apply W.seq | apply W.reg | apply W.skip | apply W.block | apply W.drw | apply DG.nil | refine W.done (QB.n ?_))))
    refine RG.sm (A.cpy (m := v.length) hcp) (k := ?_)
    (repeat (first | ((with_reducible show RG _ _ (_ :: _) _ _ _); refine RG.go1 (k := ?_)) | ((with_reducible show DG _ _ (_ :: _) _ _ _ _ _); refine DG.go1 (k := ?_)) | (with_reducible first | apply RG.nil | apply W.seq | apply W.reg | apply W.skip | apply W.block | apply W.drw | apply DG.nil | refine W.done (QB.n ?_))))
    rw [ev]
    (refine RG.mca ([]) ([2]) (cm) (k := ?_))
    (repeat (first | ((with_reducible show RG _ _ (_ :: _) _ _ _); refine RG.go1 (k := ?_)) | ((with_reducible show DG _ _ (_ :: _) _ _ _ _ _); refine DG.go1 (k := ?_)) | (with_reducible first | apply RG.nil | apply W.seq | apply W.reg | apply W.skip | apply W.block | apply W.drw | apply DG.nil | refine W.done (QB.n ?_))))
    (refine W.ret ?_; (repeat (with_reducible first | refine QB.r ?_ | refine QL.r ?_ | refine QC.r ?_)); refine QF.r ?_)
    (refine RetOk.wk (Wk.frz (b := 0) rfl rfl) ?_; dsimp only [setO])
    (refine RetOk.wk (Wk.frz (b := 1) rfl rfl) ?_; dsimp only [setO])
    (refine RetOk.wk (Wk.frz (b := 2) rfl rfl) ?_; refine RetOk.wk (Wk.box (b := 1) (cs' := [_, _, _]) rfl (by dsimp only [ClL]; (repeat' (first | exact True.intro | exact Cl.ice rfl rfl rfl (by first | assumption | decide | omega | (simp; (first | (all_goals fail) | fail)) | (simp <;> omega)) (by first | exact take_all _ | exact take_len (by first | (simp; (first | (all_goals fail) | fail)) | (simp <;> omega)) | exact rfl) | exact Cl.le (.refl _) | apply And.intro)); (first | (all_goals fail) | fail))) ?_; dsimp only [setO])
    exact RetOk.rs (vs := [_, _]) r_heap_Store []
theorem hLoadC_ok {h : Hp} {m : Nat} (k : h.Ok m) (a n : Int) (ha : a ≤ 9223372036854775807) : ACall Try.prog 15 [hv true h, .int .i64 a, .int .i64 n] (.tup [.ref 0 1 0 (hLoad h a n).1.length, .int .i64 (hLoad h a n).2]) [⟨false, 1, (hLoad h a n).1.map by8⟩] := by
  obtain ⟨l1, l2, l3⟩ := k.lens
  have es := by8_len h.s
  unfold hLoad
  by_cases q0 : n < 0
  · rw [if_pos q0]
    unfold hv
    dsimp only [List.length_nil, List.map_nil]
    refine acall_walk (N := 29) Try.func15 (by kernel_rfl) p_heap_Load rfl ?_; unfold c_heap_Load; dsimp only [enum, Nat.reduceAdd]
    (repeat (first | ((with_reducible show RG _ _ (_ :: _) _ _ _); refine RG.go1 (k := ?_)) | ((with_reducible show DG _ _ (_ :: _) _ _ _ _ _); refine DG.go1 (k := ?_)) | (with_reducible first | apply RG.nil | apply W.seq | apply W.reg | apply W.skip | apply W.block | apply W.drw | apply DG.nil | refine W.done (QB.n ?_)) | refine W.cndT ?_ | refine W.cndF ?_))
    (refine W.ret ?_; (repeat (with_reducible first | refine QB.r ?_ | refine QL.r ?_ | refine QC.r ?_)); refine QF.r ?_)
    refine RetOk.wk (Wk.nilT (t := 6) 1 rfl) ?_
    exact RetOk.rs (vs := [_, _]) r_heap_Load [0]
  rw [if_neg q0]
  by_cases q1 : a < 0
  · rw [insB_neg k q1, if_neg (by decide)]
    unfold hv
    dsimp only [List.length_nil, List.map_nil]
    refine acall_walk (N := 29) Try.func15 (by kernel_rfl) p_heap_Load rfl ?_; unfold c_heap_Load; dsimp only [enum, Nat.reduceAdd]
    (repeat (first | ((with_reducible show RG _ _ (_ :: _) _ _ _); refine RG.go1 (k := ?_)) | ((with_reducible show DG _ _ (_ :: _) _ _ _ _ _); refine DG.go1 (k := ?_)) | (with_reducible first | apply RG.nil | apply W.seq | apply W.reg | apply W.skip | apply W.block | apply W.drw | apply DG.nil | refine W.done (QB.n ?_)) | refine W.cndT ?_ | refine W.cndF ?_))
    (refine W.ret ?_; (repeat (with_reducible first | refine QB.r ?_ | refine QL.r ?_ | refine QC.r ?_)); refine QF.r ?_)
    refine RetOk.wk (Wk.nilT (t := 6) 1 rfl) ?_
    exact RetOk.rs (vs := [_, _]) r_heap_Load [0]
  have ci := hInsideC_ok k a n ⟨by omega, ha⟩
  have hb := @insB_bd h m k a n
  cases hq : h.l.any (insB a n)
  · rw [hq] at ci
    rw [if_neg (by decide)]
    unfold hv at ci ⊢
    dsimp only [List.length_nil, List.map_nil]
    refine acall_walk (N := 29) Try.func15 (by kernel_rfl) p_heap_Load rfl ?_; unfold c_heap_Load; dsimp only [enum, Nat.reduceAdd]
    (repeat (first | ((with_reducible show RG _ _ (_ :: _) _ _ _); refine RG.go1 (k := ?_)) | ((with_reducible show DG _ _ (_ :: _) _ _ _ _ _); refine DG.go1 (k := ?_)) | (with_reducible first | apply RG.nil | apply W.seq | apply W.reg | apply W.skip | apply W.block | apply W.drw | apply DG.nil | refine W.done (QB.n ?_)) | refine W.cndT ?_ | refine W.cndF ?_))
    (first | ((with_reducible show RG _ _ (_ :: _) _ _ _); refine RG.gca (fun _ => ci) (k := ?_)) | ((with_reducible show DG _ _ (_ :: _) _ _ _ _ _); refine DG.gca (fun _ => ci) (k := ?_)))
    (repeat (first | ((with_reducible show RG _ _ (_ :: _) _ _ _); refine RG.go1 (k := ?_)) | ((with_reducible show DG _ _ (_ :: _) _ _ _ _ _); refine DG.go1 (k := ?_)) | (with_reducible first | apply RG.nil | apply W.seq | apply W.reg | apply W.skip | apply W.block | apply W.drw | apply DG.nil | refine W.done (QB.n ?_)) | refine W.cndT ?_ | refine W.cndF ?_))
    (refine W.ret ?_; (repeat (with_reducible first | refine QB.r ?_ | refine QL.r ?_ | refine QC.r ?_)); refine QF.r ?_)
    refine RetOk.wk (Wk.nilT (t := 6) 1 rfl) ?_
    exact RetOk.rs (vs := [_, _]) r_heap_Load [0]
  · rw [hq] at ci
    obtain ⟨b1, b2⟩ := hb hq
    have km := k.m2
    have hsm := k.s
    obtain ⟨b, rfl⟩ : ∃ b : Nat, a = b := ⟨a.toNat, by omega⟩
    obtain ⟨w, rfl⟩ : ∃ w : Nat, n = w := ⟨n.toNat, by omega⟩
    rw [if_pos rfl]
    unfold hv at ci ⊢
    dsimp only
    rw [show ((b : Nat) : Int).toNat = b by omega, show ((w : Nat) : Int).toNat = w by omega]
    obtain ⟨r, hr⟩ : ∃ r, (h.s.drop b).take w = r := ⟨_, rfl⟩
    have hrl : r.length = w := by rw [← hr]; simp; omega
    have hrb : ((h.s.map by8).take ((b : Int) + (w : Int)).toNat).drop (b : Int).toNat = r.map by8 := by
      rw [show ((b : Int) + (w : Int)).toNat = b + w by omega, show (b : Int).toNat = b by omega]
      rw [← hr, List.drop_take, Nat.add_sub_cancel_left, ← List.map_drop, ← List.map_take]
    have cy := ybClone_ok r (by omega)
    rw [hr]
    clear hb hq hr
    refine acall_walk (N := 29) Try.func15 (by kernel_rfl) p_heap_Load rfl ?_; unfold c_heap_Load; dsimp only [enum, Nat.reduceAdd]
    (repeat (first | ((with_reducible show RG _ _ (_ :: _) _ _ _); refine RG.go1 (k := ?_)) | ((with_reducible show DG _ _ (_ :: _) _ _ _ _ _); refine DG.go1 (k := ?_)) | (with_reducible first | apply RG.nil | apply W.seq | apply W.reg | apply W.skip | apply W.block | apply W.drw | apply DG.nil | refine W.done (QB.n ?_)) | refine W.cndT ?_ | refine W.cndF ?_))
    (first | ((with_reducible show RG _ _ (_ :: _) _ _ _); refine RG.gca (fun _ => ci) (k := ?_)) | ((with_reducible show DG _ _ (_ :: _) _ _ _ _ _); refine DG.gca (fun _ => ci) (k := ?_)))
    (repeat (first | ((with_reducible show RG _ _ (_ :: _) _ _ _); refine RG.go1 (k := ?_)) | ((with_reducible show DG _ _ (_ :: _) _ _ _ _ _); refine DG.go1 (k := ?_)) | (with_reducible first | apply RG.nil | apply W.seq | apply W.reg | apply W.skip | apply W.block | apply W.drw | apply DG.nil | refine W.done (QB.n ?_)) | refine W.cndT ?_ | refine W.cndF ?_))
    (first | ((with_reducible show RG _ _ (_ :: _) _ _ _); refine RG.ew (sl_of (hrb)) (k := ?_)) | ((with_reducible show DG _ _ (_ :: _) _ _ _ _ _); refine DG.ew (sl_of (hrb)) (k := ?_)))
    (repeat (first | ((with_reducible show RG _ _ (_ :: _) _ _ _); refine RG.go1 (k := ?_)) | ((with_reducible show DG _ _ (_ :: _) _ _ _ _ _); refine DG.go1 (k := ?_)) | (with_reducible first | apply RG.nil | apply W.seq | apply W.reg | apply W.skip | apply W.block | apply W.drw | apply DG.nil | refine W.done (QB.n ?_))))
    (first | ((with_reducible show RG _ _ (_ :: _) _ _ _); refine RG.ca (cy) (k := ?_)) | ((with_reducible show DG _ _ (_ :: _) _ _ _ _ _); refine DG.ca (cy) (k := ?_)))
    (repeat (first | ((with_reducible show RG _ _ (_ :: _) _ _ _); refine RG.go1 (k := ?_)) | ((with_reducible show DG _ _ (_ :: _) _ _ _ _ _); refine DG.go1 (k := ?_)) | (with_reducible first | apply RG.nil | apply W.seq | apply W.reg | apply W.skip | apply W.block | apply W.drw | apply DG.nil | refine W.done (QB.n ?_))))
    (refine W.ret ?_; (repeat (with_reducible first | refine QB.r ?_ | refine QL.r ?_ | refine QC.r ?_)); refine QF.r ?_)
    exact RetOk.rs (vs := [_, _]) r_heap_Load [0]
theorem hFreeC_ok {h : Hp} {m : Nat} (k : h.Ok m) (a : Int) : ACall Try.prog 14 [hv true h, .int .i64 a] (.tup [hv false (hFree h a).1, .int .i64 (hFree h a).2]) [] := by
  obtain ⟨l1, l2, l3⟩ := k.lens
  have cc := hCloneF_ok h k.few
  have co := hClone_ok h k.few
  have es := by8_len h.s
  have el := bk_len h.l
  have ed := bo_len h.d
  have ci := hFind_ok h k.few a
  unfold hfind at ci
  rw [show (fun x : Blk => decide (x.at_ = a)) = atP a from rfl] at ci
  unfold hFree
  cases hq : h.l.any (atP a)
  · rw [hq, if_neg (by decide)] at ci
    rw [if_neg (by decide)]
    unfold hv at cc ci ⊢
    dsimp only
    refine acall_walk (N := 47) Try.func14 (by kernel_rfl) p_heap_Free rfl ?_; unfold c_heap_Free; dsimp only [enum, Nat.reduceAdd]
    (repeat (first | ((with_reducible show RG _ _ (_ :: _) _ _ _); refine RG.go1 (k := ?_)) | ((with_reducible show DG _ _ (_ :: _) _ _ _ _ _); refine DG.go1 (k := ?_)) | (with_reducible first | apply RG.nil | apply W.seq | apply W.reg | apply W.skip | apply W.block | apply W.drw | apply DG.nil | refine W.done (QB.n ?_)) | refine W.cndT ?_ | refine W.cndF ?_))
    (first | ((with_reducible show RG _ _ (_ :: _) _ _ _); refine RG.ca (ci) (k := ?_)) | ((with_reducible show DG _ _ (_ :: _) _ _ _ _ _); refine DG.ca (ci) (k := ?_)))
    (repeat (first | ((with_reducible show RG _ _ (_ :: _) _ _ _); refine RG.go1 (k := ?_)) | ((with_reducible show DG _ _ (_ :: _) _ _ _ _ _); refine DG.go1 (k := ?_)) | (with_reducible first | apply RG.nil | apply W.seq | apply W.reg | apply W.skip | apply W.block | apply W.drw | apply DG.nil | refine W.done (QB.n ?_)) | refine W.cndT ?_ | refine W.cndF ?_))
    (first | ((with_reducible show RG _ _ (_ :: _) _ _ _); refine RG.ca (cc) (k := ?_)) | ((with_reducible show DG _ _ (_ :: _) _ _ _ _ _); refine DG.ca (cc) (k := ?_)))
    (repeat (first | ((with_reducible show RG _ _ (_ :: _) _ _ _); refine RG.go1 (k := ?_)) | ((with_reducible show DG _ _ (_ :: _) _ _ _ _ _); refine DG.go1 (k := ?_)) | (with_reducible first | apply RG.nil | apply W.seq | apply W.reg | apply W.skip | apply W.block | apply W.drw | apply DG.nil | refine W.done (QB.n ?_)) | refine W.cndT ?_ | refine W.cndF ?_))
    (refine W.ret ?_; (repeat (with_reducible first | refine QB.r ?_ | refine QL.r ?_ | refine QC.r ?_)); refine QF.r ?_)
    exact RetOk.rs (vs := [_, _]) r_heap_Free []
  · rw [hq, if_pos rfl] at ci
    rw [if_pos rfl]
    obtain ⟨i, hid, hi, g1, g2⟩ : ∃ i, h.l.findIdx (atP a) = i ∧ ∃ hi : i < h.l.length, (h.l[i]).at_ = a ∧ h.l[i]?.getD ⟨0, 0⟩ = h.l[i] := by
      obtain ⟨hi, g1, g2⟩ := atP_idx hq
      exact ⟨_, rfl, hi, g1, g2⟩
    obtain ⟨_, k1, k2, k3, k4, k5⟩ := k.l.mem (Int.le_refl _) _ (List.getElem_mem hi)
    rw [hid] at ci ⊢
    rw [g2]
    have hE := bk_at h.l i hi (j := i) rfl
    rw [g1] at k1 k2 k5 hE
    obtain ⟨xn, hxn⟩ : ∃ xn, (h.l[i]).ln = xn := ⟨_, rfl⟩
    rw [hxn] at k3 k4 k5 hE ⊢
    obtain ⟨b, rfl⟩ : ∃ b : Nat, a = b := ⟨a.toNat, by omega⟩
    obtain ⟨w, rfl⟩ : ∃ w : Nat, xn = w := ⟨xn.toNat, by omega⟩
    have km := k.m2
    have hsm := k.s
    have hdm := k.d
    have cd := bkDel1_ok h.l (by omega) i hi
    unfold hPut
    dsimp only
    rw [List.length_replicate]
    rw [show ((b : Nat) : Int).toNat = b by omega, show ((w : Nat) : Int).toNat = w by omega]
    have hcl : (h.s.map by8).take b ++ (List.replicate w (.int .u8 0) ++ (h.s.map by8).drop (b + w)) = (putS h.s b (List.replicate w 0)).map by8 := by
      rw [putS_by8, List.length_replicate, List.map_replicate]; rfl
    have hpl := @putS_len h.s b (List.replicate w 0) (by rw [List.length_replicate]; omega)
    have hel : (h.l.eraseIdx i).length = h.l.length - 1 := List.length_eraseIdx_of_lt hi
    have hml := markP_len h.d b w
    obtain ⟨s2, hs2⟩ : ∃ s2, putS h.s b (List.replicate w 0) = s2 := ⟨_, rfl⟩
    obtain ⟨l2', hl2⟩ : ∃ l2, h.l.eraseIdx i = l2 := ⟨_, rfl⟩
    have cm := hMark_ok s2 l2' h.d (by omega) b w ⟨by omega, by omega⟩ ⟨by omega, by omega⟩
    obtain ⟨d2, hd2⟩ : ∃ d2, markP h.d b w = d2 := ⟨_, rfl⟩
    rw [hs2] at hcl hpl ⊢
    rw [hl2] at cd hel ⊢
    rw [hd2] at cm hml ⊢
    unfold hv at cc co ci ⊢
    dsimp only
    clear hq hs2 hl2 hd2 g2 hid hxn
    refine acall_walk (N := 47) Try.func14 (by kernel_rfl) p_heap_Free rfl ?_; unfold c_heap_Free; dsimp only [enum, Nat.reduceAdd]
    (repeat (first | ((with_reducible show RG _ _ (_ :: _) _ _ _); refine RG.go1 (k := ?_)) | ((with_reducible show DG _ _ (_ :: _) _ _ _ _ _); refine DG.go1 (k := ?_)) | (with_reducible first | apply RG.nil | apply W.seq | apply W.reg | apply W.skip | apply W.block | apply W.drw | apply DG.nil | refine W.done (QB.n ?_)) | refine W.cndT ?_ | refine W.cndF ?_))
    (first | ((with_reducible show RG _ _ (_ :: _) _ _ _); refine RG.ca (ci) (k := ?_)) | ((with_reducible show DG _ _ (_ :: _) _ _ _ _ _); refine DG.ca (ci) (k := ?_)))
    (repeat (first | ((with_reducible show RG _ _ (_ :: _) _ _ _); refine RG.go1 (k := ?_)) | ((with_reducible show DG _ _ (_ :: _) _ _ _ _ _); refine DG.go1 (k := ?_)) | (with_reducible first | apply RG.nil | apply W.seq | apply W.reg | apply W.skip | apply W.block | apply W.drw | apply DG.nil | refine W.done (QB.n ?_)) | refine W.cndT ?_ | refine W.cndF ?_))
    (first | ((with_reducible show RG _ _ (_ :: _) _ _ _); refine RG.ca (co) (k := ?_)) | ((with_reducible show DG _ _ (_ :: _) _ _ _ _ _); refine DG.ca (co) (k := ?_)))
    (repeat (first | ((with_reducible show RG _ _ (_ :: _) _ _ _); refine RG.go1 (k := ?_)) | ((with_reducible show DG _ _ (_ :: _) _ _ _ _ _); refine DG.go1 (k := ?_)) | (with_reducible first | apply RG.nil | apply W.seq | apply W.reg | apply W.skip | apply W.block | apply W.drw | apply DG.nil | refine W.done (QB.n ?_)) | refine W.cndT ?_ | refine W.cndF ?_))
    (first | ((with_reducible show RG _ _ (_ :: _) _ _ _); refine RG.ew (ix_of ((show 0 + ((i : Nat) : Int).toNat = i by omega))) (k := ?_)) | ((with_reducible show DG _ _ (_ :: _) _ _ _ _ _); refine DG.ew (ix_of ((show 0 + ((i : Nat) : Int).toNat = i by omega))) (k := ?_)))
    (repeat (first | ((with_reducible show RG _ _ (_ :: _) _ _ _); refine RG.go1 (k := ?_)) | ((with_reducible show DG _ _ (_ :: _) _ _ _ _ _); refine DG.go1 (k := ?_)) | (with_reducible first | apply RG.nil | apply W.seq | apply W.reg | apply W.skip | apply W.block | apply W.drw | apply DG.nil | refine W.done (QB.n ?_))))
    (first | ((with_reducible show RG _ _ (_ :: _) _ _ _); refine RG.sm (A.ldr (hE)) (k := ?_)) | ((with_reducible show DG _ _ (_ :: _) _ _ _ _ _); refine DG.sm (A.ldr (hE)) (k := ?_)))
    (repeat (first | ((with_reducible show RG _ _ (_ :: _) _ _ _); refine RG.go1 (k := ?_)) | ((with_reducible show DG _ _ (_ :: _) _ _ _ _ _); refine DG.go1 (k := ?_)) | (with_reducible first | apply RG.nil | apply W.seq | apply W.reg | apply W.skip | apply W.block | apply W.drw | apply DG.nil | refine W.done (QB.n ?_))))
    (refine RG.mca ([]) ([1]) (cd) (k := ?_))
    (repeat (first | ((with_reducible show RG _ _ (_ :: _) _ _ _); refine RG.go1 (k := ?_)) | ((with_reducible show DG _ _ (_ :: _) _ _ _ _ _); refine DG.go1 (k := ?_)) | (with_reducible first | apply RG.nil | apply W.seq | apply W.reg | apply W.skip | apply W.block | apply W.drw | apply DG.nil | refine W.done (QB.n ?_))))
    (first | ((with_reducible show RG _ _ (_ :: _) _ _ _); refine RG.ew ((show AV.ref 0 1 (0 + (b : Int).toNat) ((b : Int) + (w : Int) - (b : Int)).toNat = AV.ref 0 1 b w by congr 1 <;> omega)) (k := ?_)) | ((with_reducible show DG _ _ (_ :: _) _ _ _ _ _); refine DG.ew ((show AV.ref 0 1 (0 + (b : Int).toNat) ((b : Int) + (w : Int) - (b : Int)).toNat = AV.ref 0 1 b w by congr 1 <;> omega)) (k := ?_)))
    (repeat (first | ((with_reducible show RG _ _ (_ :: _) _ _ _); refine RG.go1 (k := ?_)) | ((with_reducible show DG _ _ (_ :: _) _ _ _ _ _); refine DG.go1 (k := ?_)) | (with_reducible first | apply RG.nil | apply W.seq | apply W.reg | apply W.skip | apply W.block | apply W.drw | apply DG.nil | refine W.done (QB.n ?_))))
    (first | ((with_reducible show RG _ _ (_ :: _) _ _ _); refine RG.sn (A.clr (hcl)) (k := ?_)) | ((with_reducible show DG _ _ (_ :: _) _ _ _ _ _); refine DG.sn (A.clr (hcl)) (k := ?_)))
    (repeat (first | ((with_reducible show RG _ _ (_ :: _) _ _ _); refine RG.go1 (k := ?_)) | ((with_reducible show DG _ _ (_ :: _) _ _ _ _ _); refine DG.go1 (k := ?_)) | (with_reducible first | apply RG.nil | apply W.seq | apply W.reg | apply W.skip | apply W.block | apply W.drw | apply DG.nil | refine W.done (QB.n ?_))))
    (refine RG.mca ([]) ([2]) (cm) (k := ?_))
    (repeat (first | ((with_reducible show RG _ _ (_ :: _) _ _ _); refine RG.go1 (k := ?_)) | ((with_reducible show DG _ _ (_ :: _) _ _ _ _ _); refine DG.go1 (k := ?_)) | (with_reducible first | apply RG.nil | apply W.seq | apply W.reg | apply W.skip | apply W.block | apply W.drw | apply DG.nil | refine W.done (QB.n ?_))))
    (refine W.ret ?_; (repeat (with_reducible first | refine QB.r ?_ | refine QL.r ?_ | refine QC.r ?_)); refine QF.r ?_)
    (refine RetOk.wk (Wk.frz (b := 0) rfl rfl) ?_; dsimp only [setO])
    (refine RetOk.wk (Wk.frz (b := 1) rfl rfl) ?_; dsimp only [setO])
    (refine RetOk.wk (Wk.frz (b := 2) rfl rfl) ?_; refine RetOk.wk (Wk.box (b := 1) (cs' := [_, _, _]) rfl (by dsimp only [ClL]; (repeat' (first | exact True.intro | exact Cl.ice rfl rfl rfl (by first | assumption | decide | omega | (simp; (first | (all_goals fail) | fail)) | (simp <;> omega)) (by first | exact take_all _ | exact take_len (by first | (simp; (first | (all_goals fail) | fail)) | (simp <;> omega)) | exact rfl) | exact Cl.le (.refl _) | apply And.intro)); (first | (all_goals fail) | fail))) ?_; dsimp only [setO])
    exact RetOk.rs (vs := [_, _]) r_heap_Free []
theorem hTellC_ok {h : Hp} {m : Nat} (k : h.Ok m) (p : Int) : ACall Try.prog 20 [hv true h, .int .i64 p] (.tup [hv false (hTell h p).1, .sl false 1 ((hTell h p).2.1.map by8), .int .i64 (hTell h p).2.2]) [] := by
  obtain ⟨l1, l2, l3⟩ := k.lens
  have cc := hCloneF_ok h k.few
  have co := hClone_ok h k.few
  have es := by8_len h.s
  have el := bk_len h.l
  have ed := bo_len h.d
  have km := k.m2
  have hsm := k.s
  have hdm := k.d
  unfold hTell
  by_cases q1 : 0 ≤ p ∧ p < h.d.length
  · rw [if_pos q1]
    obtain ⟨q1, q2⟩ := q1
    obtain ⟨p', rfl⟩ : ∃ b : Nat, p = b := ⟨p.toNat, by omega⟩
    dsimp only
    rw [show ((p' : Nat) : Int).toNat = p' by omega]
    have hst : (h.d.map bo).set p' (.bool false) = (h.d.set p' false).map bo := by rw [List.map_set]; rfl
    have hdl : (h.d.set p' false).length = h.d.length := List.length_set ..
    obtain ⟨d2, hd2⟩ : ∃ d2, h.d.set p' false = d2 := ⟨_, rfl⟩
    rw [hd2] at hst hdl ⊢
    obtain ⟨r, hr⟩ : ∃ r, (h.s.drop (64 * p')).take 64 = r := ⟨_, rfl⟩
    have hrl : r.length = 64 := by rw [← hr]; simp; omega
    have hrb : ((h.s.map by8).drop (64 * p')).take 64 = r.map by8 := by rw [← hr, ← List.map_drop, ← List.map_take]
    have hrm := by8_len r
    have cy := ybClone_ok r (by omega)
    rw [hrl] at cy
    have cy2 : ACall Try.prog 30 [.sl true 1 (((h.s.map by8).drop (64 * p')).take 64)] (.ref 0 1 0 64) [⟨false, 1, r.map by8⟩] := by rw [hrb]; exact cy
    rw [hr]
    unfold hv at cc co ⊢
    dsimp only
    clear hd2 hr
    refine acall_walk (N := 35) Try.func20 (by kernel_rfl) p_heap_Tell rfl ?_; unfold c_heap_Tell; dsimp only [enum, Nat.reduceAdd]
    (repeat (first | ((with_reducible show RG _ _ (_ :: _) _ _ _); refine RG.go1 (k := ?_)) | ((with_reducible show DG _ _ (_ :: _) _ _ _ _ _); refine DG.go1 (k := ?_)) | (with_reducible first | apply RG.nil | apply W.seq | apply W.reg | apply W.skip | apply W.block | apply W.drw | apply DG.nil | refine W.done (QB.n ?_)) | refine W.cndT ?_ | refine W.cndF ?_))
    (first | ((with_reducible show RG _ _ (_ :: _) _ _ _); refine RG.ca (co) (k := ?_)) | ((with_reducible show DG _ _ (_ :: _) _ _ _ _ _); refine DG.ca (co) (k := ?_)))
    (repeat (first | ((with_reducible show RG _ _ (_ :: _) _ _ _); refine RG.go1 (k := ?_)) | ((with_reducible show DG _ _ (_ :: _) _ _ _ _ _); refine DG.go1 (k := ?_)) | (with_reducible first | apply RG.nil | apply W.seq | apply W.reg | apply W.skip | apply W.block | apply W.drw | apply DG.nil | refine W.done (QB.n ?_)) | refine W.cndT ?_ | refine W.cndF ?_))
    (first | ((with_reducible show RG _ _ (_ :: _) _ _ _); refine RG.ew (ix_of ((show 0 + ((p' : Nat) : Int).toNat = p' by omega))) (k := ?_)) | ((with_reducible show DG _ _ (_ :: _) _ _ _ _ _); refine DG.ew (ix_of ((show 0 + ((p' : Nat) : Int).toNat = p' by omega))) (k := ?_)))
    (repeat (first | ((with_reducible show RG _ _ (_ :: _) _ _ _); refine RG.go1 (k := ?_)) | ((with_reducible show DG _ _ (_ :: _) _ _ _ _ _); refine DG.go1 (k := ?_)) | (with_reducible first | apply RG.nil | apply W.seq | apply W.reg | apply W.skip | apply W.block | apply W.drw | apply DG.nil | refine W.done (QB.n ?_))))
    (first | ((with_reducible show RG _ _ (_ :: _) _ _ _); refine RG.sn (A.str (hst)) (k := ?_)) | ((with_reducible show DG _ _ (_ :: _) _ _ _ _ _); refine DG.sn (A.str (hst)) (k := ?_)))
    (repeat (first | ((with_reducible show RG _ _ (_ :: _) _ _ _); refine RG.go1 (k := ?_)) | ((with_reducible show DG _ _ (_ :: _) _ _ _ _ _); refine DG.go1 (k := ?_)) | (with_reducible first | apply RG.nil | apply W.seq | apply W.reg | apply W.skip | apply W.block | apply W.drw | apply DG.nil | refine W.done (QB.n ?_))))
    (first | ((with_reducible show RG _ _ (_ :: _) _ _ _); refine RG.ew ((show AV.ref 0 1 (0 + ((p' : Int) * 64).toNat) (((p' : Int) + 1) * 64 - ((p' : Int) * 64)).toNat = AV.ref 0 1 (64 * p') 64 by congr 1 <;> omega)) (k := ?_)) | ((with_reducible show DG _ _ (_ :: _) _ _ _ _ _); refine DG.ew ((show AV.ref 0 1 (0 + ((p' : Int) * 64).toNat) (((p' : Int) + 1) * 64 - ((p' : Int) * 64)).toNat = AV.ref 0 1 (64 * p') 64 by congr 1 <;> omega)) (k := ?_)))
    (repeat (first | ((with_reducible show RG _ _ (_ :: _) _ _ _); refine RG.go1 (k := ?_)) | ((with_reducible show DG _ _ (_ :: _) _ _ _ _ _); refine DG.go1 (k := ?_)) | (with_reducible first | apply RG.nil | apply W.seq | apply W.reg | apply W.skip | apply W.block | apply W.drw | apply DG.nil | refine W.done (QB.n ?_))))
    (first | ((with_reducible show RG _ _ (_ :: _) _ _ _); refine RG.ca (cy2) (k := ?_)) | ((with_reducible show DG _ _ (_ :: _) _ _ _ _ _); refine DG.ca (cy2) (k := ?_)))
    (repeat (first | ((with_reducible show RG _ _ (_ :: _) _ _ _); refine RG.go1 (k := ?_)) | ((with_reducible show DG _ _ (_ :: _) _ _ _ _ _); refine DG.go1 (k := ?_)) | (with_reducible first | apply RG.nil | apply W.seq | apply W.reg | apply W.skip | apply W.block | apply W.drw | apply DG.nil | refine W.done (QB.n ?_))))
    (refine W.ret ?_; (repeat (with_reducible first | refine QB.r ?_ | refine QL.r ?_ | refine QC.r ?_)); refine QF.r ?_)
    (refine RetOk.wk (Wk.frz (b := 0) rfl rfl) ?_; dsimp only [setO])
    (refine RetOk.wk (Wk.frz (b := 1) rfl rfl) ?_; dsimp only [setO])
    (refine RetOk.wk (Wk.frz (b := 2) rfl rfl) ?_; refine RetOk.wk (Wk.box (b := 1) (cs' := [_, _, _]) rfl (by dsimp only [ClL]; (repeat' (first | exact True.intro | exact Cl.ice rfl rfl rfl (by first | assumption | decide | omega | (simp; (first | (all_goals fail) | fail)) | (simp <;> omega)) (by first | exact take_all _ | exact take_len (by first | (simp; (first | (all_goals fail) | fail)) | (simp <;> omega)) | exact rfl) | exact Cl.le (.refl _) | apply And.intro)); (first | (all_goals fail) | fail))) ?_; dsimp only [setO])
    (refine RetOk.wk (Wk.frz (b := 3) rfl rfl) ?_; refine RetOk.wk (Wk.tmp (t := 5) (Cl.ice rfl rfl rfl (by first | assumption | decide | omega | (simp; (first | (all_goals fail) | fail)) | (simp <;> omega)) (by first | exact take_all _ | exact take_len (by first | (simp; (first | (all_goals fail) | fail)) | (simp <;> omega)) | exact rfl))) ?_; dsimp only [setO])
    exact RetOk.rs (vs := [_, _, _]) r_heap_Tell []
  · rw [if_neg q1]
    unfold hv at cc ⊢
    dsimp only [List.map_nil]
    rcases Int.lt_or_le p 0 with q2 | q2
    · clear q1
      refine acall_walk (N := 35) Try.func20 (by kernel_rfl) p_heap_Tell rfl ?_; unfold c_heap_Tell; dsimp only [enum, Nat.reduceAdd]
      (repeat (first | ((with_reducible show RG _ _ (_ :: _) _ _ _); refine RG.go1 (k := ?_)) | ((with_reducible show DG _ _ (_ :: _) _ _ _ _ _); refine DG.go1 (k := ?_)) | (with_reducible first | apply RG.nil | apply W.seq | apply W.reg | apply W.skip | apply W.block | apply W.drw | apply DG.nil | refine W.done (QB.n ?_)) | refine W.cndT ?_ | refine W.cndF ?_))
      (first | ((with_reducible show RG _ _ (_ :: _) _ _ _); refine RG.ca (cc) (k := ?_)) | ((with_reducible show DG _ _ (_ :: _) _ _ _ _ _); refine DG.ca (cc) (k := ?_)))
      (repeat (first | ((with_reducible show RG _ _ (_ :: _) _ _ _); refine RG.go1 (k := ?_)) | ((with_reducible show DG _ _ (_ :: _) _ _ _ _ _); refine DG.go1 (k := ?_)) | (with_reducible first | apply RG.nil | apply W.seq | apply W.reg | apply W.skip | apply W.block | apply W.drw | apply DG.nil | refine W.done (QB.n ?_)) | refine W.cndT ?_ | refine W.cndF ?_))
      (refine W.ret ?_; (repeat (with_reducible first | refine QB.r ?_ | refine QL.r ?_ | refine QC.r ?_)); refine QF.r ?_)
      exact RetOk.rs (vs := [_, _, _]) r_heap_Tell []
    · have q3 : (h.d.length : Int) ≤ p := by omega
      clear q1
      refine acall_walk (N := 35) Try.func20 (by kernel_rfl) p_heap_Tell rfl ?_; unfold c_heap_Tell; dsimp only [enum, Nat.reduceAdd]
      (repeat (first | ((with_reducible show RG _ _ (_ :: _) _ _ _); refine RG.go1 (k := ?_)) | ((with_reducible show DG _ _ (_ :: _) _ _ _ _ _); refine DG.go1 (k := ?_)) | (with_reducible first | apply RG.nil | apply W.seq | apply W.reg | apply W.skip | apply W.block | apply W.drw | apply DG.nil | refine W.done (QB.n ?_)) | refine W.cndT ?_ | refine W.cndF ?_))
      (first | ((with_reducible show RG _ _ (_ :: _) _ _ _); refine RG.ca (cc) (k := ?_)) | ((with_reducible show DG _ _ (_ :: _) _ _ _ _ _); refine DG.ca (cc) (k := ?_)))
      (repeat (first | ((with_reducible show RG _ _ (_ :: _) _ _ _); refine RG.go1 (k := ?_)) | ((with_reducible show DG _ _ (_ :: _) _ _ _ _ _); refine DG.go1 (k := ?_)) | (with_reducible first | apply RG.nil | apply W.seq | apply W.reg | apply W.skip | apply W.block | apply W.drw | apply DG.nil | refine W.done (QB.n ?_)) | refine W.cndT ?_ | refine W.cndF ?_))
      (refine W.ret ?_; (repeat (with_reducible first | refine QB.r ?_ | refine QL.r ?_ | refine QC.r ?_)); refine QF.r ?_)
      exact RetOk.rs (vs := [_, _, _]) r_heap_Tell []
theorem hHearC_ok {h : Hp} {m : Nat} (k : h.Ok m) (p : Int) (v : List UInt8) (hv1 : v.length ≤ 100000) : ACall Try.prog 21 [hv true h, .int .i64 p, .sl true 1 (v.map by8)] (.tup [hv false (hHear h p v).1, .int .i64 (hHear h p v).2]) [] := by
  obtain ⟨l1, l2, l3⟩ := k.lens
  have cc := hCloneF_ok h k.few
  have co := hClone_ok h k.few
  have es := by8_len h.s
  have ev := by8_len v
  have el := bk_len h.l
  have ed := bo_len h.d
  have km := k.m2
  have hsm := k.s
  have hdm := k.d
  unfold hHear
  by_cases q1 : 0 ≤ p ∧ p < h.d.length
  · rw [if_pos q1]
    obtain ⟨q1, q2⟩ := q1
    obtain ⟨p', rfl⟩ : ∃ b : Nat, p = b := ⟨p.toNat, by omega⟩
    by_cases q3 : v.length = 64
    · rw [if_pos q3]
      dsimp only
      rw [show ((p' : Nat) : Int).toNat = p' by omega]
      have hcp : (h.s.map by8).take (64 * p') ++ ((v.map by8).take (h.s.length - 64 * p') ++ (h.s.map by8).drop (64 * p' + 64)) = (putS h.s (64 * p') v).map by8 := by rw [putS_by8, q3, List.take_of_length_le (l := v.map by8) (by rw [ev]; omega)]
      have hpl := @putS_len h.s (64 * p') v (by omega)
      obtain ⟨s2, hs2⟩ : ∃ s2, putS h.s (64 * p') v = s2 := ⟨_, rfl⟩
      rw [hs2] at hcp hpl ⊢
      unfold hv at cc co ⊢
      dsimp only
      clear hs2
      refine acall_walk (N := 37) Try.func21 (by kernel_rfl) p_heap_Hear rfl ?_; unfold c_heap_Hear; dsimp only [enum, Nat.reduceAdd]
      (repeat (first | ((with_reducible show RG _ _ (_ :: _) _ _ _); refine RG.go1 (k := ?_)) | ((with_reducible show DG _ _ (_ :: _) _ _ _ _ _); refine DG.go1 (k := ?_)) | (with_reducible first | apply RG.nil | apply W.seq | apply W.reg | apply W.skip | apply W.block | apply W.drw | apply DG.nil | refine W.done (QB.n ?_)) | refine W.cndT ?_ | refine W.cndF ?_))
      (first | ((with_reducible show RG _ _ (_ :: _) _ _ _); refine RG.ca (co) (k := ?_)) | ((with_reducible show DG _ _ (_ :: _) _ _ _ _ _); refine DG.ca (co) (k := ?_)))
      (repeat (first | ((with_reducible show RG _ _ (_ :: _) _ _ _); refine RG.go1 (k := ?_)) | ((with_reducible show DG _ _ (_ :: _) _ _ _ _ _); refine DG.go1 (k := ?_)) | (with_reducible first | apply RG.nil | apply W.seq | apply W.reg | apply W.skip | apply W.block | apply W.drw | apply DG.nil | refine W.done (QB.n ?_)) | refine W.cndT ?_ | refine W.cndF ?_))
      (first | ((with_reducible show RG _ _ (_ :: _) _ _ _); refine RG.ew ((show AV.ref 0 1 (0 + ((p' : Int) * 64).toNat) ((h.s.length : Int) - ((p' : Int) * 64)).toNat = AV.ref 0 1 (64 * p') (h.s.length - 64 * p') by congr 1 <;> omega)) (k := ?_)) | ((with_reducible show DG _ _ (_ :: _) _ _ _ _ _); refine DG.ew ((show AV.ref 0 1 (0 + ((p' : Int) * 64).toNat) ((h.s.length : Int) - ((p' : Int) * 64)).toNat = AV.ref 0 1 (64 * p') (h.s.length - 64 * p') by congr 1 <;> omega)) (k := ?_)))
      (repeat (first | ((with_reducible show RG _ _ (_ :: _) _ _ _); refine RG.go1 (k := ?_)) | ((with_reducible show DG _ _ (_ :: _) _ _ _ _ _); refine DG.go1 (k := ?_)) | (with_reducible first | apply RG.nil | apply W.seq | apply W.reg | apply W.skip | apply W.block | apply W.drw | apply DG.nil | refine W.done (QB.n ?_))))
      refine RG.sm (A.cpy (m := 64) hcp) (k := ?_)
      (repeat (first | ((with_reducible show RG _ _ (_ :: _) _ _ _); refine RG.go1 (k := ?_)) | ((with_reducible show DG _ _ (_ :: _) _ _ _ _ _); refine DG.go1 (k := ?_)) | (with_reducible first | apply RG.nil | apply W.seq | apply W.reg | apply W.skip | apply W.block | apply W.drw | apply DG.nil | refine W.done (QB.n ?_))))
      (refine W.ret ?_; (repeat (with_reducible first | refine QB.r ?_ | refine QL.r ?_ | refine QC.r ?_)); refine QF.r ?_)
      (refine RetOk.wk (Wk.frz (b := 0) rfl rfl) ?_; dsimp only [setO])
      (refine RetOk.wk (Wk.frz (b := 1) rfl rfl) ?_; dsimp only [setO])
      (refine RetOk.wk (Wk.frz (b := 2) rfl rfl) ?_; refine RetOk.wk (Wk.box (b := 1) (cs' := [_, _, _]) rfl (by dsimp only [ClL]; (repeat' (first | exact True.intro | exact Cl.ice rfl rfl rfl (by first | assumption | decide | omega | (simp; (first | (all_goals fail) | fail)) | (simp <;> omega)) (by first | exact take_all _ | exact take_len (by first | (simp; (first | (all_goals fail) | fail)) | (simp <;> omega)) | exact rfl) | exact Cl.le (.refl _) | apply And.intro)); (first | (all_goals fail) | fail))) ?_; dsimp only [setO])
      exact RetOk.rs (vs := [_, _]) r_heap_Hear []
    · rw [if_neg q3]
      unfold hv at cc ⊢
      dsimp only
      refine acall_walk (N := 37) Try.func21 (by kernel_rfl) p_heap_Hear rfl ?_; unfold c_heap_Hear; dsimp only [enum, Nat.reduceAdd]
      (repeat (first | ((with_reducible show RG _ _ (_ :: _) _ _ _); refine RG.go1 (k := ?_)) | ((with_reducible show DG _ _ (_ :: _) _ _ _ _ _); refine DG.go1 (k := ?_)) | (with_reducible first | apply RG.nil | apply W.seq | apply W.reg | apply W.skip | apply W.block | apply W.drw | apply DG.nil | refine W.done (QB.n ?_)) | refine W.cndT ?_ | refine W.cndF ?_))
      (first | ((with_reducible show RG _ _ (_ :: _) _ _ _); refine RG.ca (cc) (k := ?_)) | ((with_reducible show DG _ _ (_ :: _) _ _ _ _ _); refine DG.ca (cc) (k := ?_)))
      (repeat (first | ((with_reducible show RG _ _ (_ :: _) _ _ _); refine RG.go1 (k := ?_)) | ((with_reducible show DG _ _ (_ :: _) _ _ _ _ _); refine DG.go1 (k := ?_)) | (with_reducible first | apply RG.nil | apply W.seq | apply W.reg | apply W.skip | apply W.block | apply W.drw | apply DG.nil | refine W.done (QB.n ?_)) | refine W.cndT ?_ | refine W.cndF ?_))
      (refine W.ret ?_; (repeat (with_reducible first | refine QB.r ?_ | refine QL.r ?_ | refine QC.r ?_)); refine QF.r ?_)
      exact RetOk.rs (vs := [_, _]) r_heap_Hear []
  · rw [if_neg q1]
    unfold hv at cc ⊢
    dsimp only
    rcases Int.lt_or_le p 0 with q2 | q2
    · clear q1
      refine acall_walk (N := 37) Try.func21 (by kernel_rfl) p_heap_Hear rfl ?_; unfold c_heap_Hear; dsimp only [enum, Nat.reduceAdd]
      (repeat (first | ((with_reducible show RG _ _ (_ :: _) _ _ _); refine RG.go1 (k := ?_)) | ((with_reducible show DG _ _ (_ :: _) _ _ _ _ _); refine DG.go1 (k := ?_)) | (with_reducible first | apply RG.nil | apply W.seq | apply W.reg | apply W.skip | apply W.block | apply W.drw | apply DG.nil | refine W.done (QB.n ?_)) | refine W.cndT ?_ | refine W.cndF ?_))
      (first | ((with_reducible show RG _ _ (_ :: _) _ _ _); refine RG.ca (cc) (k := ?_)) | ((with_reducible show DG _ _ (_ :: _) _ _ _ _ _); refine DG.ca (cc) (k := ?_)))
      (repeat (first | ((with_reducible show RG _ _ (_ :: _) _ _ _); refine RG.go1 (k := ?_)) | ((with_reducible show DG _ _ (_ :: _) _ _ _ _ _); refine DG.go1 (k := ?_)) | (with_reducible first | apply RG.nil | apply W.seq | apply W.reg | apply W.skip | apply W.block | apply W.drw | apply DG.nil | refine W.done (QB.n ?_)) | refine W.cndT ?_ | refine W.cndF ?_))
      (refine W.ret ?_; (repeat (with_reducible first | refine QB.r ?_ | refine QL.r ?_ | refine QC.r ?_)); refine QF.r ?_)
      exact RetOk.rs (vs := [_, _]) r_heap_Hear []
    · have q3 : (h.d.length : Int) ≤ p := by omega
      clear q1
      refine acall_walk (N := 37) Try.func21 (by kernel_rfl) p_heap_Hear rfl ?_; unfold c_heap_Hear; dsimp only [enum, Nat.reduceAdd]
      (repeat (first | ((with_reducible show RG _ _ (_ :: _) _ _ _); refine RG.go1 (k := ?_)) | ((with_reducible show DG _ _ (_ :: _) _ _ _ _ _); refine DG.go1 (k := ?_)) | (with_reducible first | apply RG.nil | apply W.seq | apply W.reg | apply W.skip | apply W.block | apply W.drw | apply DG.nil | refine W.done (QB.n ?_)) | refine W.cndT ?_ | refine W.cndF ?_))
      (first | ((with_reducible show RG _ _ (_ :: _) _ _ _); refine RG.ca (cc) (k := ?_)) | ((with_reducible show DG _ _ (_ :: _) _ _ _ _ _); refine DG.ca (cc) (k := ?_)))
      (repeat (first | ((with_reducible show RG _ _ (_ :: _) _ _ _); refine RG.go1 (k := ?_)) | ((with_reducible show DG _ _ (_ :: _) _ _ _ _ _); refine DG.go1 (k := ?_)) | (with_reducible first | apply RG.nil | apply W.seq | apply W.reg | apply W.skip | apply W.block | apply W.drw | apply DG.nil | refine W.done (QB.n ?_)) | refine W.cndT ?_ | refine W.cndF ?_))
      (refine W.ret ?_; (repeat (with_reducible first | refine QB.r ?_ | refine QL.r ?_ | refine QC.r ?_)); refine QF.r ?_)
      exact RetOk.rs (vs := [_, _]) r_heap_Hear []
end Go.Proofs.Ytjacmhaeemhinaa
