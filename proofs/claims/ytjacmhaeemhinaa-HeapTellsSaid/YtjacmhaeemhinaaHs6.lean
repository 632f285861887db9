/- Heaps: Right. -/
import Derived.Test.YtjacmhaeemhinaaHs3
namespace Go.Proofs.Ytjacmhaeemhinaa
open Go.RowKit
set_option linter.unusedVariables false
set_option linter.unusedSimpArgs false
set_option maxRecDepth 100000
set_option maxHeartbeats 4000000
def okB (N e : Int) (x : Blk) : Bool := decide (e ≤ x.at_ ∧ x.at_ % 8 = 0 ∧ 8 ≤ x.ln ∧ x.ln % 8 = 0 ∧ x.at_ + x.ln ≤ N)
def chB (N : Int) : Int → List Blk → Bool
  | _, [] => true
  | e, x :: l => okB N e x && chB N (x.at_ + x.ln) l
def Hp.base (h : Hp) : Prop := h.s.length % 64 = 0 ∧ 1 ≤ h.s.length / 64 ∧ h.s.length / 64 ≤ 64 ∧ h.d.length = h.s.length / 64
instance (h : Hp) : Decidable h.base := by unfold Hp.base; infer_instance
def rightB (h : Hp) : Bool := decide h.base && chB h.s.length 0 h.l
def I64 (x : Blk) : Prop := -9223372036854775808 ≤ x.at_ ∧ x.at_ ≤ 9223372036854775807 ∧ -9223372036854775808 ≤ x.ln ∧ x.ln ≤ 9223372036854775807
theorem Ch.b {N : Int} : ∀ {l : List Blk} {e : Int}, Ch N e l → chB N e l = true
  | [], e, _ => rfl
  | x :: l, e, ⟨h1, h2, h3, h4, h5, h6⟩ => by
    unfold chB okB
    rw [h6.b, decide_eq_true ⟨h1, h2, h3, h4, h5⟩]; rfl
theorem Hp.Ok.right {h : Hp} {m : Nat} (k : h.Ok m) : rightB h = true := by
  unfold rightB
  have h1 := k.m1
  have h2 := k.m2
  have h3 := k.s
  have h4 := k.d
  have hl := k.l.b
  rw [show ((h.s.length : Nat) : Int) = 64 * (m : Int) by omega, hl, decide_eq_true (by unfold Hp.base; omega)]; rfl
theorem Hp.Ok.i64 {h : Hp} {m : Nat} (k : h.Ok m) : ∀ x ∈ h.l, I64 x := fun x hx => by
  obtain ⟨h1, h2, h3, h4, h5⟩ := k.bok x hx
  unfold I64; omega
theorem hRight_ok (h : Hp) (hs : h.s.length ≤ 100000) (hl : h.l.length ≤ 100000) (hd : h.d.length ≤ 100000) (hi : ∀ x ∈ h.l, I64 x) : ACall Try.prog 10 [hv true h] (.bool (rightB h)) [] := by
  have es := by8_len h.s
  have el := bk_len h.l
  have ed := bo_len h.d
  unfold rightB hv
  by_cases hb : h.base
  · rw [decide_eq_true hb, Bool.true_and]
    obtain ⟨b1, b2, b3, b4⟩ := hb
    obtain ⟨R, hR⟩ : ∃ R, chB h.s.length 0 h.l = R := ⟨_, rfl⟩
    rw [hR]
    refine acall_walk (N := 76) Try.func10 (by kernel_rfl) p_heap_Right rfl ?_; unfold c_heap_Right; dsimp only [enum, Nat.reduceAdd]
    (repeat (first | ((with_reducible show RG _ _ (_ :: _) _ _ _); refine RG.go1 (k := ?_)) | ((with_reducible show DG _ _ (_ :: _) _ _ _ _ _); refine DG.go1 (k := ?_)) | (with_reducible first | apply RG.nil | apply W.seq | apply W.reg | apply W.skip | apply W.block | apply W.drw | apply DG.nil | refine W.done (QB.n ?_)) | refine W.cndT ?_ | refine W.cndF ?_))
    refine W.loop (ι := {p : Int × Nat // chB h.s.length p.1 (h.l.drop p.2) = R ∧ 0 ≤ p.1 ∧ p.1 ≤ h.s.length ∧ p.2 ≤ h.l.length}) (fun p => ⟨[(34, .int .i64 p.1.2), (33, .int .i64 h.l.length), (32, .sl true 2 (h.l.map bk)), (4, .int .i64 p.1.1), (1, .bptr 0 0)], [some [.sl true 1 (h.s.map by8), .sl true 2 (h.l.map bk), .sl true 1 (h.d.map bo)]], [], 1, 0⟩) (fun p => h.l.length - p.1.2) ⟨(0, 0), hR, by omega, by omega, by omega⟩ ?_ ?_
    · exact Wk.rn ([0] ) ( [])
    rintro ⟨⟨e, i⟩, r1, r2, r3, r4⟩
    dsimp only at r1 r2 r3 r4 ⊢
    (repeat (first | ((with_reducible show RG _ _ (_ :: _) _ _ _); refine RG.go1 (k := ?_)) | ((with_reducible show DG _ _ (_ :: _) _ _ _ _ _); refine DG.go1 (k := ?_)) | (with_reducible first | apply RG.nil | apply W.seq | apply W.reg | apply W.skip | apply W.block | apply W.drw | apply DG.nil | refine W.done (QB.n ?_))))
    refine W.cnd (fun h1 => ?_) (fun h1 => ?_)
    · have hlt : i < h.l.length := by simp at h1; omega
      have hE := bk_at h.l i hlt (j := ((i : Nat) : Int).toNat) (by simp)
      obtain ⟨i1, i2, i3, i4⟩ := hi _ (List.getElem_mem hlt)
      rw [List.drop_eq_getElem_cons hlt] at r1
      unfold chB okB at r1
      obtain ⟨xa, hxa⟩ : ∃ a, h.l[i].at_ = a := ⟨_, rfl⟩
      obtain ⟨xn, hxn⟩ : ∃ a, h.l[i].ln = a := ⟨_, rfl⟩
      rw [hxa] at r1 hE i1 i2
      rw [hxn] at r1 hE i3 i4
      clear hxa hxn h1
      by_cases c1 : e ≤ xa
      · by_cases c2 : xa % 8 = 0
        · by_cases c3 : 8 ≤ xn
          · by_cases c4 : xn % 8 = 0
            · by_cases c5 : xa + xn ≤ h.s.length
              · rw [decide_eq_true ⟨c1, c2, c3, c4, c5⟩, Bool.true_and] at r1
                (repeat (first | ((with_reducible show RG _ _ (_ :: _) _ _ _); refine RG.go1 (k := ?_)) | ((with_reducible show DG _ _ (_ :: _) _ _ _ _ _); refine DG.go1 (k := ?_)) | (with_reducible first | apply RG.nil | apply W.seq | apply W.reg | apply W.skip | apply W.block | apply W.drw | apply DG.nil | refine W.done (QB.n ?_))))
                (first | ((with_reducible show RG _ _ (_ :: _) _ _ _); refine RG.ew (cptr_of (hE) (by (conv => lhs; whnf) <;> exact rfl)) (k := ?_)) | ((with_reducible show DG _ _ (_ :: _) _ _ _ _ _); refine DG.ew (cptr_of (hE) (by (conv => lhs; whnf) <;> exact rfl)) (k := ?_)))
                (repeat (first | ((with_reducible show RG _ _ (_ :: _) _ _ _); refine RG.go1 (k := ?_)) | ((with_reducible show DG _ _ (_ :: _) _ _ _ _ _); refine DG.go1 (k := ?_)) | (with_reducible first | apply RG.nil | apply W.seq | apply W.reg | apply W.skip | apply W.block | apply W.drw | apply DG.nil | refine W.done (QB.n ?_)) | refine W.cndT ?_ | refine W.cndF ?_))
                refine W.done (QL.n (⟨(xa + xn, i + 1), r1, by show 0 ≤ xa + xn; omega, by show xa + xn ≤ h.s.length; omega, by show i + 1 ≤ h.l.length; omega⟩) ?_ ?_)
                · exact Wk.rn ([0] ) ( [])
                · dsimp only; omega
              · rw [decide_eq_false (fun q => c5 q.2.2.2.2), Bool.false_and] at r1
                subst r1
                · (repeat (first | ((with_reducible show RG _ _ (_ :: _) _ _ _); refine RG.go1 (k := ?_)) | ((with_reducible show DG _ _ (_ :: _) _ _ _ _ _); refine DG.go1 (k := ?_)) | (with_reducible first | apply RG.nil | apply W.seq | apply W.reg | apply W.skip | apply W.block | apply W.drw | apply DG.nil | refine W.done (QB.n ?_))))
                  (first | ((with_reducible show RG _ _ (_ :: _) _ _ _); refine RG.ew (cptr_of (hE) (by (conv => lhs; whnf) <;> exact rfl)) (k := ?_)) | ((with_reducible show DG _ _ (_ :: _) _ _ _ _ _); refine DG.ew (cptr_of (hE) (by (conv => lhs; whnf) <;> exact rfl)) (k := ?_)))
                  (repeat (first | ((with_reducible show RG _ _ (_ :: _) _ _ _); refine RG.go1 (k := ?_)) | ((with_reducible show DG _ _ (_ :: _) _ _ _ _ _); refine DG.go1 (k := ?_)) | (with_reducible first | apply RG.nil | apply W.seq | apply W.reg | apply W.skip | apply W.block | apply W.drw | apply DG.nil | refine W.done (QB.n ?_)) | refine W.cndT ?_ | refine W.cndF ?_))
                  (refine W.ret ?_; (repeat (with_reducible first | refine QB.r ?_ | refine QL.r ?_ | refine QC.r ?_)); refine QF.r ?_)
                  exact RetOk.rs (vs := [_]) r_heap_Right []
            · rw [decide_eq_false (fun q => c4 q.2.2.2.1), Bool.false_and] at r1
              subst r1
              · (repeat (first | ((with_reducible show RG _ _ (_ :: _) _ _ _); refine RG.go1 (k := ?_)) | ((with_reducible show DG _ _ (_ :: _) _ _ _ _ _); refine DG.go1 (k := ?_)) | (with_reducible first | apply RG.nil | apply W.seq | apply W.reg | apply W.skip | apply W.block | apply W.drw | apply DG.nil | refine W.done (QB.n ?_))))
                (first | ((with_reducible show RG _ _ (_ :: _) _ _ _); refine RG.ew (cptr_of (hE) (by (conv => lhs; whnf) <;> exact rfl)) (k := ?_)) | ((with_reducible show DG _ _ (_ :: _) _ _ _ _ _); refine DG.ew (cptr_of (hE) (by (conv => lhs; whnf) <;> exact rfl)) (k := ?_)))
                (repeat (first | ((with_reducible show RG _ _ (_ :: _) _ _ _); refine RG.go1 (k := ?_)) | ((with_reducible show DG _ _ (_ :: _) _ _ _ _ _); refine DG.go1 (k := ?_)) | (with_reducible first | apply RG.nil | apply W.seq | apply W.reg | apply W.skip | apply W.block | apply W.drw | apply DG.nil | refine W.done (QB.n ?_)) | refine W.cndT ?_ | refine W.cndF ?_))
                (refine W.ret ?_; (repeat (with_reducible first | refine QB.r ?_ | refine QL.r ?_ | refine QC.r ?_)); refine QF.r ?_)
                exact RetOk.rs (vs := [_]) r_heap_Right []
          · rw [decide_eq_false (fun q => c3 q.2.2.1), Bool.false_and] at r1
            subst r1
            · (repeat (first | ((with_reducible show RG _ _ (_ :: _) _ _ _); refine RG.go1 (k := ?_)) | ((with_reducible show DG _ _ (_ :: _) _ _ _ _ _); refine DG.go1 (k := ?_)) | (with_reducible first | apply RG.nil | apply W.seq | apply W.reg | apply W.skip | apply W.block | apply W.drw | apply DG.nil | refine W.done (QB.n ?_))))
              (first | ((with_reducible show RG _ _ (_ :: _) _ _ _); refine RG.ew (cptr_of (hE) (by (conv => lhs; whnf) <;> exact rfl)) (k := ?_)) | ((with_reducible show DG _ _ (_ :: _) _ _ _ _ _); refine DG.ew (cptr_of (hE) (by (conv => lhs; whnf) <;> exact rfl)) (k := ?_)))
              (repeat (first | ((with_reducible show RG _ _ (_ :: _) _ _ _); refine RG.go1 (k := ?_)) | ((with_reducible show DG _ _ (_ :: _) _ _ _ _ _); refine DG.go1 (k := ?_)) | (with_reducible first | apply RG.nil | apply W.seq | apply W.reg | apply W.skip | apply W.block | apply W.drw | apply DG.nil | refine W.done (QB.n ?_)) | refine W.cndT ?_ | refine W.cndF ?_))
              (refine W.ret ?_; (repeat (with_reducible first | refine QB.r ?_ | refine QL.r ?_ | refine QC.r ?_)); refine QF.r ?_)
              exact RetOk.rs (vs := [_]) r_heap_Right []
        · rw [decide_eq_false (fun q => c2 q.2.1), Bool.false_and] at r1
          subst r1
          · (repeat (first | ((with_reducible show RG _ _ (_ :: _) _ _ _); refine RG.go1 (k := ?_)) | ((with_reducible show DG _ _ (_ :: _) _ _ _ _ _); refine DG.go1 (k := ?_)) | (with_reducible first | apply RG.nil | apply W.seq | apply W.reg | apply W.skip | apply W.block | apply W.drw | apply DG.nil | refine W.done (QB.n ?_))))
            (first | ((with_reducible show RG _ _ (_ :: _) _ _ _); refine RG.ew (cptr_of (hE) (by (conv => lhs; whnf) <;> exact rfl)) (k := ?_)) | ((with_reducible show DG _ _ (_ :: _) _ _ _ _ _); refine DG.ew (cptr_of (hE) (by (conv => lhs; whnf) <;> exact rfl)) (k := ?_)))
            (repeat (first | ((with_reducible show RG _ _ (_ :: _) _ _ _); refine RG.go1 (k := ?_)) | ((with_reducible show DG _ _ (_ :: _) _ _ _ _ _); refine DG.go1 (k := ?_)) | (with_reducible first | apply RG.nil | apply W.seq | apply W.reg | apply W.skip | apply W.block | apply W.drw | apply DG.nil | refine W.done (QB.n ?_)) | refine W.cndT ?_ | refine W.cndF ?_))
            (refine W.ret ?_; (repeat (with_reducible first | refine QB.r ?_ | refine QL.r ?_ | refine QC.r ?_)); refine QF.r ?_)
            exact RetOk.rs (vs := [_]) r_heap_Right []
      · rw [decide_eq_false (fun q => c1 q.1), Bool.false_and] at r1
        subst r1
        · (repeat (first | ((with_reducible show RG _ _ (_ :: _) _ _ _); refine RG.go1 (k := ?_)) | ((with_reducible show DG _ _ (_ :: _) _ _ _ _ _); refine DG.go1 (k := ?_)) | (with_reducible first | apply RG.nil | apply W.seq | apply W.reg | apply W.skip | apply W.block | apply W.drw | apply DG.nil | refine W.done (QB.n ?_))))
          (first | ((with_reducible show RG _ _ (_ :: _) _ _ _); refine RG.ew (cptr_of (hE) (by (conv => lhs; whnf) <;> exact rfl)) (k := ?_)) | ((with_reducible show DG _ _ (_ :: _) _ _ _ _ _); refine DG.ew (cptr_of (hE) (by (conv => lhs; whnf) <;> exact rfl)) (k := ?_)))
          (repeat (first | ((with_reducible show RG _ _ (_ :: _) _ _ _); refine RG.go1 (k := ?_)) | ((with_reducible show DG _ _ (_ :: _) _ _ _ _ _); refine DG.go1 (k := ?_)) | (with_reducible first | apply RG.nil | apply W.seq | apply W.reg | apply W.skip | apply W.block | apply W.drw | apply DG.nil | refine W.done (QB.n ?_)) | refine W.cndT ?_ | refine W.cndF ?_))
          (refine W.ret ?_; (repeat (with_reducible first | refine QB.r ?_ | refine QL.r ?_ | refine QC.r ?_)); refine QF.r ?_)
          exact RetOk.rs (vs := [_]) r_heap_Right []
    · obtain rfl : i = h.l.length := by simp at h1; omega
      rw [List.drop_length] at r1
      unfold chB at r1
      subst r1
      (refine W.exit ?_; (repeat (first | (with_reducible first | refine QL.x ?_ | refine QC.x ?_ | refine QB.x ?_) | (with_reducible refine QB.o (by decide) ?_))))
      (repeat (first | ((with_reducible show RG _ _ (_ :: _) _ _ _); refine RG.go1 (k := ?_)) | ((with_reducible show DG _ _ (_ :: _) _ _ _ _ _); refine DG.go1 (k := ?_)) | (with_reducible first | apply RG.nil | apply W.seq | apply W.reg | apply W.skip | apply W.block | apply W.drw | apply DG.nil | refine W.done (QB.n ?_))))
      (refine W.ret ?_; (repeat (with_reducible first | refine QB.r ?_ | refine QL.r ?_ | refine QC.r ?_)); refine QF.r ?_)
      exact RetOk.rs (vs := [_]) r_heap_Right []
  · rw [decide_eq_false hb, Bool.false_and]
    unfold Hp.base at hb
    by_cases c1 : h.s.length % 64 = 0
    · by_cases c2 : 1 ≤ h.s.length / 64
      · by_cases c3 : h.s.length / 64 ≤ 64
        · have c4 : ¬ h.d.length = h.s.length / 64 := fun q => hb ⟨c1, c2, c3, q⟩
          clear hb
          refine acall_walk (N := 76) Try.func10 (by kernel_rfl) p_heap_Right rfl ?_; unfold c_heap_Right; dsimp only [enum, Nat.reduceAdd]
          (repeat (first | ((with_reducible show RG _ _ (_ :: _) _ _ _); refine RG.go1 (k := ?_)) | ((with_reducible show DG _ _ (_ :: _) _ _ _ _ _); refine DG.go1 (k := ?_)) | (with_reducible first | apply RG.nil | apply W.seq | apply W.reg | apply W.skip | apply W.block | apply W.drw | apply DG.nil | refine W.done (QB.n ?_)) | refine W.cndT ?_ | refine W.cndF ?_))
          (refine W.ret ?_; (repeat (with_reducible first | refine QB.r ?_ | refine QL.r ?_ | refine QC.r ?_)); refine QF.r ?_)
          exact RetOk.rs (vs := [_]) r_heap_Right []
        · clear hb
          refine acall_walk (N := 76) Try.func10 (by kernel_rfl) p_heap_Right rfl ?_; unfold c_heap_Right; dsimp only [enum, Nat.reduceAdd]
          (repeat (first | ((with_reducible show RG _ _ (_ :: _) _ _ _); refine RG.go1 (k := ?_)) | ((with_reducible show DG _ _ (_ :: _) _ _ _ _ _); refine DG.go1 (k := ?_)) | (with_reducible first | apply RG.nil | apply W.seq | apply W.reg | apply W.skip | apply W.block | apply W.drw | apply DG.nil | refine W.done (QB.n ?_)) | refine W.cndT ?_ | refine W.cndF ?_))
          (refine W.ret ?_; (repeat (with_reducible first | refine QB.r ?_ | refine QL.r ?_ | refine QC.r ?_)); refine QF.r ?_)
          exact RetOk.rs (vs := [_]) r_heap_Right []
      · clear hb
        refine acall_walk (N := 76) Try.func10 (by kernel_rfl) p_heap_Right rfl ?_; unfold c_heap_Right; dsimp only [enum, Nat.reduceAdd]
        (repeat (first | ((with_reducible show RG _ _ (_ :: _) _ _ _); refine RG.go1 (k := ?_)) | ((with_reducible show DG _ _ (_ :: _) _ _ _ _ _); refine DG.go1 (k := ?_)) | (with_reducible first | apply RG.nil | apply W.seq | apply W.reg | apply W.skip | apply W.block | apply W.drw | apply DG.nil | refine W.done (QB.n ?_)) | refine W.cndT ?_ | refine W.cndF ?_))
        (refine W.ret ?_; (repeat (with_reducible first | refine QB.r ?_ | refine QL.r ?_ | refine QC.r ?_)); refine QF.r ?_)
        exact RetOk.rs (vs := [_]) r_heap_Right []
    · clear hb
      refine acall_walk (N := 76) Try.func10 (by kernel_rfl) p_heap_Right rfl ?_; unfold c_heap_Right; dsimp only [enum, Nat.reduceAdd]
      (repeat (first | ((with_reducible show RG _ _ (_ :: _) _ _ _); refine RG.go1 (k := ?_)) | ((with_reducible show DG _ _ (_ :: _) _ _ _ _ _); refine DG.go1 (k := ?_)) | (with_reducible first | apply RG.nil | apply W.seq | apply W.reg | apply W.skip | apply W.block | apply W.drw | apply DG.nil | refine W.done (QB.n ?_)) | refine W.cndT ?_ | refine W.cndF ?_))
      (refine W.ret ?_; (repeat (with_reducible first | refine QB.r ?_ | refine QL.r ?_ | refine QC.r ?_)); refine QF.r ?_)
      exact RetOk.rs (vs := [_]) r_heap_Right []
theorem hNewC_ok {m : Nat} (h1 : 1 ≤ m) (h2 : m ≤ 64) : ACall Try.prog 11 [.int .i64 m] (.tup [hv false (hnew m), .int .i64 0]) [] := by
  unfold hv hnew
  dsimp only [List.map_nil]
  rw [← rep_by8, ← rep_bo]
  have q2 : ALe .nil (.sl false 2 []) := ALe.nil _ _
  refine acall_walk (N := 17) Try.func11 (by kernel_rfl) p_heap_New rfl ?_; unfold c_heap_New; dsimp only [enum, Nat.reduceAdd]
  (repeat (first | ((with_reducible show RG _ _ (_ :: _) _ _ _); refine RG.go1 (k := ?_)) | ((with_reducible show DG _ _ (_ :: _) _ _ _ _ _); refine DG.go1 (k := ?_)) | (with_reducible first | apply RG.nil | apply W.seq | apply W.reg | apply W.skip | apply W.block | apply W.drw | apply DG.nil | refine W.done (QB.n ?_)) | refine W.cndT ?_ | refine W.cndF ?_))
  rw [show ((m : Int) * 64).toNat = 64 * m by omega, show ((m : Nat) : Int).toNat = m by omega]
  (refine W.ret ?_; (repeat (with_reducible first | refine QB.r ?_ | refine QL.r ?_ | refine QC.r ?_)); refine QF.r ?_)
  (refine RetOk.wk (Wk.frz (b := 0) rfl rfl) ?_; dsimp only [setO])
  (refine RetOk.wk (Wk.frz (b := 1) rfl rfl) ?_; refine RetOk.wk (Wk.box (b := 0) (cs' := [_, _, _]) rfl (by dsimp only [ClL]; (repeat' (first | exact True.intro | exact Cl.ice rfl rfl rfl (by first | assumption | decide | omega | (simp; (first | (all_goals fail) | fail)) | (simp <;> omega)) (by first | exact take_all _ | exact take_len (by first | (simp; (first | (all_goals fail) | fail)) | (simp <;> omega)) | exact rfl) | exact Cl.le (.refl _) | apply And.intro)); (first | (all_goals fail) | fail))) ?_; dsimp only [setO])
  exact RetOk.rs (vs := [_, _]) r_heap_New []
def it (i : Nat) : AV := .int .i64 i
theorem it_at (l : List Nat) (i : Nat) (h : i < l.length) {j : Nat} (hj : j = i) : (l.map it)[j]?.getD .any = .int .i64 (l[i] : Nat) := at_map it l i _ (List.getElem?_eq_getElem h) hj
theorem it_len (l : List Nat) : (l.map it).length = l.length := by simp
theorem it_pure (l : List Nat) : (l.map it).all pureV = true := by simp [it, pureV, pureC]
/-- The pages that are written, up to one. -/
def wr (d : List Bool) (q : Nat) : List Nat := (List.range q).filter fun i => d[i]?.getD false
theorem wr_s (d : List Bool) (q : Nat) : wr d (q + 1) = wr d q ++ (if d[q]?.getD false then [q] else []) := by
  unfold wr
  rw [List.range_succ, List.filter_append]
  congr 1
  simp only [List.filter_cons, List.filter_nil]
theorem wr_len (d : List Bool) (q : Nat) : (wr d q).length ≤ q := by
  unfold wr
  have := List.length_filter_le (fun i => d[i]?.getD false) (List.range q)
  simpa using this
theorem hWritten_ok (h : Hp) (hf : h.d.length ≤ 1000) : ACall Try.prog 22 [hv true h] (.sl false 1 ((wr h.d h.d.length).map it)) [] := by
  have ed := bo_len h.d
  unfold hv
  refine acall_walk (N := 21) Try.func22 (by kernel_rfl) p_heap_Written rfl ?_; unfold c_heap_Written; dsimp only [enum, Nat.reduceAdd]
  (repeat (first | ((with_reducible show RG _ _ (_ :: _) _ _ _); refine RG.go1 (k := ?_)) | ((with_reducible show DG _ _ (_ :: _) _ _ _ _ _); refine DG.go1 (k := ?_)) | (with_reducible first | apply RG.nil | apply W.seq | apply W.reg | apply W.skip | apply W.block | apply W.drw | apply DG.nil | refine W.done (QB.n ?_)) | refine W.cndT ?_ | refine W.cndF ?_))
  rw [ed]
  refine W.wk (Wk.nilT (t := 3) 1 rfl) ?_ (by simp)
  refine W.loop (ι := {i : Nat // i ≤ h.d.length}) (fun i => ⟨[(9, .int .i64 i.1), (8, .int .i64 h.d.length), (7, .sl true 1 (h.d.map bo)), (3, .ref 0 1 0 (wr h.d i.1).length)], [], [some ⟨false, 1, (wr h.d i.1).map it⟩], 0, 1⟩) (fun i => h.d.length - i.1) ⟨0, Nat.zero_le _⟩ ?_ ?_
  · exact Wk.rn ([] ) ( [0])
  rintro ⟨i, hi⟩
  dsimp only
  have hwl := wr_len h.d i
  have ew := it_len (wr h.d i)
  (repeat (first | ((with_reducible show RG _ _ (_ :: _) _ _ _); refine RG.go1 (k := ?_)) | ((with_reducible show DG _ _ (_ :: _) _ _ _ _ _); refine DG.go1 (k := ?_)) | (with_reducible first | apply RG.nil | apply W.seq | apply W.reg | apply W.skip | apply W.block | apply W.drw | apply DG.nil | refine W.done (QB.n ?_))))
  refine W.cnd (fun h1 => ?_) (fun h1 => ?_)
  · have hlt : i < h.d.length := by simp at h1; omega
    have hE := bo_at h.d i hlt (j := ((i : Nat) : Int).toNat) (by simp)
    have hs := wr_s h.d i
    rw [List.getElem?_eq_getElem hlt] at hs
    dsimp only [Option.getD_some] at hs
    clear h1
    cases hq : h.d[i]
    · rw [hq] at hE hs
      rw [if_neg (by decide), List.append_nil] at hs
      (repeat (first | ((with_reducible show RG _ _ (_ :: _) _ _ _); refine RG.go1 (k := ?_)) | ((with_reducible show DG _ _ (_ :: _) _ _ _ _ _); refine DG.go1 (k := ?_)) | (with_reducible first | apply RG.nil | apply W.seq | apply W.reg | apply W.skip | apply W.block | apply W.drw | apply DG.nil | refine W.done (QB.n ?_)) | refine W.cndT ?_ | refine W.cndF ?_))
      (first | ((with_reducible show RG _ _ (_ :: _) _ _ _); refine RG.ew (cptr_of (hE) (by (conv => lhs; whnf) <;> exact rfl)) (k := ?_)) | ((with_reducible show DG _ _ (_ :: _) _ _ _ _ _); refine DG.ew (cptr_of (hE) (by (conv => lhs; whnf) <;> exact rfl)) (k := ?_)))
      (repeat (first | ((with_reducible show RG _ _ (_ :: _) _ _ _); refine RG.go1 (k := ?_)) | ((with_reducible show DG _ _ (_ :: _) _ _ _ _ _); refine DG.go1 (k := ?_)) | (with_reducible first | apply RG.nil | apply W.seq | apply W.reg | apply W.skip | apply W.block | apply W.drw | apply DG.nil | refine W.done (QB.n ?_)) | refine W.cndT ?_ | refine W.cndF ?_))
      refine W.done (QL.n (⟨i + 1, by omega⟩) ?_ ?_)
      · dsimp only
        rw [hs]
        exact Wk.rn ([] ) ( [0])
      · dsimp only; omega
    · rw [hq] at hE hs
      rw [if_pos rfl] at hs
      have hsn : (wr h.d i).map it ++ [.int .i64 (i : Nat)] = (wr h.d (i + 1)).map it := by rw [hs, List.map_append]; rfl
      have hsl : (wr h.d (i + 1)).length = (wr h.d i).length + 1 := by rw [hs]; simp
      clear hs
      (repeat (first | ((with_reducible show RG _ _ (_ :: _) _ _ _); refine RG.go1 (k := ?_)) | ((with_reducible show DG _ _ (_ :: _) _ _ _ _ _); refine DG.go1 (k := ?_)) | (with_reducible first | apply RG.nil | apply W.seq | apply W.reg | apply W.skip | apply W.block | apply W.drw | apply DG.nil | refine W.done (QB.n ?_)) | refine W.cndT ?_ | refine W.cndF ?_))
      (first | ((with_reducible show RG _ _ (_ :: _) _ _ _); refine RG.ew (cptr_of (hE) (by (conv => lhs; whnf) <;> exact rfl)) (k := ?_)) | ((with_reducible show DG _ _ (_ :: _) _ _ _ _ _); refine DG.ew (cptr_of (hE) (by (conv => lhs; whnf) <;> exact rfl)) (k := ?_)))
      (repeat (first | ((with_reducible show RG _ _ (_ :: _) _ _ _); refine RG.go1 (k := ?_)) | ((with_reducible show DG _ _ (_ :: _) _ _ _ _ _); refine DG.go1 (k := ?_)) | (with_reducible first | apply RG.nil | apply W.seq | apply W.reg | apply W.skip | apply W.block | apply W.drw | apply DG.nil | refine W.done (QB.n ?_)) | refine W.cndT ?_ | refine W.cndF ?_))
      rw [hsn]
      refine W.done (QL.n (⟨i + 1, by omega⟩) ?_ ?_)
      · dsimp only
        rw [hsl]
        exact Wk.rn ([] ) ( [2])
      · dsimp only; omega
  · obtain rfl : i = h.d.length := by simp at h1; omega
    (refine W.exit ?_; (repeat (first | (with_reducible first | refine QL.x ?_ | refine QC.x ?_ | refine QB.x ?_) | (with_reducible refine QB.o (by decide) ?_))))
    (repeat (first | ((with_reducible show RG _ _ (_ :: _) _ _ _); refine RG.go1 (k := ?_)) | ((with_reducible show DG _ _ (_ :: _) _ _ _ _ _); refine DG.go1 (k := ?_)) | (with_reducible first | apply RG.nil | apply W.seq | apply W.reg | apply W.skip | apply W.block | apply W.drw | apply DG.nil | refine W.done (QB.n ?_))))
    (refine W.ret ?_; (repeat (with_reducible first | refine QB.r ?_ | refine QL.r ?_ | refine QC.r ?_)); refine QF.r ?_)
    (refine RetOk.wk (Wk.frz (b := 0) rfl rfl) ?_; refine RetOk.wk (Wk.tmp (t := 2) (Cl.ice rfl rfl rfl (by first | assumption | decide | omega | (simp; (first | (all_goals fail) | fail)) | (simp <;> omega)) (by first | exact take_all _ | exact take_len (by first | (simp; (first | (all_goals fail) | fail)) | (simp <;> omega)) | exact rfl))) ?_; dsimp only [setO])
    exact RetOk.rs (vs := [_]) r_heap_Written []
theorem lives_ok : ACall Try.prog 9 [] (.bool true) [] := by
  have k0 : (hnew 2).Ok 2 := hnew_ok (by decide) (by decide)
  have k1 := hAlloc_ok k0 3
  have k2 := hAlloc_ok k1 100
  have k3 := hFree_ok k2 0
  have e1 : (hAlloc (hnew 2) 3).2 = (0, 0) := by decide +kernel
  have e2 : (hAlloc (hAlloc (hnew 2) 3).1 100).2 = (8, 0) := by decide +kernel
  have e3 : (hFree (hAlloc (hAlloc (hnew 2) 3).1 100).1 0).2 = 0 := by decide +kernel
  have e4 : (hAlloc (hFree (hAlloc (hAlloc (hnew 2) 3).1 100).1 0).1 9).2 = (112, 0) := by decide +kernel
  have c0 := hNewC_ok (m := 2) (by decide) (by decide)
  have c1 := hAllocC_ok k0 3
  have c2 := hAllocC_ok k1 100
  have c3 := hFreeC_ok k2 0
  have c4 := hAllocC_ok k3 9
  rw [e1] at c1
  rw [e2] at c2
  rw [e3] at c3
  rw [e4] at c4
  generalize (hAlloc (hFree (hAlloc (hAlloc (hnew 2) 3).1 100).1 0).1 9).1 = h4 at *
  generalize (hFree (hAlloc (hAlloc (hnew 2) 3).1 100).1 0).1 = h3 at *
  generalize (hAlloc (hAlloc (hnew 2) 3).1 100).1 = h2 at *
  generalize (hAlloc (hnew 2) 3).1 = h1 at *
  generalize hnew 2 = h0 at *
  unfold hv at c0 c1 c2 c3 c4
  dsimp only at c1 c2 c3 c4
  clear e1 e2 e3 e4 k0 k1 k2 k3
  refine acall_walk (N := 70) Try.func9 (by kernel_rfl) p_caravellaw10_lives rfl ?_; unfold c_caravellaw10_lives; dsimp only [enum, Nat.reduceAdd]
  (repeat (first | ((with_reducible show RG _ _ (_ :: _) _ _ _); refine RG.go1 (k := ?_)) | ((with_reducible show DG _ _ (_ :: _) _ _ _ _ _); refine DG.go1 (k := ?_)) | (with_reducible first | apply RG.nil | apply W.seq | apply W.reg | apply W.skip | apply W.block | apply W.drw | apply DG.nil | refine W.done (QB.n ?_)) | refine W.cndT ?_ | refine W.cndF ?_))
  (first | ((with_reducible show RG _ _ (_ :: _) _ _ _); refine RG.ca (c0) (k := ?_)) | ((with_reducible show DG _ _ (_ :: _) _ _ _ _ _); refine DG.ca (c0) (k := ?_)))
  (repeat (first | ((with_reducible show RG _ _ (_ :: _) _ _ _); refine RG.go1 (k := ?_)) | ((with_reducible show DG _ _ (_ :: _) _ _ _ _ _); refine DG.go1 (k := ?_)) | (with_reducible first | apply RG.nil | apply W.seq | apply W.reg | apply W.skip | apply W.block | apply W.drw | apply DG.nil | refine W.done (QB.n ?_)) | refine W.cndT ?_ | refine W.cndF ?_))
  (first | ((with_reducible show RG _ _ (_ :: _) _ _ _); refine RG.ca (c1) (k := ?_)) | ((with_reducible show DG _ _ (_ :: _) _ _ _ _ _); refine DG.ca (c1) (k := ?_)))
  (repeat (first | ((with_reducible show RG _ _ (_ :: _) _ _ _); refine RG.go1 (k := ?_)) | ((with_reducible show DG _ _ (_ :: _) _ _ _ _ _); refine DG.go1 (k := ?_)) | (with_reducible first | apply RG.nil | apply W.seq | apply W.reg | apply W.skip | apply W.block | apply W.drw | apply DG.nil | refine W.done (QB.n ?_)) | refine W.cndT ?_ | refine W.cndF ?_))
  (first | ((with_reducible show RG _ _ (_ :: _) _ _ _); refine RG.ca (c2) (k := ?_)) | ((with_reducible show DG _ _ (_ :: _) _ _ _ _ _); refine DG.ca (c2) (k := ?_)))
  (repeat (first | ((with_reducible show RG _ _ (_ :: _) _ _ _); refine RG.go1 (k := ?_)) | ((with_reducible show DG _ _ (_ :: _) _ _ _ _ _); refine DG.go1 (k := ?_)) | (with_reducible first | apply RG.nil | apply W.seq | apply W.reg | apply W.skip | apply W.block | apply W.drw | apply DG.nil | refine W.done (QB.n ?_)) | refine W.cndT ?_ | refine W.cndF ?_))
  (first | ((with_reducible show RG _ _ (_ :: _) _ _ _); refine RG.ca (c3) (k := ?_)) | ((with_reducible show DG _ _ (_ :: _) _ _ _ _ _); refine DG.ca (c3) (k := ?_)))
  (repeat (first | ((with_reducible show RG _ _ (_ :: _) _ _ _); refine RG.go1 (k := ?_)) | ((with_reducible show DG _ _ (_ :: _) _ _ _ _ _); refine DG.go1 (k := ?_)) | (with_reducible first | apply RG.nil | apply W.seq | apply W.reg | apply W.skip | apply W.block | apply W.drw | apply DG.nil | refine W.done (QB.n ?_)) | refine W.cndT ?_ | refine W.cndF ?_))
  (first | ((with_reducible show RG _ _ (_ :: _) _ _ _); refine RG.ca (c4) (k := ?_)) | ((with_reducible show DG _ _ (_ :: _) _ _ _ _ _); refine DG.ca (c4) (k := ?_)))
  (repeat (first | ((with_reducible show RG _ _ (_ :: _) _ _ _); refine RG.go1 (k := ?_)) | ((with_reducible show DG _ _ (_ :: _) _ _ _ _ _); refine DG.go1 (k := ?_)) | (with_reducible first | apply RG.nil | apply W.seq | apply W.reg | apply W.skip | apply W.block | apply W.drw | apply DG.nil | refine W.done (QB.n ?_)) | refine W.cndT ?_ | refine W.cndF ?_))
  (refine W.ret ?_; (repeat (with_reducible first | refine QB.r ?_ | refine QL.r ?_ | refine QC.r ?_)); refine QF.r ?_)
  exact RetOk.rs (vs := [_]) r_caravellaw10_lives []
end Go.Proofs.Ytjacmhaeemhinaa
