/- HeapRight. -/
import Derived.Test.YtjacmhaeemhinaaHs6
namespace Go.Proofs.Ytjacmhaeemhinaa
open Go.RowKit
set_option linter.unusedVariables false
set_option linter.unusedSimpArgs false
set_option maxRecDepth 100000
set_option maxHeartbeats 4000000
def endA : Int → List Blk → Nat → Int
  | e, _, 0 => e
  | e, [], _ + 1 => e
  | e, x :: l, i + 1 => endA (x.at_ + x.ln) l i
theorem endA_s : ∀ (e : Int) (l : List Blk) (i : Nat) (h : i < l.length), endA e l (i + 1) = l[i].at_ + l[i].ln
  | e, [], i, h => absurd h (Nat.not_lt_zero _)
  | e, x :: l, 0, h => by simp [endA]
  | e, x :: l, i + 1, h => by
    have := endA_s (x.at_ + x.ln) l i (by simpa using h)
    simp only [endA, List.getElem_cons_succ]
    exact this
theorem chB_take (N : Int) : ∀ (e : Int) (l : List Blk) (i : Nat) (h : i < l.length), chB N e (l.take (i + 1)) = (chB N e (l.take i) && okB N (endA e l i) l[i])
  | e, [], i, h => absurd h (Nat.not_lt_zero _)
  | e, x :: l, 0, h => by simp [endA, chB]
  | e, x :: l, i + 1, h => by
    have := chB_take N (x.at_ + x.ln) l i (by simpa using h)
    simp only [List.take_succ_cons, chB, endA, List.getElem_cons_succ] at *
    rw [this, Bool.and_assoc]
theorem chB_mem {N : Int} : ∀ {l : List Blk} {e : Int}, chB N e l = true → 0 ≤ e → ∀ x ∈ l, 0 ≤ x.at_ ∧ 8 ≤ x.ln ∧ x.at_ + x.ln ≤ N
  | [], e, _, _, x, hx => by simp at hx
  | y :: l, e, h, h0, x, hx => by
    unfold chB okB at h
    simp only [Bool.and_eq_true, decide_eq_true_eq] at h
    obtain ⟨⟨h1, h2, h3, h4, h5⟩, h6⟩ := h
    rcases List.mem_cons.1 hx with rfl | hx
    · exact ⟨by omega, h3, h5⟩
    · exact chB_mem h6 (by omega) x hx
def wanB (h : Hp) (i : Nat) : Bool := decide h.base && chB h.s.length 0 (h.l.take i)
theorem wanB_s (h : Hp) (i : Nat) (hi : i < h.l.length) : wanB h (i + 1) = (wanB h i && okB h.s.length (endA 0 h.l i) h.l[i]) := by
  unfold wanB; rw [chB_take _ _ _ _ hi, Bool.and_assoc]
theorem heapRight_ok (h : Hp) (hs : (h.s.length : Int) ≤ 9223372036854775807) (hl : (h.l.length : Int) ≤ 9223372036854775807) (hd : (h.d.length : Int) ≤ 9223372036854775807) (hi : ∀ x ∈ h.l, I64 x) : ACall Try.prog 3 [hv false h] (.bool true) [] := by
  have es := by8_len h.s
  have el := bk_len h.l
  have ed := bo_len h.d
  have cl := lives_ok
  unfold hv
  by_cases n1 : 5000 < h.s.length
  · refine acall_walk (N := 130) Try.func3 (by kernel_rfl) p_caravellaw10_HeapRight rfl ?_; unfold c_caravellaw10_HeapRight; dsimp only [enum, Nat.reduceAdd]
    (repeat (first | ((with_reducible show RG _ _ (_ :: _) _ _ _); refine RG.go1 (k := ?_)) | ((with_reducible show DG _ _ (_ :: _) _ _ _ _ _); refine DG.go1 (k := ?_)) | with_reducible apply RG.nil | with_reducible apply W.seq | with_reducible apply W.reg | with_reducible apply W.skip | with_reducible apply W.block | with_reducible apply W.drw | with_reducible apply DG.nil | (with_reducible refine W.done (QB.n ?_)) | refine W.cndT ?_ | refine W.cndF ?_))
    (first | ((with_reducible show RG _ _ (_ :: _) _ _ _); refine RG.ca (cl) (k := ?_)) | ((with_reducible show DG _ _ (_ :: _) _ _ _ _ _); refine DG.ca (cl) (k := ?_)))
    (repeat (first | ((with_reducible show RG _ _ (_ :: _) _ _ _); refine RG.go1 (k := ?_)) | ((with_reducible show DG _ _ (_ :: _) _ _ _ _ _); refine DG.go1 (k := ?_)) | with_reducible apply RG.nil | with_reducible apply W.seq | with_reducible apply W.reg | with_reducible apply W.skip | with_reducible apply W.block | with_reducible apply W.drw | with_reducible apply DG.nil | (with_reducible refine W.done (QB.n ?_)) | refine W.cndT ?_ | refine W.cndF ?_))
    (first | ((with_reducible show RG _ _ (_ :: _) _ _ _); refine RG.ca (cl) (k := ?_)) | ((with_reducible show DG _ _ (_ :: _) _ _ _ _ _); refine DG.ca (cl) (k := ?_)))
    (repeat (first | ((with_reducible show RG _ _ (_ :: _) _ _ _); refine RG.go1 (k := ?_)) | ((with_reducible show DG _ _ (_ :: _) _ _ _ _ _); refine DG.go1 (k := ?_)) | with_reducible apply RG.nil | with_reducible apply W.seq | with_reducible apply W.reg | with_reducible apply W.skip | with_reducible apply W.block | with_reducible apply W.drw | with_reducible apply DG.nil | (with_reducible refine W.done (QB.n ?_)) | refine W.cndT ?_ | refine W.cndF ?_))
    (refine W.ret ?_; (repeat (with_reducible first | refine QB.r ?_ | refine QL.r ?_ | refine QC.r ?_)); refine QF.r ?_)
    exact RetOk.rs (vs := [_]) r_caravellaw10_HeapRight []
  by_cases n2 : 60 < h.l.length
  · refine acall_walk (N := 130) Try.func3 (by kernel_rfl) p_caravellaw10_HeapRight rfl ?_; unfold c_caravellaw10_HeapRight; dsimp only [enum, Nat.reduceAdd]
    (repeat (first | ((with_reducible show RG _ _ (_ :: _) _ _ _); refine RG.go1 (k := ?_)) | ((with_reducible show DG _ _ (_ :: _) _ _ _ _ _); refine DG.go1 (k := ?_)) | with_reducible apply RG.nil | with_reducible apply W.seq | with_reducible apply W.reg | with_reducible apply W.skip | with_reducible apply W.block | with_reducible apply W.drw | with_reducible apply DG.nil | (with_reducible refine W.done (QB.n ?_)) | refine W.cndT ?_ | refine W.cndF ?_))
    (first | ((with_reducible show RG _ _ (_ :: _) _ _ _); refine RG.ca (cl) (k := ?_)) | ((with_reducible show DG _ _ (_ :: _) _ _ _ _ _); refine DG.ca (cl) (k := ?_)))
    (repeat (first | ((with_reducible show RG _ _ (_ :: _) _ _ _); refine RG.go1 (k := ?_)) | ((with_reducible show DG _ _ (_ :: _) _ _ _ _ _); refine DG.go1 (k := ?_)) | with_reducible apply RG.nil | with_reducible apply W.seq | with_reducible apply W.reg | with_reducible apply W.skip | with_reducible apply W.block | with_reducible apply W.drw | with_reducible apply DG.nil | (with_reducible refine W.done (QB.n ?_)) | refine W.cndT ?_ | refine W.cndF ?_))
    (first | ((with_reducible show RG _ _ (_ :: _) _ _ _); refine RG.ca (cl) (k := ?_)) | ((with_reducible show DG _ _ (_ :: _) _ _ _ _ _); refine DG.ca (cl) (k := ?_)))
    (repeat (first | ((with_reducible show RG _ _ (_ :: _) _ _ _); refine RG.go1 (k := ?_)) | ((with_reducible show DG _ _ (_ :: _) _ _ _ _ _); refine DG.go1 (k := ?_)) | with_reducible apply RG.nil | with_reducible apply W.seq | with_reducible apply W.reg | with_reducible apply W.skip | with_reducible apply W.block | with_reducible apply W.drw | with_reducible apply DG.nil | (with_reducible refine W.done (QB.n ?_)) | refine W.cndT ?_ | refine W.cndF ?_))
    (refine W.ret ?_; (repeat (with_reducible first | refine QB.r ?_ | refine QL.r ?_ | refine QC.r ?_)); refine QF.r ?_)
    exact RetOk.rs (vs := [_]) r_caravellaw10_HeapRight []
  by_cases n3 : 100 < h.d.length
  · refine acall_walk (N := 130) Try.func3 (by kernel_rfl) p_caravellaw10_HeapRight rfl ?_; unfold c_caravellaw10_HeapRight; dsimp only [enum, Nat.reduceAdd]
    (repeat (first | ((with_reducible show RG _ _ (_ :: _) _ _ _); refine RG.go1 (k := ?_)) | ((with_reducible show DG _ _ (_ :: _) _ _ _ _ _); refine DG.go1 (k := ?_)) | with_reducible apply RG.nil | with_reducible apply W.seq | with_reducible apply W.reg | with_reducible apply W.skip | with_reducible apply W.block | with_reducible apply W.drw | with_reducible apply DG.nil | (with_reducible refine W.done (QB.n ?_)) | refine W.cndT ?_ | refine W.cndF ?_))
    (first | ((with_reducible show RG _ _ (_ :: _) _ _ _); refine RG.ca (cl) (k := ?_)) | ((with_reducible show DG _ _ (_ :: _) _ _ _ _ _); refine DG.ca (cl) (k := ?_)))
    (repeat (first | ((with_reducible show RG _ _ (_ :: _) _ _ _); refine RG.go1 (k := ?_)) | ((with_reducible show DG _ _ (_ :: _) _ _ _ _ _); refine DG.go1 (k := ?_)) | with_reducible apply RG.nil | with_reducible apply W.seq | with_reducible apply W.reg | with_reducible apply W.skip | with_reducible apply W.block | with_reducible apply W.drw | with_reducible apply DG.nil | (with_reducible refine W.done (QB.n ?_)) | refine W.cndT ?_ | refine W.cndF ?_))
    (first | ((with_reducible show RG _ _ (_ :: _) _ _ _); refine RG.ca (cl) (k := ?_)) | ((with_reducible show DG _ _ (_ :: _) _ _ _ _ _); refine DG.ca (cl) (k := ?_)))
    (repeat (first | ((with_reducible show RG _ _ (_ :: _) _ _ _); refine RG.go1 (k := ?_)) | ((with_reducible show DG _ _ (_ :: _) _ _ _ _ _); refine DG.go1 (k := ?_)) | with_reducible apply RG.nil | with_reducible apply W.seq | with_reducible apply W.reg | with_reducible apply W.skip | with_reducible apply W.block | with_reducible apply W.drw | with_reducible apply DG.nil | (with_reducible refine W.done (QB.n ?_)) | refine W.cndT ?_ | refine W.cndF ?_))
    (refine W.ret ?_; (repeat (with_reducible first | refine QB.r ?_ | refine QL.r ?_ | refine QC.r ?_)); refine QF.r ?_)
    exact RetOk.rs (vs := [_]) r_caravellaw10_HeapRight []
  have cr := hRight_ok h (by omega) (by omega) (by omega) hi
  have hw0 : (decide ((h.s.length : Int) % 64 = 0) && decide (1 ≤ (h.s.length : Int) / 64) && decide ((h.s.length : Int) / 64 ≤ 64) && decide ((h.d.length : Int) = (h.s.length : Int) / 64)) = wanB h 0 := by
    unfold wanB
    rw [List.take_zero, show chB (h.s.length : Int) 0 [] = true from rfl, Bool.and_true, Bool.eq_iff_iff]
    simp only [Bool.and_eq_true, decide_eq_true_eq]
    unfold Hp.base
    constructor
    · rintro ⟨⟨⟨q1, q2⟩, q3⟩, q4⟩
      exact ⟨by omega, by omega, by omega, by omega⟩
    · rintro ⟨q1, q2, q3, q4⟩
      exact ⟨⟨⟨by omega, by omega⟩, by omega⟩, by omega⟩
  have hwe : wanB h h.l.length = rightB h := by unfold wanB rightB; rw [List.take_length]
  rw [← hwe] at cr
  unfold hv at cr
  refine acall_walk (N := 130) Try.func3 (by kernel_rfl) p_caravellaw10_HeapRight rfl ?_; unfold c_caravellaw10_HeapRight; dsimp only [enum, Nat.reduceAdd]
  (repeat (first | ((with_reducible show RG _ _ (_ :: _) _ _ _); refine RG.go1 (k := ?_)) | ((with_reducible show DG _ _ (_ :: _) _ _ _ _ _); refine DG.go1 (k := ?_)) | with_reducible apply RG.nil | with_reducible apply W.seq | with_reducible apply W.reg | with_reducible apply W.skip | with_reducible apply W.block | with_reducible apply W.drw | with_reducible apply DG.nil | (with_reducible refine W.done (QB.n ?_)) | refine W.cndT ?_ | refine W.cndF ?_))
  (first | ((with_reducible show RG _ _ (_ :: _) _ _ _); refine RG.ca (cl) (k := ?_)) | ((with_reducible show DG _ _ (_ :: _) _ _ _ _ _); refine DG.ca (cl) (k := ?_)))
  (repeat (first | ((with_reducible show RG _ _ (_ :: _) _ _ _); refine RG.go1 (k := ?_)) | ((with_reducible show DG _ _ (_ :: _) _ _ _ _ _); refine DG.go1 (k := ?_)) | with_reducible apply RG.nil | with_reducible apply W.seq | with_reducible apply W.reg | with_reducible apply W.skip | with_reducible apply W.block | with_reducible apply W.drw | with_reducible apply DG.nil | (with_reducible refine W.done (QB.n ?_)) | refine W.cndT ?_ | refine W.cndF ?_))
  refine W.loop (ι := {i : Nat // i ≤ h.l.length}) (fun i => ⟨[(55, .int .i64 i.1), (54, .int .i64 h.l.length), (53, .sl false 2 (h.l.map bk)), (4, .bool (wanB h i.1)), (1, .bptr 0 0)], [some [.sl false 1 (h.s.map by8), .sl false 2 (h.l.map bk), .sl false 1 (h.d.map bo)]], [], 1, 0⟩) (fun i => h.l.length - i.1) ⟨0, Nat.zero_le _⟩ ?_ ?_
  · dsimp only
    rw [es, el, ed, hw0]
    exact Wk.rn ([0] ) ( [])
  rintro ⟨i, hil⟩
  dsimp only
  clear hw0
  (repeat (first | ((with_reducible show RG _ _ (_ :: _) _ _ _); refine RG.go1 (k := ?_)) | ((with_reducible show DG _ _ (_ :: _) _ _ _ _ _); refine DG.go1 (k := ?_)) | with_reducible apply RG.nil | with_reducible apply W.seq | with_reducible apply W.reg | with_reducible apply W.skip | with_reducible apply W.block | with_reducible apply W.drw | with_reducible apply DG.nil | (with_reducible refine W.done (QB.n ?_))))
  refine W.cnd (fun h1 => ?_) (fun h1 => ?_)
  · have hlt : i < h.l.length := by simp at h1; omega
    have hE := bk_at h.l i hlt (j := ((i : Nat) : Int).toNat) (by simp)
    obtain ⟨i1, i2, i3, i4⟩ := hi _ (List.getElem_mem hlt)
    have hs1 := wanB_s h i hlt
    have hcb : wanB h i = true → ∀ x ∈ h.l.take i, 0 ≤ x.at_ ∧ 8 ≤ x.ln ∧ x.at_ + x.ln ≤ h.s.length := fun q => by
      unfold wanB at q
      simp only [Bool.and_eq_true] at q
      exact chB_mem q.2 (Int.le_refl _)
    clear h1
    cases hq : wanB h i
    · rw [hq, Bool.false_and] at hs1
      clear hcb i1 i2 i3 i4
      (repeat (first | ((with_reducible show RG _ _ (_ :: _) _ _ _); refine RG.go1 (k := ?_)) | ((with_reducible show DG _ _ (_ :: _) _ _ _ _ _); refine DG.go1 (k := ?_)) | with_reducible apply RG.nil | with_reducible apply W.seq | with_reducible apply W.reg | with_reducible apply W.skip | with_reducible apply W.block | with_reducible apply W.drw | with_reducible apply DG.nil | (with_reducible refine W.done (QB.n ?_))))
      (first | ((with_reducible show RG _ _ (_ :: _) _ _ _); refine RG.ew (cptr_of (hE) (by (conv => lhs; whnf) <;> exact rfl)) (k := ?_)) | ((with_reducible show DG _ _ (_ :: _) _ _ _ _ _); refine DG.ew (cptr_of (hE) (by (conv => lhs; whnf) <;> exact rfl)) (k := ?_)))
      (repeat (first | ((with_reducible show RG _ _ (_ :: _) _ _ _); refine RG.go1 (k := ?_)) | ((with_reducible show DG _ _ (_ :: _) _ _ _ _ _); refine DG.go1 (k := ?_)) | with_reducible apply RG.nil | with_reducible apply W.seq | with_reducible apply W.reg | with_reducible apply W.skip | with_reducible apply W.block | with_reducible apply W.drw | with_reducible apply DG.nil | (with_reducible refine W.done (QB.n ?_)) | refine W.cndT ?_ | refine W.cndF ?_))
      refine W.done (QL.n (⟨i + 1, by omega⟩) ?_ ?_)
      · dsimp only
        rw [hs1]
        exact Wk.rn ([0] ) ( [])
      · dsimp only; omega
    · rw [hq, Bool.true_and] at hs1
      have hcb := hcb hq
      have hen : (i = 0 ∧ endA 0 h.l i = 0) ∨ ∃ (j : Nat) (hj : j < h.l.length), i = j + 1 ∧ endA 0 h.l i = h.l[j].at_ + h.l[j].ln ∧ 0 ≤ h.l[j].at_ ∧ 8 ≤ h.l[j].ln ∧ h.l[j].at_ + h.l[j].ln ≤ h.s.length := by
        rcases Nat.eq_zero_or_pos i with q | q
        · subst q; exact .inl ⟨rfl, by unfold endA; rfl⟩
        · have hj : i - 1 < h.l.length := by omega
          have e1 := endA_s 0 h.l (i - 1) hj
          rw [show i - 1 + 1 = i by omega] at e1
          have hm : h.l[i - 1] ∈ h.l.take i := by
            rw [List.mem_take_iff_getElem]
            exact ⟨i - 1, by omega, rfl⟩
          exact .inr ⟨i - 1, hj, by omega, e1, hcb _ hm⟩
      clear hcb hq
      have hen0 : 0 ≤ endA 0 h.l i := by
        rcases hen with q | ⟨j, hj, q⟩ <;> omega
      generalize endA 0 h.l i = e at *
      unfold okB at hs1
      obtain ⟨xa, hxa⟩ : ∃ a, h.l[i].at_ = a := ⟨_, rfl⟩
      obtain ⟨xn, hxn⟩ : ∃ a, h.l[i].ln = a := ⟨_, rfl⟩
      rw [hxa] at hs1 hE i1 i2
      rw [hxn] at hs1 hE i3 i4
      clear hxa hxn
      by_cases c0 : 0 ≤ xa
      · by_cases c2 : xa % 8 = 0
        · by_cases c3 : 8 ≤ xn
          · by_cases c4 : xn % 8 = 0
            · by_cases c5 : xn ≤ h.s.length
              · by_cases c6 : xa ≤ h.s.length - xn
                · have hs2 : wanB h (i + 1) = decide (e ≤ xa) := by
                    rw [hs1, Bool.eq_iff_iff]
                    simp only [decide_eq_true_eq]
                    omega
                  clear hs1
                  rcases hen with ⟨q1, q2⟩ | ⟨j, hj, rfl, q2, q3, q4, q5⟩
                  · have hs3 : wanB h (i + 1) = true := by rw [hs2]; exact decide_eq_true (by omega)
                    clear hs2
                    (repeat (first | ((with_reducible show RG _ _ (_ :: _) _ _ _); refine RG.go1 (k := ?_)) | ((with_reducible show DG _ _ (_ :: _) _ _ _ _ _); refine DG.go1 (k := ?_)) | with_reducible apply RG.nil | with_reducible apply W.seq | with_reducible apply W.reg | with_reducible apply W.skip | with_reducible apply W.block | with_reducible apply W.drw | with_reducible apply DG.nil | (with_reducible refine W.done (QB.n ?_))))
                    (first | ((with_reducible show RG _ _ (_ :: _) _ _ _); refine RG.ew (cptr_of (hE) (by (conv => lhs; whnf) <;> exact rfl)) (k := ?_)) | ((with_reducible show DG _ _ (_ :: _) _ _ _ _ _); refine DG.ew (cptr_of (hE) (by (conv => lhs; whnf) <;> exact rfl)) (k := ?_)))
                    (repeat (first | ((with_reducible show RG _ _ (_ :: _) _ _ _); refine RG.go1 (k := ?_)) | ((with_reducible show DG _ _ (_ :: _) _ _ _ _ _); refine DG.go1 (k := ?_)) | with_reducible apply RG.nil | with_reducible apply W.seq | with_reducible apply W.reg | with_reducible apply W.skip | with_reducible apply W.block | with_reducible apply W.drw | with_reducible apply DG.nil | (with_reducible refine W.done (QB.n ?_)) | refine W.cndT ?_ | refine W.cndF ?_))
                    refine W.done (QL.n (⟨i + 1, by omega⟩) ?_ ?_)
                    · dsimp only
                      rw [hs3]
                      exact Wk.rn ([0] ) ( [])
                    · dsimp only; omega
                  · have hF := bk_at h.l j hj (j := (((j + 1 : Nat) : Int) - 1).toNat) (by omega)
                    rw [q2] at hs2
                    generalize h.l[j].at_ = ya at *
                    generalize h.l[j].ln = yn at *
                    clear q2
                    (repeat (first | ((with_reducible show RG _ _ (_ :: _) _ _ _); refine RG.go1 (k := ?_)) | ((with_reducible show DG _ _ (_ :: _) _ _ _ _ _); refine DG.go1 (k := ?_)) | with_reducible apply RG.nil | with_reducible apply W.seq | with_reducible apply W.reg | with_reducible apply W.skip | with_reducible apply W.block | with_reducible apply W.drw | with_reducible apply DG.nil | (with_reducible refine W.done (QB.n ?_))))
                    (first | ((with_reducible show RG _ _ (_ :: _) _ _ _); refine RG.ew (cptr_of (hE) (by (conv => lhs; whnf) <;> exact rfl)) (k := ?_)) | ((with_reducible show DG _ _ (_ :: _) _ _ _ _ _); refine DG.ew (cptr_of (hE) (by (conv => lhs; whnf) <;> exact rfl)) (k := ?_)))
                    (repeat (first | ((with_reducible show RG _ _ (_ :: _) _ _ _); refine RG.go1 (k := ?_)) | ((with_reducible show DG _ _ (_ :: _) _ _ _ _ _); refine DG.go1 (k := ?_)) | with_reducible apply RG.nil | with_reducible apply W.seq | with_reducible apply W.reg | with_reducible apply W.skip | with_reducible apply W.block | with_reducible apply W.drw | with_reducible apply DG.nil | (with_reducible refine W.done (QB.n ?_)) | refine W.cndT ?_ | refine W.cndF ?_))
                    (first | ((with_reducible show RG _ _ (_ :: _) _ _ _); refine RG.ew (cptr_of (hF) (by (conv => lhs; whnf) <;> exact rfl)) (k := ?_)) | ((with_reducible show DG _ _ (_ :: _) _ _ _ _ _); refine DG.ew (cptr_of (hF) (by (conv => lhs; whnf) <;> exact rfl)) (k := ?_)))
                    (repeat (first | ((with_reducible show RG _ _ (_ :: _) _ _ _); refine RG.go1 (k := ?_)) | ((with_reducible show DG _ _ (_ :: _) _ _ _ _ _); refine DG.go1 (k := ?_)) | with_reducible apply RG.nil | with_reducible apply W.seq | with_reducible apply W.reg | with_reducible apply W.skip | with_reducible apply W.block | with_reducible apply W.drw | with_reducible apply DG.nil | (with_reducible refine W.done (QB.n ?_)) | refine W.cndT ?_ | refine W.cndF ?_))
                    (first | ((with_reducible show RG _ _ (_ :: _) _ _ _); refine RG.ew (cptr_of (hF) (by (conv => lhs; whnf) <;> exact rfl)) (k := ?_)) | ((with_reducible show DG _ _ (_ :: _) _ _ _ _ _); refine DG.ew (cptr_of (hF) (by (conv => lhs; whnf) <;> exact rfl)) (k := ?_)))
                    (repeat (first | ((with_reducible show RG _ _ (_ :: _) _ _ _); refine RG.go1 (k := ?_)) | ((with_reducible show DG _ _ (_ :: _) _ _ _ _ _); refine DG.go1 (k := ?_)) | with_reducible apply RG.nil | with_reducible apply W.seq | with_reducible apply W.reg | with_reducible apply W.skip | with_reducible apply W.block | with_reducible apply W.drw | with_reducible apply DG.nil | (with_reducible refine W.done (QB.n ?_)) | refine W.cndT ?_ | refine W.cndF ?_))
                    refine W.done (QL.n (⟨j + 1 + 1, by omega⟩) ?_ ?_)
                    · dsimp only
                      rw [hs2]
                      exact Wk.rn ([0] ) ( [])
                    · dsimp only; omega
                · have hs2 : wanB h (i + 1) = false := by rw [hs1]; exact decide_eq_false (by omega)
                  clear hs1 hen
                  (repeat (first | ((with_reducible show RG _ _ (_ :: _) _ _ _); refine RG.go1 (k := ?_)) | ((with_reducible show DG _ _ (_ :: _) _ _ _ _ _); refine DG.go1 (k := ?_)) | with_reducible apply RG.nil | with_reducible apply W.seq | with_reducible apply W.reg | with_reducible apply W.skip | with_reducible apply W.block | with_reducible apply W.drw | with_reducible apply DG.nil | (with_reducible refine W.done (QB.n ?_))))
                  (first | ((with_reducible show RG _ _ (_ :: _) _ _ _); refine RG.ew (cptr_of (hE) (by (conv => lhs; whnf) <;> exact rfl)) (k := ?_)) | ((with_reducible show DG _ _ (_ :: _) _ _ _ _ _); refine DG.ew (cptr_of (hE) (by (conv => lhs; whnf) <;> exact rfl)) (k := ?_)))
                  (repeat (first | ((with_reducible show RG _ _ (_ :: _) _ _ _); refine RG.go1 (k := ?_)) | ((with_reducible show DG _ _ (_ :: _) _ _ _ _ _); refine DG.go1 (k := ?_)) | with_reducible apply RG.nil | with_reducible apply W.seq | with_reducible apply W.reg | with_reducible apply W.skip | with_reducible apply W.block | with_reducible apply W.drw | with_reducible apply DG.nil | (with_reducible refine W.done (QB.n ?_)) | refine W.cndT ?_ | refine W.cndF ?_))
                  refine W.done (QL.n (⟨i + 1, by omega⟩) ?_ ?_)
                  · dsimp only
                    rw [hs2]
                    exact Wk.rn ([0] ) ( [])
                  · dsimp only; omega
              · have hs2 : wanB h (i + 1) = false := by rw [hs1]; exact decide_eq_false (by omega)
                clear hs1 hen
                (repeat (first | ((with_reducible show RG _ _ (_ :: _) _ _ _); refine RG.go1 (k := ?_)) | ((with_reducible show DG _ _ (_ :: _) _ _ _ _ _); refine DG.go1 (k := ?_)) | with_reducible apply RG.nil | with_reducible apply W.seq | with_reducible apply W.reg | with_reducible apply W.skip | with_reducible apply W.block | with_reducible apply W.drw | with_reducible apply DG.nil | (with_reducible refine W.done (QB.n ?_))))
                (first | ((with_reducible show RG _ _ (_ :: _) _ _ _); refine RG.ew (cptr_of (hE) (by (conv => lhs; whnf) <;> exact rfl)) (k := ?_)) | ((with_reducible show DG _ _ (_ :: _) _ _ _ _ _); refine DG.ew (cptr_of (hE) (by (conv => lhs; whnf) <;> exact rfl)) (k := ?_)))
                (repeat (first | ((with_reducible show RG _ _ (_ :: _) _ _ _); refine RG.go1 (k := ?_)) | ((with_reducible show DG _ _ (_ :: _) _ _ _ _ _); refine DG.go1 (k := ?_)) | with_reducible apply RG.nil | with_reducible apply W.seq | with_reducible apply W.reg | with_reducible apply W.skip | with_reducible apply W.block | with_reducible apply W.drw | with_reducible apply DG.nil | (with_reducible refine W.done (QB.n ?_)) | refine W.cndT ?_ | refine W.cndF ?_))
                refine W.done (QL.n (⟨i + 1, by omega⟩) ?_ ?_)
                · dsimp only
                  rw [hs2]
                  exact Wk.rn ([0] ) ( [])
                · dsimp only; omega
            · have hs2 : wanB h (i + 1) = false := by rw [hs1]; exact decide_eq_false (by omega)
              clear hs1 hen
              (repeat (first | ((with_reducible show RG _ _ (_ :: _) _ _ _); refine RG.go1 (k := ?_)) | ((with_reducible show DG _ _ (_ :: _) _ _ _ _ _); refine DG.go1 (k := ?_)) | with_reducible apply RG.nil | with_reducible apply W.seq | with_reducible apply W.reg | with_reducible apply W.skip | with_reducible apply W.block | with_reducible apply W.drw | with_reducible apply DG.nil | (with_reducible refine W.done (QB.n ?_))))
              (first | ((with_reducible show RG _ _ (_ :: _) _ _ _); refine RG.ew (cptr_of (hE) (by (conv => lhs; whnf) <;> exact rfl)) (k := ?_)) | ((with_reducible show DG _ _ (_ :: _) _ _ _ _ _); refine DG.ew (cptr_of (hE) (by (conv => lhs; whnf) <;> exact rfl)) (k := ?_)))
              (repeat (first | ((with_reducible show RG _ _ (_ :: _) _ _ _); refine RG.go1 (k := ?_)) | ((with_reducible show DG _ _ (_ :: _) _ _ _ _ _); refine DG.go1 (k := ?_)) | with_reducible apply RG.nil | with_reducible apply W.seq | with_reducible apply W.reg | with_reducible apply W.skip | with_reducible apply W.block | with_reducible apply W.drw | with_reducible apply DG.nil | (with_reducible refine W.done (QB.n ?_)) | refine W.cndT ?_ | refine W.cndF ?_))
              refine W.done (QL.n (⟨i + 1, by omega⟩) ?_ ?_)
              · dsimp only
                rw [hs2]
                exact Wk.rn ([0] ) ( [])
              · dsimp only; omega
          · have hs2 : wanB h (i + 1) = false := by rw [hs1]; exact decide_eq_false (by omega)
            clear hs1 hen
            (repeat (first | ((with_reducible show RG _ _ (_ :: _) _ _ _); refine RG.go1 (k := ?_)) | ((with_reducible show DG _ _ (_ :: _) _ _ _ _ _); refine DG.go1 (k := ?_)) | with_reducible apply RG.nil | with_reducible apply W.seq | with_reducible apply W.reg | with_reducible apply W.skip | with_reducible apply W.block | with_reducible apply W.drw | with_reducible apply DG.nil | (with_reducible refine W.done (QB.n ?_))))
            (first | ((with_reducible show RG _ _ (_ :: _) _ _ _); refine RG.ew (cptr_of (hE) (by (conv => lhs; whnf) <;> exact rfl)) (k := ?_)) | ((with_reducible show DG _ _ (_ :: _) _ _ _ _ _); refine DG.ew (cptr_of (hE) (by (conv => lhs; whnf) <;> exact rfl)) (k := ?_)))
            (repeat (first | ((with_reducible show RG _ _ (_ :: _) _ _ _); refine RG.go1 (k := ?_)) | ((with_reducible show DG _ _ (_ :: _) _ _ _ _ _); refine DG.go1 (k := ?_)) | with_reducible apply RG.nil | with_reducible apply W.seq | with_reducible apply W.reg | with_reducible apply W.skip | with_reducible apply W.block | with_reducible apply W.drw | with_reducible apply DG.nil | (with_reducible refine W.done (QB.n ?_)) | refine W.cndT ?_ | refine W.cndF ?_))
            refine W.done (QL.n (⟨i + 1, by omega⟩) ?_ ?_)
            · dsimp only
              rw [hs2]
              exact Wk.rn ([0] ) ( [])
            · dsimp only; omega
        · have hs2 : wanB h (i + 1) = false := by rw [hs1]; exact decide_eq_false (by omega)
          clear hs1 hen
          (repeat (first | ((with_reducible show RG _ _ (_ :: _) _ _ _); refine RG.go1 (k := ?_)) | ((with_reducible show DG _ _ (_ :: _) _ _ _ _ _); refine DG.go1 (k := ?_)) | with_reducible apply RG.nil | with_reducible apply W.seq | with_reducible apply W.reg | with_reducible apply W.skip | with_reducible apply W.block | with_reducible apply W.drw | with_reducible apply DG.nil | (with_reducible refine W.done (QB.n ?_))))
          (first | ((with_reducible show RG _ _ (_ :: _) _ _ _); refine RG.ew (cptr_of (hE) (by (conv => lhs; whnf) <;> exact rfl)) (k := ?_)) | ((with_reducible show DG _ _ (_ :: _) _ _ _ _ _); refine DG.ew (cptr_of (hE) (by (conv => lhs; whnf) <;> exact rfl)) (k := ?_)))
          (repeat (first | ((with_reducible show RG _ _ (_ :: _) _ _ _); refine RG.go1 (k := ?_)) | ((with_reducible show DG _ _ (_ :: _) _ _ _ _ _); refine DG.go1 (k := ?_)) | with_reducible apply RG.nil | with_reducible apply W.seq | with_reducible apply W.reg | with_reducible apply W.skip | with_reducible apply W.block | with_reducible apply W.drw | with_reducible apply DG.nil | (with_reducible refine W.done (QB.n ?_)) | refine W.cndT ?_ | refine W.cndF ?_))
          refine W.done (QL.n (⟨i + 1, by omega⟩) ?_ ?_)
          · dsimp only
            rw [hs2]
            exact Wk.rn ([0] ) ( [])
          · dsimp only; omega
      · have hs2 : wanB h (i + 1) = false := by rw [hs1]; exact decide_eq_false (by omega)
        clear hs1 hen
        (repeat (first | ((with_reducible show RG _ _ (_ :: _) _ _ _); refine RG.go1 (k := ?_)) | ((with_reducible show DG _ _ (_ :: _) _ _ _ _ _); refine DG.go1 (k := ?_)) | with_reducible apply RG.nil | with_reducible apply W.seq | with_reducible apply W.reg | with_reducible apply W.skip | with_reducible apply W.block | with_reducible apply W.drw | with_reducible apply DG.nil | (with_reducible refine W.done (QB.n ?_))))
        (first | ((with_reducible show RG _ _ (_ :: _) _ _ _); refine RG.ew (cptr_of (hE) (by (conv => lhs; whnf) <;> exact rfl)) (k := ?_)) | ((with_reducible show DG _ _ (_ :: _) _ _ _ _ _); refine DG.ew (cptr_of (hE) (by (conv => lhs; whnf) <;> exact rfl)) (k := ?_)))
        (repeat (first | ((with_reducible show RG _ _ (_ :: _) _ _ _); refine RG.go1 (k := ?_)) | ((with_reducible show DG _ _ (_ :: _) _ _ _ _ _); refine DG.go1 (k := ?_)) | with_reducible apply RG.nil | with_reducible apply W.seq | with_reducible apply W.reg | with_reducible apply W.skip | with_reducible apply W.block | with_reducible apply W.drw | with_reducible apply DG.nil | (with_reducible refine W.done (QB.n ?_)) | refine W.cndT ?_ | refine W.cndF ?_))
        refine W.done (QL.n (⟨i + 1, by omega⟩) ?_ ?_)
        · dsimp only
          rw [hs2]
          exact Wk.rn ([0] ) ( [])
        · dsimp only; omega
  · obtain rfl : i = h.l.length := by simp at h1; omega
    (refine W.exit ?_; (repeat (first | (with_reducible first | refine QL.x ?_ | refine QC.x ?_ | refine QB.x ?_) | (with_reducible refine QB.o (by decide) ?_))))
    (repeat (first | ((with_reducible show RG _ _ (_ :: _) _ _ _); refine RG.go1 (k := ?_)) | ((with_reducible show DG _ _ (_ :: _) _ _ _ _ _); refine DG.go1 (k := ?_)) | with_reducible apply RG.nil | with_reducible apply W.seq | with_reducible apply W.reg | with_reducible apply W.skip | with_reducible apply W.block | with_reducible apply W.drw | with_reducible apply DG.nil | (with_reducible refine W.done (QB.n ?_))))
    (first | ((with_reducible show RG _ _ (_ :: _) _ _ _); refine RG.ca (cr) (k := ?_)) | ((with_reducible show DG _ _ (_ :: _) _ _ _ _ _); refine DG.ca (cr) (k := ?_)))
    (repeat (first | ((with_reducible show RG _ _ (_ :: _) _ _ _); refine RG.go1 (k := ?_)) | ((with_reducible show DG _ _ (_ :: _) _ _ _ _ _); refine DG.go1 (k := ?_)) | with_reducible apply RG.nil | with_reducible apply W.seq | with_reducible apply W.reg | with_reducible apply W.skip | with_reducible apply W.block | with_reducible apply W.drw | with_reducible apply DG.nil | (with_reducible refine W.done (QB.n ?_)) | refine W.cndT ?_ | refine W.cndF ?_))
    (refine W.ret ?_; (repeat (with_reducible first | refine QB.r ?_ | refine QL.r ?_ | refine QC.r ?_)); refine QF.r ?_)
    exact RetOk.rs (vs := [_]) r_caravellaw10_HeapRight []
theorem len_le {n : Nat} (h : n ≤ maxLen) : (n : Int) ≤ 9223372036854775807 := by
  have h2 : (maxLen : Int) ≤ 9223372036854775807 := by decide
  omega
theorem HeapRight_walk {r : Reach} {b0 base : Nat} {H : Type} {enc : TypeId × Value → H} {spare : Nat → Bool} {held : Bool} {d : DataW H} {p : List MemPlace} (v : Value) (W : World) (hv : Value.okWide Try.prog W r b0 26 v) (k : DataW.Trod enc Try.prog W base spare held 26 v d p) :
    Calls Try.prog 3 #[v] W fun e W' => e = .returned (.bool true) ∧ Below W.heap.size W W' := by
  obtain ⟨cs0, hr, hf⟩ := arg_agg (n := 5) (ts := [.sl [.int .u8], .sl [.int .i64, .int .i64], .sl [.bool]]) (.inl ⟨_, Try.underlying26⟩) (by kernel_rfl) hv k
  obtain ⟨a, cs, rfl, h1, h⟩ := hf.inv
  obtain ⟨b, cs, rfl, h2, h⟩ := h.inv
  obtain ⟨c, cs, rfl, h3, h⟩ := h.inv
  cases h.inv0
  obtain ⟨s, rfl, l1⟩ := h1.bytes
  obtain ⟨l, rfl, hq, l2⟩ := h2.rows (fun x : Blk => [.int .i64 x.at_, .int .i64 x.ln]) I64 (by decide) (fun cs h => by
    obtain ⟨_, cs, rfl, g1, h⟩ := h.inv
    obtain ⟨_, cs, rfl, g2, h⟩ := h.inv
    cases h.inv0
    obtain ⟨z1, rfl, w1⟩ := g1.int_inv
    obtain ⟨z2, rfl, w2⟩ := g2.int_inv
    have b1 := bounds_i64 w1
    have b2 := bounds_i64 w2
    exact ⟨⟨z1, z2⟩, rfl, b1.1, b1.2, b2.1, b2.2⟩)
  obtain ⟨dl, rfl, _, l3⟩ := h3.rows1 (fun x : Bool => AV.bool x) (fun _ => True) (fun c h => by
    obtain ⟨z, rfl⟩ := h.bool_inv
    exact ⟨z, rfl, trivial⟩)
  exact acall_lawF (heapRight_ok ⟨s, l, dl⟩ (len_le l1) (len_le l2) (len_le l3) hq) W [_] ⟨.pure _ _ hr, trivial⟩
end Go.Proofs.Ytjacmhaeemhinaa
