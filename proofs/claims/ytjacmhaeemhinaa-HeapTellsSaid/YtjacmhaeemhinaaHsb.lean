/- The document's heaps: New, Room, In, put, Store, Load, Tell, Hear; the law's page. -/
import Derived.Test.YtjacmhaeemhinaaHo
namespace Go.Proofs.Ytjacmhaeemhinaa
open Go.RowKit
set_option linter.unusedVariables false
set_option linter.unusedSimpArgs false
set_option maxRecDepth 100000
set_option maxHeartbeats 4000000
theorem slt_of {a b : List UInt8} (h : a = b) : AV.str a = AV.str b := by rw [h]
def rb (x : Blk) : AV := .agg [.int .i64 x.at_, .int .i64 (x.at_ + x.ln)]
theorem rb_at (l : List Blk) (i : Nat) (h : i < l.length) {j : Nat} (hj : j = i) : (l.map rb)[j]?.getD .any = .agg [.int .i64 l[i].at_, .int .i64 (l[i].at_ + l[i].ln)] := at_map rb l i _ (List.getElem?_eq_getElem h) hj
theorem rb_len (l : List Blk) : (l.map rb).length = l.length := by simp
theorem rb_pure (l : List Blk) : (l.map rb).all pureV = true := by simp [rb, pureV, pureC]
def xv (h : Hp) : AV := .agg [.str h.s, .sl false 2 (h.l.map rb), .sl false 1 (h.d.map bo)]
theorem xNew_ok {m : Nat} (h2 : m ≤ 64) : ACall Try.prog 18 [.int .i64 m] (xv (hnew m)) [] := by
  unfold xv hnew
  dsimp only [List.map_nil]
  rw [← rep_bo]
  have q2 : ALe .nil (.sl false 2 []) := ALe.nil _ _
  have e1 : (64 * (m : Int)).toNat = 64 * m := by omega
  refine acall_walk (N := 10) Try.func18 (by kernel_rfl) p_caravelref10_New rfl ?_; unfold c_caravelref10_New; dsimp only [enum, Nat.reduceAdd]
  (repeat (first | ((with_reducible show RG _ _ (_ :: _) _ _ _); refine RG.go1 (k := ?_)) | ((with_reducible show DG _ _ (_ :: _) _ _ _ _ _); refine DG.go1 (k := ?_)) | (with_reducible first | apply RG.nil | apply W.seq | apply W.reg | apply W.skip | apply W.block | apply W.drw | apply DG.nil | refine W.done (QB.n ?_)) | refine W.cndT ?_ | refine W.cndF ?_))
  rw [e1, rep_by8]
  (repeat (first | ((with_reducible show RG _ _ (_ :: _) _ _ _); refine RG.go1 (k := ?_)) | ((with_reducible show DG _ _ (_ :: _) _ _ _ _ _); refine DG.go1 (k := ?_)) | (with_reducible first | apply RG.nil | apply W.seq | apply W.reg | apply W.skip | apply W.block | apply W.drw | apply DG.nil | refine W.done (QB.n ?_)) | refine W.cndT ?_ | refine W.cndF ?_))
  rw [show ((m : Nat) : Int).toNat = m by omega]
  (refine W.ret ?_; (repeat (with_reducible first | refine QB.r ?_ | refine QL.r ?_ | refine QC.r ?_)); refine QF.r ?_)
  (refine RetOk.wk (Wk.frz (b := 1) rfl rfl) ?_; refine RetOk.wk (Wk.box (b := 0) (cs' := [_, _, _]) rfl (by dsimp only [ClL]; (repeat' (first | exact True.intro | exact Cl.ice rfl rfl rfl (by first | assumption | decide | omega | (simp; (first | (all_goals fail) | fail)) | (simp <;> omega)) (by first | exact take_all _ | exact take_len (by first | (simp; (first | (all_goals fail) | fail)) | (simp <;> omega)) | exact rfl) | exact Cl.le (.refl _) | apply And.intro)); (first | (all_goals fail) | fail))) ?_; dsimp only [setO])
  exact RetOk.rs (vs := [_]) r_caravelref10_New []
def rmB (a n : Int) (x : Blk) : Bool := !(decide (x.at_ < a + n) && decide (a < x.at_ + x.ln))
def roomB (h : Hp) (a n : Int) : Bool := decide (a + n ≤ h.s.length) && h.l.all (rmB a n)
theorem all_take_s {α : Type} (l : List α) (p : α → Bool) (i : Nat) (h : i < l.length) : (l.take (i + 1)).all p = ((l.take i).all p && p l[i]) := by
  rw [List.take_succ_eq_append_getElem h, List.all_append]; simp
theorem all_stop {α : Type} (l : List α) (p : α → Bool) (i : Nat) (h : i < l.length) (hp : p l[i] = false) : l.all p = false := by
  rw [List.all_eq_false]; exact ⟨_, List.getElem_mem h, by rw [hp]; decide⟩
theorem any_stop {α : Type} (l : List α) (p : α → Bool) (i : Nat) (h : i < l.length) (hp : p l[i] = true) : l.any p = true := by
  rw [List.any_eq_true]; exact ⟨_, List.getElem_mem h, hp⟩
theorem drop_all {α : Type} (l : List α) (p : α → Bool) (i : Nat) (h : i < l.length) : (l.drop i).all p = (p l[i] && (l.drop (i + 1)).all p) := by
  rw [List.drop_eq_getElem_cons h, List.all_cons]
theorem drop_any {α : Type} (l : List α) (p : α → Bool) (i : Nat) (h : i < l.length) : (l.drop i).any p = (p l[i] || (l.drop (i + 1)).any p) := by
  rw [List.drop_eq_getElem_cons h, List.any_cons]
theorem xRoom_ok {h : Hp} {m : Nat} (k : h.Ok m) {a n : Int} (ha : 0 ≤ a ∧ a ≤ 100000) (hn : 0 ≤ n ∧ n ≤ 100000) : ACall Try.prog 46 [xv h, .int .i64 a, .int .i64 n] (.bool (roomB h a n)) [] := by
  obtain ⟨l1, l2, l3⟩ := k.lens
  have el := rb_len h.l
  have hb := k.bok
  unfold xv roomB
  by_cases q1 : a + n ≤ h.s.length
  · rw [decide_eq_true q1, Bool.true_and]
    obtain ⟨R, hR⟩ : ∃ R, h.l.all (rmB a n) = R := ⟨_, rfl⟩
    rw [hR]
    refine acall_walk (N := 42) Try.func46 (by kernel_rfl) p_caravelref10_Room rfl ?_; unfold c_caravelref10_Room; dsimp only [enum, Nat.reduceAdd]
    (repeat (first | ((with_reducible show RG _ _ (_ :: _) _ _ _); refine RG.go1 (k := ?_)) | ((with_reducible show DG _ _ (_ :: _) _ _ _ _ _); refine DG.go1 (k := ?_)) | (with_reducible first | apply RG.nil | apply W.seq | apply W.reg | apply W.skip | apply W.block | apply W.drw | apply DG.nil | refine W.done (QB.n ?_)) | refine W.cndT ?_ | refine W.cndF ?_))
    refine W.loop (ι := {i : Nat // i ≤ h.l.length ∧ (h.l.drop i).all (rmB a n) = R}) (fun i => ⟨[(7, .int .i64 i.1), (3, .bptr 0 0), (1, .int .i64 a), (2, .int .i64 n)], [some [.str h.s, .sl false 2 (h.l.map rb), .sl false 1 (h.d.map bo)]], [], 1, 0⟩) (fun i => h.l.length - i.1) ⟨0, Nat.zero_le _, hR⟩ ?_ ?_
    · exact Wk.rn ([0] ) ( [])
    rintro ⟨i, hi, hd⟩
    dsimp only
    clear hR
    (repeat (first | ((with_reducible show RG _ _ (_ :: _) _ _ _); refine RG.go1 (k := ?_)) | ((with_reducible show DG _ _ (_ :: _) _ _ _ _ _); refine DG.go1 (k := ?_)) | (with_reducible first | apply RG.nil | apply W.seq | apply W.reg | apply W.skip | apply W.block | apply W.drw | apply DG.nil | refine W.done (QB.n ?_))))
    refine W.cnd (fun h1 => ?_) (fun h1 => ?_)
    · have hlt : i < h.l.length := by simp at h1; omega
      have hE := rb_at h.l i hlt (j := ((i : Nat) : Int).toNat) (by simp)
      obtain ⟨b1, b2, b3, b4, b5⟩ := hb _ (List.getElem_mem hlt)
      rw [drop_all _ _ _ hlt] at hd
      unfold rmB at hd
      generalize h.l[i] = x at *
      clear h1 hb k b2 b4
      by_cases c1 : x.at_ < a + n
      · rw [decide_eq_true c1, Bool.true_and] at hd
        by_cases c2 : a < x.at_ + x.ln
        · rw [decide_eq_true c2, Bool.not_true, Bool.false_and] at hd
          subst hd
          (repeat (first | ((with_reducible show RG _ _ (_ :: _) _ _ _); refine RG.go1 (k := ?_)) | ((with_reducible show DG _ _ (_ :: _) _ _ _ _ _); refine DG.go1 (k := ?_)) | (with_reducible first | apply RG.nil | apply W.seq | apply W.reg | apply W.skip | apply W.block | apply W.drw | apply DG.nil | refine W.done (QB.n ?_))))
          (first | ((with_reducible show RG _ _ (_ :: _) _ _ _); refine RG.ew (cptr_of (hE) (by (conv => lhs; whnf) <;> exact rfl)) (k := ?_)) | ((with_reducible show DG _ _ (_ :: _) _ _ _ _ _); refine DG.ew (cptr_of (hE) (by (conv => lhs; whnf) <;> exact rfl)) (k := ?_)))
          (repeat (first | ((with_reducible show RG _ _ (_ :: _) _ _ _); refine RG.go1 (k := ?_)) | ((with_reducible show DG _ _ (_ :: _) _ _ _ _ _); refine DG.go1 (k := ?_)) | (with_reducible first | apply RG.nil | apply W.seq | apply W.reg | apply W.skip | apply W.block | apply W.drw | apply DG.nil | refine W.done (QB.n ?_)) | refine W.cndT ?_ | refine W.cndF ?_))
          (first | ((with_reducible show RG _ _ (_ :: _) _ _ _); refine RG.ewg (cptr_of (hE) (by (conv => lhs; whnf) <;> exact rfl)) (k := ?_)) | ((with_reducible show DG _ _ (_ :: _) _ _ _ _ _); refine DG.ewg (cptr_of (hE) (by (conv => lhs; whnf) <;> exact rfl)) (k := ?_)))
          (repeat (first | ((with_reducible show RG _ _ (_ :: _) _ _ _); refine RG.go1 (k := ?_)) | ((with_reducible show DG _ _ (_ :: _) _ _ _ _ _); refine DG.go1 (k := ?_)) | (with_reducible first | apply RG.nil | apply W.seq | apply W.reg | apply W.skip | apply W.block | apply W.drw | apply DG.nil | refine W.done (QB.n ?_)) | refine W.cndT ?_ | refine W.cndF ?_))
          (refine W.ret ?_; (repeat (with_reducible first | refine QB.r ?_ | refine QL.r ?_ | refine QC.r ?_)); refine QF.r ?_)
          exact RetOk.rs (vs := [_]) r_caravelref10_Room []
        · rw [decide_eq_false c2, Bool.not_false, Bool.true_and] at hd
          (repeat (first | ((with_reducible show RG _ _ (_ :: _) _ _ _); refine RG.go1 (k := ?_)) | ((with_reducible show DG _ _ (_ :: _) _ _ _ _ _); refine DG.go1 (k := ?_)) | (with_reducible first | apply RG.nil | apply W.seq | apply W.reg | apply W.skip | apply W.block | apply W.drw | apply DG.nil | refine W.done (QB.n ?_))))
          (first | ((with_reducible show RG _ _ (_ :: _) _ _ _); refine RG.ew (cptr_of (hE) (by (conv => lhs; whnf) <;> exact rfl)) (k := ?_)) | ((with_reducible show DG _ _ (_ :: _) _ _ _ _ _); refine DG.ew (cptr_of (hE) (by (conv => lhs; whnf) <;> exact rfl)) (k := ?_)))
          (repeat (first | ((with_reducible show RG _ _ (_ :: _) _ _ _); refine RG.go1 (k := ?_)) | ((with_reducible show DG _ _ (_ :: _) _ _ _ _ _); refine DG.go1 (k := ?_)) | (with_reducible first | apply RG.nil | apply W.seq | apply W.reg | apply W.skip | apply W.block | apply W.drw | apply DG.nil | refine W.done (QB.n ?_)) | refine W.cndT ?_ | refine W.cndF ?_))
          (first | ((with_reducible show RG _ _ (_ :: _) _ _ _); refine RG.ewg (cptr_of (hE) (by (conv => lhs; whnf) <;> exact rfl)) (k := ?_)) | ((with_reducible show DG _ _ (_ :: _) _ _ _ _ _); refine DG.ewg (cptr_of (hE) (by (conv => lhs; whnf) <;> exact rfl)) (k := ?_)))
          (repeat (first | ((with_reducible show RG _ _ (_ :: _) _ _ _); refine RG.go1 (k := ?_)) | ((with_reducible show DG _ _ (_ :: _) _ _ _ _ _); refine DG.go1 (k := ?_)) | (with_reducible first | apply RG.nil | apply W.seq | apply W.reg | apply W.skip | apply W.block | apply W.drw | apply DG.nil | refine W.done (QB.n ?_)) | refine W.cndT ?_ | refine W.cndF ?_))
          refine W.done (QL.n (⟨i + 1, by omega, hd⟩) ?_ ?_)
          · exact Wk.rn ([0] ) ( [])
          · dsimp only; omega
      · rw [decide_eq_false c1, Bool.false_and, Bool.not_false, Bool.true_and] at hd
        (repeat (first | ((with_reducible show RG _ _ (_ :: _) _ _ _); refine RG.go1 (k := ?_)) | ((with_reducible show DG _ _ (_ :: _) _ _ _ _ _); refine DG.go1 (k := ?_)) | (with_reducible first | apply RG.nil | apply W.seq | apply W.reg | apply W.skip | apply W.block | apply W.drw | apply DG.nil | refine W.done (QB.n ?_))))
        (first | ((with_reducible show RG _ _ (_ :: _) _ _ _); refine RG.ew (cptr_of (hE) (by (conv => lhs; whnf) <;> exact rfl)) (k := ?_)) | ((with_reducible show DG _ _ (_ :: _) _ _ _ _ _); refine DG.ew (cptr_of (hE) (by (conv => lhs; whnf) <;> exact rfl)) (k := ?_)))
        (repeat (first | ((with_reducible show RG _ _ (_ :: _) _ _ _); refine RG.go1 (k := ?_)) | ((with_reducible show DG _ _ (_ :: _) _ _ _ _ _); refine DG.go1 (k := ?_)) | (with_reducible first | apply RG.nil | apply W.seq | apply W.reg | apply W.skip | apply W.block | apply W.drw | apply DG.nil | refine W.done (QB.n ?_)) | refine W.cndT ?_ | refine W.cndF ?_))
        refine W.done (QL.n (⟨i + 1, by omega, hd⟩) ?_ ?_)
        · exact Wk.rn ([0] ) ( [])
        · dsimp only; omega
    · obtain rfl : i = h.l.length := by simp at h1; omega
      rw [List.drop_length, List.all_nil] at hd
      subst hd
      (refine W.exit ?_; (repeat (first | (with_reducible first | refine QL.x ?_ | refine QC.x ?_ | refine QB.x ?_) | (with_reducible refine QB.o (by decide) ?_))))
      (repeat (first | ((with_reducible show RG _ _ (_ :: _) _ _ _); refine RG.go1 (k := ?_)) | ((with_reducible show DG _ _ (_ :: _) _ _ _ _ _); refine DG.go1 (k := ?_)) | (with_reducible first | apply RG.nil | apply W.seq | apply W.reg | apply W.skip | apply W.block | apply W.drw | apply DG.nil | refine W.done (QB.n ?_))))
      (refine W.ret ?_; (repeat (with_reducible first | refine QB.r ?_ | refine QL.r ?_ | refine QC.r ?_)); refine QF.r ?_)
      exact RetOk.rs (vs := [_]) r_caravelref10_Room []
  · rw [decide_eq_false q1, Bool.false_and]
    refine acall_walk (N := 42) Try.func46 (by kernel_rfl) p_caravelref10_Room rfl ?_; unfold c_caravelref10_Room; dsimp only [enum, Nat.reduceAdd]
    (repeat (first | ((with_reducible show RG _ _ (_ :: _) _ _ _); refine RG.go1 (k := ?_)) | ((with_reducible show DG _ _ (_ :: _) _ _ _ _ _); refine DG.go1 (k := ?_)) | (with_reducible first | apply RG.nil | apply W.seq | apply W.reg | apply W.skip | apply W.block | apply W.drw | apply DG.nil | refine W.done (QB.n ?_)) | refine W.cndT ?_ | refine W.cndF ?_))
    (refine W.ret ?_; (repeat (with_reducible first | refine QB.r ?_ | refine QL.r ?_ | refine QC.r ?_)); refine QF.r ?_)
    exact RetOk.rs (vs := [_]) r_caravelref10_Room []
theorem xIn_ok {h : Hp} {m : Nat} (k : h.Ok m) {a n : Int} (ha : -9223372036854775808 ≤ a ∧ a ≤ 9223372036854775807) (hn : 0 ≤ n ∧ n ≤ 9223372036854775807) : ACall Try.prog 48 [xv h, .int .i64 a, .int .i64 n] (.bool (h.l.any (insB a n))) [] := by
  obtain ⟨l1, l2, l3⟩ := k.lens
  have el := rb_len h.l
  have hb := k.bok
  unfold xv
  obtain ⟨R, hR⟩ : ∃ R, h.l.any (insB a n) = R := ⟨_, rfl⟩
  rw [hR]
  refine acall_walk (N := 45) Try.func48 (by kernel_rfl) p_caravelref10_In rfl ?_; unfold c_caravelref10_In; dsimp only [enum, Nat.reduceAdd]
  (repeat (first | ((with_reducible show RG _ _ (_ :: _) _ _ _); refine RG.go1 (k := ?_)) | ((with_reducible show DG _ _ (_ :: _) _ _ _ _ _); refine DG.go1 (k := ?_)) | (with_reducible first | apply RG.nil | apply W.seq | apply W.reg | apply W.skip | apply W.block | apply W.drw | apply DG.nil | refine W.done (QB.n ?_)) | refine W.cndT ?_ | refine W.cndF ?_))
  refine W.loop (ι := {i : Nat // i ≤ h.l.length ∧ (h.l.drop i).any (insB a n) = R}) (fun i => ⟨[(7, .int .i64 i.1), (3, .bptr 0 0), (1, .int .i64 a), (2, .int .i64 n)], [some [.str h.s, .sl false 2 (h.l.map rb), .sl false 1 (h.d.map bo)]], [], 1, 0⟩) (fun i => h.l.length - i.1) ⟨0, Nat.zero_le _, hR⟩ ?_ ?_
  · exact Wk.rn ([0] ) ( [])
  rintro ⟨i, hi, hd⟩
  dsimp only
  clear hR
  (repeat (first | ((with_reducible show RG _ _ (_ :: _) _ _ _); refine RG.go1 (k := ?_)) | ((with_reducible show DG _ _ (_ :: _) _ _ _ _ _); refine DG.go1 (k := ?_)) | (with_reducible first | apply RG.nil | apply W.seq | apply W.reg | apply W.skip | apply W.block | apply W.drw | apply DG.nil | refine W.done (QB.n ?_))))
  refine W.cnd (fun h1 => ?_) (fun h1 => ?_)
  · have hlt : i < h.l.length := by simp at h1; omega
    have hE := rb_at h.l i hlt (j := ((i : Nat) : Int).toNat) (by simp)
    obtain ⟨b1, b2, b3, b4, b5⟩ := hb _ (List.getElem_mem hlt)
    rw [drop_any _ _ _ hlt] at hd
    unfold insB at hd
    generalize h.l[i] = x at *
    clear h1 hb k b2 b4
    by_cases c1 : x.at_ ≤ a
    · rw [decide_eq_true c1, Bool.true_and] at hd
      by_cases c2 : a ≤ x.at_ + x.ln
      · by_cases c3 : n ≤ x.at_ + x.ln - a
        · rw [decide_eq_true c3, Bool.true_or] at hd
          subst hd
          (repeat (first | ((with_reducible show RG _ _ (_ :: _) _ _ _); refine RG.go1 (k := ?_)) | ((with_reducible show DG _ _ (_ :: _) _ _ _ _ _); refine DG.go1 (k := ?_)) | (with_reducible first | apply RG.nil | apply W.seq | apply W.reg | apply W.skip | apply W.block | apply W.drw | apply DG.nil | refine W.done (QB.n ?_))))
          (first | ((with_reducible show RG _ _ (_ :: _) _ _ _); refine RG.ew (cptr_of (hE) (by (conv => lhs; whnf) <;> exact rfl)) (k := ?_)) | ((with_reducible show DG _ _ (_ :: _) _ _ _ _ _); refine DG.ew (cptr_of (hE) (by (conv => lhs; whnf) <;> exact rfl)) (k := ?_)))
          (repeat (first | ((with_reducible show RG _ _ (_ :: _) _ _ _); refine RG.go1 (k := ?_)) | ((with_reducible show DG _ _ (_ :: _) _ _ _ _ _); refine DG.go1 (k := ?_)) | (with_reducible first | apply RG.nil | apply W.seq | apply W.reg | apply W.skip | apply W.block | apply W.drw | apply DG.nil | refine W.done (QB.n ?_)) | refine W.cndT ?_ | refine W.cndF ?_))
          (first | ((with_reducible show RG _ _ (_ :: _) _ _ _); refine RG.ewg (cptr_of (hE) (by (conv => lhs; whnf) <;> exact rfl)) (k := ?_)) | ((with_reducible show DG _ _ (_ :: _) _ _ _ _ _); refine DG.ewg (cptr_of (hE) (by (conv => lhs; whnf) <;> exact rfl)) (k := ?_)))
          (repeat (first | ((with_reducible show RG _ _ (_ :: _) _ _ _); refine RG.go1 (k := ?_)) | ((with_reducible show DG _ _ (_ :: _) _ _ _ _ _); refine DG.go1 (k := ?_)) | (with_reducible first | apply RG.nil | apply W.seq | apply W.reg | apply W.skip | apply W.block | apply W.drw | apply DG.nil | refine W.done (QB.n ?_)) | refine W.cndT ?_ | refine W.cndF ?_))
          (first | ((with_reducible show RG _ _ (_ :: _) _ _ _); refine RG.ewg (cptr_of (hE) (by (conv => lhs; whnf) <;> exact rfl)) (k := ?_)) | ((with_reducible show DG _ _ (_ :: _) _ _ _ _ _); refine DG.ewg (cptr_of (hE) (by (conv => lhs; whnf) <;> exact rfl)) (k := ?_)))
          (repeat (first | ((with_reducible show RG _ _ (_ :: _) _ _ _); refine RG.go1 (k := ?_)) | ((with_reducible show DG _ _ (_ :: _) _ _ _ _ _); refine DG.go1 (k := ?_)) | (with_reducible first | apply RG.nil | apply W.seq | apply W.reg | apply W.skip | apply W.block | apply W.drw | apply DG.nil | refine W.done (QB.n ?_)) | refine W.cndT ?_ | refine W.cndF ?_))
          (refine W.ret ?_; (repeat (with_reducible first | refine QB.r ?_ | refine QL.r ?_ | refine QC.r ?_)); refine QF.r ?_)
          exact RetOk.rs (vs := [_]) r_caravelref10_In []
        · rw [decide_eq_false c3, Bool.false_or] at hd
          (repeat (first | ((with_reducible show RG _ _ (_ :: _) _ _ _); refine RG.go1 (k := ?_)) | ((with_reducible show DG _ _ (_ :: _) _ _ _ _ _); refine DG.go1 (k := ?_)) | (with_reducible first | apply RG.nil | apply W.seq | apply W.reg | apply W.skip | apply W.block | apply W.drw | apply DG.nil | refine W.done (QB.n ?_))))
          (first | ((with_reducible show RG _ _ (_ :: _) _ _ _); refine RG.ew (cptr_of (hE) (by (conv => lhs; whnf) <;> exact rfl)) (k := ?_)) | ((with_reducible show DG _ _ (_ :: _) _ _ _ _ _); refine DG.ew (cptr_of (hE) (by (conv => lhs; whnf) <;> exact rfl)) (k := ?_)))
          (repeat (first | ((with_reducible show RG _ _ (_ :: _) _ _ _); refine RG.go1 (k := ?_)) | ((with_reducible show DG _ _ (_ :: _) _ _ _ _ _); refine DG.go1 (k := ?_)) | (with_reducible first | apply RG.nil | apply W.seq | apply W.reg | apply W.skip | apply W.block | apply W.drw | apply DG.nil | refine W.done (QB.n ?_)) | refine W.cndT ?_ | refine W.cndF ?_))
          (first | ((with_reducible show RG _ _ (_ :: _) _ _ _); refine RG.ewg (cptr_of (hE) (by (conv => lhs; whnf) <;> exact rfl)) (k := ?_)) | ((with_reducible show DG _ _ (_ :: _) _ _ _ _ _); refine DG.ewg (cptr_of (hE) (by (conv => lhs; whnf) <;> exact rfl)) (k := ?_)))
          (repeat (first | ((with_reducible show RG _ _ (_ :: _) _ _ _); refine RG.go1 (k := ?_)) | ((with_reducible show DG _ _ (_ :: _) _ _ _ _ _); refine DG.go1 (k := ?_)) | (with_reducible first | apply RG.nil | apply W.seq | apply W.reg | apply W.skip | apply W.block | apply W.drw | apply DG.nil | refine W.done (QB.n ?_)) | refine W.cndT ?_ | refine W.cndF ?_))
          (first | ((with_reducible show RG _ _ (_ :: _) _ _ _); refine RG.ewg (cptr_of (hE) (by (conv => lhs; whnf) <;> exact rfl)) (k := ?_)) | ((with_reducible show DG _ _ (_ :: _) _ _ _ _ _); refine DG.ewg (cptr_of (hE) (by (conv => lhs; whnf) <;> exact rfl)) (k := ?_)))
          (repeat (first | ((with_reducible show RG _ _ (_ :: _) _ _ _); refine RG.go1 (k := ?_)) | ((with_reducible show DG _ _ (_ :: _) _ _ _ _ _); refine DG.go1 (k := ?_)) | (with_reducible first | apply RG.nil | apply W.seq | apply W.reg | apply W.skip | apply W.block | apply W.drw | apply DG.nil | refine W.done (QB.n ?_)) | refine W.cndT ?_ | refine W.cndF ?_))
          refine W.done (QL.n (⟨i + 1, by omega, hd⟩) ?_ ?_)
          · exact Wk.rn ([0] ) ( [])
          · dsimp only; omega
      · rw [decide_eq_false (show ¬ n ≤ x.at_ + x.ln - a by omega), Bool.false_or] at hd
        (repeat (first | ((with_reducible show RG _ _ (_ :: _) _ _ _); refine RG.go1 (k := ?_)) | ((with_reducible show DG _ _ (_ :: _) _ _ _ _ _); refine DG.go1 (k := ?_)) | (with_reducible first | apply RG.nil | apply W.seq | apply W.reg | apply W.skip | apply W.block | apply W.drw | apply DG.nil | refine W.done (QB.n ?_))))
        (first | ((with_reducible show RG _ _ (_ :: _) _ _ _); refine RG.ew (cptr_of (hE) (by (conv => lhs; whnf) <;> exact rfl)) (k := ?_)) | ((with_reducible show DG _ _ (_ :: _) _ _ _ _ _); refine DG.ew (cptr_of (hE) (by (conv => lhs; whnf) <;> exact rfl)) (k := ?_)))
        (repeat (first | ((with_reducible show RG _ _ (_ :: _) _ _ _); refine RG.go1 (k := ?_)) | ((with_reducible show DG _ _ (_ :: _) _ _ _ _ _); refine DG.go1 (k := ?_)) | (with_reducible first | apply RG.nil | apply W.seq | apply W.reg | apply W.skip | apply W.block | apply W.drw | apply DG.nil | refine W.done (QB.n ?_)) | refine W.cndT ?_ | refine W.cndF ?_))
        (first | ((with_reducible show RG _ _ (_ :: _) _ _ _); refine RG.ewg (cptr_of (hE) (by (conv => lhs; whnf) <;> exact rfl)) (k := ?_)) | ((with_reducible show DG _ _ (_ :: _) _ _ _ _ _); refine DG.ewg (cptr_of (hE) (by (conv => lhs; whnf) <;> exact rfl)) (k := ?_)))
        (repeat (first | ((with_reducible show RG _ _ (_ :: _) _ _ _); refine RG.go1 (k := ?_)) | ((with_reducible show DG _ _ (_ :: _) _ _ _ _ _); refine DG.go1 (k := ?_)) | (with_reducible first | apply RG.nil | apply W.seq | apply W.reg | apply W.skip | apply W.block | apply W.drw | apply DG.nil | refine W.done (QB.n ?_)) | refine W.cndT ?_ | refine W.cndF ?_))
        refine W.done (QL.n (⟨i + 1, by omega, hd⟩) ?_ ?_)
        · exact Wk.rn ([0] ) ( [])
        · dsimp only; omega
    · rw [decide_eq_false c1, Bool.false_and, Bool.false_or] at hd
      (repeat (first | ((with_reducible show RG _ _ (_ :: _) _ _ _); refine RG.go1 (k := ?_)) | ((with_reducible show DG _ _ (_ :: _) _ _ _ _ _); refine DG.go1 (k := ?_)) | (with_reducible first | apply RG.nil | apply W.seq | apply W.reg | apply W.skip | apply W.block | apply W.drw | apply DG.nil | refine W.done (QB.n ?_))))
      (first | ((with_reducible show RG _ _ (_ :: _) _ _ _); refine RG.ew (cptr_of (hE) (by (conv => lhs; whnf) <;> exact rfl)) (k := ?_)) | ((with_reducible show DG _ _ (_ :: _) _ _ _ _ _); refine DG.ew (cptr_of (hE) (by (conv => lhs; whnf) <;> exact rfl)) (k := ?_)))
      (repeat (first | ((with_reducible show RG _ _ (_ :: _) _ _ _); refine RG.go1 (k := ?_)) | ((with_reducible show DG _ _ (_ :: _) _ _ _ _ _); refine DG.go1 (k := ?_)) | (with_reducible first | apply RG.nil | apply W.seq | apply W.reg | apply W.skip | apply W.block | apply W.drw | apply DG.nil | refine W.done (QB.n ?_)) | refine W.cndT ?_ | refine W.cndF ?_))
      refine W.done (QL.n (⟨i + 1, by omega, hd⟩) ?_ ?_)
      · exact Wk.rn ([0] ) ( [])
      · dsimp only; omega
  · obtain rfl : i = h.l.length := by simp at h1; omega
    rw [List.drop_length, List.any_nil] at hd
    subst hd
    (refine W.exit ?_; (repeat (first | (with_reducible first | refine QL.x ?_ | refine QC.x ?_ | refine QB.x ?_) | (with_reducible refine QB.o (by decide) ?_))))
    (repeat (first | ((with_reducible show RG _ _ (_ :: _) _ _ _); refine RG.go1 (k := ?_)) | ((with_reducible show DG _ _ (_ :: _) _ _ _ _ _); refine DG.go1 (k := ?_)) | (with_reducible first | apply RG.nil | apply W.seq | apply W.reg | apply W.skip | apply W.block | apply W.drw | apply DG.nil | refine W.done (QB.n ?_))))
    (refine W.ret ?_; (repeat (with_reducible first | refine QB.r ?_ | refine QL.r ?_ | refine QC.r ?_)); refine QF.r ?_)
    exact RetOk.rs (vs := [_]) r_caravelref10_In []
theorem page_ok (v : List UInt8) (hv1 : v.length ≤ 100000) : ACall Try.prog 36 [.sl true 1 (v.map by8)] (.sl false 1 ((putS (List.replicate 64 0) 0 (v.take 64)).map by8)) [] := by
  have ev := by8_len v
  have hcp : (List.replicate 64 (AV.int .u8 0)).take 0 ++ ((v.map by8).take 64 ++ (List.replicate 64 (AV.int .u8 0)).drop (0 + min 64 v.length)) = (putS (List.replicate 64 0) 0 (v.take 64)).map by8 := by
    unfold putS
    rw [rep_by8]
    simp
  have hpl : (putS (List.replicate 64 0) 0 (v.take 64)).length = 64 := by
    rw [putS_len (by simp; omega)]; simp
  obtain ⟨s2, hs2⟩ : ∃ s2, putS (List.replicate 64 0) 0 (v.take 64) = s2 := ⟨_, rfl⟩
  rw [hs2] at hcp hpl ⊢
  have es := by8_len s2
  refine acall_walk (N := 9) Try.func36 (by kernel_rfl) p_caravellaw10_page rfl ?_; unfold c_caravellaw10_page; dsimp only [enum, Nat.reduceAdd]
  (repeat (first | ((with_reducible show RG _ _ (_ :: _) _ _ _); refine RG.go1 (k := ?_)) | ((with_reducible show DG _ _ (_ :: _) _ _ _ _ _); refine DG.go1 (k := ?_)) | (with_reducible first | apply RG.nil | apply W.seq | apply W.reg | apply W.skip | apply W.block | apply W.drw | apply DG.nil | refine W.done (QB.n ?_)) | refine W.cndT ?_ | refine W.cndF ?_))
  rw [show Int.toNat 64 = 64 from rfl]
  refine RG.sm (A.cpy (m := min 64 v.length) hcp) (k := ?_)
  (repeat (first | ((with_reducible show RG _ _ (_ :: _) _ _ _); refine RG.go1 (k := ?_)) | ((with_reducible show DG _ _ (_ :: _) _ _ _ _ _); refine DG.go1 (k := ?_)) | (with_reducible first | apply RG.nil | apply W.seq | apply W.reg | apply W.skip | apply W.block | apply W.drw | apply DG.nil | refine W.done (QB.n ?_))))
  (refine W.ret ?_; (repeat (with_reducible first | refine QB.r ?_ | refine QL.r ?_ | refine QC.r ?_)); refine QF.r ?_)
  (refine RetOk.wk (Wk.frz (b := 0) rfl rfl) ?_; refine RetOk.wk (Wk.tmp (t := 2) (Cl.ice rfl rfl rfl (by first | assumption | decide | omega | (simp; (first | (all_goals fail) | fail)) | (simp <;> omega)) (by first | exact take_all _ | exact take_len (by first | (simp; (first | (all_goals fail) | fail)) | (simp <;> omega)) | exact rfl))) ?_; dsimp only [setO])
  exact RetOk.rs (vs := [_]) r_caravellaw10_page []
theorem markTo_all (d : List Bool) (a n : Int) : markTo d a n d.length = markP d a n := by
  apply List.ext_getElem
  · rw [markTo_len, markP_len]
  · intro i h1 h2
    have hi : i < d.length := by rw [markP_len] at h2; exact h2
    rw [markTo_at d a n _ i h1 hi, markP_at d a n i h2 hi, decide_eq_true hi, Bool.true_and]
theorem markP_s (d : List Bool) (a n : Int) (p : Nat) (h : p < d.length) : (markP d a n).take (p + 1) = (markP d a n).take p ++ [d[p] || touch a n p] := by
  have h2 : p < (markP d a n).length := by rw [markP_len]; exact h
  rw [List.take_succ_eq_append_getElem h2, markP_at d a n p h2 h]
theorem xPut_ok {h : Hp} {m : Nat} (k : h.Ok m) {a : Int} (v : List UInt8) (ha : 0 ≤ a) (hb : a + v.length ≤ 64 * m) : ACall Try.prog 47 [xv h, .int .i64 a, .str v] (xv (hPut h a v)) [] := by
  obtain ⟨l1, l2, l3⟩ := k.lens
  have el := rb_len h.l
  have ed := bo_len h.d
  have hsm := k.s
  have hm2 := k.m2
  obtain ⟨b, rfl⟩ : ∃ b : Nat, a = b := ⟨a.toNat, by omega⟩
  unfold hPut xv
  dsimp only
  have hps := @markP_s h.d b v.length
  have hpl := markP_len h.d b v.length
  obtain ⟨D, hD⟩ : ∃ D, markP h.d b v.length = D := ⟨_, rfl⟩
  rw [hD] at hps hpl ⊢
  have e1 : (h.s.take (b : Int).toNat).drop (0 : Int).toNat = h.s.take b := by simp
  have e2 : (h.s.take (h.s.length : Int).toNat).drop ((b : Int) + (v.length : Int)).toNat = h.s.drop (b + v.length) := by
    rw [show ((b : Int) + (v.length : Int)).toNat = b + v.length by omega, show (h.s.length : Int).toNat = h.s.length by omega, List.take_length]
  have e3 : (h.s.take b ++ v) ++ h.s.drop (b + v.length) = putS h.s b v := by unfold putS; rw [List.append_assoc]
  rw [show (b : Int).toNat = b by omega]
  refine acall_walk (N := 64) Try.func47 (by kernel_rfl) p_caravelref10_put rfl ?_; unfold c_caravelref10_put; dsimp only [enum, Nat.reduceAdd]
  (repeat (first | ((with_reducible show RG _ _ (_ :: _) _ _ _); refine RG.go1 (k := ?_)) | ((with_reducible show DG _ _ (_ :: _) _ _ _ _ _); refine DG.go1 (k := ?_)) | (with_reducible first | apply RG.nil | apply W.seq | apply W.reg | apply W.skip | apply W.block | apply W.drw | apply DG.nil | refine W.done (QB.n ?_)) | refine W.cndT ?_ | refine W.cndF ?_))
  refine W.wk (Wk.nilT (t := 7) 1 rfl) ?_ (by simp)
  refine W.loop (ι := {p : Nat // p ≤ h.d.length}) (fun p => ⟨[(8, .int .i64 p.1), (7, .ref 0 1 0 p.1), (6, .bptr 1 0), (3, .bptr 0 0), (1, .int .i64 b), (2, .str v)], [some [.str h.s, .sl false 2 (h.l.map rb), .sl false 1 (h.d.map bo)], some [.str [], .nil, .nil]], [some ⟨false, 1, (D.take p.1).map bo⟩], 2, 1⟩) (fun p => h.d.length - p.1) ⟨0, Nat.zero_le _⟩ ?_ ?_
  · dsimp only
    rw [List.take_zero, List.map_nil]
    exact Wk.rn ([0, 1] ) ( [0])
  rintro ⟨p, hp⟩
  dsimp only
  have hdl : ((D.take p).map bo).length = p := by rw [List.length_map, List.length_take]; omega
  (repeat (first | ((with_reducible show RG _ _ (_ :: _) _ _ _); refine RG.go1 (k := ?_)) | ((with_reducible show DG _ _ (_ :: _) _ _ _ _ _); refine DG.go1 (k := ?_)) | (with_reducible first | apply RG.nil | apply W.seq | apply W.reg | apply W.skip | apply W.block | apply W.drw | apply DG.nil | refine W.done (QB.n ?_))))
  refine W.cnd (fun h1 => ?_) (fun h1 => ?_)
  · have hlt : p < h.d.length := by simp at h1; omega
    have hE := bo_at h.d p hlt (j := ((p : Nat) : Int).toNat) (by simp)
    have hsn := hps p hlt
    clear h1 hps e1 e2 e3
    generalize h.d[p] = x at *
    by_cases c0 : v = []
    · have ht : touch b v.length p = false := by unfold touch; rw [c0]; rfl
      rw [ht, Bool.or_false] at hsn
      (repeat (first | ((with_reducible show RG _ _ (_ :: _) _ _ _); refine RG.go1 (k := ?_)) | ((with_reducible show DG _ _ (_ :: _) _ _ _ _ _); refine DG.go1 (k := ?_)) | (with_reducible first | apply RG.nil | apply W.seq | apply W.reg | apply W.skip | apply W.block | apply W.drw | apply DG.nil | refine W.done (QB.n ?_)) | refine W.cndT ?_ | refine W.cndF ?_))
      cases x
      · have hs2 : (D.take p).map bo ++ [.bool false] = (D.take (p + 1)).map bo := by rw [hsn, List.map_append]; rfl
        (first | ((with_reducible show RG _ _ (_ :: _) _ _ _); refine RG.ew (cptr_of (hE) (by (conv => lhs; whnf) <;> exact rfl)) (k := ?_)) | ((with_reducible show DG _ _ (_ :: _) _ _ _ _ _); refine DG.ew (cptr_of (hE) (by (conv => lhs; whnf) <;> exact rfl)) (k := ?_)))
        (repeat (first | ((with_reducible show RG _ _ (_ :: _) _ _ _); refine RG.go1 (k := ?_)) | ((with_reducible show DG _ _ (_ :: _) _ _ _ _ _); refine DG.go1 (k := ?_)) | (with_reducible first | apply RG.nil | apply W.seq | apply W.reg | apply W.skip | apply W.block | apply W.drw | apply DG.nil | refine W.done (QB.n ?_)) | refine W.cndT ?_ | refine W.cndF ?_))
        rw [hs2]
        refine W.done (QL.n (⟨p + 1, by omega⟩) ?_ ?_)
        · exact Wk.rn ([0, 1] ) ( [2])
        · dsimp only; omega
      · have hs2 : (D.take p).map bo ++ [.bool true] = (D.take (p + 1)).map bo := by rw [hsn, List.map_append]; rfl
        (first | ((with_reducible show RG _ _ (_ :: _) _ _ _); refine RG.ew (cptr_of (hE) (by (conv => lhs; whnf) <;> exact rfl)) (k := ?_)) | ((with_reducible show DG _ _ (_ :: _) _ _ _ _ _); refine DG.ew (cptr_of (hE) (by (conv => lhs; whnf) <;> exact rfl)) (k := ?_)))
        (repeat (first | ((with_reducible show RG _ _ (_ :: _) _ _ _); refine RG.go1 (k := ?_)) | ((with_reducible show DG _ _ (_ :: _) _ _ _ _ _); refine DG.go1 (k := ?_)) | (with_reducible first | apply RG.nil | apply W.seq | apply W.reg | apply W.skip | apply W.block | apply W.drw | apply DG.nil | refine W.done (QB.n ?_)) | refine W.cndT ?_ | refine W.cndF ?_))
        rw [hs2]
        refine W.done (QL.n (⟨p + 1, by omega⟩) ?_ ?_)
        · exact Wk.rn ([0, 1] ) ( [2])
        · dsimp only; omega
    · have c3 : 0 < v.length := by rcases v with _ | ⟨a, v⟩; exact absurd rfl c0; simp
      by_cases c1 : (b : Int) < 64 * ((p : Int) + 1)
      · by_cases c2 : 64 * (p : Int) < b + v.length
        · have ht : touch b v.length p = true := by unfold touch; simp; omega
          rw [ht, Bool.or_true] at hsn
          (repeat (first | ((with_reducible show RG _ _ (_ :: _) _ _ _); refine RG.go1 (k := ?_)) | ((with_reducible show DG _ _ (_ :: _) _ _ _ _ _); refine DG.go1 (k := ?_)) | (with_reducible first | apply RG.nil | apply W.seq | apply W.reg | apply W.skip | apply W.block | apply W.drw | apply DG.nil | refine W.done (QB.n ?_)) | refine W.cndT ?_ | refine W.cndF ?_))
          cases x
          · have hs2 : (D.take p).map bo ++ [.bool true] = (D.take (p + 1)).map bo := by rw [hsn, List.map_append]; rfl
            (first | ((with_reducible show RG _ _ (_ :: _) _ _ _); refine RG.ew (cptr_of (hE) (by (conv => lhs; whnf) <;> exact rfl)) (k := ?_)) | ((with_reducible show DG _ _ (_ :: _) _ _ _ _ _); refine DG.ew (cptr_of (hE) (by (conv => lhs; whnf) <;> exact rfl)) (k := ?_)))
            (repeat (first | ((with_reducible show RG _ _ (_ :: _) _ _ _); refine RG.go1 (k := ?_)) | ((with_reducible show DG _ _ (_ :: _) _ _ _ _ _); refine DG.go1 (k := ?_)) | (with_reducible first | apply RG.nil | apply W.seq | apply W.reg | apply W.skip | apply W.block | apply W.drw | apply DG.nil | refine W.done (QB.n ?_)) | refine W.cndT ?_ | refine W.cndF ?_))
            rw [hs2]
            refine W.done (QL.n (⟨p + 1, by omega⟩) ?_ ?_)
            · exact Wk.rn ([0, 1] ) ( [2])
            · dsimp only; omega
          · have hs2 : (D.take p).map bo ++ [.bool true] = (D.take (p + 1)).map bo := by rw [hsn, List.map_append]; rfl
            (first | ((with_reducible show RG _ _ (_ :: _) _ _ _); refine RG.ew (cptr_of (hE) (by (conv => lhs; whnf) <;> exact rfl)) (k := ?_)) | ((with_reducible show DG _ _ (_ :: _) _ _ _ _ _); refine DG.ew (cptr_of (hE) (by (conv => lhs; whnf) <;> exact rfl)) (k := ?_)))
            (repeat (first | ((with_reducible show RG _ _ (_ :: _) _ _ _); refine RG.go1 (k := ?_)) | ((with_reducible show DG _ _ (_ :: _) _ _ _ _ _); refine DG.go1 (k := ?_)) | (with_reducible first | apply RG.nil | apply W.seq | apply W.reg | apply W.skip | apply W.block | apply W.drw | apply DG.nil | refine W.done (QB.n ?_)) | refine W.cndT ?_ | refine W.cndF ?_))
            rw [hs2]
            refine W.done (QL.n (⟨p + 1, by omega⟩) ?_ ?_)
            · exact Wk.rn ([0, 1] ) ( [2])
            · dsimp only; omega
        · have ht : touch b v.length p = false := by unfold touch; simp; omega
          rw [ht, Bool.or_false] at hsn
          (repeat (first | ((with_reducible show RG _ _ (_ :: _) _ _ _); refine RG.go1 (k := ?_)) | ((with_reducible show DG _ _ (_ :: _) _ _ _ _ _); refine DG.go1 (k := ?_)) | (with_reducible first | apply RG.nil | apply W.seq | apply W.reg | apply W.skip | apply W.block | apply W.drw | apply DG.nil | refine W.done (QB.n ?_)) | refine W.cndT ?_ | refine W.cndF ?_))
          cases x
          · have hs2 : (D.take p).map bo ++ [.bool false] = (D.take (p + 1)).map bo := by rw [hsn, List.map_append]; rfl
            (first | ((with_reducible show RG _ _ (_ :: _) _ _ _); refine RG.ew (cptr_of (hE) (by (conv => lhs; whnf) <;> exact rfl)) (k := ?_)) | ((with_reducible show DG _ _ (_ :: _) _ _ _ _ _); refine DG.ew (cptr_of (hE) (by (conv => lhs; whnf) <;> exact rfl)) (k := ?_)))
            (repeat (first | ((with_reducible show RG _ _ (_ :: _) _ _ _); refine RG.go1 (k := ?_)) | ((with_reducible show DG _ _ (_ :: _) _ _ _ _ _); refine DG.go1 (k := ?_)) | (with_reducible first | apply RG.nil | apply W.seq | apply W.reg | apply W.skip | apply W.block | apply W.drw | apply DG.nil | refine W.done (QB.n ?_)) | refine W.cndT ?_ | refine W.cndF ?_))
            rw [hs2]
            refine W.done (QL.n (⟨p + 1, by omega⟩) ?_ ?_)
            · exact Wk.rn ([0, 1] ) ( [2])
            · dsimp only; omega
          · have hs2 : (D.take p).map bo ++ [.bool true] = (D.take (p + 1)).map bo := by rw [hsn, List.map_append]; rfl
            (first | ((with_reducible show RG _ _ (_ :: _) _ _ _); refine RG.ew (cptr_of (hE) (by (conv => lhs; whnf) <;> exact rfl)) (k := ?_)) | ((with_reducible show DG _ _ (_ :: _) _ _ _ _ _); refine DG.ew (cptr_of (hE) (by (conv => lhs; whnf) <;> exact rfl)) (k := ?_)))
            (repeat (first | ((with_reducible show RG _ _ (_ :: _) _ _ _); refine RG.go1 (k := ?_)) | ((with_reducible show DG _ _ (_ :: _) _ _ _ _ _); refine DG.go1 (k := ?_)) | (with_reducible first | apply RG.nil | apply W.seq | apply W.reg | apply W.skip | apply W.block | apply W.drw | apply DG.nil | refine W.done (QB.n ?_)) | refine W.cndT ?_ | refine W.cndF ?_))
            rw [hs2]
            refine W.done (QL.n (⟨p + 1, by omega⟩) ?_ ?_)
            · exact Wk.rn ([0, 1] ) ( [2])
            · dsimp only; omega
      · have ht : touch b v.length p = false := by unfold touch; simp; omega
        rw [ht, Bool.or_false] at hsn
        (repeat (first | ((with_reducible show RG _ _ (_ :: _) _ _ _); refine RG.go1 (k := ?_)) | ((with_reducible show DG _ _ (_ :: _) _ _ _ _ _); refine DG.go1 (k := ?_)) | (with_reducible first | apply RG.nil | apply W.seq | apply W.reg | apply W.skip | apply W.block | apply W.drw | apply DG.nil | refine W.done (QB.n ?_)) | refine W.cndT ?_ | refine W.cndF ?_))
        cases x
        · have hs2 : (D.take p).map bo ++ [.bool false] = (D.take (p + 1)).map bo := by rw [hsn, List.map_append]; rfl
          (first | ((with_reducible show RG _ _ (_ :: _) _ _ _); refine RG.ew (cptr_of (hE) (by (conv => lhs; whnf) <;> exact rfl)) (k := ?_)) | ((with_reducible show DG _ _ (_ :: _) _ _ _ _ _); refine DG.ew (cptr_of (hE) (by (conv => lhs; whnf) <;> exact rfl)) (k := ?_)))
          (repeat (first | ((with_reducible show RG _ _ (_ :: _) _ _ _); refine RG.go1 (k := ?_)) | ((with_reducible show DG _ _ (_ :: _) _ _ _ _ _); refine DG.go1 (k := ?_)) | (with_reducible first | apply RG.nil | apply W.seq | apply W.reg | apply W.skip | apply W.block | apply W.drw | apply DG.nil | refine W.done (QB.n ?_)) | refine W.cndT ?_ | refine W.cndF ?_))
          rw [hs2]
          refine W.done (QL.n (⟨p + 1, by omega⟩) ?_ ?_)
          · exact Wk.rn ([0, 1] ) ( [2])
          · dsimp only; omega
        · have hs2 : (D.take p).map bo ++ [.bool true] = (D.take (p + 1)).map bo := by rw [hsn, List.map_append]; rfl
          (first | ((with_reducible show RG _ _ (_ :: _) _ _ _); refine RG.ew (cptr_of (hE) (by (conv => lhs; whnf) <;> exact rfl)) (k := ?_)) | ((with_reducible show DG _ _ (_ :: _) _ _ _ _ _); refine DG.ew (cptr_of (hE) (by (conv => lhs; whnf) <;> exact rfl)) (k := ?_)))
          (repeat (first | ((with_reducible show RG _ _ (_ :: _) _ _ _); refine RG.go1 (k := ?_)) | ((with_reducible show DG _ _ (_ :: _) _ _ _ _ _); refine DG.go1 (k := ?_)) | (with_reducible first | apply RG.nil | apply W.seq | apply W.reg | apply W.skip | apply W.block | apply W.drw | apply DG.nil | refine W.done (QB.n ?_)) | refine W.cndT ?_ | refine W.cndF ?_))
          rw [hs2]
          refine W.done (QL.n (⟨p + 1, by omega⟩) ?_ ?_)
          · exact Wk.rn ([0, 1] ) ( [2])
          · dsimp only; omega
  · obtain rfl : p = h.d.length := by simp at h1; omega
    rw [List.take_of_length_le (by omega)] at hdl ⊢
    (refine W.exit ?_; (repeat (first | (with_reducible first | refine QL.x ?_ | refine QC.x ?_ | refine QB.x ?_) | (with_reducible refine QB.o (by decide) ?_))))
    (repeat (first | ((with_reducible show RG _ _ (_ :: _) _ _ _); refine RG.go1 (k := ?_)) | ((with_reducible show DG _ _ (_ :: _) _ _ _ _ _); refine DG.go1 (k := ?_)) | (with_reducible first | apply RG.nil | apply W.seq | apply W.reg | apply W.skip | apply W.block | apply W.drw | apply DG.nil | refine W.done (QB.n ?_)) | refine W.cndT ?_ | refine W.cndF ?_))
    (first | ((with_reducible show RG _ _ (_ :: _) _ _ _); refine RG.ew ((slt_of e1)) (k := ?_)) | ((with_reducible show DG _ _ (_ :: _) _ _ _ _ _); refine DG.ew ((slt_of e1)) (k := ?_)))
    (repeat (first | ((with_reducible show RG _ _ (_ :: _) _ _ _); refine RG.go1 (k := ?_)) | ((with_reducible show DG _ _ (_ :: _) _ _ _ _ _); refine DG.go1 (k := ?_)) | (with_reducible first | apply RG.nil | apply W.seq | apply W.reg | apply W.skip | apply W.block | apply W.drw | apply DG.nil | refine W.done (QB.n ?_)) | refine W.cndT ?_ | refine W.cndF ?_))
    (first | ((with_reducible show RG _ _ (_ :: _) _ _ _); refine RG.ew ((slt_of e2)) (k := ?_)) | ((with_reducible show DG _ _ (_ :: _) _ _ _ _ _); refine DG.ew ((slt_of e2)) (k := ?_)))
    (repeat (first | ((with_reducible show RG _ _ (_ :: _) _ _ _); refine RG.go1 (k := ?_)) | ((with_reducible show DG _ _ (_ :: _) _ _ _ _ _); refine DG.go1 (k := ?_)) | (with_reducible first | apply RG.nil | apply W.seq | apply W.reg | apply W.skip | apply W.block | apply W.drw | apply DG.nil | refine W.done (QB.n ?_)) | refine W.cndT ?_ | refine W.cndF ?_))
    rw [e3]
    (repeat (first | ((with_reducible show RG _ _ (_ :: _) _ _ _); refine RG.go1 (k := ?_)) | ((with_reducible show DG _ _ (_ :: _) _ _ _ _ _); refine DG.go1 (k := ?_)) | (with_reducible first | apply RG.nil | apply W.seq | apply W.reg | apply W.skip | apply W.block | apply W.drw | apply DG.nil | refine W.done (QB.n ?_)) | refine W.cndT ?_ | refine W.cndF ?_))
    (refine W.ret ?_; (repeat (with_reducible first | refine QB.r ?_ | refine QL.r ?_ | refine QC.r ?_)); refine QF.r ?_)
    (refine RetOk.wk (Wk.frz (b := 0) rfl rfl) ?_; refine RetOk.wk (Wk.box (b := 1) (cs' := [_, _, _]) rfl (by dsimp only [ClL]; (repeat' (first | exact True.intro | exact Cl.ice rfl rfl rfl (by first | assumption | decide | omega | (simp; (first | (all_goals fail) | fail)) | (simp <;> omega)) (by first | exact take_all _ | exact take_len (by first | (simp; (first | (all_goals fail) | fail)) | (simp <;> omega)) | exact rfl) | exact Cl.le (.refl _) | apply And.intro)); (first | (all_goals fail) | fail))) ?_; dsimp only [setO])
    exact RetOk.rs (vs := [_]) r_caravelref10_put []
theorem xStore_ok {h : Hp} {m : Nat} (k : h.Ok m) {a : Int} (ha : -9223372036854775808 ≤ a ∧ a ≤ 9223372036854775807) (v : List UInt8) (hv1 : v.length ≤ 100000) : ACall Try.prog 33 [xv h, .int .i64 a, .str v] (.tup [xv (hStore h a v).1, .int .i64 (hStore h a v).2]) [] := by
  obtain ⟨l1, l2, l3⟩ := k.lens
  have ci := xIn_ok k ha (n := v.length) ⟨by omega, by omega⟩
  unfold hStore
  cases hq : h.l.any (insB a v.length)
  · rw [hq] at ci
    rw [if_neg (by decide)]
    unfold xv at ci ⊢
    refine acall_walk (N := 19) Try.func33 (by kernel_rfl) p_caravelref10_Store rfl ?_; unfold c_caravelref10_Store; dsimp only [enum, Nat.reduceAdd]
    (repeat (first | ((with_reducible show RG _ _ (_ :: _) _ _ _); refine RG.go1 (k := ?_)) | ((with_reducible show DG _ _ (_ :: _) _ _ _ _ _); refine DG.go1 (k := ?_)) | (with_reducible first | apply RG.nil | apply W.seq | apply W.reg | apply W.skip | apply W.block | apply W.drw | apply DG.nil | refine W.done (QB.n ?_)) | refine W.cndT ?_ | refine W.cndF ?_))
    (first | ((with_reducible show RG _ _ (_ :: _) _ _ _); refine RG.ca (ci) (k := ?_)) | ((with_reducible show DG _ _ (_ :: _) _ _ _ _ _); refine DG.ca (ci) (k := ?_)))
    (repeat (first | ((with_reducible show RG _ _ (_ :: _) _ _ _); refine RG.go1 (k := ?_)) | ((with_reducible show DG _ _ (_ :: _) _ _ _ _ _); refine DG.go1 (k := ?_)) | (with_reducible first | apply RG.nil | apply W.seq | apply W.reg | apply W.skip | apply W.block | apply W.drw | apply DG.nil | refine W.done (QB.n ?_)) | refine W.cndT ?_ | refine W.cndF ?_))
    (refine W.ret ?_; (repeat (with_reducible first | refine QB.r ?_ | refine QL.r ?_ | refine QC.r ?_)); refine QF.r ?_)
    exact RetOk.rs (vs := [_, _]) r_caravelref10_Store []
  · rw [hq] at ci
    rw [if_pos rfl]
    obtain ⟨b1, b2⟩ := insB_bd k hq
    have cp := xPut_ok k v b1 b2
    dsimp only
    generalize hPut h a v = h' at *
    unfold xv at ci cp ⊢
    refine acall_walk (N := 19) Try.func33 (by kernel_rfl) p_caravelref10_Store rfl ?_; unfold c_caravelref10_Store; dsimp only [enum, Nat.reduceAdd]
    (repeat (first | ((with_reducible show RG _ _ (_ :: _) _ _ _); refine RG.go1 (k := ?_)) | ((with_reducible show DG _ _ (_ :: _) _ _ _ _ _); refine DG.go1 (k := ?_)) | (with_reducible first | apply RG.nil | apply W.seq | apply W.reg | apply W.skip | apply W.block | apply W.drw | apply DG.nil | refine W.done (QB.n ?_)) | refine W.cndT ?_ | refine W.cndF ?_))
    (first | ((with_reducible show RG _ _ (_ :: _) _ _ _); refine RG.ca (ci) (k := ?_)) | ((with_reducible show DG _ _ (_ :: _) _ _ _ _ _); refine DG.ca (ci) (k := ?_)))
    (repeat (first | ((with_reducible show RG _ _ (_ :: _) _ _ _); refine RG.go1 (k := ?_)) | ((with_reducible show DG _ _ (_ :: _) _ _ _ _ _); refine DG.go1 (k := ?_)) | (with_reducible first | apply RG.nil | apply W.seq | apply W.reg | apply W.skip | apply W.block | apply W.drw | apply DG.nil | refine W.done (QB.n ?_)) | refine W.cndT ?_ | refine W.cndF ?_))
    (first | ((with_reducible show RG _ _ (_ :: _) _ _ _); refine RG.ca (cp) (k := ?_)) | ((with_reducible show DG _ _ (_ :: _) _ _ _ _ _); refine DG.ca (cp) (k := ?_)))
    (repeat (first | ((with_reducible show RG _ _ (_ :: _) _ _ _); refine RG.go1 (k := ?_)) | ((with_reducible show DG _ _ (_ :: _) _ _ _ _ _); refine DG.go1 (k := ?_)) | (with_reducible first | apply RG.nil | apply W.seq | apply W.reg | apply W.skip | apply W.block | apply W.drw | apply DG.nil | refine W.done (QB.n ?_)) | refine W.cndT ?_ | refine W.cndF ?_))
    (refine W.ret ?_; (repeat (with_reducible first | refine QB.r ?_ | refine QL.r ?_ | refine QC.r ?_)); refine QF.r ?_)
    exact RetOk.rs (vs := [_, _]) r_caravelref10_Store []
theorem xLoad_ok {h : Hp} {m : Nat} (k : h.Ok m) {a n : Int} (ha : -9223372036854775808 ≤ a ∧ a ≤ 9223372036854775807) (hn : -9223372036854775808 ≤ n ∧ n ≤ 9223372036854775807) : ACall Try.prog 34 [xv h, .int .i64 a, .int .i64 n] (.tup [.str (hLoad h a n).1, .int .i64 (hLoad h a n).2]) [] := by
  obtain ⟨l1, l2, l3⟩ := k.lens
  unfold hLoad
  by_cases q0 : n < 0
  · rw [if_pos q0]
    unfold xv
    dsimp only
    refine acall_walk (N := 22) Try.func34 (by kernel_rfl) p_caravelref10_Load rfl ?_; unfold c_caravelref10_Load; dsimp only [enum, Nat.reduceAdd]
    (repeat (first | ((with_reducible show RG _ _ (_ :: _) _ _ _); refine RG.go1 (k := ?_)) | ((with_reducible show DG _ _ (_ :: _) _ _ _ _ _); refine DG.go1 (k := ?_)) | (with_reducible first | apply RG.nil | apply W.seq | apply W.reg | apply W.skip | apply W.block | apply W.drw | apply DG.nil | refine W.done (QB.n ?_)) | refine W.cndT ?_ | refine W.cndF ?_))
    (refine W.ret ?_; (repeat (with_reducible first | refine QB.r ?_ | refine QL.r ?_ | refine QC.r ?_)); refine QF.r ?_)
    exact RetOk.rs (vs := [_, _]) r_caravelref10_Load []
  rw [if_neg q0]
  have ci := xIn_ok k ha (n := n) ⟨by omega, by omega⟩
  cases hq : h.l.any (insB a n)
  · rw [hq] at ci
    rw [if_neg (by decide)]
    unfold xv at ci ⊢
    dsimp only
    refine acall_walk (N := 22) Try.func34 (by kernel_rfl) p_caravelref10_Load rfl ?_; unfold c_caravelref10_Load; dsimp only [enum, Nat.reduceAdd]
    (repeat (first | ((with_reducible show RG _ _ (_ :: _) _ _ _); refine RG.go1 (k := ?_)) | ((with_reducible show DG _ _ (_ :: _) _ _ _ _ _); refine DG.go1 (k := ?_)) | (with_reducible first | apply RG.nil | apply W.seq | apply W.reg | apply W.skip | apply W.block | apply W.drw | apply DG.nil | refine W.done (QB.n ?_)) | refine W.cndT ?_ | refine W.cndF ?_))
    (first | ((with_reducible show RG _ _ (_ :: _) _ _ _); refine RG.ca (ci) (k := ?_)) | ((with_reducible show DG _ _ (_ :: _) _ _ _ _ _); refine DG.ca (ci) (k := ?_)))
    (repeat (first | ((with_reducible show RG _ _ (_ :: _) _ _ _); refine RG.go1 (k := ?_)) | ((with_reducible show DG _ _ (_ :: _) _ _ _ _ _); refine DG.go1 (k := ?_)) | (with_reducible first | apply RG.nil | apply W.seq | apply W.reg | apply W.skip | apply W.block | apply W.drw | apply DG.nil | refine W.done (QB.n ?_)) | refine W.cndT ?_ | refine W.cndF ?_))
    (refine W.ret ?_; (repeat (with_reducible first | refine QB.r ?_ | refine QL.r ?_ | refine QC.r ?_)); refine QF.r ?_)
    exact RetOk.rs (vs := [_, _]) r_caravelref10_Load []
  · rw [hq] at ci
    rw [if_pos rfl]
    obtain ⟨b1, b2⟩ := insB_bd k hq
    have hsm := k.s
    obtain ⟨b, rfl⟩ : ∃ b : Nat, a = b := ⟨a.toNat, by omega⟩
    obtain ⟨w, rfl⟩ : ∃ w : Nat, n = w := ⟨n.toNat, by omega⟩
    dsimp only
    have e1 : (h.s.take ((b : Int) + (w : Int)).toNat).drop (b : Int).toNat = (h.s.drop b).take w := by
      rw [show ((b : Int) + (w : Int)).toNat = b + w by omega, show (b : Int).toNat = b by omega, List.drop_take, Nat.add_sub_cancel_left]
    rw [show ((b : Nat) : Int).toNat = b by omega, show ((w : Nat) : Int).toNat = w by omega]
    unfold xv at ci ⊢
    clear hq
    refine acall_walk (N := 22) Try.func34 (by kernel_rfl) p_caravelref10_Load rfl ?_; unfold c_caravelref10_Load; dsimp only [enum, Nat.reduceAdd]
    (repeat (first | ((with_reducible show RG _ _ (_ :: _) _ _ _); refine RG.go1 (k := ?_)) | ((with_reducible show DG _ _ (_ :: _) _ _ _ _ _); refine DG.go1 (k := ?_)) | (with_reducible first | apply RG.nil | apply W.seq | apply W.reg | apply W.skip | apply W.block | apply W.drw | apply DG.nil | refine W.done (QB.n ?_)) | refine W.cndT ?_ | refine W.cndF ?_))
    (first | ((with_reducible show RG _ _ (_ :: _) _ _ _); refine RG.ca (ci) (k := ?_)) | ((with_reducible show DG _ _ (_ :: _) _ _ _ _ _); refine DG.ca (ci) (k := ?_)))
    (repeat (first | ((with_reducible show RG _ _ (_ :: _) _ _ _); refine RG.go1 (k := ?_)) | ((with_reducible show DG _ _ (_ :: _) _ _ _ _ _); refine DG.go1 (k := ?_)) | (with_reducible first | apply RG.nil | apply W.seq | apply W.reg | apply W.skip | apply W.block | apply W.drw | apply DG.nil | refine W.done (QB.n ?_)) | refine W.cndT ?_ | refine W.cndF ?_))
    (first | ((with_reducible show RG _ _ (_ :: _) _ _ _); refine RG.ew ((slt_of e1)) (k := ?_)) | ((with_reducible show DG _ _ (_ :: _) _ _ _ _ _); refine DG.ew ((slt_of e1)) (k := ?_)))
    (repeat (first | ((with_reducible show RG _ _ (_ :: _) _ _ _); refine RG.go1 (k := ?_)) | ((with_reducible show DG _ _ (_ :: _) _ _ _ _ _); refine DG.go1 (k := ?_)) | (with_reducible first | apply RG.nil | apply W.seq | apply W.reg | apply W.skip | apply W.block | apply W.drw | apply DG.nil | refine W.done (QB.n ?_)) | refine W.cndT ?_ | refine W.cndF ?_))
    (refine W.ret ?_; (repeat (with_reducible first | refine QB.r ?_ | refine QL.r ?_ | refine QC.r ?_)); refine QF.r ?_)
    exact RetOk.rs (vs := [_, _]) r_caravelref10_Load []
theorem xHear_ok {h : Hp} {m : Nat} (k : h.Ok m) (p : Int) (v : List UInt8) (hv1 : v.length ≤ 100000) : ACall Try.prog 37 [xv h, .int .i64 p, .str v] (.tup [xv (hHear h p v).1, .int .i64 (hHear h p v).2]) [] := by
  obtain ⟨l1, l2, l3⟩ := k.lens
  have ed := bo_len h.d
  have km := k.m2
  have hsm := k.s
  have hdm := k.d
  unfold hHear
  by_cases q1 : 0 ≤ p ∧ p < h.d.length
  · rw [if_pos q1]
    obtain ⟨q1, q2⟩ := q1
    obtain ⟨p', rfl⟩ : ∃ b : Nat, p = b := ⟨p.toNat, by omega⟩
    by_cases q3 : v.length = 64
    · rw [if_pos q3]
      dsimp only
      rw [show ((p' : Nat) : Int).toNat = p' by omega]
      have e1 : (h.s.take (64 * (p' : Int)).toNat).drop (0 : Int).toNat = h.s.take (64 * p') := by
        rw [show (64 * (p' : Int)).toNat = 64 * p' by omega]; simp
      have e2 : (h.s.take (h.s.length : Int).toNat).drop (64 * (p' : Int) + 64).toNat = h.s.drop (64 * p' + 64) := by
        rw [show (64 * (p' : Int) + 64).toNat = 64 * p' + 64 by omega, show (h.s.length : Int).toNat = h.s.length by omega, List.take_length]
      have e3 : (h.s.take (64 * p') ++ v) ++ h.s.drop (64 * p' + 64) = putS h.s (64 * p') v := by unfold putS; rw [List.append_assoc, q3]
      unfold xv
      dsimp only
      refine acall_walk (N := 38) Try.func37 (by kernel_rfl) p_caravelref10_Hear rfl ?_; unfold c_caravelref10_Hear; dsimp only [enum, Nat.reduceAdd]
      (repeat (first | ((with_reducible show RG _ _ (_ :: _) _ _ _); refine RG.go1 (k := ?_)) | ((with_reducible show DG _ _ (_ :: _) _ _ _ _ _); refine DG.go1 (k := ?_)) | (with_reducible first | apply RG.nil | apply W.seq | apply W.reg | apply W.skip | apply W.block | apply W.drw | apply DG.nil | refine W.done (QB.n ?_)) | refine W.cndT ?_ | refine W.cndF ?_))
      (first | ((with_reducible show RG _ _ (_ :: _) _ _ _); refine RG.ew ((slt_of e1)) (k := ?_)) | ((with_reducible show DG _ _ (_ :: _) _ _ _ _ _); refine DG.ew ((slt_of e1)) (k := ?_)))
      (repeat (first | ((with_reducible show RG _ _ (_ :: _) _ _ _); refine RG.go1 (k := ?_)) | ((with_reducible show DG _ _ (_ :: _) _ _ _ _ _); refine DG.go1 (k := ?_)) | (with_reducible first | apply RG.nil | apply W.seq | apply W.reg | apply W.skip | apply W.block | apply W.drw | apply DG.nil | refine W.done (QB.n ?_)) | refine W.cndT ?_ | refine W.cndF ?_))
      (first | ((with_reducible show RG _ _ (_ :: _) _ _ _); refine RG.ew ((slt_of e2)) (k := ?_)) | ((with_reducible show DG _ _ (_ :: _) _ _ _ _ _); refine DG.ew ((slt_of e2)) (k := ?_)))
      (repeat (first | ((with_reducible show RG _ _ (_ :: _) _ _ _); refine RG.go1 (k := ?_)) | ((with_reducible show DG _ _ (_ :: _) _ _ _ _ _); refine DG.go1 (k := ?_)) | (with_reducible first | apply RG.nil | apply W.seq | apply W.reg | apply W.skip | apply W.block | apply W.drw | apply DG.nil | refine W.done (QB.n ?_)) | refine W.cndT ?_ | refine W.cndF ?_))
      rw [e3]
      (repeat (first | ((with_reducible show RG _ _ (_ :: _) _ _ _); refine RG.go1 (k := ?_)) | ((with_reducible show DG _ _ (_ :: _) _ _ _ _ _); refine DG.go1 (k := ?_)) | (with_reducible first | apply RG.nil | apply W.seq | apply W.reg | apply W.skip | apply W.block | apply W.drw | apply DG.nil | refine W.done (QB.n ?_)) | refine W.cndT ?_ | refine W.cndF ?_))
      (refine W.ret ?_; (repeat (with_reducible first | refine QB.r ?_ | refine QL.r ?_ | refine QC.r ?_)); refine QF.r ?_)
      exact RetOk.rs (vs := [_, _]) r_caravelref10_Hear []
    · rw [if_neg q3]
      unfold xv
      dsimp only
      refine acall_walk (N := 38) Try.func37 (by kernel_rfl) p_caravelref10_Hear rfl ?_; unfold c_caravelref10_Hear; dsimp only [enum, Nat.reduceAdd]
      (repeat (first | ((with_reducible show RG _ _ (_ :: _) _ _ _); refine RG.go1 (k := ?_)) | ((with_reducible show DG _ _ (_ :: _) _ _ _ _ _); refine DG.go1 (k := ?_)) | (with_reducible first | apply RG.nil | apply W.seq | apply W.reg | apply W.skip | apply W.block | apply W.drw | apply DG.nil | refine W.done (QB.n ?_)) | refine W.cndT ?_ | refine W.cndF ?_))
      (refine W.ret ?_; (repeat (with_reducible first | refine QB.r ?_ | refine QL.r ?_ | refine QC.r ?_)); refine QF.r ?_)
      exact RetOk.rs (vs := [_, _]) r_caravelref10_Hear []
  · rw [if_neg q1]
    unfold xv
    dsimp only
    rcases Int.lt_or_le p 0 with q2 | q2
    · clear q1
      refine acall_walk (N := 38) Try.func37 (by kernel_rfl) p_caravelref10_Hear rfl ?_; unfold c_caravelref10_Hear; dsimp only [enum, Nat.reduceAdd]
      (repeat (first | ((with_reducible show RG _ _ (_ :: _) _ _ _); refine RG.go1 (k := ?_)) | ((with_reducible show DG _ _ (_ :: _) _ _ _ _ _); refine DG.go1 (k := ?_)) | (with_reducible first | apply RG.nil | apply W.seq | apply W.reg | apply W.skip | apply W.block | apply W.drw | apply DG.nil | refine W.done (QB.n ?_)) | refine W.cndT ?_ | refine W.cndF ?_))
      (refine W.ret ?_; (repeat (with_reducible first | refine QB.r ?_ | refine QL.r ?_ | refine QC.r ?_)); refine QF.r ?_)
      exact RetOk.rs (vs := [_, _]) r_caravelref10_Hear []
    · have q3 : (h.d.length : Int) ≤ p := by omega
      clear q1
      refine acall_walk (N := 38) Try.func37 (by kernel_rfl) p_caravelref10_Hear rfl ?_; unfold c_caravelref10_Hear; dsimp only [enum, Nat.reduceAdd]
      (repeat (first | ((with_reducible show RG _ _ (_ :: _) _ _ _); refine RG.go1 (k := ?_)) | ((with_reducible show DG _ _ (_ :: _) _ _ _ _ _); refine DG.go1 (k := ?_)) | (with_reducible first | apply RG.nil | apply W.seq | apply W.reg | apply W.skip | apply W.block | apply W.drw | apply DG.nil | refine W.done (QB.n ?_)) | refine W.cndT ?_ | refine W.cndF ?_))
      (refine W.ret ?_; (repeat (with_reducible first | refine QB.r ?_ | refine QL.r ?_ | refine QC.r ?_)); refine QF.r ?_)
      exact RetOk.rs (vs := [_, _]) r_caravelref10_Hear []
theorem xTell_ok {h : Hp} {m : Nat} (k : h.Ok m) (p : Int) : ACall Try.prog 35 [xv h, .int .i64 p] (.tup [xv (hTell h p).1, .str (hTell h p).2.1, .int .i64 (hTell h p).2.2]) [] := by
  obtain ⟨l1, l2, l3⟩ := k.lens
  have ed := bo_len h.d
  have km := k.m2
  have hsm := k.s
  have hdm := k.d
  unfold hTell
  by_cases q1 : 0 ≤ p ∧ p < h.d.length
  · rw [if_pos q1]
    obtain ⟨q1, q2⟩ := q1
    obtain ⟨p', rfl⟩ : ∃ b : Nat, p = b := ⟨p.toNat, by omega⟩
    dsimp only
    rw [show ((p' : Nat) : Int).toNat = p' by omega]
    have hst : (h.d.map bo).set p' (.bool false) = (h.d.set p' false).map bo := by rw [List.map_set]; rfl
    have hdl : (h.d.set p' false).length = h.d.length := List.length_set ..
    obtain ⟨d2, hd2⟩ : ∃ d2, h.d.set p' false = d2 := ⟨_, rfl⟩
    rw [hd2] at hst hdl ⊢
    have e1 : (h.s.take (64 * (p' : Int) + 64).toNat).drop (64 * (p' : Int)).toNat = (h.s.drop (64 * p')).take 64 := by
      rw [show (64 * (p' : Int) + 64).toNat = 64 * p' + 64 by omega, show (64 * (p' : Int)).toNat = 64 * p' by omega, List.drop_take, Nat.add_sub_cancel_left]
    unfold xv
    dsimp only
    clear hd2
    have hp := bo_pure h.d
    refine acall_walk (N := 36) Try.func35 (by kernel_rfl) p_caravelref10_Tell rfl ?_; unfold c_caravelref10_Tell; dsimp only [enum, Nat.reduceAdd]
    (repeat (first | ((with_reducible show RG _ _ (_ :: _) _ _ _); refine RG.go1 (k := ?_)) | ((with_reducible show DG _ _ (_ :: _) _ _ _ _ _); refine DG.go1 (k := ?_)) | (with_reducible first | apply RG.nil | apply W.seq | apply W.reg | apply W.skip | apply W.block | apply W.drw | apply DG.nil | refine W.done (QB.n ?_)) | refine W.cndT ?_ | refine W.cndF ?_))
    rw [ed]
    (first | ((with_reducible show RG _ _ (_ :: _) _ _ _); refine RG.ew (ix_of ((show 0 + ((p' : Nat) : Int).toNat = p' by omega))) (k := ?_)) | ((with_reducible show DG _ _ (_ :: _) _ _ _ _ _); refine DG.ew (ix_of ((show 0 + ((p' : Nat) : Int).toNat = p' by omega))) (k := ?_)))
    (repeat (first | ((with_reducible show RG _ _ (_ :: _) _ _ _); refine RG.go1 (k := ?_)) | ((with_reducible show DG _ _ (_ :: _) _ _ _ _ _); refine DG.go1 (k := ?_)) | (with_reducible first | apply RG.nil | apply W.seq | apply W.reg | apply W.skip | apply W.block | apply W.drw | apply DG.nil | refine W.done (QB.n ?_))))
    (first | ((with_reducible show RG _ _ (_ :: _) _ _ _); refine RG.sn (A.str (hst)) (k := ?_)) | ((with_reducible show DG _ _ (_ :: _) _ _ _ _ _); refine DG.sn (A.str (hst)) (k := ?_)))
    (repeat (first | ((with_reducible show RG _ _ (_ :: _) _ _ _); refine RG.go1 (k := ?_)) | ((with_reducible show DG _ _ (_ :: _) _ _ _ _ _); refine DG.go1 (k := ?_)) | (with_reducible first | apply RG.nil | apply W.seq | apply W.reg | apply W.skip | apply W.block | apply W.drw | apply DG.nil | refine W.done (QB.n ?_))))
    (first | ((with_reducible show RG _ _ (_ :: _) _ _ _); refine RG.ew ((slt_of e1)) (k := ?_)) | ((with_reducible show DG _ _ (_ :: _) _ _ _ _ _); refine DG.ew ((slt_of e1)) (k := ?_)))
    (repeat (first | ((with_reducible show RG _ _ (_ :: _) _ _ _); refine RG.go1 (k := ?_)) | ((with_reducible show DG _ _ (_ :: _) _ _ _ _ _); refine DG.go1 (k := ?_)) | (with_reducible first | apply RG.nil | apply W.seq | apply W.reg | apply W.skip | apply W.block | apply W.drw | apply DG.nil | refine W.done (QB.n ?_)) | refine W.cndT ?_ | refine W.cndF ?_))
    (refine W.ret ?_; (repeat (with_reducible first | refine QB.r ?_ | refine QL.r ?_ | refine QC.r ?_)); refine QF.r ?_)
    (refine RetOk.wk (Wk.frz (b := 1) rfl rfl) ?_; refine RetOk.wk (Wk.box (b := 1) (cs' := [_, _, _]) rfl (by dsimp only [ClL]; (repeat' (first | exact True.intro | exact Cl.ice rfl rfl rfl (by first | assumption | decide | omega | (simp; (first | (all_goals fail) | fail)) | (simp <;> omega)) (by first | exact take_all _ | exact take_len (by first | (simp; (first | (all_goals fail) | fail)) | (simp <;> omega)) | exact rfl) | exact Cl.le (.refl _) | apply And.intro)); (first | (all_goals fail) | fail))) ?_; dsimp only [setO])
    exact RetOk.rs (vs := [_, _, _]) r_caravelref10_Tell []
  · rw [if_neg q1]
    unfold xv
    dsimp only
    rcases Int.lt_or_le p 0 with q2 | q2
    · clear q1
      refine acall_walk (N := 36) Try.func35 (by kernel_rfl) p_caravelref10_Tell rfl ?_; unfold c_caravelref10_Tell; dsimp only [enum, Nat.reduceAdd]
      (repeat (first | ((with_reducible show RG _ _ (_ :: _) _ _ _); refine RG.go1 (k := ?_)) | ((with_reducible show DG _ _ (_ :: _) _ _ _ _ _); refine DG.go1 (k := ?_)) | (with_reducible first | apply RG.nil | apply W.seq | apply W.reg | apply W.skip | apply W.block | apply W.drw | apply DG.nil | refine W.done (QB.n ?_)) | refine W.cndT ?_ | refine W.cndF ?_))
      (refine W.ret ?_; (repeat (with_reducible first | refine QB.r ?_ | refine QL.r ?_ | refine QC.r ?_)); refine QF.r ?_)
      exact RetOk.rs (vs := [_, _, _]) r_caravelref10_Tell []
    · have q3 : (h.d.length : Int) ≤ p := by omega
      clear q1
      refine acall_walk (N := 36) Try.func35 (by kernel_rfl) p_caravelref10_Tell rfl ?_; unfold c_caravelref10_Tell; dsimp only [enum, Nat.reduceAdd]
      (repeat (first | ((with_reducible show RG _ _ (_ :: _) _ _ _); refine RG.go1 (k := ?_)) | ((with_reducible show DG _ _ (_ :: _) _ _ _ _ _); refine DG.go1 (k := ?_)) | (with_reducible first | apply RG.nil | apply W.seq | apply W.reg | apply W.skip | apply W.block | apply W.drw | apply DG.nil | refine W.done (QB.n ?_)) | refine W.cndT ?_ | refine W.cndF ?_))
      (refine W.ret ?_; (repeat (with_reducible first | refine QB.r ?_ | refine QL.r ?_ | refine QC.r ?_)); refine QF.r ?_)
      exact RetOk.rs (vs := [_, _, _]) r_caravelref10_Tell []
theorem xFree_ok {h : Hp} {m : Nat} (k : h.Ok m) (a : Int) : ACall Try.prog 32 [xv h, .int .i64 a] (.tup [xv (hFree h a).1, .int .i64 (hFree h a).2]) [] := by
  obtain ⟨l1, l2, l3⟩ := k.lens
  have el := rb_len h.l
  have ed := bo_len h.d
  have hb := k.bok
  unfold hFree
  cases hq : h.l.any (atP a)
  · rw [if_neg (by decide)]
    have hna : ∀ x ∈ h.l, x.at_ ≠ a := fun x hx => by
      rw [List.any_eq_false] at hq
      have := hq x hx
      unfold atP at this
      simpa using this
    unfold xv
    dsimp only
    refine acall_walk (N := 54) Try.func32 (by kernel_rfl) p_caravelref10_Free rfl ?_; unfold c_caravelref10_Free; dsimp only [enum, Nat.reduceAdd]
    (repeat (first | ((with_reducible show RG _ _ (_ :: _) _ _ _); refine RG.go1 (k := ?_)) | ((with_reducible show DG _ _ (_ :: _) _ _ _ _ _); refine DG.go1 (k := ?_)) | (with_reducible first | apply RG.nil | apply W.seq | apply W.reg | apply W.skip | apply W.block | apply W.drw | apply DG.nil | refine W.done (QB.n ?_)) | refine W.cndT ?_ | refine W.cndF ?_))
    refine W.loop (ι := {i : Nat // i ≤ h.l.length}) (fun i => ⟨[(6, .int .i64 i.1), (4, .bptr 1 0), (2, .bptr 0 0), (1, .int .i64 a)], [some [.str h.s, .sl false 2 (h.l.map rb), .sl false 1 (h.d.map bo)], some [.str [], .nil, .nil]], [], 2, 0⟩) (fun i => h.l.length - i.1) ⟨0, Nat.zero_le _⟩ ?_ ?_
    · exact Wk.rn ([0, 1] ) ( [])
    rintro ⟨i, hi⟩
    dsimp only
    (repeat (first | ((with_reducible show RG _ _ (_ :: _) _ _ _); refine RG.go1 (k := ?_)) | ((with_reducible show DG _ _ (_ :: _) _ _ _ _ _); refine DG.go1 (k := ?_)) | (with_reducible first | apply RG.nil | apply W.seq | apply W.reg | apply W.skip | apply W.block | apply W.drw | apply DG.nil | refine W.done (QB.n ?_))))
    refine W.cnd (fun h1 => ?_) (fun h1 => ?_)
    · have hlt : i < h.l.length := by simp at h1; omega
      have hE := rb_at h.l i hlt (j := ((i : Nat) : Int).toNat) (by simp)
      have hn := hna _ (List.getElem_mem hlt)
      generalize h.l[i] = x at *
      clear h1 hb
      (repeat (first | ((with_reducible show RG _ _ (_ :: _) _ _ _); refine RG.go1 (k := ?_)) | ((with_reducible show DG _ _ (_ :: _) _ _ _ _ _); refine DG.go1 (k := ?_)) | (with_reducible first | apply RG.nil | apply W.seq | apply W.reg | apply W.skip | apply W.block | apply W.drw | apply DG.nil | refine W.done (QB.n ?_))))
      (first | ((with_reducible show RG _ _ (_ :: _) _ _ _); refine RG.ew (cptr_of (hE) (by (conv => lhs; whnf) <;> exact rfl)) (k := ?_)) | ((with_reducible show DG _ _ (_ :: _) _ _ _ _ _); refine DG.ew (cptr_of (hE) (by (conv => lhs; whnf) <;> exact rfl)) (k := ?_)))
      (repeat (first | ((with_reducible show RG _ _ (_ :: _) _ _ _); refine RG.go1 (k := ?_)) | ((with_reducible show DG _ _ (_ :: _) _ _ _ _ _); refine DG.go1 (k := ?_)) | (with_reducible first | apply RG.nil | apply W.seq | apply W.reg | apply W.skip | apply W.block | apply W.drw | apply DG.nil | refine W.done (QB.n ?_)) | refine W.cndT ?_ | refine W.cndF ?_))
      (refine W.exit ?_; (repeat (first | (with_reducible first | refine QL.x ?_ | refine QC.x ?_ | refine QB.x ?_) | (with_reducible refine QB.o (by decide) ?_))))
      (repeat (first | ((with_reducible show RG _ _ (_ :: _) _ _ _); refine RG.go1 (k := ?_)) | ((with_reducible show DG _ _ (_ :: _) _ _ _ _ _); refine DG.go1 (k := ?_)) | (with_reducible first | apply RG.nil | apply W.seq | apply W.reg | apply W.skip | apply W.block | apply W.drw | apply DG.nil | refine W.done (QB.n ?_)) | refine W.cndT ?_ | refine W.cndF ?_))
      refine W.done (QL.n (⟨i + 1, by omega⟩) ?_ ?_)
      · exact Wk.rn ([0, 1] ) ( [])
      · dsimp only; omega
    · (refine W.exit ?_; (repeat (first | (with_reducible first | refine QL.x ?_ | refine QC.x ?_ | refine QB.x ?_) | (with_reducible refine QB.o (by decide) ?_))))
      (repeat (first | ((with_reducible show RG _ _ (_ :: _) _ _ _); refine RG.go1 (k := ?_)) | ((with_reducible show DG _ _ (_ :: _) _ _ _ _ _); refine DG.go1 (k := ?_)) | (with_reducible first | apply RG.nil | apply W.seq | apply W.reg | apply W.skip | apply W.block | apply W.drw | apply DG.nil | refine W.done (QB.n ?_)) | refine W.cndT ?_ | refine W.cndF ?_))
      (refine W.ret ?_; (repeat (with_reducible first | refine QB.r ?_ | refine QL.r ?_ | refine QC.r ?_)); refine QF.r ?_)
      exact RetOk.rs (vs := [_, _]) r_caravelref10_Free []
  · rw [if_pos rfl]
    obtain ⟨j, hid, hj, g1, g2⟩ : ∃ i, h.l.findIdx (atP a) = i ∧ ∃ hi : i < h.l.length, (h.l[i]).at_ = a ∧ h.l[i]?.getD ⟨0, 0⟩ = h.l[i] := by
      obtain ⟨hi, g1, g2⟩ := atP_idx hq
      exact ⟨_, rfl, hi, g1, g2⟩
    have hna : ∀ i : Nat, (h1 : i < h.l.length) → i < j → (h.l[i]).at_ ≠ a := fun i h1 h2 => by
      subst hid
      have := List.not_of_lt_findIdx h2
      unfold atP at this
      simpa using this
    obtain ⟨_, k1, k2, k3, k4, k5⟩ := k.l.mem (Int.le_refl _) _ (List.getElem_mem hj)
    rw [hid]
    rw [g2]
    have hE := rb_at h.l j hj (j := ((j : Nat) : Int).toNat) (by simp)
    rw [g1] at k1 k2 k5 hE
    obtain ⟨xn, hxn⟩ : ∃ xn, (h.l[j]).ln = xn := ⟨_, rfl⟩
    rw [hxn] at k3 k4 k5 hE ⊢
    obtain ⟨b, rfl⟩ : ∃ b : Nat, a = b := ⟨a.toNat, by omega⟩
    obtain ⟨w, rfl⟩ : ∃ w : Nat, xn = w := ⟨xn.toNat, by omega⟩
    have km := k.m2
    have hsm := k.s
    have ke : Hp.Ok ⟨h.s, h.l.eraseIdx j, h.d⟩ m := ⟨k.m1, k.m2, k.s, k.d, k.l.erase _⟩
    have cp := xPut_ok ke (a := (b : Nat)) (List.replicate w 0) (by omega) (by rw [List.length_replicate]; omega)
    rw [show ((w : Nat) : Int).toNat = w by omega]
    dsimp only
    generalize hPut ⟨h.s, h.l.eraseIdx j, h.d⟩ (b : Nat) (List.replicate w 0) = h' at *
    have e1 : ((h.l.map rb).take (j : Int).toNat).drop (0 : Int).toNat = (h.l.take j).map rb := by simp
    have e2 : ((h.l.map rb).take ((h.l.map rb).length : Int).toNat).drop ((j : Int) + 1).toNat = (h.l.drop (j + 1)).map rb := by
      rw [show ((j : Int) + 1).toNat = j + 1 by omega, List.take_of_length_le (by simp), List.map_drop]
    have e3 : (h.l.take j).map rb ++ (h.l.drop (j + 1)).map rb = (h.l.eraseIdx j).map rb := by rw [List.eraseIdx_eq_take_drop_succ, List.map_append]
    have f1 := rb_pure (h.l.take j)
    have f2 := rb_pure (h.l.drop (j + 1))
    have f3 : ((h.l.take j).map rb).length = j := by simp; omega
    have f4 : ((h.l.drop (j + 1)).map rb).length = h.l.length - (j + 1) := by simp
    have f6 := List.length_eraseIdx_of_lt hj
    have f5 : ((h.l.eraseIdx j).map rb).length = h.l.length - 1 := by rw [List.length_map, List.length_eraseIdx_of_lt hj]
    unfold xv at cp ⊢
    dsimp only at cp ⊢
    clear hq hid g2 hb ke
    refine acall_walk (N := 54) Try.func32 (by kernel_rfl) p_caravelref10_Free rfl ?_; unfold c_caravelref10_Free; dsimp only [enum, Nat.reduceAdd]
    (repeat (first | ((with_reducible show RG _ _ (_ :: _) _ _ _); refine RG.go1 (k := ?_)) | ((with_reducible show DG _ _ (_ :: _) _ _ _ _ _); refine DG.go1 (k := ?_)) | (with_reducible first | apply RG.nil | apply W.seq | apply W.reg | apply W.skip | apply W.block | apply W.drw | apply DG.nil | refine W.done (QB.n ?_)) | refine W.cndT ?_ | refine W.cndF ?_))
    refine W.loop (ι := {i : Nat // i ≤ j}) (fun i => ⟨[(6, .int .i64 i.1), (4, .bptr 1 0), (2, .bptr 0 0), (1, .int .i64 (b : Nat))], [some [.str h.s, .sl false 2 (h.l.map rb), .sl false 1 (h.d.map bo)], some [.str [], .nil, .nil]], [], 2, 0⟩) (fun i => j - i.1) ⟨0, Nat.zero_le _⟩ ?_ ?_
    · exact Wk.rn ([0, 1] ) ( [])
    rintro ⟨i, hi⟩
    dsimp only
    (repeat (first | ((with_reducible show RG _ _ (_ :: _) _ _ _); refine RG.go1 (k := ?_)) | ((with_reducible show DG _ _ (_ :: _) _ _ _ _ _); refine DG.go1 (k := ?_)) | (with_reducible first | apply RG.nil | apply W.seq | apply W.reg | apply W.skip | apply W.block | apply W.drw | apply DG.nil | refine W.done (QB.n ?_)) | refine W.cndT ?_ | refine W.cndF ?_))
    by_cases hij : i < j
    · have hn := hna i (by omega) hij
      have hF := rb_at h.l i (by omega) (j := ((i : Nat) : Int).toNat) (by simp)
      obtain ⟨xa, hxa⟩ : ∃ a, (h.l[i]'(by omega)).at_ = a := ⟨_, rfl⟩
      rw [hxa] at hn hF
      clear hxa
      generalize (h.l[i]'(by omega)).ln = xn at *
      (first | ((with_reducible show RG _ _ (_ :: _) _ _ _); refine RG.ew (cptr_of (hF) (by (conv => lhs; whnf) <;> exact rfl)) (k := ?_)) | ((with_reducible show DG _ _ (_ :: _) _ _ _ _ _); refine DG.ew (cptr_of (hF) (by (conv => lhs; whnf) <;> exact rfl)) (k := ?_)))
      (repeat (first | ((with_reducible show RG _ _ (_ :: _) _ _ _); refine RG.go1 (k := ?_)) | ((with_reducible show DG _ _ (_ :: _) _ _ _ _ _); refine DG.go1 (k := ?_)) | (with_reducible first | apply RG.nil | apply W.seq | apply W.reg | apply W.skip | apply W.block | apply W.drw | apply DG.nil | refine W.done (QB.n ?_)) | refine W.cndT ?_ | refine W.cndF ?_))
      (refine W.exit ?_; (repeat (first | (with_reducible first | refine QL.x ?_ | refine QC.x ?_ | refine QB.x ?_) | (with_reducible refine QB.o (by decide) ?_))))
      (repeat (first | ((with_reducible show RG _ _ (_ :: _) _ _ _); refine RG.go1 (k := ?_)) | ((with_reducible show DG _ _ (_ :: _) _ _ _ _ _); refine DG.go1 (k := ?_)) | (with_reducible first | apply RG.nil | apply W.seq | apply W.reg | apply W.skip | apply W.block | apply W.drw | apply DG.nil | refine W.done (QB.n ?_)) | refine W.cndT ?_ | refine W.cndF ?_))
      refine W.done (QL.n (⟨i + 1, by omega⟩) ?_ ?_)
      · exact Wk.rn ([0, 1] ) ( [])
      · dsimp only; omega
    · obtain rfl : i = j := by omega
      (first | ((with_reducible show RG _ _ (_ :: _) _ _ _); refine RG.ew (cptr_of (hE) (by (conv => lhs; whnf) <;> exact rfl)) (k := ?_)) | ((with_reducible show DG _ _ (_ :: _) _ _ _ _ _); refine DG.ew (cptr_of (hE) (by (conv => lhs; whnf) <;> exact rfl)) (k := ?_)))
      (repeat (first | ((with_reducible show RG _ _ (_ :: _) _ _ _); refine RG.go1 (k := ?_)) | ((with_reducible show DG _ _ (_ :: _) _ _ _ _ _); refine DG.go1 (k := ?_)) | (with_reducible first | apply RG.nil | apply W.seq | apply W.reg | apply W.skip | apply W.block | apply W.drw | apply DG.nil | refine W.done (QB.n ?_)) | refine W.cndT ?_ | refine W.cndF ?_))
      (first | ((with_reducible show RG _ _ (_ :: _) _ _ _); refine RG.ew (cptr_of (hE) (by (conv => lhs; whnf) <;> exact rfl)) (k := ?_)) | ((with_reducible show DG _ _ (_ :: _) _ _ _ _ _); refine DG.ew (cptr_of (hE) (by (conv => lhs; whnf) <;> exact rfl)) (k := ?_)))
      (repeat (first | ((with_reducible show RG _ _ (_ :: _) _ _ _); refine RG.go1 (k := ?_)) | ((with_reducible show DG _ _ (_ :: _) _ _ _ _ _); refine DG.go1 (k := ?_)) | (with_reducible first | apply RG.nil | apply W.seq | apply W.reg | apply W.skip | apply W.block | apply W.drw | apply DG.nil | refine W.done (QB.n ?_)) | refine W.cndT ?_ | refine W.cndF ?_))
      (first | ((with_reducible show RG _ _ (_ :: _) _ _ _); refine RG.ew (sl_of (e1)) (k := ?_)) | ((with_reducible show DG _ _ (_ :: _) _ _ _ _ _); refine DG.ew (sl_of (e1)) (k := ?_)))
      (repeat (first | ((with_reducible show RG _ _ (_ :: _) _ _ _); refine RG.go1 (k := ?_)) | ((with_reducible show DG _ _ (_ :: _) _ _ _ _ _); refine DG.go1 (k := ?_)) | (with_reducible first | apply RG.nil | apply W.seq | apply W.reg | apply W.skip | apply W.block | apply W.drw | apply DG.nil | refine W.done (QB.n ?_)) | refine W.cndT ?_ | refine W.cndF ?_))
      rw [f3]
      (first | ((with_reducible show RG _ _ (_ :: _) _ _ _); refine RG.ew (sl_of (e2)) (k := ?_)) | ((with_reducible show DG _ _ (_ :: _) _ _ _ _ _); refine DG.ew (sl_of (e2)) (k := ?_)))
      (repeat (first | ((with_reducible show RG _ _ (_ :: _) _ _ _); refine RG.go1 (k := ?_)) | ((with_reducible show DG _ _ (_ :: _) _ _ _ _ _); refine DG.go1 (k := ?_)) | with_reducible apply RG.nil | with_reducible apply DG.nil))
      rw [f4, show i + (h.l.length - (i + 1)) = h.l.length - 1 by omega, e3]
      (refine W.wk (Wk.frz (b := 2) rfl rfl) ?_ (by simp); refine W.wk (Wk.box (b := 0) (cs' := [_, _, _]) rfl (by dsimp only [ClL]; (repeat' (first | exact True.intro | exact Cl.ice rfl rfl rfl (by first | assumption | decide | omega | (simp; (first | (all_goals fail) | fail)) | (simp <;> omega)) (by first | exact take_all _ | exact take_len (by first | (simp; (first | (all_goals fail) | fail)) | (simp <;> omega)) | exact rfl) | exact Cl.le (.refl _) | apply And.intro)); (first | (all_goals fail) | fail))) ?_ (by simp); dsimp only [setO])
      (repeat (first | ((with_reducible show RG _ _ (_ :: _) _ _ _); refine RG.go1 (k := ?_)) | ((with_reducible show DG _ _ (_ :: _) _ _ _ _ _); refine DG.go1 (k := ?_)) | (with_reducible first | apply RG.nil | apply W.seq | apply W.reg | apply W.skip | apply W.block | apply W.drw | apply DG.nil | refine W.done (QB.n ?_)) | refine W.cndT ?_ | refine W.cndF ?_))
      rw [show ((b : Int) + (w : Int) - (b : Int)).toNat = w by omega, rep_by8]
      (repeat (first | ((with_reducible show RG _ _ (_ :: _) _ _ _); refine RG.go1 (k := ?_)) | ((with_reducible show DG _ _ (_ :: _) _ _ _ _ _); refine DG.go1 (k := ?_)) | (with_reducible first | apply RG.nil | apply W.seq | apply W.reg | apply W.skip | apply W.block | apply W.drw | apply DG.nil | refine W.done (QB.n ?_)) | refine W.cndT ?_ | refine W.cndF ?_))
      (first | ((with_reducible show RG _ _ (_ :: _) _ _ _); refine RG.ca (cp) (k := ?_)) | ((with_reducible show DG _ _ (_ :: _) _ _ _ _ _); refine DG.ca (cp) (k := ?_)))
      (repeat (first | ((with_reducible show RG _ _ (_ :: _) _ _ _); refine RG.go1 (k := ?_)) | ((with_reducible show DG _ _ (_ :: _) _ _ _ _ _); refine DG.go1 (k := ?_)) | (with_reducible first | apply RG.nil | apply W.seq | apply W.reg | apply W.skip | apply W.block | apply W.drw | apply DG.nil | refine W.done (QB.n ?_)) | refine W.cndT ?_ | refine W.cndF ?_))
      (refine W.ret ?_; (repeat (with_reducible first | refine QB.r ?_ | refine QL.r ?_ | refine QC.r ?_)); refine QF.r ?_)
      exact RetOk.rs (vs := [_, _]) r_caravelref10_Free []
theorem xLike_ok {h : Hp} {m : Nat} (k : h.Ok m) : ACall Try.prog 24 [xv h, hv true h] (.bool true) [] := by
  obtain ⟨l1, l2, l3⟩ := k.lens
  have es := by8_len h.s
  have el := rb_len h.l
  have el2 := bk_len h.l
  have ed := bo_len h.d
  have hb := k.bok
  unfold xv hv
  refine acall_walk (N := 91) Try.func24 (by kernel_rfl) p_caravelref10_Like rfl ?_; unfold c_caravelref10_Like; dsimp only [enum, Nat.reduceAdd]
  (repeat (first | ((with_reducible show RG _ _ (_ :: _) _ _ _); refine RG.go1 (k := ?_)) | ((with_reducible show DG _ _ (_ :: _) _ _ _ _ _); refine DG.go1 (k := ?_)) | (with_reducible first | apply RG.nil | apply W.seq | apply W.reg | apply W.skip | apply W.block | apply W.drw | apply DG.nil | refine W.done (QB.n ?_)) | refine W.cndT ?_ | refine W.cndF ?_))
  refine W.loop (ι := {i : Nat // i ≤ h.l.length}) (fun i => ⟨[(5, .int .i64 i.1), (3, .bptr 1 0), (2, .bptr 0 0)], [some [.str h.s, .sl false 2 (h.l.map rb), .sl false 1 (h.d.map bo)], some [.sl true 1 (h.s.map by8), .sl true 2 (h.l.map bk), .sl true 1 (h.d.map bo)]], [], 2, 0⟩) (fun i => h.l.length - i.1) ⟨0, Nat.zero_le _⟩ ?_ ?_
  · exact Wk.rn ([0, 1] ) ( [])
  rintro ⟨i, hi⟩
  dsimp only
  (repeat (first | ((with_reducible show RG _ _ (_ :: _) _ _ _); refine RG.go1 (k := ?_)) | ((with_reducible show DG _ _ (_ :: _) _ _ _ _ _); refine DG.go1 (k := ?_)) | (with_reducible first | apply RG.nil | apply W.seq | apply W.reg | apply W.skip | apply W.block | apply W.drw | apply DG.nil | refine W.done (QB.n ?_))))
  refine W.cnd (fun h1 => ?_) (fun h1 => ?_)
  · have hlt : i < h.l.length := by simp at h1; omega
    have hE := rb_at h.l i hlt (j := ((i : Nat) : Int).toNat) (by simp)
    have hF := bk_at h.l i hlt (j := ((i : Nat) : Int).toNat) (by simp)
    obtain ⟨b1, b2, b3, b4, b5⟩ := hb _ (List.getElem_mem hlt)
    generalize h.l[i] = x at *
    clear h1 hb b2 b4
    (repeat (first | ((with_reducible show RG _ _ (_ :: _) _ _ _); refine RG.go1 (k := ?_)) | ((with_reducible show DG _ _ (_ :: _) _ _ _ _ _); refine DG.go1 (k := ?_)) | (with_reducible first | apply RG.nil | apply W.seq | apply W.reg | apply W.skip | apply W.block | apply W.drw | apply DG.nil | refine W.done (QB.n ?_))))
    (first | ((with_reducible show RG _ _ (_ :: _) _ _ _); refine RG.ew (cptr_of (hF) (by (conv => lhs; whnf) <;> exact rfl)) (k := ?_)) | ((with_reducible show DG _ _ (_ :: _) _ _ _ _ _); refine DG.ew (cptr_of (hF) (by (conv => lhs; whnf) <;> exact rfl)) (k := ?_)))
    (repeat (first | ((with_reducible show RG _ _ (_ :: _) _ _ _); refine RG.go1 (k := ?_)) | ((with_reducible show DG _ _ (_ :: _) _ _ _ _ _); refine DG.go1 (k := ?_)) | (with_reducible first | apply RG.nil | apply W.seq | apply W.reg | apply W.skip | apply W.block | apply W.drw | apply DG.nil | refine W.done (QB.n ?_)) | refine W.cndT ?_ | refine W.cndF ?_))
    (first | ((with_reducible show RG _ _ (_ :: _) _ _ _); refine RG.ew (cptr_of (hE) (by (conv => lhs; whnf) <;> exact rfl)) (k := ?_)) | ((with_reducible show DG _ _ (_ :: _) _ _ _ _ _); refine DG.ew (cptr_of (hE) (by (conv => lhs; whnf) <;> exact rfl)) (k := ?_)))
    (repeat (first | ((with_reducible show RG _ _ (_ :: _) _ _ _); refine RG.go1 (k := ?_)) | ((with_reducible show DG _ _ (_ :: _) _ _ _ _ _); refine DG.go1 (k := ?_)) | (with_reducible first | apply RG.nil | apply W.seq | apply W.reg | apply W.skip | apply W.block | apply W.drw | apply DG.nil | refine W.done (QB.n ?_)) | refine W.cndT ?_ | refine W.cndF ?_))
    (first | ((with_reducible show RG _ _ (_ :: _) _ _ _); refine RG.ewg (cptr_of (hF) (by (conv => lhs; whnf) <;> exact rfl)) (k := ?_)) | ((with_reducible show DG _ _ (_ :: _) _ _ _ _ _); refine DG.ewg (cptr_of (hF) (by (conv => lhs; whnf) <;> exact rfl)) (k := ?_)))
    (repeat (first | ((with_reducible show RG _ _ (_ :: _) _ _ _); refine RG.go1 (k := ?_)) | ((with_reducible show DG _ _ (_ :: _) _ _ _ _ _); refine DG.go1 (k := ?_)) | (with_reducible first | apply RG.nil | apply W.seq | apply W.reg | apply W.skip | apply W.block | apply W.drw | apply DG.nil | refine W.done (QB.n ?_)) | refine W.cndT ?_ | refine W.cndF ?_))
    (first | ((with_reducible show RG _ _ (_ :: _) _ _ _); refine RG.ewg (cptr_of (hE) (by (conv => lhs; whnf) <;> exact rfl)) (k := ?_)) | ((with_reducible show DG _ _ (_ :: _) _ _ _ _ _); refine DG.ewg (cptr_of (hE) (by (conv => lhs; whnf) <;> exact rfl)) (k := ?_)))
    (repeat (first | ((with_reducible show RG _ _ (_ :: _) _ _ _); refine RG.go1 (k := ?_)) | ((with_reducible show DG _ _ (_ :: _) _ _ _ _ _); refine DG.go1 (k := ?_)) | (with_reducible first | apply RG.nil | apply W.seq | apply W.reg | apply W.skip | apply W.block | apply W.drw | apply DG.nil | refine W.done (QB.n ?_)) | refine W.cndT ?_ | refine W.cndF ?_))
    (first | ((with_reducible show RG _ _ (_ :: _) _ _ _); refine RG.ewg (cptr_of (hE) (by (conv => lhs; whnf) <;> exact rfl)) (k := ?_)) | ((with_reducible show DG _ _ (_ :: _) _ _ _ _ _); refine DG.ewg (cptr_of (hE) (by (conv => lhs; whnf) <;> exact rfl)) (k := ?_)))
    (repeat (first | ((with_reducible show RG _ _ (_ :: _) _ _ _); refine RG.go1 (k := ?_)) | ((with_reducible show DG _ _ (_ :: _) _ _ _ _ _); refine DG.go1 (k := ?_)) | (with_reducible first | apply RG.nil | apply W.seq | apply W.reg | apply W.skip | apply W.block | apply W.drw | apply DG.nil | refine W.done (QB.n ?_)) | refine W.cndT ?_ | refine W.cndF ?_))
    refine W.done (QL.n (⟨i + 1, by omega⟩) ?_ ?_)
    · exact Wk.rn ([0, 1] ) ( [])
    · dsimp only; omega
  · clear h1
    (refine W.exit ?_; (repeat (first | (with_reducible first | refine QL.x ?_ | refine QC.x ?_ | refine QB.x ?_) | (with_reducible refine QB.o (by decide) ?_))))
    (repeat (first | ((with_reducible show RG _ _ (_ :: _) _ _ _); refine RG.go1 (k := ?_)) | ((with_reducible show DG _ _ (_ :: _) _ _ _ _ _); refine DG.go1 (k := ?_)) | (with_reducible first | apply RG.nil | apply W.seq | apply W.reg | apply W.skip | apply W.block | apply W.drw | apply DG.nil | refine W.done (QB.n ?_)) | refine W.cndT ?_ | refine W.cndF ?_))
    refine W.loop (ι := {i : Nat // i ≤ h.d.length}) (fun i => ⟨[(6, .int .i64 i.1), (3, .bptr 1 0), (2, .bptr 0 0)], [some [.str h.s, .sl false 2 (h.l.map rb), .sl false 1 (h.d.map bo)], some [.sl true 1 (h.s.map by8), .sl true 2 (h.l.map bk), .sl true 1 (h.d.map bo)]], [], 2, 0⟩) (fun i => h.d.length - i.1) ⟨0, Nat.zero_le _⟩ ?_ ?_
    · exact Wk.rn ([0, 1] ) ( [])
    rintro ⟨i, hi⟩
    dsimp only
    (repeat (first | ((with_reducible show RG _ _ (_ :: _) _ _ _); refine RG.go1 (k := ?_)) | ((with_reducible show DG _ _ (_ :: _) _ _ _ _ _); refine DG.go1 (k := ?_)) | (with_reducible first | apply RG.nil | apply W.seq | apply W.reg | apply W.skip | apply W.block | apply W.drw | apply DG.nil | refine W.done (QB.n ?_))))
    refine W.cnd (fun h1 => ?_) (fun h1 => ?_)
    · have hlt : i < h.d.length := by simp at h1; omega
      have hE := bo_at h.d i hlt (j := ((i : Nat) : Int).toNat) (by simp)
      generalize h.d[i] = x at *
      clear h1 hb
      cases x
      · (repeat (first | ((with_reducible show RG _ _ (_ :: _) _ _ _); refine RG.go1 (k := ?_)) | ((with_reducible show DG _ _ (_ :: _) _ _ _ _ _); refine DG.go1 (k := ?_)) | (with_reducible first | apply RG.nil | apply W.seq | apply W.reg | apply W.skip | apply W.block | apply W.drw | apply DG.nil | refine W.done (QB.n ?_))))
        (first | ((with_reducible show RG _ _ (_ :: _) _ _ _); refine RG.ew (cptr_of (hE) (by (conv => lhs; whnf) <;> exact rfl)) (k := ?_)) | ((with_reducible show DG _ _ (_ :: _) _ _ _ _ _); refine DG.ew (cptr_of (hE) (by (conv => lhs; whnf) <;> exact rfl)) (k := ?_)))
        (repeat (first | ((with_reducible show RG _ _ (_ :: _) _ _ _); refine RG.go1 (k := ?_)) | ((with_reducible show DG _ _ (_ :: _) _ _ _ _ _); refine DG.go1 (k := ?_)) | (with_reducible first | apply RG.nil | apply W.seq | apply W.reg | apply W.skip | apply W.block | apply W.drw | apply DG.nil | refine W.done (QB.n ?_)) | refine W.cndT ?_ | refine W.cndF ?_))
        (first | ((with_reducible show RG _ _ (_ :: _) _ _ _); refine RG.ew (cptr_of (hE) (by (conv => lhs; whnf) <;> exact rfl)) (k := ?_)) | ((with_reducible show DG _ _ (_ :: _) _ _ _ _ _); refine DG.ew (cptr_of (hE) (by (conv => lhs; whnf) <;> exact rfl)) (k := ?_)))
        (repeat (first | ((with_reducible show RG _ _ (_ :: _) _ _ _); refine RG.go1 (k := ?_)) | ((with_reducible show DG _ _ (_ :: _) _ _ _ _ _); refine DG.go1 (k := ?_)) | (with_reducible first | apply RG.nil | apply W.seq | apply W.reg | apply W.skip | apply W.block | apply W.drw | apply DG.nil | refine W.done (QB.n ?_)) | refine W.cndT ?_ | refine W.cndF ?_))
        refine W.done (QL.n (⟨i + 1, by omega⟩) ?_ ?_)
        · exact Wk.rn ([0, 1] ) ( [])
        · dsimp only; omega
      · (repeat (first | ((with_reducible show RG _ _ (_ :: _) _ _ _); refine RG.go1 (k := ?_)) | ((with_reducible show DG _ _ (_ :: _) _ _ _ _ _); refine DG.go1 (k := ?_)) | (with_reducible first | apply RG.nil | apply W.seq | apply W.reg | apply W.skip | apply W.block | apply W.drw | apply DG.nil | refine W.done (QB.n ?_))))
        (first | ((with_reducible show RG _ _ (_ :: _) _ _ _); refine RG.ew (cptr_of (hE) (by (conv => lhs; whnf) <;> exact rfl)) (k := ?_)) | ((with_reducible show DG _ _ (_ :: _) _ _ _ _ _); refine DG.ew (cptr_of (hE) (by (conv => lhs; whnf) <;> exact rfl)) (k := ?_)))
        (repeat (first | ((with_reducible show RG _ _ (_ :: _) _ _ _); refine RG.go1 (k := ?_)) | ((with_reducible show DG _ _ (_ :: _) _ _ _ _ _); refine DG.go1 (k := ?_)) | (with_reducible first | apply RG.nil | apply W.seq | apply W.reg | apply W.skip | apply W.block | apply W.drw | apply DG.nil | refine W.done (QB.n ?_)) | refine W.cndT ?_ | refine W.cndF ?_))
        (first | ((with_reducible show RG _ _ (_ :: _) _ _ _); refine RG.ew (cptr_of (hE) (by (conv => lhs; whnf) <;> exact rfl)) (k := ?_)) | ((with_reducible show DG _ _ (_ :: _) _ _ _ _ _); refine DG.ew (cptr_of (hE) (by (conv => lhs; whnf) <;> exact rfl)) (k := ?_)))
        (repeat (first | ((with_reducible show RG _ _ (_ :: _) _ _ _); refine RG.go1 (k := ?_)) | ((with_reducible show DG _ _ (_ :: _) _ _ _ _ _); refine DG.go1 (k := ?_)) | (with_reducible first | apply RG.nil | apply W.seq | apply W.reg | apply W.skip | apply W.block | apply W.drw | apply DG.nil | refine W.done (QB.n ?_)) | refine W.cndT ?_ | refine W.cndF ?_))
        refine W.done (QL.n (⟨i + 1, by omega⟩) ?_ ?_)
        · exact Wk.rn ([0, 1] ) ( [])
        · dsimp only; omega
    · (refine W.exit ?_; (repeat (first | (with_reducible first | refine QL.x ?_ | refine QC.x ?_ | refine QB.x ?_) | (with_reducible refine QB.o (by decide) ?_))))
      (repeat (first | ((with_reducible show RG _ _ (_ :: _) _ _ _); refine RG.go1 (k := ?_)) | ((with_reducible show DG _ _ (_ :: _) _ _ _ _ _); refine DG.go1 (k := ?_)) | (with_reducible first | apply RG.nil | apply W.seq | apply W.reg | apply W.skip | apply W.block | apply W.drw | apply DG.nil | refine W.done (QB.n ?_)) | refine W.cndT ?_ | refine W.cndF ?_))
      (refine W.ret ?_; (repeat (with_reducible first | refine QB.r ?_ | refine QL.r ?_ | refine QC.r ?_)); refine QF.r ?_)
      exact RetOk.rs (vs := [_]) r_caravelref10_Like []
theorem room_no {h : Hp} {m : Nat} (k : h.Ok m) {u a : Int} (hu : 8 ≤ u) (ha : 0 ≤ a) (hg : a < gapA u 0 h.l) : roomB h a u = false := by
  obtain ⟨x, hx, h1, h2⟩ := gap_first hu k.l a ha hg
  unfold roomB
  rw [Bool.and_eq_false_iff]
  right
  rw [List.all_eq_false]
  exact ⟨x, hx, by unfold rmB; simp [h1, h2]⟩
theorem room_yes {h : Hp} {m : Nat} (k : h.Ok m) {u : Int} (hu : 8 ≤ u) (hg : gapA u 0 h.l + u ≤ h.s.length) : roomB h (gapA u 0 h.l) u = true := by
  unfold roomB
  rw [decide_eq_true hg, Bool.true_and, List.all_eq_true]
  intro x hx
  have := gap_room hu k.l x hx
  unfold clear_ at this
  unfold rmB
  rw [Bool.not_eq_true', Bool.and_eq_false_iff]
  by_cases c : x.at_ < gapA u 0 h.l + u
  · right; exact decide_eq_false (by omega)
  · left; exact decide_eq_false c
theorem room_big {h : Hp} {u a : Int} (hb : h.s.length < a + u) : roomB h a u = false := by
  unfold roomB
  rw [decide_eq_false (by omega), Bool.false_and]
theorem xAllocF_ok {h : Hp} {m : Nat} (k : h.Ok m) {n : Int} (hn : n < 1 ∨ h.s.length < n ∨ h.s.length < gapA (up8 n) 0 h.l + up8 n) : ACall Try.prog 31 [xv h, .int .i64 n] (.tup [xv h, .int .i64 0, .int .i64 (if n < 1 then 1 else 5)]) [] := by
  obtain ⟨l1, l2, l3⟩ := k.lens
  by_cases q1 : n < 1
  · rw [if_pos q1]
    unfold xv
    clear hn
    refine acall_walk (N := 87) Try.func31 (by kernel_rfl) p_caravelref10_Alloc rfl ?_; unfold c_caravelref10_Alloc; dsimp only [enum, Nat.reduceAdd]
    (repeat (first | ((with_reducible show RG _ _ (_ :: _) _ _ _); refine RG.go1 (k := ?_)) | ((with_reducible show DG _ _ (_ :: _) _ _ _ _ _); refine DG.go1 (k := ?_)) | (with_reducible first | apply RG.nil | apply W.seq | apply W.reg | apply W.skip | apply W.block | apply W.drw | apply DG.nil | refine W.done (QB.n ?_)) | refine W.cndT ?_ | refine W.cndF ?_))
    (refine W.ret ?_; (repeat (with_reducible first | refine QB.r ?_ | refine QL.r ?_ | refine QC.r ?_)); refine QF.r ?_)
    exact RetOk.rs (vs := [_, _, _]) r_caravelref10_Alloc []
  rw [if_neg q1]
  by_cases q2 : h.s.length < n
  · unfold xv
    clear hn
    refine acall_walk (N := 87) Try.func31 (by kernel_rfl) p_caravelref10_Alloc rfl ?_; unfold c_caravelref10_Alloc; dsimp only [enum, Nat.reduceAdd]
    (repeat (first | ((with_reducible show RG _ _ (_ :: _) _ _ _); refine RG.go1 (k := ?_)) | ((with_reducible show DG _ _ (_ :: _) _ _ _ _ _); refine DG.go1 (k := ?_)) | (with_reducible first | apply RG.nil | apply W.seq | apply W.reg | apply W.skip | apply W.block | apply W.drw | apply DG.nil | refine W.done (QB.n ?_)) | refine W.cndT ?_ | refine W.cndF ?_))
    (refine W.ret ?_; (repeat (with_reducible first | refine QB.r ?_ | refine QL.r ?_ | refine QC.r ?_)); refine QF.r ?_)
    exact RetOk.rs (vs := [_, _, _]) r_caravelref10_Alloc []
  have q3 : h.s.length < gapA (up8 n) 0 h.l + up8 n := by omega
  clear hn
  obtain ⟨u1, u2, u3, u4⟩ := up8_bd (n := n) (by omega)
  obtain ⟨u, hu⟩ : ∃ u, up8 n = u := ⟨_, rfl⟩
  rw [hu] at u1 u2 u3 u4 q3
  clear hu
  have cr : ∀ a : Int, 0 ≤ a → a ≤ 4096 → ACall Try.prog 46 [xv h, .int .i64 a, .int .i64 u] (.bool false) [] := fun a a1 a2 => by
    have c := xRoom_ok k (a := a) (n := u) ⟨a1, by omega⟩ ⟨by omega, by omega⟩
    have hf : roomB h a u = false := by
      by_cases c : a + u ≤ h.s.length
      · exact room_no k u1 a1 (by omega)
      · exact room_big (by omega)
    rw [hf] at c
    exact c
  clear q3
  have hsm := k.s
  unfold xv at cr ⊢
  refine acall_walk (N := 87) Try.func31 (by kernel_rfl) p_caravelref10_Alloc rfl ?_; unfold c_caravelref10_Alloc; dsimp only [enum, Nat.reduceAdd]
  (repeat (first | ((with_reducible show RG _ _ (_ :: _) _ _ _); refine RG.go1 (k := ?_)) | ((with_reducible show DG _ _ (_ :: _) _ _ _ _ _); refine DG.go1 (k := ?_)) | (with_reducible first | apply RG.nil | apply W.seq | apply W.reg | apply W.skip | apply W.block | apply W.drw | apply DG.nil | refine W.done (QB.n ?_)) | refine W.cndT ?_ | refine W.cndF ?_))
  refine W.loop (ι := {z : Int // n ≤ z ∧ z ≤ u}) (fun z => ⟨[(1, .int .i64 z.1), (4, .bptr 1 0), (2, .bptr 0 0)], [some [.str h.s, .sl false 2 (h.l.map rb), .sl false 1 (h.d.map bo)], some [.str [], .nil, .nil]], [], 2, 0⟩) (fun z => (u - z.1).toNat) ⟨n, Int.le_refl _, u3⟩ ?_ ?_
  · exact Wk.rn ([0, 1] ) ( [])
  rintro ⟨z, z1, z2⟩
  dsimp only
  (repeat (first | ((with_reducible show RG _ _ (_ :: _) _ _ _); refine RG.go1 (k := ?_)) | ((with_reducible show DG _ _ (_ :: _) _ _ _ _ _); refine DG.go1 (k := ?_)) | (with_reducible first | apply RG.nil | apply W.seq | apply W.reg | apply W.skip | apply W.block | apply W.drw | apply DG.nil | refine W.done (QB.n ?_))))
  refine W.cnd (fun h1 => ?_) (fun h1 => ?_)
  · have hz : z ≠ u := fun q => by simp at h1; omega
    clear h1
    (repeat (first | ((with_reducible show RG _ _ (_ :: _) _ _ _); refine RG.go1 (k := ?_)) | ((with_reducible show DG _ _ (_ :: _) _ _ _ _ _); refine DG.go1 (k := ?_)) | (with_reducible first | apply RG.nil | apply W.seq | apply W.reg | apply W.skip | apply W.block | apply W.drw | apply DG.nil | refine W.done (QB.n ?_)) | refine W.cndT ?_ | refine W.cndF ?_))
    refine W.done (QL.n (⟨z + 1, by omega, by omega⟩) ?_ ?_)
    · exact Wk.rn ([0, 1] ) ( [])
    · dsimp only; omega
  have hz : z % 8 = 0 := by simp at h1; omega
  obtain rfl : z = u := by omega
  clear h1 hz
  (refine W.exit ?_; (repeat (first | (with_reducible first | refine QL.x ?_ | refine QC.x ?_ | refine QB.x ?_) | (with_reducible refine QB.o (by decide) ?_))))
  (repeat (first | ((with_reducible show RG _ _ (_ :: _) _ _ _); refine RG.go1 (k := ?_)) | ((with_reducible show DG _ _ (_ :: _) _ _ _ _ _); refine DG.go1 (k := ?_)) | (with_reducible first | apply RG.nil | apply W.seq | apply W.reg | apply W.skip | apply W.block | apply W.drw | apply DG.nil | refine W.done (QB.n ?_)) | refine W.cndT ?_ | refine W.cndF ?_))
  refine W.loop (ι := {a : Int // 0 ≤ a ∧ a ≤ h.s.length ∧ a % 8 = 0}) (fun a => ⟨[(7, .int .i64 a.1), (1, .int .i64 z), (4, .bptr 1 0), (2, .bptr 0 0)], [some [.str h.s, .sl false 2 (h.l.map rb), .sl false 1 (h.d.map bo)], some [.str [], .nil, .nil]], [], 2, 0⟩) (fun a => (h.s.length - a.1).toNat) ⟨0, by omega, by omega, by omega⟩ ?_ ?_
  · exact Wk.rn ([0, 1] ) ( [])
  rintro ⟨a, a1, a2, a3⟩
  dsimp only
  (repeat (first | ((with_reducible show RG _ _ (_ :: _) _ _ _); refine RG.go1 (k := ?_)) | ((with_reducible show DG _ _ (_ :: _) _ _ _ _ _); refine DG.go1 (k := ?_)) | (with_reducible first | apply RG.nil | apply W.seq | apply W.reg | apply W.skip | apply W.block | apply W.drw | apply DG.nil | refine W.done (QB.n ?_))))
  refine W.cnd (fun h1 => ?_) (fun h1 => ?_)
  · have hlt : a < h.s.length := by simp at h1; omega
    have cr := cr a a1 (by omega)
    clear h1
    (repeat (first | ((with_reducible show RG _ _ (_ :: _) _ _ _); refine RG.go1 (k := ?_)) | ((with_reducible show DG _ _ (_ :: _) _ _ _ _ _); refine DG.go1 (k := ?_)) | (with_reducible first | apply RG.nil | apply W.seq | apply W.reg | apply W.skip | apply W.block | apply W.drw | apply DG.nil | refine W.done (QB.n ?_))))
    (first | ((with_reducible show RG _ _ (_ :: _) _ _ _); refine RG.ca (cr) (k := ?_)) | ((with_reducible show DG _ _ (_ :: _) _ _ _ _ _); refine DG.ca (cr) (k := ?_)))
    (repeat (first | ((with_reducible show RG _ _ (_ :: _) _ _ _); refine RG.go1 (k := ?_)) | ((with_reducible show DG _ _ (_ :: _) _ _ _ _ _); refine DG.go1 (k := ?_)) | (with_reducible first | apply RG.nil | apply W.seq | apply W.reg | apply W.skip | apply W.block | apply W.drw | apply DG.nil | refine W.done (QB.n ?_)) | refine W.cndT ?_ | refine W.cndF ?_))
    (refine W.exit ?_; (repeat (first | (with_reducible first | refine QL.x ?_ | refine QC.x ?_ | refine QB.x ?_) | (with_reducible refine QB.o (by decide) ?_))))
    (repeat (first | ((with_reducible show RG _ _ (_ :: _) _ _ _); refine RG.go1 (k := ?_)) | ((with_reducible show DG _ _ (_ :: _) _ _ _ _ _); refine DG.go1 (k := ?_)) | (with_reducible first | apply RG.nil | apply W.seq | apply W.reg | apply W.skip | apply W.block | apply W.drw | apply DG.nil | refine W.done (QB.n ?_)) | refine W.cndT ?_ | refine W.cndF ?_))
    refine W.done (QL.n (⟨a + 8, by omega, by omega, by omega⟩) ?_ ?_)
    · exact Wk.rn ([0, 1] ) ( [])
    · dsimp only; omega
  · (refine W.exit ?_; (repeat (first | (with_reducible first | refine QL.x ?_ | refine QC.x ?_ | refine QB.x ?_) | (with_reducible refine QB.o (by decide) ?_))))
    (repeat (first | ((with_reducible show RG _ _ (_ :: _) _ _ _); refine RG.go1 (k := ?_)) | ((with_reducible show DG _ _ (_ :: _) _ _ _ _ _); refine DG.go1 (k := ?_)) | (with_reducible first | apply RG.nil | apply W.seq | apply W.reg | apply W.skip | apply W.block | apply W.drw | apply DG.nil | refine W.done (QB.n ?_)) | refine W.cndT ?_ | refine W.cndF ?_))
    (refine W.ret ?_; (repeat (with_reducible first | refine QB.r ?_ | refine QL.r ?_ | refine QC.r ?_)); refine QF.r ?_)
    exact RetOk.rs (vs := [_, _, _]) r_caravelref10_Alloc []
def cnt (gi i : Nat) : Nat := if i ≤ gi then i else i + 1
theorem take_rb {L : List Blk} (i : Nat) (h : i < L.length) : (L.take i).map rb ++ [.agg [.int .i64 L[i].at_, .int .i64 (L[i].at_ + L[i].ln)]] = (L.take (i + 1)).map rb := by
  rw [List.take_succ_eq_append_getElem h, List.map_append]; rfl
theorem ins_at {l L : List Blk} {k : Nat} (hk : k ≤ l.length) (x : Blk) (hL : l.take k ++ x :: l.drop k = L) (i : Nat) (h : i < L.length) :
    (i < k → ∃ hi : i < l.length, L[i] = l[i]) ∧ (i = k → L[i] = x) ∧ (k < i → ∃ hi : i - 1 < l.length, L[i] = l[i - 1]) := by
  subst hL
  have htk : (l.take k).length = k := by simp; omega
  have hlen : (l.take k ++ x :: l.drop k).length = l.length + 1 := by simp; omega
  refine ⟨fun q => ⟨by omega, ?_⟩, fun q => ?_, fun q => ⟨by omega, ?_⟩⟩
  · rw [List.getElem_append_left (by omega), List.getElem_take]
  · subst q
    rw [List.getElem_append_right (by omega)]
    simp [htk]
  · rw [List.getElem_append_right (by omega)]
    have : i - (l.take k).length = (i - 1 - k) + 1 := by omega
    simp only [this, List.getElem_cons_succ, List.getElem_drop]
    congr 1
    omega
theorem xAllocS_ok {h : Hp} {m : Nat} (k : h.Ok m) {n : Int} (q1 : 1 ≤ n) (q2 : n ≤ h.s.length) (q3 : gapA (up8 n) 0 h.l + up8 n ≤ h.s.length) : ACall Try.prog 31 [xv h, .int .i64 n] (.tup [xv ⟨h.s, h.l.take (gapI (up8 n) 0 h.l) ++ ⟨gapA (up8 n) 0 h.l, up8 n⟩ :: h.l.drop (gapI (up8 n) 0 h.l), h.d⟩, .int .i64 (gapA (up8 n) 0 h.l), .int .i64 0]) [] := by
  obtain ⟨l1, l2, l3⟩ := k.lens
  obtain ⟨u1, u2, u3, u4⟩ := up8_bd (n := n) (by omega)
  obtain ⟨u, hu⟩ : ∃ u, up8 n = u := ⟨_, rfl⟩
  rw [hu] at u1 u2 u3 u4 q3 ⊢
  clear hu
  have gb := gapA_bd u k.l (Int.le_refl _) rfl
  have gi := gapI_le u h.l 0
  have hlo := gap_lo u1 k.l
  have cr : ∀ a : Int, 0 ≤ a → a ≤ gapA u 0 h.l → ACall Try.prog 46 [xv h, .int .i64 a, .int .i64 u] (.bool (decide (a = gapA u 0 h.l))) [] := fun a a1 a2 => by
    have c := xRoom_ok k (a := a) (n := u) ⟨a1, by omega⟩ ⟨by omega, by omega⟩
    by_cases e : a = gapA u 0 h.l
    · rw [decide_eq_true e]
      rw [e, room_yes k u1 q3] at c
      rw [e]
      exact c
    · rw [decide_eq_false e]
      rw [room_no k u1 a1 (by omega)] at c
      exact c
  obtain ⟨g, hg⟩ : ∃ g, gapA u 0 h.l = g := ⟨_, rfl⟩
  obtain ⟨i0, hi0⟩ : ∃ i, gapI u 0 h.l = i := ⟨_, rfl⟩
  rw [hg, hi0] at hlo
  rw [hg] at gb cr q3 ⊢
  rw [hi0] at gi ⊢
  clear hg hi0
  obtain ⟨gb0, gb1, gb2⟩ := gb
  have hsm := k.s
  have hb := k.bok
  have el := rb_len h.l
  have hLl : (h.l.take i0 ++ ⟨g, u⟩ :: h.l.drop i0).length = h.l.length + 1 := by simp; omega
  obtain ⟨L, hL⟩ : ∃ L, h.l.take i0 ++ ⟨g, u⟩ :: h.l.drop i0 = L := ⟨_, rfl⟩
  have hin := ins_at gi ⟨g, u⟩ hL
  rw [hL] at hLl ⊢
  clear hL
  unfold xv at cr ⊢
  dsimp only
  refine acall_walk (N := 87) Try.func31 (by kernel_rfl) p_caravelref10_Alloc rfl ?_; unfold c_caravelref10_Alloc; dsimp only [enum, Nat.reduceAdd]
  (repeat (first | ((with_reducible show RG _ _ (_ :: _) _ _ _); refine RG.go1 (k := ?_)) | ((with_reducible show DG _ _ (_ :: _) _ _ _ _ _); refine DG.go1 (k := ?_)) | (with_reducible first | apply RG.nil | apply W.seq | apply W.reg | apply W.skip | apply W.block | apply W.drw | apply DG.nil | refine W.done (QB.n ?_)) | refine W.cndT ?_ | refine W.cndF ?_))
  refine W.loop (ι := {z : Int // n ≤ z ∧ z ≤ u}) (fun z => ⟨[(1, .int .i64 z.1), (4, .bptr 1 0), (2, .bptr 0 0)], [some [.str h.s, .sl false 2 (h.l.map rb), .sl false 1 (h.d.map bo)], some [.str [], .nil, .nil]], [], 2, 0⟩) (fun z => (u - z.1).toNat) ⟨n, Int.le_refl _, u3⟩ ?_ ?_
  · exact Wk.rn ([0, 1] ) ( [])
  rintro ⟨z, z1, z2⟩
  dsimp only
  (repeat (first | ((with_reducible show RG _ _ (_ :: _) _ _ _); refine RG.go1 (k := ?_)) | ((with_reducible show DG _ _ (_ :: _) _ _ _ _ _); refine DG.go1 (k := ?_)) | (with_reducible first | apply RG.nil | apply W.seq | apply W.reg | apply W.skip | apply W.block | apply W.drw | apply DG.nil | refine W.done (QB.n ?_))))
  refine W.cnd (fun h1 => ?_) (fun h1 => ?_)
  · have hz : z ≠ u := fun q => by simp at h1; omega
    clear h1
    (repeat (first | ((with_reducible show RG _ _ (_ :: _) _ _ _); refine RG.go1 (k := ?_)) | ((with_reducible show DG _ _ (_ :: _) _ _ _ _ _); refine DG.go1 (k := ?_)) | (with_reducible first | apply RG.nil | apply W.seq | apply W.reg | apply W.skip | apply W.block | apply W.drw | apply DG.nil | refine W.done (QB.n ?_)) | refine W.cndT ?_ | refine W.cndF ?_))
    refine W.done (QL.n (⟨z + 1, by omega, by omega⟩) ?_ ?_)
    · exact Wk.rn ([0, 1] ) ( [])
    · dsimp only; omega
  have hz : z % 8 = 0 := by simp at h1; omega
  obtain rfl : z = u := by omega
  clear h1 hz
  (refine W.exit ?_; (repeat (first | (with_reducible first | refine QL.x ?_ | refine QC.x ?_ | refine QB.x ?_) | (with_reducible refine QB.o (by decide) ?_))))
  (repeat (first | ((with_reducible show RG _ _ (_ :: _) _ _ _); refine RG.go1 (k := ?_)) | ((with_reducible show DG _ _ (_ :: _) _ _ _ _ _); refine DG.go1 (k := ?_)) | (with_reducible first | apply RG.nil | apply W.seq | apply W.reg | apply W.skip | apply W.block | apply W.drw | apply DG.nil | refine W.done (QB.n ?_)) | refine W.cndT ?_ | refine W.cndF ?_))
  refine W.loop (ι := {a : Int // 0 ≤ a ∧ a ≤ g ∧ a % 8 = 0}) (fun a => ⟨[(7, .int .i64 a.1), (1, .int .i64 z), (4, .bptr 1 0), (2, .bptr 0 0)], [some [.str h.s, .sl false 2 (h.l.map rb), .sl false 1 (h.d.map bo)], some [.str [], .nil, .nil]], [], 2, 0⟩) (fun a => (g - a.1).toNat) ⟨0, by omega, by omega, by omega⟩ ?_ ?_
  · exact Wk.rn ([0, 1] ) ( [])
  rintro ⟨a, a1, a2, a3⟩
  dsimp only
  have cr := cr a a1 a2
  (repeat (first | ((with_reducible show RG _ _ (_ :: _) _ _ _); refine RG.go1 (k := ?_)) | ((with_reducible show DG _ _ (_ :: _) _ _ _ _ _); refine DG.go1 (k := ?_)) | (with_reducible first | apply RG.nil | apply W.seq | apply W.reg | apply W.skip | apply W.block | apply W.drw | apply DG.nil | refine W.done (QB.n ?_)) | refine W.cndT ?_ | refine W.cndF ?_))
  (first | ((with_reducible show RG _ _ (_ :: _) _ _ _); refine RG.ca (cr) (k := ?_)) | ((with_reducible show DG _ _ (_ :: _) _ _ _ _ _); refine DG.ca (cr) (k := ?_)))
  by_cases hag : a = g
  · subst hag
    rw [decide_eq_true rfl]
    clear cr
    (repeat (first | ((with_reducible show RG _ _ (_ :: _) _ _ _); refine RG.go1 (k := ?_)) | ((with_reducible show DG _ _ (_ :: _) _ _ _ _ _); refine DG.go1 (k := ?_)) | (with_reducible first | apply RG.nil | apply W.seq | apply W.reg | apply W.skip | apply W.block | apply W.drw | apply DG.nil | refine W.done (QB.n ?_)) | refine W.cndT ?_ | refine W.cndF ?_))
    refine W.wk (Wk.nilT (t := 8) 2 rfl) ?_ (by simp)
    refine W.loop (ι := {i : Nat // i ≤ h.l.length}) (fun i => ⟨[(10, .int .i64 i.1), (9, .bool (decide (i0 < i.1))), (8, .ref 0 2 0 (cnt i0 i.1)), (7, .int .i64 a), (1, .int .i64 z), (4, .bptr 1 0), (2, .bptr 0 0)], [some [.str h.s, .sl false 2 (h.l.map rb), .sl false 1 (h.d.map bo)], some [.str [], .nil, .nil]], [some ⟨false, 2, (L.take (cnt i0 i.1)).map rb⟩], 2, 1⟩) (fun i => h.l.length - i.1) ⟨0, Nat.zero_le _⟩ ?_ ?_
    · exact Wk.rn ([0, 1] ) ( [0])
    rintro ⟨i, hi⟩
    dsimp only
    (repeat (first | ((with_reducible show RG _ _ (_ :: _) _ _ _); refine RG.go1 (k := ?_)) | ((with_reducible show DG _ _ (_ :: _) _ _ _ _ _); refine DG.go1 (k := ?_)) | (with_reducible first | apply RG.nil | apply W.seq | apply W.reg | apply W.skip | apply W.block | apply W.drw | apply DG.nil | refine W.done (QB.n ?_))))
    refine W.cnd (fun h1 => ?_) (fun h1 => ?_)
    · have hlt : i < h.l.length := by simp at h1; omega
      have hE := rb_at h.l i hlt (j := ((i : Nat) : Int).toNat) (by simp)
      have hlo := hlo i hlt
      obtain ⟨b1, b2, b3, b4, b5⟩ := hb _ (List.getElem_mem hlt)
      clear h1 hb b2 b4
      rcases Nat.lt_trichotomy i i0 with c | c | c
      · rw [if_pos c] at hlo
        obtain ⟨_, hin1⟩ := (hin i (by omega)).1 c
        have hsn := take_rb (L := L) i (by omega)
        rw [hin1] at hsn
        rw [show cnt i0 i = i by unfold cnt; rw [if_pos (by omega)], decide_eq_false (show ¬ i0 < i by omega)]
        have hpl : ((L.take i).map rb).length = i := by simp; omega
        clear hin hin1
        generalize h.l[i] = x at *
        (repeat (first | ((with_reducible show RG _ _ (_ :: _) _ _ _); refine RG.go1 (k := ?_)) | ((with_reducible show DG _ _ (_ :: _) _ _ _ _ _); refine DG.go1 (k := ?_)) | (with_reducible first | apply RG.nil | apply W.seq | apply W.reg | apply W.skip | apply W.block | apply W.drw | apply DG.nil | refine W.done (QB.n ?_)) | refine W.cndT ?_ | refine W.cndF ?_))
        (first | ((with_reducible show RG _ _ (_ :: _) _ _ _); refine RG.ewg (cptr_of (hE) (by (conv => lhs; whnf) <;> exact rfl)) (k := ?_)) | ((with_reducible show DG _ _ (_ :: _) _ _ _ _ _); refine DG.ewg (cptr_of (hE) (by (conv => lhs; whnf) <;> exact rfl)) (k := ?_)))
        (repeat (first | ((with_reducible show RG _ _ (_ :: _) _ _ _); refine RG.go1 (k := ?_)) | ((with_reducible show DG _ _ (_ :: _) _ _ _ _ _); refine DG.go1 (k := ?_)) | (with_reducible first | apply RG.nil | apply W.seq | apply W.reg | apply W.skip | apply W.block | apply W.drw | apply DG.nil | refine W.done (QB.n ?_)) | refine W.cndT ?_ | refine W.cndF ?_))
        (first | ((with_reducible show RG _ _ (_ :: _) _ _ _); refine RG.ew (cptr_of (hE) (by (conv => lhs; whnf) <;> exact rfl)) (k := ?_)) | ((with_reducible show DG _ _ (_ :: _) _ _ _ _ _); refine DG.ew (cptr_of (hE) (by (conv => lhs; whnf) <;> exact rfl)) (k := ?_)))
        (repeat (first | ((with_reducible show RG _ _ (_ :: _) _ _ _); refine RG.go1 (k := ?_)) | ((with_reducible show DG _ _ (_ :: _) _ _ _ _ _); refine DG.go1 (k := ?_)) | (with_reducible first | apply RG.nil | apply W.seq | apply W.reg | apply W.skip | apply W.block | apply W.drw | apply DG.nil | refine W.done (QB.n ?_)) | refine W.cndT ?_ | refine W.cndF ?_))
        rw [hsn]
        refine W.done (QL.n (⟨i + 1, by omega⟩) ?_ ?_)
        · dsimp only
          rw [show cnt i0 (i + 1) = i + 1 by unfold cnt; rw [if_pos (by omega)], decide_eq_false (show ¬ i0 < i + 1 by omega)]
          exact Wk.rn ([0, 1] ) ( [2])
        · dsimp only; omega
      · rw [if_neg (by omega)] at hlo
        have hin1 := (hin i (by omega)).2.1 c
        obtain ⟨_, hin2⟩ := (hin (i + 1) (by omega)).2.2 (by omega)
        have hsn := take_rb (L := L) i (by omega)
        have hsn2 := take_rb (L := L) (i + 1) (by omega)
        rw [hin1] at hsn
        rw [hin2] at hsn2
        simp only [Nat.add_sub_cancel] at hsn2
        dsimp only at hsn
        rw [show cnt i0 i = i by unfold cnt; rw [if_pos (by omega)], decide_eq_false (show ¬ i0 < i by omega)]
        have hpl : ((L.take i).map rb).length = i := by simp; omega
        have hpl2 : ((L.take (i + 1)).map rb).length = i + 1 := by simp; omega
        have hpu := rb_pure (L.take (i + 1))
        clear hin hin1 hin2
        generalize h.l[i] = x at *
        (repeat (first | ((with_reducible show RG _ _ (_ :: _) _ _ _); refine RG.go1 (k := ?_)) | ((with_reducible show DG _ _ (_ :: _) _ _ _ _ _); refine DG.go1 (k := ?_)) | (with_reducible first | apply RG.nil | apply W.seq | apply W.reg | apply W.skip | apply W.block | apply W.drw | apply DG.nil | refine W.done (QB.n ?_)) | refine W.cndT ?_ | refine W.cndF ?_))
        (first | ((with_reducible show RG _ _ (_ :: _) _ _ _); refine RG.ewg (cptr_of (hE) (by (conv => lhs; whnf) <;> exact rfl)) (k := ?_)) | ((with_reducible show DG _ _ (_ :: _) _ _ _ _ _); refine DG.ewg (cptr_of (hE) (by (conv => lhs; whnf) <;> exact rfl)) (k := ?_)))
        (repeat (first | ((with_reducible show RG _ _ (_ :: _) _ _ _); refine RG.go1 (k := ?_)) | ((with_reducible show DG _ _ (_ :: _) _ _ _ _ _); refine DG.go1 (k := ?_)) | (with_reducible first | apply RG.nil | apply W.seq | apply W.reg | apply W.skip | apply W.block | apply W.drw | apply DG.nil | refine W.done (QB.n ?_)) | refine W.cndT ?_ | refine W.cndF ?_))
        rw [hsn]
        (first | ((with_reducible show RG _ _ (_ :: _) _ _ _); refine RG.ew (cptr_of (hE) (by (conv => lhs; whnf) <;> exact rfl)) (k := ?_)) | ((with_reducible show DG _ _ (_ :: _) _ _ _ _ _); refine DG.ew (cptr_of (hE) (by (conv => lhs; whnf) <;> exact rfl)) (k := ?_)))
        (repeat (first | ((with_reducible show RG _ _ (_ :: _) _ _ _); refine RG.go1 (k := ?_)) | ((with_reducible show DG _ _ (_ :: _) _ _ _ _ _); refine DG.go1 (k := ?_)) | (with_reducible first | apply RG.nil | apply W.seq | apply W.reg | apply W.skip | apply W.block | apply W.drw | apply DG.nil | refine W.done (QB.n ?_)) | refine W.cndT ?_ | refine W.cndF ?_))
        rw [hsn2]
        refine W.done (QL.n (⟨i + 1, by omega⟩) ?_ ?_)
        · dsimp only
          rw [show cnt i0 (i + 1) = i + 1 + 1 by unfold cnt; rw [if_neg (by omega)], decide_eq_true (show i0 < i + 1 by omega)]
          exact Wk.rn ([0, 1] ) ( [4])
        · dsimp only; omega
      · rw [if_neg (by omega)] at hlo
        obtain ⟨_, hin2⟩ := (hin (i + 1) (by omega)).2.2 (by omega)
        have hsn2 := take_rb (L := L) (i + 1) (by omega)
        rw [hin2] at hsn2
        simp only [Nat.add_sub_cancel] at hsn2
        rw [show cnt i0 i = i + 1 by unfold cnt; rw [if_neg (by omega)], decide_eq_true (show i0 < i by omega)]
        have hpl2 : ((L.take (i + 1)).map rb).length = i + 1 := by simp; omega
        have hpu := rb_pure (L.take (i + 1))
        clear hin hin2
        generalize h.l[i] = x at *
        (repeat (first | ((with_reducible show RG _ _ (_ :: _) _ _ _); refine RG.go1 (k := ?_)) | ((with_reducible show DG _ _ (_ :: _) _ _ _ _ _); refine DG.go1 (k := ?_)) | (with_reducible first | apply RG.nil | apply W.seq | apply W.reg | apply W.skip | apply W.block | apply W.drw | apply DG.nil | refine W.done (QB.n ?_)) | refine W.cndT ?_ | refine W.cndF ?_))
        (first | ((with_reducible show RG _ _ (_ :: _) _ _ _); refine RG.ew (cptr_of (hE) (by (conv => lhs; whnf) <;> exact rfl)) (k := ?_)) | ((with_reducible show DG _ _ (_ :: _) _ _ _ _ _); refine DG.ew (cptr_of (hE) (by (conv => lhs; whnf) <;> exact rfl)) (k := ?_)))
        (repeat (first | ((with_reducible show RG _ _ (_ :: _) _ _ _); refine RG.go1 (k := ?_)) | ((with_reducible show DG _ _ (_ :: _) _ _ _ _ _); refine DG.go1 (k := ?_)) | (with_reducible first | apply RG.nil | apply W.seq | apply W.reg | apply W.skip | apply W.block | apply W.drw | apply DG.nil | refine W.done (QB.n ?_)) | refine W.cndT ?_ | refine W.cndF ?_))
        rw [hsn2]
        refine W.done (QL.n (⟨i + 1, by omega⟩) ?_ ?_)
        · dsimp only
          rw [show cnt i0 (i + 1) = i + 1 + 1 by unfold cnt; rw [if_neg (by omega)], decide_eq_true (show i0 < i + 1 by omega)]
          exact Wk.rn ([0, 1] ) ( [2])
        · dsimp only; omega
    · obtain rfl : i = h.l.length := by simp at h1; omega
      clear h1 hlo
      have hLL : L.take (h.l.length + 1) = L := List.take_of_length_le (by omega)
      have hml : (L.map rb).length = h.l.length + 1 := by simp; omega
      rcases Nat.lt_or_ge i0 h.l.length with c | c
      · rw [show cnt i0 h.l.length = h.l.length + 1 by unfold cnt; rw [if_neg (by omega)], decide_eq_true c, hLL]
        (refine W.exit ?_; (repeat (first | (with_reducible first | refine QL.x ?_ | refine QC.x ?_ | refine QB.x ?_) | (with_reducible refine QB.o (by decide) ?_))))
        (repeat (first | ((with_reducible show RG _ _ (_ :: _) _ _ _); refine RG.go1 (k := ?_)) | ((with_reducible show DG _ _ (_ :: _) _ _ _ _ _); refine DG.go1 (k := ?_)) | (with_reducible first | apply RG.nil | apply W.seq | apply W.reg | apply W.skip | apply W.block | apply W.drw | apply DG.nil | refine W.done (QB.n ?_)) | refine W.cndT ?_ | refine W.cndF ?_))
        (refine W.ret ?_; (repeat (with_reducible first | refine QB.r ?_ | refine QL.r ?_ | refine QC.r ?_)); refine QF.r ?_)
        (refine RetOk.wk (Wk.frz (b := 0) rfl rfl) ?_; refine RetOk.wk (Wk.box (b := 1) (cs' := [_, _, _]) rfl (by dsimp only [ClL]; (repeat' (first | exact True.intro | exact Cl.ice rfl rfl rfl (by first | assumption | decide | omega | (simp; (first | (all_goals fail) | fail)) | (simp <;> omega)) (by first | exact take_all _ | exact take_len (by first | (simp; (first | (all_goals fail) | fail)) | (simp <;> omega)) | exact rfl) | exact Cl.le (.refl _) | apply And.intro)); (first | (all_goals fail) | fail))) ?_; dsimp only [setO])
        exact RetOk.rs (vs := [_, _, _]) r_caravelref10_Alloc []
      · obtain rfl : i0 = h.l.length := by omega
        have hin1 := (hin h.l.length (by omega)).2.1 rfl
        have hsn := take_rb (L := L) h.l.length (by omega)
        rw [hin1, hLL] at hsn
        dsimp only at hsn
        rw [show cnt h.l.length h.l.length = h.l.length by unfold cnt; rw [if_pos (by omega)], decide_eq_false (Nat.lt_irrefl _)]
        have hpl : ((L.take h.l.length).map rb).length = h.l.length := by simp; omega
        clear hin hin1
        (refine W.exit ?_; (repeat (first | (with_reducible first | refine QL.x ?_ | refine QC.x ?_ | refine QB.x ?_) | (with_reducible refine QB.o (by decide) ?_))))
        (repeat (first | ((with_reducible show RG _ _ (_ :: _) _ _ _); refine RG.go1 (k := ?_)) | ((with_reducible show DG _ _ (_ :: _) _ _ _ _ _); refine DG.go1 (k := ?_)) | (with_reducible first | apply RG.nil | apply W.seq | apply W.reg | apply W.skip | apply W.block | apply W.drw | apply DG.nil | refine W.done (QB.n ?_)) | refine W.cndT ?_ | refine W.cndF ?_))
        rw [hsn]
        (repeat (first | ((with_reducible show RG _ _ (_ :: _) _ _ _); refine RG.go1 (k := ?_)) | ((with_reducible show DG _ _ (_ :: _) _ _ _ _ _); refine DG.go1 (k := ?_)) | (with_reducible first | apply RG.nil | apply W.seq | apply W.reg | apply W.skip | apply W.block | apply W.drw | apply DG.nil | refine W.done (QB.n ?_)) | refine W.cndT ?_ | refine W.cndF ?_))
        (refine W.ret ?_; (repeat (with_reducible first | refine QB.r ?_ | refine QL.r ?_ | refine QC.r ?_)); refine QF.r ?_)
        (refine RetOk.wk (Wk.frz (b := 2) rfl rfl) ?_; refine RetOk.wk (Wk.box (b := 1) (cs' := [_, _, _]) rfl (by dsimp only [ClL]; (repeat' (first | exact True.intro | exact Cl.ice rfl rfl rfl (by first | assumption | decide | omega | (simp; (first | (all_goals fail) | fail)) | (simp <;> omega)) (by first | exact take_all _ | exact take_len (by first | (simp; (first | (all_goals fail) | fail)) | (simp <;> omega)) | exact rfl) | exact Cl.le (.refl _) | apply And.intro)); (first | (all_goals fail) | fail))) ?_; dsimp only [setO])
        exact RetOk.rs (vs := [_, _, _]) r_caravelref10_Alloc []
  · rw [decide_eq_false hag]
    (repeat (first | ((with_reducible show RG _ _ (_ :: _) _ _ _); refine RG.go1 (k := ?_)) | ((with_reducible show DG _ _ (_ :: _) _ _ _ _ _); refine DG.go1 (k := ?_)) | (with_reducible first | apply RG.nil | apply W.seq | apply W.reg | apply W.skip | apply W.block | apply W.drw | apply DG.nil | refine W.done (QB.n ?_)) | refine W.cndT ?_ | refine W.cndF ?_))
    (refine W.exit ?_; (repeat (first | (with_reducible first | refine QL.x ?_ | refine QC.x ?_ | refine QB.x ?_) | (with_reducible refine QB.o (by decide) ?_))))
    (repeat (first | ((with_reducible show RG _ _ (_ :: _) _ _ _); refine RG.go1 (k := ?_)) | ((with_reducible show DG _ _ (_ :: _) _ _ _ _ _); refine DG.go1 (k := ?_)) | (with_reducible first | apply RG.nil | apply W.seq | apply W.reg | apply W.skip | apply W.block | apply W.drw | apply DG.nil | refine W.done (QB.n ?_)) | refine W.cndT ?_ | refine W.cndF ?_))
    refine W.done (QL.n (⟨a + 8, by omega, by omega, by omega⟩) ?_ ?_)
    · exact Wk.rn ([0, 1] ) ( [])
    · dsimp only; omega
theorem xAlloc_ok {h : Hp} {m : Nat} (k : h.Ok m) (n : Int) : ACall Try.prog 31 [xv h, .int .i64 n] (.tup [xv (hAlloc h n).1, .int .i64 (hAlloc h n).2.1, .int .i64 (hAlloc h n).2.2]) [] := by
  unfold hAlloc
  by_cases q1 : n < 1
  · have c := xAllocF_ok (n := n) k (.inl q1)
    rw [if_pos q1] at c ⊢
    exact c
  by_cases q2 : h.s.length < n
  · have c := xAllocF_ok (n := n) k (.inr (.inl q2))
    rw [if_neg q1] at c ⊢
    rw [if_pos q2]
    exact c
  by_cases q3 : gapA (up8 n) 0 h.l + up8 n ≤ h.s.length
  · rw [if_neg q1, if_neg q2, if_pos q3]
    exact xAllocS_ok (n := n) k (by omega) (by omega) q3
  · have c := xAllocF_ok (n := n) k (.inr (.inr (by omega)))
    rw [if_neg q1] at c ⊢
    rw [if_neg q2, if_neg q3]
    exact c
end Go.Proofs.Ytjacmhaeemhinaa
