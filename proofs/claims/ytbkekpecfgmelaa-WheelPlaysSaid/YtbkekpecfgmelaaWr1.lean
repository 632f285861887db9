/- WheelRight: the walk. -/
import Derived.Test.YtbkekpecfgmelaaWlv
namespace Go.Proofs.Ytbkekpecfgmelaa
open Go.RowKit
set_option linter.unusedVariables false
set_option linter.unusedSimpArgs false
set_option maxRecDepth 100000
set_option maxHeartbeats 4000000
def wants (now : Int) (l : List Tmr) (i : Nat) (t : Tmr) : Prop := (∀ (j : Nat) (h : j < l.length), j < i → l[j].id ≠ t.id ∧ l[j].at_ ≤ t.at_) ∧ now < t.at_
def WQ (now : Int) (l : List Tmr) : Prop := l.length ≤ 64 ∧ now ≤ 4611686018427387904
theorem any_take (l : List Tmr) (i : Nat) (id : Int) : (l.take i).any (fun x => decide (x.id = id)) = false ↔ ∀ (j : Nat) (h : j < l.length), j < i → l[j].id ≠ id := by
  rw [List.any_eq_false]
  constructor
  · intro h j hj hji
    have := h l[j] (List.mem_take_iff_getElem.2 ⟨j, by omega, rfl⟩)
    simpa using this
  · intro h x hx
    obtain ⟨j, hj, rfl⟩ := List.mem_take_iff_getElem.1 hx
    simpa using h j (by omega) (by omega)
theorem WR_iff (now : Int) (l : List Tmr) : WR now l ↔ (WQ now l ∧ ∀ (i : Nat) (h : i < l.length), i < l.length → wants now l i l[i]) := by
  unfold WR WQ
  constructor
  · rintro ⟨h, h2⟩
    have hs : ∀ (i : Nat) (hi : i < l.length) (j : Nat) (hj : j < l.length), j < i → l[j].at_ ≤ l[i].at_ := by
      intro i
      induction i with
      | zero => intro hi j hj q; omega
      | succ i ih =>
        intro hi j hj q
        have h1 := (h (i + 1) hi).2.1 (by omega)
        rw [Nat.add_sub_cancel, getD_lt _ _ (show i < l.length by omega)] at h1
        rcases Nat.lt_or_ge j i with q2 | q2
        · exact Int.le_trans (ih (by omega) j hj q2) h1
        · obtain rfl : j = i := by omega
          exact h1
    exact ⟨h2, fun i hi _ => ⟨fun j hj q => ⟨(any_take l i _).1 (h i hi).2.2 j hj q, hs i hi j hj q⟩, (h i hi).1⟩⟩
  · rintro ⟨h2, h⟩
    refine ⟨fun i hi => ⟨(h i hi hi).2, fun h0 => ?_, (any_take l i _).2 fun j hj q => ((h i hi hi).1 j hj q).1⟩, h2⟩
    rw [getD_lt _ _ (show i - 1 < l.length by omega)]
    exact ((h i hi hi).1 (i - 1) (by omega) (by omega)).2
theorem upto {l : List Tmr} {P : ∀ k : Nat, k < l.length → Prop} {A : Prop} {j : Nat} (hj : j < l.length) {c c' : Bool} (hc : c = true ↔ (A ∧ ∀ (k : Nat) (h : k < l.length), k < j → P k h)) (hc' : c' = true ↔ (c = true ∧ P j hj)) : c' = true ↔ (A ∧ ∀ (k : Nat) (h : k < l.length), k < j + 1 → P k h) := by
  rw [hc', hc]
  constructor
  · rintro ⟨⟨h1, h2⟩, h3⟩
    refine ⟨h1, fun k h q => ?_⟩
    rcases Nat.lt_or_ge k j with q2 | q2
    · exact h2 k h q2
    · obtain rfl : k = j := by omega
      exact h3
  · rintro ⟨h1, h2⟩
    exact ⟨⟨h1, fun k h q => h2 k h (by omega)⟩, h2 j hj (by omega)⟩
structure WrI where
  i : Nat
  b : Bool
theorem wheelRight_ok (now : Int) (hn : 0 ≤ now ∧ now ≤ 18446744073709551615) (l : List Tmr) (hL : (l.length : Int) ≤ 9223372036854775807) : ACall Try.prog 5 [wv false now l] (.bool true) [] := by
  have hl := lives_ok
  have el := tl_len l
  unfold wv
  by_cases hlong : 100 < l.length
  · refine acall_walk (N := 72) Try.func5 (by kernel_rfl) p_caravellaw16_WheelRight rfl ?_; unfold c_caravellaw16_WheelRight; dsimp only [enum, Nat.reduceAdd]
    (repeat (first | ((with_reducible show RG _ _ (_ :: _) _ _ _); refine RG.go1 (k := ?_)) | ((with_reducible show DG _ _ (_ :: _) _ _ _ _ _); refine DG.go1 (k := ?_)) | with_reducible apply RG.nil | with_reducible apply W.seq | with_reducible apply W.reg | with_reducible apply W.skip | with_reducible apply W.block | with_reducible apply W.drw | with_reducible apply DG.nil | (with_reducible refine W.done (QB.n ?_))))
    (first | ((with_reducible show RG _ _ (_ :: _) _ _ _); refine RG.ca (hl) (k := ?_)) | ((with_reducible show DG _ _ (_ :: _) _ _ _ _ _); refine DG.ca (hl) (k := ?_)))
    (repeat (first | ((with_reducible show RG _ _ (_ :: _) _ _ _); refine RG.go1 (k := ?_)) | ((with_reducible show DG _ _ (_ :: _) _ _ _ _ _); refine DG.go1 (k := ?_)) | with_reducible apply RG.nil | with_reducible apply W.seq | with_reducible apply W.reg | with_reducible apply W.skip | with_reducible apply W.block | with_reducible apply W.drw | with_reducible apply DG.nil | (with_reducible refine W.done (QB.n ?_))))
    refine W.cndT ?_
    (repeat (first | ((with_reducible show RG _ _ (_ :: _) _ _ _); refine RG.go1 (k := ?_)) | ((with_reducible show DG _ _ (_ :: _) _ _ _ _ _); refine DG.go1 (k := ?_)) | with_reducible apply RG.nil | with_reducible apply W.seq | with_reducible apply W.reg | with_reducible apply W.skip | with_reducible apply W.block | with_reducible apply W.drw | with_reducible apply DG.nil | (with_reducible refine W.done (QB.n ?_))))
    (first | ((with_reducible show RG _ _ (_ :: _) _ _ _); refine RG.ca (hl) (k := ?_)) | ((with_reducible show DG _ _ (_ :: _) _ _ _ _ _); refine DG.ca (hl) (k := ?_)))
    (repeat (first | ((with_reducible show RG _ _ (_ :: _) _ _ _); refine RG.go1 (k := ?_)) | ((with_reducible show DG _ _ (_ :: _) _ _ _ _ _); refine DG.go1 (k := ?_)) | with_reducible apply RG.nil | with_reducible apply W.seq | with_reducible apply W.reg | with_reducible apply W.skip | with_reducible apply W.block | with_reducible apply W.drw | with_reducible apply DG.nil | (with_reducible refine W.done (QB.n ?_))))
    (refine W.ret ?_; (repeat (with_reducible first | refine QB.r ?_ | refine QL.r ?_ | refine QC.r ?_)); refine QF.r ?_)
    exact RetOk.rs (vs := [_]) r_caravellaw16_WheelRight []
  obtain ⟨b0, hb0⟩ : ∃ b : Bool, b = true ↔ WQ now l := ⟨decide (l.length ≤ 64 ∧ now ≤ 4611686018427387904), by simp [WQ]⟩
  have hb1 : (decide ((l.length : Int) ≤ 64) && decide (now ≤ 4611686018427387904)) = b0 := by
    rw [Bool.eq_iff_iff, hb0, Bool.and_eq_true, decide_eq_true_eq, decide_eq_true_eq]; unfold WQ; omega
  refine acall_walk (N := 72) Try.func5 (by kernel_rfl) p_caravellaw16_WheelRight rfl ?_; unfold c_caravellaw16_WheelRight; dsimp only [enum, Nat.reduceAdd]
  (repeat (first | ((with_reducible show RG _ _ (_ :: _) _ _ _); refine RG.go1 (k := ?_)) | ((with_reducible show DG _ _ (_ :: _) _ _ _ _ _); refine DG.go1 (k := ?_)) | with_reducible apply RG.nil | with_reducible apply W.seq | with_reducible apply W.reg | with_reducible apply W.skip | with_reducible apply W.block | with_reducible apply W.drw | with_reducible apply DG.nil | (with_reducible refine W.done (QB.n ?_))))
  (first | ((with_reducible show RG _ _ (_ :: _) _ _ _); refine RG.ca (hl) (k := ?_)) | ((with_reducible show DG _ _ (_ :: _) _ _ _ _ _); refine DG.ca (hl) (k := ?_)))
  (repeat (first | ((with_reducible show RG _ _ (_ :: _) _ _ _); refine RG.go1 (k := ?_)) | ((with_reducible show DG _ _ (_ :: _) _ _ _ _ _); refine DG.go1 (k := ?_)) | with_reducible apply RG.nil | with_reducible apply W.seq | with_reducible apply W.reg | with_reducible apply W.skip | with_reducible apply W.block | with_reducible apply W.drw | with_reducible apply DG.nil | (with_reducible refine W.done (QB.n ?_))))
  refine W.cndF ?_
  (repeat (first | ((with_reducible show RG _ _ (_ :: _) _ _ _); refine RG.go1 (k := ?_)) | ((with_reducible show DG _ _ (_ :: _) _ _ _ _ _); refine DG.go1 (k := ?_)) | with_reducible apply RG.nil | with_reducible apply W.seq | with_reducible apply W.reg | with_reducible apply W.skip | with_reducible apply W.block | with_reducible apply W.drw | with_reducible apply DG.nil | (with_reducible refine W.done (QB.n ?_))))
  rw [el, hb1]
  refine W.loop (ι := {q : WrI // q.i ≤ l.length ∧ (q.b = true ↔ (WQ now l ∧ ∀ (i : Nat) (h : i < l.length), i < q.i → wants now l i l[i]))}) (fun q => ⟨[(29, .int .i64 q.1.i), (28, .int .i64 l.length), (27, .sl false 2 (l.map tmr)), (3, .bool q.1.b), (1, .bptr 0 0)], [some [.int .u64 now, .sl false 2 (l.map tmr)]], [], 1, 0⟩) (fun q => l.length - q.1.i) ⟨⟨0, b0⟩, Nat.zero_le _, hb0.trans ⟨fun h => ⟨h, fun i _ q => absurd q (Nat.not_lt_zero _)⟩, fun h => h.1⟩⟩ ?_ ?_
  · exact Wk.rn ([0] ) ( [])
  rintro ⟨⟨i, b⟩, hi, hb⟩
  dsimp only at hi hb ⊢
  clear hb1 hb0
  (repeat (first | ((with_reducible show RG _ _ (_ :: _) _ _ _); refine RG.go1 (k := ?_)) | ((with_reducible show DG _ _ (_ :: _) _ _ _ _ _); refine DG.go1 (k := ?_)) | with_reducible apply RG.nil | with_reducible apply W.seq | with_reducible apply W.reg | with_reducible apply W.skip | with_reducible apply W.block | with_reducible apply W.drw | with_reducible apply DG.nil | (with_reducible refine W.done (QB.n ?_))))
  refine W.cnd (fun h1 => ?_) (fun h1 => ?_)
  · have hlt : i < l.length := by simp at h1; omega
    have hE := tl_at l i hlt (j := ((i : Nat) : Int).toNat) (by simp)
    have hcut : List.take ((i : Nat) : Int).toNat (l.map tmr) = (l.take i).map tmr := by simp [List.map_take]
    have elt : ((l.take i).map tmr).length = i := by simp; omega
    clear h1
    obtain ⟨x, hx⟩ : ∃ x, l[i] = x := ⟨_, rfl⟩
    rw [hx] at hE
    (repeat (first | ((with_reducible show RG _ _ (_ :: _) _ _ _); refine RG.go1 (k := ?_)) | ((with_reducible show DG _ _ (_ :: _) _ _ _ _ _); refine DG.go1 (k := ?_)) | with_reducible apply RG.nil | with_reducible apply W.seq | with_reducible apply W.reg | with_reducible apply W.skip | with_reducible apply W.block | with_reducible apply W.drw | with_reducible apply DG.nil | (with_reducible refine W.done (QB.n ?_))))
    (first | ((with_reducible show RG _ _ (_ :: _) _ _ _); refine RG.ew (cptr_of (hE) (by (conv => lhs; whnf) <;> exact rfl)) (k := ?_)) | ((with_reducible show DG _ _ (_ :: _) _ _ _ _ _); refine DG.ew (cptr_of (hE) (by (conv => lhs; whnf) <;> exact rfl)) (k := ?_)))
    (repeat (first | ((with_reducible show RG _ _ (_ :: _) _ _ _); refine RG.go1 (k := ?_)) | ((with_reducible show DG _ _ (_ :: _) _ _ _ _ _); refine DG.go1 (k := ?_)) | with_reducible apply RG.nil | with_reducible apply W.seq | with_reducible apply W.reg | with_reducible apply W.skip | with_reducible apply W.block | with_reducible apply W.drw | with_reducible apply DG.nil | (with_reducible refine W.done (QB.n ?_))))
    (first | ((with_reducible show RG _ _ (_ :: _) _ _ _); refine RG.ew (sl_of (hcut)) (k := ?_)) | ((with_reducible show DG _ _ (_ :: _) _ _ _ _ _); refine DG.ew (sl_of (hcut)) (k := ?_)))
    (repeat (first | ((with_reducible show RG _ _ (_ :: _) _ _ _); refine RG.go1 (k := ?_)) | ((with_reducible show DG _ _ (_ :: _) _ _ _ _ _); refine DG.go1 (k := ?_)) | with_reducible apply RG.nil | with_reducible apply W.seq | with_reducible apply W.reg | with_reducible apply W.skip | with_reducible apply W.block | with_reducible apply W.drw | with_reducible apply DG.nil | (with_reducible refine W.done (QB.n ?_))))
    refine W.loop (ι := {q : WrI // q.i ≤ i ∧ (q.b = true ↔ (b = true ∧ ∀ (j : Nat) (h : j < l.length), j < q.i → l[j].id ≠ x.id ∧ l[j].at_ ≤ x.at_))}) (fun q => ⟨[(39, .int .i64 q.1.i), (38, .int .i64 i), (37, .sl false 2 ((l.take i).map tmr)), (5, .bptr 1 0), (29, .int .i64 i), (28, .int .i64 l.length), (27, .sl false 2 (l.map tmr)), (3, .bool q.1.b), (1, .bptr 0 0)], [some [.int .u64 now, .sl false 2 (l.map tmr)], some [.int .i64 x.id, .int .u64 x.at_]], [], 2, 0⟩) (fun q => i - q.1.i) ⟨⟨0, b⟩, Nat.zero_le _, ⟨fun h => ⟨h, fun i _ q => absurd q (Nat.not_lt_zero _)⟩, fun h => h.1⟩⟩ ?_ ?_
    · dsimp only
      exact Wk.rn ([0, 1] ) ( [])
    rintro ⟨⟨j, c⟩, hj, hc⟩
    dsimp only at hj hc ⊢
    (repeat (first | ((with_reducible show RG _ _ (_ :: _) _ _ _); refine RG.go1 (k := ?_)) | ((with_reducible show DG _ _ (_ :: _) _ _ _ _ _); refine DG.go1 (k := ?_)) | with_reducible apply RG.nil | with_reducible apply W.seq | with_reducible apply W.reg | with_reducible apply W.skip | with_reducible apply W.block | with_reducible apply W.drw | with_reducible apply DG.nil | (with_reducible refine W.done (QB.n ?_))))
    refine W.cnd (fun h1 => ?_) (fun h1 => ?_)
    · have hjl : j < i := by simp at h1; omega
      have hE2 := tl_at (l.take i) j (by simp; omega) (j := ((j : Nat) : Int).toNat) (by simp)
      rw [List.getElem_take] at hE2
      obtain ⟨y, hy⟩ : ∃ y, l[j] = y := ⟨_, rfl⟩
      rw [hy] at hE2
      clear h1
      cases c
      · (repeat (first | ((with_reducible show RG _ _ (_ :: _) _ _ _); refine RG.go1 (k := ?_)) | ((with_reducible show DG _ _ (_ :: _) _ _ _ _ _); refine DG.go1 (k := ?_)) | with_reducible apply RG.nil | with_reducible apply W.seq | with_reducible apply W.reg | with_reducible apply W.skip | with_reducible apply W.block | with_reducible apply W.drw | with_reducible apply DG.nil | (with_reducible refine W.done (QB.n ?_))))
        (first | ((with_reducible show RG _ _ (_ :: _) _ _ _); refine RG.ew (cptr_of (hE2) (by (conv => lhs; whnf) <;> exact rfl)) (k := ?_)) | ((with_reducible show DG _ _ (_ :: _) _ _ _ _ _); refine DG.ew (cptr_of (hE2) (by (conv => lhs; whnf) <;> exact rfl)) (k := ?_)))
        (repeat (first | ((with_reducible show RG _ _ (_ :: _) _ _ _); refine RG.go1 (k := ?_)) | ((with_reducible show DG _ _ (_ :: _) _ _ _ _ _); refine DG.go1 (k := ?_)) | with_reducible apply RG.nil | with_reducible apply W.seq | with_reducible apply W.reg | with_reducible apply W.skip | with_reducible apply W.block | with_reducible apply W.drw | with_reducible apply DG.nil | (with_reducible refine W.done (QB.n ?_))))
        refine W.done (QL.n (⟨⟨j + 1, false⟩, by dsimp only; omega, upto (by omega) hc (by simp)⟩) ?_ ?_)
        · exact Wk.rn ([0, 1] ) ( [])
        · dsimp only; omega
      by_cases q1 : y.id = x.id
      · (repeat (first | ((with_reducible show RG _ _ (_ :: _) _ _ _); refine RG.go1 (k := ?_)) | ((with_reducible show DG _ _ (_ :: _) _ _ _ _ _); refine DG.go1 (k := ?_)) | with_reducible apply RG.nil | with_reducible apply W.seq | with_reducible apply W.reg | with_reducible apply W.skip | with_reducible apply W.block | with_reducible apply W.drw | with_reducible apply DG.nil | (with_reducible refine W.done (QB.n ?_))))
        (first | ((with_reducible show RG _ _ (_ :: _) _ _ _); refine RG.ew (cptr_of (hE2) (by (conv => lhs; whnf) <;> exact rfl)) (k := ?_)) | ((with_reducible show DG _ _ (_ :: _) _ _ _ _ _); refine DG.ew (cptr_of (hE2) (by (conv => lhs; whnf) <;> exact rfl)) (k := ?_)))
        (repeat (first | ((with_reducible show RG _ _ (_ :: _) _ _ _); refine RG.go1 (k := ?_)) | ((with_reducible show DG _ _ (_ :: _) _ _ _ _ _); refine DG.go1 (k := ?_)) | with_reducible apply RG.nil | with_reducible apply W.seq | with_reducible apply W.reg | with_reducible apply W.skip | with_reducible apply W.block | with_reducible apply W.drw | with_reducible apply DG.nil | (with_reducible refine W.done (QB.n ?_))))
        refine W.done (QL.n (⟨⟨j + 1, false⟩, by dsimp only; omega, upto (by omega) hc (by rw [hy]; simp [q1])⟩) ?_ ?_)
        · exact Wk.rn ([0, 1] ) ( [])
        · dsimp only; omega
      by_cases q2 : y.at_ ≤ x.at_
      · (repeat (first | ((with_reducible show RG _ _ (_ :: _) _ _ _); refine RG.go1 (k := ?_)) | ((with_reducible show DG _ _ (_ :: _) _ _ _ _ _); refine DG.go1 (k := ?_)) | with_reducible apply RG.nil | with_reducible apply W.seq | with_reducible apply W.reg | with_reducible apply W.skip | with_reducible apply W.block | with_reducible apply W.drw | with_reducible apply DG.nil | (with_reducible refine W.done (QB.n ?_))))
        (first | ((with_reducible show RG _ _ (_ :: _) _ _ _); refine RG.ew (cptr_of (hE2) (by (conv => lhs; whnf) <;> exact rfl)) (k := ?_)) | ((with_reducible show DG _ _ (_ :: _) _ _ _ _ _); refine DG.ew (cptr_of (hE2) (by (conv => lhs; whnf) <;> exact rfl)) (k := ?_)))
        (repeat (first | ((with_reducible show RG _ _ (_ :: _) _ _ _); refine RG.go1 (k := ?_)) | ((with_reducible show DG _ _ (_ :: _) _ _ _ _ _); refine DG.go1 (k := ?_)) | with_reducible apply RG.nil | with_reducible apply W.seq | with_reducible apply W.reg | with_reducible apply W.skip | with_reducible apply W.block | with_reducible apply W.drw | with_reducible apply DG.nil | (with_reducible refine W.done (QB.n ?_))))
        refine W.done (QL.n (⟨⟨j + 1, true⟩, by dsimp only; omega, upto (by omega) hc (by rw [hy]; simp [q1, q2])⟩) ?_ ?_)
        · exact Wk.rn ([0, 1] ) ( [])
        · dsimp only; omega
      · (repeat (first | ((with_reducible show RG _ _ (_ :: _) _ _ _); refine RG.go1 (k := ?_)) | ((with_reducible show DG _ _ (_ :: _) _ _ _ _ _); refine DG.go1 (k := ?_)) | with_reducible apply RG.nil | with_reducible apply W.seq | with_reducible apply W.reg | with_reducible apply W.skip | with_reducible apply W.block | with_reducible apply W.drw | with_reducible apply DG.nil | (with_reducible refine W.done (QB.n ?_))))
        (first | ((with_reducible show RG _ _ (_ :: _) _ _ _); refine RG.ew (cptr_of (hE2) (by (conv => lhs; whnf) <;> exact rfl)) (k := ?_)) | ((with_reducible show DG _ _ (_ :: _) _ _ _ _ _); refine DG.ew (cptr_of (hE2) (by (conv => lhs; whnf) <;> exact rfl)) (k := ?_)))
        (repeat (first | ((with_reducible show RG _ _ (_ :: _) _ _ _); refine RG.go1 (k := ?_)) | ((with_reducible show DG _ _ (_ :: _) _ _ _ _ _); refine DG.go1 (k := ?_)) | with_reducible apply RG.nil | with_reducible apply W.seq | with_reducible apply W.reg | with_reducible apply W.skip | with_reducible apply W.block | with_reducible apply W.drw | with_reducible apply DG.nil | (with_reducible refine W.done (QB.n ?_))))
        refine W.done (QL.n (⟨⟨j + 1, false⟩, by dsimp only; omega, upto (by omega) hc (by rw [hy]; simp [q1, q2])⟩) ?_ ?_)
        · exact Wk.rn ([0, 1] ) ( [])
        · dsimp only; omega
    · obtain rfl : j = i := by simp at h1; omega
      clear h1
      cases c
      · (refine W.exit ?_; (repeat (first | (with_reducible first | refine QL.x ?_ | refine QC.x ?_ | refine QB.x ?_) | (with_reducible refine QB.o (by decide) ?_))))
        (repeat (first | ((with_reducible show RG _ _ (_ :: _) _ _ _); refine RG.go1 (k := ?_)) | ((with_reducible show DG _ _ (_ :: _) _ _ _ _ _); refine DG.go1 (k := ?_)) | with_reducible apply RG.nil | with_reducible apply W.seq | with_reducible apply W.reg | with_reducible apply W.skip | with_reducible apply W.block | with_reducible apply W.drw | with_reducible apply DG.nil | (with_reducible refine W.done (QB.n ?_))))
        refine W.done (QL.n (⟨⟨j + 1, false⟩, by dsimp only; omega, upto hlt hb (by unfold wants; rw [hx]; simp only [Bool.false_eq_true, false_iff] at hc ⊢; exact fun h => hc ⟨h.1, h.2.1⟩)⟩) ?_ ?_)
        · exact Wk.rn ([0] ) ( [])
        · dsimp only; omega
      have hc := hc.1 rfl
      by_cases q : now < x.at_
      · (refine W.exit ?_; (repeat (first | (with_reducible first | refine QL.x ?_ | refine QC.x ?_ | refine QB.x ?_) | (with_reducible refine QB.o (by decide) ?_))))
        (repeat (first | ((with_reducible show RG _ _ (_ :: _) _ _ _); refine RG.go1 (k := ?_)) | ((with_reducible show DG _ _ (_ :: _) _ _ _ _ _); refine DG.go1 (k := ?_)) | with_reducible apply RG.nil | with_reducible apply W.seq | with_reducible apply W.reg | with_reducible apply W.skip | with_reducible apply W.block | with_reducible apply W.drw | with_reducible apply DG.nil | (with_reducible refine W.done (QB.n ?_))))
        refine W.done (QL.n (⟨⟨j + 1, true⟩, by dsimp only; omega, upto hlt hb (by unfold wants; rw [hx]; exact ⟨fun _ => ⟨hc.1, hc.2, q⟩, fun _ => rfl⟩)⟩) ?_ ?_)
        · exact Wk.rn ([0] ) ( [])
        · dsimp only; omega
      · (refine W.exit ?_; (repeat (first | (with_reducible first | refine QL.x ?_ | refine QC.x ?_ | refine QB.x ?_) | (with_reducible refine QB.o (by decide) ?_))))
        (repeat (first | ((with_reducible show RG _ _ (_ :: _) _ _ _); refine RG.go1 (k := ?_)) | ((with_reducible show DG _ _ (_ :: _) _ _ _ _ _); refine DG.go1 (k := ?_)) | with_reducible apply RG.nil | with_reducible apply W.seq | with_reducible apply W.reg | with_reducible apply W.skip | with_reducible apply W.block | with_reducible apply W.drw | with_reducible apply DG.nil | (with_reducible refine W.done (QB.n ?_))))
        refine W.done (QL.n (⟨⟨j + 1, false⟩, by dsimp only; omega, upto hlt hb (by unfold wants; rw [hx]; simp only [Bool.false_eq_true, false_iff]; exact fun h => q h.2.2)⟩) ?_ ?_)
        · exact Wk.rn ([0] ) ( [])
        · dsimp only; omega
  · obtain rfl : i = l.length := by simp at h1; omega
    have cr := wRight_ok now l (by omega) b (hb.trans (WR_iff now l).symm)
    unfold wv at cr
    clear h1
    (refine W.exit ?_; (repeat (first | (with_reducible first | refine QL.x ?_ | refine QC.x ?_ | refine QB.x ?_) | (with_reducible refine QB.o (by decide) ?_))))
    (repeat (first | ((with_reducible show RG _ _ (_ :: _) _ _ _); refine RG.go1 (k := ?_)) | ((with_reducible show DG _ _ (_ :: _) _ _ _ _ _); refine DG.go1 (k := ?_)) | with_reducible apply RG.nil | with_reducible apply W.seq | with_reducible apply W.reg | with_reducible apply W.skip | with_reducible apply W.block | with_reducible apply W.drw | with_reducible apply DG.nil | (with_reducible refine W.done (QB.n ?_))))
    (first | ((with_reducible show RG _ _ (_ :: _) _ _ _); refine RG.ca (cr) (k := ?_)) | ((with_reducible show DG _ _ (_ :: _) _ _ _ _ _); refine DG.ca (cr) (k := ?_)))
    (repeat (first | ((with_reducible show RG _ _ (_ :: _) _ _ _); refine RG.go1 (k := ?_)) | ((with_reducible show DG _ _ (_ :: _) _ _ _ _ _); refine DG.go1 (k := ?_)) | with_reducible apply RG.nil | with_reducible apply W.seq | with_reducible apply W.reg | with_reducible apply W.skip | with_reducible apply W.block | with_reducible apply W.drw | with_reducible apply DG.nil | (with_reducible refine W.done (QB.n ?_))))
    (refine W.ret ?_; (repeat (with_reducible first | refine QB.r ?_ | refine QL.r ?_ | refine QC.r ?_)); refine QF.r ?_)
    exact RetOk.rs (vs := [_]) r_caravellaw16_WheelRight []
theorem WheelRight_walk {r : Reach} {b0 base : Nat} {H : Type} {enc : TypeId × Value → H} {spare : Nat → Bool} {held : Bool} {d : DataW H} {p : List MemPlace} (v : Value) (W : World) (hv : Value.okWide Try.prog W r b0 27 v) (k : DataW.Trod enc Try.prog W base spare held 27 v d p) :
    Calls Try.prog 5 #[v] W fun e W' => e = .returned (.bool true) ∧ Below W.heap.size W W' := by
  obtain ⟨cs0, hr, hf⟩ := arg_agg (n := 5) (ts := [.int .u64, .sl [.int .i64, .int .u64]]) (.inl ⟨_, Try.underlying27⟩) (by kernel_rfl) hv k
  obtain ⟨a, cs, rfl, h1, hf⟩ := hf.inv
  obtain ⟨b, cs, rfl, h2, hf⟩ := hf.inv
  cases hf.inv0
  obtain ⟨now, rfl, hw⟩ := h1.int_inv
  obtain ⟨l, rfl, -, hl⟩ := h2.rows (fun o : Tmr => [.int .i64 o.id, .int .u64 o.at_]) (fun _ => True) (by decide) (fun cs h => by
    obtain ⟨a, cs, rfl, h1, h⟩ := h.inv
    obtain ⟨b, cs, rfl, h2, h⟩ := h.inv
    cases h.inv0
    obtain ⟨z, rfl, _⟩ := h1.int_inv
    obtain ⟨g, rfl, _⟩ := h2.int_inv
    exact ⟨⟨z, g⟩, rfl, trivial⟩)
  exact acall_lawF (wheelRight_ok now (bounds_u64 hw) l (len_le hl)) W [_] ⟨.pure _ _ hr, trivial⟩
end Go.Proofs.Ytbkekpecfgmelaa
