/- Heaps: the laws' ops; pages that are written. -/
import Derived.Test.YtjacmhaeemhinaaHs6
namespace Go.Proofs.Ytjacmhaeemhinaa
open Go.RowKit
set_option linter.unusedVariables false
set_option linter.unusedSimpArgs false
set_option maxRecDepth 100000
set_option maxHeartbeats 4000000
theorem len_le {n : Nat} (h : n ≤ maxLen) : (n : Int) ≤ 9223372036854775807 := by
  have h2 : (maxLen : Int) ≤ 9223372036854775807 := by decide
  omega
theorem putS_get (s v : List UInt8) (a i : Nat) (h : a + v.length ≤ s.length) : (putS s a v)[i]?.getD 0 = if i < a then s[i]?.getD 0 else if i < a + v.length then v[i - a]?.getD 0 else s[i]?.getD 0 := by
  unfold putS
  by_cases h1 : i < a
  · rw [if_pos h1, List.getElem?_append_left (by simp; omega), List.getElem?_take_of_lt h1]
  · rw [if_neg h1, List.getElem?_append_right (by simp; omega), show i - (s.take a).length = i - a by simp; omega]
    by_cases h2 : i < a + v.length
    · rw [if_pos h2, List.getElem?_append_left (by omega)]
    · rw [if_neg h2, List.getElem?_append_right (by omega), List.getElem?_drop, show a + v.length + (i - a - v.length) = i by omega]
structure Op where
  kd : Int
  at_ : Int
  n : Int
  data : List UInt8
  short : Bool
def Op.Ok (o : Op) : Prop := (-9223372036854775808 ≤ o.kd ∧ o.kd ≤ 9223372036854775807) ∧ (-9223372036854775808 ≤ o.at_ ∧ o.at_ ≤ 9223372036854775807) ∧ (-9223372036854775808 ≤ o.n ∧ o.n ≤ 9223372036854775807)
def opk (o : Op) : AV := .agg [.int .i64 o.kd, .int .i64 o.at_, .int .i64 o.n, .sl false 1 (o.data.map by8), .bool o.short]
theorem opk_len (l : List Op) : (l.map opk).length = l.length := by simp
theorem opk_at (l : List Op) (i : Nat) (h : i < l.length) {j : Nat} (hj : j = i) : (l.map opk)[j]?.getD .any = .agg [.int .i64 l[i].kd, .int .i64 l[i].at_, .int .i64 l[i].n, .sl false 1 (l[i].data.map by8), .bool l[i].short] := at_map opk l i _ (List.getElem?_eq_getElem h) hj
def fitsB (l : List Op) : Bool := (l.all fun f => decide (f.data.length ≤ 300)) && decide (l.length ≤ 60)
theorem ops_arg {w : World} {r : Reach} {b0 base : Nat} {H : Type} {enc : TypeId × Value → H} {spare : Nat → Bool} {held : Bool} {v : Value} {d : DataW H} {p : List MemPlace} (hv : Value.okWide Try.prog w r b0 45 v) (k : DataW.Trod enc Try.prog w base spare held 45 v d p) :
    ∃ l : List Op, Rep0 (fun x => x < w.heap.size) w v (.sl false 5 (l.map opk)) ∧ l.length ≤ maxLen ∧ ∀ a ∈ l, a.Ok := by
  obtain ⟨av, hr, hf⟩ := arg_sl (n := 5) (ts := [.int .i64, .int .i64, .int .i64, .sl [.int .u8], .bool]) Try.underlying45 (by kernel_rfl) hv k
  obtain ⟨l, rfl, hq, hl⟩ := hf.rows (fun o : Op => [.int .i64 o.kd, .int .i64 o.at_, .int .i64 o.n, .sl false 1 (o.data.map by8), .bool o.short]) Op.Ok (by decide) (fun cs h => by
    obtain ⟨_, cs, rfl, h1, h⟩ := h.inv
    obtain ⟨_, cs, rfl, h2, h⟩ := h.inv
    obtain ⟨_, cs, rfl, h3, h⟩ := h.inv
    obtain ⟨_, cs, rfl, h4, h⟩ := h.inv
    obtain ⟨_, cs, rfl, h5, h⟩ := h.inv
    cases h.inv0
    obtain ⟨z1, rfl, w1⟩ := h1.int_inv
    obtain ⟨z2, rfl, w2⟩ := h2.int_inv
    obtain ⟨z3, rfl, w3⟩ := h3.int_inv
    obtain ⟨rw, rfl, _⟩ := h4.bytes
    obtain ⟨z5, rfl⟩ := h5.bool_inv
    exact ⟨⟨z1, z2, z3, rw, z5⟩, rfl, bounds_i64 w1, bounds_i64 w2, bounds_i64 w3⟩)
  exact ⟨l, hr, hl, hq⟩
theorem fits_ok (l : List Op) (hl : (l.length : Int) ≤ 9223372036854775807) : ACall Try.prog 16 [.sl true 5 (l.map opk)] (.bool (fitsB l)) [] := by
  have el := opk_len l
  refine acall_walk (N := 19) Try.func16 (by kernel_rfl) p_caravellaw10_fits rfl ?_; unfold c_caravellaw10_fits; dsimp only [enum, Nat.reduceAdd]
  (repeat (first | ((with_reducible show RG _ _ (_ :: _) _ _ _); refine RG.go1 (k := ?_)) | ((with_reducible show DG _ _ (_ :: _) _ _ _ _ _); refine DG.go1 (k := ?_)) | (with_reducible first | apply RG.nil | apply W.seq | apply W.reg | apply W.skip | apply W.block | apply W.drw | apply DG.nil | refine W.done (QB.n ?_)) | refine W.cndT ?_ | refine W.cndF ?_))
  refine W.loop (ι := {i : Nat // i ≤ l.length ∧ ∀ j : Nat, (h : j < l.length) → j < i → l[j].data.length ≤ 300}) (fun i => ⟨[(7, .int .i64 i.1), (6, .int .i64 l.length), (5, .sl true 5 (l.map opk)), (0, .sl true 5 (l.map opk))], [], [], 0, 0⟩) (fun i => l.length - i.1) ⟨0, Nat.zero_le _, fun j _ h => absurd h (Nat.not_lt_zero _)⟩ ?_ ?_
  · dsimp only
    rw [el]
    exact Wk.rn ([] ) ( [])
  rintro ⟨i, hi, hall⟩
  dsimp only
  (repeat (first | ((with_reducible show RG _ _ (_ :: _) _ _ _); refine RG.go1 (k := ?_)) | ((with_reducible show DG _ _ (_ :: _) _ _ _ _ _); refine DG.go1 (k := ?_)) | (with_reducible first | apply RG.nil | apply W.seq | apply W.reg | apply W.skip | apply W.block | apply W.drw | apply DG.nil | refine W.done (QB.n ?_))))
  refine W.cnd (fun h1 => ?_) (fun h1 => ?_)
  · have hlt : i < l.length := by simp at h1; omega
    have hE := opk_at l i hlt (j := ((i : Nat) : Int).toNat) (by simp)
    have elr : (l[i].data.map by8).length = l[i].data.length := by simp
    clear h1
    by_cases hid : l[i].data.length ≤ 300
    · have hall2 : ∀ j : Nat, (h : j < l.length) → j < i + 1 → l[j].data.length ≤ 300 := fun j h hj => by
        rcases Nat.lt_or_ge j i with q | q
        · exact hall j h q
        · obtain rfl : j = i := by omega
          exact hid
      generalize l[i] = x at hE hid elr
      (repeat (first | ((with_reducible show RG _ _ (_ :: _) _ _ _); refine RG.go1 (k := ?_)) | ((with_reducible show DG _ _ (_ :: _) _ _ _ _ _); refine DG.go1 (k := ?_)) | (with_reducible first | apply RG.nil | apply W.seq | apply W.reg | apply W.skip | apply W.block | apply W.drw | apply DG.nil | refine W.done (QB.n ?_)) | refine W.cndT ?_ | refine W.cndF ?_))
      (first | ((with_reducible show RG _ _ (_ :: _) _ _ _); refine RG.ew (cptr_of (hE) (by (conv => lhs; whnf) <;> exact rfl)) (k := ?_)) | ((with_reducible show DG _ _ (_ :: _) _ _ _ _ _); refine DG.ew (cptr_of (hE) (by (conv => lhs; whnf) <;> exact rfl)) (k := ?_)))
      (repeat (first | ((with_reducible show RG _ _ (_ :: _) _ _ _); refine RG.go1 (k := ?_)) | ((with_reducible show DG _ _ (_ :: _) _ _ _ _ _); refine DG.go1 (k := ?_)) | (with_reducible first | apply RG.nil | apply W.seq | apply W.reg | apply W.skip | apply W.block | apply W.drw | apply DG.nil | refine W.done (QB.n ?_)) | refine W.cndT ?_ | refine W.cndF ?_))
      refine W.done (QL.n (⟨i + 1, by omega, hall2⟩) ?_ ?_)
      · exact Wk.rn ([] ) ( [])
      · dsimp only; omega
    · have hw : fitsB l = false := by
        unfold fitsB
        have : (l.all fun f => decide (f.data.length ≤ 300)) = false := by
          rw [List.all_eq_false]
          exact ⟨l[i], List.getElem_mem hlt, by simpa using hid⟩
        rw [this]; rfl
      rw [hw]
      have hid : 300 < l[i].data.length := by omega
      generalize l[i] = x at hE hid elr
      (repeat (first | ((with_reducible show RG _ _ (_ :: _) _ _ _); refine RG.go1 (k := ?_)) | ((with_reducible show DG _ _ (_ :: _) _ _ _ _ _); refine DG.go1 (k := ?_)) | (with_reducible first | apply RG.nil | apply W.seq | apply W.reg | apply W.skip | apply W.block | apply W.drw | apply DG.nil | refine W.done (QB.n ?_)) | refine W.cndT ?_ | refine W.cndF ?_))
      (first | ((with_reducible show RG _ _ (_ :: _) _ _ _); refine RG.ew (cptr_of (hE) (by (conv => lhs; whnf) <;> exact rfl)) (k := ?_)) | ((with_reducible show DG _ _ (_ :: _) _ _ _ _ _); refine DG.ew (cptr_of (hE) (by (conv => lhs; whnf) <;> exact rfl)) (k := ?_)))
      (repeat (first | ((with_reducible show RG _ _ (_ :: _) _ _ _); refine RG.go1 (k := ?_)) | ((with_reducible show DG _ _ (_ :: _) _ _ _ _ _); refine DG.go1 (k := ?_)) | (with_reducible first | apply RG.nil | apply W.seq | apply W.reg | apply W.skip | apply W.block | apply W.drw | apply DG.nil | refine W.done (QB.n ?_)) | refine W.cndT ?_ | refine W.cndF ?_))
      (refine W.ret ?_; (repeat (with_reducible first | refine QB.r ?_ | refine QL.r ?_ | refine QC.r ?_)); refine QF.r ?_)
      exact RetOk.rs (vs := [_]) r_caravellaw10_fits []
  have hw : fitsB l = decide ((l.length : Int) ≤ 60) := by
    unfold fitsB
    have : (l.all fun f => decide (f.data.length ≤ 300)) = true := by
      rw [List.all_eq_true]
      intro x hx
      obtain ⟨j, hj, rfl⟩ := List.getElem_of_mem hx
      simpa using hall j hj (by simp at h1; omega)
    rw [this, Bool.true_and]
    congr 1
    apply propext
    omega
  rw [hw]
  clear h1
  (refine W.exit ?_; (repeat (first | (with_reducible first | refine QL.x ?_ | refine QC.x ?_ | refine QB.x ?_) | (with_reducible refine QB.o (by decide) ?_))))
  by_cases hd : (l.length : Int) ≤ 60
  · rw [decide_eq_true hd]
    (repeat (first | ((with_reducible show RG _ _ (_ :: _) _ _ _); refine RG.go1 (k := ?_)) | ((with_reducible show DG _ _ (_ :: _) _ _ _ _ _); refine DG.go1 (k := ?_)) | (with_reducible first | apply RG.nil | apply W.seq | apply W.reg | apply W.skip | apply W.block | apply W.drw | apply DG.nil | refine W.done (QB.n ?_)) | refine W.cndT ?_ | refine W.cndF ?_))
    (refine W.ret ?_; (repeat (with_reducible first | refine QB.r ?_ | refine QL.r ?_ | refine QC.r ?_)); refine QF.r ?_)
    exact RetOk.rs (vs := [_]) r_caravellaw10_fits []
  · rw [decide_eq_false hd]
    (repeat (first | ((with_reducible show RG _ _ (_ :: _) _ _ _); refine RG.go1 (k := ?_)) | ((with_reducible show DG _ _ (_ :: _) _ _ _ _ _); refine DG.go1 (k := ?_)) | (with_reducible first | apply RG.nil | apply W.seq | apply W.reg | apply W.skip | apply W.block | apply W.drw | apply DG.nil | refine W.done (QB.n ?_)) | refine W.cndT ?_ | refine W.cndF ?_))
    (refine W.ret ?_; (repeat (with_reducible first | refine QB.r ?_ | refine QL.r ?_ | refine QC.r ?_)); refine QF.r ?_)
    exact RetOk.rs (vs := [_]) r_caravellaw10_fits []
theorem fitsB_inv {l : List Op} (h : fitsB l = true) : (∀ f ∈ l, f.data.length ≤ 300) ∧ l.length ≤ 60 := by
  unfold fitsB at h
  simp only [Bool.and_eq_true, List.all_eq_true, decide_eq_true_eq] at h
  exact h
structure HI where
  i : Nat
  h : Hp
theorem wr_sorted (d : List Bool) (q : Nat) : (wr d q).Pairwise (· < ·) := by
  unfold wr
  exact List.Pairwise.filter _ List.pairwise_lt_range
theorem wr_lt (d : List Bool) (q x : Nat) (h : x ∈ wr d q) : x < q := by
  unfold wr at h
  exact List.mem_range.1 (List.mem_filter.1 h).1
theorem hLoad_len {h : Hp} {m : Nat} (k : h.Ok m) (a n : Int) : (hLoad h a n).1.length ≤ 4096 ∧ ((hLoad h a n).2 = 0 → ((hLoad h a n).1.length : Int) = n) := by
  obtain ⟨l1, l2, l3⟩ := k.lens
  unfold hLoad
  split
  · simp
  · split
    · rename_i q1 q2
      have := insB_bd k q2
      have hs := k.s
      simp
      omega
    · simp
end Go.Proofs.Ytjacmhaeemhinaa
