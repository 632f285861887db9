/- The law's helpers of layer 18. -/
import Derived.Test.YtcioklhpbmjeeaaSd2
namespace Go.Proofs.Ytcioklhpbmjeeaa
open Go.RowKit
set_option linter.unusedVariables false
set_option linter.unusedSimpArgs false
set_option maxRecDepth 100000
set_option maxHeartbeats 4000000
theorem lives_ok : ACall Try.prog 8 [] (.bool true) [] := by
  have c0 := qNew_ok 10
  have c1 : ACall Try.prog 12 [qA true 10 [] 0 false false false, .sl true 1 ([97, 98, 99, 100, 101, 102].map by8)] (.tup [qA false 10 [97, 98, 99, 100, 101, 102] 0 false false false, .int .i64 6]) [] := qWrite_ok 10 [] 0 false false false (by decide) [97, 98, 99, 100, 101, 102] (by decide) 6 (by decide)
  have c2 : ACall Try.prog 13 [qA true 10 [97, 98, 99, 100, 101, 102] 0 false false false, .int .i64 4, .int .i64 3] (.tup [qA false 10 [97, 98, 99, 100, 101, 102] (3 : Nat) false false false, .agg [.int .u32 10, .sl false 1 ([97, 98, 99].map by8)], .bool false, .bool true]) [] := qNext_yes 10 [97, 98, 99, 100, 101, 102] 0 false false false (by decide) (by decide) 4 3 (by decide) (by decide) 3 false (by decide) (by decide) (by decide)
  have c3 : ACall Try.prog 13 [qA true 10 [97, 98, 99, 100, 101, 102] (3 : Nat) false false false, .int .i64 4, .int .i64 3] (.tup [qA false 10 [97, 98, 99, 100, 101, 102] (4 : Nat) false false false, .agg [.int .u32 13, .sl false 1 ([100].map by8)], .bool false, .bool true]) [] := qNext_yes 10 [97, 98, 99, 100, 101, 102] 3 false false false (by decide) (by decide) 4 3 (by decide) (by decide) 1 false (by decide) (by decide) (by decide)
  have c4 : ACall Try.prog 15 [qA true 10 [97, 98, 99, 100, 101, 102] (4 : Nat) false false false, .int .u32 12] (.tup [qA false 12 [99, 100, 101, 102] (2 : Nat) false false false, .int .i64 2, .int .i64 0]) [] := qAck_yes 10 [97, 98, 99, 100, 101, 102] 4 false false false (by decide) (by decide) 12 2 (by decide) (by decide) (by decide)
  have c5 : ACall Try.prog 14 [qA true 12 [99, 100, 101, 102] (2 : Nat) false false false, .int .i64 9] (.tup [.agg [.int .u32 12, .sl false 1 ([99, 100].map by8)], .bool false, .bool true]) [] := qAgain_yes 12 [99, 100, 101, 102] 2 false false false (by decide) (by decide) 9 2 false (by decide) (by decide) (by decide)
  unfold qA at c0 c1 c2 c3 c4 c5
  refine acall_walk (N := 94) Try.func8 (by kernel_rfl) p_caravellaw18_lives rfl ?_; unfold c_caravellaw18_lives; dsimp only [enum, Nat.reduceAdd]
  (repeat (first | ((with_reducible show RG _ _ (_ :: _) _ _ _); refine RG.go1 (k := ?_)) | ((with_reducible show DG _ _ (_ :: _) _ _ _ _ _); refine DG.go1 (k := ?_)) | with_reducible apply RG.nil | with_reducible apply W.seq | with_reducible apply W.reg | with_reducible apply W.skip | with_reducible apply W.block | with_reducible apply W.drw | with_reducible apply DG.nil | (with_reducible refine W.done (QB.n ?_))))
  (first | ((with_reducible show RG _ _ (_ :: _) _ _ _); refine RG.ca (c0) (k := ?_)) | ((with_reducible show DG _ _ (_ :: _) _ _ _ _ _); refine DG.ca (c0) (k := ?_)))
  (repeat (first | ((with_reducible show RG _ _ (_ :: _) _ _ _); refine RG.go1 (k := ?_)) | ((with_reducible show DG _ _ (_ :: _) _ _ _ _ _); refine DG.go1 (k := ?_)) | with_reducible apply RG.nil | with_reducible apply W.seq | with_reducible apply W.reg | with_reducible apply W.skip | with_reducible apply W.block | with_reducible apply W.drw | with_reducible apply DG.nil | (with_reducible refine W.done (QB.n ?_))))
  (first | ((with_reducible show RG _ _ (_ :: _) _ _ _); refine RG.ca (c1) (k := ?_)) | ((with_reducible show DG _ _ (_ :: _) _ _ _ _ _); refine DG.ca (c1) (k := ?_)))
  (repeat (first | ((with_reducible show RG _ _ (_ :: _) _ _ _); refine RG.go1 (k := ?_)) | ((with_reducible show DG _ _ (_ :: _) _ _ _ _ _); refine DG.go1 (k := ?_)) | with_reducible apply RG.nil | with_reducible apply W.seq | with_reducible apply W.reg | with_reducible apply W.skip | with_reducible apply W.block | with_reducible apply W.drw | with_reducible apply DG.nil | (with_reducible refine W.done (QB.n ?_))))
  (first | ((with_reducible show RG _ _ (_ :: _) _ _ _); refine RG.ca (c2) (k := ?_)) | ((with_reducible show DG _ _ (_ :: _) _ _ _ _ _); refine DG.ca (c2) (k := ?_)))
  (repeat (first | ((with_reducible show RG _ _ (_ :: _) _ _ _); refine RG.go1 (k := ?_)) | ((with_reducible show DG _ _ (_ :: _) _ _ _ _ _); refine DG.go1 (k := ?_)) | with_reducible apply RG.nil | with_reducible apply W.seq | with_reducible apply W.reg | with_reducible apply W.skip | with_reducible apply W.block | with_reducible apply W.drw | with_reducible apply DG.nil | (with_reducible refine W.done (QB.n ?_))))
  (first | ((with_reducible show RG _ _ (_ :: _) _ _ _); refine RG.ca (c3) (k := ?_)) | ((with_reducible show DG _ _ (_ :: _) _ _ _ _ _); refine DG.ca (c3) (k := ?_)))
  (repeat (first | ((with_reducible show RG _ _ (_ :: _) _ _ _); refine RG.go1 (k := ?_)) | ((with_reducible show DG _ _ (_ :: _) _ _ _ _ _); refine DG.go1 (k := ?_)) | with_reducible apply RG.nil | with_reducible apply W.seq | with_reducible apply W.reg | with_reducible apply W.skip | with_reducible apply W.block | with_reducible apply W.drw | with_reducible apply DG.nil | (with_reducible refine W.done (QB.n ?_))))
  (first | ((with_reducible show RG _ _ (_ :: _) _ _ _); refine RG.ca (c4) (k := ?_)) | ((with_reducible show DG _ _ (_ :: _) _ _ _ _ _); refine DG.ca (c4) (k := ?_)))
  (repeat (first | ((with_reducible show RG _ _ (_ :: _) _ _ _); refine RG.go1 (k := ?_)) | ((with_reducible show DG _ _ (_ :: _) _ _ _ _ _); refine DG.go1 (k := ?_)) | with_reducible apply RG.nil | with_reducible apply W.seq | with_reducible apply W.reg | with_reducible apply W.skip | with_reducible apply W.block | with_reducible apply W.drw | with_reducible apply DG.nil | (with_reducible refine W.done (QB.n ?_))))
  (first | ((with_reducible show RG _ _ (_ :: _) _ _ _); refine RG.ca (c5) (k := ?_)) | ((with_reducible show DG _ _ (_ :: _) _ _ _ _ _); refine DG.ca (c5) (k := ?_)))
  (repeat (first | ((with_reducible show RG _ _ (_ :: _) _ _ _); refine RG.go1 (k := ?_)) | ((with_reducible show DG _ _ (_ :: _) _ _ _ _ _); refine DG.go1 (k := ?_)) | with_reducible apply RG.nil | with_reducible apply W.seq | with_reducible apply W.reg | with_reducible apply W.skip | with_reducible apply W.block | with_reducible apply W.drw | with_reducible apply DG.nil | (with_reducible refine W.done (QB.n ?_))))
  (refine W.ret ?_; (repeat (first | refine QB.r ?_ | refine QL.r ?_ | refine QC.r ?_)); refine QF.r ?_)
  exact RetOk.rs (vs := [_]) r_caravellaw18_lives []
/-- An op of the law. -/
structure SOp where
  k : Int
  d : List UInt8
  n : Int
  z : Int
  deriving Inhabited
def opS (o : SOp) : AV := .agg [.int .i64 o.k, bs o.d, .int .i64 o.n, .int .i64 o.z]
def SOp.Ok (o : SOp) : Prop := (-9223372036854775808 ≤ o.n ∧ o.n ≤ 9223372036854775807) ∧ -9223372036854775808 ≤ o.z ∧ o.z ≤ 9223372036854775807
def fitsB (l : List SOp) : Bool := l.all (fun o => decide (o.d.length ≤ 400)) && decide (l.length ≤ 100)
theorem opS_at (l : List SOp) (i : Nat) (h : i < l.length) : (l.map opS)[((i : Nat) : Int).toNat]?.getD .any = .agg [.int .i64 l[i].k, .sl false 1 (l[i].d.map by8), .int .i64 l[i].n, .int .i64 l[i].z] := at_map opS l i _ (List.getElem?_eq_getElem h) (by simp)
theorem fits_ok (l : List SOp) (hL : (l.length : Int) ≤ 9223372036854775807) : ACall Try.prog 10 [.sl true 4 (l.map opS)] (.bool (fitsB l)) [] := by
  have e : (l.map opS).length = l.length := by simp
  refine acall_walk (N := 19) Try.func10 (by kernel_rfl) p_caravellaw18_fits rfl ?_; unfold c_caravellaw18_fits; dsimp only [enum, Nat.reduceAdd]
  (repeat (first | ((with_reducible show RG _ _ (_ :: _) _ _ _); refine RG.go1 (k := ?_)) | ((with_reducible show DG _ _ (_ :: _) _ _ _ _ _); refine DG.go1 (k := ?_)) | with_reducible apply RG.nil | with_reducible apply W.seq | with_reducible apply W.reg | with_reducible apply W.skip | with_reducible apply W.block | with_reducible apply W.drw | with_reducible apply DG.nil | (with_reducible refine W.done (QB.n ?_))))
  refine W.loop (ι := {i : Nat // i ≤ l.length ∧ ∀ j : Nat, j < i → (l.getD j default).d.length ≤ 400}) (fun i => ⟨[(7, .int .i64 i.1), (6, .int .i64 l.length), (5, .sl true 4 (l.map opS)), (0, .sl true 4 (l.map opS))], [], [], 0, 0⟩) (fun i => l.length - i.1) ⟨0, Nat.zero_le _, fun j hj => absurd hj (Nat.not_lt_zero _)⟩ ?_ ?_
  · exact Wk.rn ([] ) ( [])
  rintro ⟨i, hi, hall⟩
  dsimp only
  (repeat (first | ((with_reducible show RG _ _ (_ :: _) _ _ _); refine RG.go1 (k := ?_)) | ((with_reducible show DG _ _ (_ :: _) _ _ _ _ _); refine DG.go1 (k := ?_)) | with_reducible apply RG.nil | with_reducible apply W.seq | with_reducible apply W.reg | with_reducible apply W.skip | with_reducible apply W.block | with_reducible apply W.drw | with_reducible apply DG.nil | (with_reducible refine W.done (QB.n ?_))))
  refine W.cnd (fun h1 => ?_) (fun h1 => ?_)
  · have hlt : i < l.length := by simpa using h1
    have hE := opS_at l i hlt
    have hfb : (l.getD i default).d = l[i].d := by rw [getD_lt _ _ hlt]
    have e2 : (l[i].d.map by8).length = l[i].d.length := by simp
    (repeat (first | ((with_reducible show RG _ _ (_ :: _) _ _ _); refine RG.go1 (k := ?_)) | ((with_reducible show DG _ _ (_ :: _) _ _ _ _ _); refine DG.go1 (k := ?_)) | with_reducible apply RG.nil | with_reducible apply W.seq | with_reducible apply W.reg | with_reducible apply W.skip | with_reducible apply W.block | with_reducible apply W.drw | with_reducible apply DG.nil | (with_reducible refine W.done (QB.n ?_))))
    (first | ((with_reducible show RG _ _ (_ :: _) _ _ _); refine RG.ew (cptr_of (hE) (by (conv => lhs; whnf) <;> exact rfl)) (k := ?_)) | ((with_reducible show DG _ _ (_ :: _) _ _ _ _ _); refine DG.ew (cptr_of (hE) (by (conv => lhs; whnf) <;> exact rfl)) (k := ?_)))
    (repeat (first | ((with_reducible show RG _ _ (_ :: _) _ _ _); refine RG.go1 (k := ?_)) | ((with_reducible show DG _ _ (_ :: _) _ _ _ _ _); refine DG.go1 (k := ?_)) | with_reducible apply RG.nil | with_reducible apply W.seq | with_reducible apply W.reg | with_reducible apply W.skip | with_reducible apply W.block | with_reducible apply W.drw | with_reducible apply DG.nil | (with_reducible refine W.done (QB.n ?_))))
    refine W.cnd (fun h2 => ?_) (fun h2 => ?_)
    · have hb : fitsB l = false := by
        simp only [decide_eq_true_eq] at h2
        unfold fitsB
        rw [Bool.and_eq_false_iff]; left
        rw [List.all_eq_false]
        exact ⟨l[i], List.getElem_mem hlt, by simp; omega⟩
      rw [hb]
      (repeat (first | ((with_reducible show RG _ _ (_ :: _) _ _ _); refine RG.go1 (k := ?_)) | ((with_reducible show DG _ _ (_ :: _) _ _ _ _ _); refine DG.go1 (k := ?_)) | with_reducible apply RG.nil | with_reducible apply W.seq | with_reducible apply W.reg | with_reducible apply W.skip | with_reducible apply W.block | with_reducible apply W.drw | with_reducible apply DG.nil | (with_reducible refine W.done (QB.n ?_))))
      (refine W.ret ?_; (repeat (first | refine QB.r ?_ | refine QL.r ?_ | refine QC.r ?_)); refine QF.r ?_)
      exact RetOk.rs (vs := [_]) r_caravellaw18_fits []
    · (repeat (first | ((with_reducible show RG _ _ (_ :: _) _ _ _); refine RG.go1 (k := ?_)) | ((with_reducible show DG _ _ (_ :: _) _ _ _ _ _); refine DG.go1 (k := ?_)) | with_reducible apply RG.nil | with_reducible apply W.seq | with_reducible apply W.reg | with_reducible apply W.skip | with_reducible apply W.block | with_reducible apply W.drw | with_reducible apply DG.nil | (with_reducible refine W.done (QB.n ?_))))
      refine W.done (QL.n (⟨i + 1, by omega, fun j hj => by
        rcases Nat.lt_or_ge j i with q | q
        · exact hall j q
        · obtain rfl : j = i := by omega
          rw [hfb]; simp only [decide_eq_false_iff_not] at h2; omega⟩) ?_ ?_)
      · exact Wk.rn ([] ) ( [])
      · dsimp only; omega
  have hi2 : i = l.length := by simp at h1; omega
  have hb : fitsB l = decide (((l.map opS).length : Int) ≤ 100) := by
    unfold fitsB
    have : l.all (fun o => decide (o.d.length ≤ 400)) = true := by
      rw [List.all_eq_true]
      intro o ho
      obtain ⟨j, hj, rfl⟩ := List.getElem_of_mem ho
      have := hall j (by omega)
      rw [getD_lt _ _ hj] at this
      simpa using this
    rw [this, Bool.true_and, e]
    simp only [decide_eq_decide]; omega
  rw [hb]
  (refine W.exit ?_; (repeat (first | refine QL.x ?_ | refine QC.x ?_ | refine QB.x ?_ | refine QB.o rfl ?_)))
  (repeat (first | ((with_reducible show RG _ _ (_ :: _) _ _ _); refine RG.go1 (k := ?_)) | ((with_reducible show DG _ _ (_ :: _) _ _ _ _ _); refine DG.go1 (k := ?_)) | with_reducible apply RG.nil | with_reducible apply W.seq | with_reducible apply W.reg | with_reducible apply W.skip | with_reducible apply W.block | with_reducible apply W.drw | with_reducible apply DG.nil | (with_reducible refine W.done (QB.n ?_))))
  (refine W.ret ?_; (repeat (first | refine QB.r ?_ | refine QL.r ?_ | refine QC.r ?_)); refine QF.r ?_)
  exact RetOk.rs (vs := [_]) r_caravellaw18_fits []
theorem fitsB_inv {l : List SOp} (h : fitsB l = true) : (∀ o ∈ l, o.d.length ≤ 400) ∧ l.length ≤ 100 := by
  unfold fitsB at h; simpa using h
theorem ops_arg {w : World} {r : Reach} {b0 base : Nat} {H : Type} {enc : TypeId × Value → H} {spare : Nat → Bool} {held : Bool} {v : Value} {d : DataW H} {p : List MemPlace} (hv : Value.okWide Try.prog w r b0 28 v) (k : DataW.Trod enc Try.prog w base spare held 28 v d p) :
    ∃ l : List SOp, Rep0 (fun x => x < w.heap.size) w v (.sl false 4 (l.map opS)) ∧ l.length ≤ maxLen ∧ ∀ o ∈ l, o.Ok := by
  obtain ⟨av, hr, hf⟩ := arg_sl (n := 5) (ts := [.int .i64, .sl [.int .u8], .int .i64, .int .i64]) Try.underlying28 (by kernel_rfl) hv k
  obtain ⟨l, rfl, hq, hl⟩ := hf.rows (fun o : SOp => [.int .i64 o.k, bs o.d, .int .i64 o.n, .int .i64 o.z]) SOp.Ok (by decide) (fun cs h => by
    obtain ⟨a, cs, rfl, h1, h⟩ := h.inv
    obtain ⟨b, cs, rfl, h2, h⟩ := h.inv
    obtain ⟨c, cs, rfl, h3, h⟩ := h.inv
    obtain ⟨d, cs, rfl, h4, h⟩ := h.inv
    cases h.inv0
    obtain ⟨z, rfl, _⟩ := h1.int_inv
    obtain ⟨g, rfl, _⟩ := h2.bytes
    obtain ⟨n, rfl, w1⟩ := h3.int_inv
    obtain ⟨m, rfl, w2⟩ := h4.int_inv
    exact ⟨⟨z, g, n, m⟩, rfl, bounds_i64 w1, bounds_i64 w2⟩)
  exact ⟨l, hr, hl, hq⟩
end Go.Proofs.Ytcioklhpbmjeeaa
