/- The law's helpers of layer 17. -/
import Derived.Test.YtmohmcgcggenfaaRq7
import Derived.Test.YtmohmcgcggenfaaAxC
namespace Go.Proofs.Ytmohmcgcggenfaa
open Go.RowKit
set_option linter.unusedVariables false
set_option linter.unusedSimpArgs false
set_option maxRecDepth 100000
set_option maxHeartbeats 4000000
def RS.new : RS := ⟨[], [], false, 0, false⟩
theorem new_ok : RS.new.Ok := ⟨by decide, trivial, (fun x hx => by cases hx), by decide, (fun h => by cases h), fun h => by cases h⟩
theorem qNewS_ok (b : Int) : ACall Try.prog 10 [.int .u32 b] (rq false b RS.new) [] := qNew_ok b
theorem lives_ok : ACall Try.prog 8 [] (.bool true) [] := by
  have c0 := qNewS_ok 100
  have k1 : RS.acc RS.new (sDiff 102 100) [99, 100] false = (⟨[], [(2, [99, 100])], false, 0, false⟩, 0) := by rfl
  have k2 : RS.acc ⟨[], [(2, [99, 100])], false, 0, false⟩ (sDiff 100 100) [97, 98, 88] false = (⟨[97, 98, 99, 100], [], false, -4, false⟩, 4) := by rfl
  have k3 : RS.acc ⟨[97, 98, 99, 100], [], false, -4, false⟩ (sDiff 104 104) [] true = (⟨[97, 98, 99, 100], [], true, -1, true⟩, 1) := by rfl
  have o1 : RS.Ok ⟨[], [(2, [99, 100])], false, 0, false⟩ := by have := (acc_ok new_ok (sDiff 102 100) [99, 100] false).1; rw [k1] at this; exact this
  have o2 : RS.Ok ⟨[97, 98, 99, 100], [], false, -4, false⟩ := by have := (acc_ok o1 (sDiff 100 100) [97, 98, 88] false).1; rw [k2] at this; exact this
  have c1 := accept_ok 100 (by decide) RS.new new_ok 102 (by decide) [99, 100] (by decide) false
  rw [k1] at c1
  have c2 := accept_ok 100 (by decide) _ o1 100 (by decide) [97, 98, 88] (by decide) false
  rw [k2] at c2
  have c3 := accept_ok 104 (by decide) _ o2 104 (by decide) [] (by decide) true
  rw [k3] at c3
  have cw := qWindow_ok 104 [97, 98, 99, 100] [] 104 false 0 false (by decide)
  have s1 : sAdd 100 (0 : Nat) = 100 := by decide
  have s2 : sAdd 100 (4 : Nat) = 104 := by decide
  have s3 : sAdd 104 (1 : Nat) = 105 := by decide
  have s4 : sAdd 105 (-1) = 104 := by decide
  dsimp only at c1 c2 c3
  rw [s1] at c1
  rw [s2] at c2
  rw [s3] at c3
  dsimp only [rq, qv, RS.ev, RS.new, List.map_nil, List.map_cons] at c0 c1 c2 c3 cw
  simp only [Bool.false_eq_true, if_false, if_true, s4] at c0 c1 c2 c3 cw
  refine acall_walk (N := 36) Try.func8 (by kernel_rfl) p_caravellaw17_lives rfl ?_; unfold c_caravellaw17_lives; dsimp only [enum, Nat.reduceAdd]
  (repeat (first | ((with_reducible show RG _ _ (_ :: _) _ _ _); refine RG.go1 (k := ?_)) | ((with_reducible show DG _ _ (_ :: _) _ _ _ _ _); refine DG.go1 (k := ?_)) | with_reducible apply RG.nil | with_reducible apply W.seq | with_reducible apply W.reg | with_reducible apply W.skip | with_reducible apply W.block | with_reducible apply W.drw | with_reducible apply DG.nil | (with_reducible refine W.done (QB.n ?_))))
  (first | ((with_reducible show RG _ _ (_ :: _) _ _ _); refine RG.ca (c0) (k := ?_)) | ((with_reducible show DG _ _ (_ :: _) _ _ _ _ _); refine DG.ca (c0) (k := ?_)))
  (repeat (first | ((with_reducible show RG _ _ (_ :: _) _ _ _); refine RG.go1 (k := ?_)) | ((with_reducible show DG _ _ (_ :: _) _ _ _ _ _); refine DG.go1 (k := ?_)) | with_reducible apply RG.nil | with_reducible apply W.seq | with_reducible apply W.reg | with_reducible apply W.skip | with_reducible apply W.block | with_reducible apply W.drw | with_reducible apply DG.nil | (with_reducible refine W.done (QB.n ?_))))
  (first | ((with_reducible show RG _ _ (_ :: _) _ _ _); refine RG.ca (c1) (k := ?_)) | ((with_reducible show DG _ _ (_ :: _) _ _ _ _ _); refine DG.ca (c1) (k := ?_)))
  (repeat (first | ((with_reducible show RG _ _ (_ :: _) _ _ _); refine RG.go1 (k := ?_)) | ((with_reducible show DG _ _ (_ :: _) _ _ _ _ _); refine DG.go1 (k := ?_)) | with_reducible apply RG.nil | with_reducible apply W.seq | with_reducible apply W.reg | with_reducible apply W.skip | with_reducible apply W.block | with_reducible apply W.drw | with_reducible apply DG.nil | (with_reducible refine W.done (QB.n ?_))))
  (first | ((with_reducible show RG _ _ (_ :: _) _ _ _); refine RG.ca (c2) (k := ?_)) | ((with_reducible show DG _ _ (_ :: _) _ _ _ _ _); refine DG.ca (c2) (k := ?_)))
  (repeat (first | ((with_reducible show RG _ _ (_ :: _) _ _ _); refine RG.go1 (k := ?_)) | ((with_reducible show DG _ _ (_ :: _) _ _ _ _ _); refine DG.go1 (k := ?_)) | with_reducible apply RG.nil | with_reducible apply W.seq | with_reducible apply W.reg | with_reducible apply W.skip | with_reducible apply W.block | with_reducible apply W.drw | with_reducible apply DG.nil | (with_reducible refine W.done (QB.n ?_))))
  (first | ((with_reducible show RG _ _ (_ :: _) _ _ _); refine RG.ca (c3) (k := ?_)) | ((with_reducible show DG _ _ (_ :: _) _ _ _ _ _); refine DG.ca (c3) (k := ?_)))
  (repeat (first | ((with_reducible show RG _ _ (_ :: _) _ _ _); refine RG.go1 (k := ?_)) | ((with_reducible show DG _ _ (_ :: _) _ _ _ _ _); refine DG.go1 (k := ?_)) | with_reducible apply RG.nil | with_reducible apply W.seq | with_reducible apply W.reg | with_reducible apply W.skip | with_reducible apply W.block | with_reducible apply W.drw | with_reducible apply DG.nil | (with_reducible refine W.done (QB.n ?_))))
  (first | ((with_reducible show RG _ _ (_ :: _) _ _ _); refine RG.gca (fun _ => cw) (k := ?_)) | ((with_reducible show DG _ _ (_ :: _) _ _ _ _ _); refine DG.gca (fun _ => cw) (k := ?_)))
  (repeat (first | ((with_reducible show RG _ _ (_ :: _) _ _ _); refine RG.go1 (k := ?_)) | ((with_reducible show DG _ _ (_ :: _) _ _ _ _ _); refine DG.go1 (k := ?_)) | with_reducible apply RG.nil | with_reducible apply W.seq | with_reducible apply W.reg | with_reducible apply W.skip | with_reducible apply W.block | with_reducible apply W.drw | with_reducible apply DG.nil | (with_reducible refine W.done (QB.n ?_))))
  (refine W.ret ?_; (repeat (with_reducible first | refine QB.r ?_ | refine QL.r ?_ | refine QC.r ?_)); refine QF.r ?_)
  exact RetOk.rs (vs := [_]) r_caravellaw17_lives []
/-- An op of the law. -/
structure ROp where
  k : Int
  d : List UInt8
  e : Bool
  r : Int
  deriving Inhabited
def opR (o : ROp) : AV := .agg [.int .i64 o.k, bs o.d, .bool o.e, .int .i64 o.r]
def fitsB (l : List ROp) : Bool := l.all (fun o => decide (o.d.length ≤ 400)) && decide (l.length ≤ 60)
theorem opR_at (l : List ROp) (i : Nat) (h : i < l.length) : (l.map opR)[((i : Nat) : Int).toNat]?.getD .any = .agg [.int .i64 l[i].k, .sl false 1 (l[i].d.map by8), .bool l[i].e, .int .i64 l[i].r] := at_map opR l i _ (List.getElem?_eq_getElem h) (by simp)
theorem fits_ok (l : List ROp) (hL : (l.length : Int) ≤ 9223372036854775807) : ACall Try.prog 9 [.sl true 4 (l.map opR)] (.bool (fitsB l)) [] := by
  have e : (l.map opR).length = l.length := by simp
  refine acall_walk (N := 19) Try.func9 (by kernel_rfl) p_caravellaw17_fits rfl ?_; unfold c_caravellaw17_fits; dsimp only [enum, Nat.reduceAdd]
  (repeat (first | ((with_reducible show RG _ _ (_ :: _) _ _ _); refine RG.go1 (k := ?_)) | ((with_reducible show DG _ _ (_ :: _) _ _ _ _ _); refine DG.go1 (k := ?_)) | with_reducible apply RG.nil | with_reducible apply W.seq | with_reducible apply W.reg | with_reducible apply W.skip | with_reducible apply W.block | with_reducible apply W.drw | with_reducible apply DG.nil | (with_reducible refine W.done (QB.n ?_))))
  refine W.loop (ι := {i : Nat // i ≤ l.length ∧ ∀ j : Nat, j < i → (l.getD j default).d.length ≤ 400}) (fun i => ⟨[(7, .int .i64 i.1), (6, .int .i64 l.length), (5, .sl true 4 (l.map opR)), (0, .sl true 4 (l.map opR))], [], [], 0, 0⟩) (fun i => l.length - i.1) ⟨0, Nat.zero_le _, fun j hj => absurd hj (Nat.not_lt_zero _)⟩ ?_ ?_
  · exact Wk.rn ([] ) ( [])
  rintro ⟨i, hi, hall⟩
  dsimp only
  (repeat (first | ((with_reducible show RG _ _ (_ :: _) _ _ _); refine RG.go1 (k := ?_)) | ((with_reducible show DG _ _ (_ :: _) _ _ _ _ _); refine DG.go1 (k := ?_)) | with_reducible apply RG.nil | with_reducible apply W.seq | with_reducible apply W.reg | with_reducible apply W.skip | with_reducible apply W.block | with_reducible apply W.drw | with_reducible apply DG.nil | (with_reducible refine W.done (QB.n ?_))))
  refine W.cnd (fun h1 => ?_) (fun h1 => ?_)
  · have hlt : i < l.length := by simpa using h1
    have hE := opR_at l i hlt
    have hfb : (l.getD i default).d = l[i].d := by rw [getD_lt _ _ hlt]
    have e2 : (l[i].d.map by8).length = l[i].d.length := by simp
    (repeat (first | ((with_reducible show RG _ _ (_ :: _) _ _ _); refine RG.go1 (k := ?_)) | ((with_reducible show DG _ _ (_ :: _) _ _ _ _ _); refine DG.go1 (k := ?_)) | with_reducible apply RG.nil | with_reducible apply W.seq | with_reducible apply W.reg | with_reducible apply W.skip | with_reducible apply W.block | with_reducible apply W.drw | with_reducible apply DG.nil | (with_reducible refine W.done (QB.n ?_))))
    (first | ((with_reducible show RG _ _ (_ :: _) _ _ _); refine RG.ew (cptr_of (hE) (by (conv => lhs; whnf) <;> exact rfl)) (k := ?_)) | ((with_reducible show DG _ _ (_ :: _) _ _ _ _ _); refine DG.ew (cptr_of (hE) (by (conv => lhs; whnf) <;> exact rfl)) (k := ?_)))
    (repeat (first | ((with_reducible show RG _ _ (_ :: _) _ _ _); refine RG.go1 (k := ?_)) | ((with_reducible show DG _ _ (_ :: _) _ _ _ _ _); refine DG.go1 (k := ?_)) | with_reducible apply RG.nil | with_reducible apply W.seq | with_reducible apply W.reg | with_reducible apply W.skip | with_reducible apply W.block | with_reducible apply W.drw | with_reducible apply DG.nil | (with_reducible refine W.done (QB.n ?_))))
    refine W.cnd (fun h2 => ?_) (fun h2 => ?_)
    · have hb : fitsB l = false := by
        simp only [decide_eq_true_eq] at h2
        unfold fitsB
        rw [Bool.and_eq_false_iff]; left
        rw [List.all_eq_false]
        exact ⟨l[i], List.getElem_mem hlt, by simp; omega⟩
      rw [hb]
      (repeat (first | ((with_reducible show RG _ _ (_ :: _) _ _ _); refine RG.go1 (k := ?_)) | ((with_reducible show DG _ _ (_ :: _) _ _ _ _ _); refine DG.go1 (k := ?_)) | with_reducible apply RG.nil | with_reducible apply W.seq | with_reducible apply W.reg | with_reducible apply W.skip | with_reducible apply W.block | with_reducible apply W.drw | with_reducible apply DG.nil | (with_reducible refine W.done (QB.n ?_))))
      (refine W.ret ?_; (repeat (with_reducible first | refine QB.r ?_ | refine QL.r ?_ | refine QC.r ?_)); refine QF.r ?_)
      exact RetOk.rs (vs := [_]) r_caravellaw17_fits []
    · (repeat (first | ((with_reducible show RG _ _ (_ :: _) _ _ _); refine RG.go1 (k := ?_)) | ((with_reducible show DG _ _ (_ :: _) _ _ _ _ _); refine DG.go1 (k := ?_)) | with_reducible apply RG.nil | with_reducible apply W.seq | with_reducible apply W.reg | with_reducible apply W.skip | with_reducible apply W.block | with_reducible apply W.drw | with_reducible apply DG.nil | (with_reducible refine W.done (QB.n ?_))))
      refine W.done (QL.n (⟨i + 1, by omega, fun j hj => by
        rcases Nat.lt_or_ge j i with q | q
        · exact hall j q
        · obtain rfl : j = i := by omega
          rw [hfb]; simp only [decide_eq_false_iff_not] at h2; omega⟩) ?_ ?_)
      · exact Wk.rn ([] ) ( [])
      · dsimp only; omega
  have hi2 : i = l.length := by simp at h1; omega
  have hb : fitsB l = decide (((l.map opR).length : Int) ≤ 60) := by
    unfold fitsB
    have : l.all (fun o => decide (o.d.length ≤ 400)) = true := by
      rw [List.all_eq_true]
      intro o ho
      obtain ⟨j, hj, rfl⟩ := List.getElem_of_mem ho
      have := hall j (by omega)
      rw [getD_lt _ _ hj] at this
      simpa using this
    rw [this, Bool.true_and, e]
    simp only [decide_eq_decide]; omega
  rw [hb]
  (refine W.exit ?_; (repeat (first | (with_reducible first | refine QL.x ?_ | refine QC.x ?_ | refine QB.x ?_) | (with_reducible refine QB.o (by decide) ?_))))
  (repeat (first | ((with_reducible show RG _ _ (_ :: _) _ _ _); refine RG.go1 (k := ?_)) | ((with_reducible show DG _ _ (_ :: _) _ _ _ _ _); refine DG.go1 (k := ?_)) | with_reducible apply RG.nil | with_reducible apply W.seq | with_reducible apply W.reg | with_reducible apply W.skip | with_reducible apply W.block | with_reducible apply W.drw | with_reducible apply DG.nil | (with_reducible refine W.done (QB.n ?_))))
  (refine W.ret ?_; (repeat (with_reducible first | refine QB.r ?_ | refine QL.r ?_ | refine QC.r ?_)); refine QF.r ?_)
  exact RetOk.rs (vs := [_]) r_caravellaw17_fits []
theorem fitsB_inv {l : List ROp} (h : fitsB l = true) : (∀ o ∈ l, o.d.length ≤ 400) ∧ l.length ≤ 60 := by
  unfold fitsB at h; simpa using h
theorem op_inv {cs : List AV} (h : FitsL [.int .i64, .sl [.int .u8], .bool, .int .i64] cs) : ∃ o : ROp, cs = [.int .i64 o.k, bs o.d, .bool o.e, .int .i64 o.r] ∧ (-9223372036854775808 ≤ o.k ∧ o.k ≤ 9223372036854775807) ∧ -9223372036854775808 ≤ o.r ∧ o.r ≤ 9223372036854775807 := by
  obtain ⟨a, cs, rfl, h1, h⟩ := h.inv
  obtain ⟨b, cs, rfl, h2, h⟩ := h.inv
  obtain ⟨c, cs, rfl, h3, h⟩ := h.inv
  obtain ⟨d, cs, rfl, h4, h⟩ := h.inv
  cases h.inv0
  obtain ⟨z, rfl, w1⟩ := h1.int_inv
  obtain ⟨g, rfl, _⟩ := h2.bytes
  obtain ⟨n, rfl⟩ := h3.bool_inv
  obtain ⟨m, rfl, w2⟩ := h4.int_inv
  exact ⟨⟨z, g, n, m⟩, rfl, bounds_i64 w1, bounds_i64 w2⟩
theorem ops_arg {w : World} {r : Reach} {b0 base : Nat} {H : Type} {enc : TypeId × Value → H} {spare : Nat → Bool} {held : Bool} {v : Value} {d : DataW H} {p : List MemPlace} (hv : Value.okWide Try.prog w r b0 23 v) (k : DataW.Trod enc Try.prog w base spare held 23 v d p) :
    ∃ l : List ROp, Rep0 (fun x => x < w.heap.size) w v (.sl false 4 (l.map opR)) ∧ l.length ≤ maxLen ∧ ∀ o ∈ l, -9223372036854775808 ≤ o.r ∧ o.r ≤ 9223372036854775807 := by
  obtain ⟨av, hr, hf⟩ := arg_sl (n := 5) (ts := [.int .i64, .sl [.int .u8], .bool, .int .i64]) Try.underlying23 (by kernel_rfl) hv k
  obtain ⟨l, rfl, hq, hl⟩ := hf.rows (fun o : ROp => [.int .i64 o.k, bs o.d, .bool o.e, .int .i64 o.r]) (fun o => -9223372036854775808 ≤ o.r ∧ o.r ≤ 9223372036854775807) (by decide) (fun cs h => by
    obtain ⟨o, e, _, h2⟩ := op_inv h
    exact ⟨o, e, h2⟩)
  exact ⟨l, hr, hl, hq⟩
end Go.Proofs.Ytmohmcgcggenfaa
