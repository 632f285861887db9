/- Which routes are right: the layer, and the document. -/
import Derived.Test.YteljhabahaimpaaRs8
namespace Go.Proofs.Yteljhabahaimpaa
open Go.RowKit
set_option linter.unusedVariables false
set_option linter.unusedSimpArgs false
set_option maxRecDepth 100000
set_option maxHeartbeats 4000000
def netEq (r : Rt) : Bool := decide (r.m.n0 = r.n0) && (decide (r.m.n1 = r.n1) && (decide (r.m.n2 = r.n2) && (decide (r.m.n3 = r.n3) && true)))
theorem netEq_m {r : Rt} : netEq r = true ↔ r.m = r := by
  unfold netEq
  simp only [Bool.and_eq_true, decide_eq_true_eq, and_true]
  constructor
  · rintro ⟨h0, h1, h2, h3⟩
    obtain ⟨a, b, c, d, e, f, g, h, i⟩ := r
    unfold Rt.m at *
    dsimp only at *
    rw [h0, h1, h2, h3]
  · intro h; rw [h]; exact ⟨rfl, rfl, rfl, rfl⟩
def okR (r : Rt) : Bool := decide (0 ≤ r.b) && (decide (r.b ≤ 32) && netEq r)
def okAt (l : List Rt) (i : Nat) : Bool := match l[i]? with
  | none => true
  | some r => okR r && (match i with
    | 0 => true
    | k + 1 => match l[k]? with
      | none => true
      | some p => decide (p.key < r.key))
def rightB (l : List Rt) : Bool := (List.range l.length).all (okAt l) && decide (l.length ≤ 8)
theorem okAt_0 {l : List Rt} (h : 0 < l.length) : okAt l 0 = okR l[0] := by
  unfold okAt; rw [List.getElem?_eq_getElem h]; simp
theorem okAt_s {l : List Rt} {k : Nat} (h : k + 1 < l.length) : okAt l (k + 1) = (okR l[k + 1] && decide (l[k].key < l[k + 1].key)) := by
  unfold okAt; rw [List.getElem?_eq_getElem h]; dsimp only; rw [List.getElem?_eq_getElem (show k < l.length by omega)]
theorem netEq_q (r : Rt) : eqTs [0, 0, 0, 0] [.int .u8 r.m.n0, .int .u8 r.m.n1, .int .u8 r.m.n2, .int .u8 r.m.n3] [.int .u8 r.n0, .int .u8 r.n1, .int .u8 r.n2, .int .u8 r.n3] = some (netEq r) := eqts_i (eqts_i (eqts_i (eqts_i eqts_nil)))
theorem okAt_bad {l : List Rt} {i : Nat} (h : i < l.length) (q : okR l[i] = false) : okAt l i = false := by
  unfold okAt; rw [List.getElem?_eq_getElem h]; dsimp only; rw [q]; rfl
theorem okAt_good {l : List Rt} {i : Nat} (h : i < l.length) (q : okR l[i] = true) : okAt l i = (match i with | 0 => true | k + 1 => decide ((l.getD k l[i]).key < l[i].key)) := by
  cases i with
  | zero => rw [okAt_0 h]; exact q
  | succ k =>
    rw [okAt_s h, q, Bool.true_and]
    dsimp only
    rw [List.getD_eq_getElem?_getD, List.getElem?_eq_getElem (show k < l.length by omega)]; rfl
theorem rt_getD (l : List Rt) (i : Nat) (d : Rt) (h : i < l.length) {j : Nat} (hj : j = i) : (l.map rt)[j]?.getD .any = .agg [.int .u8 (l.getD i d).n0, .int .u8 (l.getD i d).n1, .int .u8 (l.getD i d).n2, .int .u8 (l.getD i d).n3, .int .i64 (l.getD i d).b, .int .u8 (l.getD i d).v0, .int .u8 (l.getD i d).v1, .int .u8 (l.getD i d).v2, .int .u8 (l.getD i d).v3] := by
  rw [getD_lt l d h]; exact rt_at l i h hj
theorem right_ok (l : List Rt) (hl : l.length ≤ 1000) (hok : ∀ r ∈ l, r.Ok) : ACall Try.prog 12 [.sl true 9 (l.map rt)] (.bool (rightB l)) [] := by
  have el := rt_len l
  obtain ⟨R, hR⟩ : ∃ R, rightB l = R := ⟨_, rfl⟩
  rw [hR]
  unfold rightB at hR
  refine acall_walk (N := 48) Try.func12 (by kernel_rfl) p_route_Right rfl ?_; unfold c_route_Right; dsimp only [enum, Nat.reduceAdd]
  (repeat (first | ((with_reducible show RG _ _ (_ :: _) _ _ _); refine RG.go1 (k := ?_)) | ((with_reducible show DG _ _ (_ :: _) _ _ _ _ _); refine DG.go1 (k := ?_)) | with_reducible apply RG.nil | with_reducible apply W.seq | with_reducible apply W.reg | with_reducible apply W.skip | with_reducible apply W.block | with_reducible apply W.drw | with_reducible apply DG.nil | (with_reducible refine W.done (QB.n ?_)) | refine W.cndT ?_ | refine W.cndF ?_))
  refine W.loop (ι := {i : Nat // i ≤ l.length ∧ ∀ j, j < i → okAt l j = true}) (fun i => ⟨[(7, .int .i64 i.1), (6, .int .i64 l.length), (5, .sl true 9 (l.map rt)), (0, .sl true 9 (l.map rt))], [], [], 0, 0⟩) (fun i => l.length - i.1) ⟨0, Nat.zero_le _, fun j h => absurd h (Nat.not_lt_zero _)⟩ ?_ ?_
  · dsimp only
    rw [el]
    exact Wk.rn ([] ) ( [])
  rintro ⟨i, hi, hall⟩
  dsimp only
  (repeat (first | ((with_reducible show RG _ _ (_ :: _) _ _ _); refine RG.go1 (k := ?_)) | ((with_reducible show DG _ _ (_ :: _) _ _ _ _ _); refine DG.go1 (k := ?_)) | with_reducible apply RG.nil | with_reducible apply W.seq | with_reducible apply W.reg | with_reducible apply W.skip | with_reducible apply W.block | with_reducible apply W.drw | with_reducible apply DG.nil | (with_reducible refine W.done (QB.n ?_))))
  refine W.cnd (fun h1 => ?_) (fun h1 => ?_)
  · skip
    have hlt : i < l.length := by simp at h1; omega
    have hE := rt_at l i hlt (j := ((i : Nat) : Int).toNat) (by simp)
    have hrk := hok _ (List.getElem_mem hlt)
    have hfalse : okAt l i = false → R = false := fun q => by
      rw [← hR, all_step (okAt l) l.length i hall hlt q]; rfl
    have hnext : okAt l i = true → ∀ j, j < i + 1 → okAt l j = true := fun hf j hj => by
      rcases Nat.lt_or_ge j i with q | q
      · exact hall j q
      · obtain rfl : j = i := by omega
        exact hf
    have hbad := okAt_bad (l := l) (i := i) hlt
    have hgood := okAt_good (l := l) (i := i) hlt
    have hpok : ∀ k, k < l.length → (l.getD k l[i]).Ok := fun k hk => by rw [getD_lt l _ hk]; exact hok _ (List.getElem_mem _)
    have hpE : ∀ k, k < l.length → ∀ j : Nat, j = k → _ := fun k hk j hj => rt_getD l k l[i] hk hj
    clear h1
    generalize l[i] = r at hE hrk hbad hgood hpok hpE
    have hb := hrk.b
    by_cases b1 : r.b < 0
    · obtain rfl := hfalse (hbad (by unfold okR; rw [decide_eq_false (by omega)]; rfl))
      clear hR hfalse hnext hbad hgood
      (repeat (first | ((with_reducible show RG _ _ (_ :: _) _ _ _); refine RG.go1 (k := ?_)) | ((with_reducible show DG _ _ (_ :: _) _ _ _ _ _); refine DG.go1 (k := ?_)) | with_reducible apply RG.nil | with_reducible apply W.seq | with_reducible apply W.reg | with_reducible apply W.skip | with_reducible apply W.block | with_reducible apply W.drw | with_reducible apply DG.nil | (with_reducible refine W.done (QB.n ?_)) | refine W.cndT ?_ | refine W.cndF ?_))
      (first | ((with_reducible show RG _ _ (_ :: _) _ _ _); refine RG.ew (cptr_of (hE) (by (conv => lhs; whnf) <;> exact rfl)) (k := ?_)) | ((with_reducible show DG _ _ (_ :: _) _ _ _ _ _); refine DG.ew (cptr_of (hE) (by (conv => lhs; whnf) <;> exact rfl)) (k := ?_)))
      (repeat (first | ((with_reducible show RG _ _ (_ :: _) _ _ _); refine RG.go1 (k := ?_)) | ((with_reducible show DG _ _ (_ :: _) _ _ _ _ _); refine DG.go1 (k := ?_)) | with_reducible apply RG.nil | with_reducible apply W.seq | with_reducible apply W.reg | with_reducible apply W.skip | with_reducible apply W.block | with_reducible apply W.drw | with_reducible apply DG.nil | (with_reducible refine W.done (QB.n ?_)) | refine W.cndT ?_ | refine W.cndF ?_))
      (refine W.ret ?_; (repeat (with_reducible first | refine QB.r ?_ | refine QL.r ?_ | refine QC.r ?_)); refine QF.r ?_)
      exact RetOk.rs (vs := [_]) r_route_Right []
    by_cases b2 : 32 < r.b
    · obtain rfl := hfalse (hbad (by unfold okR; rw [decide_eq_false (show ¬ r.b ≤ 32 by omega), Bool.false_and, Bool.and_false]))
      clear hR hfalse hnext hbad hgood
      (repeat (first | ((with_reducible show RG _ _ (_ :: _) _ _ _); refine RG.go1 (k := ?_)) | ((with_reducible show DG _ _ (_ :: _) _ _ _ _ _); refine DG.go1 (k := ?_)) | with_reducible apply RG.nil | with_reducible apply W.seq | with_reducible apply W.reg | with_reducible apply W.skip | with_reducible apply W.block | with_reducible apply W.drw | with_reducible apply DG.nil | (with_reducible refine W.done (QB.n ?_)) | refine W.cndT ?_ | refine W.cndF ?_))
      (first | ((with_reducible show RG _ _ (_ :: _) _ _ _); refine RG.ew (cptr_of (hE) (by (conv => lhs; whnf) <;> exact rfl)) (k := ?_)) | ((with_reducible show DG _ _ (_ :: _) _ _ _ _ _); refine DG.ew (cptr_of (hE) (by (conv => lhs; whnf) <;> exact rfl)) (k := ?_)))
      (repeat (first | ((with_reducible show RG _ _ (_ :: _) _ _ _); refine RG.go1 (k := ?_)) | ((with_reducible show DG _ _ (_ :: _) _ _ _ _ _); refine DG.go1 (k := ?_)) | with_reducible apply RG.nil | with_reducible apply W.seq | with_reducible apply W.reg | with_reducible apply W.skip | with_reducible apply W.block | with_reducible apply W.drw | with_reducible apply DG.nil | (with_reducible refine W.done (QB.n ?_)) | refine W.cndT ?_ | refine W.cndF ?_))
      (refine W.ret ?_; (repeat (with_reducible first | refine QB.r ?_ | refine QL.r ?_ | refine QC.r ?_)); refine QF.r ?_)
      exact RetOk.rs (vs := [_]) r_route_Right []
    have cm := maskR_ok hrk (by omega)
    have hq := netEq_q r
    cases hB : netEq r
    · rw [hB] at hq
      obtain rfl := hfalse (hbad (by unfold okR; rw [hB, Bool.and_false, Bool.and_false]))
      clear hR hfalse hnext hbad hgood
      (repeat (first | ((with_reducible show RG _ _ (_ :: _) _ _ _); refine RG.go1 (k := ?_)) | ((with_reducible show DG _ _ (_ :: _) _ _ _ _ _); refine DG.go1 (k := ?_)) | with_reducible apply RG.nil | with_reducible apply W.seq | with_reducible apply W.reg | with_reducible apply W.skip | with_reducible apply W.block | with_reducible apply W.drw | with_reducible apply DG.nil | (with_reducible refine W.done (QB.n ?_)) | refine W.cndT ?_ | refine W.cndF ?_))
      (first | ((with_reducible show RG _ _ (_ :: _) _ _ _); refine RG.ew (cptr_of (hE) (by (conv => lhs; whnf) <;> exact rfl)) (k := ?_)) | ((with_reducible show DG _ _ (_ :: _) _ _ _ _ _); refine DG.ew (cptr_of (hE) (by (conv => lhs; whnf) <;> exact rfl)) (k := ?_)))
      (repeat (first | ((with_reducible show RG _ _ (_ :: _) _ _ _); refine RG.go1 (k := ?_)) | ((with_reducible show DG _ _ (_ :: _) _ _ _ _ _); refine DG.go1 (k := ?_)) | with_reducible apply RG.nil | with_reducible apply W.seq | with_reducible apply W.reg | with_reducible apply W.skip | with_reducible apply W.block | with_reducible apply W.drw | with_reducible apply DG.nil | (with_reducible refine W.done (QB.n ?_)) | refine W.cndT ?_ | refine W.cndF ?_))
      (first | ((with_reducible show RG _ _ (_ :: _) _ _ _); refine RG.gca (fun _ => cm) (k := ?_)) | ((with_reducible show DG _ _ (_ :: _) _ _ _ _ _); refine DG.gca (fun _ => cm) (k := ?_)))
      (repeat (first | ((with_reducible show RG _ _ (_ :: _) _ _ _); refine RG.go1 (k := ?_)) | ((with_reducible show DG _ _ (_ :: _) _ _ _ _ _); refine DG.go1 (k := ?_)) | with_reducible apply RG.nil | with_reducible apply W.seq | with_reducible apply W.reg | with_reducible apply W.skip | with_reducible apply W.block | with_reducible apply W.drw | with_reducible apply DG.nil | (with_reducible refine W.done (QB.n ?_)) | refine W.cndT ?_ | refine W.cndF ?_))
      (refine W.ret ?_; (repeat (with_reducible first | refine QB.r ?_ | refine QL.r ?_ | refine QC.r ?_)); refine QF.r ?_)
      exact RetOk.rs (vs := [_]) r_route_Right []
    rw [hB] at hq
    have hgood := hgood (by unfold okR; rw [hB, decide_eq_true (by omega), decide_eq_true (by omega)]; rfl)
    cases i with
    | zero =>
      have hnext := hnext hgood
      clear hR hfalse hbad hgood
      (repeat (first | ((with_reducible show RG _ _ (_ :: _) _ _ _); refine RG.go1 (k := ?_)) | ((with_reducible show DG _ _ (_ :: _) _ _ _ _ _); refine DG.go1 (k := ?_)) | with_reducible apply RG.nil | with_reducible apply W.seq | with_reducible apply W.reg | with_reducible apply W.skip | with_reducible apply W.block | with_reducible apply W.drw | with_reducible apply DG.nil | (with_reducible refine W.done (QB.n ?_)) | refine W.cndT ?_ | refine W.cndF ?_))
      (first | ((with_reducible show RG _ _ (_ :: _) _ _ _); refine RG.ew (cptr_of (hE) (by (conv => lhs; whnf) <;> exact rfl)) (k := ?_)) | ((with_reducible show DG _ _ (_ :: _) _ _ _ _ _); refine DG.ew (cptr_of (hE) (by (conv => lhs; whnf) <;> exact rfl)) (k := ?_)))
      (repeat (first | ((with_reducible show RG _ _ (_ :: _) _ _ _); refine RG.go1 (k := ?_)) | ((with_reducible show DG _ _ (_ :: _) _ _ _ _ _); refine DG.go1 (k := ?_)) | with_reducible apply RG.nil | with_reducible apply W.seq | with_reducible apply W.reg | with_reducible apply W.skip | with_reducible apply W.block | with_reducible apply W.drw | with_reducible apply DG.nil | (with_reducible refine W.done (QB.n ?_)) | refine W.cndT ?_ | refine W.cndF ?_))
      (first | ((with_reducible show RG _ _ (_ :: _) _ _ _); refine RG.gca (fun _ => cm) (k := ?_)) | ((with_reducible show DG _ _ (_ :: _) _ _ _ _ _); refine DG.gca (fun _ => cm) (k := ?_)))
      (repeat (first | ((with_reducible show RG _ _ (_ :: _) _ _ _); refine RG.go1 (k := ?_)) | ((with_reducible show DG _ _ (_ :: _) _ _ _ _ _); refine DG.go1 (k := ?_)) | with_reducible apply RG.nil | with_reducible apply W.seq | with_reducible apply W.reg | with_reducible apply W.skip | with_reducible apply W.block | with_reducible apply W.drw | with_reducible apply DG.nil | (with_reducible refine W.done (QB.n ?_)) | refine W.cndT ?_ | refine W.cndF ?_))
      refine W.done (QL.n (⟨0 + 1, by omega, hnext⟩) ?_ ?_)
      · exact Wk.rn ([] ) ( [])
      · dsimp only; omega
    | succ k =>
      dsimp only at hgood
      have hpk := hpok k (by omega)
      have hpE := hpE k (by omega) (((k + 1 : Nat) : Int) - 1).toNat (by omega)
      generalize l.getD k r = p at hgood hpk hpE
      have co := orderK_ok hpk hrk
      unfold rt at co
      by_cases hk : p.key < r.key
      · rw [decide_eq_true hk] at hgood
        have hnext := hnext hgood
        rw [sgn_lt hk] at co
        clear hR hfalse hbad hgood
        (repeat (first | ((with_reducible show RG _ _ (_ :: _) _ _ _); refine RG.go1 (k := ?_)) | ((with_reducible show DG _ _ (_ :: _) _ _ _ _ _); refine DG.go1 (k := ?_)) | with_reducible apply RG.nil | with_reducible apply W.seq | with_reducible apply W.reg | with_reducible apply W.skip | with_reducible apply W.block | with_reducible apply W.drw | with_reducible apply DG.nil | (with_reducible refine W.done (QB.n ?_)) | refine W.cndT ?_ | refine W.cndF ?_))
        (first | ((with_reducible show RG _ _ (_ :: _) _ _ _); refine RG.ew (cptr_of (hE) (by (conv => lhs; whnf) <;> exact rfl)) (k := ?_)) | ((with_reducible show DG _ _ (_ :: _) _ _ _ _ _); refine DG.ew (cptr_of (hE) (by (conv => lhs; whnf) <;> exact rfl)) (k := ?_)))
        (repeat (first | ((with_reducible show RG _ _ (_ :: _) _ _ _); refine RG.go1 (k := ?_)) | ((with_reducible show DG _ _ (_ :: _) _ _ _ _ _); refine DG.go1 (k := ?_)) | with_reducible apply RG.nil | with_reducible apply W.seq | with_reducible apply W.reg | with_reducible apply W.skip | with_reducible apply W.block | with_reducible apply W.drw | with_reducible apply DG.nil | (with_reducible refine W.done (QB.n ?_)) | refine W.cndT ?_ | refine W.cndF ?_))
        (first | ((with_reducible show RG _ _ (_ :: _) _ _ _); refine RG.gca (fun _ => cm) (k := ?_)) | ((with_reducible show DG _ _ (_ :: _) _ _ _ _ _); refine DG.gca (fun _ => cm) (k := ?_)))
        (repeat (first | ((with_reducible show RG _ _ (_ :: _) _ _ _); refine RG.go1 (k := ?_)) | ((with_reducible show DG _ _ (_ :: _) _ _ _ _ _); refine DG.go1 (k := ?_)) | with_reducible apply RG.nil | with_reducible apply W.seq | with_reducible apply W.reg | with_reducible apply W.skip | with_reducible apply W.block | with_reducible apply W.drw | with_reducible apply DG.nil | (with_reducible refine W.done (QB.n ?_)) | refine W.cndT ?_ | refine W.cndF ?_))
        (first | ((with_reducible show RG _ _ (_ :: _) _ _ _); refine RG.ewg (cptr_of (hpE) (by (conv => lhs; whnf) <;> exact rfl)) (k := ?_)) | ((with_reducible show DG _ _ (_ :: _) _ _ _ _ _); refine DG.ewg (cptr_of (hpE) (by (conv => lhs; whnf) <;> exact rfl)) (k := ?_)))
        (repeat (first | ((with_reducible show RG _ _ (_ :: _) _ _ _); refine RG.go1 (k := ?_)) | ((with_reducible show DG _ _ (_ :: _) _ _ _ _ _); refine DG.go1 (k := ?_)) | with_reducible apply RG.nil | with_reducible apply W.seq | with_reducible apply W.reg | with_reducible apply W.skip | with_reducible apply W.block | with_reducible apply W.drw | with_reducible apply DG.nil | (with_reducible refine W.done (QB.n ?_)) | refine W.cndT ?_ | refine W.cndF ?_))
        (first | ((with_reducible show RG _ _ (_ :: _) _ _ _); refine RG.gca (fun _ => co) (k := ?_)) | ((with_reducible show DG _ _ (_ :: _) _ _ _ _ _); refine DG.gca (fun _ => co) (k := ?_)))
        (repeat (first | ((with_reducible show RG _ _ (_ :: _) _ _ _); refine RG.go1 (k := ?_)) | ((with_reducible show DG _ _ (_ :: _) _ _ _ _ _); refine DG.go1 (k := ?_)) | with_reducible apply RG.nil | with_reducible apply W.seq | with_reducible apply W.reg | with_reducible apply W.skip | with_reducible apply W.block | with_reducible apply W.drw | with_reducible apply DG.nil | (with_reducible refine W.done (QB.n ?_)) | refine W.cndT ?_ | refine W.cndF ?_))
        refine W.done (QL.n (⟨k + 1 + 1, by omega, hnext⟩) ?_ ?_)
        · exact Wk.rn ([] ) ( [])
        · dsimp only; omega
      · rw [decide_eq_false hk] at hgood
        obtain rfl := hfalse hgood
        have hs : 0 ≤ sgn p.key r.key := by unfold sgn; rw [if_neg hk]; split <;> decide
        generalize sgn p.key r.key = sg at co hs
        clear hR hfalse hbad hgood hnext
        (repeat (first | ((with_reducible show RG _ _ (_ :: _) _ _ _); refine RG.go1 (k := ?_)) | ((with_reducible show DG _ _ (_ :: _) _ _ _ _ _); refine DG.go1 (k := ?_)) | with_reducible apply RG.nil | with_reducible apply W.seq | with_reducible apply W.reg | with_reducible apply W.skip | with_reducible apply W.block | with_reducible apply W.drw | with_reducible apply DG.nil | (with_reducible refine W.done (QB.n ?_)) | refine W.cndT ?_ | refine W.cndF ?_))
        (first | ((with_reducible show RG _ _ (_ :: _) _ _ _); refine RG.ew (cptr_of (hE) (by (conv => lhs; whnf) <;> exact rfl)) (k := ?_)) | ((with_reducible show DG _ _ (_ :: _) _ _ _ _ _); refine DG.ew (cptr_of (hE) (by (conv => lhs; whnf) <;> exact rfl)) (k := ?_)))
        (repeat (first | ((with_reducible show RG _ _ (_ :: _) _ _ _); refine RG.go1 (k := ?_)) | ((with_reducible show DG _ _ (_ :: _) _ _ _ _ _); refine DG.go1 (k := ?_)) | with_reducible apply RG.nil | with_reducible apply W.seq | with_reducible apply W.reg | with_reducible apply W.skip | with_reducible apply W.block | with_reducible apply W.drw | with_reducible apply DG.nil | (with_reducible refine W.done (QB.n ?_)) | refine W.cndT ?_ | refine W.cndF ?_))
        (first | ((with_reducible show RG _ _ (_ :: _) _ _ _); refine RG.gca (fun _ => cm) (k := ?_)) | ((with_reducible show DG _ _ (_ :: _) _ _ _ _ _); refine DG.gca (fun _ => cm) (k := ?_)))
        (repeat (first | ((with_reducible show RG _ _ (_ :: _) _ _ _); refine RG.go1 (k := ?_)) | ((with_reducible show DG _ _ (_ :: _) _ _ _ _ _); refine DG.go1 (k := ?_)) | with_reducible apply RG.nil | with_reducible apply W.seq | with_reducible apply W.reg | with_reducible apply W.skip | with_reducible apply W.block | with_reducible apply W.drw | with_reducible apply DG.nil | (with_reducible refine W.done (QB.n ?_)) | refine W.cndT ?_ | refine W.cndF ?_))
        (first | ((with_reducible show RG _ _ (_ :: _) _ _ _); refine RG.ewg (cptr_of (hpE) (by (conv => lhs; whnf) <;> exact rfl)) (k := ?_)) | ((with_reducible show DG _ _ (_ :: _) _ _ _ _ _); refine DG.ewg (cptr_of (hpE) (by (conv => lhs; whnf) <;> exact rfl)) (k := ?_)))
        (repeat (first | ((with_reducible show RG _ _ (_ :: _) _ _ _); refine RG.go1 (k := ?_)) | ((with_reducible show DG _ _ (_ :: _) _ _ _ _ _); refine DG.go1 (k := ?_)) | with_reducible apply RG.nil | with_reducible apply W.seq | with_reducible apply W.reg | with_reducible apply W.skip | with_reducible apply W.block | with_reducible apply W.drw | with_reducible apply DG.nil | (with_reducible refine W.done (QB.n ?_)) | refine W.cndT ?_ | refine W.cndF ?_))
        (first | ((with_reducible show RG _ _ (_ :: _) _ _ _); refine RG.gca (fun _ => co) (k := ?_)) | ((with_reducible show DG _ _ (_ :: _) _ _ _ _ _); refine DG.gca (fun _ => co) (k := ?_)))
        (repeat (first | ((with_reducible show RG _ _ (_ :: _) _ _ _); refine RG.go1 (k := ?_)) | ((with_reducible show DG _ _ (_ :: _) _ _ _ _ _); refine DG.go1 (k := ?_)) | with_reducible apply RG.nil | with_reducible apply W.seq | with_reducible apply W.reg | with_reducible apply W.skip | with_reducible apply W.block | with_reducible apply W.drw | with_reducible apply DG.nil | (with_reducible refine W.done (QB.n ?_)) | refine W.cndT ?_ | refine W.cndF ?_))
        (refine W.ret ?_; (repeat (with_reducible first | refine QB.r ?_ | refine QL.r ?_ | refine QC.r ?_)); refine QF.r ?_)
        exact RetOk.rs (vs := [_]) r_route_Right []
  skip
  have hR2 : (List.range l.length).all (okAt l) = true := by
    rw [List.all_eq_true]
    intro j hj
    exact hall j (by have := List.mem_range.1 hj; simp at h1; omega)
  rw [hR2, Bool.true_and] at hR
  subst hR
  clear h1
  (refine W.exit ?_; (repeat (first | (with_reducible first | refine QL.x ?_ | refine QC.x ?_ | refine QB.x ?_) | (with_reducible refine QB.o (by decide) ?_))))
  by_cases h8 : l.length ≤ 8
  · rw [decide_eq_true h8]
    (repeat (first | ((with_reducible show RG _ _ (_ :: _) _ _ _); refine RG.go1 (k := ?_)) | ((with_reducible show DG _ _ (_ :: _) _ _ _ _ _); refine DG.go1 (k := ?_)) | with_reducible apply RG.nil | with_reducible apply W.seq | with_reducible apply W.reg | with_reducible apply W.skip | with_reducible apply W.block | with_reducible apply W.drw | with_reducible apply DG.nil | (with_reducible refine W.done (QB.n ?_)) | refine W.cndT ?_ | refine W.cndF ?_))
    (refine W.ret ?_; (repeat (with_reducible first | refine QB.r ?_ | refine QL.r ?_ | refine QC.r ?_)); refine QF.r ?_)
    exact RetOk.rs (vs := [_]) r_route_Right []
  · rw [decide_eq_false h8]
    (repeat (first | ((with_reducible show RG _ _ (_ :: _) _ _ _); refine RG.go1 (k := ?_)) | ((with_reducible show DG _ _ (_ :: _) _ _ _ _ _); refine DG.go1 (k := ?_)) | with_reducible apply RG.nil | with_reducible apply W.seq | with_reducible apply W.reg | with_reducible apply W.skip | with_reducible apply W.block | with_reducible apply W.drw | with_reducible apply DG.nil | (with_reducible refine W.done (QB.n ?_)) | refine W.cndT ?_ | refine W.cndF ?_))
    (refine W.ret ?_; (repeat (with_reducible first | refine QB.r ?_ | refine QL.r ?_ | refine QC.r ?_)); refine QF.r ?_)
    exact RetOk.rs (vs := [_]) r_route_Right []
theorem rright_ok (l : List Rt) (hl : (l.length : Int) ≤ 9223372036854775807) (hok : ∀ r ∈ l, r.Ok) : ACall Try.prog 8 [.sl true 9 (l.map rt)] (.bool (rightB l)) [] := by
  have el := rt_len l
  obtain ⟨R, hR⟩ : ∃ R, rightB l = R := ⟨_, rfl⟩
  rw [hR]
  unfold rightB at hR
  refine acall_walk (N := 63) Try.func8 (by kernel_rfl) p_caravelref14_Right rfl ?_; unfold c_caravelref14_Right; dsimp only [enum, Nat.reduceAdd]
  (repeat (first | ((with_reducible show RG _ _ (_ :: _) _ _ _); refine RG.go1 (k := ?_)) | ((with_reducible show DG _ _ (_ :: _) _ _ _ _ _); refine DG.go1 (k := ?_)) | with_reducible apply RG.nil | with_reducible apply W.seq | with_reducible apply W.reg | with_reducible apply W.skip | with_reducible apply W.block | with_reducible apply W.drw | with_reducible apply DG.nil | (with_reducible refine W.done (QB.n ?_)) | refine W.cndT ?_ | refine W.cndF ?_))
  refine W.loop (ι := {i : Nat // i ≤ l.length ∧ ∀ j, j < i → okAt l j = true}) (fun i => ⟨[(3, .int .i64 i.1), (0, .sl true 9 (l.map rt))], [], [], 0, 0⟩) (fun i => l.length - i.1) ⟨0, Nat.zero_le _, fun j h => absurd h (Nat.not_lt_zero _)⟩ ?_ ?_
  · exact Wk.rn ([] ) ( [])
  rintro ⟨i, hi, hall⟩
  dsimp only
  (repeat (first | ((with_reducible show RG _ _ (_ :: _) _ _ _); refine RG.go1 (k := ?_)) | ((with_reducible show DG _ _ (_ :: _) _ _ _ _ _); refine DG.go1 (k := ?_)) | with_reducible apply RG.nil | with_reducible apply W.seq | with_reducible apply W.reg | with_reducible apply W.skip | with_reducible apply W.block | with_reducible apply W.drw | with_reducible apply DG.nil | (with_reducible refine W.done (QB.n ?_))))
  refine W.cnd (fun h1 => ?_) (fun h1 => ?_)
  · skip
    have hlt : i < l.length := by simp at h1; omega
    have hE := rt_at l i hlt (j := ((i : Nat) : Int).toNat) (by simp)
    have hrk := hok _ (List.getElem_mem hlt)
    have hfalse : okAt l i = false → R = false := fun q => by
      rw [← hR, all_step (okAt l) l.length i hall hlt q]; rfl
    have hnext : okAt l i = true → ∀ j, j < i + 1 → okAt l j = true := fun hf j hj => by
      rcases Nat.lt_or_ge j i with q | q
      · exact hall j q
      · obtain rfl : j = i := by omega
        exact hf
    have hbad := okAt_bad (l := l) (i := i) hlt
    have hgood := okAt_good (l := l) (i := i) hlt
    have hpok : ∀ k, k < l.length → (l.getD k l[i]).Ok := fun k hk => by rw [getD_lt l _ hk]; exact hok _ (List.getElem_mem _)
    have hpE : ∀ k, k < l.length → ∀ j : Nat, j = k → _ := fun k hk j hj => rt_getD l k l[i] hk hj
    clear h1
    generalize l[i] = r at hE hrk hbad hgood hpok hpE
    have hb := hrk.b
    by_cases b1 : r.b < 0
    · obtain rfl := hfalse (hbad (by unfold okR; rw [decide_eq_false (by omega)]; rfl))
      clear hR hfalse hnext hbad hgood
      (repeat (first | ((with_reducible show RG _ _ (_ :: _) _ _ _); refine RG.go1 (k := ?_)) | ((with_reducible show DG _ _ (_ :: _) _ _ _ _ _); refine DG.go1 (k := ?_)) | with_reducible apply RG.nil | with_reducible apply W.seq | with_reducible apply W.reg | with_reducible apply W.skip | with_reducible apply W.block | with_reducible apply W.drw | with_reducible apply DG.nil | (with_reducible refine W.done (QB.n ?_)) | refine W.cndT ?_ | refine W.cndF ?_))
      (first | ((with_reducible show RG _ _ (_ :: _) _ _ _); refine RG.ew (cptr_of (hE) (by (conv => lhs; whnf) <;> exact rfl)) (k := ?_)) | ((with_reducible show DG _ _ (_ :: _) _ _ _ _ _); refine DG.ew (cptr_of (hE) (by (conv => lhs; whnf) <;> exact rfl)) (k := ?_)))
      (repeat (first | ((with_reducible show RG _ _ (_ :: _) _ _ _); refine RG.go1 (k := ?_)) | ((with_reducible show DG _ _ (_ :: _) _ _ _ _ _); refine DG.go1 (k := ?_)) | with_reducible apply RG.nil | with_reducible apply W.seq | with_reducible apply W.reg | with_reducible apply W.skip | with_reducible apply W.block | with_reducible apply W.drw | with_reducible apply DG.nil | (with_reducible refine W.done (QB.n ?_)) | refine W.cndT ?_ | refine W.cndF ?_))
      (refine W.ret ?_; (repeat (with_reducible first | refine QB.r ?_ | refine QL.r ?_ | refine QC.r ?_)); refine QF.r ?_)
      exact RetOk.rs (vs := [_]) r_caravelref14_Right []
    by_cases b2 : 32 < r.b
    · obtain rfl := hfalse (hbad (by unfold okR; rw [decide_eq_false (show ¬ r.b ≤ 32 by omega), Bool.false_and, Bool.and_false]))
      clear hR hfalse hnext hbad hgood
      (repeat (first | ((with_reducible show RG _ _ (_ :: _) _ _ _); refine RG.go1 (k := ?_)) | ((with_reducible show DG _ _ (_ :: _) _ _ _ _ _); refine DG.go1 (k := ?_)) | with_reducible apply RG.nil | with_reducible apply W.seq | with_reducible apply W.reg | with_reducible apply W.skip | with_reducible apply W.block | with_reducible apply W.drw | with_reducible apply DG.nil | (with_reducible refine W.done (QB.n ?_)) | refine W.cndT ?_ | refine W.cndF ?_))
      (first | ((with_reducible show RG _ _ (_ :: _) _ _ _); refine RG.ew (cptr_of (hE) (by (conv => lhs; whnf) <;> exact rfl)) (k := ?_)) | ((with_reducible show DG _ _ (_ :: _) _ _ _ _ _); refine DG.ew (cptr_of (hE) (by (conv => lhs; whnf) <;> exact rfl)) (k := ?_)))
      (repeat (first | ((with_reducible show RG _ _ (_ :: _) _ _ _); refine RG.go1 (k := ?_)) | ((with_reducible show DG _ _ (_ :: _) _ _ _ _ _); refine DG.go1 (k := ?_)) | with_reducible apply RG.nil | with_reducible apply W.seq | with_reducible apply W.reg | with_reducible apply W.skip | with_reducible apply W.block | with_reducible apply W.drw | with_reducible apply DG.nil | (with_reducible refine W.done (QB.n ?_)) | refine W.cndT ?_ | refine W.cndF ?_))
      (first | ((with_reducible show RG _ _ (_ :: _) _ _ _); refine RG.ewg (cptr_of (hE) (by (conv => lhs; whnf) <;> exact rfl)) (k := ?_)) | ((with_reducible show DG _ _ (_ :: _) _ _ _ _ _); refine DG.ewg (cptr_of (hE) (by (conv => lhs; whnf) <;> exact rfl)) (k := ?_)))
      (repeat (first | ((with_reducible show RG _ _ (_ :: _) _ _ _); refine RG.go1 (k := ?_)) | ((with_reducible show DG _ _ (_ :: _) _ _ _ _ _); refine DG.go1 (k := ?_)) | with_reducible apply RG.nil | with_reducible apply W.seq | with_reducible apply W.reg | with_reducible apply W.skip | with_reducible apply W.block | with_reducible apply W.drw | with_reducible apply DG.nil | (with_reducible refine W.done (QB.n ?_)) | refine W.cndT ?_ | refine W.cndF ?_))
      (refine W.ret ?_; (repeat (with_reducible first | refine QB.r ?_ | refine QL.r ?_ | refine QC.r ?_)); refine QF.r ?_)
      exact RetOk.rs (vs := [_]) r_caravelref14_Right []
    have cm := MaskR_ok hrk (by omega)
    have hq := netEq_q r
    cases hB : netEq r
    · rw [hB] at hq
      obtain rfl := hfalse (hbad (by unfold okR; rw [hB, Bool.and_false, Bool.and_false]))
      clear hR hfalse hnext hbad hgood
      (repeat (first | ((with_reducible show RG _ _ (_ :: _) _ _ _); refine RG.go1 (k := ?_)) | ((with_reducible show DG _ _ (_ :: _) _ _ _ _ _); refine DG.go1 (k := ?_)) | with_reducible apply RG.nil | with_reducible apply W.seq | with_reducible apply W.reg | with_reducible apply W.skip | with_reducible apply W.block | with_reducible apply W.drw | with_reducible apply DG.nil | (with_reducible refine W.done (QB.n ?_)) | refine W.cndT ?_ | refine W.cndF ?_))
      (first | ((with_reducible show RG _ _ (_ :: _) _ _ _); refine RG.ew (cptr_of (hE) (by (conv => lhs; whnf) <;> exact rfl)) (k := ?_)) | ((with_reducible show DG _ _ (_ :: _) _ _ _ _ _); refine DG.ew (cptr_of (hE) (by (conv => lhs; whnf) <;> exact rfl)) (k := ?_)))
      (repeat (first | ((with_reducible show RG _ _ (_ :: _) _ _ _); refine RG.go1 (k := ?_)) | ((with_reducible show DG _ _ (_ :: _) _ _ _ _ _); refine DG.go1 (k := ?_)) | with_reducible apply RG.nil | with_reducible apply W.seq | with_reducible apply W.reg | with_reducible apply W.skip | with_reducible apply W.block | with_reducible apply W.drw | with_reducible apply DG.nil | (with_reducible refine W.done (QB.n ?_)) | refine W.cndT ?_ | refine W.cndF ?_))
      (first | ((with_reducible show RG _ _ (_ :: _) _ _ _); refine RG.ewg (cptr_of (hE) (by (conv => lhs; whnf) <;> exact rfl)) (k := ?_)) | ((with_reducible show DG _ _ (_ :: _) _ _ _ _ _); refine DG.ewg (cptr_of (hE) (by (conv => lhs; whnf) <;> exact rfl)) (k := ?_)))
      (repeat (first | ((with_reducible show RG _ _ (_ :: _) _ _ _); refine RG.go1 (k := ?_)) | ((with_reducible show DG _ _ (_ :: _) _ _ _ _ _); refine DG.go1 (k := ?_)) | with_reducible apply RG.nil | with_reducible apply W.seq | with_reducible apply W.reg | with_reducible apply W.skip | with_reducible apply W.block | with_reducible apply W.drw | with_reducible apply DG.nil | (with_reducible refine W.done (QB.n ?_)) | refine W.cndT ?_ | refine W.cndF ?_))
      (first | ((with_reducible show RG _ _ (_ :: _) _ _ _); refine RG.ewg (cptr_of (hE) (by (conv => lhs; whnf) <;> exact rfl)) (k := ?_)) | ((with_reducible show DG _ _ (_ :: _) _ _ _ _ _); refine DG.ewg (cptr_of (hE) (by (conv => lhs; whnf) <;> exact rfl)) (k := ?_)))
      (repeat (first | ((with_reducible show RG _ _ (_ :: _) _ _ _); refine RG.go1 (k := ?_)) | ((with_reducible show DG _ _ (_ :: _) _ _ _ _ _); refine DG.go1 (k := ?_)) | with_reducible apply RG.nil | with_reducible apply W.seq | with_reducible apply W.reg | with_reducible apply W.skip | with_reducible apply W.block | with_reducible apply W.drw | with_reducible apply DG.nil | (with_reducible refine W.done (QB.n ?_)) | refine W.cndT ?_ | refine W.cndF ?_))
      (first | ((with_reducible show RG _ _ (_ :: _) _ _ _); refine RG.ewg (cptr_of (hE) (by (conv => lhs; whnf) <;> exact rfl)) (k := ?_)) | ((with_reducible show DG _ _ (_ :: _) _ _ _ _ _); refine DG.ewg (cptr_of (hE) (by (conv => lhs; whnf) <;> exact rfl)) (k := ?_)))
      (repeat (first | ((with_reducible show RG _ _ (_ :: _) _ _ _); refine RG.go1 (k := ?_)) | ((with_reducible show DG _ _ (_ :: _) _ _ _ _ _); refine DG.go1 (k := ?_)) | with_reducible apply RG.nil | with_reducible apply W.seq | with_reducible apply W.reg | with_reducible apply W.skip | with_reducible apply W.block | with_reducible apply W.drw | with_reducible apply DG.nil | (with_reducible refine W.done (QB.n ?_)) | refine W.cndT ?_ | refine W.cndF ?_))
      (first | ((with_reducible show RG _ _ (_ :: _) _ _ _); refine RG.gca (fun _ => cm) (k := ?_)) | ((with_reducible show DG _ _ (_ :: _) _ _ _ _ _); refine DG.gca (fun _ => cm) (k := ?_)))
      (repeat (first | ((with_reducible show RG _ _ (_ :: _) _ _ _); refine RG.go1 (k := ?_)) | ((with_reducible show DG _ _ (_ :: _) _ _ _ _ _); refine DG.go1 (k := ?_)) | with_reducible apply RG.nil | with_reducible apply W.seq | with_reducible apply W.reg | with_reducible apply W.skip | with_reducible apply W.block | with_reducible apply W.drw | with_reducible apply DG.nil | (with_reducible refine W.done (QB.n ?_)) | refine W.cndT ?_ | refine W.cndF ?_))
      (first | ((with_reducible show RG _ _ (_ :: _) _ _ _); refine RG.ewg (cptr_of (hE) (by (conv => lhs; whnf) <;> exact rfl)) (k := ?_)) | ((with_reducible show DG _ _ (_ :: _) _ _ _ _ _); refine DG.ewg (cptr_of (hE) (by (conv => lhs; whnf) <;> exact rfl)) (k := ?_)))
      (repeat (first | ((with_reducible show RG _ _ (_ :: _) _ _ _); refine RG.go1 (k := ?_)) | ((with_reducible show DG _ _ (_ :: _) _ _ _ _ _); refine DG.go1 (k := ?_)) | with_reducible apply RG.nil | with_reducible apply W.seq | with_reducible apply W.reg | with_reducible apply W.skip | with_reducible apply W.block | with_reducible apply W.drw | with_reducible apply DG.nil | (with_reducible refine W.done (QB.n ?_)) | refine W.cndT ?_ | refine W.cndF ?_))
      (refine W.ret ?_; (repeat (with_reducible first | refine QB.r ?_ | refine QL.r ?_ | refine QC.r ?_)); refine QF.r ?_)
      exact RetOk.rs (vs := [_]) r_caravelref14_Right []
    rw [hB] at hq
    have hgood := hgood (by unfold okR; rw [hB, decide_eq_true (by omega), decide_eq_true (by omega)]; rfl)
    cases i with
    | zero =>
      have hnext := hnext hgood
      clear hR hfalse hbad hgood
      (repeat (first | ((with_reducible show RG _ _ (_ :: _) _ _ _); refine RG.go1 (k := ?_)) | ((with_reducible show DG _ _ (_ :: _) _ _ _ _ _); refine DG.go1 (k := ?_)) | with_reducible apply RG.nil | with_reducible apply W.seq | with_reducible apply W.reg | with_reducible apply W.skip | with_reducible apply W.block | with_reducible apply W.drw | with_reducible apply DG.nil | (with_reducible refine W.done (QB.n ?_)) | refine W.cndT ?_ | refine W.cndF ?_))
      (first | ((with_reducible show RG _ _ (_ :: _) _ _ _); refine RG.ew (cptr_of (hE) (by (conv => lhs; whnf) <;> exact rfl)) (k := ?_)) | ((with_reducible show DG _ _ (_ :: _) _ _ _ _ _); refine DG.ew (cptr_of (hE) (by (conv => lhs; whnf) <;> exact rfl)) (k := ?_)))
      (repeat (first | ((with_reducible show RG _ _ (_ :: _) _ _ _); refine RG.go1 (k := ?_)) | ((with_reducible show DG _ _ (_ :: _) _ _ _ _ _); refine DG.go1 (k := ?_)) | with_reducible apply RG.nil | with_reducible apply W.seq | with_reducible apply W.reg | with_reducible apply W.skip | with_reducible apply W.block | with_reducible apply W.drw | with_reducible apply DG.nil | (with_reducible refine W.done (QB.n ?_)) | refine W.cndT ?_ | refine W.cndF ?_))
      (first | ((with_reducible show RG _ _ (_ :: _) _ _ _); refine RG.ewg (cptr_of (hE) (by (conv => lhs; whnf) <;> exact rfl)) (k := ?_)) | ((with_reducible show DG _ _ (_ :: _) _ _ _ _ _); refine DG.ewg (cptr_of (hE) (by (conv => lhs; whnf) <;> exact rfl)) (k := ?_)))
      (repeat (first | ((with_reducible show RG _ _ (_ :: _) _ _ _); refine RG.go1 (k := ?_)) | ((with_reducible show DG _ _ (_ :: _) _ _ _ _ _); refine DG.go1 (k := ?_)) | with_reducible apply RG.nil | with_reducible apply W.seq | with_reducible apply W.reg | with_reducible apply W.skip | with_reducible apply W.block | with_reducible apply W.drw | with_reducible apply DG.nil | (with_reducible refine W.done (QB.n ?_)) | refine W.cndT ?_ | refine W.cndF ?_))
      (first | ((with_reducible show RG _ _ (_ :: _) _ _ _); refine RG.ewg (cptr_of (hE) (by (conv => lhs; whnf) <;> exact rfl)) (k := ?_)) | ((with_reducible show DG _ _ (_ :: _) _ _ _ _ _); refine DG.ewg (cptr_of (hE) (by (conv => lhs; whnf) <;> exact rfl)) (k := ?_)))
      (repeat (first | ((with_reducible show RG _ _ (_ :: _) _ _ _); refine RG.go1 (k := ?_)) | ((with_reducible show DG _ _ (_ :: _) _ _ _ _ _); refine DG.go1 (k := ?_)) | with_reducible apply RG.nil | with_reducible apply W.seq | with_reducible apply W.reg | with_reducible apply W.skip | with_reducible apply W.block | with_reducible apply W.drw | with_reducible apply DG.nil | (with_reducible refine W.done (QB.n ?_)) | refine W.cndT ?_ | refine W.cndF ?_))
      (first | ((with_reducible show RG _ _ (_ :: _) _ _ _); refine RG.ewg (cptr_of (hE) (by (conv => lhs; whnf) <;> exact rfl)) (k := ?_)) | ((with_reducible show DG _ _ (_ :: _) _ _ _ _ _); refine DG.ewg (cptr_of (hE) (by (conv => lhs; whnf) <;> exact rfl)) (k := ?_)))
      (repeat (first | ((with_reducible show RG _ _ (_ :: _) _ _ _); refine RG.go1 (k := ?_)) | ((with_reducible show DG _ _ (_ :: _) _ _ _ _ _); refine DG.go1 (k := ?_)) | with_reducible apply RG.nil | with_reducible apply W.seq | with_reducible apply W.reg | with_reducible apply W.skip | with_reducible apply W.block | with_reducible apply W.drw | with_reducible apply DG.nil | (with_reducible refine W.done (QB.n ?_)) | refine W.cndT ?_ | refine W.cndF ?_))
      (first | ((with_reducible show RG _ _ (_ :: _) _ _ _); refine RG.gca (fun _ => cm) (k := ?_)) | ((with_reducible show DG _ _ (_ :: _) _ _ _ _ _); refine DG.gca (fun _ => cm) (k := ?_)))
      (repeat (first | ((with_reducible show RG _ _ (_ :: _) _ _ _); refine RG.go1 (k := ?_)) | ((with_reducible show DG _ _ (_ :: _) _ _ _ _ _); refine DG.go1 (k := ?_)) | with_reducible apply RG.nil | with_reducible apply W.seq | with_reducible apply W.reg | with_reducible apply W.skip | with_reducible apply W.block | with_reducible apply W.drw | with_reducible apply DG.nil | (with_reducible refine W.done (QB.n ?_)) | refine W.cndT ?_ | refine W.cndF ?_))
      (first | ((with_reducible show RG _ _ (_ :: _) _ _ _); refine RG.ewg (cptr_of (hE) (by (conv => lhs; whnf) <;> exact rfl)) (k := ?_)) | ((with_reducible show DG _ _ (_ :: _) _ _ _ _ _); refine DG.ewg (cptr_of (hE) (by (conv => lhs; whnf) <;> exact rfl)) (k := ?_)))
      (repeat (first | ((with_reducible show RG _ _ (_ :: _) _ _ _); refine RG.go1 (k := ?_)) | ((with_reducible show DG _ _ (_ :: _) _ _ _ _ _); refine DG.go1 (k := ?_)) | with_reducible apply RG.nil | with_reducible apply W.seq | with_reducible apply W.reg | with_reducible apply W.skip | with_reducible apply W.block | with_reducible apply W.drw | with_reducible apply DG.nil | (with_reducible refine W.done (QB.n ?_)) | refine W.cndT ?_ | refine W.cndF ?_))
      refine W.done (QL.n (⟨0 + 1, by omega, hnext⟩) ?_ ?_)
      · exact Wk.rn ([] ) ( [])
      · dsimp only; omega
    | succ k =>
      dsimp only at hgood
      have hpk := hpok k (by omega)
      have hpE := hpE k (by omega) (((k + 1 : Nat) : Int) - 1).toNat (by omega)
      generalize l.getD k r = p at hgood hpk hpE
      have co := first_ok hpk hrk
      unfold rt at co
      by_cases hk : p.key < r.key
      · rw [decide_eq_true hk] at hgood
        have hnext := hnext hgood
        rw [decide_eq_true hk] at co
        clear hR hfalse hbad hgood
        (repeat (first | ((with_reducible show RG _ _ (_ :: _) _ _ _); refine RG.go1 (k := ?_)) | ((with_reducible show DG _ _ (_ :: _) _ _ _ _ _); refine DG.go1 (k := ?_)) | with_reducible apply RG.nil | with_reducible apply W.seq | with_reducible apply W.reg | with_reducible apply W.skip | with_reducible apply W.block | with_reducible apply W.drw | with_reducible apply DG.nil | (with_reducible refine W.done (QB.n ?_)) | refine W.cndT ?_ | refine W.cndF ?_))
        (first | ((with_reducible show RG _ _ (_ :: _) _ _ _); refine RG.ew (cptr_of (hE) (by (conv => lhs; whnf) <;> exact rfl)) (k := ?_)) | ((with_reducible show DG _ _ (_ :: _) _ _ _ _ _); refine DG.ew (cptr_of (hE) (by (conv => lhs; whnf) <;> exact rfl)) (k := ?_)))
        (repeat (first | ((with_reducible show RG _ _ (_ :: _) _ _ _); refine RG.go1 (k := ?_)) | ((with_reducible show DG _ _ (_ :: _) _ _ _ _ _); refine DG.go1 (k := ?_)) | with_reducible apply RG.nil | with_reducible apply W.seq | with_reducible apply W.reg | with_reducible apply W.skip | with_reducible apply W.block | with_reducible apply W.drw | with_reducible apply DG.nil | (with_reducible refine W.done (QB.n ?_)) | refine W.cndT ?_ | refine W.cndF ?_))
        (first | ((with_reducible show RG _ _ (_ :: _) _ _ _); refine RG.ewg (cptr_of (hE) (by (conv => lhs; whnf) <;> exact rfl)) (k := ?_)) | ((with_reducible show DG _ _ (_ :: _) _ _ _ _ _); refine DG.ewg (cptr_of (hE) (by (conv => lhs; whnf) <;> exact rfl)) (k := ?_)))
        (repeat (first | ((with_reducible show RG _ _ (_ :: _) _ _ _); refine RG.go1 (k := ?_)) | ((with_reducible show DG _ _ (_ :: _) _ _ _ _ _); refine DG.go1 (k := ?_)) | with_reducible apply RG.nil | with_reducible apply W.seq | with_reducible apply W.reg | with_reducible apply W.skip | with_reducible apply W.block | with_reducible apply W.drw | with_reducible apply DG.nil | (with_reducible refine W.done (QB.n ?_)) | refine W.cndT ?_ | refine W.cndF ?_))
        (first | ((with_reducible show RG _ _ (_ :: _) _ _ _); refine RG.ewg (cptr_of (hE) (by (conv => lhs; whnf) <;> exact rfl)) (k := ?_)) | ((with_reducible show DG _ _ (_ :: _) _ _ _ _ _); refine DG.ewg (cptr_of (hE) (by (conv => lhs; whnf) <;> exact rfl)) (k := ?_)))
        (repeat (first | ((with_reducible show RG _ _ (_ :: _) _ _ _); refine RG.go1 (k := ?_)) | ((with_reducible show DG _ _ (_ :: _) _ _ _ _ _); refine DG.go1 (k := ?_)) | with_reducible apply RG.nil | with_reducible apply W.seq | with_reducible apply W.reg | with_reducible apply W.skip | with_reducible apply W.block | with_reducible apply W.drw | with_reducible apply DG.nil | (with_reducible refine W.done (QB.n ?_)) | refine W.cndT ?_ | refine W.cndF ?_))
        (first | ((with_reducible show RG _ _ (_ :: _) _ _ _); refine RG.ewg (cptr_of (hE) (by (conv => lhs; whnf) <;> exact rfl)) (k := ?_)) | ((with_reducible show DG _ _ (_ :: _) _ _ _ _ _); refine DG.ewg (cptr_of (hE) (by (conv => lhs; whnf) <;> exact rfl)) (k := ?_)))
        (repeat (first | ((with_reducible show RG _ _ (_ :: _) _ _ _); refine RG.go1 (k := ?_)) | ((with_reducible show DG _ _ (_ :: _) _ _ _ _ _); refine DG.go1 (k := ?_)) | with_reducible apply RG.nil | with_reducible apply W.seq | with_reducible apply W.reg | with_reducible apply W.skip | with_reducible apply W.block | with_reducible apply W.drw | with_reducible apply DG.nil | (with_reducible refine W.done (QB.n ?_)) | refine W.cndT ?_ | refine W.cndF ?_))
        (first | ((with_reducible show RG _ _ (_ :: _) _ _ _); refine RG.gca (fun _ => cm) (k := ?_)) | ((with_reducible show DG _ _ (_ :: _) _ _ _ _ _); refine DG.gca (fun _ => cm) (k := ?_)))
        (repeat (first | ((with_reducible show RG _ _ (_ :: _) _ _ _); refine RG.go1 (k := ?_)) | ((with_reducible show DG _ _ (_ :: _) _ _ _ _ _); refine DG.go1 (k := ?_)) | with_reducible apply RG.nil | with_reducible apply W.seq | with_reducible apply W.reg | with_reducible apply W.skip | with_reducible apply W.block | with_reducible apply W.drw | with_reducible apply DG.nil | (with_reducible refine W.done (QB.n ?_)) | refine W.cndT ?_ | refine W.cndF ?_))
        (first | ((with_reducible show RG _ _ (_ :: _) _ _ _); refine RG.ewg (cptr_of (hE) (by (conv => lhs; whnf) <;> exact rfl)) (k := ?_)) | ((with_reducible show DG _ _ (_ :: _) _ _ _ _ _); refine DG.ewg (cptr_of (hE) (by (conv => lhs; whnf) <;> exact rfl)) (k := ?_)))
        (repeat (first | ((with_reducible show RG _ _ (_ :: _) _ _ _); refine RG.go1 (k := ?_)) | ((with_reducible show DG _ _ (_ :: _) _ _ _ _ _); refine DG.go1 (k := ?_)) | with_reducible apply RG.nil | with_reducible apply W.seq | with_reducible apply W.reg | with_reducible apply W.skip | with_reducible apply W.block | with_reducible apply W.drw | with_reducible apply DG.nil | (with_reducible refine W.done (QB.n ?_)) | refine W.cndT ?_ | refine W.cndF ?_))
        (first | ((with_reducible show RG _ _ (_ :: _) _ _ _); refine RG.ewg (cptr_of (hpE) (by (conv => lhs; whnf) <;> exact rfl)) (k := ?_)) | ((with_reducible show DG _ _ (_ :: _) _ _ _ _ _); refine DG.ewg (cptr_of (hpE) (by (conv => lhs; whnf) <;> exact rfl)) (k := ?_)))
        (repeat (first | ((with_reducible show RG _ _ (_ :: _) _ _ _); refine RG.go1 (k := ?_)) | ((with_reducible show DG _ _ (_ :: _) _ _ _ _ _); refine DG.go1 (k := ?_)) | with_reducible apply RG.nil | with_reducible apply W.seq | with_reducible apply W.reg | with_reducible apply W.skip | with_reducible apply W.block | with_reducible apply W.drw | with_reducible apply DG.nil | (with_reducible refine W.done (QB.n ?_)) | refine W.cndT ?_ | refine W.cndF ?_))
        (first | ((with_reducible show RG _ _ (_ :: _) _ _ _); refine RG.ewg (cptr_of (hE) (by (conv => lhs; whnf) <;> exact rfl)) (k := ?_)) | ((with_reducible show DG _ _ (_ :: _) _ _ _ _ _); refine DG.ewg (cptr_of (hE) (by (conv => lhs; whnf) <;> exact rfl)) (k := ?_)))
        (repeat (first | ((with_reducible show RG _ _ (_ :: _) _ _ _); refine RG.go1 (k := ?_)) | ((with_reducible show DG _ _ (_ :: _) _ _ _ _ _); refine DG.go1 (k := ?_)) | with_reducible apply RG.nil | with_reducible apply W.seq | with_reducible apply W.reg | with_reducible apply W.skip | with_reducible apply W.block | with_reducible apply W.drw | with_reducible apply DG.nil | (with_reducible refine W.done (QB.n ?_)) | refine W.cndT ?_ | refine W.cndF ?_))
        (first | ((with_reducible show RG _ _ (_ :: _) _ _ _); refine RG.gca (fun _ => co) (k := ?_)) | ((with_reducible show DG _ _ (_ :: _) _ _ _ _ _); refine DG.gca (fun _ => co) (k := ?_)))
        (repeat (first | ((with_reducible show RG _ _ (_ :: _) _ _ _); refine RG.go1 (k := ?_)) | ((with_reducible show DG _ _ (_ :: _) _ _ _ _ _); refine DG.go1 (k := ?_)) | with_reducible apply RG.nil | with_reducible apply W.seq | with_reducible apply W.reg | with_reducible apply W.skip | with_reducible apply W.block | with_reducible apply W.drw | with_reducible apply DG.nil | (with_reducible refine W.done (QB.n ?_)) | refine W.cndT ?_ | refine W.cndF ?_))
        refine W.done (QL.n (⟨k + 1 + 1, by omega, hnext⟩) ?_ ?_)
        · exact Wk.rn ([] ) ( [])
        · dsimp only; omega
      · rw [decide_eq_false hk] at hgood
        obtain rfl := hfalse hgood
        rw [decide_eq_false hk] at co
        clear hR hfalse hbad hgood hnext
        (repeat (first | ((with_reducible show RG _ _ (_ :: _) _ _ _); refine RG.go1 (k := ?_)) | ((with_reducible show DG _ _ (_ :: _) _ _ _ _ _); refine DG.go1 (k := ?_)) | with_reducible apply RG.nil | with_reducible apply W.seq | with_reducible apply W.reg | with_reducible apply W.skip | with_reducible apply W.block | with_reducible apply W.drw | with_reducible apply DG.nil | (with_reducible refine W.done (QB.n ?_)) | refine W.cndT ?_ | refine W.cndF ?_))
        (first | ((with_reducible show RG _ _ (_ :: _) _ _ _); refine RG.ew (cptr_of (hE) (by (conv => lhs; whnf) <;> exact rfl)) (k := ?_)) | ((with_reducible show DG _ _ (_ :: _) _ _ _ _ _); refine DG.ew (cptr_of (hE) (by (conv => lhs; whnf) <;> exact rfl)) (k := ?_)))
        (repeat (first | ((with_reducible show RG _ _ (_ :: _) _ _ _); refine RG.go1 (k := ?_)) | ((with_reducible show DG _ _ (_ :: _) _ _ _ _ _); refine DG.go1 (k := ?_)) | with_reducible apply RG.nil | with_reducible apply W.seq | with_reducible apply W.reg | with_reducible apply W.skip | with_reducible apply W.block | with_reducible apply W.drw | with_reducible apply DG.nil | (with_reducible refine W.done (QB.n ?_)) | refine W.cndT ?_ | refine W.cndF ?_))
        (first | ((with_reducible show RG _ _ (_ :: _) _ _ _); refine RG.ewg (cptr_of (hE) (by (conv => lhs; whnf) <;> exact rfl)) (k := ?_)) | ((with_reducible show DG _ _ (_ :: _) _ _ _ _ _); refine DG.ewg (cptr_of (hE) (by (conv => lhs; whnf) <;> exact rfl)) (k := ?_)))
        (repeat (first | ((with_reducible show RG _ _ (_ :: _) _ _ _); refine RG.go1 (k := ?_)) | ((with_reducible show DG _ _ (_ :: _) _ _ _ _ _); refine DG.go1 (k := ?_)) | with_reducible apply RG.nil | with_reducible apply W.seq | with_reducible apply W.reg | with_reducible apply W.skip | with_reducible apply W.block | with_reducible apply W.drw | with_reducible apply DG.nil | (with_reducible refine W.done (QB.n ?_)) | refine W.cndT ?_ | refine W.cndF ?_))
        (first | ((with_reducible show RG _ _ (_ :: _) _ _ _); refine RG.ewg (cptr_of (hE) (by (conv => lhs; whnf) <;> exact rfl)) (k := ?_)) | ((with_reducible show DG _ _ (_ :: _) _ _ _ _ _); refine DG.ewg (cptr_of (hE) (by (conv => lhs; whnf) <;> exact rfl)) (k := ?_)))
        (repeat (first | ((with_reducible show RG _ _ (_ :: _) _ _ _); refine RG.go1 (k := ?_)) | ((with_reducible show DG _ _ (_ :: _) _ _ _ _ _); refine DG.go1 (k := ?_)) | with_reducible apply RG.nil | with_reducible apply W.seq | with_reducible apply W.reg | with_reducible apply W.skip | with_reducible apply W.block | with_reducible apply W.drw | with_reducible apply DG.nil | (with_reducible refine W.done (QB.n ?_)) | refine W.cndT ?_ | refine W.cndF ?_))
        (first | ((with_reducible show RG _ _ (_ :: _) _ _ _); refine RG.ewg (cptr_of (hE) (by (conv => lhs; whnf) <;> exact rfl)) (k := ?_)) | ((with_reducible show DG _ _ (_ :: _) _ _ _ _ _); refine DG.ewg (cptr_of (hE) (by (conv => lhs; whnf) <;> exact rfl)) (k := ?_)))
        (repeat (first | ((with_reducible show RG _ _ (_ :: _) _ _ _); refine RG.go1 (k := ?_)) | ((with_reducible show DG _ _ (_ :: _) _ _ _ _ _); refine DG.go1 (k := ?_)) | with_reducible apply RG.nil | with_reducible apply W.seq | with_reducible apply W.reg | with_reducible apply W.skip | with_reducible apply W.block | with_reducible apply W.drw | with_reducible apply DG.nil | (with_reducible refine W.done (QB.n ?_)) | refine W.cndT ?_ | refine W.cndF ?_))
        (first | ((with_reducible show RG _ _ (_ :: _) _ _ _); refine RG.gca (fun _ => cm) (k := ?_)) | ((with_reducible show DG _ _ (_ :: _) _ _ _ _ _); refine DG.gca (fun _ => cm) (k := ?_)))
        (repeat (first | ((with_reducible show RG _ _ (_ :: _) _ _ _); refine RG.go1 (k := ?_)) | ((with_reducible show DG _ _ (_ :: _) _ _ _ _ _); refine DG.go1 (k := ?_)) | with_reducible apply RG.nil | with_reducible apply W.seq | with_reducible apply W.reg | with_reducible apply W.skip | with_reducible apply W.block | with_reducible apply W.drw | with_reducible apply DG.nil | (with_reducible refine W.done (QB.n ?_)) | refine W.cndT ?_ | refine W.cndF ?_))
        (first | ((with_reducible show RG _ _ (_ :: _) _ _ _); refine RG.ewg (cptr_of (hE) (by (conv => lhs; whnf) <;> exact rfl)) (k := ?_)) | ((with_reducible show DG _ _ (_ :: _) _ _ _ _ _); refine DG.ewg (cptr_of (hE) (by (conv => lhs; whnf) <;> exact rfl)) (k := ?_)))
        (repeat (first | ((with_reducible show RG _ _ (_ :: _) _ _ _); refine RG.go1 (k := ?_)) | ((with_reducible show DG _ _ (_ :: _) _ _ _ _ _); refine DG.go1 (k := ?_)) | with_reducible apply RG.nil | with_reducible apply W.seq | with_reducible apply W.reg | with_reducible apply W.skip | with_reducible apply W.block | with_reducible apply W.drw | with_reducible apply DG.nil | (with_reducible refine W.done (QB.n ?_)) | refine W.cndT ?_ | refine W.cndF ?_))
        (first | ((with_reducible show RG _ _ (_ :: _) _ _ _); refine RG.ewg (cptr_of (hpE) (by (conv => lhs; whnf) <;> exact rfl)) (k := ?_)) | ((with_reducible show DG _ _ (_ :: _) _ _ _ _ _); refine DG.ewg (cptr_of (hpE) (by (conv => lhs; whnf) <;> exact rfl)) (k := ?_)))
        (repeat (first | ((with_reducible show RG _ _ (_ :: _) _ _ _); refine RG.go1 (k := ?_)) | ((with_reducible show DG _ _ (_ :: _) _ _ _ _ _); refine DG.go1 (k := ?_)) | with_reducible apply RG.nil | with_reducible apply W.seq | with_reducible apply W.reg | with_reducible apply W.skip | with_reducible apply W.block | with_reducible apply W.drw | with_reducible apply DG.nil | (with_reducible refine W.done (QB.n ?_)) | refine W.cndT ?_ | refine W.cndF ?_))
        (first | ((with_reducible show RG _ _ (_ :: _) _ _ _); refine RG.ewg (cptr_of (hE) (by (conv => lhs; whnf) <;> exact rfl)) (k := ?_)) | ((with_reducible show DG _ _ (_ :: _) _ _ _ _ _); refine DG.ewg (cptr_of (hE) (by (conv => lhs; whnf) <;> exact rfl)) (k := ?_)))
        (repeat (first | ((with_reducible show RG _ _ (_ :: _) _ _ _); refine RG.go1 (k := ?_)) | ((with_reducible show DG _ _ (_ :: _) _ _ _ _ _); refine DG.go1 (k := ?_)) | with_reducible apply RG.nil | with_reducible apply W.seq | with_reducible apply W.reg | with_reducible apply W.skip | with_reducible apply W.block | with_reducible apply W.drw | with_reducible apply DG.nil | (with_reducible refine W.done (QB.n ?_)) | refine W.cndT ?_ | refine W.cndF ?_))
        (first | ((with_reducible show RG _ _ (_ :: _) _ _ _); refine RG.gca (fun _ => co) (k := ?_)) | ((with_reducible show DG _ _ (_ :: _) _ _ _ _ _); refine DG.gca (fun _ => co) (k := ?_)))
        (repeat (first | ((with_reducible show RG _ _ (_ :: _) _ _ _); refine RG.go1 (k := ?_)) | ((with_reducible show DG _ _ (_ :: _) _ _ _ _ _); refine DG.go1 (k := ?_)) | with_reducible apply RG.nil | with_reducible apply W.seq | with_reducible apply W.reg | with_reducible apply W.skip | with_reducible apply W.block | with_reducible apply W.drw | with_reducible apply DG.nil | (with_reducible refine W.done (QB.n ?_)) | refine W.cndT ?_ | refine W.cndF ?_))
        (refine W.ret ?_; (repeat (with_reducible first | refine QB.r ?_ | refine QL.r ?_ | refine QC.r ?_)); refine QF.r ?_)
        exact RetOk.rs (vs := [_]) r_caravelref14_Right []
  skip
  have hR2 : (List.range l.length).all (okAt l) = true := by
    rw [List.all_eq_true]
    intro j hj
    exact hall j (by have := List.mem_range.1 hj; simp at h1; omega)
  rw [hR2, Bool.true_and] at hR
  subst hR
  clear h1
  (refine W.exit ?_; (repeat (first | (with_reducible first | refine QL.x ?_ | refine QC.x ?_ | refine QB.x ?_) | (with_reducible refine QB.o (by decide) ?_))))
  by_cases h8 : l.length ≤ 8
  · rw [decide_eq_true h8]
    (repeat (first | ((with_reducible show RG _ _ (_ :: _) _ _ _); refine RG.go1 (k := ?_)) | ((with_reducible show DG _ _ (_ :: _) _ _ _ _ _); refine DG.go1 (k := ?_)) | with_reducible apply RG.nil | with_reducible apply W.seq | with_reducible apply W.reg | with_reducible apply W.skip | with_reducible apply W.block | with_reducible apply W.drw | with_reducible apply DG.nil | (with_reducible refine W.done (QB.n ?_)) | refine W.cndT ?_ | refine W.cndF ?_))
    (refine W.ret ?_; (repeat (with_reducible first | refine QB.r ?_ | refine QL.r ?_ | refine QC.r ?_)); refine QF.r ?_)
    exact RetOk.rs (vs := [_]) r_caravelref14_Right []
  · rw [decide_eq_false h8]
    (repeat (first | ((with_reducible show RG _ _ (_ :: _) _ _ _); refine RG.go1 (k := ?_)) | ((with_reducible show DG _ _ (_ :: _) _ _ _ _ _); refine DG.go1 (k := ?_)) | with_reducible apply RG.nil | with_reducible apply W.seq | with_reducible apply W.reg | with_reducible apply W.skip | with_reducible apply W.block | with_reducible apply W.drw | with_reducible apply DG.nil | (with_reducible refine W.done (QB.n ?_)) | refine W.cndT ?_ | refine W.cndF ?_))
    (refine W.ret ?_; (repeat (with_reducible first | refine QB.r ?_ | refine QL.r ?_ | refine QC.r ?_)); refine QF.r ?_)
    exact RetOk.rs (vs := [_]) r_caravelref14_Right []
end Go.Proofs.Yteljhabahaimpaa
