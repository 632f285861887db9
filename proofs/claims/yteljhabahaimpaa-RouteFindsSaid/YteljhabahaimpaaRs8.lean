/- Keys of routes; order and First by keys. -/
import Derived.Test.YteljhabahaimpaaRs7
namespace Go.Proofs.Yteljhabahaimpaa
open Go.RowKit
set_option linter.unusedVariables false
set_option linter.unusedSimpArgs false
set_option maxRecDepth 100000
set_option maxHeartbeats 4000000
structure Rt.Ok (r : Rt) : Prop where
  n0 : 0 ≤ r.n0 ∧ r.n0 ≤ 255
  n1 : 0 ≤ r.n1 ∧ r.n1 ≤ 255
  n2 : 0 ≤ r.n2 ∧ r.n2 ≤ 255
  n3 : 0 ≤ r.n3 ∧ r.n3 ≤ 255
  v0 : 0 ≤ r.v0 ∧ r.v0 ≤ 255
  v1 : 0 ≤ r.v1 ∧ r.v1 ≤ 255
  v2 : 0 ≤ r.v2 ∧ r.v2 ≤ 255
  v3 : 0 ≤ r.v3 ∧ r.v3 ≤ 255
  b : -9223372036854775808 ≤ r.b ∧ r.b ≤ 9223372036854775807
def Rt.w (r : Rt) : Int := W4 r.n0 r.n1 r.n2 r.n3
def Rt.key (r : Rt) : Int := (32 - r.b) * 4294967296 + r.w
theorem Rt.Ok.w {r : Rt} (h : r.Ok) : 0 ≤ r.w ∧ r.w ≤ 4294967295 := W4_b h.n0 h.n1 h.n2 h.n3
theorem lexc4 {a b c d e f g h : Int} (ha : 0 ≤ a ∧ a ≤ 255) (hb : 0 ≤ b ∧ b ≤ 255) (hc : 0 ≤ c ∧ c ≤ 255) (hd : 0 ≤ d ∧ d ≤ 255) (he : 0 ≤ e ∧ e ≤ 255) (hf : 0 ≤ f ∧ f ≤ 255) (hg : 0 ≤ g ∧ g ≤ 255) (hh : 0 ≤ h ∧ h ≤ 255) :
    lexc [a, b, c, d] [e, f, g, h] = sgn (W4 a b c d) (W4 e f g h) := by
  unfold lexc lexc lexc lexc lexc W4
  rcases Int.lt_trichotomy a e with q | q | q
  · rw [sgn_lt q, if_neg (by decide), sgn_lt (by omega)]
  · rw [sgn_eq q, if_pos rfl]
    rcases Int.lt_trichotomy b f with q | q | q
    · rw [sgn_lt q, if_neg (by decide), sgn_lt (by omega)]
    · rw [sgn_eq q, if_pos rfl]
      rcases Int.lt_trichotomy c g with q | q | q
      · rw [sgn_lt q, if_neg (by decide), sgn_lt (by omega)]
      · rw [sgn_eq q, if_pos rfl]
        rcases Int.lt_trichotomy d h with q | q | q
        · rw [sgn_lt q, if_neg (by decide), sgn_lt (by omega)]
        · rw [sgn_eq q, if_pos rfl, sgn_eq (by omega)]
        · rw [sgn_gt q, if_neg (by decide), sgn_gt (by omega)]
      · rw [sgn_gt q, if_neg (by decide), sgn_gt (by omega)]
    · rw [sgn_gt q, if_neg (by decide), sgn_gt (by omega)]
  · rw [sgn_gt q, if_neg (by decide), sgn_gt (by omega)]
theorem ord_key {x y : Rt} (hx : x.Ok) (hy : y.Ok) : ord x y = sgn x.key y.key := by
  have h1 := hx.w
  have h2 := hy.w
  have e := lexc4 hx.n0 hx.n1 hx.n2 hx.n3 hy.n0 hy.n1 hy.n2 hy.n3
  unfold ord or2 Rt.key
  rw [e]
  change (if sgn y.b x.b = 0 then sgn x.w y.w else sgn y.b x.b) = _
  generalize x.w = u at *
  generalize y.w = v at *
  rcases Int.lt_trichotomy y.b x.b with q | q | q
  · rw [sgn_lt q, if_neg (by decide), sgn_lt (by omega)]
  · rw [sgn_eq q, if_pos rfl]
    rcases Int.lt_trichotomy u v with g | g | g
    · rw [sgn_lt g, sgn_lt (by omega)]
    · rw [sgn_eq g, sgn_eq (by omega)]
    · rw [sgn_gt g, sgn_gt (by omega)]
  · rw [sgn_gt q, if_neg (by decide), sgn_gt (by omega)]
theorem orderK_ok {x y : Rt} (hx : x.Ok) (hy : y.Ok) : ACall Try.prog 23 [rt x, rt y] (.int .i64 (sgn x.key y.key)) [] := by
  rw [← ord_key hx hy]; exact order_ok x y
theorem first_ok {x y : Rt} (hx : x.Ok) (hy : y.Ok) : ACall Try.prog 19 [rt x, rt y] (.bool (decide (x.key < y.key))) [] := by
  have c1 := word14_ok x.n0 x.n1 x.n2 x.n3 hx.n0 hx.n1 hx.n2 hx.n3
  have c2 := word14_ok y.n0 y.n1 y.n2 y.n3 hy.n0 hy.n1 hy.n2 hy.n3
  have h1 := hx.w
  have h2 := hy.w
  change ACall _ _ _ (.int .i64 x.w) [] at c1
  change ACall _ _ _ (.int .i64 y.w) [] at c2
  unfold Rt.key rt
  generalize x.w = u at *
  generalize y.w = v at *
  rcases Int.lt_trichotomy x.b y.b with q | q | q
  · rw [decide_eq_false (by omega)]
    refine acall_walk (N := 26) Try.func19 (by kernel_rfl) p_caravelref14_First rfl ?_; unfold c_caravelref14_First; dsimp only [enum, Nat.reduceAdd]
    (repeat (first | ((with_reducible show RG _ _ (_ :: _) _ _ _); refine RG.go1 (k := ?_)) | ((with_reducible show DG _ _ (_ :: _) _ _ _ _ _); refine DG.go1 (k := ?_)) | with_reducible apply RG.nil | with_reducible apply W.seq | with_reducible apply W.reg | with_reducible apply W.skip | with_reducible apply W.block | with_reducible apply W.drw | with_reducible apply DG.nil | (with_reducible refine W.done (QB.n ?_)) | refine W.cndT ?_ | refine W.cndF ?_))
    (refine W.ret ?_; (repeat (with_reducible first | refine QB.r ?_ | refine QL.r ?_ | refine QC.r ?_)); refine QF.r ?_)
    exact RetOk.rs (vs := [_]) r_caravelref14_First []
  · by_cases g : u < v
    · rw [decide_eq_true (by omega)]
      refine acall_walk (N := 26) Try.func19 (by kernel_rfl) p_caravelref14_First rfl ?_; unfold c_caravelref14_First; dsimp only [enum, Nat.reduceAdd]
      (repeat (first | ((with_reducible show RG _ _ (_ :: _) _ _ _); refine RG.go1 (k := ?_)) | ((with_reducible show DG _ _ (_ :: _) _ _ _ _ _); refine DG.go1 (k := ?_)) | with_reducible apply RG.nil | with_reducible apply W.seq | with_reducible apply W.reg | with_reducible apply W.skip | with_reducible apply W.block | with_reducible apply W.drw | with_reducible apply DG.nil | (with_reducible refine W.done (QB.n ?_)) | refine W.cndT ?_ | refine W.cndF ?_))
      (first | ((with_reducible show RG _ _ (_ :: _) _ _ _); refine RG.gca (fun _ => c1) (k := ?_)) | ((with_reducible show DG _ _ (_ :: _) _ _ _ _ _); refine DG.gca (fun _ => c1) (k := ?_)))
      (repeat (first | ((with_reducible show RG _ _ (_ :: _) _ _ _); refine RG.go1 (k := ?_)) | ((with_reducible show DG _ _ (_ :: _) _ _ _ _ _); refine DG.go1 (k := ?_)) | with_reducible apply RG.nil | with_reducible apply W.seq | with_reducible apply W.reg | with_reducible apply W.skip | with_reducible apply W.block | with_reducible apply W.drw | with_reducible apply DG.nil | (with_reducible refine W.done (QB.n ?_)) | refine W.cndT ?_ | refine W.cndF ?_))
      (first | ((with_reducible show RG _ _ (_ :: _) _ _ _); refine RG.gca (fun _ => c2) (k := ?_)) | ((with_reducible show DG _ _ (_ :: _) _ _ _ _ _); refine DG.gca (fun _ => c2) (k := ?_)))
      (repeat (first | ((with_reducible show RG _ _ (_ :: _) _ _ _); refine RG.go1 (k := ?_)) | ((with_reducible show DG _ _ (_ :: _) _ _ _ _ _); refine DG.go1 (k := ?_)) | with_reducible apply RG.nil | with_reducible apply W.seq | with_reducible apply W.reg | with_reducible apply W.skip | with_reducible apply W.block | with_reducible apply W.drw | with_reducible apply DG.nil | (with_reducible refine W.done (QB.n ?_)) | refine W.cndT ?_ | refine W.cndF ?_))
      (refine W.ret ?_; (repeat (with_reducible first | refine QB.r ?_ | refine QL.r ?_ | refine QC.r ?_)); refine QF.r ?_)
      exact RetOk.rs (vs := [_]) r_caravelref14_First []
    · rw [decide_eq_false (by omega)]
      refine acall_walk (N := 26) Try.func19 (by kernel_rfl) p_caravelref14_First rfl ?_; unfold c_caravelref14_First; dsimp only [enum, Nat.reduceAdd]
      (repeat (first | ((with_reducible show RG _ _ (_ :: _) _ _ _); refine RG.go1 (k := ?_)) | ((with_reducible show DG _ _ (_ :: _) _ _ _ _ _); refine DG.go1 (k := ?_)) | with_reducible apply RG.nil | with_reducible apply W.seq | with_reducible apply W.reg | with_reducible apply W.skip | with_reducible apply W.block | with_reducible apply W.drw | with_reducible apply DG.nil | (with_reducible refine W.done (QB.n ?_)) | refine W.cndT ?_ | refine W.cndF ?_))
      (first | ((with_reducible show RG _ _ (_ :: _) _ _ _); refine RG.gca (fun _ => c1) (k := ?_)) | ((with_reducible show DG _ _ (_ :: _) _ _ _ _ _); refine DG.gca (fun _ => c1) (k := ?_)))
      (repeat (first | ((with_reducible show RG _ _ (_ :: _) _ _ _); refine RG.go1 (k := ?_)) | ((with_reducible show DG _ _ (_ :: _) _ _ _ _ _); refine DG.go1 (k := ?_)) | with_reducible apply RG.nil | with_reducible apply W.seq | with_reducible apply W.reg | with_reducible apply W.skip | with_reducible apply W.block | with_reducible apply W.drw | with_reducible apply DG.nil | (with_reducible refine W.done (QB.n ?_)) | refine W.cndT ?_ | refine W.cndF ?_))
      (first | ((with_reducible show RG _ _ (_ :: _) _ _ _); refine RG.gca (fun _ => c2) (k := ?_)) | ((with_reducible show DG _ _ (_ :: _) _ _ _ _ _); refine DG.gca (fun _ => c2) (k := ?_)))
      (repeat (first | ((with_reducible show RG _ _ (_ :: _) _ _ _); refine RG.go1 (k := ?_)) | ((with_reducible show DG _ _ (_ :: _) _ _ _ _ _); refine DG.go1 (k := ?_)) | with_reducible apply RG.nil | with_reducible apply W.seq | with_reducible apply W.reg | with_reducible apply W.skip | with_reducible apply W.block | with_reducible apply W.drw | with_reducible apply DG.nil | (with_reducible refine W.done (QB.n ?_)) | refine W.cndT ?_ | refine W.cndF ?_))
      (refine W.ret ?_; (repeat (with_reducible first | refine QB.r ?_ | refine QL.r ?_ | refine QC.r ?_)); refine QF.r ?_)
      exact RetOk.rs (vs := [_]) r_caravelref14_First []
  · rw [decide_eq_true (by omega)]
    refine acall_walk (N := 26) Try.func19 (by kernel_rfl) p_caravelref14_First rfl ?_; unfold c_caravelref14_First; dsimp only [enum, Nat.reduceAdd]
    (repeat (first | ((with_reducible show RG _ _ (_ :: _) _ _ _); refine RG.go1 (k := ?_)) | ((with_reducible show DG _ _ (_ :: _) _ _ _ _ _); refine DG.go1 (k := ?_)) | with_reducible apply RG.nil | with_reducible apply W.seq | with_reducible apply W.reg | with_reducible apply W.skip | with_reducible apply W.block | with_reducible apply W.drw | with_reducible apply DG.nil | (with_reducible refine W.done (QB.n ?_)) | refine W.cndT ?_ | refine W.cndF ?_))
    (refine W.ret ?_; (repeat (with_reducible first | refine QB.r ?_ | refine QL.r ?_ | refine QC.r ?_)); refine QF.r ?_)
    exact RetOk.rs (vs := [_]) r_caravelref14_First []
theorem key_eq {x y : Rt} (hx : x.Ok) (hy : y.Ok) : x.key = y.key ↔ (x.n0 = y.n0 ∧ x.n1 = y.n1 ∧ x.n2 = y.n2 ∧ x.n3 = y.n3 ∧ x.b = y.b) := by
  have h1 := hx.w
  have h2 := hy.w
  unfold Rt.key
  have h0 := hx.n0; have h3 := hx.n1; have h4 := hx.n2; have h5 := hx.n3
  have g0 := hy.n0; have g3 := hy.n1; have g4 := hy.n2; have g5 := hy.n3
  constructor
  · intro q
    have q1 : x.b = y.b ∧ x.w = y.w := by
      generalize x.w = u at *
      generalize y.w = v at *
      omega
    obtain ⟨q1, q2⟩ := q1
    unfold Rt.w W4 at q2
    clear h1 h2 q
    omega
  · rintro ⟨e0, e1, e2, e3, e4⟩
    unfold Rt.w W4
    rw [e0, e1, e2, e3, e4]
/-- a route's net, masked -/
def Rt.m (r : Rt) : Rt := { r with n0 := keep8 r.n0 (mn r.b 0), n1 := keep8 r.n1 (mn r.b 1), n2 := keep8 r.n2 (mn r.b 2), n3 := keep8 r.n3 (mn r.b 3) }
theorem keep8_b {x m : Int} (h : 0 ≤ x ∧ x ≤ 255) : 0 ≤ keep8 x m ∧ keep8 x m ≤ 255 := by
  unfold keep8
  generalize hk : (8 - m).toNat = k
  have h1 : (0 : Int) < 2 ^ k := Int.pow_pos (by decide)
  have h2 : 0 ≤ x / 2 ^ k := Int.ediv_nonneg h.1 (by omega)
  have h3 : x / 2 ^ k * 2 ^ k ≤ x := Int.ediv_mul_le x (by omega)
  exact ⟨Int.mul_nonneg h2 (by omega), by omega⟩
theorem keep8_2 (x m : Int) : keep8 (keep8 x m) m = keep8 x m := by
  unfold keep8
  rw [Int.mul_ediv_cancel _ (by have : (0 : Int) < 2 ^ (8 - m).toNat := Int.pow_pos (by decide); omega)]
theorem Rt.Ok.m {r : Rt} (h : r.Ok) : r.m.Ok := ⟨keep8_b h.n0, keep8_b h.n1, keep8_b h.n2, keep8_b h.n3, h.v0, h.v1, h.v2, h.v3, h.b⟩
theorem Rt.m_m (r : Rt) : r.m.m = r.m := by
  unfold Rt.m
  dsimp only
  rw [keep8_2, keep8_2, keep8_2, keep8_2]
theorem maskR_ok {r : Rt} (h : r.Ok) (hb : 0 ≤ r.b ∧ r.b ≤ 32) : ACall Try.prog 22 [.agg [.int .u8 r.n0, .int .u8 r.n1, .int .u8 r.n2, .int .u8 r.n3], .int .i64 r.b] (.agg [.int .u8 r.m.n0, .int .u8 r.m.n1, .int .u8 r.m.n2, .int .u8 r.m.n3]) [] :=
  mask_ok r.n0 r.n1 r.n2 r.n3 r.b hb h.n0 h.n1 h.n2 h.n3
theorem MaskR_ok {r : Rt} (h : r.Ok) (hb : 0 ≤ r.b ∧ r.b ≤ 32) : ACall Try.prog 18 [.agg [.int .u8 r.n0, .int .u8 r.n1, .int .u8 r.n2, .int .u8 r.n3], .int .i64 r.b] (.agg [.int .u8 r.m.n0, .int .u8 r.m.n1, .int .u8 r.m.n2, .int .u8 r.m.n3]) [] := by
  have c := Mask_ok r.n0 r.n1 r.n2 r.n3 r.b hb h.n0 h.n1 h.n2 h.n3
  obtain ⟨e0, e1, e2, e3⟩ := mask_eq r.n0 r.n1 r.n2 r.n3 r.b hb h.n0 h.n1 h.n2 h.n3
  rw [e0, e1, e2, e3] at c
  exact c
theorem within_ww {a0 a1 a2 a3 n0 n1 n2 n3 : Int} (n : Int) (ha0 : 0 ≤ a0 ∧ a0 ≤ 255) (ha1 : 0 ≤ a1 ∧ a1 ≤ 255) (ha2 : 0 ≤ a2 ∧ a2 ≤ 255) (ha3 : 0 ≤ a3 ∧ a3 ≤ 255) (hn0 : 0 ≤ n0 ∧ n0 ≤ 255) (hn1 : 0 ≤ n1 ∧ n1 ≤ 255) (hn2 : 0 ≤ n2 ∧ n2 ≤ 255) (hn3 : 0 ≤ n3 ∧ n3 ≤ 255) :
    within n [a0, a1, a2, a3] [n0, n1, n2, n3] = wwithin n (W4 a0 a1 a2 a3) (W4 n0 n1 n2 n3) := by
  unfold within wwithin
  by_cases hn : 0 ≤ n ∧ n ≤ 32
  · rw [decide_eq_true hn, Bool.true_and, Bool.true_and]
    have e := within_eq a0 a1 a2 a3 n0 n1 n2 n3 n hn ha0 ha1 ha2 ha3 hn0 hn1 hn2 hn3
    have e2 : (List.range 4).all (bt n [a0, a1, a2, a3] [n0, n1, n2, n3]) = (bitsEq a0 n0 (mn n 0) && (bitsEq a1 n1 (mn n 1) && (bitsEq a2 n2 (mn n 2) && (bitsEq a3 n3 (mn n 3) && true)))) := rfl
    rw [e2]
    unfold bitsEq
    rw [Bool.eq_iff_iff]
    simp only [Bool.and_eq_true, decide_eq_true_eq, and_true]
    exact e.symm
  · rw [decide_eq_false hn]; rfl
end Go.Proofs.Yteljhabahaimpaa
