/- RouteFinds: the walk. -/
import Derived.Test.YteljhabahaimpaaRse
namespace Go.Proofs.Yteljhabahaimpaa
open Go.RowKit
set_option linter.unusedVariables false
set_option linter.unusedSimpArgs false
set_option maxRecDepth 100000
set_option maxHeartbeats 4000000
def viaB (r : Rt) (a : Ip) : Bool := decide (r.v0 = a.a0) && (decide (r.v1 = a.a1) && (decide (r.v2 = a.a2) && (decide (r.v3 = a.a3) && true)))
theorem viaB_q (r : Rt) (a : Ip) : eqTs [0, 0, 0, 0] [.int .u8 r.v0, .int .u8 r.v1, .int .u8 r.v2, .int .u8 r.v3] [.int .u8 a.a0, .int .u8 a.a1, .int .u8 a.a2, .int .u8 a.a3] = some (viaB r a) := eqts_i (eqts_i (eqts_i (eqts_i eqts_nil)))
def ipB (a t : Ip) : Bool := decide (a.a0 = t.a0) && (decide (a.a1 = t.a1) && (decide (a.a2 = t.a2) && (decide (a.a3 = t.a3) && true)))
theorem ipB_q (a t : Ip) : eqTs [0, 0, 0, 0] [.int .u8 a.a0, .int .u8 a.a1, .int .u8 a.a2, .int .u8 a.a3] [.int .u8 t.a0, .int .u8 t.a1, .int .u8 t.a2, .int .u8 t.a3] = some (ipB a t) := eqts_i (eqts_i (eqts_i (eqts_i eqts_nil)))
theorem ipB_self (a : Ip) : ipB a a = true := by unfold ipB; simp
theorem ipB_qs (a : Ip) : eqTs [0, 0, 0, 0] [.int .u8 a.a0, .int .u8 a.a1, .int .u8 a.a2, .int .u8 a.a3] [.int .u8 a.a0, .int .u8 a.a1, .int .u8 a.a2, .int .u8 a.a3] = some true := by rw [ipB_q, ipB_self]
/-- The law's test: a route by which a host is had. -/
def hadBy (t a : Ip) (r : Rt) : Bool := viaB r a || (viaZ r && ipB a t)
theorem had_self (t : Ip) (r : Rt) : hadBy t (ansR t r).ip r = true := by
  unfold hadBy ansR
  cases h : viaZ r
  · rw [if_neg (by decide)]; unfold viaB; simp
  · rw [if_pos rfl, ipB_self, Bool.and_self, Bool.or_true]
theorem RI.bits {l : List Rt} (h : RI l) (j i : Nat) (hj : j < l.length) (hi : i < l.length) (hji : j < i) : l[i].b ≤ l[j].b := by
  have h1 := h.s j i hj hi hji
  have h2 := (h.ok _ (List.getElem_mem hj)).w
  have h3 := (h.ok _ (List.getElem_mem hi)).w
  unfold Rt.key at h1
  generalize l[i].w = u at *
  generalize l[j].w = v at *
  omega
theorem RI.range {l : List Rt} (h : RI l) (i : Nat) (hi : i < l.length) : 0 ≤ l[i].b ∧ l[i].b ≤ 32 := by
  have := h.g _ (List.getElem_mem hi)
  unfold okR at this
  simp only [Bool.and_eq_true, decide_eq_true_eq] at this
  exact ⟨this.1, this.2.1⟩
/-- The bits that the law has seen behind i rounds: at least those of the route by which a host is had. -/
structure BI2 where
  i : Nat
  b : Int
theorem routeFinds_ok (l : List Rt) (hL : (l.length : Int) ≤ 9223372036854775807) (hok : ∀ r ∈ l, r.Ok) (t : Ip) (ht : t.Ok) : ACall Try.prog 3 [.sl false 9 (l.map rt), .agg t.l] (.bool true) [] := by
  have hlv := lives_ok
  have el := rt_len l
  have cr := rright_ok l hL hok
  cases hr : rightB l
  · rw [hr] at cr
    unfold Ip.l
    refine acall_walk (N := 100) Try.func3 (by kernel_rfl) p_caravellaw14_RouteFinds rfl ?_; unfold c_caravellaw14_RouteFinds; dsimp only [enum, Nat.reduceAdd]
    (repeat (first | ((with_reducible show RG _ _ (_ :: _) _ _ _); refine RG.go1 (k := ?_)) | ((with_reducible show DG _ _ (_ :: _) _ _ _ _ _); refine DG.go1 (k := ?_)) | with_reducible apply RG.nil | with_reducible apply W.seq | with_reducible apply W.reg | with_reducible apply W.skip | with_reducible apply W.block | with_reducible apply W.drw | with_reducible apply DG.nil | (with_reducible refine W.done (QB.n ?_)) | refine W.cndT ?_ | refine W.cndF ?_))
    (first | ((with_reducible show RG _ _ (_ :: _) _ _ _); refine RG.ca (hlv) (k := ?_)) | ((with_reducible show DG _ _ (_ :: _) _ _ _ _ _); refine DG.ca (hlv) (k := ?_)))
    (repeat (first | ((with_reducible show RG _ _ (_ :: _) _ _ _); refine RG.go1 (k := ?_)) | ((with_reducible show DG _ _ (_ :: _) _ _ _ _ _); refine DG.go1 (k := ?_)) | with_reducible apply RG.nil | with_reducible apply W.seq | with_reducible apply W.reg | with_reducible apply W.skip | with_reducible apply W.block | with_reducible apply W.drw | with_reducible apply DG.nil | (with_reducible refine W.done (QB.n ?_)) | refine W.cndT ?_ | refine W.cndF ?_))
    (first | ((with_reducible show RG _ _ (_ :: _) _ _ _); refine RG.gca (fun _ => cr) (k := ?_)) | ((with_reducible show DG _ _ (_ :: _) _ _ _ _ _); refine DG.gca (fun _ => cr) (k := ?_)))
    (repeat (first | ((with_reducible show RG _ _ (_ :: _) _ _ _); refine RG.go1 (k := ?_)) | ((with_reducible show DG _ _ (_ :: _) _ _ _ _ _); refine DG.go1 (k := ?_)) | with_reducible apply RG.nil | with_reducible apply W.seq | with_reducible apply W.reg | with_reducible apply W.skip | with_reducible apply W.block | with_reducible apply W.drw | with_reducible apply DG.nil | (with_reducible refine W.done (QB.n ?_)) | refine W.cndT ?_ | refine W.cndF ?_))
    (first | ((with_reducible show RG _ _ (_ :: _) _ _ _); refine RG.ca (hlv) (k := ?_)) | ((with_reducible show DG _ _ (_ :: _) _ _ _ _ _); refine DG.ca (hlv) (k := ?_)))
    (repeat (first | ((with_reducible show RG _ _ (_ :: _) _ _ _); refine RG.go1 (k := ?_)) | ((with_reducible show DG _ _ (_ :: _) _ _ _ _ _); refine DG.go1 (k := ?_)) | with_reducible apply RG.nil | with_reducible apply W.seq | with_reducible apply W.reg | with_reducible apply W.skip | with_reducible apply W.block | with_reducible apply W.drw | with_reducible apply DG.nil | (with_reducible refine W.done (QB.n ?_)) | refine W.cndT ?_ | refine W.cndF ?_))
    (refine W.ret ?_; (repeat (with_reducible first | refine QB.r ?_ | refine QL.r ?_ | refine QC.r ?_)); refine QF.r ?_)
    exact RetOk.rs (vs := [_]) r_caravellaw14_RouteFinds []
  rw [hr] at cr
  have hR := right_RI hok hr
  have hl : l.length ≤ 1000 := by have := hR.n; omega
  have c1 := find_ok l hl hok t ht
  have c2 := rfind_ok l hl hok hR.bits t ht
  obtain ⟨F, hF⟩ : ∃ F, ans t (l.find? (wi t)) = F := ⟨_, rfl⟩
  rw [hF] at c1 c2
  have hqs := ipB_qs F.ip
  unfold faV at c1 c2
  unfold Ip.l at c1 c2 ⊢
  have hn8 := hR.n
  -- the route that is found, or none
  obtain ⟨j0, hj0, hj1, hF2⟩ : ∃ j0 : Nat, j0 ≤ l.length ∧ (∀ (j : Nat) (hj : j < l.length), j < j0 → wi t l[j] = false) ∧ ((j0 = l.length ∧ F.e = 15) ∨ (∃ h : j0 < l.length, F = ansR t l[j0] ∧ F.e = 0 ∧ wi t l[j0] = true)) := by
    cases hf : l.find? (wi t) with
    | none =>
      rw [hf] at hF
      refine ⟨l.length, Nat.le_refl _, fun j hj _ => ?_, .inl ⟨rfl, by rw [← hF]; rfl⟩⟩
      rw [List.find?_eq_none] at hf
      have := hf _ (List.getElem_mem hj)
      simpa using this
    | some r =>
      rw [hf] at hF
      rw [List.find?_eq_some_iff_getElem] at hf
      obtain ⟨h1, i, hi, rfl, h2⟩ := hf
      refine ⟨i, by omega, fun j hj hji => by simpa using h2 j hji, .inr ⟨hi, hF.symm, ?_, h1⟩⟩
      rw [← hF]; show (ansR t l[i]).e = 0; unfold ansR; split <;> rfl
  have hBB : ∀ (h : j0 < l.length), F.e = 0 → F = ansR t l[j0] ∧ wi t l[j0] = true := fun h e => by
    rcases hF2 with ⟨q, _⟩ | ⟨_, q, _, q3⟩
    · omega
    · exact ⟨q, q3⟩
  have hE0 : (j0 = l.length ∧ F.e = 15) ∨ (j0 < l.length ∧ F.e = 0) := by
    rcases hF2 with q | ⟨q, _, q2, _⟩
    · exact .inl q
    · exact .inr ⟨q, q2⟩
  clear hF2 hF cr
  have cr := rright_ok l hL hok
  rw [hr] at cr
  obtain ⟨B0, hB0⟩ : ∃ B0 : Int, B0 = (l.getD j0 ⟨0, 0, 0, 0, -1, 0, 0, 0, 0⟩).b := ⟨_, rfl⟩
  have hB1 : -1 ≤ B0 ∧ B0 ≤ 32 := by
    rw [hB0, List.getD_eq_getElem?_getD]
    by_cases q : j0 < l.length
    · rw [List.getElem?_eq_getElem q]
      have := hR.range j0 q
      show -1 ≤ l[j0].b ∧ l[j0].b ≤ 32
      omega
    · rw [List.getElem?_eq_none (by omega)]; decide
  have hB2 : ∀ h : j0 < l.length, l[j0].b = B0 := fun h => by rw [hB0, List.getD_eq_getElem?_getD, List.getElem?_eq_getElem h]; rfl
  have hB3 : j0 = l.length → B0 = -1 := fun h => by rw [hB0, List.getD_eq_getElem?_getD, List.getElem?_eq_none (by omega)]; rfl
  have hB4 : ∀ (i : Nat) (hi : i < l.length), wi t l[i] = true → l[i].b ≤ B0 := fun i hi hw => by
    rcases Nat.lt_trichotomy i j0 with q | q | q
    · rw [hj1 i hi q] at hw; cases hw
    · subst q; rw [hB2 hi]; exact Int.le_refl _
    · rw [← hB2 (by omega)]; exact hR.bits j0 i (by omega) hi q
  clear hB0
  refine acall_walk (N := 100) Try.func3 (by kernel_rfl) p_caravellaw14_RouteFinds rfl ?_; unfold c_caravellaw14_RouteFinds; dsimp only [enum, Nat.reduceAdd]
  (repeat (first | ((with_reducible show RG _ _ (_ :: _) _ _ _); refine RG.go1 (k := ?_)) | ((with_reducible show DG _ _ (_ :: _) _ _ _ _ _); refine DG.go1 (k := ?_)) | with_reducible apply RG.nil | with_reducible apply W.seq | with_reducible apply W.reg | with_reducible apply W.skip | with_reducible apply W.block | with_reducible apply W.drw | with_reducible apply DG.nil | (with_reducible refine W.done (QB.n ?_)) | refine W.cndT ?_ | refine W.cndF ?_))
  (first | ((with_reducible show RG _ _ (_ :: _) _ _ _); refine RG.ca (hlv) (k := ?_)) | ((with_reducible show DG _ _ (_ :: _) _ _ _ _ _); refine DG.ca (hlv) (k := ?_)))
  (repeat (first | ((with_reducible show RG _ _ (_ :: _) _ _ _); refine RG.go1 (k := ?_)) | ((with_reducible show DG _ _ (_ :: _) _ _ _ _ _); refine DG.go1 (k := ?_)) | with_reducible apply RG.nil | with_reducible apply W.seq | with_reducible apply W.reg | with_reducible apply W.skip | with_reducible apply W.block | with_reducible apply W.drw | with_reducible apply DG.nil | (with_reducible refine W.done (QB.n ?_)) | refine W.cndT ?_ | refine W.cndF ?_))
  (first | ((with_reducible show RG _ _ (_ :: _) _ _ _); refine RG.gca (fun _ => cr) (k := ?_)) | ((with_reducible show DG _ _ (_ :: _) _ _ _ _ _); refine DG.gca (fun _ => cr) (k := ?_)))
  (repeat (first | ((with_reducible show RG _ _ (_ :: _) _ _ _); refine RG.go1 (k := ?_)) | ((with_reducible show DG _ _ (_ :: _) _ _ _ _ _); refine DG.go1 (k := ?_)) | with_reducible apply RG.nil | with_reducible apply W.seq | with_reducible apply W.reg | with_reducible apply W.skip | with_reducible apply W.block | with_reducible apply W.drw | with_reducible apply DG.nil | (with_reducible refine W.done (QB.n ?_)) | refine W.cndT ?_ | refine W.cndF ?_))
  (first | ((with_reducible show RG _ _ (_ :: _) _ _ _); refine RG.ca (c1) (k := ?_)) | ((with_reducible show DG _ _ (_ :: _) _ _ _ _ _); refine DG.ca (c1) (k := ?_)))
  (repeat (first | ((with_reducible show RG _ _ (_ :: _) _ _ _); refine RG.go1 (k := ?_)) | ((with_reducible show DG _ _ (_ :: _) _ _ _ _ _); refine DG.go1 (k := ?_)) | with_reducible apply RG.nil | with_reducible apply W.seq | with_reducible apply W.reg | with_reducible apply W.skip | with_reducible apply W.block | with_reducible apply W.drw | with_reducible apply DG.nil | (with_reducible refine W.done (QB.n ?_)) | refine W.cndT ?_ | refine W.cndF ?_))
  (first | ((with_reducible show RG _ _ (_ :: _) _ _ _); refine RG.ca (c2) (k := ?_)) | ((with_reducible show DG _ _ (_ :: _) _ _ _ _ _); refine DG.ca (c2) (k := ?_)))
  (repeat (first | ((with_reducible show RG _ _ (_ :: _) _ _ _); refine RG.go1 (k := ?_)) | ((with_reducible show DG _ _ (_ :: _) _ _ _ _ _); refine DG.go1 (k := ?_)) | with_reducible apply RG.nil | with_reducible apply W.seq | with_reducible apply W.reg | with_reducible apply W.skip | with_reducible apply W.block | with_reducible apply W.drw | with_reducible apply DG.nil | (with_reducible refine W.done (QB.n ?_)) | refine W.cndT ?_ | refine W.cndF ?_))
  refine W.loop (ι := {q : BI2 // q.i ≤ l.length ∧ (-1 ≤ q.b ∧ q.b ≤ 32) ∧ q.b ≤ B0 ∧ (j0 < q.i → B0 ≤ q.b)}) (fun q => ⟨[(44, .int .i64 q.1.i), (43, .int .i64 l.length), (42, .sl false 9 (l.map rt)), (9, .int .i64 q.1.b), (6, .int .i64 F.e), (0, .sl false 9 (l.map rt)), (3, .aptr 0 4), (5, .aptr 1 4)], [], [some ⟨false, 1, [.int .u8 t.a0, .int .u8 t.a1, .int .u8 t.a2, .int .u8 t.a3]⟩, some ⟨false, 1, [.int .u8 F.ip.a0, .int .u8 F.ip.a1, .int .u8 F.ip.a2, .int .u8 F.ip.a3]⟩], 0, 2⟩) (fun q => l.length - q.1.i) ⟨⟨0, -1⟩, Nat.zero_le _, by decide, hB1.1, fun h => absurd h (Nat.not_lt_zero _)⟩ ?_ ?_
  · dsimp only
    rw [el]
    exact Wk.rn ([] ) ( [0, 1])
  rintro ⟨⟨i, b⟩, hi, hb, hb0, hn⟩
  dsimp only at hi hb hb0 hn ⊢
  (repeat (first | ((with_reducible show RG _ _ (_ :: _) _ _ _); refine RG.go1 (k := ?_)) | ((with_reducible show DG _ _ (_ :: _) _ _ _ _ _); refine DG.go1 (k := ?_)) | with_reducible apply RG.nil | with_reducible apply W.seq | with_reducible apply W.reg | with_reducible apply W.skip | with_reducible apply W.block | with_reducible apply W.drw | with_reducible apply DG.nil | (with_reducible refine W.done (QB.n ?_))))
  refine W.cnd (fun h1 => ?_) (fun h1 => ?_)
  · have hlt : i < l.length := by simp at h1; omega
    have hE := rt_at l i hlt (j := ((i : Nat) : Int).toNat) (by simp)
    have hrk := hok _ (List.getElem_mem hlt)
    have hrg := hR.range i hlt
    have hb4 := hB4 i hlt
    have hij : i = j0 → l[i].b = B0 ∧ hadBy t F.ip l[i] = true ∧ wi t l[i] = true := fun q => by
      subst q
      refine ⟨hB2 hlt, ?_⟩
      rcases hE0 with ⟨q, _⟩ | ⟨_, q⟩
      · omega
      · have := hBB hlt q
        exact ⟨by rw [this.1]; exact had_self t _, this.2⟩
    clear h1
    generalize l[i] = r at hE hrk hrg hb4 hij
    have cw := wiR_ok ht hrk
    have hq1 := viaB_q r F.ip
    have hq2 := viaZ_q r
    have hq3 := ipB_q F.ip t
    unfold hadBy at hij
    cases hw : wi t r
    · rw [hw] at cw
      have hn2 : j0 < i + 1 → B0 ≤ b := fun q => by
        rcases Nat.lt_or_ge j0 i with g | g
        · exact hn g
        · have := (hij (by omega)).2.2; rw [hw] at this; cases this
      (repeat (first | ((with_reducible show RG _ _ (_ :: _) _ _ _); refine RG.go1 (k := ?_)) | ((with_reducible show DG _ _ (_ :: _) _ _ _ _ _); refine DG.go1 (k := ?_)) | with_reducible apply RG.nil | with_reducible apply W.seq | with_reducible apply W.reg | with_reducible apply W.skip | with_reducible apply W.block | with_reducible apply W.drw | with_reducible apply DG.nil | (with_reducible refine W.done (QB.n ?_)) | refine W.cndT ?_ | refine W.cndF ?_))
      (first | ((with_reducible show RG _ _ (_ :: _) _ _ _); refine RG.ew (cptr_of (hE) (by (conv => lhs; whnf) <;> exact rfl)) (k := ?_)) | ((with_reducible show DG _ _ (_ :: _) _ _ _ _ _); refine DG.ew (cptr_of (hE) (by (conv => lhs; whnf) <;> exact rfl)) (k := ?_)))
      (repeat (first | ((with_reducible show RG _ _ (_ :: _) _ _ _); refine RG.go1 (k := ?_)) | ((with_reducible show DG _ _ (_ :: _) _ _ _ _ _); refine DG.go1 (k := ?_)) | with_reducible apply RG.nil | with_reducible apply W.seq | with_reducible apply W.reg | with_reducible apply W.skip | with_reducible apply W.block | with_reducible apply W.drw | with_reducible apply DG.nil | (with_reducible refine W.done (QB.n ?_)) | refine W.cndT ?_ | refine W.cndF ?_))
      (first | ((with_reducible show RG _ _ (_ :: _) _ _ _); refine RG.ca (cw) (k := ?_)) | ((with_reducible show DG _ _ (_ :: _) _ _ _ _ _); refine DG.ca (cw) (k := ?_)))
      (repeat (first | ((with_reducible show RG _ _ (_ :: _) _ _ _); refine RG.go1 (k := ?_)) | ((with_reducible show DG _ _ (_ :: _) _ _ _ _ _); refine DG.go1 (k := ?_)) | with_reducible apply RG.nil | with_reducible apply W.seq | with_reducible apply W.reg | with_reducible apply W.skip | with_reducible apply W.block | with_reducible apply W.drw | with_reducible apply DG.nil | (with_reducible refine W.done (QB.n ?_)) | refine W.cndT ?_ | refine W.cndF ?_))
      refine W.done (QL.n (⟨⟨i + 1, b⟩, by dsimp only; omega, by dsimp only; omega, by dsimp only; omega, hn2⟩) ?_ ?_)
      · exact Wk.rn ([] ) ( [0, 1])
      · dsimp only; omega
    · rw [hw] at cw
      have hb4 := hb4 hw
      cases x1 : viaB r F.ip
      · rw [x1] at hq1
        cases x2 : viaZ r
        · rw [x2] at hq2
          have hn2 : j0 < i + 1 → B0 ≤ b := fun q => by
            rcases Nat.lt_or_ge j0 i with g | g
            · exact hn g
            · have := (hij (by omega)).2.1; rw [x1, x2] at this; cases this
          (repeat (first | ((with_reducible show RG _ _ (_ :: _) _ _ _); refine RG.go1 (k := ?_)) | ((with_reducible show DG _ _ (_ :: _) _ _ _ _ _); refine DG.go1 (k := ?_)) | with_reducible apply RG.nil | with_reducible apply W.seq | with_reducible apply W.reg | with_reducible apply W.skip | with_reducible apply W.block | with_reducible apply W.drw | with_reducible apply DG.nil | (with_reducible refine W.done (QB.n ?_)) | refine W.cndT ?_ | refine W.cndF ?_))
          (first | ((with_reducible show RG _ _ (_ :: _) _ _ _); refine RG.ew (cptr_of (hE) (by (conv => lhs; whnf) <;> exact rfl)) (k := ?_)) | ((with_reducible show DG _ _ (_ :: _) _ _ _ _ _); refine DG.ew (cptr_of (hE) (by (conv => lhs; whnf) <;> exact rfl)) (k := ?_)))
          (repeat (first | ((with_reducible show RG _ _ (_ :: _) _ _ _); refine RG.go1 (k := ?_)) | ((with_reducible show DG _ _ (_ :: _) _ _ _ _ _); refine DG.go1 (k := ?_)) | with_reducible apply RG.nil | with_reducible apply W.seq | with_reducible apply W.reg | with_reducible apply W.skip | with_reducible apply W.block | with_reducible apply W.drw | with_reducible apply DG.nil | (with_reducible refine W.done (QB.n ?_)) | refine W.cndT ?_ | refine W.cndF ?_))
          (first | ((with_reducible show RG _ _ (_ :: _) _ _ _); refine RG.ca (cw) (k := ?_)) | ((with_reducible show DG _ _ (_ :: _) _ _ _ _ _); refine DG.ca (cw) (k := ?_)))
          (repeat (first | ((with_reducible show RG _ _ (_ :: _) _ _ _); refine RG.go1 (k := ?_)) | ((with_reducible show DG _ _ (_ :: _) _ _ _ _ _); refine DG.go1 (k := ?_)) | with_reducible apply RG.nil | with_reducible apply W.seq | with_reducible apply W.reg | with_reducible apply W.skip | with_reducible apply W.block | with_reducible apply W.drw | with_reducible apply DG.nil | (with_reducible refine W.done (QB.n ?_)) | refine W.cndT ?_ | refine W.cndF ?_))
          (first | ((with_reducible show RG _ _ (_ :: _) _ _ _); refine RG.ewg (rfl) (k := ?_)) | ((with_reducible show DG _ _ (_ :: _) _ _ _ _ _); refine DG.ewg (rfl) (k := ?_)))
          (repeat (first | ((with_reducible show RG _ _ (_ :: _) _ _ _); refine RG.go1 (k := ?_)) | ((with_reducible show DG _ _ (_ :: _) _ _ _ _ _); refine DG.go1 (k := ?_)) | with_reducible apply RG.nil | with_reducible apply W.seq | with_reducible apply W.reg | with_reducible apply W.skip | with_reducible apply W.block | with_reducible apply W.drw | with_reducible apply DG.nil | (with_reducible refine W.done (QB.n ?_)) | refine W.cndT ?_ | refine W.cndF ?_))
          refine W.done (QL.n (⟨⟨i + 1, b⟩, by dsimp only; omega, by dsimp only; omega, by dsimp only; omega, hn2⟩) ?_ ?_)
          · exact Wk.rn ([] ) ( [0, 1])
          · dsimp only; omega
        · rw [x2] at hq2
          cases x3 : ipB F.ip t
          · rw [x3] at hq3
            have hn2 : j0 < i + 1 → B0 ≤ b := fun q => by
              rcases Nat.lt_or_ge j0 i with g | g
              · exact hn g
              · have := (hij (by omega)).2.1; rw [x1, x2, x3] at this; cases this
            (repeat (first | ((with_reducible show RG _ _ (_ :: _) _ _ _); refine RG.go1 (k := ?_)) | ((with_reducible show DG _ _ (_ :: _) _ _ _ _ _); refine DG.go1 (k := ?_)) | with_reducible apply RG.nil | with_reducible apply W.seq | with_reducible apply W.reg | with_reducible apply W.skip | with_reducible apply W.block | with_reducible apply W.drw | with_reducible apply DG.nil | (with_reducible refine W.done (QB.n ?_)) | refine W.cndT ?_ | refine W.cndF ?_))
            (first | ((with_reducible show RG _ _ (_ :: _) _ _ _); refine RG.ew (cptr_of (hE) (by (conv => lhs; whnf) <;> exact rfl)) (k := ?_)) | ((with_reducible show DG _ _ (_ :: _) _ _ _ _ _); refine DG.ew (cptr_of (hE) (by (conv => lhs; whnf) <;> exact rfl)) (k := ?_)))
            (repeat (first | ((with_reducible show RG _ _ (_ :: _) _ _ _); refine RG.go1 (k := ?_)) | ((with_reducible show DG _ _ (_ :: _) _ _ _ _ _); refine DG.go1 (k := ?_)) | with_reducible apply RG.nil | with_reducible apply W.seq | with_reducible apply W.reg | with_reducible apply W.skip | with_reducible apply W.block | with_reducible apply W.drw | with_reducible apply DG.nil | (with_reducible refine W.done (QB.n ?_)) | refine W.cndT ?_ | refine W.cndF ?_))
            (first | ((with_reducible show RG _ _ (_ :: _) _ _ _); refine RG.ca (cw) (k := ?_)) | ((with_reducible show DG _ _ (_ :: _) _ _ _ _ _); refine DG.ca (cw) (k := ?_)))
            (repeat (first | ((with_reducible show RG _ _ (_ :: _) _ _ _); refine RG.go1 (k := ?_)) | ((with_reducible show DG _ _ (_ :: _) _ _ _ _ _); refine DG.go1 (k := ?_)) | with_reducible apply RG.nil | with_reducible apply W.seq | with_reducible apply W.reg | with_reducible apply W.skip | with_reducible apply W.block | with_reducible apply W.drw | with_reducible apply DG.nil | (with_reducible refine W.done (QB.n ?_)) | refine W.cndT ?_ | refine W.cndF ?_))
            (first | ((with_reducible show RG _ _ (_ :: _) _ _ _); refine RG.ewg (rfl) (k := ?_)) | ((with_reducible show DG _ _ (_ :: _) _ _ _ _ _); refine DG.ewg (rfl) (k := ?_)))
            (repeat (first | ((with_reducible show RG _ _ (_ :: _) _ _ _); refine RG.go1 (k := ?_)) | ((with_reducible show DG _ _ (_ :: _) _ _ _ _ _); refine DG.go1 (k := ?_)) | with_reducible apply RG.nil | with_reducible apply W.seq | with_reducible apply W.reg | with_reducible apply W.skip | with_reducible apply W.block | with_reducible apply W.drw | with_reducible apply DG.nil | (with_reducible refine W.done (QB.n ?_)) | refine W.cndT ?_ | refine W.cndF ?_))
            refine W.done (QL.n (⟨⟨i + 1, b⟩, by dsimp only; omega, by dsimp only; omega, by dsimp only; omega, hn2⟩) ?_ ?_)
            · exact Wk.rn ([] ) ( [0, 1])
            · dsimp only; omega
          · rw [x3] at hq3
            have hn2 : j0 < i + 1 → B0 ≤ max b r.b := fun q => by
              rcases Nat.lt_or_ge j0 i with g | g
              · have := hn g; omega
              · have := (hij (by omega)).1; omega
            (repeat (first | ((with_reducible show RG _ _ (_ :: _) _ _ _); refine RG.go1 (k := ?_)) | ((with_reducible show DG _ _ (_ :: _) _ _ _ _ _); refine DG.go1 (k := ?_)) | with_reducible apply RG.nil | with_reducible apply W.seq | with_reducible apply W.reg | with_reducible apply W.skip | with_reducible apply W.block | with_reducible apply W.drw | with_reducible apply DG.nil | (with_reducible refine W.done (QB.n ?_)) | refine W.cndT ?_ | refine W.cndF ?_))
            (first | ((with_reducible show RG _ _ (_ :: _) _ _ _); refine RG.ew (cptr_of (hE) (by (conv => lhs; whnf) <;> exact rfl)) (k := ?_)) | ((with_reducible show DG _ _ (_ :: _) _ _ _ _ _); refine DG.ew (cptr_of (hE) (by (conv => lhs; whnf) <;> exact rfl)) (k := ?_)))
            (repeat (first | ((with_reducible show RG _ _ (_ :: _) _ _ _); refine RG.go1 (k := ?_)) | ((with_reducible show DG _ _ (_ :: _) _ _ _ _ _); refine DG.go1 (k := ?_)) | with_reducible apply RG.nil | with_reducible apply W.seq | with_reducible apply W.reg | with_reducible apply W.skip | with_reducible apply W.block | with_reducible apply W.drw | with_reducible apply DG.nil | (with_reducible refine W.done (QB.n ?_)) | refine W.cndT ?_ | refine W.cndF ?_))
            (first | ((with_reducible show RG _ _ (_ :: _) _ _ _); refine RG.ca (cw) (k := ?_)) | ((with_reducible show DG _ _ (_ :: _) _ _ _ _ _); refine DG.ca (cw) (k := ?_)))
            (repeat (first | ((with_reducible show RG _ _ (_ :: _) _ _ _); refine RG.go1 (k := ?_)) | ((with_reducible show DG _ _ (_ :: _) _ _ _ _ _); refine DG.go1 (k := ?_)) | with_reducible apply RG.nil | with_reducible apply W.seq | with_reducible apply W.reg | with_reducible apply W.skip | with_reducible apply W.block | with_reducible apply W.drw | with_reducible apply DG.nil | (with_reducible refine W.done (QB.n ?_)) | refine W.cndT ?_ | refine W.cndF ?_))
            (first | ((with_reducible show RG _ _ (_ :: _) _ _ _); refine RG.ewg (rfl) (k := ?_)) | ((with_reducible show DG _ _ (_ :: _) _ _ _ _ _); refine DG.ewg (rfl) (k := ?_)))
            (repeat (first | ((with_reducible show RG _ _ (_ :: _) _ _ _); refine RG.go1 (k := ?_)) | ((with_reducible show DG _ _ (_ :: _) _ _ _ _ _); refine DG.go1 (k := ?_)) | with_reducible apply RG.nil | with_reducible apply W.seq | with_reducible apply W.reg | with_reducible apply W.skip | with_reducible apply W.block | with_reducible apply W.drw | with_reducible apply DG.nil | (with_reducible refine W.done (QB.n ?_)) | refine W.cndT ?_ | refine W.cndF ?_))
            refine W.done (QL.n (⟨⟨i + 1, max b r.b⟩, by dsimp only; omega, by dsimp only; omega, by dsimp only; omega, hn2⟩) ?_ ?_)
            · exact Wk.rn ([] ) ( [0, 1])
            · dsimp only; omega
      · rw [x1] at hq1
        have hn2 : j0 < i + 1 → B0 ≤ max b r.b := fun q => by
          rcases Nat.lt_or_ge j0 i with g | g
          · have := hn g; omega
          · have := (hij (by omega)).1; omega
        (repeat (first | ((with_reducible show RG _ _ (_ :: _) _ _ _); refine RG.go1 (k := ?_)) | ((with_reducible show DG _ _ (_ :: _) _ _ _ _ _); refine DG.go1 (k := ?_)) | with_reducible apply RG.nil | with_reducible apply W.seq | with_reducible apply W.reg | with_reducible apply W.skip | with_reducible apply W.block | with_reducible apply W.drw | with_reducible apply DG.nil | (with_reducible refine W.done (QB.n ?_)) | refine W.cndT ?_ | refine W.cndF ?_))
        (first | ((with_reducible show RG _ _ (_ :: _) _ _ _); refine RG.ew (cptr_of (hE) (by (conv => lhs; whnf) <;> exact rfl)) (k := ?_)) | ((with_reducible show DG _ _ (_ :: _) _ _ _ _ _); refine DG.ew (cptr_of (hE) (by (conv => lhs; whnf) <;> exact rfl)) (k := ?_)))
        (repeat (first | ((with_reducible show RG _ _ (_ :: _) _ _ _); refine RG.go1 (k := ?_)) | ((with_reducible show DG _ _ (_ :: _) _ _ _ _ _); refine DG.go1 (k := ?_)) | with_reducible apply RG.nil | with_reducible apply W.seq | with_reducible apply W.reg | with_reducible apply W.skip | with_reducible apply W.block | with_reducible apply W.drw | with_reducible apply DG.nil | (with_reducible refine W.done (QB.n ?_)) | refine W.cndT ?_ | refine W.cndF ?_))
        (first | ((with_reducible show RG _ _ (_ :: _) _ _ _); refine RG.ca (cw) (k := ?_)) | ((with_reducible show DG _ _ (_ :: _) _ _ _ _ _); refine DG.ca (cw) (k := ?_)))
        (repeat (first | ((with_reducible show RG _ _ (_ :: _) _ _ _); refine RG.go1 (k := ?_)) | ((with_reducible show DG _ _ (_ :: _) _ _ _ _ _); refine DG.go1 (k := ?_)) | with_reducible apply RG.nil | with_reducible apply W.seq | with_reducible apply W.reg | with_reducible apply W.skip | with_reducible apply W.block | with_reducible apply W.drw | with_reducible apply DG.nil | (with_reducible refine W.done (QB.n ?_)) | refine W.cndT ?_ | refine W.cndF ?_))
        refine W.done (QL.n (⟨⟨i + 1, max b r.b⟩, by dsimp only; omega, by dsimp only; omega, by dsimp only; omega, hn2⟩) ?_ ?_)
        · exact Wk.rn ([] ) ( [0, 1])
        · dsimp only; omega
  have hil : i = l.length := by simp at h1; omega
  have hbB : b = B0 := by
    rcases hE0 with ⟨q, _⟩ | ⟨q, _⟩
    · have := hB3 q; omega
    · have := hn (by omega); omega
  subst hbB
  clear h1
  (refine W.exit ?_; (repeat (first | (with_reducible first | refine QL.x ?_ | refine QC.x ?_ | refine QB.x ?_) | (with_reducible refine QB.o (by decide) ?_))))
  (repeat (first | ((with_reducible show RG _ _ (_ :: _) _ _ _); refine RG.go1 (k := ?_)) | ((with_reducible show DG _ _ (_ :: _) _ _ _ _ _); refine DG.go1 (k := ?_)) | with_reducible apply RG.nil | with_reducible apply W.seq | with_reducible apply W.reg | with_reducible apply W.skip | with_reducible apply W.block | with_reducible apply W.drw | with_reducible apply DG.nil | (with_reducible refine W.done (QB.n ?_)) | refine W.cndT ?_ | refine W.cndF ?_))
  refine W.loop (ι := {i : Nat // i ≤ l.length}) (fun i => ⟨[(78, .int .i64 i.1), (77, .int .i64 l.length), (76, .sl false 9 (l.map rt)), (9, .int .i64 b), (6, .int .i64 F.e), (0, .sl false 9 (l.map rt)), (3, .aptr 0 4), (5, .aptr 1 4)], [], [some ⟨false, 1, [.int .u8 t.a0, .int .u8 t.a1, .int .u8 t.a2, .int .u8 t.a3]⟩, some ⟨false, 1, [.int .u8 F.ip.a0, .int .u8 F.ip.a1, .int .u8 F.ip.a2, .int .u8 F.ip.a3]⟩], 0, 2⟩) (fun i => l.length - i.1) ⟨0, Nat.zero_le _⟩ ?_ ?_
  · dsimp only
    rw [el]
    exact Wk.rn ([] ) ( [0, 1])
  rintro ⟨k, hk⟩
  dsimp only
  (repeat (first | ((with_reducible show RG _ _ (_ :: _) _ _ _); refine RG.go1 (k := ?_)) | ((with_reducible show DG _ _ (_ :: _) _ _ _ _ _); refine DG.go1 (k := ?_)) | with_reducible apply RG.nil | with_reducible apply W.seq | with_reducible apply W.reg | with_reducible apply W.skip | with_reducible apply W.block | with_reducible apply W.drw | with_reducible apply DG.nil | (with_reducible refine W.done (QB.n ?_))))
  refine W.cnd (fun h1 => ?_) (fun h1 => ?_)
  · have hlt : k < l.length := by simp at h1; omega
    have hE := rt_at l k hlt (j := ((k : Nat) : Int).toNat) (by simp)
    have hrk := hok _ (List.getElem_mem hlt)
    have hb4 := hB4 k hlt
    clear h1
    generalize l[k] = r at hE hrk hb4
    have cw := wiR_ok ht hrk
    cases hw : wi t r
    · rw [hw] at cw
      (repeat (first | ((with_reducible show RG _ _ (_ :: _) _ _ _); refine RG.go1 (k := ?_)) | ((with_reducible show DG _ _ (_ :: _) _ _ _ _ _); refine DG.go1 (k := ?_)) | with_reducible apply RG.nil | with_reducible apply W.seq | with_reducible apply W.reg | with_reducible apply W.skip | with_reducible apply W.block | with_reducible apply W.drw | with_reducible apply DG.nil | (with_reducible refine W.done (QB.n ?_)) | refine W.cndT ?_ | refine W.cndF ?_))
      (first | ((with_reducible show RG _ _ (_ :: _) _ _ _); refine RG.ew (cptr_of (hE) (by (conv => lhs; whnf) <;> exact rfl)) (k := ?_)) | ((with_reducible show DG _ _ (_ :: _) _ _ _ _ _); refine DG.ew (cptr_of (hE) (by (conv => lhs; whnf) <;> exact rfl)) (k := ?_)))
      (repeat (first | ((with_reducible show RG _ _ (_ :: _) _ _ _); refine RG.go1 (k := ?_)) | ((with_reducible show DG _ _ (_ :: _) _ _ _ _ _); refine DG.go1 (k := ?_)) | with_reducible apply RG.nil | with_reducible apply W.seq | with_reducible apply W.reg | with_reducible apply W.skip | with_reducible apply W.block | with_reducible apply W.drw | with_reducible apply DG.nil | (with_reducible refine W.done (QB.n ?_)) | refine W.cndT ?_ | refine W.cndF ?_))
      (first | ((with_reducible show RG _ _ (_ :: _) _ _ _); refine RG.ca (cw) (k := ?_)) | ((with_reducible show DG _ _ (_ :: _) _ _ _ _ _); refine DG.ca (cw) (k := ?_)))
      (repeat (first | ((with_reducible show RG _ _ (_ :: _) _ _ _); refine RG.go1 (k := ?_)) | ((with_reducible show DG _ _ (_ :: _) _ _ _ _ _); refine DG.go1 (k := ?_)) | with_reducible apply RG.nil | with_reducible apply W.seq | with_reducible apply W.reg | with_reducible apply W.skip | with_reducible apply W.block | with_reducible apply W.drw | with_reducible apply DG.nil | (with_reducible refine W.done (QB.n ?_)) | refine W.cndT ?_ | refine W.cndF ?_))
      refine W.done (QL.n (⟨k + 1, by omega⟩) ?_ ?_)
      · exact Wk.rn ([] ) ( [0, 1])
      · dsimp only; omega
    · rw [hw] at cw
      have hb4 := hb4 hw
      (repeat (first | ((with_reducible show RG _ _ (_ :: _) _ _ _); refine RG.go1 (k := ?_)) | ((with_reducible show DG _ _ (_ :: _) _ _ _ _ _); refine DG.go1 (k := ?_)) | with_reducible apply RG.nil | with_reducible apply W.seq | with_reducible apply W.reg | with_reducible apply W.skip | with_reducible apply W.block | with_reducible apply W.drw | with_reducible apply DG.nil | (with_reducible refine W.done (QB.n ?_)) | refine W.cndT ?_ | refine W.cndF ?_))
      (first | ((with_reducible show RG _ _ (_ :: _) _ _ _); refine RG.ew (cptr_of (hE) (by (conv => lhs; whnf) <;> exact rfl)) (k := ?_)) | ((with_reducible show DG _ _ (_ :: _) _ _ _ _ _); refine DG.ew (cptr_of (hE) (by (conv => lhs; whnf) <;> exact rfl)) (k := ?_)))
      (repeat (first | ((with_reducible show RG _ _ (_ :: _) _ _ _); refine RG.go1 (k := ?_)) | ((with_reducible show DG _ _ (_ :: _) _ _ _ _ _); refine DG.go1 (k := ?_)) | with_reducible apply RG.nil | with_reducible apply W.seq | with_reducible apply W.reg | with_reducible apply W.skip | with_reducible apply W.block | with_reducible apply W.drw | with_reducible apply DG.nil | (with_reducible refine W.done (QB.n ?_)) | refine W.cndT ?_ | refine W.cndF ?_))
      (first | ((with_reducible show RG _ _ (_ :: _) _ _ _); refine RG.ca (cw) (k := ?_)) | ((with_reducible show DG _ _ (_ :: _) _ _ _ _ _); refine DG.ca (cw) (k := ?_)))
      (repeat (first | ((with_reducible show RG _ _ (_ :: _) _ _ _); refine RG.go1 (k := ?_)) | ((with_reducible show DG _ _ (_ :: _) _ _ _ _ _); refine DG.go1 (k := ?_)) | with_reducible apply RG.nil | with_reducible apply W.seq | with_reducible apply W.reg | with_reducible apply W.skip | with_reducible apply W.block | with_reducible apply W.drw | with_reducible apply DG.nil | (with_reducible refine W.done (QB.n ?_)) | refine W.cndT ?_ | refine W.cndF ?_))
      refine W.done (QL.n (⟨k + 1, by omega⟩) ?_ ?_)
      · exact Wk.rn ([] ) ( [0, 1])
      · dsimp only; omega
  clear h1
  (refine W.exit ?_; (repeat (first | (with_reducible first | refine QL.x ?_ | refine QC.x ?_ | refine QB.x ?_) | (with_reducible refine QB.o (by decide) ?_))))
  rcases hE0 with ⟨q, qe⟩ | ⟨q, qe⟩
  · have q3 := hB3 q
    clear hB4 hB2
    (repeat (first | ((with_reducible show RG _ _ (_ :: _) _ _ _); refine RG.go1 (k := ?_)) | ((with_reducible show DG _ _ (_ :: _) _ _ _ _ _); refine DG.go1 (k := ?_)) | with_reducible apply RG.nil | with_reducible apply W.seq | with_reducible apply W.reg | with_reducible apply W.skip | with_reducible apply W.block | with_reducible apply W.drw | with_reducible apply DG.nil | (with_reducible refine W.done (QB.n ?_)) | refine W.cndT ?_ | refine W.cndF ?_))
    (refine W.ret ?_; (repeat (with_reducible first | refine QB.r ?_ | refine QL.r ?_ | refine QC.r ?_)); refine QF.r ?_)
    exact RetOk.rs (vs := [_]) r_caravellaw14_RouteFinds []
  · have q3 := hR.range j0 q
    rw [hB2 q] at q3
    clear hB4 hB2
    (repeat (first | ((with_reducible show RG _ _ (_ :: _) _ _ _); refine RG.go1 (k := ?_)) | ((with_reducible show DG _ _ (_ :: _) _ _ _ _ _); refine DG.go1 (k := ?_)) | with_reducible apply RG.nil | with_reducible apply W.seq | with_reducible apply W.reg | with_reducible apply W.skip | with_reducible apply W.block | with_reducible apply W.drw | with_reducible apply DG.nil | (with_reducible refine W.done (QB.n ?_)) | refine W.cndT ?_ | refine W.cndF ?_))
    (refine W.ret ?_; (repeat (with_reducible first | refine QB.r ?_ | refine QL.r ?_ | refine QC.r ?_)); refine QF.r ?_)
    exact RetOk.rs (vs := [_]) r_caravellaw14_RouteFinds []
theorem RouteFinds_walk {r : Reach} {b0 base : Nat} {H : Type} {enc : TypeId × Value → H} {spare : Nat → Bool} {held : Bool} {d : DataW H} {p : List MemPlace} (v : Value) (a : List Int) (W : World) (hv : Value.okWide Try.prog W r b0 22 v) (k : DataW.Trod enc Try.prog W base spare held 22 v d p) (hl : a.length = 4) (hw : ∀ x ∈ a, (Lit.int .u8 x).wf = true) :
    Calls Try.prog 3 #[v, .agg (a.map fun x => Value.int .u8 x).toArray] W fun e W' => e = .returned (.bool true) ∧ Below W.heap.size W W' := by
  obtain ⟨l, hr, hll, hq⟩ := routes_arg hv k
  obtain ⟨a0, a1, a2, a3, rfl⟩ := four hl
  have ht : (⟨a0, a1, a2, a3⟩ : Ip).Ok := ⟨bounds_u8 (hw _ (by simp)), bounds_u8 (hw _ (by simp)), bounds_u8 (hw _ (by simp)), bounds_u8 (hw _ (by simp))⟩
  have hra : Rep0 (fun x => x < W.heap.size) W (.agg #[.int .u8 a0, .int .u8 a1, .int .u8 a2, .int .u8 a3]) (.agg [.int .u8 a0, .int .u8 a1, .int .u8 a2, .int .u8 a3]) := by
    refine .agg _ _ rfl fun i u av h1 h2 => ?_
    match i, h1, h2 with
    | 0, h1, h2 => simp at h1 h2; subst h1 h2; exact .int _ _
    | 1, h1, h2 => simp at h1 h2; subst h1 h2; exact .int _ _
    | 2, h1, h2 => simp at h1 h2; subst h1 h2; exact .int _ _
    | 3, h1, h2 => simp at h1 h2; subst h1 h2; exact .int _ _
    | i + 4, h1, h2 => simp at h1
  exact acall_lawF (routeFinds_ok l (len_le hll) hq ⟨a0, a1, a2, a3⟩ ht) W [_, _] ⟨.pure _ _ hr, .pure _ _ hra, trivial⟩
end Go.Proofs.Yteljhabahaimpaa
