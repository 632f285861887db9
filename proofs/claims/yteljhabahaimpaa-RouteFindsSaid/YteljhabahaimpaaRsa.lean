/- By whom a host can be had: the layer, and the document. -/
import Derived.Test.YteljhabahaimpaaRs9
namespace Go.Proofs.Yteljhabahaimpaa
open Go.RowKit
set_option linter.unusedVariables false
set_option linter.unusedSimpArgs false
set_option maxRecDepth 100000
set_option maxHeartbeats 4000000
structure Ip where
  a0 : Int
  a1 : Int
  a2 : Int
  a3 : Int
structure Ip.Ok (t : Ip) : Prop where
  a0 : 0 ≤ t.a0 ∧ t.a0 ≤ 255
  a1 : 0 ≤ t.a1 ∧ t.a1 ≤ 255
  a2 : 0 ≤ t.a2 ∧ t.a2 ≤ 255
  a3 : 0 ≤ t.a3 ∧ t.a3 ≤ 255
def Ip.l (t : Ip) : List AV := [.int .u8 t.a0, .int .u8 t.a1, .int .u8 t.a2, .int .u8 t.a3]
def wi (t : Ip) (r : Rt) : Bool := wwithin r.b (W4 t.a0 t.a1 t.a2 t.a3) r.w
theorem wiP_ok {t : Ip} {r : Rt} (ht : t.Ok) (hr : r.Ok) : ACall Try.prog 20 [.agg [.int .u8 t.a0, .int .u8 t.a1, .int .u8 t.a2, .int .u8 t.a3], .agg [.int .u8 r.n0, .int .u8 r.n1, .int .u8 r.n2, .int .u8 r.n3], .int .i64 r.b] (.bool (wi t r)) [] := by
  have c := within_ok [t.a0, t.a1, t.a2, t.a3] [r.n0, r.n1, r.n2, r.n3] r.b ⟨rfl, by
    have := ht.a0; have := ht.a1; have := ht.a2; have := ht.a3
    simp; omega⟩ ⟨rfl, by
    have := hr.n0; have := hr.n1; have := hr.n2; have := hr.n3
    simp; omega⟩
  rw [within_ww r.b ht.a0 ht.a1 ht.a2 ht.a3 hr.n0 hr.n1 hr.n2 hr.n3] at c
  exact c
theorem wiR_ok {t : Ip} {r : Rt} (ht : t.Ok) (hr : r.Ok) : ACall Try.prog 11 [.agg [.int .u8 t.a0, .int .u8 t.a1, .int .u8 t.a2, .int .u8 t.a3], .agg [.int .u8 r.n0, .int .u8 r.n1, .int .u8 r.n2, .int .u8 r.n3], .int .i64 r.b] (.bool (wi t r)) [] :=
  within4_ok t.a0 t.a1 t.a2 t.a3 r.n0 r.n1 r.n2 r.n3 r.b ht.a0 ht.a1 ht.a2 ht.a3 hr.n0 hr.n1 hr.n2 hr.n3
structure FA where
  ip : Ip
  e : Int
def viaZ (r : Rt) : Bool := decide (r.v0 = 0) && (decide (r.v1 = 0) && (decide (r.v2 = 0) && (decide (r.v3 = 0) && true)))
theorem viaZ_q (r : Rt) : eqTs [0, 0, 0, 0] [.int .u8 r.v0, .int .u8 r.v1, .int .u8 r.v2, .int .u8 r.v3] [.int .u8 0, .int .u8 0, .int .u8 0, .int .u8 0] = some (viaZ r) := eqts_i (eqts_i (eqts_i (eqts_i eqts_nil)))
def ansR (t : Ip) (r : Rt) : FA := if viaZ r = true then ⟨t, 0⟩ else ⟨⟨r.v0, r.v1, r.v2, r.v3⟩, 0⟩
def ans (t : Ip) : Option Rt → FA
  | some r => ansR t r
  | none => ⟨⟨0, 0, 0, 0⟩, 15⟩
def faV (x : FA) : AV := .tup [.agg [.int .u8 x.ip.a0, .int .u8 x.ip.a1, .int .u8 x.ip.a2, .int .u8 x.ip.a3], .int .i64 x.e]
theorem find_at {l : List Rt} {p : Rt → Bool} {i : Nat} (hi : i < l.length) (h : ∀ j : Nat, (h : j < l.length) → j < i → p l[j] = false) (hp : p l[i] = true) : l.find? p = some l[i] := by
  rw [List.find?_eq_some_iff_getElem]
  exact ⟨hp, i, hi, rfl, fun j hj => by simpa using h j (by omega) hj⟩
theorem find_no {l : List Rt} {p : Rt → Bool} (h : ∀ j : Nat, (h : j < l.length) → p l[j] = false) : l.find? p = none := by
  rw [List.find?_eq_none]
  intro x hx
  obtain ⟨j, hj, rfl⟩ := List.getElem_of_mem hx
  simpa using h j hj
theorem find_ok (l : List Rt) (hl : l.length ≤ 1000) (hok : ∀ r ∈ l, r.Ok) (t : Ip) (ht : t.Ok) : ACall Try.prog 9 [.sl true 9 (l.map rt), .agg t.l] (faV (ans t (l.find? (wi t)))) [] := by
  have el := rt_len l
  obtain ⟨R, hR⟩ : ∃ R, ans t (l.find? (wi t)) = R := ⟨_, rfl⟩
  rw [hR]
  unfold faV Ip.l
  refine acall_walk (N := 32) Try.func9 (by kernel_rfl) p_route_Find rfl ?_; unfold c_route_Find; dsimp only [enum, Nat.reduceAdd]
  (repeat (first | ((with_reducible show RG _ _ (_ :: _) _ _ _); refine RG.go1 (k := ?_)) | ((with_reducible show DG _ _ (_ :: _) _ _ _ _ _); refine DG.go1 (k := ?_)) | with_reducible apply RG.nil | with_reducible apply W.seq | with_reducible apply W.reg | with_reducible apply W.skip | with_reducible apply W.block | with_reducible apply W.drw | with_reducible apply DG.nil | (with_reducible refine W.done (QB.n ?_)) | refine W.cndT ?_ | refine W.cndF ?_))
  refine W.loop (ι := {i : Nat // i ≤ l.length ∧ ∀ j : Nat, (h : j < l.length) → j < i → wi t l[j] = false}) (fun i => ⟨[(10, .int .i64 i.1), (9, .int .i64 l.length), (8, .sl true 9 (l.map rt)), (3, .aptr 0 4), (4, .aptr 1 4)], [], [some ⟨false, 1, [.int .u8 t.a0, .int .u8 t.a1, .int .u8 t.a2, .int .u8 t.a3]⟩, some ⟨false, 1, [.int .u8 0, .int .u8 0, .int .u8 0, .int .u8 0]⟩], 0, 2⟩) (fun i => l.length - i.1) ⟨0, Nat.zero_le _, fun j _ h => absurd h (Nat.not_lt_zero _)⟩ ?_ ?_
  · dsimp only
    rw [el]
    exact Wk.rn ([] ) ( [0, 1])
  rintro ⟨i, hi, hall⟩
  dsimp only
  (repeat (first | ((with_reducible show RG _ _ (_ :: _) _ _ _); refine RG.go1 (k := ?_)) | ((with_reducible show DG _ _ (_ :: _) _ _ _ _ _); refine DG.go1 (k := ?_)) | with_reducible apply RG.nil | with_reducible apply W.seq | with_reducible apply W.reg | with_reducible apply W.skip | with_reducible apply W.block | with_reducible apply W.drw | with_reducible apply DG.nil | (with_reducible refine W.done (QB.n ?_))))
  refine W.cnd (fun h1 => ?_) (fun h1 => ?_)
  · have hlt : i < l.length := by simp at h1; omega
    have hE := rt_at l i hlt (j := ((i : Nat) : Int).toNat) (by simp)
    have hrk := hok _ (List.getElem_mem hlt)
    have hfa := find_at hlt hall
    have hnext : wi t l[i] = false → ∀ j : Nat, (h : j < l.length) → j < i + 1 → wi t l[j] = false := fun hf j hj hji => by
      rcases Nat.lt_or_ge j i with q | q
      · exact hall j hj q
      · obtain rfl : j = i := by omega
        exact hf
    clear h1
    generalize l[i] = r at hE hrk hfa hnext
    have cw := wiP_ok ht hrk
    have hq := viaZ_q r
    cases hw : wi t r
    · rw [hw] at cw
      have hnext := hnext hw
      (repeat (first | ((with_reducible show RG _ _ (_ :: _) _ _ _); refine RG.go1 (k := ?_)) | ((with_reducible show DG _ _ (_ :: _) _ _ _ _ _); refine DG.go1 (k := ?_)) | with_reducible apply RG.nil | with_reducible apply W.seq | with_reducible apply W.reg | with_reducible apply W.skip | with_reducible apply W.block | with_reducible apply W.drw | with_reducible apply DG.nil | (with_reducible refine W.done (QB.n ?_)) | refine W.cndT ?_ | refine W.cndF ?_))
      (first | ((with_reducible show RG _ _ (_ :: _) _ _ _); refine RG.ew (cptr_of (hE) (by (conv => lhs; whnf) <;> exact rfl)) (k := ?_)) | ((with_reducible show DG _ _ (_ :: _) _ _ _ _ _); refine DG.ew (cptr_of (hE) (by (conv => lhs; whnf) <;> exact rfl)) (k := ?_)))
      (repeat (first | ((with_reducible show RG _ _ (_ :: _) _ _ _); refine RG.go1 (k := ?_)) | ((with_reducible show DG _ _ (_ :: _) _ _ _ _ _); refine DG.go1 (k := ?_)) | with_reducible apply RG.nil | with_reducible apply W.seq | with_reducible apply W.reg | with_reducible apply W.skip | with_reducible apply W.block | with_reducible apply W.drw | with_reducible apply DG.nil | (with_reducible refine W.done (QB.n ?_)) | refine W.cndT ?_ | refine W.cndF ?_))
      (first | ((with_reducible show RG _ _ (_ :: _) _ _ _); refine RG.ca (cw) (k := ?_)) | ((with_reducible show DG _ _ (_ :: _) _ _ _ _ _); refine DG.ca (cw) (k := ?_)))
      (repeat (first | ((with_reducible show RG _ _ (_ :: _) _ _ _); refine RG.go1 (k := ?_)) | ((with_reducible show DG _ _ (_ :: _) _ _ _ _ _); refine DG.go1 (k := ?_)) | with_reducible apply RG.nil | with_reducible apply W.seq | with_reducible apply W.reg | with_reducible apply W.skip | with_reducible apply W.block | with_reducible apply W.drw | with_reducible apply DG.nil | (with_reducible refine W.done (QB.n ?_)) | refine W.cndT ?_ | refine W.cndF ?_))
      refine W.done (QL.n (⟨i + 1, by omega, hnext⟩) ?_ ?_)
      · exact Wk.rn ([] ) ( [0, 1])
      · dsimp only; omega
    · rw [hw] at cw
      rw [hfa hw] at hR
      dsimp only [ans] at hR
      unfold ansR at hR
      cases hz : viaZ r
      · rw [hz] at hq
        rw [hz, if_neg (by decide)] at hR
        subst hR
        clear hnext hfa
        (repeat (first | ((with_reducible show RG _ _ (_ :: _) _ _ _); refine RG.go1 (k := ?_)) | ((with_reducible show DG _ _ (_ :: _) _ _ _ _ _); refine DG.go1 (k := ?_)) | with_reducible apply RG.nil | with_reducible apply W.seq | with_reducible apply W.reg | with_reducible apply W.skip | with_reducible apply W.block | with_reducible apply W.drw | with_reducible apply DG.nil | (with_reducible refine W.done (QB.n ?_)) | refine W.cndT ?_ | refine W.cndF ?_))
        (first | ((with_reducible show RG _ _ (_ :: _) _ _ _); refine RG.ew (cptr_of (hE) (by (conv => lhs; whnf) <;> exact rfl)) (k := ?_)) | ((with_reducible show DG _ _ (_ :: _) _ _ _ _ _); refine DG.ew (cptr_of (hE) (by (conv => lhs; whnf) <;> exact rfl)) (k := ?_)))
        (repeat (first | ((with_reducible show RG _ _ (_ :: _) _ _ _); refine RG.go1 (k := ?_)) | ((with_reducible show DG _ _ (_ :: _) _ _ _ _ _); refine DG.go1 (k := ?_)) | with_reducible apply RG.nil | with_reducible apply W.seq | with_reducible apply W.reg | with_reducible apply W.skip | with_reducible apply W.block | with_reducible apply W.drw | with_reducible apply DG.nil | (with_reducible refine W.done (QB.n ?_)) | refine W.cndT ?_ | refine W.cndF ?_))
        (first | ((with_reducible show RG _ _ (_ :: _) _ _ _); refine RG.ca (cw) (k := ?_)) | ((with_reducible show DG _ _ (_ :: _) _ _ _ _ _); refine DG.ca (cw) (k := ?_)))
        (repeat (first | ((with_reducible show RG _ _ (_ :: _) _ _ _); refine RG.go1 (k := ?_)) | ((with_reducible show DG _ _ (_ :: _) _ _ _ _ _); refine DG.go1 (k := ?_)) | with_reducible apply RG.nil | with_reducible apply W.seq | with_reducible apply W.reg | with_reducible apply W.skip | with_reducible apply W.block | with_reducible apply W.drw | with_reducible apply DG.nil | (with_reducible refine W.done (QB.n ?_)) | refine W.cndT ?_ | refine W.cndF ?_))
        (refine W.ret ?_; (repeat (with_reducible first | refine QB.r ?_ | refine QL.r ?_ | refine QC.r ?_)); refine QF.r ?_)
        exact RetOk.rs (vs := [_, _]) r_route_Find []
      · rw [hz] at hq
        rw [hz, if_pos rfl] at hR
        subst hR
        clear hnext hfa
        (repeat (first | ((with_reducible show RG _ _ (_ :: _) _ _ _); refine RG.go1 (k := ?_)) | ((with_reducible show DG _ _ (_ :: _) _ _ _ _ _); refine DG.go1 (k := ?_)) | with_reducible apply RG.nil | with_reducible apply W.seq | with_reducible apply W.reg | with_reducible apply W.skip | with_reducible apply W.block | with_reducible apply W.drw | with_reducible apply DG.nil | (with_reducible refine W.done (QB.n ?_)) | refine W.cndT ?_ | refine W.cndF ?_))
        (first | ((with_reducible show RG _ _ (_ :: _) _ _ _); refine RG.ew (cptr_of (hE) (by (conv => lhs; whnf) <;> exact rfl)) (k := ?_)) | ((with_reducible show DG _ _ (_ :: _) _ _ _ _ _); refine DG.ew (cptr_of (hE) (by (conv => lhs; whnf) <;> exact rfl)) (k := ?_)))
        (repeat (first | ((with_reducible show RG _ _ (_ :: _) _ _ _); refine RG.go1 (k := ?_)) | ((with_reducible show DG _ _ (_ :: _) _ _ _ _ _); refine DG.go1 (k := ?_)) | with_reducible apply RG.nil | with_reducible apply W.seq | with_reducible apply W.reg | with_reducible apply W.skip | with_reducible apply W.block | with_reducible apply W.drw | with_reducible apply DG.nil | (with_reducible refine W.done (QB.n ?_)) | refine W.cndT ?_ | refine W.cndF ?_))
        (first | ((with_reducible show RG _ _ (_ :: _) _ _ _); refine RG.ca (cw) (k := ?_)) | ((with_reducible show DG _ _ (_ :: _) _ _ _ _ _); refine DG.ca (cw) (k := ?_)))
        (repeat (first | ((with_reducible show RG _ _ (_ :: _) _ _ _); refine RG.go1 (k := ?_)) | ((with_reducible show DG _ _ (_ :: _) _ _ _ _ _); refine DG.go1 (k := ?_)) | with_reducible apply RG.nil | with_reducible apply W.seq | with_reducible apply W.reg | with_reducible apply W.skip | with_reducible apply W.block | with_reducible apply W.drw | with_reducible apply DG.nil | (with_reducible refine W.done (QB.n ?_)) | refine W.cndT ?_ | refine W.cndF ?_))
        (refine W.ret ?_; (repeat (with_reducible first | refine QB.r ?_ | refine QL.r ?_ | refine QC.r ?_)); refine QF.r ?_)
        exact RetOk.rs (vs := [_, _]) r_route_Find []
  rw [find_no (fun j hj => hall j hj (by simp at h1; omega))] at hR
  dsimp only [ans] at hR
  subst hR
  clear h1
  (refine W.exit ?_; (repeat (first | (with_reducible first | refine QL.x ?_ | refine QC.x ?_ | refine QB.x ?_) | (with_reducible refine QB.o (by decide) ?_))))
  (repeat (first | ((with_reducible show RG _ _ (_ :: _) _ _ _); refine RG.go1 (k := ?_)) | ((with_reducible show DG _ _ (_ :: _) _ _ _ _ _); refine DG.go1 (k := ?_)) | with_reducible apply RG.nil | with_reducible apply W.seq | with_reducible apply W.reg | with_reducible apply W.skip | with_reducible apply W.block | with_reducible apply W.drw | with_reducible apply DG.nil | (with_reducible refine W.done (QB.n ?_)) | refine W.cndT ?_ | refine W.cndF ?_))
  (refine W.ret ?_; (repeat (with_reducible first | refine QB.r ?_ | refine QL.r ?_ | refine QC.r ?_)); refine QF.r ?_)
  exact RetOk.rs (vs := [_, _]) r_route_Find []
def bestI : Option Nat → Int
  | none => -1
  | some j => j
def BestOk (l : List Rt) (t : Ip) (i : Nat) : Option Nat → Prop
  | none => ∀ j : Nat, (h : j < l.length) → j < i → wi t l[j] = false
  | some j => j < i ∧ ∃ h : j < l.length, l.find? (wi t) = some l[j]
theorem rfind_ok (l : List Rt) (hl : l.length ≤ 1000) (hok : ∀ r ∈ l, r.Ok) (hs : ∀ (j i : Nat) (hj : j < l.length) (hi : i < l.length), j < i → l[i].b ≤ l[j].b) (t : Ip) (ht : t.Ok) : ACall Try.prog 10 [.sl true 9 (l.map rt), .agg t.l] (faV (ans t (l.find? (wi t)))) [] := by
  have el := rt_len l
  obtain ⟨R, hR⟩ : ∃ R, ans t (l.find? (wi t)) = R := ⟨_, rfl⟩
  rw [hR]
  unfold faV Ip.l
  refine acall_walk (N := 62) Try.func10 (by kernel_rfl) p_caravelref14_Find rfl ?_; unfold c_caravelref14_Find; dsimp only [enum, Nat.reduceAdd]
  (repeat (first | ((with_reducible show RG _ _ (_ :: _) _ _ _); refine RG.go1 (k := ?_)) | ((with_reducible show DG _ _ (_ :: _) _ _ _ _ _); refine DG.go1 (k := ?_)) | with_reducible apply RG.nil | with_reducible apply W.seq | with_reducible apply W.reg | with_reducible apply W.skip | with_reducible apply W.block | with_reducible apply W.drw | with_reducible apply DG.nil | (with_reducible refine W.done (QB.n ?_)) | refine W.cndT ?_ | refine W.cndF ?_))
  refine W.loop (ι := {q : Nat × Option Nat // q.1 ≤ l.length ∧ BestOk l t q.1 q.2}) (fun q => ⟨[(7, .int .i64 q.1.1), (6, .int .i64 (bestI q.1.2)), (5, .int .i64 0), (0, .sl true 9 (l.map rt)), (3, .aptr 0 4), (4, .aptr 1 4)], [], [some ⟨false, 1, [.int .u8 t.a0, .int .u8 t.a1, .int .u8 t.a2, .int .u8 t.a3]⟩, some ⟨false, 1, [.int .u8 0, .int .u8 0, .int .u8 0, .int .u8 0]⟩], 0, 2⟩) (fun q => l.length - q.1.1) ⟨(0, none), Nat.zero_le _, fun j _ h => absurd h (Nat.not_lt_zero _)⟩ ?_ ?_
  · dsimp only [bestI]
    exact Wk.rn ([] ) ( [0, 1])
  rintro ⟨⟨i, best⟩, hi, hbest⟩
  dsimp only at hi hbest ⊢
  (repeat (first | ((with_reducible show RG _ _ (_ :: _) _ _ _); refine RG.go1 (k := ?_)) | ((with_reducible show DG _ _ (_ :: _) _ _ _ _ _); refine DG.go1 (k := ?_)) | with_reducible apply RG.nil | with_reducible apply W.seq | with_reducible apply W.reg | with_reducible apply W.skip | with_reducible apply W.block | with_reducible apply W.drw | with_reducible apply DG.nil | (with_reducible refine W.done (QB.n ?_))))
  refine W.cnd (fun h1 => ?_) (fun h1 => ?_)
  · have hlt : i < l.length := by simp at h1; omega
    have hE := rt_at l i hlt (j := ((i : Nat) : Int).toNat) (by simp)
    have hrk := hok _ (List.getElem_mem hlt)
    clear h1
    cases best with
    | none =>
      have hfa := find_at hlt hbest
      have hnext : wi t l[i] = false → BestOk l t (i + 1) none := fun hf j hj hji => by
        rcases Nat.lt_or_ge j i with q | q
        · exact hbest j hj q
        · obtain rfl : j = i := by omega
          exact hf
      generalize hri : l[i] = r at hE hrk hfa hnext
      have cw := wiR_ok ht hrk
      dsimp only [bestI]
      cases hw : wi t r
      · rw [hw] at cw
        (repeat (first | ((with_reducible show RG _ _ (_ :: _) _ _ _); refine RG.go1 (k := ?_)) | ((with_reducible show DG _ _ (_ :: _) _ _ _ _ _); refine DG.go1 (k := ?_)) | with_reducible apply RG.nil | with_reducible apply W.seq | with_reducible apply W.reg | with_reducible apply W.skip | with_reducible apply W.block | with_reducible apply W.drw | with_reducible apply DG.nil | (with_reducible refine W.done (QB.n ?_)) | refine W.cndT ?_ | refine W.cndF ?_))
        (first | ((with_reducible show RG _ _ (_ :: _) _ _ _); refine RG.ew (cptr_of (hE) (by (conv => lhs; whnf) <;> exact rfl)) (k := ?_)) | ((with_reducible show DG _ _ (_ :: _) _ _ _ _ _); refine DG.ew (cptr_of (hE) (by (conv => lhs; whnf) <;> exact rfl)) (k := ?_)))
        (repeat (first | ((with_reducible show RG _ _ (_ :: _) _ _ _); refine RG.go1 (k := ?_)) | ((with_reducible show DG _ _ (_ :: _) _ _ _ _ _); refine DG.go1 (k := ?_)) | with_reducible apply RG.nil | with_reducible apply W.seq | with_reducible apply W.reg | with_reducible apply W.skip | with_reducible apply W.block | with_reducible apply W.drw | with_reducible apply DG.nil | (with_reducible refine W.done (QB.n ?_)) | refine W.cndT ?_ | refine W.cndF ?_))
        (first | ((with_reducible show RG _ _ (_ :: _) _ _ _); refine RG.ew (cptr_of (hE) (by (conv => lhs; whnf) <;> exact rfl)) (k := ?_)) | ((with_reducible show DG _ _ (_ :: _) _ _ _ _ _); refine DG.ew (cptr_of (hE) (by (conv => lhs; whnf) <;> exact rfl)) (k := ?_)))
        (repeat (first | ((with_reducible show RG _ _ (_ :: _) _ _ _); refine RG.go1 (k := ?_)) | ((with_reducible show DG _ _ (_ :: _) _ _ _ _ _); refine DG.go1 (k := ?_)) | with_reducible apply RG.nil | with_reducible apply W.seq | with_reducible apply W.reg | with_reducible apply W.skip | with_reducible apply W.block | with_reducible apply W.drw | with_reducible apply DG.nil | (with_reducible refine W.done (QB.n ?_)) | refine W.cndT ?_ | refine W.cndF ?_))
        (first | ((with_reducible show RG _ _ (_ :: _) _ _ _); refine RG.ca (cw) (k := ?_)) | ((with_reducible show DG _ _ (_ :: _) _ _ _ _ _); refine DG.ca (cw) (k := ?_)))
        (repeat (first | ((with_reducible show RG _ _ (_ :: _) _ _ _); refine RG.go1 (k := ?_)) | ((with_reducible show DG _ _ (_ :: _) _ _ _ _ _); refine DG.go1 (k := ?_)) | with_reducible apply RG.nil | with_reducible apply W.seq | with_reducible apply W.reg | with_reducible apply W.skip | with_reducible apply W.block | with_reducible apply W.drw | with_reducible apply DG.nil | (with_reducible refine W.done (QB.n ?_)) | refine W.cndT ?_ | refine W.cndF ?_))
        refine W.done (QL.n (⟨(i + 1, none), by dsimp only; omega, hnext hw⟩) ?_ ?_)
        · dsimp only [bestI]
          exact Wk.rn ([] ) ( [0, 1])
        · dsimp only; omega
      · rw [hw] at cw
        have hfa := hfa hw
        (repeat (first | ((with_reducible show RG _ _ (_ :: _) _ _ _); refine RG.go1 (k := ?_)) | ((with_reducible show DG _ _ (_ :: _) _ _ _ _ _); refine DG.go1 (k := ?_)) | with_reducible apply RG.nil | with_reducible apply W.seq | with_reducible apply W.reg | with_reducible apply W.skip | with_reducible apply W.block | with_reducible apply W.drw | with_reducible apply DG.nil | (with_reducible refine W.done (QB.n ?_)) | refine W.cndT ?_ | refine W.cndF ?_))
        (first | ((with_reducible show RG _ _ (_ :: _) _ _ _); refine RG.ew (cptr_of (hE) (by (conv => lhs; whnf) <;> exact rfl)) (k := ?_)) | ((with_reducible show DG _ _ (_ :: _) _ _ _ _ _); refine DG.ew (cptr_of (hE) (by (conv => lhs; whnf) <;> exact rfl)) (k := ?_)))
        (repeat (first | ((with_reducible show RG _ _ (_ :: _) _ _ _); refine RG.go1 (k := ?_)) | ((with_reducible show DG _ _ (_ :: _) _ _ _ _ _); refine DG.go1 (k := ?_)) | with_reducible apply RG.nil | with_reducible apply W.seq | with_reducible apply W.reg | with_reducible apply W.skip | with_reducible apply W.block | with_reducible apply W.drw | with_reducible apply DG.nil | (with_reducible refine W.done (QB.n ?_)) | refine W.cndT ?_ | refine W.cndF ?_))
        (first | ((with_reducible show RG _ _ (_ :: _) _ _ _); refine RG.ew (cptr_of (hE) (by (conv => lhs; whnf) <;> exact rfl)) (k := ?_)) | ((with_reducible show DG _ _ (_ :: _) _ _ _ _ _); refine DG.ew (cptr_of (hE) (by (conv => lhs; whnf) <;> exact rfl)) (k := ?_)))
        (repeat (first | ((with_reducible show RG _ _ (_ :: _) _ _ _); refine RG.go1 (k := ?_)) | ((with_reducible show DG _ _ (_ :: _) _ _ _ _ _); refine DG.go1 (k := ?_)) | with_reducible apply RG.nil | with_reducible apply W.seq | with_reducible apply W.reg | with_reducible apply W.skip | with_reducible apply W.block | with_reducible apply W.drw | with_reducible apply DG.nil | (with_reducible refine W.done (QB.n ?_)) | refine W.cndT ?_ | refine W.cndF ?_))
        (first | ((with_reducible show RG _ _ (_ :: _) _ _ _); refine RG.ca (cw) (k := ?_)) | ((with_reducible show DG _ _ (_ :: _) _ _ _ _ _); refine DG.ca (cw) (k := ?_)))
        (repeat (first | ((with_reducible show RG _ _ (_ :: _) _ _ _); refine RG.go1 (k := ?_)) | ((with_reducible show DG _ _ (_ :: _) _ _ _ _ _); refine DG.go1 (k := ?_)) | with_reducible apply RG.nil | with_reducible apply W.seq | with_reducible apply W.reg | with_reducible apply W.skip | with_reducible apply W.block | with_reducible apply W.drw | with_reducible apply DG.nil | (with_reducible refine W.done (QB.n ?_)) | refine W.cndT ?_ | refine W.cndF ?_))
        refine W.done (QL.n (⟨(i + 1, some i), by dsimp only; omega, ⟨by dsimp only; omega, hlt, by rw [hri]; exact hfa⟩⟩) ?_ ?_)
        · dsimp only [bestI]
          exact Wk.rn ([] ) ( [0, 1])
        · dsimp only; omega
    | some j =>
      obtain ⟨hji, hjl, hjf⟩ := hbest
      have hbb := hs j i hjl hlt hji
      have hE2 := rt_at l j hjl (j := ((j : Nat) : Int).toNat) (by simp)
      have hnext : BestOk l t (i + 1) (some j) := ⟨by omega, hjl, hjf⟩
      generalize l[i] = r at hE hrk hbb
      generalize l[j] = p at hE2 hbb
      have cw := wiR_ok ht hrk
      dsimp only [bestI]
      cases hw : wi t r
      · rw [hw] at cw
        (repeat (first | ((with_reducible show RG _ _ (_ :: _) _ _ _); refine RG.go1 (k := ?_)) | ((with_reducible show DG _ _ (_ :: _) _ _ _ _ _); refine DG.go1 (k := ?_)) | with_reducible apply RG.nil | with_reducible apply W.seq | with_reducible apply W.reg | with_reducible apply W.skip | with_reducible apply W.block | with_reducible apply W.drw | with_reducible apply DG.nil | (with_reducible refine W.done (QB.n ?_)) | refine W.cndT ?_ | refine W.cndF ?_))
        (first | ((with_reducible show RG _ _ (_ :: _) _ _ _); refine RG.ew (cptr_of (hE) (by (conv => lhs; whnf) <;> exact rfl)) (k := ?_)) | ((with_reducible show DG _ _ (_ :: _) _ _ _ _ _); refine DG.ew (cptr_of (hE) (by (conv => lhs; whnf) <;> exact rfl)) (k := ?_)))
        (repeat (first | ((with_reducible show RG _ _ (_ :: _) _ _ _); refine RG.go1 (k := ?_)) | ((with_reducible show DG _ _ (_ :: _) _ _ _ _ _); refine DG.go1 (k := ?_)) | with_reducible apply RG.nil | with_reducible apply W.seq | with_reducible apply W.reg | with_reducible apply W.skip | with_reducible apply W.block | with_reducible apply W.drw | with_reducible apply DG.nil | (with_reducible refine W.done (QB.n ?_)) | refine W.cndT ?_ | refine W.cndF ?_))
        (first | ((with_reducible show RG _ _ (_ :: _) _ _ _); refine RG.ew (cptr_of (hE) (by (conv => lhs; whnf) <;> exact rfl)) (k := ?_)) | ((with_reducible show DG _ _ (_ :: _) _ _ _ _ _); refine DG.ew (cptr_of (hE) (by (conv => lhs; whnf) <;> exact rfl)) (k := ?_)))
        (repeat (first | ((with_reducible show RG _ _ (_ :: _) _ _ _); refine RG.go1 (k := ?_)) | ((with_reducible show DG _ _ (_ :: _) _ _ _ _ _); refine DG.go1 (k := ?_)) | with_reducible apply RG.nil | with_reducible apply W.seq | with_reducible apply W.reg | with_reducible apply W.skip | with_reducible apply W.block | with_reducible apply W.drw | with_reducible apply DG.nil | (with_reducible refine W.done (QB.n ?_)) | refine W.cndT ?_ | refine W.cndF ?_))
        (first | ((with_reducible show RG _ _ (_ :: _) _ _ _); refine RG.ca (cw) (k := ?_)) | ((with_reducible show DG _ _ (_ :: _) _ _ _ _ _); refine DG.ca (cw) (k := ?_)))
        (repeat (first | ((with_reducible show RG _ _ (_ :: _) _ _ _); refine RG.go1 (k := ?_)) | ((with_reducible show DG _ _ (_ :: _) _ _ _ _ _); refine DG.go1 (k := ?_)) | with_reducible apply RG.nil | with_reducible apply W.seq | with_reducible apply W.reg | with_reducible apply W.skip | with_reducible apply W.block | with_reducible apply W.drw | with_reducible apply DG.nil | (with_reducible refine W.done (QB.n ?_)) | refine W.cndT ?_ | refine W.cndF ?_))
        refine W.done (QL.n (⟨(i + 1, some j), by dsimp only; omega, hnext⟩) ?_ ?_)
        · dsimp only [bestI]
          exact Wk.rn ([] ) ( [0, 1])
        · dsimp only; omega
      · rw [hw] at cw
        (repeat (first | ((with_reducible show RG _ _ (_ :: _) _ _ _); refine RG.go1 (k := ?_)) | ((with_reducible show DG _ _ (_ :: _) _ _ _ _ _); refine DG.go1 (k := ?_)) | with_reducible apply RG.nil | with_reducible apply W.seq | with_reducible apply W.reg | with_reducible apply W.skip | with_reducible apply W.block | with_reducible apply W.drw | with_reducible apply DG.nil | (with_reducible refine W.done (QB.n ?_)) | refine W.cndT ?_ | refine W.cndF ?_))
        (first | ((with_reducible show RG _ _ (_ :: _) _ _ _); refine RG.ew (cptr_of (hE) (by (conv => lhs; whnf) <;> exact rfl)) (k := ?_)) | ((with_reducible show DG _ _ (_ :: _) _ _ _ _ _); refine DG.ew (cptr_of (hE) (by (conv => lhs; whnf) <;> exact rfl)) (k := ?_)))
        (repeat (first | ((with_reducible show RG _ _ (_ :: _) _ _ _); refine RG.go1 (k := ?_)) | ((with_reducible show DG _ _ (_ :: _) _ _ _ _ _); refine DG.go1 (k := ?_)) | with_reducible apply RG.nil | with_reducible apply W.seq | with_reducible apply W.reg | with_reducible apply W.skip | with_reducible apply W.block | with_reducible apply W.drw | with_reducible apply DG.nil | (with_reducible refine W.done (QB.n ?_)) | refine W.cndT ?_ | refine W.cndF ?_))
        (first | ((with_reducible show RG _ _ (_ :: _) _ _ _); refine RG.ew (cptr_of (hE) (by (conv => lhs; whnf) <;> exact rfl)) (k := ?_)) | ((with_reducible show DG _ _ (_ :: _) _ _ _ _ _); refine DG.ew (cptr_of (hE) (by (conv => lhs; whnf) <;> exact rfl)) (k := ?_)))
        (repeat (first | ((with_reducible show RG _ _ (_ :: _) _ _ _); refine RG.go1 (k := ?_)) | ((with_reducible show DG _ _ (_ :: _) _ _ _ _ _); refine DG.go1 (k := ?_)) | with_reducible apply RG.nil | with_reducible apply W.seq | with_reducible apply W.reg | with_reducible apply W.skip | with_reducible apply W.block | with_reducible apply W.drw | with_reducible apply DG.nil | (with_reducible refine W.done (QB.n ?_)) | refine W.cndT ?_ | refine W.cndF ?_))
        (first | ((with_reducible show RG _ _ (_ :: _) _ _ _); refine RG.ca (cw) (k := ?_)) | ((with_reducible show DG _ _ (_ :: _) _ _ _ _ _); refine DG.ca (cw) (k := ?_)))
        (repeat (first | ((with_reducible show RG _ _ (_ :: _) _ _ _); refine RG.go1 (k := ?_)) | ((with_reducible show DG _ _ (_ :: _) _ _ _ _ _); refine DG.go1 (k := ?_)) | with_reducible apply RG.nil | with_reducible apply W.seq | with_reducible apply W.reg | with_reducible apply W.skip | with_reducible apply W.block | with_reducible apply W.drw | with_reducible apply DG.nil | (with_reducible refine W.done (QB.n ?_)) | refine W.cndT ?_ | refine W.cndF ?_))
        (first | ((with_reducible show RG _ _ (_ :: _) _ _ _); refine RG.ewg (cptr_of (hE) (by (conv => lhs; whnf) <;> exact rfl)) (k := ?_)) | ((with_reducible show DG _ _ (_ :: _) _ _ _ _ _); refine DG.ewg (cptr_of (hE) (by (conv => lhs; whnf) <;> exact rfl)) (k := ?_)))
        (repeat (first | ((with_reducible show RG _ _ (_ :: _) _ _ _); refine RG.go1 (k := ?_)) | ((with_reducible show DG _ _ (_ :: _) _ _ _ _ _); refine DG.go1 (k := ?_)) | with_reducible apply RG.nil | with_reducible apply W.seq | with_reducible apply W.reg | with_reducible apply W.skip | with_reducible apply W.block | with_reducible apply W.drw | with_reducible apply DG.nil | (with_reducible refine W.done (QB.n ?_)) | refine W.cndT ?_ | refine W.cndF ?_))
        (first | ((with_reducible show RG _ _ (_ :: _) _ _ _); refine RG.ewg (cptr_of (hE2) (by (conv => lhs; whnf) <;> exact rfl)) (k := ?_)) | ((with_reducible show DG _ _ (_ :: _) _ _ _ _ _); refine DG.ewg (cptr_of (hE2) (by (conv => lhs; whnf) <;> exact rfl)) (k := ?_)))
        (repeat (first | ((with_reducible show RG _ _ (_ :: _) _ _ _); refine RG.go1 (k := ?_)) | ((with_reducible show DG _ _ (_ :: _) _ _ _ _ _); refine DG.go1 (k := ?_)) | with_reducible apply RG.nil | with_reducible apply W.seq | with_reducible apply W.reg | with_reducible apply W.skip | with_reducible apply W.block | with_reducible apply W.drw | with_reducible apply DG.nil | (with_reducible refine W.done (QB.n ?_)) | refine W.cndT ?_ | refine W.cndF ?_))
        refine W.done (QL.n (⟨(i + 1, some j), by dsimp only; omega, hnext⟩) ?_ ?_)
        · dsimp only [bestI]
          exact Wk.rn ([] ) ( [0, 1])
        · dsimp only; omega
  (refine W.exit ?_; (repeat (first | (with_reducible first | refine QL.x ?_ | refine QC.x ?_ | refine QB.x ?_) | (with_reducible refine QB.o (by decide) ?_))))
  cases best with
  | none =>
    rw [find_no (fun j hj => hbest j hj (by simp at h1; omega))] at hR
    dsimp only [ans] at hR
    subst hR
    clear h1
    dsimp only [bestI]
    (repeat (first | ((with_reducible show RG _ _ (_ :: _) _ _ _); refine RG.go1 (k := ?_)) | ((with_reducible show DG _ _ (_ :: _) _ _ _ _ _); refine DG.go1 (k := ?_)) | with_reducible apply RG.nil | with_reducible apply W.seq | with_reducible apply W.reg | with_reducible apply W.skip | with_reducible apply W.block | with_reducible apply W.drw | with_reducible apply DG.nil | (with_reducible refine W.done (QB.n ?_)) | refine W.cndT ?_ | refine W.cndF ?_))
    (refine W.ret ?_; (repeat (with_reducible first | refine QB.r ?_ | refine QL.r ?_ | refine QC.r ?_)); refine QF.r ?_)
    exact RetOk.rs (vs := [_, _]) r_caravelref14_Find []
  | some j =>
    obtain ⟨hji, hjl, hjf⟩ := hbest
    have hE2 := rt_at l j hjl (j := ((j : Nat) : Int).toNat) (by simp)
    rw [hjf] at hR
    dsimp only [ans] at hR
    unfold ansR at hR
    generalize l[j] = r at hE2 hR
    have hq := viaZ_q r
    dsimp only [bestI]
    clear h1
    cases hz : viaZ r
    · rw [hz] at hq
      rw [hz, if_neg (by decide)] at hR
      subst hR
      (repeat (first | ((with_reducible show RG _ _ (_ :: _) _ _ _); refine RG.go1 (k := ?_)) | ((with_reducible show DG _ _ (_ :: _) _ _ _ _ _); refine DG.go1 (k := ?_)) | with_reducible apply RG.nil | with_reducible apply W.seq | with_reducible apply W.reg | with_reducible apply W.skip | with_reducible apply W.block | with_reducible apply W.drw | with_reducible apply DG.nil | (with_reducible refine W.done (QB.n ?_)) | refine W.cndT ?_ | refine W.cndF ?_))
      (first | ((with_reducible show RG _ _ (_ :: _) _ _ _); refine RG.ew (cptr_of (hE2) (by (conv => lhs; whnf) <;> exact rfl)) (k := ?_)) | ((with_reducible show DG _ _ (_ :: _) _ _ _ _ _); refine DG.ew (cptr_of (hE2) (by (conv => lhs; whnf) <;> exact rfl)) (k := ?_)))
      (repeat (first | ((with_reducible show RG _ _ (_ :: _) _ _ _); refine RG.go1 (k := ?_)) | ((with_reducible show DG _ _ (_ :: _) _ _ _ _ _); refine DG.go1 (k := ?_)) | with_reducible apply RG.nil | with_reducible apply W.seq | with_reducible apply W.reg | with_reducible apply W.skip | with_reducible apply W.block | with_reducible apply W.drw | with_reducible apply DG.nil | (with_reducible refine W.done (QB.n ?_)) | refine W.cndT ?_ | refine W.cndF ?_))
      (first | ((with_reducible show RG _ _ (_ :: _) _ _ _); refine RG.ew (cptr_of (hE2) (by (conv => lhs; whnf) <;> exact rfl)) (k := ?_)) | ((with_reducible show DG _ _ (_ :: _) _ _ _ _ _); refine DG.ew (cptr_of (hE2) (by (conv => lhs; whnf) <;> exact rfl)) (k := ?_)))
      (repeat (first | ((with_reducible show RG _ _ (_ :: _) _ _ _); refine RG.go1 (k := ?_)) | ((with_reducible show DG _ _ (_ :: _) _ _ _ _ _); refine DG.go1 (k := ?_)) | with_reducible apply RG.nil | with_reducible apply W.seq | with_reducible apply W.reg | with_reducible apply W.skip | with_reducible apply W.block | with_reducible apply W.drw | with_reducible apply DG.nil | (with_reducible refine W.done (QB.n ?_)) | refine W.cndT ?_ | refine W.cndF ?_))
      (refine W.ret ?_; (repeat (with_reducible first | refine QB.r ?_ | refine QL.r ?_ | refine QC.r ?_)); refine QF.r ?_)
      exact RetOk.rs (vs := [_, _]) r_caravelref14_Find []
    · rw [hz] at hq
      rw [hz, if_pos rfl] at hR
      subst hR
      (repeat (first | ((with_reducible show RG _ _ (_ :: _) _ _ _); refine RG.go1 (k := ?_)) | ((with_reducible show DG _ _ (_ :: _) _ _ _ _ _); refine DG.go1 (k := ?_)) | with_reducible apply RG.nil | with_reducible apply W.seq | with_reducible apply W.reg | with_reducible apply W.skip | with_reducible apply W.block | with_reducible apply W.drw | with_reducible apply DG.nil | (with_reducible refine W.done (QB.n ?_)) | refine W.cndT ?_ | refine W.cndF ?_))
      (first | ((with_reducible show RG _ _ (_ :: _) _ _ _); refine RG.ew (cptr_of (hE2) (by (conv => lhs; whnf) <;> exact rfl)) (k := ?_)) | ((with_reducible show DG _ _ (_ :: _) _ _ _ _ _); refine DG.ew (cptr_of (hE2) (by (conv => lhs; whnf) <;> exact rfl)) (k := ?_)))
      (repeat (first | ((with_reducible show RG _ _ (_ :: _) _ _ _); refine RG.go1 (k := ?_)) | ((with_reducible show DG _ _ (_ :: _) _ _ _ _ _); refine DG.go1 (k := ?_)) | with_reducible apply RG.nil | with_reducible apply W.seq | with_reducible apply W.reg | with_reducible apply W.skip | with_reducible apply W.block | with_reducible apply W.drw | with_reducible apply DG.nil | (with_reducible refine W.done (QB.n ?_)) | refine W.cndT ?_ | refine W.cndF ?_))
      (refine W.ret ?_; (repeat (with_reducible first | refine QB.r ?_ | refine QL.r ?_ | refine QC.r ?_)); refine QF.r ?_)
      exact RetOk.rs (vs := [_, _]) r_caravelref14_Find []
end Go.Proofs.Yteljhabahaimpaa
