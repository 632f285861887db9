/- BinarySearchFunc by order; route.Add. -/
import Derived.Test.YteljhabahaimpaaRsa
namespace Go.Proofs.Yteljhabahaimpaa
open Go.RowKit
set_option linter.unusedVariables false
set_option linter.unusedSimpArgs false
set_option maxRecDepth 100000
set_option maxHeartbeats 4000000
def Srt (l : List Rt) : Prop := ∀ (j i : Nat) (hj : j < l.length) (hi : i < l.length), j < i → l[j].key < l[i].key
def pos : List Rt → Int → Nat
  | [], _ => 0
  | e :: l, k => if e.key < k then pos l k + 1 else 0
theorem pos_le : ∀ (l : List Rt) (k : Int), pos l k ≤ l.length
  | [], _ => Nat.le_refl _
  | e :: l, k => by
    unfold pos
    have := pos_le l k
    split
    · simp; omega
    · exact Nat.zero_le _
theorem pos_lt : ∀ (l : List Rt) (k : Int) (j : Nat) (hj : j < l.length), j < pos l k → l[j].key < k
  | e :: l, k, j, hj, h => by
    unfold pos at h
    split at h
    · cases j with
      | zero => assumption
      | succ j => exact pos_lt l k j (by simpa using hj) (by omega)
    · exact absurd h (Nat.not_lt_zero _)
theorem pos_at : ∀ (l : List Rt) (k : Int) (h : pos l k < l.length), k ≤ l[pos l k].key
  | e :: l, k, h => by
    by_cases q : e.key < k
    · have e1 : pos (e :: l) k = pos l k + 1 := by rw [pos, if_pos q]
      have := pos_at l k (by rw [e1] at h; simpa using h)
      simp only [e1, List.getElem_cons_succ]
      exact this
    · have e1 : pos (e :: l) k = 0 := by rw [pos, if_neg q]
      simp only [e1, List.getElem_cons_zero]
      omega
theorem pos_ge {l : List Rt} (hs : Srt l) (k : Int) (j : Nat) (hj : j < l.length) (h : pos l k ≤ j) : k ≤ l[j].key := by
  have h1 := pos_at l k (by omega)
  rcases Nat.lt_or_ge (pos l k) j with q | q
  · have := hs (pos l k) j (by omega) hj q; omega
  · have e : pos l k = j := by omega
    simp only [e] at h1; exact h1
def fnd (l : List Rt) (k : Int) : Bool := l.any fun e => decide (e.key = k)
theorem fnd_pos {l : List Rt} (hs : Srt l) (k : Int) (h : pos l k < l.length) : fnd l k = decide (l[pos l k].key = k) := by
  rw [Bool.eq_iff_iff]
  unfold fnd
  simp only [List.any_eq_true, decide_eq_true_eq]
  constructor
  · rintro ⟨x, hx, hk⟩
    obtain ⟨j, hj, rfl⟩ := List.getElem_of_mem hx
    have h1 := pos_at l k h
    rcases Nat.lt_trichotomy j (pos l k) with q | q | q
    · have := pos_lt l k j hj q; omega
    · subst q; exact hk
    · have := hs (pos l k) j h hj q; omega
  · intro hk; exact ⟨_, List.getElem_mem h, hk⟩
theorem fnd_end {l : List Rt} (k : Int) (h : pos l k = l.length) : fnd l k = false := by
  unfold fnd
  rw [List.any_eq_false]
  intro x hx
  obtain ⟨j, hj, rfl⟩ := List.getElem_of_mem hx
  have := pos_lt l k j hj (by omega)
  simp; omega
structure BI where
  i : Nat
  j : Nat
theorem binS_ok (l : List Rt) (hl : l.length ≤ 1000) (hok : ∀ r ∈ l, r.Ok) (hs : Srt l) (r : Rt) (hr : r.Ok) :
    ACall Try.prog 27 [.sl true 9 (l.map rt), rt r, .fn 23 []] (.tup [.int .i64 (pos l r.key), .bool (fnd l r.key)]) [] := by
  have el := rt_len l
  have hp := pos_le l r.key
  have hF1 := fun h => fnd_pos hs r.key h
  have hF2 := fun h => fnd_end (l := l) r.key h
  have hlt := fun (j : Nat) (hj : j < l.length) => pos_lt l r.key j hj
  have hge := fun (j : Nat) (hj : j < l.length) => pos_ge hs r.key j hj
  obtain ⟨p, hpp⟩ : ∃ p, pos l r.key = p := ⟨_, rfl⟩
  simp only [hpp] at hp hF1 hF2 hlt hge
  rw [hpp]
  generalize fnd l r.key = F at *
  rw [show rt r = .agg [.int .u8 r.n0, .int .u8 r.n1, .int .u8 r.n2, .int .u8 r.n3, .int .i64 r.b, .int .u8 r.v0, .int .u8 r.v1, .int .u8 r.v2, .int .u8 r.v3] from rfl]
  refine acall_walk (N := 49) Try.func27 (by kernel_rfl) p_slices_BinarySearchFunc__caravel_api_Route_caravel_api_Route_caravel_api_Route rfl ?_; unfold c_slices_BinarySearchFunc__caravel_api_Route_caravel_api_Route_caravel_api_Route; dsimp only [enum, Nat.reduceAdd]
  (repeat (first | ((with_reducible show RG _ _ (_ :: _) _ _ _); refine RG.go1 (k := ?_)) | ((with_reducible show DG _ _ (_ :: _) _ _ _ _ _); refine DG.go1 (k := ?_)) | with_reducible apply RG.nil | with_reducible apply W.seq | with_reducible apply W.reg | with_reducible apply W.skip | with_reducible apply W.block | with_reducible apply W.drw | with_reducible apply DG.nil | (with_reducible refine W.done (QB.n ?_)) | refine W.cndT ?_ | refine W.cndF ?_))
  refine W.loop (ι := {q : BI // q.i ≤ p ∧ p ≤ q.j ∧ q.j ≤ l.length}) (fun q => ⟨[(9, .int .i64 q.1.i), (10, .int .i64 q.1.j), (8, .int .i64 l.length), (0, .sl true 9 (l.map rt)), (2, .fn 23 []), (4, .bptr 0 0)], [some [.int .u8 r.n0, .int .u8 r.n1, .int .u8 r.n2, .int .u8 r.n3, .int .i64 r.b, .int .u8 r.v0, .int .u8 r.v1, .int .u8 r.v2, .int .u8 r.v3]], [], 1, 0⟩) (fun q => q.1.j - q.1.i) ⟨⟨0, l.length⟩, Nat.zero_le _, hp, Nat.le_refl _⟩ ?_ ?_
  · dsimp only
    rw [el]
    exact Wk.rn ([0] ) ( [])
  rintro ⟨⟨i, j⟩, hi, hj, hjl⟩
  dsimp only at hi hj hjl ⊢
  (repeat (first | ((with_reducible show RG _ _ (_ :: _) _ _ _); refine RG.go1 (k := ?_)) | ((with_reducible show DG _ _ (_ :: _) _ _ _ _ _); refine DG.go1 (k := ?_)) | with_reducible apply RG.nil | with_reducible apply W.seq | with_reducible apply W.reg | with_reducible apply W.skip | with_reducible apply W.block | with_reducible apply W.drw | with_reducible apply DG.nil | (with_reducible refine W.done (QB.n ?_))))
  refine W.cnd (fun h1 => ?_) (fun h1 => ?_)
  · have hij : i < j := by simp at h1; omega
    clear h1
    have hh : IntKind.i64.wrap (Int.fdiv ((i : Int) + (j : Int)) (2 ^ min (1 : Int).toNat IntKind.u64.bits)) = (((i + j) / 2 : Nat) : Int) := by
      have e1 : min (1 : Int).toNat IntKind.u64.bits = 1 := rfl
      rw [e1, Int.fdiv_eq_ediv_of_nonneg _ (by decide)]
      rw [w_i64 (by omega)]
      omega
    obtain ⟨h, hhh⟩ : ∃ h, (i + j) / 2 = h := ⟨_, rfl⟩
    rw [hhh] at hh
    have hhl : h < l.length := by omega
    have hE := rt_at l h hhl (j := ((h : Nat) : Int).toNat) (by simp)
    have hrk := hok _ (List.getElem_mem hhl)
    have hlt := hlt h hhl
    have hge := hge h hhl
    generalize l[h] = e at hE hrk hlt hge
    have co := orderK_ok hrk hr
    unfold rt at co
    by_cases hk : e.key < r.key
    · rw [sgn_lt hk] at co
      have hp1 : h + 1 ≤ p := by
        rcases Nat.lt_or_ge h p with q | q
        · omega
        · have := hge q; omega
      clear hge hlt hF1 hF2
      (repeat (first | ((with_reducible show RG _ _ (_ :: _) _ _ _); refine RG.go1 (k := ?_)) | ((with_reducible show DG _ _ (_ :: _) _ _ _ _ _); refine DG.go1 (k := ?_)) | with_reducible apply RG.nil | with_reducible apply W.seq | with_reducible apply W.reg | with_reducible apply W.skip | with_reducible apply W.block | with_reducible apply W.drw | with_reducible apply DG.nil | (with_reducible refine W.done (QB.n ?_)) | refine W.cndT ?_ | refine W.cndF ?_))
      rw [hh]
      (repeat (first | ((with_reducible show RG _ _ (_ :: _) _ _ _); refine RG.go1 (k := ?_)) | ((with_reducible show DG _ _ (_ :: _) _ _ _ _ _); refine DG.go1 (k := ?_)) | with_reducible apply RG.nil | with_reducible apply W.seq | with_reducible apply W.reg | with_reducible apply W.skip | with_reducible apply W.block | with_reducible apply W.drw | with_reducible apply DG.nil | (with_reducible refine W.done (QB.n ?_)) | refine W.cndT ?_ | refine W.cndF ?_))
      (first | ((with_reducible show RG _ _ (_ :: _) _ _ _); refine RG.ew (cptr_of (hE) (by (conv => lhs; whnf) <;> exact rfl)) (k := ?_)) | ((with_reducible show DG _ _ (_ :: _) _ _ _ _ _); refine DG.ew (cptr_of (hE) (by (conv => lhs; whnf) <;> exact rfl)) (k := ?_)))
      (repeat (first | ((with_reducible show RG _ _ (_ :: _) _ _ _); refine RG.go1 (k := ?_)) | ((with_reducible show DG _ _ (_ :: _) _ _ _ _ _); refine DG.go1 (k := ?_)) | with_reducible apply RG.nil | with_reducible apply W.seq | with_reducible apply W.reg | with_reducible apply W.skip | with_reducible apply W.block | with_reducible apply W.drw | with_reducible apply DG.nil | (with_reducible refine W.done (QB.n ?_)) | refine W.cndT ?_ | refine W.cndF ?_))
      (first | ((with_reducible show RG _ _ (_ :: _) _ _ _); refine RG.cav (co) (k := ?_)) | ((with_reducible show DG _ _ (_ :: _) _ _ _ _ _); refine DG.cav (co) (k := ?_)))
      (repeat (first | ((with_reducible show RG _ _ (_ :: _) _ _ _); refine RG.go1 (k := ?_)) | ((with_reducible show DG _ _ (_ :: _) _ _ _ _ _); refine DG.go1 (k := ?_)) | with_reducible apply RG.nil | with_reducible apply W.seq | with_reducible apply W.reg | with_reducible apply W.skip | with_reducible apply W.block | with_reducible apply W.drw | with_reducible apply DG.nil | (with_reducible refine W.done (QB.n ?_)) | refine W.cndT ?_ | refine W.cndF ?_))
      refine W.done (QL.n (⟨⟨h + 1, j⟩, by dsimp only; omega, by dsimp only; omega, by dsimp only; omega⟩) ?_ ?_)
      · exact Wk.rn ([0] ) ( [])
      · dsimp only; omega
    · have hs0 : 0 ≤ sgn e.key r.key := by unfold sgn; rw [if_neg hk]; split <;> decide
      have hp1 : p ≤ h := by
        rcases Nat.lt_or_ge h p with q | q
        · have := hlt q; omega
        · omega
      generalize sgn e.key r.key = sg at co hs0
      clear hge hlt hF1 hF2
      (repeat (first | ((with_reducible show RG _ _ (_ :: _) _ _ _); refine RG.go1 (k := ?_)) | ((with_reducible show DG _ _ (_ :: _) _ _ _ _ _); refine DG.go1 (k := ?_)) | with_reducible apply RG.nil | with_reducible apply W.seq | with_reducible apply W.reg | with_reducible apply W.skip | with_reducible apply W.block | with_reducible apply W.drw | with_reducible apply DG.nil | (with_reducible refine W.done (QB.n ?_)) | refine W.cndT ?_ | refine W.cndF ?_))
      rw [hh]
      (repeat (first | ((with_reducible show RG _ _ (_ :: _) _ _ _); refine RG.go1 (k := ?_)) | ((with_reducible show DG _ _ (_ :: _) _ _ _ _ _); refine DG.go1 (k := ?_)) | with_reducible apply RG.nil | with_reducible apply W.seq | with_reducible apply W.reg | with_reducible apply W.skip | with_reducible apply W.block | with_reducible apply W.drw | with_reducible apply DG.nil | (with_reducible refine W.done (QB.n ?_)) | refine W.cndT ?_ | refine W.cndF ?_))
      (first | ((with_reducible show RG _ _ (_ :: _) _ _ _); refine RG.ew (cptr_of (hE) (by (conv => lhs; whnf) <;> exact rfl)) (k := ?_)) | ((with_reducible show DG _ _ (_ :: _) _ _ _ _ _); refine DG.ew (cptr_of (hE) (by (conv => lhs; whnf) <;> exact rfl)) (k := ?_)))
      (repeat (first | ((with_reducible show RG _ _ (_ :: _) _ _ _); refine RG.go1 (k := ?_)) | ((with_reducible show DG _ _ (_ :: _) _ _ _ _ _); refine DG.go1 (k := ?_)) | with_reducible apply RG.nil | with_reducible apply W.seq | with_reducible apply W.reg | with_reducible apply W.skip | with_reducible apply W.block | with_reducible apply W.drw | with_reducible apply DG.nil | (with_reducible refine W.done (QB.n ?_)) | refine W.cndT ?_ | refine W.cndF ?_))
      (first | ((with_reducible show RG _ _ (_ :: _) _ _ _); refine RG.cav (co) (k := ?_)) | ((with_reducible show DG _ _ (_ :: _) _ _ _ _ _); refine DG.cav (co) (k := ?_)))
      (repeat (first | ((with_reducible show RG _ _ (_ :: _) _ _ _); refine RG.go1 (k := ?_)) | ((with_reducible show DG _ _ (_ :: _) _ _ _ _ _); refine DG.go1 (k := ?_)) | with_reducible apply RG.nil | with_reducible apply W.seq | with_reducible apply W.reg | with_reducible apply W.skip | with_reducible apply W.block | with_reducible apply W.drw | with_reducible apply DG.nil | (with_reducible refine W.done (QB.n ?_)) | refine W.cndT ?_ | refine W.cndF ?_))
      refine W.done (QL.n (⟨⟨i, h⟩, by dsimp only; omega, by dsimp only; omega, by dsimp only; omega⟩) ?_ ?_)
      · exact Wk.rn ([0] ) ( [])
      · dsimp only; omega
  have hip : i = p := by simp at h1; omega
  subst hip
  clear h1
  (refine W.exit ?_; (repeat (first | (with_reducible first | refine QL.x ?_ | refine QC.x ?_ | refine QB.x ?_) | (with_reducible refine QB.o (by decide) ?_))))
  by_cases hpl : i < l.length
  · have hE := rt_at l i hpl (j := ((i : Nat) : Int).toNat) (by simp)
    have hrk := hok _ (List.getElem_mem hpl)
    have hF1 := hF1 hpl
    generalize l[i] = e at hE hrk hF1
    have co := orderK_ok hrk hr
    unfold rt at co
    by_cases hk : e.key = r.key
    · rw [sgn_eq hk] at co
      rw [decide_eq_true hk] at hF1
      subst hF1
      clear hF2 hlt hge
      (repeat (first | ((with_reducible show RG _ _ (_ :: _) _ _ _); refine RG.go1 (k := ?_)) | ((with_reducible show DG _ _ (_ :: _) _ _ _ _ _); refine DG.go1 (k := ?_)) | with_reducible apply RG.nil | with_reducible apply W.seq | with_reducible apply W.reg | with_reducible apply W.skip | with_reducible apply W.block | with_reducible apply W.drw | with_reducible apply DG.nil | (with_reducible refine W.done (QB.n ?_)) | refine W.cndT ?_ | refine W.cndF ?_))
      (first | ((with_reducible show RG _ _ (_ :: _) _ _ _); refine RG.ewg (cptr_of (hE) (by (conv => lhs; whnf) <;> exact rfl)) (k := ?_)) | ((with_reducible show DG _ _ (_ :: _) _ _ _ _ _); refine DG.ewg (cptr_of (hE) (by (conv => lhs; whnf) <;> exact rfl)) (k := ?_)))
      (repeat (first | ((with_reducible show RG _ _ (_ :: _) _ _ _); refine RG.go1 (k := ?_)) | ((with_reducible show DG _ _ (_ :: _) _ _ _ _ _); refine DG.go1 (k := ?_)) | with_reducible apply RG.nil | with_reducible apply W.seq | with_reducible apply W.reg | with_reducible apply W.skip | with_reducible apply W.block | with_reducible apply W.drw | with_reducible apply DG.nil | (with_reducible refine W.done (QB.n ?_)) | refine W.cndT ?_ | refine W.cndF ?_))
      (first | ((with_reducible show RG _ _ (_ :: _) _ _ _); refine RG.gcav (fun _ => co) (k := ?_)) | ((with_reducible show DG _ _ (_ :: _) _ _ _ _ _); refine DG.gcav (fun _ => co) (k := ?_)))
      (repeat (first | ((with_reducible show RG _ _ (_ :: _) _ _ _); refine RG.go1 (k := ?_)) | ((with_reducible show DG _ _ (_ :: _) _ _ _ _ _); refine DG.go1 (k := ?_)) | with_reducible apply RG.nil | with_reducible apply W.seq | with_reducible apply W.reg | with_reducible apply W.skip | with_reducible apply W.block | with_reducible apply W.drw | with_reducible apply DG.nil | (with_reducible refine W.done (QB.n ?_)) | refine W.cndT ?_ | refine W.cndF ?_))
      (refine W.ret ?_; (repeat (with_reducible first | refine QB.r ?_ | refine QL.r ?_ | refine QC.r ?_)); refine QF.r ?_)
      exact RetOk.rs (vs := [_, _]) r_slices_BinarySearchFunc__caravel_api_Route_caravel_api_Route_caravel_api_Route []
    · have hs0 : sgn e.key r.key ≠ 0 := by unfold sgn; split; decide; split; decide; omega
      rw [decide_eq_false hk] at hF1
      subst hF1
      generalize sgn e.key r.key = sg at co hs0
      clear hF2 hlt hge
      (repeat (first | ((with_reducible show RG _ _ (_ :: _) _ _ _); refine RG.go1 (k := ?_)) | ((with_reducible show DG _ _ (_ :: _) _ _ _ _ _); refine DG.go1 (k := ?_)) | with_reducible apply RG.nil | with_reducible apply W.seq | with_reducible apply W.reg | with_reducible apply W.skip | with_reducible apply W.block | with_reducible apply W.drw | with_reducible apply DG.nil | (with_reducible refine W.done (QB.n ?_)) | refine W.cndT ?_ | refine W.cndF ?_))
      (first | ((with_reducible show RG _ _ (_ :: _) _ _ _); refine RG.ewg (cptr_of (hE) (by (conv => lhs; whnf) <;> exact rfl)) (k := ?_)) | ((with_reducible show DG _ _ (_ :: _) _ _ _ _ _); refine DG.ewg (cptr_of (hE) (by (conv => lhs; whnf) <;> exact rfl)) (k := ?_)))
      (repeat (first | ((with_reducible show RG _ _ (_ :: _) _ _ _); refine RG.go1 (k := ?_)) | ((with_reducible show DG _ _ (_ :: _) _ _ _ _ _); refine DG.go1 (k := ?_)) | with_reducible apply RG.nil | with_reducible apply W.seq | with_reducible apply W.reg | with_reducible apply W.skip | with_reducible apply W.block | with_reducible apply W.drw | with_reducible apply DG.nil | (with_reducible refine W.done (QB.n ?_)) | refine W.cndT ?_ | refine W.cndF ?_))
      (first | ((with_reducible show RG _ _ (_ :: _) _ _ _); refine RG.gcav (fun _ => co) (k := ?_)) | ((with_reducible show DG _ _ (_ :: _) _ _ _ _ _); refine DG.gcav (fun _ => co) (k := ?_)))
      (repeat (first | ((with_reducible show RG _ _ (_ :: _) _ _ _); refine RG.go1 (k := ?_)) | ((with_reducible show DG _ _ (_ :: _) _ _ _ _ _); refine DG.go1 (k := ?_)) | with_reducible apply RG.nil | with_reducible apply W.seq | with_reducible apply W.reg | with_reducible apply W.skip | with_reducible apply W.block | with_reducible apply W.drw | with_reducible apply DG.nil | (with_reducible refine W.done (QB.n ?_)) | refine W.cndT ?_ | refine W.cndF ?_))
      (refine W.ret ?_; (repeat (with_reducible first | refine QB.r ?_ | refine QL.r ?_ | refine QC.r ?_)); refine QF.r ?_)
      exact RetOk.rs (vs := [_, _]) r_slices_BinarySearchFunc__caravel_api_Route_caravel_api_Route_caravel_api_Route []
  · have hF2 := hF2 (by omega)
    subst hF2
    clear hF1 hlt hge
    (repeat (first | ((with_reducible show RG _ _ (_ :: _) _ _ _); refine RG.go1 (k := ?_)) | ((with_reducible show DG _ _ (_ :: _) _ _ _ _ _); refine DG.go1 (k := ?_)) | with_reducible apply RG.nil | with_reducible apply W.seq | with_reducible apply W.reg | with_reducible apply W.skip | with_reducible apply W.block | with_reducible apply W.drw | with_reducible apply DG.nil | (with_reducible refine W.done (QB.n ?_)) | refine W.cndT ?_ | refine W.cndF ?_))
    (refine W.ret ?_; (repeat (with_reducible first | refine QB.r ?_ | refine QL.r ?_ | refine QC.r ?_)); refine QF.r ?_)
    exact RetOk.rs (vs := [_, _]) r_slices_BinarySearchFunc__caravel_api_Route_caravel_api_Route_caravel_api_Route []
structure AR where
  l : List Rt
  e : Int
def radd (l : List Rt) (r : Rt) : AR :=
  if r.b < 0 ∨ 32 < r.b then ⟨l, 1⟩ else if fnd l r.m.key = true then ⟨l, 9⟩ else if 8 ≤ l.length then ⟨l, 5⟩
  else ⟨l.take (pos l r.m.key) ++ r.m :: l.drop (pos l r.m.key), 0⟩
theorem add_ok (l : List Rt) (hl : l.length ≤ 1000) (hok : ∀ r ∈ l, r.Ok) (hs : Srt l) (r : Rt) (hr : r.Ok) :
    ACall Try.prog 16 [.sl true 9 (l.map rt), rt r] (.tup [.sl false 9 ((radd l r).l.map rt), .int .i64 (radd l r).e]) [] := by
  have el := rt_len l
  have cc := rtClone_ok l (by omega)
  have hrb := hr.b
  unfold radd
  by_cases h1 : r.b < 0 ∨ 32 < r.b
  · rw [if_pos h1, show rt r = .agg [.int .u8 r.n0, .int .u8 r.n1, .int .u8 r.n2, .int .u8 r.n3, .int .i64 r.b, .int .u8 r.v0, .int .u8 r.v1, .int .u8 r.v2, .int .u8 r.v3] from rfl]
    rcases h1 with h | h
    · refine acall_walk (N := 45) Try.func16 (by kernel_rfl) p_route_Add rfl ?_; unfold c_route_Add; dsimp only [enum, Nat.reduceAdd]
      (repeat (first | ((with_reducible show RG _ _ (_ :: _) _ _ _); refine RG.go1 (k := ?_)) | ((with_reducible show DG _ _ (_ :: _) _ _ _ _ _); refine DG.go1 (k := ?_)) | with_reducible apply RG.nil | with_reducible apply W.seq | with_reducible apply W.reg | with_reducible apply W.skip | with_reducible apply W.block | with_reducible apply W.drw | with_reducible apply DG.nil | (with_reducible refine W.done (QB.n ?_)) | refine W.cndT ?_ | refine W.cndF ?_))
      (first | ((with_reducible show RG _ _ (_ :: _) _ _ _); refine RG.ca (cc) (k := ?_)) | ((with_reducible show DG _ _ (_ :: _) _ _ _ _ _); refine DG.ca (cc) (k := ?_)))
      (repeat (first | ((with_reducible show RG _ _ (_ :: _) _ _ _); refine RG.go1 (k := ?_)) | ((with_reducible show DG _ _ (_ :: _) _ _ _ _ _); refine DG.go1 (k := ?_)) | with_reducible apply RG.nil | with_reducible apply W.seq | with_reducible apply W.reg | with_reducible apply W.skip | with_reducible apply W.block | with_reducible apply W.drw | with_reducible apply DG.nil | (with_reducible refine W.done (QB.n ?_)) | refine W.cndT ?_ | refine W.cndF ?_))
      (refine W.ret ?_; (repeat (with_reducible first | refine QB.r ?_ | refine QL.r ?_ | refine QC.r ?_)); refine QF.r ?_)
      (refine RetOk.wk (Wk.frz (b := 0) rfl rfl) ?_; refine RetOk.wk (Wk.tmp (t := 4) (Cl.ice rfl rfl rfl (by first | assumption | decide | omega | (simp; (first | (all_goals fail) | fail)) | (simp <;> omega)) (by first | exact take_all _ | exact take_len (by first | (simp; (first | (all_goals fail) | fail)) | (simp <;> omega)) | exact rfl))) ?_; dsimp only [setO])
      exact RetOk.rs (vs := [_, _]) r_route_Add []
    · refine acall_walk (N := 45) Try.func16 (by kernel_rfl) p_route_Add rfl ?_; unfold c_route_Add; dsimp only [enum, Nat.reduceAdd]
      (repeat (first | ((with_reducible show RG _ _ (_ :: _) _ _ _); refine RG.go1 (k := ?_)) | ((with_reducible show DG _ _ (_ :: _) _ _ _ _ _); refine DG.go1 (k := ?_)) | with_reducible apply RG.nil | with_reducible apply W.seq | with_reducible apply W.reg | with_reducible apply W.skip | with_reducible apply W.block | with_reducible apply W.drw | with_reducible apply DG.nil | (with_reducible refine W.done (QB.n ?_)) | refine W.cndT ?_ | refine W.cndF ?_))
      (first | ((with_reducible show RG _ _ (_ :: _) _ _ _); refine RG.ca (cc) (k := ?_)) | ((with_reducible show DG _ _ (_ :: _) _ _ _ _ _); refine DG.ca (cc) (k := ?_)))
      (repeat (first | ((with_reducible show RG _ _ (_ :: _) _ _ _); refine RG.go1 (k := ?_)) | ((with_reducible show DG _ _ (_ :: _) _ _ _ _ _); refine DG.go1 (k := ?_)) | with_reducible apply RG.nil | with_reducible apply W.seq | with_reducible apply W.reg | with_reducible apply W.skip | with_reducible apply W.block | with_reducible apply W.drw | with_reducible apply DG.nil | (with_reducible refine W.done (QB.n ?_)) | refine W.cndT ?_ | refine W.cndF ?_))
      (refine W.ret ?_; (repeat (with_reducible first | refine QB.r ?_ | refine QL.r ?_ | refine QC.r ?_)); refine QF.r ?_)
      (refine RetOk.wk (Wk.frz (b := 0) rfl rfl) ?_; refine RetOk.wk (Wk.tmp (t := 4) (Cl.ice rfl rfl rfl (by first | assumption | decide | omega | (simp; (first | (all_goals fail) | fail)) | (simp <;> omega)) (by first | exact take_all _ | exact take_len (by first | (simp; (first | (all_goals fail) | fail)) | (simp <;> omega)) | exact rfl))) ?_; dsimp only [setO])
      exact RetOk.rs (vs := [_, _]) r_route_Add []
  rw [if_neg h1]
  have h1 : 0 ≤ r.b ∧ r.b ≤ 32 := by omega
  have cm := maskR_ok hr h1
  have cb := binS_ok l hl hok hs r.m hr.m
  have ci := rtIns_ok l (by omega) (pos l r.m.key) (pos_le _ _) r.m
  rw [show rt r.m = .agg [.int .u8 r.m.n0, .int .u8 r.m.n1, .int .u8 r.m.n2, .int .u8 r.m.n3, .int .i64 r.b, .int .u8 r.v0, .int .u8 r.v1, .int .u8 r.v2, .int .u8 r.v3] from rfl] at cb
  rw [show r.m.b = r.b from rfl, show r.m.v0 = r.v0 from rfl, show r.m.v1 = r.v1 from rfl, show r.m.v2 = r.v2 from rfl, show r.m.v3 = r.v3 from rfl] at ci
  have hins : (l.take (pos l r.m.key) ++ r.m :: l.drop (pos l r.m.key)).length = l.length + 1 := by
    have := pos_le l r.m.key
    simp; omega
  rw [show rt r = .agg [.int .u8 r.n0, .int .u8 r.n1, .int .u8 r.n2, .int .u8 r.n3, .int .i64 r.b, .int .u8 r.v0, .int .u8 r.v1, .int .u8 r.v2, .int .u8 r.v3] from rfl]
  generalize pos l r.m.key = p at *
  generalize l.take p ++ r.m :: l.drop p = L at *
  have eL := rt_len L
  cases hf : fnd l r.m.key
  · rw [hf] at cb
    rw [if_neg (by decide)]
    by_cases h8 : 8 ≤ l.length
    · rw [if_pos h8]
      refine acall_walk (N := 45) Try.func16 (by kernel_rfl) p_route_Add rfl ?_; unfold c_route_Add; dsimp only [enum, Nat.reduceAdd]
      (repeat (first | ((with_reducible show RG _ _ (_ :: _) _ _ _); refine RG.go1 (k := ?_)) | ((with_reducible show DG _ _ (_ :: _) _ _ _ _ _); refine DG.go1 (k := ?_)) | with_reducible apply RG.nil | with_reducible apply W.seq | with_reducible apply W.reg | with_reducible apply W.skip | with_reducible apply W.block | with_reducible apply W.drw | with_reducible apply DG.nil | (with_reducible refine W.done (QB.n ?_)) | refine W.cndT ?_ | refine W.cndF ?_))
      (first | ((with_reducible show RG _ _ (_ :: _) _ _ _); refine RG.ca (cc) (k := ?_)) | ((with_reducible show DG _ _ (_ :: _) _ _ _ _ _); refine DG.ca (cc) (k := ?_)))
      (repeat (first | ((with_reducible show RG _ _ (_ :: _) _ _ _); refine RG.go1 (k := ?_)) | ((with_reducible show DG _ _ (_ :: _) _ _ _ _ _); refine DG.go1 (k := ?_)) | with_reducible apply RG.nil | with_reducible apply W.seq | with_reducible apply W.reg | with_reducible apply W.skip | with_reducible apply W.block | with_reducible apply W.drw | with_reducible apply DG.nil | (with_reducible refine W.done (QB.n ?_)) | refine W.cndT ?_ | refine W.cndF ?_))
      (first | ((with_reducible show RG _ _ (_ :: _) _ _ _); refine RG.ca (cm) (k := ?_)) | ((with_reducible show DG _ _ (_ :: _) _ _ _ _ _); refine DG.ca (cm) (k := ?_)))
      (repeat (first | ((with_reducible show RG _ _ (_ :: _) _ _ _); refine RG.go1 (k := ?_)) | ((with_reducible show DG _ _ (_ :: _) _ _ _ _ _); refine DG.go1 (k := ?_)) | with_reducible apply RG.nil | with_reducible apply W.seq | with_reducible apply W.reg | with_reducible apply W.skip | with_reducible apply W.block | with_reducible apply W.drw | with_reducible apply DG.nil | (with_reducible refine W.done (QB.n ?_)) | refine W.cndT ?_ | refine W.cndF ?_))
      (first | ((with_reducible show RG _ _ (_ :: _) _ _ _); refine RG.ca (cb) (k := ?_)) | ((with_reducible show DG _ _ (_ :: _) _ _ _ _ _); refine DG.ca (cb) (k := ?_)))
      (repeat (first | ((with_reducible show RG _ _ (_ :: _) _ _ _); refine RG.go1 (k := ?_)) | ((with_reducible show DG _ _ (_ :: _) _ _ _ _ _); refine DG.go1 (k := ?_)) | with_reducible apply RG.nil | with_reducible apply W.seq | with_reducible apply W.reg | with_reducible apply W.skip | with_reducible apply W.block | with_reducible apply W.drw | with_reducible apply DG.nil | (with_reducible refine W.done (QB.n ?_)) | refine W.cndT ?_ | refine W.cndF ?_))
      (refine W.ret ?_; (repeat (with_reducible first | refine QB.r ?_ | refine QL.r ?_ | refine QC.r ?_)); refine QF.r ?_)
      (refine RetOk.wk (Wk.frz (b := 0) rfl rfl) ?_; refine RetOk.wk (Wk.tmp (t := 4) (Cl.ice rfl rfl rfl (by first | assumption | decide | omega | (simp; (first | (all_goals fail) | fail)) | (simp <;> omega)) (by first | exact take_all _ | exact take_len (by first | (simp; (first | (all_goals fail) | fail)) | (simp <;> omega)) | exact rfl))) ?_; dsimp only [setO])
      exact RetOk.rs (vs := [_, _]) r_route_Add []
    · rw [if_neg h8]
      refine acall_walk (N := 45) Try.func16 (by kernel_rfl) p_route_Add rfl ?_; unfold c_route_Add; dsimp only [enum, Nat.reduceAdd]
      (repeat (first | ((with_reducible show RG _ _ (_ :: _) _ _ _); refine RG.go1 (k := ?_)) | ((with_reducible show DG _ _ (_ :: _) _ _ _ _ _); refine DG.go1 (k := ?_)) | with_reducible apply RG.nil | with_reducible apply W.seq | with_reducible apply W.reg | with_reducible apply W.skip | with_reducible apply W.block | with_reducible apply W.drw | with_reducible apply DG.nil | (with_reducible refine W.done (QB.n ?_)) | refine W.cndT ?_ | refine W.cndF ?_))
      (first | ((with_reducible show RG _ _ (_ :: _) _ _ _); refine RG.ca (cc) (k := ?_)) | ((with_reducible show DG _ _ (_ :: _) _ _ _ _ _); refine DG.ca (cc) (k := ?_)))
      (repeat (first | ((with_reducible show RG _ _ (_ :: _) _ _ _); refine RG.go1 (k := ?_)) | ((with_reducible show DG _ _ (_ :: _) _ _ _ _ _); refine DG.go1 (k := ?_)) | with_reducible apply RG.nil | with_reducible apply W.seq | with_reducible apply W.reg | with_reducible apply W.skip | with_reducible apply W.block | with_reducible apply W.drw | with_reducible apply DG.nil | (with_reducible refine W.done (QB.n ?_)) | refine W.cndT ?_ | refine W.cndF ?_))
      (first | ((with_reducible show RG _ _ (_ :: _) _ _ _); refine RG.ca (cm) (k := ?_)) | ((with_reducible show DG _ _ (_ :: _) _ _ _ _ _); refine DG.ca (cm) (k := ?_)))
      (repeat (first | ((with_reducible show RG _ _ (_ :: _) _ _ _); refine RG.go1 (k := ?_)) | ((with_reducible show DG _ _ (_ :: _) _ _ _ _ _); refine DG.go1 (k := ?_)) | with_reducible apply RG.nil | with_reducible apply W.seq | with_reducible apply W.reg | with_reducible apply W.skip | with_reducible apply W.block | with_reducible apply W.drw | with_reducible apply DG.nil | (with_reducible refine W.done (QB.n ?_)) | refine W.cndT ?_ | refine W.cndF ?_))
      (first | ((with_reducible show RG _ _ (_ :: _) _ _ _); refine RG.ca (cb) (k := ?_)) | ((with_reducible show DG _ _ (_ :: _) _ _ _ _ _); refine DG.ca (cb) (k := ?_)))
      (repeat (first | ((with_reducible show RG _ _ (_ :: _) _ _ _); refine RG.go1 (k := ?_)) | ((with_reducible show DG _ _ (_ :: _) _ _ _ _ _); refine DG.go1 (k := ?_)) | with_reducible apply RG.nil | with_reducible apply W.seq | with_reducible apply W.reg | with_reducible apply W.skip | with_reducible apply W.block | with_reducible apply W.drw | with_reducible apply DG.nil | (with_reducible refine W.done (QB.n ?_)) | refine W.cndT ?_ | refine W.cndF ?_))
      (refine RG.mca ([]) ([0]) (ci) (k := ?_))
      (repeat (first | ((with_reducible show RG _ _ (_ :: _) _ _ _); refine RG.go1 (k := ?_)) | ((with_reducible show DG _ _ (_ :: _) _ _ _ _ _); refine DG.go1 (k := ?_)) | with_reducible apply RG.nil | with_reducible apply W.seq | with_reducible apply W.reg | with_reducible apply W.skip | with_reducible apply W.block | with_reducible apply W.drw | with_reducible apply DG.nil | (with_reducible refine W.done (QB.n ?_)) | refine W.cndT ?_ | refine W.cndF ?_))
      rw [← hins]
      (refine W.ret ?_; (repeat (with_reducible first | refine QB.r ?_ | refine QL.r ?_ | refine QC.r ?_)); refine QF.r ?_)
      (refine RetOk.wk (Wk.frz (b := 2) rfl rfl) ?_; refine RetOk.wk (Wk.tmp (t := 4) (Cl.ice rfl rfl rfl (by first | assumption | decide | omega | (simp; (first | (all_goals fail) | fail)) | (simp <;> omega)) (by first | exact take_all _ | exact take_len (by first | (simp; (first | (all_goals fail) | fail)) | (simp <;> omega)) | exact rfl))) ?_; dsimp only [setO])
      exact RetOk.rs (vs := [_, _]) r_route_Add []
  · rw [hf] at cb
    rw [if_pos rfl]
    refine acall_walk (N := 45) Try.func16 (by kernel_rfl) p_route_Add rfl ?_; unfold c_route_Add; dsimp only [enum, Nat.reduceAdd]
    (repeat (first | ((with_reducible show RG _ _ (_ :: _) _ _ _); refine RG.go1 (k := ?_)) | ((with_reducible show DG _ _ (_ :: _) _ _ _ _ _); refine DG.go1 (k := ?_)) | with_reducible apply RG.nil | with_reducible apply W.seq | with_reducible apply W.reg | with_reducible apply W.skip | with_reducible apply W.block | with_reducible apply W.drw | with_reducible apply DG.nil | (with_reducible refine W.done (QB.n ?_)) | refine W.cndT ?_ | refine W.cndF ?_))
    (first | ((with_reducible show RG _ _ (_ :: _) _ _ _); refine RG.ca (cc) (k := ?_)) | ((with_reducible show DG _ _ (_ :: _) _ _ _ _ _); refine DG.ca (cc) (k := ?_)))
    (repeat (first | ((with_reducible show RG _ _ (_ :: _) _ _ _); refine RG.go1 (k := ?_)) | ((with_reducible show DG _ _ (_ :: _) _ _ _ _ _); refine DG.go1 (k := ?_)) | with_reducible apply RG.nil | with_reducible apply W.seq | with_reducible apply W.reg | with_reducible apply W.skip | with_reducible apply W.block | with_reducible apply W.drw | with_reducible apply DG.nil | (with_reducible refine W.done (QB.n ?_)) | refine W.cndT ?_ | refine W.cndF ?_))
    (first | ((with_reducible show RG _ _ (_ :: _) _ _ _); refine RG.ca (cm) (k := ?_)) | ((with_reducible show DG _ _ (_ :: _) _ _ _ _ _); refine DG.ca (cm) (k := ?_)))
    (repeat (first | ((with_reducible show RG _ _ (_ :: _) _ _ _); refine RG.go1 (k := ?_)) | ((with_reducible show DG _ _ (_ :: _) _ _ _ _ _); refine DG.go1 (k := ?_)) | with_reducible apply RG.nil | with_reducible apply W.seq | with_reducible apply W.reg | with_reducible apply W.skip | with_reducible apply W.block | with_reducible apply W.drw | with_reducible apply DG.nil | (with_reducible refine W.done (QB.n ?_)) | refine W.cndT ?_ | refine W.cndF ?_))
    (first | ((with_reducible show RG _ _ (_ :: _) _ _ _); refine RG.ca (cb) (k := ?_)) | ((with_reducible show DG _ _ (_ :: _) _ _ _ _ _); refine DG.ca (cb) (k := ?_)))
    (repeat (first | ((with_reducible show RG _ _ (_ :: _) _ _ _); refine RG.go1 (k := ?_)) | ((with_reducible show DG _ _ (_ :: _) _ _ _ _ _); refine DG.go1 (k := ?_)) | with_reducible apply RG.nil | with_reducible apply W.seq | with_reducible apply W.reg | with_reducible apply W.skip | with_reducible apply W.block | with_reducible apply W.drw | with_reducible apply DG.nil | (with_reducible refine W.done (QB.n ?_)) | refine W.cndT ?_ | refine W.cndF ?_))
    (refine W.ret ?_; (repeat (with_reducible first | refine QB.r ?_ | refine QL.r ?_ | refine QC.r ?_)); refine QF.r ?_)
    (refine RetOk.wk (Wk.frz (b := 0) rfl rfl) ?_; refine RetOk.wk (Wk.tmp (t := 4) (Cl.ice rfl rfl rfl (by first | assumption | decide | omega | (simp; (first | (all_goals fail) | fail)) | (simp <;> omega)) (by first | exact take_all _ | exact take_len (by first | (simp; (first | (all_goals fail) | fail)) | (simp <;> omega)) | exact rfl))) ?_; dsimp only [setO])
    exact RetOk.rs (vs := [_, _]) r_route_Add []
end Go.Proofs.Yteljhabahaimpaa
