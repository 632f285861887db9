/- The document: Add, Del, Same; route.Del. -/
import Derived.Test.YteljhabahaimpaaRsb
namespace Go.Proofs.Yteljhabahaimpaa
open Go.RowKit
set_option linter.unusedVariables false
set_option linter.unusedSimpArgs false
set_option maxRecDepth 100000
set_option maxHeartbeats 4000000
theorem rtE (r : Rt) : rt r = .agg [.int .u8 r.n0, .int .u8 r.n1, .int .u8 r.n2, .int .u8 r.n3, .int .i64 r.b, .int .u8 r.v0, .int .u8 r.v1, .int .u8 r.v2, .int .u8 r.v3] := rfl
def netB (x y : Rt) : Bool := decide (x.n0 = y.n0) && (decide (x.n1 = y.n1) && (decide (x.n2 = y.n2) && (decide (x.n3 = y.n3) && true)))
theorem netB_q (x y : Rt) : eqTs [0, 0, 0, 0] [.int .u8 x.n0, .int .u8 x.n1, .int .u8 x.n2, .int .u8 x.n3] [.int .u8 y.n0, .int .u8 y.n1, .int .u8 y.n2, .int .u8 y.n3] = some (netB x y) := eqts_i (eqts_i (eqts_i (eqts_i eqts_nil)))
theorem netB_key {x y : Rt} (hx : x.Ok) (hy : y.Ok) : (netB x y = true ∧ x.b = y.b) ↔ x.key = y.key := by
  rw [key_eq hx hy]
  unfold netB
  simp only [Bool.and_eq_true, decide_eq_true_eq, and_true]
  constructor
  · rintro ⟨⟨a, b, c, d⟩, e⟩; exact ⟨a, b, c, d, e⟩
  · rintro ⟨a, b, c, d, e⟩; exact ⟨⟨a, b, c, d⟩, e⟩
/-- What the document has laid behind i rounds. -/
def laidAt (l : List Rt) (p : Nat) (x : Rt) (i : Nat) : List Rt := if p < i then l.take p ++ x :: (l.drop p).take (i - p) else l.take i
theorem laid_0 (l : List Rt) (p : Nat) (x : Rt) : laidAt l p x 0 = [] := by unfold laidAt; rw [if_neg (by omega)]; rfl
theorem laid_lo {l : List Rt} {p : Nat} (x : Rt) {i : Nat} (hi : i < l.length) (h : i < p) : laidAt l p x (i + 1) = laidAt l p x i ++ [l[i]] := by
  unfold laidAt; rw [if_neg (by omega), if_neg (by omega), List.take_succ_eq_append_getElem hi]
theorem laid_at {l : List Rt} {p : Nat} (x : Rt) (hi : p < l.length) : laidAt l p x (p + 1) = (laidAt l p x p ++ [x]) ++ [l[p]] := by
  unfold laidAt; rw [if_pos (by omega), if_neg (by omega), show p + 1 - p = 1 by omega]
  have : (l.drop p).take 1 = [l[p]] := by rw [List.drop_eq_getElem_cons hi]; rfl
  rw [this]; simp
theorem laid_hi {l : List Rt} {p : Nat} (x : Rt) {i : Nat} (hi : i < l.length) (h : p < i) : laidAt l p x (i + 1) = laidAt l p x i ++ [l[i]] := by
  unfold laidAt
  rw [if_pos (by omega), if_pos h, show i + 1 - p = (i - p) + 1 by omega, List.take_succ_eq_append_getElem (by simp; omega), List.getElem_drop]
  simp only [show p + (i - p) = i by omega]
  simp
theorem laid_len {l : List Rt} {p : Nat} (x : Rt) {i : Nat} (hi : i ≤ l.length) : (laidAt l p x i).length ≤ i + 1 := by
  unfold laidAt; split
  · simp; omega
  · simp; omega
theorem laid_end {l : List Rt} {p : Nat} (x : Rt) (h : p < l.length) : laidAt l p x l.length = l.take p ++ x :: l.drop p := by
  unfold laidAt; rw [if_pos h, List.take_of_length_le (l := l.drop p) (by simp)]
theorem laid_end2 {l : List Rt} {p : Nat} (x : Rt) (h : p = l.length) : laidAt l p x l.length ++ [x] = l.take p ++ x :: l.drop p := by
  unfold laidAt; rw [if_neg (by omega), h, List.take_length, List.drop_length]
theorem rAdd_ok (l : List Rt) (hl : l.length ≤ 1000) (hok : ∀ r ∈ l, r.Ok) (hs : Srt l) (r : Rt) (hr : r.Ok) :
    ACall Try.prog 17 [.sl false 9 (l.map rt), rt r] (.tup [.sl false 9 ((radd l r).l.map rt), .int .i64 (radd l r).e]) [] := by
  have el := rt_len l
  have hrb := hr.b
  unfold radd
  by_cases h1 : r.b < 0 ∨ 32 < r.b
  · rw [if_pos h1, rtE]
    rcases h1 with h | h
    · refine acall_walk (N := 81) Try.func17 (by kernel_rfl) p_caravelref14_Add rfl ?_; unfold c_caravelref14_Add; dsimp only [enum, Nat.reduceAdd]
      (repeat (first | ((with_reducible show RG _ _ (_ :: _) _ _ _); refine RG.go1 (k := ?_)) | ((with_reducible show DG _ _ (_ :: _) _ _ _ _ _); refine DG.go1 (k := ?_)) | with_reducible apply RG.nil | with_reducible apply W.seq | with_reducible apply W.reg | with_reducible apply W.skip | with_reducible apply W.block | with_reducible apply W.drw | with_reducible apply DG.nil | (with_reducible refine W.done (QB.n ?_)) | refine W.cndT ?_ | refine W.cndF ?_))
      (refine W.ret ?_; (repeat (with_reducible first | refine QB.r ?_ | refine QL.r ?_ | refine QC.r ?_)); refine QF.r ?_)
      exact RetOk.rs (vs := [_, _]) r_caravelref14_Add []
    · refine acall_walk (N := 81) Try.func17 (by kernel_rfl) p_caravelref14_Add rfl ?_; unfold c_caravelref14_Add; dsimp only [enum, Nat.reduceAdd]
      (repeat (first | ((with_reducible show RG _ _ (_ :: _) _ _ _); refine RG.go1 (k := ?_)) | ((with_reducible show DG _ _ (_ :: _) _ _ _ _ _); refine DG.go1 (k := ?_)) | with_reducible apply RG.nil | with_reducible apply W.seq | with_reducible apply W.reg | with_reducible apply W.skip | with_reducible apply W.block | with_reducible apply W.drw | with_reducible apply DG.nil | (with_reducible refine W.done (QB.n ?_)) | refine W.cndT ?_ | refine W.cndF ?_))
      (refine W.ret ?_; (repeat (with_reducible first | refine QB.r ?_ | refine QL.r ?_ | refine QC.r ?_)); refine QF.r ?_)
      exact RetOk.rs (vs := [_, _]) r_caravelref14_Add []
  rw [if_neg h1]
  have h1 : 0 ≤ r.b ∧ r.b ≤ 32 := by omega
  have cm := MaskR_ok hr h1
  have hp := pos_le l r.m.key
  have hF1 := fun h => fnd_pos hs r.m.key h
  have hF2 := fun h => fnd_end (l := l) r.m.key h
  have hlt := fun (j : Nat) (hj : j < l.length) => pos_lt l r.m.key j hj
  have hge := fun (j : Nat) (hj : j < l.length) => pos_ge hs r.m.key j hj
  have hgt : ∀ j (hj : j < l.length), pos l r.m.key < j → r.m.key < l[j].key := fun j hj h => by
    have h1 := pos_ge hs r.m.key (pos l r.m.key) (by omega) (Nat.le_refl _)
    have h2 := hs _ j (by omega) hj h
    omega
  have hend : (if pos l r.m.key < l.length then laidAt l (pos l r.m.key) r.m l.length else laidAt l (pos l r.m.key) r.m l.length ++ [r.m]) = l.take (pos l r.m.key) ++ r.m :: l.drop (pos l r.m.key) := by
    split
    · rename_i q; exact laid_end r.m q
    · exact laid_end2 r.m (by omega)
  have hmok := hr.m
  rw [← hend]
  clear hend
  obtain ⟨p, hpp⟩ : ∃ p, pos l r.m.key = p := ⟨_, rfl⟩
  simp only [hpp] at hp hF1 hF2 hlt hge hgt ⊢
  have hfn : ∀ (j : Nat) (hj : j < l.length), l[j].key = r.m.key → fnd l r.m.key = true := fun j hj q => by
    unfold fnd; rw [List.any_eq_true]; exact ⟨_, List.getElem_mem hj, by simpa using q⟩
  have hf0 : (∀ (j : Nat) (hj : j < l.length), l[j].key ≠ r.m.key) → fnd l r.m.key = false := fun q => by
    unfold fnd
    rw [List.any_eq_false]
    intro x hx
    obtain ⟨j, hj, rfl⟩ := List.getElem_of_mem hx
    simpa using q j hj
  have hK : netB r.m r.m = true := by unfold netB; simp
  obtain ⟨R, hR⟩ : ∃ R : AR, (if fnd l r.m.key = true then ⟨l, 9⟩ else if 8 ≤ l.length then ⟨l, 5⟩ else ⟨if p < l.length then laidAt l p r.m l.length else laidAt l p r.m l.length ++ [r.m], 0⟩) = R := ⟨_, rfl⟩
  rw [hR, rtE]
  generalize hk : r.m.key = k at *
  clear hF1 hF2
  refine acall_walk (N := 81) Try.func17 (by kernel_rfl) p_caravelref14_Add rfl ?_; unfold c_caravelref14_Add; dsimp only [enum, Nat.reduceAdd]
  (repeat (first | ((with_reducible show RG _ _ (_ :: _) _ _ _); refine RG.go1 (k := ?_)) | ((with_reducible show DG _ _ (_ :: _) _ _ _ _ _); refine DG.go1 (k := ?_)) | with_reducible apply RG.nil | with_reducible apply W.seq | with_reducible apply W.reg | with_reducible apply W.skip | with_reducible apply W.block | with_reducible apply W.drw | with_reducible apply DG.nil | (with_reducible refine W.done (QB.n ?_)) | refine W.cndT ?_ | refine W.cndF ?_))
  (first | ((with_reducible show RG _ _ (_ :: _) _ _ _); refine RG.ca (cm) (k := ?_)) | ((with_reducible show DG _ _ (_ :: _) _ _ _ _ _); refine DG.ca (cm) (k := ?_)))
  (repeat (first | ((with_reducible show RG _ _ (_ :: _) _ _ _); refine RG.go1 (k := ?_)) | ((with_reducible show DG _ _ (_ :: _) _ _ _ _ _); refine DG.go1 (k := ?_)) | with_reducible apply RG.nil | with_reducible apply W.seq | with_reducible apply W.reg | with_reducible apply W.skip | with_reducible apply W.block | with_reducible apply W.drw | with_reducible apply DG.nil | (with_reducible refine W.done (QB.n ?_)) | refine W.cndT ?_ | refine W.cndF ?_))
  refine W.wk (Wk.nilT (t := 6) 9 rfl) ?_ (by simp)
  refine W.loop (ι := {i : Nat // i ≤ l.length ∧ ∀ (j : Nat) (hj : j < l.length), j < i → l[j].key ≠ k}) (fun i => ⟨[(8, .int .i64 i.1), (7, .bool (decide (p < i.1))), (6, .ref 0 9 0 (laidAt l p r.m i.1).length), (5, .int .i64 0), (0, .sl false 9 (l.map rt)), (3, .bptr 0 0)], [some [.int .u8 r.m.n0, .int .u8 r.m.n1, .int .u8 r.m.n2, .int .u8 r.m.n3, .int .i64 r.b, .int .u8 r.v0, .int .u8 r.v1, .int .u8 r.v2, .int .u8 r.v3]], [some ⟨false, 9, (laidAt l p r.m i.1).map rt⟩], 1, 1⟩) (fun i => l.length - i.1) ⟨0, Nat.zero_le _, fun j _ h => absurd h (Nat.not_lt_zero _)⟩ ?_ ?_
  · dsimp only
    rw [laid_0, decide_eq_false (by omega)]
    exact Wk.rn ([0] ) ( [0])
  rintro ⟨i, hi, hne⟩
  dsimp only
  have hll := laid_len (l := l) (p := p) r.m hi
  have hlr := rt_len (laidAt l p r.m i)
  have hlp := rt_pure (laidAt l p r.m i)
  (repeat (first | ((with_reducible show RG _ _ (_ :: _) _ _ _); refine RG.go1 (k := ?_)) | ((with_reducible show DG _ _ (_ :: _) _ _ _ _ _); refine DG.go1 (k := ?_)) | with_reducible apply RG.nil | with_reducible apply W.seq | with_reducible apply W.reg | with_reducible apply W.skip | with_reducible apply W.block | with_reducible apply W.drw | with_reducible apply DG.nil | (with_reducible refine W.done (QB.n ?_))))
  refine W.cnd (fun h1 => ?_) (fun h1 => ?_)
  · have hlt2 : i < l.length := by simp at h1; omega
    have hE := rt_at l i hlt2 (j := ((i : Nat) : Int).toNat) (by simp)
    have hrk := hok _ (List.getElem_mem hlt2)
    have hnext : l[i].key ≠ k → ∀ (j : Nat) (hj : j < l.length), j < i + 1 → l[j].key ≠ k := fun hf j hj hji => by
      rcases Nat.lt_or_ge j i with q | q
      · exact hne j hj q
      · obtain rfl : j = i := by omega
        exact hf
    have hfn := hfn i hlt2
    have hlo := laid_lo (p := p) r.m hlt2
    have hhi := laid_hi (p := p) r.m hlt2
    have hlt := hlt i hlt2
    have hgt := hgt i hlt2
    have hge := hge i hlt2
    have hat : i = p → laidAt l p r.m (i + 1) = (laidAt l p r.m i ++ [r.m]) ++ [l[i]] := fun q => by
      subst q; exact laid_at r.m hlt2
    clear h1
    generalize l[i] = e at hE hrk hnext hfn hlo hhi hat hlt hge hgt
    have hq := netB_q e r.m
    have hkk := netB_key hrk hmok
    rw [hk] at hkk
    have co := first_ok hmok hrk
    rw [hk, rtE r.m, rtE e] at co
    cases hB : netB e r.m
    · rw [hB] at hq hkk
      have hne2 : e.key ≠ k := fun q => by have := hkk.2 q; simp at this
      have hnext := hnext hne2
      rcases Nat.lt_trichotomy i p with q | q | q
      · have hlo := hlo q
        have hd0 : decide (p < i) = false := decide_eq_false (by omega)
        have hd1 : decide (p < i + 1) = false := decide_eq_false (by omega)
        rw [decide_eq_false (by have := hlt q; omega)] at co
        have hsn : (laidAt l p r.m i).map rt ++ [AV.agg [.int .u8 e.n0, .int .u8 e.n1, .int .u8 e.n2, .int .u8 e.n3, .int .i64 e.b, .int .u8 e.v0, .int .u8 e.v1, .int .u8 e.v2, .int .u8 e.v3]] = (laidAt l p r.m (i + 1)).map rt := by rw [hlo, List.map_append]; rfl
        have hsl : (laidAt l p r.m (i + 1)).length = (laidAt l p r.m i).length + 1 := by rw [hlo]; simp
        rw [hd0]
        clear hlo hhi hat hge hgt hlt
        (repeat (first | ((with_reducible show RG _ _ (_ :: _) _ _ _); refine RG.go1 (k := ?_)) | ((with_reducible show DG _ _ (_ :: _) _ _ _ _ _); refine DG.go1 (k := ?_)) | with_reducible apply RG.nil | with_reducible apply W.seq | with_reducible apply W.reg | with_reducible apply W.skip | with_reducible apply W.block | with_reducible apply W.drw | with_reducible apply DG.nil | (with_reducible refine W.done (QB.n ?_)) | refine W.cndT ?_ | refine W.cndF ?_))
        (first | ((with_reducible show RG _ _ (_ :: _) _ _ _); refine RG.ew (cptr_of (hE) (by (conv => lhs; whnf) <;> exact rfl)) (k := ?_)) | ((with_reducible show DG _ _ (_ :: _) _ _ _ _ _); refine DG.ew (cptr_of (hE) (by (conv => lhs; whnf) <;> exact rfl)) (k := ?_)))
        (repeat (first | ((with_reducible show RG _ _ (_ :: _) _ _ _); refine RG.go1 (k := ?_)) | ((with_reducible show DG _ _ (_ :: _) _ _ _ _ _); refine DG.go1 (k := ?_)) | with_reducible apply RG.nil | with_reducible apply W.seq | with_reducible apply W.reg | with_reducible apply W.skip | with_reducible apply W.block | with_reducible apply W.drw | with_reducible apply DG.nil | (with_reducible refine W.done (QB.n ?_)) | refine W.cndT ?_ | refine W.cndF ?_))
        (first | ((with_reducible show RG _ _ (_ :: _) _ _ _); refine RG.ewg (cptr_of (hE) (by (conv => lhs; whnf) <;> exact rfl)) (k := ?_)) | ((with_reducible show DG _ _ (_ :: _) _ _ _ _ _); refine DG.ewg (cptr_of (hE) (by (conv => lhs; whnf) <;> exact rfl)) (k := ?_)))
        (repeat (first | ((with_reducible show RG _ _ (_ :: _) _ _ _); refine RG.go1 (k := ?_)) | ((with_reducible show DG _ _ (_ :: _) _ _ _ _ _); refine DG.go1 (k := ?_)) | with_reducible apply RG.nil | with_reducible apply W.seq | with_reducible apply W.reg | with_reducible apply W.skip | with_reducible apply W.block | with_reducible apply W.drw | with_reducible apply DG.nil | (with_reducible refine W.done (QB.n ?_)) | refine W.cndT ?_ | refine W.cndF ?_))
        (first | ((with_reducible show RG _ _ (_ :: _) _ _ _); refine RG.gca (fun _ => co) (k := ?_)) | ((with_reducible show DG _ _ (_ :: _) _ _ _ _ _); refine DG.gca (fun _ => co) (k := ?_)))
        (repeat (first | ((with_reducible show RG _ _ (_ :: _) _ _ _); refine RG.go1 (k := ?_)) | ((with_reducible show DG _ _ (_ :: _) _ _ _ _ _); refine DG.go1 (k := ?_)) | with_reducible apply RG.nil | with_reducible apply W.seq | with_reducible apply W.reg | with_reducible apply W.skip | with_reducible apply W.block | with_reducible apply W.drw | with_reducible apply DG.nil | (with_reducible refine W.done (QB.n ?_)) | refine W.cndT ?_ | refine W.cndF ?_))
        (first | ((with_reducible show RG _ _ (_ :: _) _ _ _); refine RG.ew (cptr_of (hE) (by (conv => lhs; whnf) <;> exact rfl)) (k := ?_)) | ((with_reducible show DG _ _ (_ :: _) _ _ _ _ _); refine DG.ew (cptr_of (hE) (by (conv => lhs; whnf) <;> exact rfl)) (k := ?_)))
        (repeat (first | ((with_reducible show RG _ _ (_ :: _) _ _ _); refine RG.go1 (k := ?_)) | ((with_reducible show DG _ _ (_ :: _) _ _ _ _ _); refine DG.go1 (k := ?_)) | with_reducible apply RG.nil | with_reducible apply W.seq | with_reducible apply W.reg | with_reducible apply W.skip | with_reducible apply W.block | with_reducible apply W.drw | with_reducible apply DG.nil | (with_reducible refine W.done (QB.n ?_)) | refine W.cndT ?_ | refine W.cndF ?_))
        rw [hsn, ← hsl]
        refine W.done (QL.n (⟨i + 1, by omega, hnext⟩) ?_ ?_)
        · dsimp only
          rw [hd1]
          exact Wk.rn ([0] ) ( [2])
        · dsimp only; omega
      · have hat := hat q
        have hd0 : decide (p < i) = false := decide_eq_false (by omega)
        have hd1 : decide (p < i + 1) = true := decide_eq_true (by omega)
        rw [decide_eq_true (by have := hge (by omega); omega)] at co
        have hsn : ((laidAt l p r.m i).map rt ++ [AV.agg [.int .u8 r.m.n0, .int .u8 r.m.n1, .int .u8 r.m.n2, .int .u8 r.m.n3, .int .i64 r.b, .int .u8 r.v0, .int .u8 r.v1, .int .u8 r.v2, .int .u8 r.v3]]) ++ [AV.agg [.int .u8 e.n0, .int .u8 e.n1, .int .u8 e.n2, .int .u8 e.n3, .int .i64 e.b, .int .u8 e.v0, .int .u8 e.v1, .int .u8 e.v2, .int .u8 e.v3]] = (laidAt l p r.m (i + 1)).map rt := by rw [hat, List.map_append, List.map_append]; rfl
        have hsl : (laidAt l p r.m (i + 1)).length = (laidAt l p r.m i).length + 1 + 1 := by rw [hat]; simp
        have hp2 : ((laidAt l p r.m i).map rt ++ [AV.agg [.int .u8 r.m.n0, .int .u8 r.m.n1, .int .u8 r.m.n2, .int .u8 r.m.n3, .int .i64 r.b, .int .u8 r.v0, .int .u8 r.v1, .int .u8 r.v2, .int .u8 r.v3]]).all pureV = true := by
          have := rt_pure (laidAt l p r.m i ++ [r.m])
          rw [List.map_append] at this; exact this
        have hl2 : ((laidAt l p r.m i).map rt ++ [AV.agg [.int .u8 r.m.n0, .int .u8 r.m.n1, .int .u8 r.m.n2, .int .u8 r.m.n3, .int .i64 r.b, .int .u8 r.v0, .int .u8 r.v1, .int .u8 r.v2, .int .u8 r.v3]]).length = (laidAt l p r.m i).length + 1 := by simp
        rw [hd0]
        clear hlo hhi hat hge hgt hlt
        (repeat (first | ((with_reducible show RG _ _ (_ :: _) _ _ _); refine RG.go1 (k := ?_)) | ((with_reducible show DG _ _ (_ :: _) _ _ _ _ _); refine DG.go1 (k := ?_)) | with_reducible apply RG.nil | with_reducible apply W.seq | with_reducible apply W.reg | with_reducible apply W.skip | with_reducible apply W.block | with_reducible apply W.drw | with_reducible apply DG.nil | (with_reducible refine W.done (QB.n ?_)) | refine W.cndT ?_ | refine W.cndF ?_))
        (first | ((with_reducible show RG _ _ (_ :: _) _ _ _); refine RG.ew (cptr_of (hE) (by (conv => lhs; whnf) <;> exact rfl)) (k := ?_)) | ((with_reducible show DG _ _ (_ :: _) _ _ _ _ _); refine DG.ew (cptr_of (hE) (by (conv => lhs; whnf) <;> exact rfl)) (k := ?_)))
        (repeat (first | ((with_reducible show RG _ _ (_ :: _) _ _ _); refine RG.go1 (k := ?_)) | ((with_reducible show DG _ _ (_ :: _) _ _ _ _ _); refine DG.go1 (k := ?_)) | with_reducible apply RG.nil | with_reducible apply W.seq | with_reducible apply W.reg | with_reducible apply W.skip | with_reducible apply W.block | with_reducible apply W.drw | with_reducible apply DG.nil | (with_reducible refine W.done (QB.n ?_)) | refine W.cndT ?_ | refine W.cndF ?_))
        (first | ((with_reducible show RG _ _ (_ :: _) _ _ _); refine RG.ewg (cptr_of (hE) (by (conv => lhs; whnf) <;> exact rfl)) (k := ?_)) | ((with_reducible show DG _ _ (_ :: _) _ _ _ _ _); refine DG.ewg (cptr_of (hE) (by (conv => lhs; whnf) <;> exact rfl)) (k := ?_)))
        (repeat (first | ((with_reducible show RG _ _ (_ :: _) _ _ _); refine RG.go1 (k := ?_)) | ((with_reducible show DG _ _ (_ :: _) _ _ _ _ _); refine DG.go1 (k := ?_)) | with_reducible apply RG.nil | with_reducible apply W.seq | with_reducible apply W.reg | with_reducible apply W.skip | with_reducible apply W.block | with_reducible apply W.drw | with_reducible apply DG.nil | (with_reducible refine W.done (QB.n ?_)) | refine W.cndT ?_ | refine W.cndF ?_))
        (first | ((with_reducible show RG _ _ (_ :: _) _ _ _); refine RG.gca (fun _ => co) (k := ?_)) | ((with_reducible show DG _ _ (_ :: _) _ _ _ _ _); refine DG.gca (fun _ => co) (k := ?_)))
        (repeat (first | ((with_reducible show RG _ _ (_ :: _) _ _ _); refine RG.go1 (k := ?_)) | ((with_reducible show DG _ _ (_ :: _) _ _ _ _ _); refine DG.go1 (k := ?_)) | with_reducible apply RG.nil | with_reducible apply W.seq | with_reducible apply W.reg | with_reducible apply W.skip | with_reducible apply W.block | with_reducible apply W.drw | with_reducible apply DG.nil | (with_reducible refine W.done (QB.n ?_)) | refine W.cndT ?_ | refine W.cndF ?_))
        (first | ((with_reducible show RG _ _ (_ :: _) _ _ _); refine RG.ew (cptr_of (hE) (by (conv => lhs; whnf) <;> exact rfl)) (k := ?_)) | ((with_reducible show DG _ _ (_ :: _) _ _ _ _ _); refine DG.ew (cptr_of (hE) (by (conv => lhs; whnf) <;> exact rfl)) (k := ?_)))
        (repeat (first | ((with_reducible show RG _ _ (_ :: _) _ _ _); refine RG.go1 (k := ?_)) | ((with_reducible show DG _ _ (_ :: _) _ _ _ _ _); refine DG.go1 (k := ?_)) | with_reducible apply RG.nil | with_reducible apply W.seq | with_reducible apply W.reg | with_reducible apply W.skip | with_reducible apply W.block | with_reducible apply W.drw | with_reducible apply DG.nil | (with_reducible refine W.done (QB.n ?_)) | refine W.cndT ?_ | refine W.cndF ?_))
        rw [hsn, ← hsl]
        refine W.done (QL.n (⟨i + 1, by omega, hnext⟩) ?_ ?_)
        · dsimp only
          rw [hd1]
          exact Wk.rn ([0] ) ( [4])
        · dsimp only; omega
      · have hhi := hhi q
        have hd0 : decide (p < i) = true := decide_eq_true (by omega)
        have hd1 : decide (p < i + 1) = true := decide_eq_true (by omega)
        have hsn : (laidAt l p r.m i).map rt ++ [AV.agg [.int .u8 e.n0, .int .u8 e.n1, .int .u8 e.n2, .int .u8 e.n3, .int .i64 e.b, .int .u8 e.v0, .int .u8 e.v1, .int .u8 e.v2, .int .u8 e.v3]] = (laidAt l p r.m (i + 1)).map rt := by rw [hhi, List.map_append]; rfl
        have hsl : (laidAt l p r.m (i + 1)).length = (laidAt l p r.m i).length + 1 := by rw [hhi]; simp
        rw [hd0]
        clear hlo hhi hat hge hgt hlt
        (repeat (first | ((with_reducible show RG _ _ (_ :: _) _ _ _); refine RG.go1 (k := ?_)) | ((with_reducible show DG _ _ (_ :: _) _ _ _ _ _); refine DG.go1 (k := ?_)) | with_reducible apply RG.nil | with_reducible apply W.seq | with_reducible apply W.reg | with_reducible apply W.skip | with_reducible apply W.block | with_reducible apply W.drw | with_reducible apply DG.nil | (with_reducible refine W.done (QB.n ?_)) | refine W.cndT ?_ | refine W.cndF ?_))
        (first | ((with_reducible show RG _ _ (_ :: _) _ _ _); refine RG.ew (cptr_of (hE) (by (conv => lhs; whnf) <;> exact rfl)) (k := ?_)) | ((with_reducible show DG _ _ (_ :: _) _ _ _ _ _); refine DG.ew (cptr_of (hE) (by (conv => lhs; whnf) <;> exact rfl)) (k := ?_)))
        (repeat (first | ((with_reducible show RG _ _ (_ :: _) _ _ _); refine RG.go1 (k := ?_)) | ((with_reducible show DG _ _ (_ :: _) _ _ _ _ _); refine DG.go1 (k := ?_)) | with_reducible apply RG.nil | with_reducible apply W.seq | with_reducible apply W.reg | with_reducible apply W.skip | with_reducible apply W.block | with_reducible apply W.drw | with_reducible apply DG.nil | (with_reducible refine W.done (QB.n ?_)) | refine W.cndT ?_ | refine W.cndF ?_))
        (first | ((with_reducible show RG _ _ (_ :: _) _ _ _); refine RG.ew (cptr_of (hE) (by (conv => lhs; whnf) <;> exact rfl)) (k := ?_)) | ((with_reducible show DG _ _ (_ :: _) _ _ _ _ _); refine DG.ew (cptr_of (hE) (by (conv => lhs; whnf) <;> exact rfl)) (k := ?_)))
        (repeat (first | ((with_reducible show RG _ _ (_ :: _) _ _ _); refine RG.go1 (k := ?_)) | ((with_reducible show DG _ _ (_ :: _) _ _ _ _ _); refine DG.go1 (k := ?_)) | with_reducible apply RG.nil | with_reducible apply W.seq | with_reducible apply W.reg | with_reducible apply W.skip | with_reducible apply W.block | with_reducible apply W.drw | with_reducible apply DG.nil | (with_reducible refine W.done (QB.n ?_)) | refine W.cndT ?_ | refine W.cndF ?_))
        rw [hsn, ← hsl]
        refine W.done (QL.n (⟨i + 1, by omega, hnext⟩) ?_ ?_)
        · dsimp only
          rw [hd1]
          exact Wk.rn ([0] ) ( [2])
        · dsimp only; omega
    · rw [hB] at hq hkk
      by_cases hbb : e.b = r.b
      · obtain rfl : R = ⟨l, 9⟩ := by rw [← hR, if_pos (hfn (hkk.1 ⟨rfl, hbb⟩))]
        clear hR hlo hhi hat hge hgt hlt hnext
        (repeat (first | ((with_reducible show RG _ _ (_ :: _) _ _ _); refine RG.go1 (k := ?_)) | ((with_reducible show DG _ _ (_ :: _) _ _ _ _ _); refine DG.go1 (k := ?_)) | with_reducible apply RG.nil | with_reducible apply W.seq | with_reducible apply W.reg | with_reducible apply W.skip | with_reducible apply W.block | with_reducible apply W.drw | with_reducible apply DG.nil | (with_reducible refine W.done (QB.n ?_)) | refine W.cndT ?_ | refine W.cndF ?_))
        (first | ((with_reducible show RG _ _ (_ :: _) _ _ _); refine RG.ew (cptr_of (hE) (by (conv => lhs; whnf) <;> exact rfl)) (k := ?_)) | ((with_reducible show DG _ _ (_ :: _) _ _ _ _ _); refine DG.ew (cptr_of (hE) (by (conv => lhs; whnf) <;> exact rfl)) (k := ?_)))
        (repeat (first | ((with_reducible show RG _ _ (_ :: _) _ _ _); refine RG.go1 (k := ?_)) | ((with_reducible show DG _ _ (_ :: _) _ _ _ _ _); refine DG.go1 (k := ?_)) | with_reducible apply RG.nil | with_reducible apply W.seq | with_reducible apply W.reg | with_reducible apply W.skip | with_reducible apply W.block | with_reducible apply W.drw | with_reducible apply DG.nil | (with_reducible refine W.done (QB.n ?_)) | refine W.cndT ?_ | refine W.cndF ?_))
        (first | ((with_reducible show RG _ _ (_ :: _) _ _ _); refine RG.ewg (cptr_of (hE) (by (conv => lhs; whnf) <;> exact rfl)) (k := ?_)) | ((with_reducible show DG _ _ (_ :: _) _ _ _ _ _); refine DG.ewg (cptr_of (hE) (by (conv => lhs; whnf) <;> exact rfl)) (k := ?_)))
        (repeat (first | ((with_reducible show RG _ _ (_ :: _) _ _ _); refine RG.go1 (k := ?_)) | ((with_reducible show DG _ _ (_ :: _) _ _ _ _ _); refine DG.go1 (k := ?_)) | with_reducible apply RG.nil | with_reducible apply W.seq | with_reducible apply W.reg | with_reducible apply W.skip | with_reducible apply W.block | with_reducible apply W.drw | with_reducible apply DG.nil | (with_reducible refine W.done (QB.n ?_)) | refine W.cndT ?_ | refine W.cndF ?_))
        (refine W.ret ?_; (repeat (with_reducible first | refine QB.r ?_ | refine QL.r ?_ | refine QC.r ?_)); refine QF.r ?_)
        exact RetOk.rs (vs := [_, _]) r_caravelref14_Add []
      · have hne2 : e.key ≠ k := fun q => hbb (hkk.2 q).2
        have hnext := hnext hne2
        rcases Nat.lt_trichotomy i p with q | q | q
        · have hlo := hlo q
          have hd0 : decide (p < i) = false := decide_eq_false (by omega)
          have hd1 : decide (p < i + 1) = false := decide_eq_false (by omega)
          rw [decide_eq_false (by have := hlt q; omega)] at co
          have hsn : (laidAt l p r.m i).map rt ++ [AV.agg [.int .u8 e.n0, .int .u8 e.n1, .int .u8 e.n2, .int .u8 e.n3, .int .i64 e.b, .int .u8 e.v0, .int .u8 e.v1, .int .u8 e.v2, .int .u8 e.v3]] = (laidAt l p r.m (i + 1)).map rt := by rw [hlo, List.map_append]; rfl
          have hsl : (laidAt l p r.m (i + 1)).length = (laidAt l p r.m i).length + 1 := by rw [hlo]; simp
          rw [hd0]
          clear hlo hhi hat hge hgt hlt
          (repeat (first | ((with_reducible show RG _ _ (_ :: _) _ _ _); refine RG.go1 (k := ?_)) | ((with_reducible show DG _ _ (_ :: _) _ _ _ _ _); refine DG.go1 (k := ?_)) | with_reducible apply RG.nil | with_reducible apply W.seq | with_reducible apply W.reg | with_reducible apply W.skip | with_reducible apply W.block | with_reducible apply W.drw | with_reducible apply DG.nil | (with_reducible refine W.done (QB.n ?_)) | refine W.cndT ?_ | refine W.cndF ?_))
          (first | ((with_reducible show RG _ _ (_ :: _) _ _ _); refine RG.ew (cptr_of (hE) (by (conv => lhs; whnf) <;> exact rfl)) (k := ?_)) | ((with_reducible show DG _ _ (_ :: _) _ _ _ _ _); refine DG.ew (cptr_of (hE) (by (conv => lhs; whnf) <;> exact rfl)) (k := ?_)))
          (repeat (first | ((with_reducible show RG _ _ (_ :: _) _ _ _); refine RG.go1 (k := ?_)) | ((with_reducible show DG _ _ (_ :: _) _ _ _ _ _); refine DG.go1 (k := ?_)) | with_reducible apply RG.nil | with_reducible apply W.seq | with_reducible apply W.reg | with_reducible apply W.skip | with_reducible apply W.block | with_reducible apply W.drw | with_reducible apply DG.nil | (with_reducible refine W.done (QB.n ?_)) | refine W.cndT ?_ | refine W.cndF ?_))
          (first | ((with_reducible show RG _ _ (_ :: _) _ _ _); refine RG.ewg (cptr_of (hE) (by (conv => lhs; whnf) <;> exact rfl)) (k := ?_)) | ((with_reducible show DG _ _ (_ :: _) _ _ _ _ _); refine DG.ewg (cptr_of (hE) (by (conv => lhs; whnf) <;> exact rfl)) (k := ?_)))
          (repeat (first | ((with_reducible show RG _ _ (_ :: _) _ _ _); refine RG.go1 (k := ?_)) | ((with_reducible show DG _ _ (_ :: _) _ _ _ _ _); refine DG.go1 (k := ?_)) | with_reducible apply RG.nil | with_reducible apply W.seq | with_reducible apply W.reg | with_reducible apply W.skip | with_reducible apply W.block | with_reducible apply W.drw | with_reducible apply DG.nil | (with_reducible refine W.done (QB.n ?_)) | refine W.cndT ?_ | refine W.cndF ?_))
          (first | ((with_reducible show RG _ _ (_ :: _) _ _ _); refine RG.ewg (cptr_of (hE) (by (conv => lhs; whnf) <;> exact rfl)) (k := ?_)) | ((with_reducible show DG _ _ (_ :: _) _ _ _ _ _); refine DG.ewg (cptr_of (hE) (by (conv => lhs; whnf) <;> exact rfl)) (k := ?_)))
          (repeat (first | ((with_reducible show RG _ _ (_ :: _) _ _ _); refine RG.go1 (k := ?_)) | ((with_reducible show DG _ _ (_ :: _) _ _ _ _ _); refine DG.go1 (k := ?_)) | with_reducible apply RG.nil | with_reducible apply W.seq | with_reducible apply W.reg | with_reducible apply W.skip | with_reducible apply W.block | with_reducible apply W.drw | with_reducible apply DG.nil | (with_reducible refine W.done (QB.n ?_)) | refine W.cndT ?_ | refine W.cndF ?_))
          (first | ((with_reducible show RG _ _ (_ :: _) _ _ _); refine RG.gca (fun _ => co) (k := ?_)) | ((with_reducible show DG _ _ (_ :: _) _ _ _ _ _); refine DG.gca (fun _ => co) (k := ?_)))
          (repeat (first | ((with_reducible show RG _ _ (_ :: _) _ _ _); refine RG.go1 (k := ?_)) | ((with_reducible show DG _ _ (_ :: _) _ _ _ _ _); refine DG.go1 (k := ?_)) | with_reducible apply RG.nil | with_reducible apply W.seq | with_reducible apply W.reg | with_reducible apply W.skip | with_reducible apply W.block | with_reducible apply W.drw | with_reducible apply DG.nil | (with_reducible refine W.done (QB.n ?_)) | refine W.cndT ?_ | refine W.cndF ?_))
          (first | ((with_reducible show RG _ _ (_ :: _) _ _ _); refine RG.ew (cptr_of (hE) (by (conv => lhs; whnf) <;> exact rfl)) (k := ?_)) | ((with_reducible show DG _ _ (_ :: _) _ _ _ _ _); refine DG.ew (cptr_of (hE) (by (conv => lhs; whnf) <;> exact rfl)) (k := ?_)))
          (repeat (first | ((with_reducible show RG _ _ (_ :: _) _ _ _); refine RG.go1 (k := ?_)) | ((with_reducible show DG _ _ (_ :: _) _ _ _ _ _); refine DG.go1 (k := ?_)) | with_reducible apply RG.nil | with_reducible apply W.seq | with_reducible apply W.reg | with_reducible apply W.skip | with_reducible apply W.block | with_reducible apply W.drw | with_reducible apply DG.nil | (with_reducible refine W.done (QB.n ?_)) | refine W.cndT ?_ | refine W.cndF ?_))
          rw [hsn, ← hsl]
          refine W.done (QL.n (⟨i + 1, by omega, hnext⟩) ?_ ?_)
          · dsimp only
            rw [hd1]
            exact Wk.rn ([0] ) ( [2])
          · dsimp only; omega
        · have hat := hat q
          have hd0 : decide (p < i) = false := decide_eq_false (by omega)
          have hd1 : decide (p < i + 1) = true := decide_eq_true (by omega)
          rw [decide_eq_true (by have := hge (by omega); omega)] at co
          have hsn : ((laidAt l p r.m i).map rt ++ [AV.agg [.int .u8 r.m.n0, .int .u8 r.m.n1, .int .u8 r.m.n2, .int .u8 r.m.n3, .int .i64 r.b, .int .u8 r.v0, .int .u8 r.v1, .int .u8 r.v2, .int .u8 r.v3]]) ++ [AV.agg [.int .u8 e.n0, .int .u8 e.n1, .int .u8 e.n2, .int .u8 e.n3, .int .i64 e.b, .int .u8 e.v0, .int .u8 e.v1, .int .u8 e.v2, .int .u8 e.v3]] = (laidAt l p r.m (i + 1)).map rt := by rw [hat, List.map_append, List.map_append]; rfl
          have hsl : (laidAt l p r.m (i + 1)).length = (laidAt l p r.m i).length + 1 + 1 := by rw [hat]; simp
          have hp2 : ((laidAt l p r.m i).map rt ++ [AV.agg [.int .u8 r.m.n0, .int .u8 r.m.n1, .int .u8 r.m.n2, .int .u8 r.m.n3, .int .i64 r.b, .int .u8 r.v0, .int .u8 r.v1, .int .u8 r.v2, .int .u8 r.v3]]).all pureV = true := by
            have := rt_pure (laidAt l p r.m i ++ [r.m])
            rw [List.map_append] at this; exact this
          have hl2 : ((laidAt l p r.m i).map rt ++ [AV.agg [.int .u8 r.m.n0, .int .u8 r.m.n1, .int .u8 r.m.n2, .int .u8 r.m.n3, .int .i64 r.b, .int .u8 r.v0, .int .u8 r.v1, .int .u8 r.v2, .int .u8 r.v3]]).length = (laidAt l p r.m i).length + 1 := by simp
          rw [hd0]
          clear hlo hhi hat hge hgt hlt
          (repeat (first | ((with_reducible show RG _ _ (_ :: _) _ _ _); refine RG.go1 (k := ?_)) | ((with_reducible show DG _ _ (_ :: _) _ _ _ _ _); refine DG.go1 (k := ?_)) | with_reducible apply RG.nil | with_reducible apply W.seq | with_reducible apply W.reg | with_reducible apply W.skip | with_reducible apply W.block | with_reducible apply W.drw | with_reducible apply DG.nil | (with_reducible refine W.done (QB.n ?_)) | refine W.cndT ?_ | refine W.cndF ?_))
          (first | ((with_reducible show RG _ _ (_ :: _) _ _ _); refine RG.ew (cptr_of (hE) (by (conv => lhs; whnf) <;> exact rfl)) (k := ?_)) | ((with_reducible show DG _ _ (_ :: _) _ _ _ _ _); refine DG.ew (cptr_of (hE) (by (conv => lhs; whnf) <;> exact rfl)) (k := ?_)))
          (repeat (first | ((with_reducible show RG _ _ (_ :: _) _ _ _); refine RG.go1 (k := ?_)) | ((with_reducible show DG _ _ (_ :: _) _ _ _ _ _); refine DG.go1 (k := ?_)) | with_reducible apply RG.nil | with_reducible apply W.seq | with_reducible apply W.reg | with_reducible apply W.skip | with_reducible apply W.block | with_reducible apply W.drw | with_reducible apply DG.nil | (with_reducible refine W.done (QB.n ?_)) | refine W.cndT ?_ | refine W.cndF ?_))
          (first | ((with_reducible show RG _ _ (_ :: _) _ _ _); refine RG.ewg (cptr_of (hE) (by (conv => lhs; whnf) <;> exact rfl)) (k := ?_)) | ((with_reducible show DG _ _ (_ :: _) _ _ _ _ _); refine DG.ewg (cptr_of (hE) (by (conv => lhs; whnf) <;> exact rfl)) (k := ?_)))
          (repeat (first | ((with_reducible show RG _ _ (_ :: _) _ _ _); refine RG.go1 (k := ?_)) | ((with_reducible show DG _ _ (_ :: _) _ _ _ _ _); refine DG.go1 (k := ?_)) | with_reducible apply RG.nil | with_reducible apply W.seq | with_reducible apply W.reg | with_reducible apply W.skip | with_reducible apply W.block | with_reducible apply W.drw | with_reducible apply DG.nil | (with_reducible refine W.done (QB.n ?_)) | refine W.cndT ?_ | refine W.cndF ?_))
          (first | ((with_reducible show RG _ _ (_ :: _) _ _ _); refine RG.ewg (cptr_of (hE) (by (conv => lhs; whnf) <;> exact rfl)) (k := ?_)) | ((with_reducible show DG _ _ (_ :: _) _ _ _ _ _); refine DG.ewg (cptr_of (hE) (by (conv => lhs; whnf) <;> exact rfl)) (k := ?_)))
          (repeat (first | ((with_reducible show RG _ _ (_ :: _) _ _ _); refine RG.go1 (k := ?_)) | ((with_reducible show DG _ _ (_ :: _) _ _ _ _ _); refine DG.go1 (k := ?_)) | with_reducible apply RG.nil | with_reducible apply W.seq | with_reducible apply W.reg | with_reducible apply W.skip | with_reducible apply W.block | with_reducible apply W.drw | with_reducible apply DG.nil | (with_reducible refine W.done (QB.n ?_)) | refine W.cndT ?_ | refine W.cndF ?_))
          (first | ((with_reducible show RG _ _ (_ :: _) _ _ _); refine RG.gca (fun _ => co) (k := ?_)) | ((with_reducible show DG _ _ (_ :: _) _ _ _ _ _); refine DG.gca (fun _ => co) (k := ?_)))
          (repeat (first | ((with_reducible show RG _ _ (_ :: _) _ _ _); refine RG.go1 (k := ?_)) | ((with_reducible show DG _ _ (_ :: _) _ _ _ _ _); refine DG.go1 (k := ?_)) | with_reducible apply RG.nil | with_reducible apply W.seq | with_reducible apply W.reg | with_reducible apply W.skip | with_reducible apply W.block | with_reducible apply W.drw | with_reducible apply DG.nil | (with_reducible refine W.done (QB.n ?_)) | refine W.cndT ?_ | refine W.cndF ?_))
          (first | ((with_reducible show RG _ _ (_ :: _) _ _ _); refine RG.ew (cptr_of (hE) (by (conv => lhs; whnf) <;> exact rfl)) (k := ?_)) | ((with_reducible show DG _ _ (_ :: _) _ _ _ _ _); refine DG.ew (cptr_of (hE) (by (conv => lhs; whnf) <;> exact rfl)) (k := ?_)))
          (repeat (first | ((with_reducible show RG _ _ (_ :: _) _ _ _); refine RG.go1 (k := ?_)) | ((with_reducible show DG _ _ (_ :: _) _ _ _ _ _); refine DG.go1 (k := ?_)) | with_reducible apply RG.nil | with_reducible apply W.seq | with_reducible apply W.reg | with_reducible apply W.skip | with_reducible apply W.block | with_reducible apply W.drw | with_reducible apply DG.nil | (with_reducible refine W.done (QB.n ?_)) | refine W.cndT ?_ | refine W.cndF ?_))
          rw [hsn, ← hsl]
          refine W.done (QL.n (⟨i + 1, by omega, hnext⟩) ?_ ?_)
          · dsimp only
            rw [hd1]
            exact Wk.rn ([0] ) ( [4])
          · dsimp only; omega
        · have hhi := hhi q
          have hd0 : decide (p < i) = true := decide_eq_true (by omega)
          have hd1 : decide (p < i + 1) = true := decide_eq_true (by omega)
          have hsn : (laidAt l p r.m i).map rt ++ [AV.agg [.int .u8 e.n0, .int .u8 e.n1, .int .u8 e.n2, .int .u8 e.n3, .int .i64 e.b, .int .u8 e.v0, .int .u8 e.v1, .int .u8 e.v2, .int .u8 e.v3]] = (laidAt l p r.m (i + 1)).map rt := by rw [hhi, List.map_append]; rfl
          have hsl : (laidAt l p r.m (i + 1)).length = (laidAt l p r.m i).length + 1 := by rw [hhi]; simp
          rw [hd0]
          clear hlo hhi hat hge hgt hlt
          (repeat (first | ((with_reducible show RG _ _ (_ :: _) _ _ _); refine RG.go1 (k := ?_)) | ((with_reducible show DG _ _ (_ :: _) _ _ _ _ _); refine DG.go1 (k := ?_)) | with_reducible apply RG.nil | with_reducible apply W.seq | with_reducible apply W.reg | with_reducible apply W.skip | with_reducible apply W.block | with_reducible apply W.drw | with_reducible apply DG.nil | (with_reducible refine W.done (QB.n ?_)) | refine W.cndT ?_ | refine W.cndF ?_))
          (first | ((with_reducible show RG _ _ (_ :: _) _ _ _); refine RG.ew (cptr_of (hE) (by (conv => lhs; whnf) <;> exact rfl)) (k := ?_)) | ((with_reducible show DG _ _ (_ :: _) _ _ _ _ _); refine DG.ew (cptr_of (hE) (by (conv => lhs; whnf) <;> exact rfl)) (k := ?_)))
          (repeat (first | ((with_reducible show RG _ _ (_ :: _) _ _ _); refine RG.go1 (k := ?_)) | ((with_reducible show DG _ _ (_ :: _) _ _ _ _ _); refine DG.go1 (k := ?_)) | with_reducible apply RG.nil | with_reducible apply W.seq | with_reducible apply W.reg | with_reducible apply W.skip | with_reducible apply W.block | with_reducible apply W.drw | with_reducible apply DG.nil | (with_reducible refine W.done (QB.n ?_)) | refine W.cndT ?_ | refine W.cndF ?_))
          (first | ((with_reducible show RG _ _ (_ :: _) _ _ _); refine RG.ewg (cptr_of (hE) (by (conv => lhs; whnf) <;> exact rfl)) (k := ?_)) | ((with_reducible show DG _ _ (_ :: _) _ _ _ _ _); refine DG.ewg (cptr_of (hE) (by (conv => lhs; whnf) <;> exact rfl)) (k := ?_)))
          (repeat (first | ((with_reducible show RG _ _ (_ :: _) _ _ _); refine RG.go1 (k := ?_)) | ((with_reducible show DG _ _ (_ :: _) _ _ _ _ _); refine DG.go1 (k := ?_)) | with_reducible apply RG.nil | with_reducible apply W.seq | with_reducible apply W.reg | with_reducible apply W.skip | with_reducible apply W.block | with_reducible apply W.drw | with_reducible apply DG.nil | (with_reducible refine W.done (QB.n ?_)) | refine W.cndT ?_ | refine W.cndF ?_))
          (first | ((with_reducible show RG _ _ (_ :: _) _ _ _); refine RG.ew (cptr_of (hE) (by (conv => lhs; whnf) <;> exact rfl)) (k := ?_)) | ((with_reducible show DG _ _ (_ :: _) _ _ _ _ _); refine DG.ew (cptr_of (hE) (by (conv => lhs; whnf) <;> exact rfl)) (k := ?_)))
          (repeat (first | ((with_reducible show RG _ _ (_ :: _) _ _ _); refine RG.go1 (k := ?_)) | ((with_reducible show DG _ _ (_ :: _) _ _ _ _ _); refine DG.go1 (k := ?_)) | with_reducible apply RG.nil | with_reducible apply W.seq | with_reducible apply W.reg | with_reducible apply W.skip | with_reducible apply W.block | with_reducible apply W.drw | with_reducible apply DG.nil | (with_reducible refine W.done (QB.n ?_)) | refine W.cndT ?_ | refine W.cndF ?_))
          rw [hsn, ← hsl]
          refine W.done (QL.n (⟨i + 1, by omega, hnext⟩) ?_ ?_)
          · dsimp only
            rw [hd1]
            exact Wk.rn ([0] ) ( [2])
          · dsimp only; omega
  have hil : i = l.length := by simp at h1; omega
  subst hil
  clear h1
  have hfF := hf0 (fun j hj => hne j hj hj)
  rw [hfF, if_neg (by decide)] at hR
  (refine W.exit ?_; (repeat (first | (with_reducible first | refine QL.x ?_ | refine QC.x ?_ | refine QB.x ?_) | (with_reducible refine QB.o (by decide) ?_))))
  by_cases hpl : p < l.length
  · rw [decide_eq_true hpl]
    rw [if_pos hpl] at hR
    have hlen : (laidAt l p r.m l.length).length = l.length + 1 := by
      rw [laid_end r.m hpl]; simp; omega
    by_cases h8 : 8 ≤ l.length
    · rw [if_pos h8] at hR
      subst hR
      (repeat (first | ((with_reducible show RG _ _ (_ :: _) _ _ _); refine RG.go1 (k := ?_)) | ((with_reducible show DG _ _ (_ :: _) _ _ _ _ _); refine DG.go1 (k := ?_)) | with_reducible apply RG.nil | with_reducible apply W.seq | with_reducible apply W.reg | with_reducible apply W.skip | with_reducible apply W.block | with_reducible apply W.drw | with_reducible apply DG.nil | (with_reducible refine W.done (QB.n ?_)) | refine W.cndT ?_ | refine W.cndF ?_))
      (refine W.ret ?_; (repeat (with_reducible first | refine QB.r ?_ | refine QL.r ?_ | refine QC.r ?_)); refine QF.r ?_)
      exact RetOk.rs (vs := [_, _]) r_caravelref14_Add []
    · rw [if_neg h8] at hR
      subst hR
      (repeat (first | ((with_reducible show RG _ _ (_ :: _) _ _ _); refine RG.go1 (k := ?_)) | ((with_reducible show DG _ _ (_ :: _) _ _ _ _ _); refine DG.go1 (k := ?_)) | with_reducible apply RG.nil | with_reducible apply W.seq | with_reducible apply W.reg | with_reducible apply W.skip | with_reducible apply W.block | with_reducible apply W.drw | with_reducible apply DG.nil | (with_reducible refine W.done (QB.n ?_)) | refine W.cndT ?_ | refine W.cndF ?_))
      (refine W.ret ?_; (repeat (with_reducible first | refine QB.r ?_ | refine QL.r ?_ | refine QC.r ?_)); refine QF.r ?_)
      (refine RetOk.wk (Wk.frz (b := 0) rfl rfl) ?_; refine RetOk.wk (Wk.tmp (t := 4) (Cl.ice rfl rfl rfl (by first | assumption | decide | omega | (simp; (first | (all_goals fail) | fail)) | (simp <;> omega)) (by first | exact take_all _ | exact take_len (by first | (simp; (first | (all_goals fail) | fail)) | (simp <;> omega)) | exact rfl))) ?_; dsimp only [setO])
      exact RetOk.rs (vs := [_, _]) r_caravelref14_Add []
  · have hpe : p = l.length := by omega
    rw [decide_eq_false hpl]
    rw [if_neg hpl] at hR
    have hlen : (laidAt l p r.m l.length ++ [r.m]).length = l.length + 1 := by
      rw [laid_end2 r.m hpe]; simp; omega
    have hsn : (laidAt l p r.m l.length).map rt ++ [AV.agg [.int .u8 r.m.n0, .int .u8 r.m.n1, .int .u8 r.m.n2, .int .u8 r.m.n3, .int .i64 r.b, .int .u8 r.v0, .int .u8 r.v1, .int .u8 r.v2, .int .u8 r.v3]] = (laidAt l p r.m l.length ++ [r.m]).map rt := by rw [List.map_append]; rfl
    have hlen2 : (laidAt l p r.m l.length).length = l.length := by simp at hlen; exact hlen
    have hsl := rt_len (laidAt l p r.m l.length ++ [r.m])
    by_cases h8 : 8 ≤ l.length
    · rw [if_pos h8] at hR
      subst hR
      (repeat (first | ((with_reducible show RG _ _ (_ :: _) _ _ _); refine RG.go1 (k := ?_)) | ((with_reducible show DG _ _ (_ :: _) _ _ _ _ _); refine DG.go1 (k := ?_)) | with_reducible apply RG.nil | with_reducible apply W.seq | with_reducible apply W.reg | with_reducible apply W.skip | with_reducible apply W.block | with_reducible apply W.drw | with_reducible apply DG.nil | (with_reducible refine W.done (QB.n ?_)) | refine W.cndT ?_ | refine W.cndF ?_))
      (refine W.ret ?_; (repeat (with_reducible first | refine QB.r ?_ | refine QL.r ?_ | refine QC.r ?_)); refine QF.r ?_)
      exact RetOk.rs (vs := [_, _]) r_caravelref14_Add []
    · rw [if_neg h8] at hR
      subst hR
      (repeat (first | ((with_reducible show RG _ _ (_ :: _) _ _ _); refine RG.go1 (k := ?_)) | ((with_reducible show DG _ _ (_ :: _) _ _ _ _ _); refine DG.go1 (k := ?_)) | with_reducible apply RG.nil | with_reducible apply W.seq | with_reducible apply W.reg | with_reducible apply W.skip | with_reducible apply W.block | with_reducible apply W.drw | with_reducible apply DG.nil | (with_reducible refine W.done (QB.n ?_)) | refine W.cndT ?_ | refine W.cndF ?_))
      rw [hsn]
      (refine W.ret ?_; (repeat (with_reducible first | refine QB.r ?_ | refine QL.r ?_ | refine QC.r ?_)); refine QF.r ?_)
      (refine RetOk.wk (Wk.frz (b := 2) rfl rfl) ?_; refine RetOk.wk (Wk.tmp (t := 4) (Cl.ice rfl rfl rfl (by first | assumption | decide | omega | (simp; (first | (all_goals fail) | fail)) | (simp <;> omega)) (by first | exact take_all _ | exact take_len (by first | (simp; (first | (all_goals fail) | fail)) | (simp <;> omega)) | exact rfl))) ?_; dsimp only [setO])
      exact RetOk.rs (vs := [_, _]) r_caravelref14_Add []
end Go.Proofs.Yteljhabahaimpaa
