/- What the document computes: Find, Forward, Like. -/
import Derived.Test.YtfpgpeomcefkhaaBr7
namespace Go.Proofs.Ytfpgpeomcefkhaa
open Go.RowKit
set_option linter.unusedVariables false
set_option linter.unusedSimpArgs false
set_option maxRecDepth 100000
set_option maxHeartbeats 4000000
def rfind (k : List Lrn) (m : Mac) : Int := match k.find? m.is with
  | some x => x.p
  | none => -1
theorem rFind_ok (np : Int) (l : List Lrn) (hl : l.length ≤ 1000) (m : Mac) : ACall Try.prog 14 [.agg [.int .i64 np, .sl true 7 (l.map lrn)], .agg m.l] (.int .i64 (rfind (known l) m)) [] := by
  have ck := rKnown_ok np l hl
  have hkl := known_len l
  generalize known l = k at *
  have el := lr_len k
  unfold Mac.l
  refine acall_walk (N := 27) Try.func14 (by kernel_rfl) p_caravelref12_Find rfl ?_; unfold c_caravelref12_Find; dsimp only [enum, Nat.reduceAdd]
  (repeat (first | ((with_reducible show RG _ _ (_ :: _) _ _ _); refine RG.go1 (k := ?_)) | ((with_reducible show DG _ _ (_ :: _) _ _ _ _ _); refine DG.go1 (k := ?_)) | with_reducible apply RG.nil | with_reducible apply W.seq | with_reducible apply W.reg | with_reducible apply W.skip | with_reducible apply W.block | with_reducible apply W.drw | with_reducible apply DG.nil | (with_reducible refine W.done (QB.n ?_)) | refine W.cndT ?_ | refine W.cndF ?_))
  (first | ((with_reducible show RG _ _ (_ :: _) _ _ _); refine RG.ca (ck) (k := ?_)) | ((with_reducible show DG _ _ (_ :: _) _ _ _ _ _); refine DG.ca (ck) (k := ?_)))
  (repeat (first | ((with_reducible show RG _ _ (_ :: _) _ _ _); refine RG.go1 (k := ?_)) | ((with_reducible show DG _ _ (_ :: _) _ _ _ _ _); refine DG.go1 (k := ?_)) | with_reducible apply RG.nil | with_reducible apply W.seq | with_reducible apply W.reg | with_reducible apply W.skip | with_reducible apply W.block | with_reducible apply W.drw | with_reducible apply DG.nil | (with_reducible refine W.done (QB.n ?_)) | refine W.cndT ?_ | refine W.cndF ?_))
  refine W.loop (ι := {i : Nat // i ≤ k.length ∧ ∀ j : Nat, (h : j < k.length) → j < i → m.is k[j] = false}) (fun i => ⟨[(6, .int .i64 i.1), (5, .sl false 7 (k.map lrn)), (3, .aptr 0 6)], [], [some ⟨false, 1, [.int .u8 m.a0, .int .u8 m.a1, .int .u8 m.a2, .int .u8 m.a3, .int .u8 m.a4, .int .u8 m.a5]⟩], 0, 1⟩) (fun i => k.length - i.1) ⟨0, Nat.zero_le _, fun j _ h => absurd h (Nat.not_lt_zero _)⟩ ?_ ?_
  · exact Wk.rn ([] ) ( [0])
  rintro ⟨i, hi, hall⟩
  dsimp only
  (repeat (first | ((with_reducible show RG _ _ (_ :: _) _ _ _); refine RG.go1 (k := ?_)) | ((with_reducible show DG _ _ (_ :: _) _ _ _ _ _); refine DG.go1 (k := ?_)) | with_reducible apply RG.nil | with_reducible apply W.seq | with_reducible apply W.reg | with_reducible apply W.skip | with_reducible apply W.block | with_reducible apply W.drw | with_reducible apply DG.nil | (with_reducible refine W.done (QB.n ?_))))
  refine W.cnd (fun h1 => ?_) (fun h1 => ?_)
  · have hlt : i < k.length := by simp at h1; omega
    have hE := lr_at k i hlt (j := ((i : Nat) : Int).toNat) (by simp)
    clear h1
    by_cases hid : m.is k[i] = true
    · have hw : rfind k m = k[i].p := by
        unfold rfind
        have : k.find? m.is = some k[i] := by
          rw [List.find?_eq_some_iff_getElem]
          exact ⟨hid, i, hlt, rfl, fun j hj => by simpa using hall j (by omega) hj⟩
        rw [this]
      rw [hw]
      generalize k[i] = x at *
      unfold Mac.is at hid
      (repeat (first | ((with_reducible show RG _ _ (_ :: _) _ _ _); refine RG.go1 (k := ?_)) | ((with_reducible show DG _ _ (_ :: _) _ _ _ _ _); refine DG.go1 (k := ?_)) | with_reducible apply RG.nil | with_reducible apply W.seq | with_reducible apply W.reg | with_reducible apply W.skip | with_reducible apply W.block | with_reducible apply W.drw | with_reducible apply DG.nil | (with_reducible refine W.done (QB.n ?_)) | refine W.cndT ?_ | refine W.cndF ?_))
      (first | ((with_reducible show RG _ _ (_ :: _) _ _ _); refine RG.ew (cptr_of (hE) (by (conv => lhs; whnf) <;> exact rfl)) (k := ?_)) | ((with_reducible show DG _ _ (_ :: _) _ _ _ _ _); refine DG.ew (cptr_of (hE) (by (conv => lhs; whnf) <;> exact rfl)) (k := ?_)))
      (repeat (first | ((with_reducible show RG _ _ (_ :: _) _ _ _); refine RG.go1 (k := ?_)) | ((with_reducible show DG _ _ (_ :: _) _ _ _ _ _); refine DG.go1 (k := ?_)) | with_reducible apply RG.nil | with_reducible apply W.seq | with_reducible apply W.reg | with_reducible apply W.skip | with_reducible apply W.block | with_reducible apply W.drw | with_reducible apply DG.nil | (with_reducible refine W.done (QB.n ?_)) | refine W.cndT ?_ | refine W.cndF ?_))
      rw [hid]
      refine W.cndT ?_
      (repeat (first | ((with_reducible show RG _ _ (_ :: _) _ _ _); refine RG.go1 (k := ?_)) | ((with_reducible show DG _ _ (_ :: _) _ _ _ _ _); refine DG.go1 (k := ?_)) | with_reducible apply RG.nil | with_reducible apply W.seq | with_reducible apply W.reg | with_reducible apply W.skip | with_reducible apply W.block | with_reducible apply W.drw | with_reducible apply DG.nil | (with_reducible refine W.done (QB.n ?_)) | refine W.cndT ?_ | refine W.cndF ?_))
      (first | ((with_reducible show RG _ _ (_ :: _) _ _ _); refine RG.ew (cptr_of (hE) (by (conv => lhs; whnf) <;> exact rfl)) (k := ?_)) | ((with_reducible show DG _ _ (_ :: _) _ _ _ _ _); refine DG.ew (cptr_of (hE) (by (conv => lhs; whnf) <;> exact rfl)) (k := ?_)))
      (repeat (first | ((with_reducible show RG _ _ (_ :: _) _ _ _); refine RG.go1 (k := ?_)) | ((with_reducible show DG _ _ (_ :: _) _ _ _ _ _); refine DG.go1 (k := ?_)) | with_reducible apply RG.nil | with_reducible apply W.seq | with_reducible apply W.reg | with_reducible apply W.skip | with_reducible apply W.block | with_reducible apply W.drw | with_reducible apply DG.nil | (with_reducible refine W.done (QB.n ?_)) | refine W.cndT ?_ | refine W.cndF ?_))
      (refine W.ret ?_; (repeat (with_reducible first | refine QB.r ?_ | refine QL.r ?_ | refine QC.r ?_)); refine QF.r ?_)
      exact RetOk.rs (vs := [_]) r_caravelref12_Find []
    · have hid : m.is k[i] = false := by simpa using hid
      have hall2 : ∀ j : Nat, (h : j < k.length) → j < i + 1 → m.is k[j] = false := fun j h hj => by
        rcases Nat.lt_or_ge j i with q | q
        · exact hall j h q
        · obtain rfl : j = i := by omega
          exact hid
      generalize k[i] = x at hE hid
      unfold Mac.is at hid
      (repeat (first | ((with_reducible show RG _ _ (_ :: _) _ _ _); refine RG.go1 (k := ?_)) | ((with_reducible show DG _ _ (_ :: _) _ _ _ _ _); refine DG.go1 (k := ?_)) | with_reducible apply RG.nil | with_reducible apply W.seq | with_reducible apply W.reg | with_reducible apply W.skip | with_reducible apply W.block | with_reducible apply W.drw | with_reducible apply DG.nil | (with_reducible refine W.done (QB.n ?_)) | refine W.cndT ?_ | refine W.cndF ?_))
      (first | ((with_reducible show RG _ _ (_ :: _) _ _ _); refine RG.ew (cptr_of (hE) (by (conv => lhs; whnf) <;> exact rfl)) (k := ?_)) | ((with_reducible show DG _ _ (_ :: _) _ _ _ _ _); refine DG.ew (cptr_of (hE) (by (conv => lhs; whnf) <;> exact rfl)) (k := ?_)))
      (repeat (first | ((with_reducible show RG _ _ (_ :: _) _ _ _); refine RG.go1 (k := ?_)) | ((with_reducible show DG _ _ (_ :: _) _ _ _ _ _); refine DG.go1 (k := ?_)) | with_reducible apply RG.nil | with_reducible apply W.seq | with_reducible apply W.reg | with_reducible apply W.skip | with_reducible apply W.block | with_reducible apply W.drw | with_reducible apply DG.nil | (with_reducible refine W.done (QB.n ?_)) | refine W.cndT ?_ | refine W.cndF ?_))
      rw [hid]
      refine W.cndF ?_
      (repeat (first | ((with_reducible show RG _ _ (_ :: _) _ _ _); refine RG.go1 (k := ?_)) | ((with_reducible show DG _ _ (_ :: _) _ _ _ _ _); refine DG.go1 (k := ?_)) | with_reducible apply RG.nil | with_reducible apply W.seq | with_reducible apply W.reg | with_reducible apply W.skip | with_reducible apply W.block | with_reducible apply W.drw | with_reducible apply DG.nil | (with_reducible refine W.done (QB.n ?_)) | refine W.cndT ?_ | refine W.cndF ?_))
      refine W.done (QL.n (⟨i + 1, by omega, hall2⟩) ?_ ?_)
      · exact Wk.rn ([] ) ( [0])
      · dsimp only; omega
  have hw : rfind k m = -1 := by
    unfold rfind
    have : k.find? m.is = none := by
      rw [List.find?_eq_none]
      intro x hx
      obtain ⟨j, hj, rfl⟩ := List.getElem_of_mem hx
      have := hall j hj (by simp at h1; omega)
      simpa using this
    rw [this]
  rw [hw]
  (refine W.exit ?_; (repeat (first | (with_reducible first | refine QL.x ?_ | refine QC.x ?_ | refine QB.x ?_) | (with_reducible refine QB.o (by decide) ?_))))
  (repeat (first | ((with_reducible show RG _ _ (_ :: _) _ _ _); refine RG.go1 (k := ?_)) | ((with_reducible show DG _ _ (_ :: _) _ _ _ _ _); refine DG.go1 (k := ?_)) | with_reducible apply RG.nil | with_reducible apply W.seq | with_reducible apply W.reg | with_reducible apply W.skip | with_reducible apply W.block | with_reducible apply W.drw | with_reducible apply DG.nil | (with_reducible refine W.done (QB.n ?_)) | refine W.cndT ?_ | refine W.cndF ?_))
  (refine W.ret ?_; (repeat (with_reducible first | refine QB.r ?_ | refine QL.r ?_ | refine QC.r ?_)); refine QF.r ?_)
  exact RetOk.rs (vs := [_]) r_caravelref12_Find []
def routB (to p : Int) (z : Int) : Bool := decide (z ≠ p) && (decide (to < 0) || decide (to = z))
def rout (to p : Int) (i : Nat) : List Int := ((List.range i).map fun (n : Nat) => (n : Int)).filter (routB to p)
theorem rout_len (to p : Int) (i : Nat) : (rout to p i).length ≤ i := by
  unfold rout; refine Nat.le_trans (List.length_filter_le _ _) ?_; simp
theorem rout_y {to p : Int} {i : Nat} (h : routB to p i = true) : rout to p (i + 1) = rout to p i ++ [(i : Int)] := by
  unfold rout; rw [List.range_succ]; simp [h]
theorem rout_n {to p : Int} {i : Nat} (h : routB to p i = false) : rout to p (i + 1) = rout to p i := by
  unfold rout; rw [List.range_succ]; simp [h]
def rseen (l : List Lrn) (p : Int) (s : List UInt8) : List Lrn := if ((s[6]?.getD 0).toNat : Int) % 2 = 0 then l ++ [⟨(s[6]?.getD 0).toNat, (s[7]?.getD 0).toNat, (s[8]?.getD 0).toNat, (s[9]?.getD 0).toNat, (s[10]?.getD 0).toNat, (s[11]?.getD 0).toNat, p⟩] else l
def rfwd (np : Nat) (l : List Lrn) (p : Int) (s : List UInt8) : FwR :=
  if p < 0 ∨ (np : Int) ≤ p then ⟨l, [], 1⟩ else if s.length < 14 then ⟨l, [], 6⟩
  else ⟨rseen l p s, rout (rfind (known (rseen l p s)) (mcard s 0)) p np, 0⟩
theorem rForward_ok (np : Nat) (hnp : np ≤ 8) (l : List Lrn) (hl : l.length ≤ 999) (p : Int) (s : List UInt8) (hs : s.length ≤ 1000000) :
    ACall Try.prog 11 [.agg [.int .i64 np, .sl false 7 (l.map lrn)], .int .i64 p, .str s]
      (.tup [.agg [.int .i64 np, .sl false 7 ((rfwd np l p s).l.map lrn)], .sl false 1 ((rfwd np l p s).out.map iv), .int .i64 (rfwd np l p s).e]) [] := by
  have el := lr_len l
  unfold rfwd
  by_cases h1 : p < 0 ∨ (np : Int) ≤ p
  · rw [if_pos h1]
    rcases Int.lt_or_le p 0 with h | h
    · refine acall_walk (N := 70) Try.func11 (by kernel_rfl) p_caravelref12_Forward rfl ?_; unfold c_caravelref12_Forward; dsimp only [enum, Nat.reduceAdd]
      (repeat (first | ((with_reducible show RG _ _ (_ :: _) _ _ _); refine RG.go1 (k := ?_)) | ((with_reducible show DG _ _ (_ :: _) _ _ _ _ _); refine DG.go1 (k := ?_)) | with_reducible apply RG.nil | with_reducible apply W.seq | with_reducible apply W.reg | with_reducible apply W.skip | with_reducible apply W.block | with_reducible apply W.drw | with_reducible apply DG.nil | (with_reducible refine W.done (QB.n ?_)) | refine W.cndT ?_ | refine W.cndF ?_))
      (refine W.ret ?_; (repeat (with_reducible first | refine QB.r ?_ | refine QL.r ?_ | refine QC.r ?_)); refine QF.r ?_)
      exact RetOk.rs (vs := [_, _, _]) r_caravelref12_Forward []
    · have h2 : (np : Int) ≤ p := by omega
      clear h1
      refine acall_walk (N := 70) Try.func11 (by kernel_rfl) p_caravelref12_Forward rfl ?_; unfold c_caravelref12_Forward; dsimp only [enum, Nat.reduceAdd]
      (repeat (first | ((with_reducible show RG _ _ (_ :: _) _ _ _); refine RG.go1 (k := ?_)) | ((with_reducible show DG _ _ (_ :: _) _ _ _ _ _); refine DG.go1 (k := ?_)) | with_reducible apply RG.nil | with_reducible apply W.seq | with_reducible apply W.reg | with_reducible apply W.skip | with_reducible apply W.block | with_reducible apply W.drw | with_reducible apply DG.nil | (with_reducible refine W.done (QB.n ?_)) | refine W.cndT ?_ | refine W.cndF ?_))
      (refine W.ret ?_; (repeat (with_reducible first | refine QB.r ?_ | refine QL.r ?_ | refine QC.r ?_)); refine QF.r ?_)
      exact RetOk.rs (vs := [_, _, _]) r_caravelref12_Forward []
  rw [if_neg h1]
  have h1 : 0 ≤ p ∧ p < np := by omega
  by_cases h2 : s.length < 14
  · rw [if_pos h2]
    refine acall_walk (N := 70) Try.func11 (by kernel_rfl) p_caravelref12_Forward rfl ?_; unfold c_caravelref12_Forward; dsimp only [enum, Nat.reduceAdd]
    (repeat (first | ((with_reducible show RG _ _ (_ :: _) _ _ _); refine RG.go1 (k := ?_)) | ((with_reducible show DG _ _ (_ :: _) _ _ _ _ _); refine DG.go1 (k := ?_)) | with_reducible apply RG.nil | with_reducible apply W.seq | with_reducible apply W.reg | with_reducible apply W.skip | with_reducible apply W.block | with_reducible apply W.drw | with_reducible apply DG.nil | (with_reducible refine W.done (QB.n ?_)) | refine W.cndT ?_ | refine W.cndF ?_))
    (refine W.ret ?_; (repeat (with_reducible first | refine QB.r ?_ | refine QL.r ?_ | refine QC.r ?_)); refine QF.r ?_)
    exact RetOk.rs (vs := [_, _, _]) r_caravelref12_Forward []
  rw [if_neg h2]
  have h2 : 14 ≤ s.length := by omega
  have c6 := rCard_ok s 6 (by omega) hs
  have c0 := rCard_ok s 0 (by omega) hs
  obtain ⟨l', hl'⟩ : ∃ q, rseen l p s = q := ⟨_, rfl⟩
  have hll : l'.length ≤ 1000 := by
    rw [← hl']; unfold rseen; split
    · simp; omega
    · omega
  have cf := rFind_ok np l' hll (mcard s 0)
  rw [hl']
  generalize rfind (known l') (mcard s 0) = to at cf ⊢
  unfold Mac.l at c6 c0 cf
  dsimp only [mcard] at c6 c0 cf
  unfold rseen at hl'
  have lp := lr_pure l
  refine acall_walk (N := 70) Try.func11 (by kernel_rfl) p_caravelref12_Forward rfl ?_; unfold c_caravelref12_Forward; dsimp only [enum, Nat.reduceAdd]
  (repeat (first | ((with_reducible show RG _ _ (_ :: _) _ _ _); refine RG.go1 (k := ?_)) | ((with_reducible show DG _ _ (_ :: _) _ _ _ _ _); refine DG.go1 (k := ?_)) | with_reducible apply RG.nil | with_reducible apply W.seq | with_reducible apply W.reg | with_reducible apply W.skip | with_reducible apply W.block | with_reducible apply W.drw | with_reducible apply DG.nil | (with_reducible refine W.done (QB.n ?_)) | refine W.cndT ?_ | refine W.cndF ?_))
  (first | ((with_reducible show RG _ _ (_ :: _) _ _ _); refine RG.ew (rfl) (k := ?_)) | ((with_reducible show DG _ _ (_ :: _) _ _ _ _ _); refine DG.ew (rfl) (k := ?_)))
  (repeat (first | ((with_reducible show RG _ _ (_ :: _) _ _ _); refine RG.go1 (k := ?_)) | ((with_reducible show DG _ _ (_ :: _) _ _ _ _ _); refine DG.go1 (k := ?_)) | with_reducible apply RG.nil | with_reducible apply W.seq | with_reducible apply W.reg | with_reducible apply W.skip | with_reducible apply W.block | with_reducible apply W.drw | with_reducible apply DG.nil | (with_reducible refine W.done (QB.n ?_)) | refine W.cndT ?_ | refine W.cndF ?_))
  refine W.cut (ι := Unit) (fun _ => ⟨[(8, .int .i64 0), (7, .nil), (6, .bptr 1 0), (3, .bptr 0 0), (1, .int .i64 p), (2, .str s)], [some [.int .i64 np, .sl false 7 (l'.map lrn)], some [.int .i64 0, .nil]], [], 2, 0⟩) ?_ (by simp) ?_
  · by_cases hp : ((s[6]?.getD 0).toNat : Int) % 2 = 0
    · rw [if_pos hp] at hl'
      rw [decide_eq_true hp]
      have hsn : l.map lrn ++ [AV.agg [.int .u8 (s[6]?.getD 0).toNat, .int .u8 (s[7]?.getD 0).toNat, .int .u8 (s[8]?.getD 0).toNat, .int .u8 (s[9]?.getD 0).toNat, .int .u8 (s[10]?.getD 0).toNat, .int .u8 (s[11]?.getD 0).toNat, .int .i64 p]] = l'.map lrn := by rw [← hl', List.map_append]; rfl
      have hsl : l'.length = l.length + 1 := by rw [← hl']; simp
      (repeat (first | ((with_reducible show RG _ _ (_ :: _) _ _ _); refine RG.go1 (k := ?_)) | ((with_reducible show DG _ _ (_ :: _) _ _ _ _ _); refine DG.go1 (k := ?_)) | with_reducible apply RG.nil | with_reducible apply W.seq | with_reducible apply W.reg | with_reducible apply W.skip | with_reducible apply W.block | with_reducible apply W.drw | with_reducible apply DG.nil | (with_reducible refine W.done (QB.n ?_)) | refine W.cndT ?_ | refine W.cndF ?_))
      (first | ((with_reducible show RG _ _ (_ :: _) _ _ _); refine RG.ca (c6) (k := ?_)) | ((with_reducible show DG _ _ (_ :: _) _ _ _ _ _); refine DG.ca (c6) (k := ?_)))
      (repeat (first | ((with_reducible show RG _ _ (_ :: _) _ _ _); refine RG.go1 (k := ?_)) | ((with_reducible show DG _ _ (_ :: _) _ _ _ _ _); refine DG.go1 (k := ?_)) | with_reducible apply RG.nil | with_reducible apply W.seq | with_reducible apply W.reg | with_reducible apply W.skip | with_reducible apply W.block | with_reducible apply W.drw | with_reducible apply DG.nil | (with_reducible refine W.done (QB.n ?_)) | refine W.cndT ?_ | refine W.cndF ?_))
      rw [hsn]
      refine W.done (QC.n (()) ?_)
      (refine Wk.trans (Wk.frz (b := 3) rfl rfl) ?_; refine Wk.trans (Wk.box (b := 0) (cs' := [_, _]) rfl (by dsimp only [ClL]; (repeat' (first | exact True.intro | exact Cl.ice rfl rfl rfl (by first | assumption | decide | omega | (simp; (first | (all_goals fail) | fail)) | (simp <;> omega)) (by first | exact take_all _ | exact take_len (by first | (simp; (first | (all_goals fail) | fail)) | (simp <;> omega)) | exact rfl) | exact Cl.le (.refl _) | apply And.intro)); (first | (all_goals fail) | fail))) ?_; dsimp only [setO])
      exact Wk.rn ([0, 1] ) ( [])
    · rw [if_neg hp] at hl'
      subst hl'
      rw [decide_eq_false hp]
      (repeat (first | ((with_reducible show RG _ _ (_ :: _) _ _ _); refine RG.go1 (k := ?_)) | ((with_reducible show DG _ _ (_ :: _) _ _ _ _ _); refine DG.go1 (k := ?_)) | with_reducible apply RG.nil | with_reducible apply W.seq | with_reducible apply W.reg | with_reducible apply W.skip | with_reducible apply W.block | with_reducible apply W.drw | with_reducible apply DG.nil | (with_reducible refine W.done (QB.n ?_)) | refine W.cndT ?_ | refine W.cndF ?_))
      refine W.done (QC.n (()) ?_)
      exact Wk.rn ([0, 1] ) ( [])
  intro _
  (repeat (first | ((with_reducible show RG _ _ (_ :: _) _ _ _); refine RG.go1 (k := ?_)) | ((with_reducible show DG _ _ (_ :: _) _ _ _ _ _); refine DG.go1 (k := ?_)) | with_reducible apply RG.nil | with_reducible apply W.seq | with_reducible apply W.reg | with_reducible apply W.skip | with_reducible apply W.block | with_reducible apply W.drw | with_reducible apply DG.nil | (with_reducible refine W.done (QB.n ?_)) | refine W.cndT ?_ | refine W.cndF ?_))
  (first | ((with_reducible show RG _ _ (_ :: _) _ _ _); refine RG.ca (c0) (k := ?_)) | ((with_reducible show DG _ _ (_ :: _) _ _ _ _ _); refine DG.ca (c0) (k := ?_)))
  (repeat (first | ((with_reducible show RG _ _ (_ :: _) _ _ _); refine RG.go1 (k := ?_)) | ((with_reducible show DG _ _ (_ :: _) _ _ _ _ _); refine DG.go1 (k := ?_)) | with_reducible apply RG.nil | with_reducible apply W.seq | with_reducible apply W.reg | with_reducible apply W.skip | with_reducible apply W.block | with_reducible apply W.drw | with_reducible apply DG.nil | (with_reducible refine W.done (QB.n ?_)) | refine W.cndT ?_ | refine W.cndF ?_))
  (first | ((with_reducible show RG _ _ (_ :: _) _ _ _); refine RG.ca (cf) (k := ?_)) | ((with_reducible show DG _ _ (_ :: _) _ _ _ _ _); refine DG.ca (cf) (k := ?_)))
  (repeat (first | ((with_reducible show RG _ _ (_ :: _) _ _ _); refine RG.go1 (k := ?_)) | ((with_reducible show DG _ _ (_ :: _) _ _ _ _ _); refine DG.go1 (k := ?_)) | with_reducible apply RG.nil | with_reducible apply W.seq | with_reducible apply W.reg | with_reducible apply W.skip | with_reducible apply W.block | with_reducible apply W.drw | with_reducible apply DG.nil | (with_reducible refine W.done (QB.n ?_)) | refine W.cndT ?_ | refine W.cndF ?_))
  refine W.wk (Wk.nilT (t := 11) 1 rfl) ?_ (by simp)
  refine W.loop (ι := {i : Nat // i ≤ np}) (fun i => ⟨[(12, .int .i64 i.1), (11, .ref 0 1 0 (rout to p i.1).length), (10, .int .i64 to), (6, .bptr 1 0), (3, .bptr 0 0), (1, .int .i64 p)], [some [.int .i64 np, .sl false 7 (l'.map lrn)], some [.int .i64 0, .nil]], [some ⟨false, 1, (rout to p i.1).map iv⟩], 2, 1⟩) (fun i => np - i.1) ⟨0, Nat.zero_le _⟩ ?_ ?_
  · have e0 : rout to p 0 = [] := rfl
    dsimp only
    rw [e0]
    exact Wk.rn ([0, 1] ) ( [0])
  rintro ⟨i, hi⟩
  dsimp only
  have hol := rout_len to p i
  have hoe := iv_len (rout to p i)
  (repeat (first | ((with_reducible show RG _ _ (_ :: _) _ _ _); refine RG.go1 (k := ?_)) | ((with_reducible show DG _ _ (_ :: _) _ _ _ _ _); refine DG.go1 (k := ?_)) | with_reducible apply RG.nil | with_reducible apply W.seq | with_reducible apply W.reg | with_reducible apply W.skip | with_reducible apply W.block | with_reducible apply W.drw | with_reducible apply DG.nil | (with_reducible refine W.done (QB.n ?_))))
  refine W.cnd (fun h3 => ?_) (fun h3 => ?_)
  · have hlt : i < np := by simp at h3; omega
    clear h3
    by_cases hip : (i : Int) = p
    · have hsn := rout_n (to := to) (p := p) (i := i) (by unfold routB; simp [hip])
      (repeat (first | ((with_reducible show RG _ _ (_ :: _) _ _ _); refine RG.go1 (k := ?_)) | ((with_reducible show DG _ _ (_ :: _) _ _ _ _ _); refine DG.go1 (k := ?_)) | with_reducible apply RG.nil | with_reducible apply W.seq | with_reducible apply W.reg | with_reducible apply W.skip | with_reducible apply W.block | with_reducible apply W.drw | with_reducible apply DG.nil | (with_reducible refine W.done (QB.n ?_)) | refine W.cndT ?_ | refine W.cndF ?_))
      rw [← hsn]
      refine W.done (QL.n (⟨i + 1, by omega⟩) ?_ ?_)
      · exact Wk.rn ([0, 1] ) ( [0])
      · dsimp only; omega
    by_cases hto : to < 0 ∨ to = i
    · have hsn := rout_y (to := to) (p := p) (i := i) (by unfold routB; simp [hip, hto])
      have hs2 : (rout to p i).map iv ++ [.int .i64 i] = (rout to p (i + 1)).map iv := by rw [hsn, List.map_append]; rfl
      have hs3 : (rout to p (i + 1)).length = (rout to p i).length + 1 := by rw [hsn]; simp
      clear hsn
      rcases hto with hto | hto
      · (repeat (first | ((with_reducible show RG _ _ (_ :: _) _ _ _); refine RG.go1 (k := ?_)) | ((with_reducible show DG _ _ (_ :: _) _ _ _ _ _); refine DG.go1 (k := ?_)) | with_reducible apply RG.nil | with_reducible apply W.seq | with_reducible apply W.reg | with_reducible apply W.skip | with_reducible apply W.block | with_reducible apply W.drw | with_reducible apply DG.nil | (with_reducible refine W.done (QB.n ?_)) | refine W.cndT ?_ | refine W.cndF ?_))
        rw [hs2, ← hs3]
        refine W.done (QL.n (⟨i + 1, by omega⟩) ?_ ?_)
        · exact Wk.rn ([0, 1] ) ( [2])
        · dsimp only; omega
      · (repeat (first | ((with_reducible show RG _ _ (_ :: _) _ _ _); refine RG.go1 (k := ?_)) | ((with_reducible show DG _ _ (_ :: _) _ _ _ _ _); refine DG.go1 (k := ?_)) | with_reducible apply RG.nil | with_reducible apply W.seq | with_reducible apply W.reg | with_reducible apply W.skip | with_reducible apply W.block | with_reducible apply W.drw | with_reducible apply DG.nil | (with_reducible refine W.done (QB.n ?_)) | refine W.cndT ?_ | refine W.cndF ?_))
        rw [hs2, ← hs3]
        refine W.done (QL.n (⟨i + 1, by omega⟩) ?_ ?_)
        · exact Wk.rn ([0, 1] ) ( [2])
        · dsimp only; omega
    · have h5 : ¬ to < 0 := fun q => hto (.inl q)
      have h6 : ¬ to = i := fun q => hto (.inr q)
      have hsn := rout_n (to := to) (p := p) (i := i) (by unfold routB; simp [hip, h5, h6])
      clear hto
      (repeat (first | ((with_reducible show RG _ _ (_ :: _) _ _ _); refine RG.go1 (k := ?_)) | ((with_reducible show DG _ _ (_ :: _) _ _ _ _ _); refine DG.go1 (k := ?_)) | with_reducible apply RG.nil | with_reducible apply W.seq | with_reducible apply W.reg | with_reducible apply W.skip | with_reducible apply W.block | with_reducible apply W.drw | with_reducible apply DG.nil | (with_reducible refine W.done (QB.n ?_)) | refine W.cndT ?_ | refine W.cndF ?_))
      rw [← hsn]
      refine W.done (QL.n (⟨i + 1, by omega⟩) ?_ ?_)
      · exact Wk.rn ([0, 1] ) ( [0])
      · dsimp only; omega
  · have hlt : i = np := by simp at h3; omega
    clear h3
    subst hlt
    (refine W.exit ?_; (repeat (first | (with_reducible first | refine QL.x ?_ | refine QC.x ?_ | refine QB.x ?_) | (with_reducible refine QB.o (by decide) ?_))))
    (repeat (first | ((with_reducible show RG _ _ (_ :: _) _ _ _); refine RG.go1 (k := ?_)) | ((with_reducible show DG _ _ (_ :: _) _ _ _ _ _); refine DG.go1 (k := ?_)) | with_reducible apply RG.nil | with_reducible apply W.seq | with_reducible apply W.reg | with_reducible apply W.skip | with_reducible apply W.block | with_reducible apply W.drw | with_reducible apply DG.nil | (with_reducible refine W.done (QB.n ?_)) | refine W.cndT ?_ | refine W.cndF ?_))
    (refine W.ret ?_; (repeat (with_reducible first | refine QB.r ?_ | refine QL.r ?_ | refine QC.r ?_)); refine QF.r ?_)
    (refine RetOk.wk (Wk.frz (b := 0) rfl rfl) ?_; refine RetOk.wk (Wk.tmp (t := 7) (Cl.ice rfl rfl rfl (by first | assumption | decide | omega | (simp; (first | (all_goals fail) | fail)) | (simp <;> omega)) (by first | exact take_all _ | exact take_len (by first | (simp; (first | (all_goals fail) | fail)) | (simp <;> omega)) | exact rfl))) ?_; dsimp only [setO])
    exact RetOk.rs (vs := [_, _, _]) r_caravelref12_Forward []
theorem rLike_ok (np : Int) (l : List Lrn) (hl : l.length ≤ 1000) : ACall Try.prog 12 [.agg [.int .i64 np, .sl true 7 (l.map lrn)], .agg [.int .i64 np, .sl true 7 ((known l).map lrn)]] (.bool true) [] := by
  have ck := rKnown_ok np l hl
  have hkl := known_len l
  generalize known l = k at *
  have el := lr_len k
  refine acall_walk (N := 38) Try.func12 (by kernel_rfl) p_caravelref12_Like rfl ?_; unfold c_caravelref12_Like; dsimp only [enum, Nat.reduceAdd]
  (repeat (first | ((with_reducible show RG _ _ (_ :: _) _ _ _); refine RG.go1 (k := ?_)) | ((with_reducible show DG _ _ (_ :: _) _ _ _ _ _); refine DG.go1 (k := ?_)) | with_reducible apply RG.nil | with_reducible apply W.seq | with_reducible apply W.reg | with_reducible apply W.skip | with_reducible apply W.block | with_reducible apply W.drw | with_reducible apply DG.nil | (with_reducible refine W.done (QB.n ?_)) | refine W.cndT ?_ | refine W.cndF ?_))
  (first | ((with_reducible show RG _ _ (_ :: _) _ _ _); refine RG.ca (ck) (k := ?_)) | ((with_reducible show DG _ _ (_ :: _) _ _ _ _ _); refine DG.ca (ck) (k := ?_)))
  (repeat (first | ((with_reducible show RG _ _ (_ :: _) _ _ _); refine RG.go1 (k := ?_)) | ((with_reducible show DG _ _ (_ :: _) _ _ _ _ _); refine DG.go1 (k := ?_)) | with_reducible apply RG.nil | with_reducible apply W.seq | with_reducible apply W.reg | with_reducible apply W.skip | with_reducible apply W.block | with_reducible apply W.drw | with_reducible apply DG.nil | (with_reducible refine W.done (QB.n ?_)) | refine W.cndT ?_ | refine W.cndF ?_))
  refine W.loop (ι := {i : Nat // i ≤ k.length}) (fun i => ⟨[(6, .int .i64 i.1), (5, .sl false 7 (k.map lrn)), (2, .bptr 0 0), (3, .bptr 1 0)], [some [.int .i64 np, .sl true 7 (l.map lrn)], some [.int .i64 np, .sl true 7 (k.map lrn)]], [], 2, 0⟩) (fun i => k.length - i.1) ⟨0, Nat.zero_le _⟩ ?_ ?_
  · exact Wk.rn ([0, 1] ) ( [])
  rintro ⟨i, hi⟩
  dsimp only
  (repeat (first | ((with_reducible show RG _ _ (_ :: _) _ _ _); refine RG.go1 (k := ?_)) | ((with_reducible show DG _ _ (_ :: _) _ _ _ _ _); refine DG.go1 (k := ?_)) | with_reducible apply RG.nil | with_reducible apply W.seq | with_reducible apply W.reg | with_reducible apply W.skip | with_reducible apply W.block | with_reducible apply W.drw | with_reducible apply DG.nil | (with_reducible refine W.done (QB.n ?_))))
  refine W.cnd (fun h1 => ?_) (fun h1 => ?_)
  · have hlt : i < k.length := by simp at h1; omega
    have hE := lr_at k i hlt (j := ((i : Nat) : Int).toNat) (by simp)
    clear h1
    generalize k[i] = x at *
    (repeat (first | ((with_reducible show RG _ _ (_ :: _) _ _ _); refine RG.go1 (k := ?_)) | ((with_reducible show DG _ _ (_ :: _) _ _ _ _ _); refine DG.go1 (k := ?_)) | with_reducible apply RG.nil | with_reducible apply W.seq | with_reducible apply W.reg | with_reducible apply W.skip | with_reducible apply W.block | with_reducible apply W.drw | with_reducible apply DG.nil | (with_reducible refine W.done (QB.n ?_)) | refine W.cndT ?_ | refine W.cndF ?_))
    (first | ((with_reducible show RG _ _ (_ :: _) _ _ _); refine RG.ew (cptr_of (hE) (by (conv => lhs; whnf) <;> exact rfl)) (k := ?_)) | ((with_reducible show DG _ _ (_ :: _) _ _ _ _ _); refine DG.ew (cptr_of (hE) (by (conv => lhs; whnf) <;> exact rfl)) (k := ?_)))
    (repeat (first | ((with_reducible show RG _ _ (_ :: _) _ _ _); refine RG.go1 (k := ?_)) | ((with_reducible show DG _ _ (_ :: _) _ _ _ _ _); refine DG.go1 (k := ?_)) | with_reducible apply RG.nil | with_reducible apply W.seq | with_reducible apply W.reg | with_reducible apply W.skip | with_reducible apply W.block | with_reducible apply W.drw | with_reducible apply DG.nil | (with_reducible refine W.done (QB.n ?_)) | refine W.cndT ?_ | refine W.cndF ?_))
    (first | ((with_reducible show RG _ _ (_ :: _) _ _ _); refine RG.ew (cptr_of (hE) (by (conv => lhs; whnf) <;> exact rfl)) (k := ?_)) | ((with_reducible show DG _ _ (_ :: _) _ _ _ _ _); refine DG.ew (cptr_of (hE) (by (conv => lhs; whnf) <;> exact rfl)) (k := ?_)))
    (repeat (first | ((with_reducible show RG _ _ (_ :: _) _ _ _); refine RG.go1 (k := ?_)) | ((with_reducible show DG _ _ (_ :: _) _ _ _ _ _); refine DG.go1 (k := ?_)) | with_reducible apply RG.nil | with_reducible apply W.seq | with_reducible apply W.reg | with_reducible apply W.skip | with_reducible apply W.block | with_reducible apply W.drw | with_reducible apply DG.nil | (with_reducible refine W.done (QB.n ?_)) | refine W.cndT ?_ | refine W.cndF ?_))
    rw [show (!(decide (x.a0 = x.a0) && (decide (x.a1 = x.a1) && (decide (x.a2 = x.a2) && (decide (x.a3 = x.a3) && (decide (x.a4 = x.a4) && (decide (x.a5 = x.a5) && (decide (x.p = x.p) && true)))))))) = false by simp]
    refine W.cndF ?_
    (repeat (first | ((with_reducible show RG _ _ (_ :: _) _ _ _); refine RG.go1 (k := ?_)) | ((with_reducible show DG _ _ (_ :: _) _ _ _ _ _); refine DG.go1 (k := ?_)) | with_reducible apply RG.nil | with_reducible apply W.seq | with_reducible apply W.reg | with_reducible apply W.skip | with_reducible apply W.block | with_reducible apply W.drw | with_reducible apply DG.nil | (with_reducible refine W.done (QB.n ?_)) | refine W.cndT ?_ | refine W.cndF ?_))
    refine W.done (QL.n (⟨i + 1, by omega⟩) ?_ ?_)
    · exact Wk.rn ([0, 1] ) ( [])
    · dsimp only; omega
  (refine W.exit ?_; (repeat (first | (with_reducible first | refine QL.x ?_ | refine QC.x ?_ | refine QB.x ?_) | (with_reducible refine QB.o (by decide) ?_))))
  (repeat (first | ((with_reducible show RG _ _ (_ :: _) _ _ _); refine RG.go1 (k := ?_)) | ((with_reducible show DG _ _ (_ :: _) _ _ _ _ _); refine DG.go1 (k := ?_)) | with_reducible apply RG.nil | with_reducible apply W.seq | with_reducible apply W.reg | with_reducible apply W.skip | with_reducible apply W.block | with_reducible apply W.drw | with_reducible apply DG.nil | (with_reducible refine W.done (QB.n ?_)) | refine W.cndT ?_ | refine W.cndF ?_))
  (refine W.ret ?_; (repeat (with_reducible first | refine QB.r ?_ | refine QL.r ?_ | refine QC.r ?_)); refine QF.r ?_)
  exact RetOk.rs (vs := [_]) r_caravelref12_Like []
end Go.Proofs.Ytfpgpeomcefkhaa
