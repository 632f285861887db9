/- Functions of package slices, at parts and at holes. -/
import Derived.Test.YtiejnmbpejfpgaaFs0
import Derived.Test.YtiejnmbpejfpgaaAxJ
namespace Go.Proofs.Ytiejnmbpejfpgaa
open Go.RowKit
set_option linter.unusedVariables false
set_option linter.unusedSimpArgs false
set_option maxRecDepth 100000
set_option maxHeartbeats 4000000
structure Prt where
  off : Int
  dt : List UInt8
structure Hl where
  s0 : Int
  s1 : Int
  s2 : Int
  s3 : Int
  d0 : Int
  d1 : Int
  d2 : Int
  d3 : Int
  pr : Int
  i : Int
  tt : Int
  since : Int
  en : Int
  got : List Prt
def prt (x : Prt) : AV := .agg [.int .i64 x.off, .sl false 1 (x.dt.map by8)]
theorem pr_at (l : List Prt) (i : Nat) (h : i < l.length) {j : Nat} (hj : j = i) : (l.map prt)[j]?.getD .any = .agg [.int .i64 l[i].off, .sl false 1 (l[i].dt.map by8)] := at_map prt l i _ (List.getElem?_eq_getElem h) hj
theorem pr_pure (l : List Prt) : (l.map prt).all pureV = true := by simp [prt, pureV, pureC]
theorem pr_len (l : List Prt) : (l.map prt).length = l.length := by simp
def hol (x : Hl) : AV := .agg [.int .u8 x.s0, .int .u8 x.s1, .int .u8 x.s2, .int .u8 x.s3, .int .u8 x.d0, .int .u8 x.d1, .int .u8 x.d2, .int .u8 x.d3, .int .u8 x.pr, .int .u16 x.i, .int .u8 x.tt, .int .u64 x.since, .int .i64 x.en, .sl false 2 (x.got.map prt)]
theorem ho_at (l : List Hl) (i : Nat) (h : i < l.length) {j : Nat} (hj : j = i) : (l.map hol)[j]?.getD .any = .agg [.int .u8 l[i].s0, .int .u8 l[i].s1, .int .u8 l[i].s2, .int .u8 l[i].s3, .int .u8 l[i].d0, .int .u8 l[i].d1, .int .u8 l[i].d2, .int .u8 l[i].d3, .int .u8 l[i].pr, .int .u16 l[i].i, .int .u8 l[i].tt, .int .u64 l[i].since, .int .i64 l[i].en, .sl false 2 (l[i].got.map prt)] := at_map hol l i _ (List.getElem?_eq_getElem h) hj
theorem ho_pure (l : List Hl) : (l.map hol).all pureV = true := by simp [hol, pureV, pureC]
theorem ho_len (l : List Hl) : (l.map hol).length = l.length := by simp
theorem prIndex_ok (l : List Prt) (hl : l.length ≤ 1000000) (f : Nat) (ca : Int) (pr : Prt → Bool) (hf : ∀ x ∈ l, ACall Try.prog f [.agg [.int .i64 x.off, .sl false 1 (x.dt.map by8)], .cptr true [.int .i64 ca]] (.bool (pr x)) []) :
    ACall Try.prog 30 [.sl true 2 (l.map prt), .fn f [.cptr true [.int .i64 ca]]] (.int .i64 (if l.any pr then (l.findIdx pr : Int) else -1)) [] := by
  have el := pr_len l
  refine acall_walk (N := 19) Try.func30 (by kernel_rfl) p_slices_IndexFunc__caravel_api_Part_caravel_api_Part rfl ?_; unfold c_slices_IndexFunc__caravel_api_Part_caravel_api_Part; dsimp only [enum, Nat.reduceAdd]
  (repeat (first | ((with_reducible show RG _ _ (_ :: _) _ _ _); refine RG.go1 (k := ?_)) | ((with_reducible show DG _ _ (_ :: _) _ _ _ _ _); refine DG.go1 (k := ?_)) | (with_reducible first | apply RG.nil | apply W.seq | apply W.reg | apply W.skip | apply W.block | apply W.drw | apply DG.nil | refine W.done (QB.n ?_))))
  refine W.loop (ι := {i : Nat // i ≤ l.length ∧ ∀ j : Nat, (h : j < l.length) → j < i → pr l[j] = false}) (fun i => ⟨[(8, .int .i64 i.1), (7, .int .i64 l.length), (0, .sl true 2 (l.map prt)), (1, .fn f [.cptr true [.int .i64 ca]])], [], [], 0, 0⟩) (fun i => l.length - i.1) ⟨0, Nat.zero_le _, fun j _ h => absurd h (Nat.not_lt_zero _)⟩ ?_ ?_
  · exact Wk.rn ([] ) ( [])
  rintro ⟨i, hi, hall⟩
  dsimp only
  (repeat (first | ((with_reducible show RG _ _ (_ :: _) _ _ _); refine RG.go1 (k := ?_)) | ((with_reducible show DG _ _ (_ :: _) _ _ _ _ _); refine DG.go1 (k := ?_)) | (with_reducible first | apply RG.nil | apply W.seq | apply W.reg | apply W.skip | apply W.block | apply W.drw | apply DG.nil | refine W.done (QB.n ?_))))
  refine W.cnd (fun h1 => ?_) (fun h1 => ?_)
  · have hlt : i < l.length := by simp at h1; omega
    have hE := pr_at l i hlt (j := ((i : Nat) : Int).toNat) (by simp)
    have hc := hf _ (List.getElem_mem hlt)
    cases hpi : pr l[i]
    · rw [hpi] at hc
      (repeat (first | ((with_reducible show RG _ _ (_ :: _) _ _ _); refine RG.go1 (k := ?_)) | ((with_reducible show DG _ _ (_ :: _) _ _ _ _ _); refine DG.go1 (k := ?_)) | (with_reducible first | apply RG.nil | apply W.seq | apply W.reg | apply W.skip | apply W.block | apply W.drw | apply DG.nil | refine W.done (QB.n ?_))))
      (first | ((with_reducible show RG _ _ (_ :: _) _ _ _); refine RG.ew (cptr_of (hE) (by (conv => lhs; whnf) <;> exact rfl)) (k := ?_)) | ((with_reducible show DG _ _ (_ :: _) _ _ _ _ _); refine DG.ew (cptr_of (hE) (by (conv => lhs; whnf) <;> exact rfl)) (k := ?_)))
      (repeat (first | ((with_reducible show RG _ _ (_ :: _) _ _ _); refine RG.go1 (k := ?_)) | ((with_reducible show DG _ _ (_ :: _) _ _ _ _ _); refine DG.go1 (k := ?_)) | (with_reducible first | apply RG.nil | apply W.seq | apply W.reg | apply W.skip | apply W.block | apply W.drw | apply DG.nil | refine W.done (QB.n ?_))))
      (first | ((with_reducible show RG _ _ (_ :: _) _ _ _); refine RG.cav (hc) (k := ?_)) | ((with_reducible show DG _ _ (_ :: _) _ _ _ _ _); refine DG.cav (hc) (k := ?_)))
      (repeat (first | ((with_reducible show RG _ _ (_ :: _) _ _ _); refine RG.go1 (k := ?_)) | ((with_reducible show DG _ _ (_ :: _) _ _ _ _ _); refine DG.go1 (k := ?_)) | (with_reducible first | apply RG.nil | apply W.seq | apply W.reg | apply W.skip | apply W.block | apply W.drw | apply DG.nil | refine W.done (QB.n ?_))))
      refine W.cndF ?_
      (repeat (first | ((with_reducible show RG _ _ (_ :: _) _ _ _); refine RG.go1 (k := ?_)) | ((with_reducible show DG _ _ (_ :: _) _ _ _ _ _); refine DG.go1 (k := ?_)) | (with_reducible first | apply RG.nil | apply W.seq | apply W.reg | apply W.skip | apply W.block | apply W.drw | apply DG.nil | refine W.done (QB.n ?_))))
      refine W.done (QL.n (⟨i + 1, by omega, fun j hj hji => by
        rcases Nat.lt_or_ge j i with q | q
        · exact hall j hj q
        · obtain rfl : j = i := by omega
          exact hpi⟩) ?_ ?_)
      · exact Wk.rn ([] ) ( [])
      · dsimp only; omega
    · rw [hpi] at hc
      have hany : l.any pr = true := by rw [List.any_eq_true]; exact ⟨_, List.getElem_mem hlt, hpi⟩
      have hidx : l.findIdx pr = i := (List.findIdx_eq hlt).2 ⟨hpi, fun j hj => hall j (by omega) hj⟩
      rw [hany, hidx]
      (repeat (first | ((with_reducible show RG _ _ (_ :: _) _ _ _); refine RG.go1 (k := ?_)) | ((with_reducible show DG _ _ (_ :: _) _ _ _ _ _); refine DG.go1 (k := ?_)) | (with_reducible first | apply RG.nil | apply W.seq | apply W.reg | apply W.skip | apply W.block | apply W.drw | apply DG.nil | refine W.done (QB.n ?_))))
      (first | ((with_reducible show RG _ _ (_ :: _) _ _ _); refine RG.ew (cptr_of (hE) (by (conv => lhs; whnf) <;> exact rfl)) (k := ?_)) | ((with_reducible show DG _ _ (_ :: _) _ _ _ _ _); refine DG.ew (cptr_of (hE) (by (conv => lhs; whnf) <;> exact rfl)) (k := ?_)))
      (repeat (first | ((with_reducible show RG _ _ (_ :: _) _ _ _); refine RG.go1 (k := ?_)) | ((with_reducible show DG _ _ (_ :: _) _ _ _ _ _); refine DG.go1 (k := ?_)) | (with_reducible first | apply RG.nil | apply W.seq | apply W.reg | apply W.skip | apply W.block | apply W.drw | apply DG.nil | refine W.done (QB.n ?_))))
      (first | ((with_reducible show RG _ _ (_ :: _) _ _ _); refine RG.cav (hc) (k := ?_)) | ((with_reducible show DG _ _ (_ :: _) _ _ _ _ _); refine DG.cav (hc) (k := ?_)))
      (repeat (first | ((with_reducible show RG _ _ (_ :: _) _ _ _); refine RG.go1 (k := ?_)) | ((with_reducible show DG _ _ (_ :: _) _ _ _ _ _); refine DG.go1 (k := ?_)) | (with_reducible first | apply RG.nil | apply W.seq | apply W.reg | apply W.skip | apply W.block | apply W.drw | apply DG.nil | refine W.done (QB.n ?_))))
      refine W.cndT ?_
      (repeat (first | ((with_reducible show RG _ _ (_ :: _) _ _ _); refine RG.go1 (k := ?_)) | ((with_reducible show DG _ _ (_ :: _) _ _ _ _ _); refine DG.go1 (k := ?_)) | (with_reducible first | apply RG.nil | apply W.seq | apply W.reg | apply W.skip | apply W.block | apply W.drw | apply DG.nil | refine W.done (QB.n ?_))))
      (refine W.ret ?_; (repeat (with_reducible first | refine QB.r ?_ | refine QL.r ?_ | refine QC.r ?_)); refine QF.r ?_)
      exact RetOk.rs (vs := [_]) r_slices_IndexFunc__caravel_api_Part_caravel_api_Part []
  have hany : l.any pr = false := by
    rw [List.any_eq_false]
    intro x hx
    obtain ⟨j, hj, rfl⟩ := List.getElem_of_mem hx
    simp at h1
    rw [hall j hj (by omega)]; simp
  rw [hany]
  (refine W.exit ?_; (repeat (first | (with_reducible first | refine QL.x ?_ | refine QC.x ?_ | refine QB.x ?_) | (with_reducible refine QB.o (by decide) ?_))))
  (repeat (first | ((with_reducible show RG _ _ (_ :: _) _ _ _); refine RG.go1 (k := ?_)) | ((with_reducible show DG _ _ (_ :: _) _ _ _ _ _); refine DG.go1 (k := ?_)) | (with_reducible first | apply RG.nil | apply W.seq | apply W.reg | apply W.skip | apply W.block | apply W.drw | apply DG.nil | refine W.done (QB.n ?_))))
  (refine W.ret ?_; (repeat (with_reducible first | refine QB.r ?_ | refine QL.r ?_ | refine QC.r ?_)); refine QF.r ?_)
  exact RetOk.rs (vs := [_]) r_slices_IndexFunc__caravel_api_Part_caravel_api_Part []
theorem prContains_ok (l : List Prt) (hl : l.length ≤ 1000000) (f : Nat) (ca : Int) (pr : Prt → Bool) (hf : ∀ x ∈ l, ACall Try.prog f [.agg [.int .i64 x.off, .sl false 1 (x.dt.map by8)], .cptr true [.int .i64 ca]] (.bool (pr x)) []) :
    ACall Try.prog 27 [.sl true 2 (l.map prt), .fn f [.cptr true [.int .i64 ca]]] (.bool (l.any pr)) [] := by
  have ci := prIndex_ok l hl f ca pr hf
  cases hany : l.any pr
  · rw [hany] at ci
    refine acall_walk (N := 9) Try.func27 (by kernel_rfl) p_slices_ContainsFunc__caravel_api_Part_caravel_api_Part rfl ?_; unfold c_slices_ContainsFunc__caravel_api_Part_caravel_api_Part; dsimp only [enum, Nat.reduceAdd]
    (repeat (first | ((with_reducible show RG _ _ (_ :: _) _ _ _); refine RG.go1 (k := ?_)) | ((with_reducible show DG _ _ (_ :: _) _ _ _ _ _); refine DG.go1 (k := ?_)) | (with_reducible first | apply RG.nil | apply W.seq | apply W.reg | apply W.skip | apply W.block | apply W.drw | apply DG.nil | refine W.done (QB.n ?_))))
    (first | ((with_reducible show RG _ _ (_ :: _) _ _ _); refine RG.ca (ci) (k := ?_)) | ((with_reducible show DG _ _ (_ :: _) _ _ _ _ _); refine DG.ca (ci) (k := ?_)))
    (repeat (first | ((with_reducible show RG _ _ (_ :: _) _ _ _); refine RG.go1 (k := ?_)) | ((with_reducible show DG _ _ (_ :: _) _ _ _ _ _); refine DG.go1 (k := ?_)) | (with_reducible first | apply RG.nil | apply W.seq | apply W.reg | apply W.skip | apply W.block | apply W.drw | apply DG.nil | refine W.done (QB.n ?_))))
    (refine W.ret ?_; (repeat (with_reducible first | refine QB.r ?_ | refine QL.r ?_ | refine QC.r ?_)); refine QF.r ?_)
    exact RetOk.rs (vs := [_]) r_slices_ContainsFunc__caravel_api_Part_caravel_api_Part []
  · rw [hany, if_pos rfl] at ci
    refine acall_walk (N := 9) Try.func27 (by kernel_rfl) p_slices_ContainsFunc__caravel_api_Part_caravel_api_Part rfl ?_; unfold c_slices_ContainsFunc__caravel_api_Part_caravel_api_Part; dsimp only [enum, Nat.reduceAdd]
    (repeat (first | ((with_reducible show RG _ _ (_ :: _) _ _ _); refine RG.go1 (k := ?_)) | ((with_reducible show DG _ _ (_ :: _) _ _ _ _ _); refine DG.go1 (k := ?_)) | (with_reducible first | apply RG.nil | apply W.seq | apply W.reg | apply W.skip | apply W.block | apply W.drw | apply DG.nil | refine W.done (QB.n ?_))))
    (first | ((with_reducible show RG _ _ (_ :: _) _ _ _); refine RG.ca (ci) (k := ?_)) | ((with_reducible show DG _ _ (_ :: _) _ _ _ _ _); refine DG.ca (ci) (k := ?_)))
    (repeat (first | ((with_reducible show RG _ _ (_ :: _) _ _ _); refine RG.go1 (k := ?_)) | ((with_reducible show DG _ _ (_ :: _) _ _ _ _ _); refine DG.go1 (k := ?_)) | (with_reducible first | apply RG.nil | apply W.seq | apply W.reg | apply W.skip | apply W.block | apply W.drw | apply DG.nil | refine W.done (QB.n ?_))))
    (refine W.ret ?_; (repeat (with_reducible first | refine QB.r ?_ | refine QL.r ?_ | refine QC.r ?_)); refine QF.r ?_)
    exact RetOk.rs (vs := [_]) r_slices_ContainsFunc__caravel_api_Part_caravel_api_Part []
theorem hoIndex_ok (l : List Hl) (hl : l.length ≤ 1000000) (f : Nat) (cq : Pk) (pr : Hl → Bool) (hf : ∀ x ∈ l, ACall Try.prog f [.agg [.int .u8 x.s0, .int .u8 x.s1, .int .u8 x.s2, .int .u8 x.s3, .int .u8 x.d0, .int .u8 x.d1, .int .u8 x.d2, .int .u8 x.d3, .int .u8 x.pr, .int .u16 x.i, .int .u8 x.tt, .int .u64 x.since, .int .i64 x.en, .sl false 2 (x.got.map prt)], .cptr true [.int .u16 cq.i, .bool cq.mo, .int .i64 cq.o, .int .u8 cq.tt, .int .u8 cq.pr, .int .u8 cq.s0, .int .u8 cq.s1, .int .u8 cq.s2, .int .u8 cq.s3, .int .u8 cq.d0, .int .u8 cq.d1, .int .u8 cq.d2, .int .u8 cq.d3, .sl false 1 (cq.dt.map by8)]] (.bool (pr x)) []) :
    ACall Try.prog 17 [.sl true 14 (l.map hol), .fn f [.cptr true [.int .u16 cq.i, .bool cq.mo, .int .i64 cq.o, .int .u8 cq.tt, .int .u8 cq.pr, .int .u8 cq.s0, .int .u8 cq.s1, .int .u8 cq.s2, .int .u8 cq.s3, .int .u8 cq.d0, .int .u8 cq.d1, .int .u8 cq.d2, .int .u8 cq.d3, .sl false 1 (cq.dt.map by8)]]] (.int .i64 (if l.any pr then (l.findIdx pr : Int) else -1)) [] := by
  have el := ho_len l
  refine acall_walk (N := 19) Try.func17 (by kernel_rfl) p_slices_IndexFunc__caravel_api_Hole_caravel_api_Hole rfl ?_; unfold c_slices_IndexFunc__caravel_api_Hole_caravel_api_Hole; dsimp only [enum, Nat.reduceAdd]
  (repeat (first | ((with_reducible show RG _ _ (_ :: _) _ _ _); refine RG.go1 (k := ?_)) | ((with_reducible show DG _ _ (_ :: _) _ _ _ _ _); refine DG.go1 (k := ?_)) | (with_reducible first | apply RG.nil | apply W.seq | apply W.reg | apply W.skip | apply W.block | apply W.drw | apply DG.nil | refine W.done (QB.n ?_))))
  refine W.loop (ι := {i : Nat // i ≤ l.length ∧ ∀ j : Nat, (h : j < l.length) → j < i → pr l[j] = false}) (fun i => ⟨[(8, .int .i64 i.1), (7, .int .i64 l.length), (0, .sl true 14 (l.map hol)), (1, .fn f [.cptr true [.int .u16 cq.i, .bool cq.mo, .int .i64 cq.o, .int .u8 cq.tt, .int .u8 cq.pr, .int .u8 cq.s0, .int .u8 cq.s1, .int .u8 cq.s2, .int .u8 cq.s3, .int .u8 cq.d0, .int .u8 cq.d1, .int .u8 cq.d2, .int .u8 cq.d3, .sl false 1 (cq.dt.map by8)]])], [], [], 0, 0⟩) (fun i => l.length - i.1) ⟨0, Nat.zero_le _, fun j _ h => absurd h (Nat.not_lt_zero _)⟩ ?_ ?_
  · exact Wk.rn ([] ) ( [])
  rintro ⟨i, hi, hall⟩
  dsimp only
  (repeat (first | ((with_reducible show RG _ _ (_ :: _) _ _ _); refine RG.go1 (k := ?_)) | ((with_reducible show DG _ _ (_ :: _) _ _ _ _ _); refine DG.go1 (k := ?_)) | (with_reducible first | apply RG.nil | apply W.seq | apply W.reg | apply W.skip | apply W.block | apply W.drw | apply DG.nil | refine W.done (QB.n ?_))))
  refine W.cnd (fun h1 => ?_) (fun h1 => ?_)
  · have hlt : i < l.length := by simp at h1; omega
    have hE := ho_at l i hlt (j := ((i : Nat) : Int).toNat) (by simp)
    have hc := hf _ (List.getElem_mem hlt)
    cases hpi : pr l[i]
    · rw [hpi] at hc
      (repeat (first | ((with_reducible show RG _ _ (_ :: _) _ _ _); refine RG.go1 (k := ?_)) | ((with_reducible show DG _ _ (_ :: _) _ _ _ _ _); refine DG.go1 (k := ?_)) | (with_reducible first | apply RG.nil | apply W.seq | apply W.reg | apply W.skip | apply W.block | apply W.drw | apply DG.nil | refine W.done (QB.n ?_))))
      (first | ((with_reducible show RG _ _ (_ :: _) _ _ _); refine RG.ew (cptr_of (hE) (by (conv => lhs; whnf) <;> exact rfl)) (k := ?_)) | ((with_reducible show DG _ _ (_ :: _) _ _ _ _ _); refine DG.ew (cptr_of (hE) (by (conv => lhs; whnf) <;> exact rfl)) (k := ?_)))
      (repeat (first | ((with_reducible show RG _ _ (_ :: _) _ _ _); refine RG.go1 (k := ?_)) | ((with_reducible show DG _ _ (_ :: _) _ _ _ _ _); refine DG.go1 (k := ?_)) | (with_reducible first | apply RG.nil | apply W.seq | apply W.reg | apply W.skip | apply W.block | apply W.drw | apply DG.nil | refine W.done (QB.n ?_))))
      (first | ((with_reducible show RG _ _ (_ :: _) _ _ _); refine RG.cav (hc) (k := ?_)) | ((with_reducible show DG _ _ (_ :: _) _ _ _ _ _); refine DG.cav (hc) (k := ?_)))
      (repeat (first | ((with_reducible show RG _ _ (_ :: _) _ _ _); refine RG.go1 (k := ?_)) | ((with_reducible show DG _ _ (_ :: _) _ _ _ _ _); refine DG.go1 (k := ?_)) | (with_reducible first | apply RG.nil | apply W.seq | apply W.reg | apply W.skip | apply W.block | apply W.drw | apply DG.nil | refine W.done (QB.n ?_))))
      refine W.cndF ?_
      (repeat (first | ((with_reducible show RG _ _ (_ :: _) _ _ _); refine RG.go1 (k := ?_)) | ((with_reducible show DG _ _ (_ :: _) _ _ _ _ _); refine DG.go1 (k := ?_)) | (with_reducible first | apply RG.nil | apply W.seq | apply W.reg | apply W.skip | apply W.block | apply W.drw | apply DG.nil | refine W.done (QB.n ?_))))
      refine W.done (QL.n (⟨i + 1, by omega, fun j hj hji => by
        rcases Nat.lt_or_ge j i with q | q
        · exact hall j hj q
        · obtain rfl : j = i := by omega
          exact hpi⟩) ?_ ?_)
      · exact Wk.rn ([] ) ( [])
      · dsimp only; omega
    · rw [hpi] at hc
      have hany : l.any pr = true := by rw [List.any_eq_true]; exact ⟨_, List.getElem_mem hlt, hpi⟩
      have hidx : l.findIdx pr = i := (List.findIdx_eq hlt).2 ⟨hpi, fun j hj => hall j (by omega) hj⟩
      rw [hany, hidx]
      (repeat (first | ((with_reducible show RG _ _ (_ :: _) _ _ _); refine RG.go1 (k := ?_)) | ((with_reducible show DG _ _ (_ :: _) _ _ _ _ _); refine DG.go1 (k := ?_)) | (with_reducible first | apply RG.nil | apply W.seq | apply W.reg | apply W.skip | apply W.block | apply W.drw | apply DG.nil | refine W.done (QB.n ?_))))
      (first | ((with_reducible show RG _ _ (_ :: _) _ _ _); refine RG.ew (cptr_of (hE) (by (conv => lhs; whnf) <;> exact rfl)) (k := ?_)) | ((with_reducible show DG _ _ (_ :: _) _ _ _ _ _); refine DG.ew (cptr_of (hE) (by (conv => lhs; whnf) <;> exact rfl)) (k := ?_)))
      (repeat (first | ((with_reducible show RG _ _ (_ :: _) _ _ _); refine RG.go1 (k := ?_)) | ((with_reducible show DG _ _ (_ :: _) _ _ _ _ _); refine DG.go1 (k := ?_)) | (with_reducible first | apply RG.nil | apply W.seq | apply W.reg | apply W.skip | apply W.block | apply W.drw | apply DG.nil | refine W.done (QB.n ?_))))
      (first | ((with_reducible show RG _ _ (_ :: _) _ _ _); refine RG.cav (hc) (k := ?_)) | ((with_reducible show DG _ _ (_ :: _) _ _ _ _ _); refine DG.cav (hc) (k := ?_)))
      (repeat (first | ((with_reducible show RG _ _ (_ :: _) _ _ _); refine RG.go1 (k := ?_)) | ((with_reducible show DG _ _ (_ :: _) _ _ _ _ _); refine DG.go1 (k := ?_)) | (with_reducible first | apply RG.nil | apply W.seq | apply W.reg | apply W.skip | apply W.block | apply W.drw | apply DG.nil | refine W.done (QB.n ?_))))
      refine W.cndT ?_
      (repeat (first | ((with_reducible show RG _ _ (_ :: _) _ _ _); refine RG.go1 (k := ?_)) | ((with_reducible show DG _ _ (_ :: _) _ _ _ _ _); refine DG.go1 (k := ?_)) | (with_reducible first | apply RG.nil | apply W.seq | apply W.reg | apply W.skip | apply W.block | apply W.drw | apply DG.nil | refine W.done (QB.n ?_))))
      (refine W.ret ?_; (repeat (with_reducible first | refine QB.r ?_ | refine QL.r ?_ | refine QC.r ?_)); refine QF.r ?_)
      exact RetOk.rs (vs := [_]) r_slices_IndexFunc__caravel_api_Hole_caravel_api_Hole []
  have hany : l.any pr = false := by
    rw [List.any_eq_false]
    intro x hx
    obtain ⟨j, hj, rfl⟩ := List.getElem_of_mem hx
    simp at h1
    rw [hall j hj (by omega)]; simp
  rw [hany]
  (refine W.exit ?_; (repeat (first | (with_reducible first | refine QL.x ?_ | refine QC.x ?_ | refine QB.x ?_) | (with_reducible refine QB.o (by decide) ?_))))
  (repeat (first | ((with_reducible show RG _ _ (_ :: _) _ _ _); refine RG.go1 (k := ?_)) | ((with_reducible show DG _ _ (_ :: _) _ _ _ _ _); refine DG.go1 (k := ?_)) | (with_reducible first | apply RG.nil | apply W.seq | apply W.reg | apply W.skip | apply W.block | apply W.drw | apply DG.nil | refine W.done (QB.n ?_))))
  (refine W.ret ?_; (repeat (with_reducible first | refine QB.r ?_ | refine QL.r ?_ | refine QC.r ?_)); refine QF.r ?_)
  exact RetOk.rs (vs := [_]) r_slices_IndexFunc__caravel_api_Hole_caravel_api_Hole []
theorem hoIndexA_ok (l : List Hl) (hl : l.length ≤ 1000000) (f : Nat) (ca : Int) (pr : Hl → Bool) (hf : ∀ x ∈ l, ACall Try.prog f [.agg [.int .u8 x.s0, .int .u8 x.s1, .int .u8 x.s2, .int .u8 x.s3, .int .u8 x.d0, .int .u8 x.d1, .int .u8 x.d2, .int .u8 x.d3, .int .u8 x.pr, .int .u16 x.i, .int .u8 x.tt, .int .u64 x.since, .int .i64 x.en, .sl false 2 (x.got.map prt)], .cptr true [.int .u64 ca]] (.bool (pr x)) []) :
    ACall Try.prog 17 [.sl true 14 (l.map hol), .fn f [.cptr true [.int .u64 ca]]] (.int .i64 (if l.any pr then (l.findIdx pr : Int) else -1)) [] := by
  have el := ho_len l
  refine acall_walk (N := 19) Try.func17 (by kernel_rfl) p_slices_IndexFunc__caravel_api_Hole_caravel_api_Hole rfl ?_; unfold c_slices_IndexFunc__caravel_api_Hole_caravel_api_Hole; dsimp only [enum, Nat.reduceAdd]
  (repeat (first | ((with_reducible show RG _ _ (_ :: _) _ _ _); refine RG.go1 (k := ?_)) | ((with_reducible show DG _ _ (_ :: _) _ _ _ _ _); refine DG.go1 (k := ?_)) | (with_reducible first | apply RG.nil | apply W.seq | apply W.reg | apply W.skip | apply W.block | apply W.drw | apply DG.nil | refine W.done (QB.n ?_))))
  refine W.loop (ι := {i : Nat // i ≤ l.length ∧ ∀ j : Nat, (h : j < l.length) → j < i → pr l[j] = false}) (fun i => ⟨[(8, .int .i64 i.1), (7, .int .i64 l.length), (0, .sl true 14 (l.map hol)), (1, .fn f [.cptr true [.int .u64 ca]])], [], [], 0, 0⟩) (fun i => l.length - i.1) ⟨0, Nat.zero_le _, fun j _ h => absurd h (Nat.not_lt_zero _)⟩ ?_ ?_
  · exact Wk.rn ([] ) ( [])
  rintro ⟨i, hi, hall⟩
  dsimp only
  (repeat (first | ((with_reducible show RG _ _ (_ :: _) _ _ _); refine RG.go1 (k := ?_)) | ((with_reducible show DG _ _ (_ :: _) _ _ _ _ _); refine DG.go1 (k := ?_)) | (with_reducible first | apply RG.nil | apply W.seq | apply W.reg | apply W.skip | apply W.block | apply W.drw | apply DG.nil | refine W.done (QB.n ?_))))
  refine W.cnd (fun h1 => ?_) (fun h1 => ?_)
  · have hlt : i < l.length := by simp at h1; omega
    have hE := ho_at l i hlt (j := ((i : Nat) : Int).toNat) (by simp)
    have hc := hf _ (List.getElem_mem hlt)
    cases hpi : pr l[i]
    · rw [hpi] at hc
      (repeat (first | ((with_reducible show RG _ _ (_ :: _) _ _ _); refine RG.go1 (k := ?_)) | ((with_reducible show DG _ _ (_ :: _) _ _ _ _ _); refine DG.go1 (k := ?_)) | (with_reducible first | apply RG.nil | apply W.seq | apply W.reg | apply W.skip | apply W.block | apply W.drw | apply DG.nil | refine W.done (QB.n ?_))))
      (first | ((with_reducible show RG _ _ (_ :: _) _ _ _); refine RG.ew (cptr_of (hE) (by (conv => lhs; whnf) <;> exact rfl)) (k := ?_)) | ((with_reducible show DG _ _ (_ :: _) _ _ _ _ _); refine DG.ew (cptr_of (hE) (by (conv => lhs; whnf) <;> exact rfl)) (k := ?_)))
      (repeat (first | ((with_reducible show RG _ _ (_ :: _) _ _ _); refine RG.go1 (k := ?_)) | ((with_reducible show DG _ _ (_ :: _) _ _ _ _ _); refine DG.go1 (k := ?_)) | (with_reducible first | apply RG.nil | apply W.seq | apply W.reg | apply W.skip | apply W.block | apply W.drw | apply DG.nil | refine W.done (QB.n ?_))))
      (first | ((with_reducible show RG _ _ (_ :: _) _ _ _); refine RG.cav (hc) (k := ?_)) | ((with_reducible show DG _ _ (_ :: _) _ _ _ _ _); refine DG.cav (hc) (k := ?_)))
      (repeat (first | ((with_reducible show RG _ _ (_ :: _) _ _ _); refine RG.go1 (k := ?_)) | ((with_reducible show DG _ _ (_ :: _) _ _ _ _ _); refine DG.go1 (k := ?_)) | (with_reducible first | apply RG.nil | apply W.seq | apply W.reg | apply W.skip | apply W.block | apply W.drw | apply DG.nil | refine W.done (QB.n ?_))))
      refine W.cndF ?_
      (repeat (first | ((with_reducible show RG _ _ (_ :: _) _ _ _); refine RG.go1 (k := ?_)) | ((with_reducible show DG _ _ (_ :: _) _ _ _ _ _); refine DG.go1 (k := ?_)) | (with_reducible first | apply RG.nil | apply W.seq | apply W.reg | apply W.skip | apply W.block | apply W.drw | apply DG.nil | refine W.done (QB.n ?_))))
      refine W.done (QL.n (⟨i + 1, by omega, fun j hj hji => by
        rcases Nat.lt_or_ge j i with q | q
        · exact hall j hj q
        · obtain rfl : j = i := by omega
          exact hpi⟩) ?_ ?_)
      · exact Wk.rn ([] ) ( [])
      · dsimp only; omega
    · rw [hpi] at hc
      have hany : l.any pr = true := by rw [List.any_eq_true]; exact ⟨_, List.getElem_mem hlt, hpi⟩
      have hidx : l.findIdx pr = i := (List.findIdx_eq hlt).2 ⟨hpi, fun j hj => hall j (by omega) hj⟩
      rw [hany, hidx]
      (repeat (first | ((with_reducible show RG _ _ (_ :: _) _ _ _); refine RG.go1 (k := ?_)) | ((with_reducible show DG _ _ (_ :: _) _ _ _ _ _); refine DG.go1 (k := ?_)) | (with_reducible first | apply RG.nil | apply W.seq | apply W.reg | apply W.skip | apply W.block | apply W.drw | apply DG.nil | refine W.done (QB.n ?_))))
      (first | ((with_reducible show RG _ _ (_ :: _) _ _ _); refine RG.ew (cptr_of (hE) (by (conv => lhs; whnf) <;> exact rfl)) (k := ?_)) | ((with_reducible show DG _ _ (_ :: _) _ _ _ _ _); refine DG.ew (cptr_of (hE) (by (conv => lhs; whnf) <;> exact rfl)) (k := ?_)))
      (repeat (first | ((with_reducible show RG _ _ (_ :: _) _ _ _); refine RG.go1 (k := ?_)) | ((with_reducible show DG _ _ (_ :: _) _ _ _ _ _); refine DG.go1 (k := ?_)) | (with_reducible first | apply RG.nil | apply W.seq | apply W.reg | apply W.skip | apply W.block | apply W.drw | apply DG.nil | refine W.done (QB.n ?_))))
      (first | ((with_reducible show RG _ _ (_ :: _) _ _ _); refine RG.cav (hc) (k := ?_)) | ((with_reducible show DG _ _ (_ :: _) _ _ _ _ _); refine DG.cav (hc) (k := ?_)))
      (repeat (first | ((with_reducible show RG _ _ (_ :: _) _ _ _); refine RG.go1 (k := ?_)) | ((with_reducible show DG _ _ (_ :: _) _ _ _ _ _); refine DG.go1 (k := ?_)) | (with_reducible first | apply RG.nil | apply W.seq | apply W.reg | apply W.skip | apply W.block | apply W.drw | apply DG.nil | refine W.done (QB.n ?_))))
      refine W.cndT ?_
      (repeat (first | ((with_reducible show RG _ _ (_ :: _) _ _ _); refine RG.go1 (k := ?_)) | ((with_reducible show DG _ _ (_ :: _) _ _ _ _ _); refine DG.go1 (k := ?_)) | (with_reducible first | apply RG.nil | apply W.seq | apply W.reg | apply W.skip | apply W.block | apply W.drw | apply DG.nil | refine W.done (QB.n ?_))))
      (refine W.ret ?_; (repeat (with_reducible first | refine QB.r ?_ | refine QL.r ?_ | refine QC.r ?_)); refine QF.r ?_)
      exact RetOk.rs (vs := [_]) r_slices_IndexFunc__caravel_api_Hole_caravel_api_Hole []
  have hany : l.any pr = false := by
    rw [List.any_eq_false]
    intro x hx
    obtain ⟨j, hj, rfl⟩ := List.getElem_of_mem hx
    simp at h1
    rw [hall j hj (by omega)]; simp
  rw [hany]
  (refine W.exit ?_; (repeat (first | (with_reducible first | refine QL.x ?_ | refine QC.x ?_ | refine QB.x ?_) | (with_reducible refine QB.o (by decide) ?_))))
  (repeat (first | ((with_reducible show RG _ _ (_ :: _) _ _ _); refine RG.go1 (k := ?_)) | ((with_reducible show DG _ _ (_ :: _) _ _ _ _ _); refine DG.go1 (k := ?_)) | (with_reducible first | apply RG.nil | apply W.seq | apply W.reg | apply W.skip | apply W.block | apply W.drw | apply DG.nil | refine W.done (QB.n ?_))))
  (refine W.ret ?_; (repeat (with_reducible first | refine QB.r ?_ | refine QL.r ?_ | refine QC.r ?_)); refine QF.r ?_)
  exact RetOk.rs (vs := [_]) r_slices_IndexFunc__caravel_api_Hole_caravel_api_Hole []
theorem hoDelA_ok (l : List Hl) (hl : l.length ≤ 1000000) (f : Nat) (ca : Int) (pr : Hl → Bool) (hf : ∀ x ∈ l, ACall Try.prog f [.agg [.int .u8 x.s0, .int .u8 x.s1, .int .u8 x.s2, .int .u8 x.s3, .int .u8 x.d0, .int .u8 x.d1, .int .u8 x.d2, .int .u8 x.d3, .int .u8 x.pr, .int .u16 x.i, .int .u8 x.tt, .int .u64 x.since, .int .i64 x.en, .sl false 2 (x.got.map prt)], .cptr true [.int .u64 ca]] (.bool (pr x)) []) :
    MCall Try.prog 24 [.ref 0 14 0 l.length, .fn f [.cptr true [.int .u64 ca]]] [] [⟨false, 14, l.map hol⟩] (.ref 0 14 0 (l.filter fun x => !pr x).length) [] [some ⟨false, 14, (l.filter fun x => !pr x).map hol⟩] [] := by
  have ci := hoIndexA_ok l hl f ca pr hf
  have el := ho_len l
  cases hany : l.any pr
  · rw [hany, if_neg (by decide)] at ci
    have hfl : (l.filter fun x => !pr x) = l := by
      rw [List.filter_eq_self]
      intro x hx
      rw [List.any_eq_false] at hany
      simpa using hany x hx
    rw [hfl]
    refine mcall_walk (N := 42) Try.func24 (by kernel_rfl) p_slices_DeleteFunc__caravel_api_Hole_caravel_api_Hole rfl rfl rfl ?_; intro gb pl; unfold c_slices_DeleteFunc__caravel_api_Hole_caravel_api_Hole; dsimp only [enum, ghB, ghR, k_lc, k_ln, k_ap, k_an, k_m0, k_mc, Nat.reduceAdd, Nat.zero_add, Nat.add_zero]
    (repeat (first | ((with_reducible show RG _ _ (_ :: _) _ _ _); refine RG.go1 (k := ?_)) | ((with_reducible show DG _ _ (_ :: _) _ _ _ _ _); refine DG.go1 (k := ?_)) | (with_reducible first | apply RG.nil | apply W.seq | apply W.reg | apply W.skip | apply W.block | apply W.drw | apply DG.nil | refine W.done (QB.n ?_))))
    (first | ((with_reducible show RG _ _ (_ :: _) _ _ _); refine RG.ca (ci) (k := ?_)) | ((with_reducible show DG _ _ (_ :: _) _ _ _ _ _); refine DG.ca (ci) (k := ?_)))
    (repeat (first | ((with_reducible show RG _ _ (_ :: _) _ _ _); refine RG.go1 (k := ?_)) | ((with_reducible show DG _ _ (_ :: _) _ _ _ _ _); refine DG.go1 (k := ?_)) | (with_reducible first | apply RG.nil | apply W.seq | apply W.reg | apply W.skip | apply W.block | apply W.drw | apply DG.nil | refine W.done (QB.n ?_))))
    refine W.cndT ?_
    (repeat (first | ((with_reducible show RG _ _ (_ :: _) _ _ _); refine RG.go1 (k := ?_)) | ((with_reducible show DG _ _ (_ :: _) _ _ _ _ _); refine DG.go1 (k := ?_)) | (with_reducible first | apply RG.nil | apply W.seq | apply W.reg | apply W.skip | apply W.block | apply W.drw | apply DG.nil | refine W.done (QB.n ?_))))
    (refine W.ret ?_; (repeat (with_reducible first | refine QB.r ?_ | refine QL.r ?_ | refine QC.r ?_)); refine QM.r ?_)
    exact RetM.rs (vs := [_]) (tm' := [(4, .ref 0 14 0 l.length), (1100000, .ratt 0 (pl 0))]) r_slices_DeleteFunc__caravel_api_Hole_caravel_api_Hole ([]) ([0]) 0 1
  · rw [hany, if_pos rfl] at ci
    have hi0 : l.findIdx pr < l.length := List.findIdx_lt_length_of_exists (by simpa using hany)
    have hp1 : pr l[l.findIdx pr] = true := List.findIdx_getElem
    have hp0 : (!pr l[l.findIdx pr]) = false := by rw [hp1]; rfl
    have hbefore : (l.take (l.findIdx pr)).filter (fun x => !pr x) = l.take (l.findIdx pr) := by
      rw [List.filter_eq_self]
      intro x hx
      obtain ⟨j, hj, rfl⟩ := List.getElem_of_mem hx
      have hj' : j < l.findIdx pr := by simp at hj; omega
      have := List.not_of_lt_findIdx hj'
      simpa using this
    have hk0 := keep_snoc (fun x => !pr x) l (l.findIdx pr) hi0
    rw [hbefore] at hk0
    simp only [hp1, Bool.not_true, Bool.false_eq_true, if_false, List.append_nil] at hk0
    clear hbefore hp1
    generalize l.findIdx pr = i0 at ci hi0 hp0 hk0
    have hkl : ∀ j, i0 < j → ((l.take j).filter fun x => !pr x).length < j := fun j hj => keep_lt _ l j i0 hi0 hj hp0
    refine mcall_walk (N := 42) Try.func24 (by kernel_rfl) p_slices_DeleteFunc__caravel_api_Hole_caravel_api_Hole rfl rfl rfl ?_; intro gb pl; unfold c_slices_DeleteFunc__caravel_api_Hole_caravel_api_Hole; dsimp only [enum, ghB, ghR, k_lc, k_ln, k_ap, k_an, k_m0, k_mc, Nat.reduceAdd, Nat.zero_add, Nat.add_zero]
    (repeat (first | ((with_reducible show RG _ _ (_ :: _) _ _ _); refine RG.go1 (k := ?_)) | ((with_reducible show DG _ _ (_ :: _) _ _ _ _ _); refine DG.go1 (k := ?_)) | (with_reducible first | apply RG.nil | apply W.seq | apply W.reg | apply W.skip | apply W.block | apply W.drw | apply DG.nil | refine W.done (QB.n ?_))))
    (first | ((with_reducible show RG _ _ (_ :: _) _ _ _); refine RG.ca (ci) (k := ?_)) | ((with_reducible show DG _ _ (_ :: _) _ _ _ _ _); refine DG.ca (ci) (k := ?_)))
    (repeat (first | ((with_reducible show RG _ _ (_ :: _) _ _ _); refine RG.go1 (k := ?_)) | ((with_reducible show DG _ _ (_ :: _) _ _ _ _ _); refine DG.go1 (k := ?_)) | (with_reducible first | apply RG.nil | apply W.seq | apply W.reg | apply W.skip | apply W.block | apply W.drw | apply DG.nil | refine W.done (QB.n ?_))))
    refine W.cndF ?_
    (repeat (first | ((with_reducible show RG _ _ (_ :: _) _ _ _); refine RG.go1 (k := ?_)) | ((with_reducible show DG _ _ (_ :: _) _ _ _ _ _); refine DG.go1 (k := ?_)) | (with_reducible first | apply RG.nil | apply W.seq | apply W.reg | apply W.skip | apply W.block | apply W.drw | apply DG.nil | refine W.done (QB.n ?_))))
    refine W.loop (ι := {j : Nat // i0 < j ∧ j ≤ l.length}) (fun j => ⟨[(6, .int .i64 j.1), (5, .int .i64 ((l.take j.1).filter fun x => !pr x).length), (0, .ref 0 14 0 l.length), (1, .fn f [.cptr true [.int .u64 ca]]), (1100000, .ratt 0 (pl 0))], [], [some ⟨false, 14, (((l.take j.1).filter fun x => !pr x) ++ l.drop ((l.take j.1).filter fun x => !pr x).length).map hol⟩], 0, 1⟩) (fun j => l.length - j.1) ⟨i0 + 1, by omega, by omega⟩ ?_ ?_
    · dsimp only
      rw [hk0]
      have e1 : (l.take i0).length = i0 := by simp; omega
      rw [e1, List.take_append_drop]
      exact Wk.rn ([] ) ( [0])
    rintro ⟨j, hj1, hj2⟩
    dsimp only
    have hkj := hkl j hj1
    have hks := keep_snoc (fun x => !pr x) l j
    have hrow : (((l.take j).filter fun x => !pr x) ++ l.drop ((l.take j).filter fun x => !pr x).length).length = l.length := by simp; omega
    have hat : ∀ h : j < l.length, (((((l.take j).filter fun x => !pr x) ++ l.drop ((l.take j).filter fun x => !pr x).length)).map hol)[j]?.getD .any = .agg [.int .u8 l[j].s0, .int .u8 l[j].s1, .int .u8 l[j].s2, .int .u8 l[j].s3, .int .u8 l[j].d0, .int .u8 l[j].d1, .int .u8 l[j].d2, .int .u8 l[j].d3, .int .u8 l[j].pr, .int .u16 l[j].i, .int .u8 l[j].tt, .int .u64 l[j].since, .int .i64 l[j].en, .sl false 2 (l[j].got.map prt)] := fun h => by
      have e2 : (((l.take j).filter fun x => !pr x) ++ l.drop ((l.take j).filter fun x => !pr x).length)[j]? = some l[j] := by
        rw [List.getElem?_append_right (by omega), List.getElem?_drop, ← List.getElem?_eq_getElem h]
        congr 1; omega
      rw [List.getElem?_map, e2]; rfl
    have hset : ∀ x, ((((l.take j).filter fun x => !pr x) ++ l.drop ((l.take j).filter fun x => !pr x).length).map hol).set ((l.take j).filter fun x => !pr x).length (hol x) = ((((l.take j).filter fun x => !pr x) ++ [x]) ++ l.drop (((l.take j).filter fun x => !pr x).length + 1)).map hol := fun x => by
      rw [← List.map_set, set_app _ _ _ (by omega)]
    have hend : j = l.length → (l.take j).filter (fun x => !pr x) = l.filter (fun x => !pr x) := fun h => by rw [h, List.take_length]
    obtain ⟨kp, hkp⟩ : ∃ kp, (l.take j).filter (fun x => !pr x) = kp := ⟨_, rfl⟩
    rw [hkp] at hkj hks hrow hat hset hend ⊢
    have hrl : ((kp ++ l.drop kp.length).map hol).length = l.length := by rw [List.length_map]; exact hrow
    (repeat (first | ((with_reducible show RG _ _ (_ :: _) _ _ _); refine RG.go1 (k := ?_)) | ((with_reducible show DG _ _ (_ :: _) _ _ _ _ _); refine DG.go1 (k := ?_)) | (with_reducible first | apply RG.nil | apply W.seq | apply W.reg | apply W.skip | apply W.block | apply W.drw | apply DG.nil | refine W.done (QB.n ?_))))
    refine W.cnd (fun h1 => ?_) (fun h1 => ?_)
    · have hlt : j < l.length := by simp at h1; omega
      have hks := hks hlt
      have hat := hat hlt
      have hc := hf _ (List.getElem_mem hlt)
      have hset := hset l[j]
      clear hend hkl hkp hk0
      cases hpj : pr l[j]
      · rw [hpj] at hc hks
        have hks : (l.take (j + 1)).filter (fun x => !pr x) = kp ++ [l[j]] := hks
        unfold hol at hset
        generalize l[j] = y at hc hks hat hset
        (repeat (first | ((with_reducible show RG _ _ (_ :: _) _ _ _); refine RG.go1 (k := ?_)) | ((with_reducible show DG _ _ (_ :: _) _ _ _ _ _); refine DG.go1 (k := ?_)) | (with_reducible first | apply RG.nil | apply W.seq | apply W.reg | apply W.skip | apply W.block | apply W.drw | apply DG.nil | refine W.done (QB.n ?_))))
        (first | ((with_reducible show RG _ _ (_ :: _) _ _ _); refine RG.ew (ix_of ((show 0 + ((j : Int)).toNat = j by simp))) (k := ?_)) | ((with_reducible show DG _ _ (_ :: _) _ _ _ _ _); refine DG.ew (ix_of ((show 0 + ((j : Int)).toNat = j by simp))) (k := ?_)))
        (repeat (first | ((with_reducible show RG _ _ (_ :: _) _ _ _); refine RG.go1 (k := ?_)) | ((with_reducible show DG _ _ (_ :: _) _ _ _ _ _); refine DG.go1 (k := ?_)) | (with_reducible first | apply RG.nil | apply W.seq | apply W.reg | apply W.skip | apply W.block | apply W.drw | apply DG.nil | refine W.done (QB.n ?_))))
        (first | ((with_reducible show RG _ _ (_ :: _) _ _ _); refine RG.sm (A.ldr (hat)) (k := ?_)) | ((with_reducible show DG _ _ (_ :: _) _ _ _ _ _); refine DG.sm (A.ldr (hat)) (k := ?_)))
        (repeat (first | ((with_reducible show RG _ _ (_ :: _) _ _ _); refine RG.go1 (k := ?_)) | ((with_reducible show DG _ _ (_ :: _) _ _ _ _ _); refine DG.go1 (k := ?_)) | (with_reducible first | apply RG.nil | apply W.seq | apply W.reg | apply W.skip | apply W.block | apply W.drw | apply DG.nil | refine W.done (QB.n ?_))))
        (first | ((with_reducible show RG _ _ (_ :: _) _ _ _); refine RG.cav (hc) (k := ?_)) | ((with_reducible show DG _ _ (_ :: _) _ _ _ _ _); refine DG.cav (hc) (k := ?_)))
        (repeat (first | ((with_reducible show RG _ _ (_ :: _) _ _ _); refine RG.go1 (k := ?_)) | ((with_reducible show DG _ _ (_ :: _) _ _ _ _ _); refine DG.go1 (k := ?_)) | (with_reducible first | apply RG.nil | apply W.seq | apply W.reg | apply W.skip | apply W.block | apply W.drw | apply DG.nil | refine W.done (QB.n ?_))))
        refine W.cndT ?_
        (repeat (first | ((with_reducible show RG _ _ (_ :: _) _ _ _); refine RG.go1 (k := ?_)) | ((with_reducible show DG _ _ (_ :: _) _ _ _ _ _); refine DG.go1 (k := ?_)) | (with_reducible first | apply RG.nil | apply W.seq | apply W.reg | apply W.skip | apply W.block | apply W.drw | apply DG.nil | refine W.done (QB.n ?_))))
        (first | ((with_reducible show RG _ _ (_ :: _) _ _ _); refine RG.ew (ix_of ((show 0 + ((kp.length : Int)).toNat = kp.length by simp))) (k := ?_)) | ((with_reducible show DG _ _ (_ :: _) _ _ _ _ _); refine DG.ew (ix_of ((show 0 + ((kp.length : Int)).toNat = kp.length by simp))) (k := ?_)))
        (repeat (first | ((with_reducible show RG _ _ (_ :: _) _ _ _); refine RG.go1 (k := ?_)) | ((with_reducible show DG _ _ (_ :: _) _ _ _ _ _); refine DG.go1 (k := ?_)) | (with_reducible first | apply RG.nil | apply W.seq | apply W.reg | apply W.skip | apply W.block | apply W.drw | apply DG.nil | refine W.done (QB.n ?_))))
        (first | ((with_reducible show RG _ _ (_ :: _) _ _ _); refine RG.sn (A.str (hset)) (k := ?_)) | ((with_reducible show DG _ _ (_ :: _) _ _ _ _ _); refine DG.sn (A.str (hset)) (k := ?_)))
        (repeat (first | ((with_reducible show RG _ _ (_ :: _) _ _ _); refine RG.go1 (k := ?_)) | ((with_reducible show DG _ _ (_ :: _) _ _ _ _ _); refine DG.go1 (k := ?_)) | (with_reducible first | apply RG.nil | apply W.seq | apply W.reg | apply W.skip | apply W.block | apply W.drw | apply DG.nil | refine W.done (QB.n ?_))))
        refine W.done (QL.n (⟨j + 1, by omega, by omega⟩) ?_ ?_)
        · dsimp only
          rw [hks]
          have e3 : (kp ++ [y]).length = kp.length + 1 := by simp
          rw [e3]
          exact Wk.rn ([] ) ( [0])
        · dsimp only; omega
      · rw [hpj] at hc hks
        simp only [Bool.not_true, Bool.false_eq_true, if_false, List.append_nil] at hks
        (repeat (first | ((with_reducible show RG _ _ (_ :: _) _ _ _); refine RG.go1 (k := ?_)) | ((with_reducible show DG _ _ (_ :: _) _ _ _ _ _); refine DG.go1 (k := ?_)) | (with_reducible first | apply RG.nil | apply W.seq | apply W.reg | apply W.skip | apply W.block | apply W.drw | apply DG.nil | refine W.done (QB.n ?_))))
        (first | ((with_reducible show RG _ _ (_ :: _) _ _ _); refine RG.ew (ix_of ((show 0 + ((j : Int)).toNat = j by simp))) (k := ?_)) | ((with_reducible show DG _ _ (_ :: _) _ _ _ _ _); refine DG.ew (ix_of ((show 0 + ((j : Int)).toNat = j by simp))) (k := ?_)))
        (repeat (first | ((with_reducible show RG _ _ (_ :: _) _ _ _); refine RG.go1 (k := ?_)) | ((with_reducible show DG _ _ (_ :: _) _ _ _ _ _); refine DG.go1 (k := ?_)) | (with_reducible first | apply RG.nil | apply W.seq | apply W.reg | apply W.skip | apply W.block | apply W.drw | apply DG.nil | refine W.done (QB.n ?_))))
        (first | ((with_reducible show RG _ _ (_ :: _) _ _ _); refine RG.sm (A.ldr (hat)) (k := ?_)) | ((with_reducible show DG _ _ (_ :: _) _ _ _ _ _); refine DG.sm (A.ldr (hat)) (k := ?_)))
        (repeat (first | ((with_reducible show RG _ _ (_ :: _) _ _ _); refine RG.go1 (k := ?_)) | ((with_reducible show DG _ _ (_ :: _) _ _ _ _ _); refine DG.go1 (k := ?_)) | (with_reducible first | apply RG.nil | apply W.seq | apply W.reg | apply W.skip | apply W.block | apply W.drw | apply DG.nil | refine W.done (QB.n ?_))))
        (first | ((with_reducible show RG _ _ (_ :: _) _ _ _); refine RG.cav (hc) (k := ?_)) | ((with_reducible show DG _ _ (_ :: _) _ _ _ _ _); refine DG.cav (hc) (k := ?_)))
        (repeat (first | ((with_reducible show RG _ _ (_ :: _) _ _ _); refine RG.go1 (k := ?_)) | ((with_reducible show DG _ _ (_ :: _) _ _ _ _ _); refine DG.go1 (k := ?_)) | (with_reducible first | apply RG.nil | apply W.seq | apply W.reg | apply W.skip | apply W.block | apply W.drw | apply DG.nil | refine W.done (QB.n ?_))))
        refine W.cndF ?_
        (repeat (first | ((with_reducible show RG _ _ (_ :: _) _ _ _); refine RG.go1 (k := ?_)) | ((with_reducible show DG _ _ (_ :: _) _ _ _ _ _); refine DG.go1 (k := ?_)) | (with_reducible first | apply RG.nil | apply W.seq | apply W.reg | apply W.skip | apply W.block | apply W.drw | apply DG.nil | refine W.done (QB.n ?_))))
        refine W.done (QL.n (⟨j + 1, by omega, by omega⟩) ?_ ?_)
        · dsimp only
          rw [hks]
          exact Wk.rn ([] ) ( [0])
        · dsimp only; omega
    · have hjn : j = l.length := by simp at h1; omega
      have hend := hend hjn
      rw [← hend]
      have hcl : ((kp ++ l.drop kp.length).map hol).take kp.length ++ (List.replicate (l.length - kp.length) (AV.agg [.int .u8 0, .int .u8 0, .int .u8 0, .int .u8 0, .int .u8 0, .int .u8 0, .int .u8 0, .int .u8 0, .int .u8 0, .int .u16 0, .int .u8 0, .int .u64 0, .int .i64 0, .nil]) ++ ((kp ++ l.drop kp.length).map hol).drop (kp.length + (l.length - kp.length))) = kp.map hol ++ List.replicate (l.length - kp.length) (AV.agg [.int .u8 0, .int .u8 0, .int .u8 0, .int .u8 0, .int .u8 0, .int .u8 0, .int .u8 0, .int .u8 0, .int .u8 0, .int .u16 0, .int .u8 0, .int .u64 0, .int .i64 0, .nil]) := by
        rw [List.map_append, List.take_left' (by simp), List.drop_of_length_le (by simp <;> omega), List.append_nil]
      have htr : (kp.map hol ++ List.replicate (l.length - kp.length) (AV.agg [.int .u8 0, .int .u8 0, .int .u8 0, .int .u8 0, .int .u8 0, .int .u8 0, .int .u8 0, .int .u8 0, .int .u8 0, .int .u16 0, .int .u8 0, .int .u64 0, .int .i64 0, .nil])).take kp.length = kp.map hol := List.take_left' (by simp)
      have hll : (kp.map hol ++ List.replicate (l.length - kp.length) (AV.agg [.int .u8 0, .int .u8 0, .int .u8 0, .int .u8 0, .int .u8 0, .int .u8 0, .int .u8 0, .int .u8 0, .int .u8 0, .int .u16 0, .int .u8 0, .int .u64 0, .int .i64 0, .nil])).length = l.length := by simp; omega
      clear hat hset hks hkl hk0 hp0 hf ci hany hend
      unfold hol at hcl htr hll
      (refine W.exit ?_; (repeat (first | (with_reducible first | refine QL.x ?_ | refine QC.x ?_ | refine QB.x ?_) | (with_reducible refine QB.o (by decide) ?_))))
      (repeat (first | ((with_reducible show RG _ _ (_ :: _) _ _ _); refine RG.go1 (k := ?_)) | ((with_reducible show DG _ _ (_ :: _) _ _ _ _ _); refine DG.go1 (k := ?_)) | (with_reducible first | apply RG.nil | apply W.seq | apply W.reg | apply W.skip | apply W.block | apply W.drw | apply DG.nil | refine W.done (QB.n ?_))))
      (first | ((with_reducible show RG _ _ (_ :: _) _ _ _); refine RG.ew ((show AV.ref 0 14 (0 + (kp.length : Int).toNat) ((l.length : Int) - (kp.length : Int)).toNat = AV.ref 0 14 kp.length (l.length - kp.length) by congr 1 <;> omega)) (k := ?_)) | ((with_reducible show DG _ _ (_ :: _) _ _ _ _ _); refine DG.ew ((show AV.ref 0 14 (0 + (kp.length : Int).toNat) ((l.length : Int) - (kp.length : Int)).toNat = AV.ref 0 14 kp.length (l.length - kp.length) by congr 1 <;> omega)) (k := ?_)))
      (repeat (first | ((with_reducible show RG _ _ (_ :: _) _ _ _); refine RG.go1 (k := ?_)) | ((with_reducible show DG _ _ (_ :: _) _ _ _ _ _); refine DG.go1 (k := ?_)) | (with_reducible first | apply RG.nil | apply W.seq | apply W.reg | apply W.skip | apply W.block | apply W.drw | apply DG.nil | refine W.done (QB.n ?_))))
      (first | ((with_reducible show RG _ _ (_ :: _) _ _ _); refine RG.sn (A.clr (hcl)) (k := ?_)) | ((with_reducible show DG _ _ (_ :: _) _ _ _ _ _); refine DG.sn (A.clr (hcl)) (k := ?_)))
      (repeat (first | ((with_reducible show RG _ _ (_ :: _) _ _ _); refine RG.go1 (k := ?_)) | ((with_reducible show DG _ _ (_ :: _) _ _ _ _ _); refine DG.go1 (k := ?_)) | (with_reducible first | apply RG.nil | apply W.seq | apply W.reg | apply W.skip | apply W.block | apply W.drw | apply DG.nil | refine W.done (QB.n ?_))))
      (first | ((with_reducible show RG _ _ (_ :: _) _ _ _); refine RG.ew ((show AV.ref 0 14 (0 + (0 : Int).toNat) ((kp.length : Int) - 0).toNat = AV.ref 0 14 0 kp.length by first | (simp; (first | (all_goals fail) | fail)) | (congr 1 <;> omega))) (k := ?_)) | ((with_reducible show DG _ _ (_ :: _) _ _ _ _ _); refine DG.ew ((show AV.ref 0 14 (0 + (0 : Int).toNat) ((kp.length : Int) - 0).toNat = AV.ref 0 14 0 kp.length by first | (simp; (first | (all_goals fail) | fail)) | (congr 1 <;> omega))) (k := ?_)))
      (repeat (first | ((with_reducible show RG _ _ (_ :: _) _ _ _); refine RG.go1 (k := ?_)) | ((with_reducible show DG _ _ (_ :: _) _ _ _ _ _); refine DG.go1 (k := ?_)) | (with_reducible first | apply RG.nil | apply W.seq | apply W.reg | apply W.skip | apply W.block | apply W.drw | apply DG.nil | refine W.done (QB.n ?_))))
      (refine W.ret ?_; (repeat (with_reducible first | refine QB.r ?_ | refine QL.r ?_ | refine QC.r ?_)); refine QM.r ?_)
      refine RetM.wk (Wk.trim (b := 0) kp.length rfl) ?_
      dsimp only [setO]
      rw [htr]
      exact RetM.rs (vs := [_]) (tm' := [(4, .ref 0 14 0 kp.length), (1100000, .ratt 0 (pl 0))]) r_slices_DeleteFunc__caravel_api_Hole_caravel_api_Hole ([]) ([0]) 0 1
theorem hoDel1_ok (l : List Hl) (hl : l.length ≤ 500000) (i : Nat) (hi : i < l.length) :
    MCall Try.prog 21 [.ref 0 14 0 l.length, .int .i64 i, .int .i64 ((i : Int) + 1)] [] [⟨false, 14, l.map hol⟩] (.ref 0 14 0 (l.length - 1)) [] [some ⟨false, 14, (l.eraseIdx i).map hol⟩] [] := by
  obtain ⟨es, hes⟩ : ∃ es, l.map hol = es := ⟨_, rfl⟩
  have el : es.length = l.length := by rw [← hes]; simp
  have hp : es.all pureV = true := by rw [← hes]; exact ho_pure l
  have hend : (l.eraseIdx i).map hol = es.take i ++ es.drop (i + 1) := by rw [← hes, List.eraseIdx_eq_take_drop_succ, List.map_append, List.map_take, List.map_drop]
  rw [hend, hes]
  obtain ⟨n, hn⟩ : ∃ n, l.length = n := ⟨_, rfl⟩
  rw [hn] at hl hi el ⊢
  clear hend hes hn
  have hsrc : (es.drop (i + 1)).take (n - (i + 1)) = es.drop (i + 1) := List.take_of_length_le (by simp; omega)
  have hsl : (es.drop (i + 1)).length = n - (i + 1) := by simp; omega
  have hpu : (es.drop (i + 1)).all pureV = true := by
    rw [List.all_eq_true] at hp ⊢
    exact fun y hy => hp y (List.mem_of_mem_drop hy)
  obtain ⟨E2, hE2⟩ : ∃ E, es.take (0 + i) ++ (es.drop (i + 1) ++ es.drop (0 + (n - 1))) = E := ⟨_, rfl⟩
  have eE : E2.length = n := by rw [← hE2]; simp; omega
  have htr : E2.take (n - 1) = es.take i ++ es.drop (i + 1) := by
    rw [← hE2, Nat.zero_add, ← List.append_assoc, List.take_left' (by simp; omega)]
  have hcl : E2.take (n - 1) ++ (List.replicate 1 (AV.agg [.int .u8 0, .int .u8 0, .int .u8 0, .int .u8 0, .int .u8 0, .int .u8 0, .int .u8 0, .int .u8 0, .int .u8 0, .int .u16 0, .int .u8 0, .int .u64 0, .int .i64 0, .nil]) ++ E2.drop (n - 1 + 1)) = (es.take i ++ es.drop (i + 1)) ++ [(AV.agg [.int .u8 0, .int .u8 0, .int .u8 0, .int .u8 0, .int .u8 0, .int .u8 0, .int .u8 0, .int .u8 0, .int .u8 0, .int .u16 0, .int .u8 0, .int .u64 0, .int .i64 0, .nil])] := by
    rw [htr, List.drop_of_length_le (l := E2) (by omega), List.append_nil]; rfl
  have htr2 : ((es.take i ++ es.drop (i + 1)) ++ [(AV.agg [.int .u8 0, .int .u8 0, .int .u8 0, .int .u8 0, .int .u8 0, .int .u8 0, .int .u8 0, .int .u8 0, .int .u8 0, .int .u16 0, .int .u8 0, .int .u64 0, .int .i64 0, .nil])]).take (n - 1) = es.take i ++ es.drop (i + 1) := List.take_left' (by simp; omega)
  have hll : ((es.take i ++ es.drop (i + 1)) ++ [(AV.agg [.int .u8 0, .int .u8 0, .int .u8 0, .int .u8 0, .int .u8 0, .int .u8 0, .int .u8 0, .int .u8 0, .int .u8 0, .int .u16 0, .int .u8 0, .int .u64 0, .int .i64 0, .nil])]).length = n := by simp; omega
  unfold hol at hcl htr2 hll
  refine mcall_walk (N := 33) Try.func21 (by kernel_rfl) p_slices_Delete__caravel_api_Hole_caravel_api_Hole rfl rfl rfl ?_; intro gb pl; unfold c_slices_Delete__caravel_api_Hole_caravel_api_Hole; dsimp only [enum, ghB, ghR, k_lc, k_ln, k_ap, k_an, k_m0, k_mc, Nat.reduceAdd, Nat.zero_add, Nat.add_zero]
  (repeat (first | ((with_reducible show RG _ _ (_ :: _) _ _ _); refine RG.go1 (k := ?_)) | ((with_reducible show DG _ _ (_ :: _) _ _ _ _ _); refine DG.go1 (k := ?_)) | (with_reducible first | apply RG.nil | apply W.seq | apply W.reg | apply W.skip | apply W.block | apply W.drw | apply DG.nil | refine W.done (QB.n ?_))))
  (first | ((with_reducible show RG _ _ (_ :: _) _ _ _); refine RG.ew ((show AV.ref 0 14 (0 + (i : Int).toNat) ((i : Int) + 1 - (i : Int)).toNat = AV.ref 0 14 i 1 by congr 1 <;> omega)) (k := ?_)) | ((with_reducible show DG _ _ (_ :: _) _ _ _ _ _); refine DG.ew ((show AV.ref 0 14 (0 + (i : Int).toNat) ((i : Int) + 1 - (i : Int)).toNat = AV.ref 0 14 i 1 by congr 1 <;> omega)) (k := ?_)))
  (repeat (first | ((with_reducible show RG _ _ (_ :: _) _ _ _); refine RG.go1 (k := ?_)) | ((with_reducible show DG _ _ (_ :: _) _ _ _ _ _); refine DG.go1 (k := ?_)) | (with_reducible first | apply RG.nil | apply W.seq | apply W.reg | apply W.skip | apply W.block | apply W.drw | apply DG.nil | refine W.done (QB.n ?_))))
  refine W.cndF ?_
  refine W.cap (t := 0) rfl fun c hc1 hc2 => ?_
  (repeat (first | ((with_reducible show RG _ _ (_ :: _) _ _ _); refine RG.go1 (k := ?_)) | ((with_reducible show DG _ _ (_ :: _) _ _ _ _ _); refine DG.go1 (k := ?_)) | (with_reducible first | apply RG.nil | apply W.seq | apply W.reg | apply W.skip | apply W.block | apply W.drw | apply DG.nil | refine W.done (QB.n ?_))))
  (first | ((with_reducible show RG _ _ (_ :: _) _ _ _); refine RG.ew ((show AV.refc 0 14 (0 + (0 : Int).toNat) ((i : Int) - 0).toNat ((c : Int) - 0).toNat = AV.refc 0 14 0 i c by congr 1 <;> omega)) (k := ?_)) | ((with_reducible show DG _ _ (_ :: _) _ _ _ _ _); refine DG.ew ((show AV.refc 0 14 (0 + (0 : Int).toNat) ((i : Int) - 0).toNat ((c : Int) - 0).toNat = AV.refc 0 14 0 i c by congr 1 <;> omega)) (k := ?_)))
  (repeat (first | ((with_reducible show RG _ _ (_ :: _) _ _ _); refine RG.go1 (k := ?_)) | ((with_reducible show DG _ _ (_ :: _) _ _ _ _ _); refine DG.go1 (k := ?_)) | (with_reducible first | apply RG.nil | apply W.seq | apply W.reg | apply W.skip | apply W.block | apply W.drw | apply DG.nil | refine W.done (QB.n ?_))))
  (first | ((with_reducible show RG _ _ (_ :: _) _ _ _); refine RG.ew ((show AV.refc 0 14 (0 + ((i : Int) + 1).toNat) ((n : Int) - ((i : Int) + 1)).toNat ((c : Int) - ((i : Int) + 1)).toNat = AV.refc 0 14 (i + 1) (n - (i + 1)) (c - (i + 1)) by congr 1 <;> omega)) (k := ?_)) | ((with_reducible show DG _ _ (_ :: _) _ _ _ _ _); refine DG.ew ((show AV.refc 0 14 (0 + ((i : Int) + 1).toNat) ((n : Int) - ((i : Int) + 1)).toNat ((c : Int) - ((i : Int) + 1)).toNat = AV.refc 0 14 (i + 1) (n - (i + 1)) (c - (i + 1)) by congr 1 <;> omega)) (k := ?_)))
  (repeat (first | ((with_reducible show RG _ _ (_ :: _) _ _ _); refine RG.go1 (k := ?_)) | ((with_reducible show DG _ _ (_ :: _) _ _ _ _ _); refine DG.go1 (k := ?_)) | (with_reducible first | apply RG.nil | apply W.seq | apply W.reg | apply W.skip | apply W.block | apply W.drw | apply DG.nil | refine W.done (QB.n ?_))))
  (refine RG.sm (A.appI (m := n - 1) hE2 (he := Els.refc (r := ⟨false, 14, es⟩) rfl rfl (show i + 1 + (n - (i + 1)) ≤ es.length by omega) hsrc) (hl := by omega) (hrl := by show 0 + i + (es.drop (i + 1)).length ≤ es.length; omega) (hroom := by omega) (hp := hpu) (hm := by omega)) (k := ?_))
  (repeat (first | ((with_reducible show RG _ _ (_ :: _) _ _ _); refine RG.go1 (k := ?_)) | ((with_reducible show DG _ _ (_ :: _) _ _ _ _ _); refine DG.go1 (k := ?_)) | (with_reducible first | apply RG.nil | apply W.seq | apply W.reg | apply W.skip | apply W.block | apply W.drw | apply DG.nil | refine W.done (QB.n ?_))))
  (first | ((with_reducible show RG _ _ (_ :: _) _ _ _); refine RG.ew ((show AV.refc 0 14 (0 + ((n - 1 : Nat) : Int).toNat) ((n : Int) - ((n - 1 : Nat) : Int)).toNat ((c : Int) - ((n - 1 : Nat) : Int)).toNat = AV.refc 0 14 (n - 1) 1 (c - (n - 1)) by congr 1 <;> omega)) (k := ?_)) | ((with_reducible show DG _ _ (_ :: _) _ _ _ _ _); refine DG.ew ((show AV.refc 0 14 (0 + ((n - 1 : Nat) : Int).toNat) ((n : Int) - ((n - 1 : Nat) : Int)).toNat ((c : Int) - ((n - 1 : Nat) : Int)).toNat = AV.refc 0 14 (n - 1) 1 (c - (n - 1)) by congr 1 <;> omega)) (k := ?_)))
  (repeat (first | ((with_reducible show RG _ _ (_ :: _) _ _ _); refine RG.go1 (k := ?_)) | ((with_reducible show DG _ _ (_ :: _) _ _ _ _ _); refine DG.go1 (k := ?_)) | (with_reducible first | apply RG.nil | apply W.seq | apply W.reg | apply W.skip | apply W.block | apply W.drw | apply DG.nil | refine W.done (QB.n ?_))))
  (first | ((with_reducible show RG _ _ (_ :: _) _ _ _); refine RG.sn (A.clr (hcl)) (k := ?_)) | ((with_reducible show DG _ _ (_ :: _) _ _ _ _ _); refine DG.sn (A.clr (hcl)) (k := ?_)))
  (repeat (first | ((with_reducible show RG _ _ (_ :: _) _ _ _); refine RG.go1 (k := ?_)) | ((with_reducible show DG _ _ (_ :: _) _ _ _ _ _); refine DG.go1 (k := ?_)) | (with_reducible first | apply RG.nil | apply W.seq | apply W.reg | apply W.skip | apply W.block | apply W.drw | apply DG.nil | refine W.done (QB.n ?_))))
  (refine W.ret ?_; (repeat (with_reducible first | refine QB.r ?_ | refine QL.r ?_ | refine QC.r ?_)); refine QM.r ?_)
  refine RetM.wk (Wk.tmp (t := 6) (y := .ref 0 14 0 (n - 1)) (Cl.le (ALe.refc _ _ _ _ _))) ?_
  refine RetM.wk (Wk.trim (b := 0) (n - 1) rfl) ?_
  dsimp only [setO]
  rw [htr2]
  exact RetM.rs (vs := [_]) (tm' := [(6, .ref 0 14 0 (n - 1)), (1100000, .ratt 0 (pl 0))]) r_slices_Delete__caravel_api_Hole_caravel_api_Hole ([]) ([0]) 0 1
end Go.Proofs.Ytiejnmbpejfpgaa

namespace Go.Proofs.Ytiejnmbpejfpgaa
open Go.RowKit
set_option linter.unusedVariables false
set_option linter.unusedSimpArgs false
set_option maxRecDepth 100000
set_option maxHeartbeats 4000000
structure Hl.Sm (h : Hl) : Prop where
  n : h.got.length ≤ 100
  d : ∀ g ∈ h.got, g.dt.length ≤ 1000
theorem fragClone_ok (l : List Hl) (hl : l.length ≤ 1000) (hs : ∀ h ∈ l, h.Sm) : ACall Try.prog 25 [.sl true 14 (l.map hol)] (.ref 0 14 0 l.length) [⟨false, 14, l.map hol⟩] := by
  have el := ho_len l
  refine acall_walk (N := 40) Try.func25 (by kernel_rfl) p_frag_clone rfl ?_; unfold c_frag_clone; dsimp only [enum, Nat.reduceAdd]
  (repeat (first | ((with_reducible show RG _ _ (_ :: _) _ _ _); refine RG.go1 (k := ?_)) | ((with_reducible show DG _ _ (_ :: _) _ _ _ _ _); refine DG.go1 (k := ?_)) | (with_reducible first | apply RG.nil | apply W.seq | apply W.reg | apply W.skip | apply W.block | apply W.drw | apply DG.nil | refine W.done (QB.n ?_))))
  refine W.wk (Wk.nilT (t := 3) 14 rfl) ?_ (by simp)
  refine W.loop (ι := {i : Nat // i ≤ l.length}) (fun i => ⟨[(11, .int .i64 i.1), (10, .int .i64 l.length), (9, .sl true 14 (l.map hol)), (3, .ref 0 14 0 i.1)], [], [some ⟨false, 14, (l.take i.1).map hol⟩], 0, 1⟩) (fun i => l.length - i.1) ⟨0, Nat.zero_le _⟩ ?_ ?_
  · dsimp only
    rw [List.take_zero, List.map_nil]
    exact Wk.rn ([] ) ( [0])
  rintro ⟨i, hi⟩
  dsimp only
  have etk : ((l.take i).map hol).length = i := by simp; omega
  have ptk := ho_pure (l.take i)
  by_cases hlt : i < l.length
  · have hE := ho_at l i hlt (j := ((i : Nat) : Int).toNat) (by simp)
    have hsn := map_take_snoc hol l i hlt
    obtain ⟨hn, hd⟩ := hs _ (List.getElem_mem hlt)
    rw [show hol l[i] = .agg [.int .u8 l[i].s0, .int .u8 l[i].s1, .int .u8 l[i].s2, .int .u8 l[i].s3, .int .u8 l[i].d0, .int .u8 l[i].d1, .int .u8 l[i].d2, .int .u8 l[i].d3, .int .u8 l[i].pr, .int .u16 l[i].i, .int .u8 l[i].tt, .int .u64 l[i].since, .int .i64 l[i].en, .sl false 2 (l[i].got.map prt)] from rfl] at hsn
    generalize l[i] = h at *
    obtain ⟨s0, s1, s2, s3, d0, d1, d2, d3, pr, id_, tt, since, en, got⟩ := h
    dsimp only at hE hn hd hsn
    have eg := pr_len got
    (repeat (first | ((with_reducible show RG _ _ (_ :: _) _ _ _); refine RG.go1 (k := ?_)) | ((with_reducible show DG _ _ (_ :: _) _ _ _ _ _); refine DG.go1 (k := ?_)) | (with_reducible first | apply RG.nil | apply W.seq | apply W.reg | apply W.skip | apply W.block | apply W.drw | apply DG.nil | refine W.done (QB.n ?_))))
    refine W.cnd (fun h1 => ?_) (fun h1 => ?_)
    · clear h1 hs
      (repeat (first | ((with_reducible show RG _ _ (_ :: _) _ _ _); refine RG.go1 (k := ?_)) | ((with_reducible show DG _ _ (_ :: _) _ _ _ _ _); refine DG.go1 (k := ?_)) | (with_reducible first | apply RG.nil | apply W.seq | apply W.reg | apply W.skip | apply W.block | apply W.drw | apply DG.nil | refine W.done (QB.n ?_))))
      (first | ((with_reducible show RG _ _ (_ :: _) _ _ _); refine RG.ew (cptr_of (hE) (by (conv => lhs; whnf) <;> exact rfl)) (k := ?_)) | ((with_reducible show DG _ _ (_ :: _) _ _ _ _ _); refine DG.ew (cptr_of (hE) (by (conv => lhs; whnf) <;> exact rfl)) (k := ?_)))
      (repeat (first | ((with_reducible show RG _ _ (_ :: _) _ _ _); refine RG.go1 (k := ?_)) | ((with_reducible show DG _ _ (_ :: _) _ _ _ _ _); refine DG.go1 (k := ?_)) | (with_reducible first | apply RG.nil | apply W.seq | apply W.reg | apply W.skip | apply W.block | apply W.drw | apply DG.nil | refine W.done (QB.n ?_))))
      rw [eg]
      refine W.wk (Wk.nilT (t := 6) 2 rfl) ?_ (by simp)
      refine W.loop (ι := {j : Nat // j ≤ got.length}) (fun j => ⟨[(18, .int .i64 j.1), (17, .int .i64 got.length), (16, .sl false 2 (got.map prt)), (6, .ref 1 2 0 j.1), (5, .bptr 0 0), (11, .int .i64 i), (10, .int .i64 l.length), (9, .sl true 14 (l.map hol)), (3, .ref 0 14 0 i)], [some [.int .u8 s0, .int .u8 s1, .int .u8 s2, .int .u8 s3, .int .u8 d0, .int .u8 d1, .int .u8 d2, .int .u8 d3, .int .u8 pr, .int .u16 id_, .int .u8 tt, .int .u64 since, .int .i64 en, .sl false 2 (got.map prt)]], [some ⟨false, 14, (l.take i).map hol⟩, some ⟨false, 2, (got.take j.1).map prt⟩], 1, 2⟩) (fun j => got.length - j.1) ⟨0, Nat.zero_le _⟩ ?_ ?_
      · dsimp only
        rw [List.take_zero, List.map_nil]
        exact Wk.rn ([0] ) ( [0, 1])
      rintro ⟨j, hj⟩
      dsimp only
      have etj : ((got.take j).map prt).length = j := by simp; omega
      have ptj := pr_pure (got.take j)
      by_cases hjl : j < got.length
      · have hG := pr_at got j hjl (j := ((j : Nat) : Int).toNat) (by simp)
        have hgn := map_take_snoc prt got j hjl
        have hgd := hd _ (List.getElem_mem hjl)
        rw [show prt got[j] = .agg [.int .i64 got[j].off, .sl false 1 (got[j].dt.map by8)] from rfl] at hgn
        generalize got[j] = g at *
        obtain ⟨go, gd⟩ := g
        dsimp only at hG hgn hgd
        have cc := ybClone_ok gd (by omega)
        have egd := by8_len gd
        clear hE hsn
        (repeat (first | ((with_reducible show RG _ _ (_ :: _) _ _ _); refine RG.go1 (k := ?_)) | ((with_reducible show DG _ _ (_ :: _) _ _ _ _ _); refine DG.go1 (k := ?_)) | (with_reducible first | apply RG.nil | apply W.seq | apply W.reg | apply W.skip | apply W.block | apply W.drw | apply DG.nil | refine W.done (QB.n ?_))))
        refine W.cnd (fun h2 => ?_) (fun h2 => ?_)
        · clear h2
          (repeat (first | ((with_reducible show RG _ _ (_ :: _) _ _ _); refine RG.go1 (k := ?_)) | ((with_reducible show DG _ _ (_ :: _) _ _ _ _ _); refine DG.go1 (k := ?_)) | (with_reducible first | apply RG.nil | apply W.seq | apply W.reg | apply W.skip | apply W.block | apply W.drw | apply DG.nil | refine W.done (QB.n ?_))))
          (first | ((with_reducible show RG _ _ (_ :: _) _ _ _); refine RG.ew (cptr_of (hG) (by (conv => lhs; whnf) <;> exact rfl)) (k := ?_)) | ((with_reducible show DG _ _ (_ :: _) _ _ _ _ _); refine DG.ew (cptr_of (hG) (by (conv => lhs; whnf) <;> exact rfl)) (k := ?_)))
          (repeat (first | ((with_reducible show RG _ _ (_ :: _) _ _ _); refine RG.go1 (k := ?_)) | ((with_reducible show DG _ _ (_ :: _) _ _ _ _ _); refine DG.go1 (k := ?_)) | (with_reducible first | apply RG.nil | apply W.seq | apply W.reg | apply W.skip | apply W.block | apply W.drw | apply DG.nil | refine W.done (QB.n ?_))))
          (first | ((with_reducible show RG _ _ (_ :: _) _ _ _); refine RG.ca (cc) (k := ?_)) | ((with_reducible show DG _ _ (_ :: _) _ _ _ _ _); refine DG.ca (cc) (k := ?_)))
          (repeat (first | ((with_reducible show RG _ _ (_ :: _) _ _ _); refine RG.go1 (k := ?_)) | ((with_reducible show DG _ _ (_ :: _) _ _ _ _ _); refine DG.go1 (k := ?_)) | (with_reducible first | apply RG.nil | apply W.seq | apply W.reg | apply W.skip | apply W.block | apply W.drw | apply DG.nil | refine W.done (QB.n ?_))))
          rw [hgn]
          refine W.done (QL.n (⟨j + 1, by omega⟩) ?_ ?_)
          · exact Wk.rn ([0] ) ( [0, 4])
          · dsimp only; omega
        · simp at h2
      · obtain rfl : j = got.length := by omega
        (repeat (first | ((with_reducible show RG _ _ (_ :: _) _ _ _); refine RG.go1 (k := ?_)) | ((with_reducible show DG _ _ (_ :: _) _ _ _ _ _); refine DG.go1 (k := ?_)) | (with_reducible first | apply RG.nil | apply W.seq | apply W.reg | apply W.skip | apply W.block | apply W.drw | apply DG.nil | refine W.done (QB.n ?_)) | refine W.cndT ?_ | refine W.cndF ?_))
        (refine W.exit ?_; (repeat (first | (with_reducible first | refine QL.x ?_ | refine QC.x ?_ | refine QB.x ?_) | (with_reducible refine QB.o (by decide) ?_))))
        rw [List.take_length]
        (refine W.wk (Wk.frz (b := 1) rfl rfl) ?_ (by simp); refine W.wk (Wk.tmp (t := 6) (Cl.ice rfl rfl rfl (by first | assumption | decide | omega | (simp; (first | (all_goals fail) | fail)) | (simp <;> omega)) (by first | exact take_all _ | exact take_len (by first | (simp; (first | (all_goals fail) | fail)) | (simp <;> omega)) | exact rfl))) ?_ (by simp); dsimp only [setO])
        (repeat (first | ((with_reducible show RG _ _ (_ :: _) _ _ _); refine RG.go1 (k := ?_)) | ((with_reducible show DG _ _ (_ :: _) _ _ _ _ _); refine DG.go1 (k := ?_)) | (with_reducible first | apply RG.nil | apply W.seq | apply W.reg | apply W.skip | apply W.block | apply W.drw | apply DG.nil | refine W.done (QB.n ?_))))
        rw [hsn]
        refine W.done (QL.n (⟨i + 1, by omega⟩) ?_ ?_)
        · exact Wk.rn ([] ) ( [3])
        · dsimp only; omega
    · simp at h1
  · obtain rfl : i = l.length := by omega
    rw [List.take_length]
    clear hs
    (repeat (first | ((with_reducible show RG _ _ (_ :: _) _ _ _); refine RG.go1 (k := ?_)) | ((with_reducible show DG _ _ (_ :: _) _ _ _ _ _); refine DG.go1 (k := ?_)) | (with_reducible first | apply RG.nil | apply W.seq | apply W.reg | apply W.skip | apply W.block | apply W.drw | apply DG.nil | refine W.done (QB.n ?_)) | refine W.cndT ?_ | refine W.cndF ?_))
    (refine W.exit ?_; (repeat (first | (with_reducible first | refine QL.x ?_ | refine QC.x ?_ | refine QB.x ?_) | (with_reducible refine QB.o (by decide) ?_))))
    (repeat (first | ((with_reducible show RG _ _ (_ :: _) _ _ _); refine RG.go1 (k := ?_)) | ((with_reducible show DG _ _ (_ :: _) _ _ _ _ _); refine DG.go1 (k := ?_)) | (with_reducible first | apply RG.nil | apply W.seq | apply W.reg | apply W.skip | apply W.block | apply W.drw | apply DG.nil | refine W.done (QB.n ?_))))
    (refine W.ret ?_; (repeat (with_reducible first | refine QB.r ?_ | refine QL.r ?_ | refine QC.r ?_)); refine QF.r ?_)
    exact RetOk.rs (vs := [_]) r_frag_clone [0]
def oldB (now : Int) (h : Hl) : Bool := decide (h.since ≤ now ∧ 30 ≤ now - h.since)
structure Hl.Tm (h : Hl) : Prop where
  lo : 0 ≤ h.since
  hi : h.since ≤ 18446744073709551615
theorem fragOld_ok (h : Hl) (ht : h.Tm) (now : Int) (h0 : 0 ≤ now) (h1 : now ≤ 18446744073709551615) : ACall Try.prog 26 [.agg [.int .u8 h.s0, .int .u8 h.s1, .int .u8 h.s2, .int .u8 h.s3, .int .u8 h.d0, .int .u8 h.d1, .int .u8 h.d2, .int .u8 h.d3, .int .u8 h.pr, .int .u16 h.i, .int .u8 h.tt, .int .u64 h.since, .int .i64 h.en, .sl false 2 (h.got.map prt)], .cptr true [.int .u64 now]] (.bool (oldB now h)) [] := by
  obtain ⟨s0, s1, s2, s3, d0, d1, d2, d3, pr, id_, tt, since, en, got⟩ := h
  obtain ⟨t0, t1⟩ := ht
  dsimp only at t0 t1 ⊢
  by_cases c1 : since ≤ now
  · by_cases c2 : 30 ≤ now - since
    · rw [show oldB now ⟨s0, s1, s2, s3, d0, d1, d2, d3, pr, id_, tt, since, en, got⟩ = true from decide_eq_true ⟨c1, c2⟩]
      refine acall_walk (N := 15) Try.func26 (by kernel_rfl) p_frag_Age_1 rfl ?_; unfold c_frag_Age_1; dsimp only [enum, Nat.reduceAdd]
      (repeat (first | ((with_reducible show RG _ _ (_ :: _) _ _ _); refine RG.go1 (k := ?_)) | ((with_reducible show DG _ _ (_ :: _) _ _ _ _ _); refine DG.go1 (k := ?_)) | (with_reducible first | apply RG.nil | apply W.seq | apply W.reg | apply W.skip | apply W.block | apply W.drw | apply DG.nil | refine W.done (QB.n ?_))))
      (refine W.ret ?_; (repeat (with_reducible first | refine QB.r ?_ | refine QL.r ?_ | refine QC.r ?_)); refine QF.r ?_)
      exact RetOk.rs (vs := [_]) r_frag_Age_1 []
    · rw [show oldB now ⟨s0, s1, s2, s3, d0, d1, d2, d3, pr, id_, tt, since, en, got⟩ = false from decide_eq_false fun h => c2 h.2]
      refine acall_walk (N := 15) Try.func26 (by kernel_rfl) p_frag_Age_1 rfl ?_; unfold c_frag_Age_1; dsimp only [enum, Nat.reduceAdd]
      (repeat (first | ((with_reducible show RG _ _ (_ :: _) _ _ _); refine RG.go1 (k := ?_)) | ((with_reducible show DG _ _ (_ :: _) _ _ _ _ _); refine DG.go1 (k := ?_)) | (with_reducible first | apply RG.nil | apply W.seq | apply W.reg | apply W.skip | apply W.block | apply W.drw | apply DG.nil | refine W.done (QB.n ?_))))
      (refine W.ret ?_; (repeat (with_reducible first | refine QB.r ?_ | refine QL.r ?_ | refine QC.r ?_)); refine QF.r ?_)
      exact RetOk.rs (vs := [_]) r_frag_Age_1 []
  · rw [show oldB now ⟨s0, s1, s2, s3, d0, d1, d2, d3, pr, id_, tt, since, en, got⟩ = false from decide_eq_false fun h => c1 h.1]
    refine acall_walk (N := 15) Try.func26 (by kernel_rfl) p_frag_Age_1 rfl ?_; unfold c_frag_Age_1; dsimp only [enum, Nat.reduceAdd]
    (repeat (first | ((with_reducible show RG _ _ (_ :: _) _ _ _); refine RG.go1 (k := ?_)) | ((with_reducible show DG _ _ (_ :: _) _ _ _ _ _); refine DG.go1 (k := ?_)) | (with_reducible first | apply RG.nil | apply W.seq | apply W.reg | apply W.skip | apply W.block | apply W.drw | apply DG.nil | refine W.done (QB.n ?_))))
    (refine W.ret ?_; (repeat (with_reducible first | refine QB.r ?_ | refine QL.r ?_ | refine QC.r ?_)); refine QF.r ?_)
    exact RetOk.rs (vs := [_]) r_frag_Age_1 []
def young (now : Int) (l : List Hl) : List Hl := l.filter fun h => !oldB now h
theorem fragAge_ok (l : List Hl) (hl : l.length ≤ 1000) (hs : ∀ h ∈ l, h.Sm) (ht : ∀ h ∈ l, h.Tm) (now : Int) (h0 : 0 ≤ now) (h1 : now ≤ 18446744073709551615) : ACall Try.prog 16 [.sl true 14 (l.map hol), .int .u64 now] (.ref 0 14 0 (young now l).length) [⟨false, 14, (young now l).map hol⟩] := by
  have cc := fragClone_ok l hl hs
  have cd := hoDelA_ok l (by omega) 26 now (oldB now) fun h hm => fragOld_ok h (ht h hm) now h0 h1
  rw [show (l.filter fun h => !oldB now h) = young now l from rfl] at cd
  refine acall_walk (N := 9) Try.func16 (by kernel_rfl) p_frag_Age rfl ?_; unfold c_frag_Age; dsimp only [enum, Nat.reduceAdd]
  (repeat (first | ((with_reducible show RG _ _ (_ :: _) _ _ _); refine RG.go1 (k := ?_)) | ((with_reducible show DG _ _ (_ :: _) _ _ _ _ _); refine DG.go1 (k := ?_)) | (with_reducible first | apply RG.nil | apply W.seq | apply W.reg | apply W.skip | apply W.block | apply W.drw | apply DG.nil | refine W.done (QB.n ?_))))
  (first | ((with_reducible show RG _ _ (_ :: _) _ _ _); refine RG.ca (cc) (k := ?_)) | ((with_reducible show DG _ _ (_ :: _) _ _ _ _ _); refine DG.ca (cc) (k := ?_)))
  (repeat (first | ((with_reducible show RG _ _ (_ :: _) _ _ _); refine RG.go1 (k := ?_)) | ((with_reducible show DG _ _ (_ :: _) _ _ _ _ _); refine DG.go1 (k := ?_)) | (with_reducible first | apply RG.nil | apply W.seq | apply W.reg | apply W.skip | apply W.block | apply W.drw | apply DG.nil | refine W.done (QB.n ?_))))
  (refine RG.mca ([]) ([0]) (cd) (k := ?_))
  (repeat (first | ((with_reducible show RG _ _ (_ :: _) _ _ _); refine RG.go1 (k := ?_)) | ((with_reducible show DG _ _ (_ :: _) _ _ _ _ _); refine DG.go1 (k := ?_)) | (with_reducible first | apply RG.nil | apply W.seq | apply W.reg | apply W.skip | apply W.block | apply W.drw | apply DG.nil | refine W.done (QB.n ?_))))
  (refine W.ret ?_; (repeat (with_reducible first | refine QB.r ?_ | refine QL.r ?_ | refine QC.r ?_)); refine QF.r ?_)
  exact RetOk.rs (vs := [_]) r_frag_Age [0]
end Go.Proofs.Ytiejnmbpejfpgaa

namespace Go.Proofs.Ytiejnmbpejfpgaa
open Go.RowKit
set_option linter.unusedVariables false
set_option linter.unusedSimpArgs false
set_option maxRecDepth 100000
set_option maxHeartbeats 4000000
theorem four_e (a b c d a2 b2 c2 d2 : Int) : eqTs [0, 0, 0, 0] [.int .u8 a, .int .u8 b, .int .u8 c, .int .u8 d] [.int .u8 a2, .int .u8 b2, .int .u8 c2, .int .u8 d2] = some (decide (a = a2 ∧ b = b2 ∧ c = c2 ∧ d = d2)) :=
  (eqts_i (eqts_i (eqts_i (eqts_i eqts_nil)))).trans (by simp)
structure Mat (h : Hl) (q : Pk) : Prop where
  s : h.s0 = q.s0 ∧ h.s1 = q.s1 ∧ h.s2 = q.s2 ∧ h.s3 = q.s3
  d : h.d0 = q.d0 ∧ h.d1 = q.d1 ∧ h.d2 = q.d2 ∧ h.d3 = q.d3
  p : h.pr = q.pr
  i : h.i = q.i
instance (h : Hl) (q : Pk) : Decidable (Mat h q) :=
  if c : ((h.s0 = q.s0 ∧ h.s1 = q.s1 ∧ h.s2 = q.s2 ∧ h.s3 = q.s3) ∧ (h.d0 = q.d0 ∧ h.d1 = q.d1 ∧ h.d2 = q.d2 ∧ h.d3 = q.d3)) ∧ h.pr = q.pr ∧ h.i = q.i then .isTrue ⟨c.1.1, c.1.2, c.2.1, c.2.2⟩ else .isFalse fun m => c ⟨⟨m.s, m.d⟩, m.p, m.i⟩
def matB (h : Hl) (q : Pk) : Bool := decide (Mat h q)
theorem fragOf_ok (h : Hl) (q : Pk) : ACall Try.prog 19 [hol h, pk false q] (.bool (matB h q)) [] := by
  have cm : matB h q = true ↔ Mat h q := by unfold matB; simp
  have e1 := four_e h.s0 h.s1 h.s2 h.s3 q.s0 q.s1 q.s2 q.s3
  have e2 := four_e h.d0 h.d1 h.d2 h.d3 q.d0 q.d1 q.d2 q.d3
  by_cases c1 : h.s0 = q.s0 ∧ h.s1 = q.s1 ∧ h.s2 = q.s2 ∧ h.s3 = q.s3
  · rw [decide_eq_true c1] at e1
    by_cases c2 : h.d0 = q.d0 ∧ h.d1 = q.d1 ∧ h.d2 = q.d2 ∧ h.d3 = q.d3
    · rw [decide_eq_true c2] at e2
      by_cases c3 : h.pr = q.pr
      · by_cases c4 : h.i = q.i
        · rw [cm.2 ⟨c1, c2, c3, c4⟩]
          clear c1 c2 cm
          unfold hol pk pkc
          refine acall_walk (N := 31) Try.func19 (by kernel_rfl) p_frag_of rfl ?_; unfold c_frag_of; dsimp only [enum, Nat.reduceAdd]
          (repeat (first | ((with_reducible show RG _ _ (_ :: _) _ _ _); refine RG.go1 (k := ?_)) | ((with_reducible show DG _ _ (_ :: _) _ _ _ _ _); refine DG.go1 (k := ?_)) | (with_reducible first | apply RG.nil | apply W.seq | apply W.reg | apply W.skip | apply W.block | apply W.drw | apply DG.nil | refine W.done (QB.n ?_))))
          (refine W.ret ?_; (repeat (with_reducible first | refine QB.r ?_ | refine QL.r ?_ | refine QC.r ?_)); refine QF.r ?_)
          exact RetOk.rs (vs := [_]) r_frag_of []
        · rw [Bool.eq_false_iff.2 (fun e => c4 (cm.1 e).i)]
          clear c1 c2 cm
          unfold hol pk pkc
          refine acall_walk (N := 31) Try.func19 (by kernel_rfl) p_frag_of rfl ?_; unfold c_frag_of; dsimp only [enum, Nat.reduceAdd]
          (repeat (first | ((with_reducible show RG _ _ (_ :: _) _ _ _); refine RG.go1 (k := ?_)) | ((with_reducible show DG _ _ (_ :: _) _ _ _ _ _); refine DG.go1 (k := ?_)) | (with_reducible first | apply RG.nil | apply W.seq | apply W.reg | apply W.skip | apply W.block | apply W.drw | apply DG.nil | refine W.done (QB.n ?_))))
          (refine W.ret ?_; (repeat (with_reducible first | refine QB.r ?_ | refine QL.r ?_ | refine QC.r ?_)); refine QF.r ?_)
          exact RetOk.rs (vs := [_]) r_frag_of []
      · rw [Bool.eq_false_iff.2 (fun e => c3 (cm.1 e).p)]
        clear c1 c2 cm
        unfold hol pk pkc
        refine acall_walk (N := 31) Try.func19 (by kernel_rfl) p_frag_of rfl ?_; unfold c_frag_of; dsimp only [enum, Nat.reduceAdd]
        (repeat (first | ((with_reducible show RG _ _ (_ :: _) _ _ _); refine RG.go1 (k := ?_)) | ((with_reducible show DG _ _ (_ :: _) _ _ _ _ _); refine DG.go1 (k := ?_)) | (with_reducible first | apply RG.nil | apply W.seq | apply W.reg | apply W.skip | apply W.block | apply W.drw | apply DG.nil | refine W.done (QB.n ?_))))
        (refine W.ret ?_; (repeat (with_reducible first | refine QB.r ?_ | refine QL.r ?_ | refine QC.r ?_)); refine QF.r ?_)
        exact RetOk.rs (vs := [_]) r_frag_of []
    · rw [decide_eq_false c2] at e2
      rw [Bool.eq_false_iff.2 (fun e => c2 (cm.1 e).d)]
      clear c1 c2 cm
      unfold hol pk pkc
      refine acall_walk (N := 31) Try.func19 (by kernel_rfl) p_frag_of rfl ?_; unfold c_frag_of; dsimp only [enum, Nat.reduceAdd]
      (repeat (first | ((with_reducible show RG _ _ (_ :: _) _ _ _); refine RG.go1 (k := ?_)) | ((with_reducible show DG _ _ (_ :: _) _ _ _ _ _); refine DG.go1 (k := ?_)) | (with_reducible first | apply RG.nil | apply W.seq | apply W.reg | apply W.skip | apply W.block | apply W.drw | apply DG.nil | refine W.done (QB.n ?_))))
      (refine W.ret ?_; (repeat (with_reducible first | refine QB.r ?_ | refine QL.r ?_ | refine QC.r ?_)); refine QF.r ?_)
      exact RetOk.rs (vs := [_]) r_frag_of []
  · rw [decide_eq_false c1] at e1
    rw [Bool.eq_false_iff.2 (fun e => c1 (cm.1 e).s)]
    clear c1 cm
    unfold hol pk pkc
    refine acall_walk (N := 31) Try.func19 (by kernel_rfl) p_frag_of rfl ?_; unfold c_frag_of; dsimp only [enum, Nat.reduceAdd]
    (repeat (first | ((with_reducible show RG _ _ (_ :: _) _ _ _); refine RG.go1 (k := ?_)) | ((with_reducible show DG _ _ (_ :: _) _ _ _ _ _); refine DG.go1 (k := ?_)) | (with_reducible first | apply RG.nil | apply W.seq | apply W.reg | apply W.skip | apply W.block | apply W.drw | apply DG.nil | refine W.done (QB.n ?_))))
    (refine W.ret ?_; (repeat (with_reducible first | refine QB.r ?_ | refine QL.r ?_ | refine QC.r ?_)); refine QF.r ?_)
    exact RetOk.rs (vs := [_]) r_frag_of []
theorem fragAdd1_ok (h : Hl) (q : Pk) : ACall Try.prog 18 [hol h, .cptr true (pkc false q)] (.bool (matB h q)) [] := by
  have co := fragOf_ok h q
  unfold hol pkc
  unfold hol pk pkc at co
  refine acall_walk (N := 7) Try.func18 (by kernel_rfl) p_frag_Add_1 rfl ?_; unfold c_frag_Add_1; dsimp only [enum, Nat.reduceAdd]
  (repeat (first | ((with_reducible show RG _ _ (_ :: _) _ _ _); refine RG.go1 (k := ?_)) | ((with_reducible show DG _ _ (_ :: _) _ _ _ _ _); refine DG.go1 (k := ?_)) | (with_reducible first | apply RG.nil | apply W.seq | apply W.reg | apply W.skip | apply W.block | apply W.drw | apply DG.nil | refine W.done (QB.n ?_))))
  (first | ((with_reducible show RG _ _ (_ :: _) _ _ _); refine RG.ca (co) (k := ?_)) | ((with_reducible show DG _ _ (_ :: _) _ _ _ _ _); refine DG.ca (co) (k := ?_)))
  (repeat (first | ((with_reducible show RG _ _ (_ :: _) _ _ _); refine RG.go1 (k := ?_)) | ((with_reducible show DG _ _ (_ :: _) _ _ _ _ _); refine DG.go1 (k := ?_)) | (with_reducible first | apply RG.nil | apply W.seq | apply W.reg | apply W.skip | apply W.block | apply W.drw | apply DG.nil | refine W.done (QB.n ?_))))
  (refine W.ret ?_; (repeat (with_reducible first | refine QB.r ?_ | refine QL.r ?_ | refine QC.r ?_)); refine QF.r ?_)
  exact RetOk.rs (vs := [_]) r_frag_Add_1 []
/-- A part's place. -/
structure Prt.Ok (g : Prt) : Prop where
  lo : 0 ≤ g.off
  hi : g.off + g.dt.length ≤ 1000
theorem fits1_ok (g : Prt) (hg : g.Ok) (e : Int) : ACall Try.prog 28 [prt g, .cptr true [.int .i64 e]] (.bool (decide (e < g.off + g.dt.length))) [] := by
  obtain ⟨go, gd⟩ := g
  obtain ⟨g0, g1⟩ := hg
  dsimp only at g0 g1 ⊢
  have el := by8_len gd
  unfold prt
  dsimp only
  refine acall_walk (N := 12) Try.func28 (by kernel_rfl) p_frag_fits_1 rfl ?_; unfold c_frag_fits_1; dsimp only [enum, Nat.reduceAdd]
  (repeat (first | ((with_reducible show RG _ _ (_ :: _) _ _ _); refine RG.go1 (k := ?_)) | ((with_reducible show DG _ _ (_ :: _) _ _ _ _ _); refine DG.go1 (k := ?_)) | (with_reducible first | apply RG.nil | apply W.seq | apply W.reg | apply W.skip | apply W.block | apply W.drw | apply DG.nil | refine W.done (QB.n ?_))))
  rw [el]
  (repeat (first | ((with_reducible show RG _ _ (_ :: _) _ _ _); refine RG.go1 (k := ?_)) | ((with_reducible show DG _ _ (_ :: _) _ _ _ _ _); refine DG.go1 (k := ?_)) | (with_reducible first | apply RG.nil | apply W.seq | apply W.reg | apply W.skip | apply W.block | apply W.drw | apply DG.nil | refine W.done (QB.n ?_))))
  (refine W.ret ?_; (repeat (with_reducible first | refine QB.r ?_ | refine QL.r ?_ | refine QC.r ?_)); refine QF.r ?_)
  exact RetOk.rs (vs := [_]) r_frag_fits_1 []
theorem fragFits_ok (h : Hl) (p : Pk) (e : Int) (hn : h.got.length ≤ 1000) (hg : ∀ g ∈ h.got, g.Ok) (hf : (0 ≤ h.en ∧ e ≤ h.en ∧ (p.mo = true ∨ e = h.en)) ∨ (h.en < 0 ∧ (p.mo = true ∨ ∀ g ∈ h.got, g.off + g.dt.length ≤ e))) :
    ACall Try.prog 20 [hol h, pk false p, .int .i64 e] (.bool true) [] := by
  by_cases c0 : 0 ≤ h.en
  · have hf : e ≤ h.en ∧ (p.mo = true ∨ e = h.en) := by
      rcases hf with hf | hf
      · exact hf.2
      · omega
    obtain ⟨f1, f2⟩ := hf
    cases hm : p.mo
    · have f3 : e = h.en := by rw [hm] at f2; simpa using f2
      clear f2 hg
      unfold hol pk pkc
      rw [hm]
      refine acall_walk (N := 33) Try.func20 (by kernel_rfl) p_frag_fits rfl ?_; unfold c_frag_fits; dsimp only [enum, Nat.reduceAdd]
      (repeat (first | ((with_reducible show RG _ _ (_ :: _) _ _ _); refine RG.go1 (k := ?_)) | ((with_reducible show DG _ _ (_ :: _) _ _ _ _ _); refine DG.go1 (k := ?_)) | (with_reducible first | apply RG.nil | apply W.seq | apply W.reg | apply W.skip | apply W.block | apply W.drw | apply DG.nil | refine W.done (QB.n ?_)) | refine W.cndT ?_ | refine W.cndF ?_))
      (refine W.ret ?_; (repeat (with_reducible first | refine QB.r ?_ | refine QL.r ?_ | refine QC.r ?_)); refine QF.r ?_)
      exact RetOk.rs (vs := [_]) r_frag_fits []
    · clear f2 hg
      unfold hol pk pkc
      rw [hm]
      refine acall_walk (N := 33) Try.func20 (by kernel_rfl) p_frag_fits rfl ?_; unfold c_frag_fits; dsimp only [enum, Nat.reduceAdd]
      (repeat (first | ((with_reducible show RG _ _ (_ :: _) _ _ _); refine RG.go1 (k := ?_)) | ((with_reducible show DG _ _ (_ :: _) _ _ _ _ _); refine DG.go1 (k := ?_)) | (with_reducible first | apply RG.nil | apply W.seq | apply W.reg | apply W.skip | apply W.block | apply W.drw | apply DG.nil | refine W.done (QB.n ?_)) | refine W.cndT ?_ | refine W.cndF ?_))
      (refine W.ret ?_; (repeat (with_reducible first | refine QB.r ?_ | refine QL.r ?_ | refine QC.r ?_)); refine QF.r ?_)
      exact RetOk.rs (vs := [_]) r_frag_fits []
  · have hf : p.mo = true ∨ ∀ g ∈ h.got, g.off + g.dt.length ≤ e := by
      rcases hf with hf | hf
      · omega
      · exact hf.2
    cases hm : p.mo
    · have f2 : ∀ g ∈ h.got, g.off + g.dt.length ≤ e := by rw [hm] at hf; simpa using hf
      have cc := prContains_ok h.got (by omega) 28 e (fun g => decide (e < g.off + g.dt.length)) (fun g hg' => fits1_ok g (hg g hg') e)
      rw [show (h.got.any fun g => decide (e < g.off + g.dt.length)) = false by
        rw [List.any_eq_false]
        intro g hg'
        have := f2 g hg'
        simp; omega] at cc
      clear f2 hf hg
      unfold hol pk pkc
      rw [hm]
      refine acall_walk (N := 33) Try.func20 (by kernel_rfl) p_frag_fits rfl ?_; unfold c_frag_fits; dsimp only [enum, Nat.reduceAdd]
      (repeat (first | ((with_reducible show RG _ _ (_ :: _) _ _ _); refine RG.go1 (k := ?_)) | ((with_reducible show DG _ _ (_ :: _) _ _ _ _ _); refine DG.go1 (k := ?_)) | (with_reducible first | apply RG.nil | apply W.seq | apply W.reg | apply W.skip | apply W.block | apply W.drw | apply DG.nil | refine W.done (QB.n ?_)) | refine W.cndT ?_ | refine W.cndF ?_))
      (first | ((with_reducible show RG _ _ (_ :: _) _ _ _); refine RG.gca (fun _ => cc) (k := ?_)) | ((with_reducible show DG _ _ (_ :: _) _ _ _ _ _); refine DG.gca (fun _ => cc) (k := ?_)))
      (repeat (first | ((with_reducible show RG _ _ (_ :: _) _ _ _); refine RG.go1 (k := ?_)) | ((with_reducible show DG _ _ (_ :: _) _ _ _ _ _); refine DG.go1 (k := ?_)) | (with_reducible first | apply RG.nil | apply W.seq | apply W.reg | apply W.skip | apply W.block | apply W.drw | apply DG.nil | refine W.done (QB.n ?_)) | refine W.cndT ?_ | refine W.cndF ?_))
      (refine W.ret ?_; (repeat (with_reducible first | refine QB.r ?_ | refine QL.r ?_ | refine QC.r ?_)); refine QF.r ?_)
      exact RetOk.rs (vs := [_]) r_frag_fits []
    · clear hf hg
      unfold hol pk pkc
      rw [hm]
      refine acall_walk (N := 33) Try.func20 (by kernel_rfl) p_frag_fits rfl ?_; unfold c_frag_fits; dsimp only [enum, Nat.reduceAdd]
      (repeat (first | ((with_reducible show RG _ _ (_ :: _) _ _ _); refine RG.go1 (k := ?_)) | ((with_reducible show DG _ _ (_ :: _) _ _ _ _ _); refine DG.go1 (k := ?_)) | (with_reducible first | apply RG.nil | apply W.seq | apply W.reg | apply W.skip | apply W.block | apply W.drw | apply DG.nil | refine W.done (QB.n ?_)) | refine W.cndT ?_ | refine W.cndF ?_))
      (refine W.ret ?_; (repeat (with_reducible first | refine QB.r ?_ | refine QL.r ?_ | refine QC.r ?_)); refine QF.r ?_)
      exact RetOk.rs (vs := [_]) r_frag_fits []
end Go.Proofs.Ytiejnmbpejfpgaa
