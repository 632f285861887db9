/- Functions of package slices, at what a bridge has learnt. -/
import Derived.Test.YtfpgpeomcefkhaaCode
import Derived.Test.YtfpgpeomcefkhaaAxR
namespace Go.Proofs.Ytfpgpeomcefkhaa
open Go.RowKit
set_option linter.unusedVariables false
set_option linter.unusedSimpArgs false
set_option maxRecDepth 100000
set_option maxHeartbeats 4000000
structure Lrn where
  a0 : Int
  a1 : Int
  a2 : Int
  a3 : Int
  a4 : Int
  a5 : Int
  p : Int
def lrn (x : Lrn) : AV := .agg [.int .u8 x.a0, .int .u8 x.a1, .int .u8 x.a2, .int .u8 x.a3, .int .u8 x.a4, .int .u8 x.a5, .int .i64 x.p]
theorem lr_at (l : List Lrn) (i : Nat) (h : i < l.length) {j : Nat} (hj : j = i) : (l.map lrn)[j]?.getD .any = .agg [.int .u8 l[i].a0, .int .u8 l[i].a1, .int .u8 l[i].a2, .int .u8 l[i].a3, .int .u8 l[i].a4, .int .u8 l[i].a5, .int .i64 l[i].p] := at_map lrn l i _ (List.getElem?_eq_getElem h) hj
theorem lr_pure (l : List Lrn) : (l.map lrn).all pureV = true := by simp [lrn, pureV, pureC]
theorem lr_len (l : List Lrn) : (l.map lrn).length = l.length := by simp

theorem keep_lt {α : Type} (p : α → Bool) : ∀ (l : List α) (j i : Nat) (h : i < l.length), i < j → p l[i] = false → ((l.take j).filter p).length < j
  | [], j, i, h, _, _ => absurd h (Nat.not_lt_zero _)
  | x :: l, 0, i, _, h, _ => absurd h (Nat.not_lt_zero _)
  | x :: l, j + 1, 0, _, _, hp => by
    have hp : p x = false := hp
    simp only [List.take_succ_cons, List.filter_cons, hp, Bool.false_eq_true, if_false]
    have := List.length_filter_le p (l.take j)
    have := List.length_take_le j l
    omega
  | x :: l, j + 1, i + 1, h, hij, hp => by
    have := keep_lt p l j i (by simpa using h) (by omega) (by simpa using hp)
    simp only [List.take_succ_cons, List.filter_cons]
    split
    · simp only [List.length_cons]; omega
    · omega
theorem keep_snoc {α : Type} (p : α → Bool) (l : List α) (j : Nat) (h : j < l.length) : (l.take (j + 1)).filter p = (l.take j).filter p ++ (if p l[j] then [l[j]] else []) := by
  rw [List.take_succ_eq_append_getElem h, List.filter_append]
  congr 1
  simp only [List.filter_cons, List.filter_nil]
theorem set_app {α : Type} (k : List α) (l : List α) (x : α) (h : k.length < l.length) : (k ++ l.drop k.length).set k.length x = (k ++ [x]) ++ l.drop (k.length + 1) := by
  rw [List.set_append_right _ _ (Nat.le_refl _), Nat.sub_self, List.drop_eq_getElem_cons h, List.set_cons_zero, List.append_assoc]
  rfl
theorem lrClone_ok (l : List Lrn) (hl : l.length ≤ 1000000) : ACall Try.prog 17 [.sl true 7 (l.map lrn)] (.ref 0 7 0 l.length) [⟨false, 7, l.map lrn⟩] := by
  have el := lr_len l
  have hp := lr_pure l
  by_cases hne : l = []
  · subst hne
    refine acall_empty 0 rfl ?_ (fun a c hc => ?_)
    · dsimp only [List.set]
      refine acall_walk (N := 8) Try.func17 (by kernel_rfl) p_slices_Clone__caravel_api_Learnt_caravel_api_Learnt rfl ?_; unfold c_slices_Clone__caravel_api_Learnt_caravel_api_Learnt; dsimp only [enum, Nat.reduceAdd]
      (repeat (first | ((with_reducible show RG _ _ (_ :: _) _ _ _); refine RG.go1 (k := ?_)) | ((with_reducible show DG _ _ (_ :: _) _ _ _ _ _); refine DG.go1 (k := ?_)) | (with_reducible first | apply RG.nil | apply W.seq | apply W.reg | apply W.skip | apply W.block | apply W.drw | apply DG.nil | refine W.done (QB.n ?_))))
      refine W.cndT ?_
      (repeat (first | ((with_reducible show RG _ _ (_ :: _) _ _ _); refine RG.go1 (k := ?_)) | ((with_reducible show DG _ _ (_ :: _) _ _ _ _ _); refine DG.go1 (k := ?_)) | (with_reducible first | apply RG.nil | apply W.seq | apply W.reg | apply W.skip | apply W.block | apply W.drw | apply DG.nil | refine W.done (QB.n ?_))))
      (refine W.ret ?_; (repeat (with_reducible first | refine QB.r ?_ | refine QL.r ?_ | refine QC.r ?_)); refine QF.r ?_)
      refine RetOk.wk (Wk.nilT (t := 2) 7 rfl) ?_
      exact RetOk.rs (vs := [_]) r_slices_Clone__caravel_api_Learnt_caravel_api_Learnt [0]
    · dsimp only [List.set]
      refine acall_walk (N := 8) Try.func17 (by kernel_rfl) p_slices_Clone__caravel_api_Learnt_caravel_api_Learnt rfl ?_; unfold c_slices_Clone__caravel_api_Learnt_caravel_api_Learnt; dsimp only [enum, Nat.reduceAdd]
      (repeat (first | ((with_reducible show RG _ _ (_ :: _) _ _ _); refine RG.go1 (k := ?_)) | ((with_reducible show DG _ _ (_ :: _) _ _ _ _ _); refine DG.go1 (k := ?_)) | (with_reducible first | apply RG.nil | apply W.seq | apply W.reg | apply W.skip | apply W.block | apply W.drw | apply DG.nil | refine W.done (QB.n ?_))))
      refine W.cndF ?_
      (repeat (first | ((with_reducible show RG _ _ (_ :: _) _ _ _); refine RG.go1 (k := ?_)) | ((with_reducible show DG _ _ (_ :: _) _ _ _ _ _); refine DG.go1 (k := ?_)) | (with_reducible first | apply RG.nil | apply W.seq | apply W.reg | apply W.skip | apply W.block | apply W.drw | apply DG.nil | refine W.done (QB.n ?_))))
      (refine W.ret ?_; (repeat (with_reducible first | refine QB.r ?_ | refine QL.r ?_ | refine QC.r ?_)); refine QF.r ?_)
      exact RetOk.rs (vs := [_]) r_slices_Clone__caravel_api_Learnt_caravel_api_Learnt [1]
  · have hne' : l.map lrn ≠ [] := by simpa using hne
    refine acall_walk (N := 8) Try.func17 (by kernel_rfl) p_slices_Clone__caravel_api_Learnt_caravel_api_Learnt rfl ?_; unfold c_slices_Clone__caravel_api_Learnt_caravel_api_Learnt; dsimp only [enum, Nat.reduceAdd]
    (repeat (first | ((with_reducible show RG _ _ (_ :: _) _ _ _); refine RG.go1 (k := ?_)) | ((with_reducible show DG _ _ (_ :: _) _ _ _ _ _); refine DG.go1 (k := ?_)) | (with_reducible first | apply RG.nil | apply W.seq | apply W.reg | apply W.skip | apply W.block | apply W.drw | apply DG.nil | refine W.done (QB.n ?_))))
    refine W.cndF ?_
    (repeat (first | ((with_reducible show RG _ _ (_ :: _) _ _ _); refine RG.go1 (k := ?_)) | ((with_reducible show DG _ _ (_ :: _) _ _ _ _ _); refine DG.go1 (k := ?_)) | (with_reducible first | apply RG.nil | apply W.seq | apply W.reg | apply W.skip | apply W.block | apply W.drw | apply DG.nil | refine W.done (QB.n ?_))))
    (refine W.ret ?_; (repeat (with_reducible first | refine QB.r ?_ | refine QL.r ?_ | refine QC.r ?_)); refine QF.r ?_)
    rw [el]
    exact RetOk.rs (vs := [_]) r_slices_Clone__caravel_api_Learnt_caravel_api_Learnt [1]
theorem lrIndex_ok (l : List Lrn) (hl : l.length ≤ 1000000) (f : Nat) (m0 m1 m2 m3 m4 m5 : Int) (pr : Lrn → Bool) (hf : ∀ x ∈ l, ACall Try.prog f [.agg [.int .u8 x.a0, .int .u8 x.a1, .int .u8 x.a2, .int .u8 x.a3, .int .u8 x.a4, .int .u8 x.a5, .int .i64 x.p], .cptr true [.int .u8 m0, .int .u8 m1, .int .u8 m2, .int .u8 m3, .int .u8 m4, .int .u8 m5]] (.bool (pr x)) []) :
    ACall Try.prog 26 [.sl true 7 (l.map lrn), .fn f [.cptr true [.int .u8 m0, .int .u8 m1, .int .u8 m2, .int .u8 m3, .int .u8 m4, .int .u8 m5]]] (.int .i64 (if l.any pr then (l.findIdx pr : Int) else -1)) [] := by
  have el := lr_len l
  refine acall_walk (N := 19) Try.func26 (by kernel_rfl) p_slices_IndexFunc__caravel_api_Learnt_caravel_api_Learnt rfl ?_; unfold c_slices_IndexFunc__caravel_api_Learnt_caravel_api_Learnt; dsimp only [enum, Nat.reduceAdd]
  (repeat (first | ((with_reducible show RG _ _ (_ :: _) _ _ _); refine RG.go1 (k := ?_)) | ((with_reducible show DG _ _ (_ :: _) _ _ _ _ _); refine DG.go1 (k := ?_)) | (with_reducible first | apply RG.nil | apply W.seq | apply W.reg | apply W.skip | apply W.block | apply W.drw | apply DG.nil | refine W.done (QB.n ?_))))
  refine W.loop (ι := {i : Nat // i ≤ l.length ∧ ∀ j : Nat, (h : j < l.length) → j < i → pr l[j] = false}) (fun i => ⟨[(8, .int .i64 i.1), (7, .int .i64 l.length), (0, .sl true 7 (l.map lrn)), (1, .fn f [.cptr true [.int .u8 m0, .int .u8 m1, .int .u8 m2, .int .u8 m3, .int .u8 m4, .int .u8 m5]])], [], [], 0, 0⟩) (fun i => l.length - i.1) ⟨0, Nat.zero_le _, fun j _ h => absurd h (Nat.not_lt_zero _)⟩ ?_ ?_
  · exact Wk.rn ([] ) ( [])
  rintro ⟨i, hi, hall⟩
  dsimp only
  (repeat (first | ((with_reducible show RG _ _ (_ :: _) _ _ _); refine RG.go1 (k := ?_)) | ((with_reducible show DG _ _ (_ :: _) _ _ _ _ _); refine DG.go1 (k := ?_)) | (with_reducible first | apply RG.nil | apply W.seq | apply W.reg | apply W.skip | apply W.block | apply W.drw | apply DG.nil | refine W.done (QB.n ?_))))
  refine W.cnd (fun h1 => ?_) (fun h1 => ?_)
  · have hlt : i < l.length := by simp at h1; omega
    have hE := lr_at l i hlt (j := ((i : Nat) : Int).toNat) (by simp)
    have hc := hf _ (List.getElem_mem hlt)
    cases hpi : pr l[i]
    · rw [hpi] at hc
      (repeat (first | ((with_reducible show RG _ _ (_ :: _) _ _ _); refine RG.go1 (k := ?_)) | ((with_reducible show DG _ _ (_ :: _) _ _ _ _ _); refine DG.go1 (k := ?_)) | (with_reducible first | apply RG.nil | apply W.seq | apply W.reg | apply W.skip | apply W.block | apply W.drw | apply DG.nil | refine W.done (QB.n ?_))))
      (first | ((with_reducible show RG _ _ (_ :: _) _ _ _); refine RG.ew (cptr_of (hE) (by (conv => lhs; whnf) <;> exact rfl)) (k := ?_)) | ((with_reducible show DG _ _ (_ :: _) _ _ _ _ _); refine DG.ew (cptr_of (hE) (by (conv => lhs; whnf) <;> exact rfl)) (k := ?_)))
      (repeat (first | ((with_reducible show RG _ _ (_ :: _) _ _ _); refine RG.go1 (k := ?_)) | ((with_reducible show DG _ _ (_ :: _) _ _ _ _ _); refine DG.go1 (k := ?_)) | (with_reducible first | apply RG.nil | apply W.seq | apply W.reg | apply W.skip | apply W.block | apply W.drw | apply DG.nil | refine W.done (QB.n ?_))))
      (first | ((with_reducible show RG _ _ (_ :: _) _ _ _); refine RG.cav (hc) (k := ?_)) | ((with_reducible show DG _ _ (_ :: _) _ _ _ _ _); refine DG.cav (hc) (k := ?_)))
      (repeat (first | ((with_reducible show RG _ _ (_ :: _) _ _ _); refine RG.go1 (k := ?_)) | ((with_reducible show DG _ _ (_ :: _) _ _ _ _ _); refine DG.go1 (k := ?_)) | (with_reducible first | apply RG.nil | apply W.seq | apply W.reg | apply W.skip | apply W.block | apply W.drw | apply DG.nil | refine W.done (QB.n ?_))))
      refine W.cndF ?_
      (repeat (first | ((with_reducible show RG _ _ (_ :: _) _ _ _); refine RG.go1 (k := ?_)) | ((with_reducible show DG _ _ (_ :: _) _ _ _ _ _); refine DG.go1 (k := ?_)) | (with_reducible first | apply RG.nil | apply W.seq | apply W.reg | apply W.skip | apply W.block | apply W.drw | apply DG.nil | refine W.done (QB.n ?_))))
      refine W.done (QL.n (⟨i + 1, by omega, fun j hj hji => by
        rcases Nat.lt_or_ge j i with q | q
        · exact hall j hj q
        · obtain rfl : j = i := by omega
          exact hpi⟩) ?_ ?_)
      · exact Wk.rn ([] ) ( [])
      · dsimp only; omega
    · rw [hpi] at hc
      have hany : l.any pr = true := by rw [List.any_eq_true]; exact ⟨_, List.getElem_mem hlt, hpi⟩
      have hidx : l.findIdx pr = i := (List.findIdx_eq hlt).2 ⟨hpi, fun j hj => hall j (by omega) hj⟩
      rw [hany, hidx]
      (repeat (first | ((with_reducible show RG _ _ (_ :: _) _ _ _); refine RG.go1 (k := ?_)) | ((with_reducible show DG _ _ (_ :: _) _ _ _ _ _); refine DG.go1 (k := ?_)) | (with_reducible first | apply RG.nil | apply W.seq | apply W.reg | apply W.skip | apply W.block | apply W.drw | apply DG.nil | refine W.done (QB.n ?_))))
      (first | ((with_reducible show RG _ _ (_ :: _) _ _ _); refine RG.ew (cptr_of (hE) (by (conv => lhs; whnf) <;> exact rfl)) (k := ?_)) | ((with_reducible show DG _ _ (_ :: _) _ _ _ _ _); refine DG.ew (cptr_of (hE) (by (conv => lhs; whnf) <;> exact rfl)) (k := ?_)))
      (repeat (first | ((with_reducible show RG _ _ (_ :: _) _ _ _); refine RG.go1 (k := ?_)) | ((with_reducible show DG _ _ (_ :: _) _ _ _ _ _); refine DG.go1 (k := ?_)) | (with_reducible first | apply RG.nil | apply W.seq | apply W.reg | apply W.skip | apply W.block | apply W.drw | apply DG.nil | refine W.done (QB.n ?_))))
      (first | ((with_reducible show RG _ _ (_ :: _) _ _ _); refine RG.cav (hc) (k := ?_)) | ((with_reducible show DG _ _ (_ :: _) _ _ _ _ _); refine DG.cav (hc) (k := ?_)))
      (repeat (first | ((with_reducible show RG _ _ (_ :: _) _ _ _); refine RG.go1 (k := ?_)) | ((with_reducible show DG _ _ (_ :: _) _ _ _ _ _); refine DG.go1 (k := ?_)) | (with_reducible first | apply RG.nil | apply W.seq | apply W.reg | apply W.skip | apply W.block | apply W.drw | apply DG.nil | refine W.done (QB.n ?_))))
      refine W.cndT ?_
      (repeat (first | ((with_reducible show RG _ _ (_ :: _) _ _ _); refine RG.go1 (k := ?_)) | ((with_reducible show DG _ _ (_ :: _) _ _ _ _ _); refine DG.go1 (k := ?_)) | (with_reducible first | apply RG.nil | apply W.seq | apply W.reg | apply W.skip | apply W.block | apply W.drw | apply DG.nil | refine W.done (QB.n ?_))))
      (refine W.ret ?_; (repeat (with_reducible first | refine QB.r ?_ | refine QL.r ?_ | refine QC.r ?_)); refine QF.r ?_)
      exact RetOk.rs (vs := [_]) r_slices_IndexFunc__caravel_api_Learnt_caravel_api_Learnt []
  have hany : l.any pr = false := by
    rw [List.any_eq_false]
    intro x hx
    obtain ⟨j, hj, rfl⟩ := List.getElem_of_mem hx
    simp at h1
    rw [hall j hj (by omega)]; simp
  rw [hany]
  (refine W.exit ?_; (repeat (first | (with_reducible first | refine QL.x ?_ | refine QC.x ?_ | refine QB.x ?_) | (with_reducible refine QB.o (by decide) ?_))))
  (repeat (first | ((with_reducible show RG _ _ (_ :: _) _ _ _); refine RG.go1 (k := ?_)) | ((with_reducible show DG _ _ (_ :: _) _ _ _ _ _); refine DG.go1 (k := ?_)) | (with_reducible first | apply RG.nil | apply W.seq | apply W.reg | apply W.skip | apply W.block | apply W.drw | apply DG.nil | refine W.done (QB.n ?_))))
  (refine W.ret ?_; (repeat (with_reducible first | refine QB.r ?_ | refine QL.r ?_ | refine QC.r ?_)); refine QF.r ?_)
  exact RetOk.rs (vs := [_]) r_slices_IndexFunc__caravel_api_Learnt_caravel_api_Learnt []
theorem lrDel_ok (l : List Lrn) (hl : l.length ≤ 1000000) (f : Nat) (m0 m1 m2 m3 m4 m5 : Int) (pr : Lrn → Bool) (hf : ∀ x ∈ l, ACall Try.prog f [.agg [.int .u8 x.a0, .int .u8 x.a1, .int .u8 x.a2, .int .u8 x.a3, .int .u8 x.a4, .int .u8 x.a5, .int .i64 x.p], .cptr true [.int .u8 m0, .int .u8 m1, .int .u8 m2, .int .u8 m3, .int .u8 m4, .int .u8 m5]] (.bool (pr x)) []) :
    MCall Try.prog 23 [.ref 0 7 0 l.length, .fn f [.cptr true [.int .u8 m0, .int .u8 m1, .int .u8 m2, .int .u8 m3, .int .u8 m4, .int .u8 m5]]] [] [⟨false, 7, l.map lrn⟩] (.ref 0 7 0 (l.filter fun x => !pr x).length) [] [some ⟨false, 7, (l.filter fun x => !pr x).map lrn⟩] [] := by
  have ci := lrIndex_ok l hl f m0 m1 m2 m3 m4 m5 pr hf
  have el := lr_len l
  cases hany : l.any pr
  · rw [hany, if_neg (by decide)] at ci
    have hfl : (l.filter fun x => !pr x) = l := by
      rw [List.filter_eq_self]
      intro x hx
      rw [List.any_eq_false] at hany
      simpa using hany x hx
    rw [hfl]
    refine mcall_walk (N := 42) Try.func23 (by kernel_rfl) p_slices_DeleteFunc__caravel_api_Learnt_caravel_api_Learnt rfl rfl rfl ?_; intro gb pl; unfold c_slices_DeleteFunc__caravel_api_Learnt_caravel_api_Learnt; dsimp only [enum, ghB, ghR, k_lc, k_ln, k_ap, k_an, k_m0, k_mc, Nat.reduceAdd, Nat.zero_add, Nat.add_zero]
    (repeat (first | ((with_reducible show RG _ _ (_ :: _) _ _ _); refine RG.go1 (k := ?_)) | ((with_reducible show DG _ _ (_ :: _) _ _ _ _ _); refine DG.go1 (k := ?_)) | (with_reducible first | apply RG.nil | apply W.seq | apply W.reg | apply W.skip | apply W.block | apply W.drw | apply DG.nil | refine W.done (QB.n ?_))))
    (first | ((with_reducible show RG _ _ (_ :: _) _ _ _); refine RG.ca (ci) (k := ?_)) | ((with_reducible show DG _ _ (_ :: _) _ _ _ _ _); refine DG.ca (ci) (k := ?_)))
    (repeat (first | ((with_reducible show RG _ _ (_ :: _) _ _ _); refine RG.go1 (k := ?_)) | ((with_reducible show DG _ _ (_ :: _) _ _ _ _ _); refine DG.go1 (k := ?_)) | (with_reducible first | apply RG.nil | apply W.seq | apply W.reg | apply W.skip | apply W.block | apply W.drw | apply DG.nil | refine W.done (QB.n ?_))))
    refine W.cndT ?_
    (repeat (first | ((with_reducible show RG _ _ (_ :: _) _ _ _); refine RG.go1 (k := ?_)) | ((with_reducible show DG _ _ (_ :: _) _ _ _ _ _); refine DG.go1 (k := ?_)) | (with_reducible first | apply RG.nil | apply W.seq | apply W.reg | apply W.skip | apply W.block | apply W.drw | apply DG.nil | refine W.done (QB.n ?_))))
    (refine W.ret ?_; (repeat (with_reducible first | refine QB.r ?_ | refine QL.r ?_ | refine QC.r ?_)); refine QM.r ?_)
    exact RetM.rs (vs := [_]) (tm' := [(4, .ref 0 7 0 l.length), (1100000, .ratt 0 (pl 0))]) r_slices_DeleteFunc__caravel_api_Learnt_caravel_api_Learnt ([]) ([0]) 0 1
  · rw [hany, if_pos rfl] at ci
    have hi0 : l.findIdx pr < l.length := List.findIdx_lt_length_of_exists (by simpa using hany)
    have hp1 : pr l[l.findIdx pr] = true := List.findIdx_getElem
    have hp0 : (!pr l[l.findIdx pr]) = false := by rw [hp1]; rfl
    have hbefore : (l.take (l.findIdx pr)).filter (fun x => !pr x) = l.take (l.findIdx pr) := by
      rw [List.filter_eq_self]
      intro x hx
      obtain ⟨j, hj, rfl⟩ := List.getElem_of_mem hx
      have hj' : j < l.findIdx pr := by simp at hj; omega
      have := List.not_of_lt_findIdx hj'
      simpa using this
    have hk0 := keep_snoc (fun x => !pr x) l (l.findIdx pr) hi0
    rw [hbefore] at hk0
    simp only [hp1, Bool.not_true, Bool.false_eq_true, if_false, List.append_nil] at hk0
    clear hbefore hp1
    generalize l.findIdx pr = i0 at ci hi0 hp0 hk0
    have hkl : ∀ j, i0 < j → ((l.take j).filter fun x => !pr x).length < j := fun j hj => keep_lt _ l j i0 hi0 hj hp0
    refine mcall_walk (N := 42) Try.func23 (by kernel_rfl) p_slices_DeleteFunc__caravel_api_Learnt_caravel_api_Learnt rfl rfl rfl ?_; intro gb pl; unfold c_slices_DeleteFunc__caravel_api_Learnt_caravel_api_Learnt; dsimp only [enum, ghB, ghR, k_lc, k_ln, k_ap, k_an, k_m0, k_mc, Nat.reduceAdd, Nat.zero_add, Nat.add_zero]
    (repeat (first | ((with_reducible show RG _ _ (_ :: _) _ _ _); refine RG.go1 (k := ?_)) | ((with_reducible show DG _ _ (_ :: _) _ _ _ _ _); refine DG.go1 (k := ?_)) | (with_reducible first | apply RG.nil | apply W.seq | apply W.reg | apply W.skip | apply W.block | apply W.drw | apply DG.nil | refine W.done (QB.n ?_))))
    (first | ((with_reducible show RG _ _ (_ :: _) _ _ _); refine RG.ca (ci) (k := ?_)) | ((with_reducible show DG _ _ (_ :: _) _ _ _ _ _); refine DG.ca (ci) (k := ?_)))
    (repeat (first | ((with_reducible show RG _ _ (_ :: _) _ _ _); refine RG.go1 (k := ?_)) | ((with_reducible show DG _ _ (_ :: _) _ _ _ _ _); refine DG.go1 (k := ?_)) | (with_reducible first | apply RG.nil | apply W.seq | apply W.reg | apply W.skip | apply W.block | apply W.drw | apply DG.nil | refine W.done (QB.n ?_))))
    refine W.cndF ?_
    (repeat (first | ((with_reducible show RG _ _ (_ :: _) _ _ _); refine RG.go1 (k := ?_)) | ((with_reducible show DG _ _ (_ :: _) _ _ _ _ _); refine DG.go1 (k := ?_)) | (with_reducible first | apply RG.nil | apply W.seq | apply W.reg | apply W.skip | apply W.block | apply W.drw | apply DG.nil | refine W.done (QB.n ?_))))
    refine W.loop (ι := {j : Nat // i0 < j ∧ j ≤ l.length}) (fun j => ⟨[(6, .int .i64 j.1), (5, .int .i64 ((l.take j.1).filter fun x => !pr x).length), (0, .ref 0 7 0 l.length), (1, .fn f [.cptr true [.int .u8 m0, .int .u8 m1, .int .u8 m2, .int .u8 m3, .int .u8 m4, .int .u8 m5]]), (1100000, .ratt 0 (pl 0))], [], [some ⟨false, 7, (((l.take j.1).filter fun x => !pr x) ++ l.drop ((l.take j.1).filter fun x => !pr x).length).map lrn⟩], 0, 1⟩) (fun j => l.length - j.1) ⟨i0 + 1, by omega, by omega⟩ ?_ ?_
    · dsimp only
      rw [hk0]
      have e1 : (l.take i0).length = i0 := by simp; omega
      rw [e1, List.take_append_drop]
      exact Wk.rn ([] ) ( [0])
    rintro ⟨j, hj1, hj2⟩
    dsimp only
    have hkj := hkl j hj1
    have hks := keep_snoc (fun x => !pr x) l j
    have hrow : (((l.take j).filter fun x => !pr x) ++ l.drop ((l.take j).filter fun x => !pr x).length).length = l.length := by simp; omega
    have hat : ∀ h : j < l.length, (((((l.take j).filter fun x => !pr x) ++ l.drop ((l.take j).filter fun x => !pr x).length)).map lrn)[j]?.getD .any = .agg [.int .u8 l[j].a0, .int .u8 l[j].a1, .int .u8 l[j].a2, .int .u8 l[j].a3, .int .u8 l[j].a4, .int .u8 l[j].a5, .int .i64 l[j].p] := fun h => by
      have e2 : (((l.take j).filter fun x => !pr x) ++ l.drop ((l.take j).filter fun x => !pr x).length)[j]? = some l[j] := by
        rw [List.getElem?_append_right (by omega), List.getElem?_drop, ← List.getElem?_eq_getElem h]
        congr 1; omega
      rw [List.getElem?_map, e2]; rfl
    have hset : ∀ x, ((((l.take j).filter fun x => !pr x) ++ l.drop ((l.take j).filter fun x => !pr x).length).map lrn).set ((l.take j).filter fun x => !pr x).length (lrn x) = ((((l.take j).filter fun x => !pr x) ++ [x]) ++ l.drop (((l.take j).filter fun x => !pr x).length + 1)).map lrn := fun x => by
      rw [← List.map_set, set_app _ _ _ (by omega)]
    have hend : j = l.length → (l.take j).filter (fun x => !pr x) = l.filter (fun x => !pr x) := fun h => by rw [h, List.take_length]
    obtain ⟨kp, hkp⟩ : ∃ kp, (l.take j).filter (fun x => !pr x) = kp := ⟨_, rfl⟩
    rw [hkp] at hkj hks hrow hat hset hend ⊢
    have hrl : ((kp ++ l.drop kp.length).map lrn).length = l.length := by rw [List.length_map]; exact hrow
    (repeat (first | ((with_reducible show RG _ _ (_ :: _) _ _ _); refine RG.go1 (k := ?_)) | ((with_reducible show DG _ _ (_ :: _) _ _ _ _ _); refine DG.go1 (k := ?_)) | (with_reducible first | apply RG.nil | apply W.seq | apply W.reg | apply W.skip | apply W.block | apply W.drw | apply DG.nil | refine W.done (QB.n ?_))))
    refine W.cnd (fun h1 => ?_) (fun h1 => ?_)
    · have hlt : j < l.length := by simp at h1; omega
      have hks := hks hlt
      have hat := hat hlt
      have hc := hf _ (List.getElem_mem hlt)
      have hset := hset l[j]
      clear hend hkl hkp hk0
      cases hpj : pr l[j]
      · rw [hpj] at hc hks
        have hks : (l.take (j + 1)).filter (fun x => !pr x) = kp ++ [l[j]] := hks
        unfold lrn at hset
        generalize l[j] = y at hc hks hat hset
        (repeat (first | ((with_reducible show RG _ _ (_ :: _) _ _ _); refine RG.go1 (k := ?_)) | ((with_reducible show DG _ _ (_ :: _) _ _ _ _ _); refine DG.go1 (k := ?_)) | (with_reducible first | apply RG.nil | apply W.seq | apply W.reg | apply W.skip | apply W.block | apply W.drw | apply DG.nil | refine W.done (QB.n ?_))))
        (first | ((with_reducible show RG _ _ (_ :: _) _ _ _); refine RG.ew (ix_of ((show 0 + ((j : Int)).toNat = j by simp))) (k := ?_)) | ((with_reducible show DG _ _ (_ :: _) _ _ _ _ _); refine DG.ew (ix_of ((show 0 + ((j : Int)).toNat = j by simp))) (k := ?_)))
        (repeat (first | ((with_reducible show RG _ _ (_ :: _) _ _ _); refine RG.go1 (k := ?_)) | ((with_reducible show DG _ _ (_ :: _) _ _ _ _ _); refine DG.go1 (k := ?_)) | (with_reducible first | apply RG.nil | apply W.seq | apply W.reg | apply W.skip | apply W.block | apply W.drw | apply DG.nil | refine W.done (QB.n ?_))))
        (first | ((with_reducible show RG _ _ (_ :: _) _ _ _); refine RG.sm (A.ldr (hat)) (k := ?_)) | ((with_reducible show DG _ _ (_ :: _) _ _ _ _ _); refine DG.sm (A.ldr (hat)) (k := ?_)))
        (repeat (first | ((with_reducible show RG _ _ (_ :: _) _ _ _); refine RG.go1 (k := ?_)) | ((with_reducible show DG _ _ (_ :: _) _ _ _ _ _); refine DG.go1 (k := ?_)) | (with_reducible first | apply RG.nil | apply W.seq | apply W.reg | apply W.skip | apply W.block | apply W.drw | apply DG.nil | refine W.done (QB.n ?_))))
        (first | ((with_reducible show RG _ _ (_ :: _) _ _ _); refine RG.cav (hc) (k := ?_)) | ((with_reducible show DG _ _ (_ :: _) _ _ _ _ _); refine DG.cav (hc) (k := ?_)))
        (repeat (first | ((with_reducible show RG _ _ (_ :: _) _ _ _); refine RG.go1 (k := ?_)) | ((with_reducible show DG _ _ (_ :: _) _ _ _ _ _); refine DG.go1 (k := ?_)) | (with_reducible first | apply RG.nil | apply W.seq | apply W.reg | apply W.skip | apply W.block | apply W.drw | apply DG.nil | refine W.done (QB.n ?_))))
        refine W.cndT ?_
        (repeat (first | ((with_reducible show RG _ _ (_ :: _) _ _ _); refine RG.go1 (k := ?_)) | ((with_reducible show DG _ _ (_ :: _) _ _ _ _ _); refine DG.go1 (k := ?_)) | (with_reducible first | apply RG.nil | apply W.seq | apply W.reg | apply W.skip | apply W.block | apply W.drw | apply DG.nil | refine W.done (QB.n ?_))))
        (first | ((with_reducible show RG _ _ (_ :: _) _ _ _); refine RG.ew (ix_of ((show 0 + ((kp.length : Int)).toNat = kp.length by simp))) (k := ?_)) | ((with_reducible show DG _ _ (_ :: _) _ _ _ _ _); refine DG.ew (ix_of ((show 0 + ((kp.length : Int)).toNat = kp.length by simp))) (k := ?_)))
        (repeat (first | ((with_reducible show RG _ _ (_ :: _) _ _ _); refine RG.go1 (k := ?_)) | ((with_reducible show DG _ _ (_ :: _) _ _ _ _ _); refine DG.go1 (k := ?_)) | (with_reducible first | apply RG.nil | apply W.seq | apply W.reg | apply W.skip | apply W.block | apply W.drw | apply DG.nil | refine W.done (QB.n ?_))))
        (first | ((with_reducible show RG _ _ (_ :: _) _ _ _); refine RG.sn (A.str (hset)) (k := ?_)) | ((with_reducible show DG _ _ (_ :: _) _ _ _ _ _); refine DG.sn (A.str (hset)) (k := ?_)))
        (repeat (first | ((with_reducible show RG _ _ (_ :: _) _ _ _); refine RG.go1 (k := ?_)) | ((with_reducible show DG _ _ (_ :: _) _ _ _ _ _); refine DG.go1 (k := ?_)) | (with_reducible first | apply RG.nil | apply W.seq | apply W.reg | apply W.skip | apply W.block | apply W.drw | apply DG.nil | refine W.done (QB.n ?_))))
        refine W.done (QL.n (⟨j + 1, by omega, by omega⟩) ?_ ?_)
        · dsimp only
          rw [hks]
          have e3 : (kp ++ [y]).length = kp.length + 1 := by simp
          rw [e3]
          exact Wk.rn ([] ) ( [0])
        · dsimp only; omega
      · rw [hpj] at hc hks
        simp only [Bool.not_true, Bool.false_eq_true, if_false, List.append_nil] at hks
        (repeat (first | ((with_reducible show RG _ _ (_ :: _) _ _ _); refine RG.go1 (k := ?_)) | ((with_reducible show DG _ _ (_ :: _) _ _ _ _ _); refine DG.go1 (k := ?_)) | (with_reducible first | apply RG.nil | apply W.seq | apply W.reg | apply W.skip | apply W.block | apply W.drw | apply DG.nil | refine W.done (QB.n ?_))))
        (first | ((with_reducible show RG _ _ (_ :: _) _ _ _); refine RG.ew (ix_of ((show 0 + ((j : Int)).toNat = j by simp))) (k := ?_)) | ((with_reducible show DG _ _ (_ :: _) _ _ _ _ _); refine DG.ew (ix_of ((show 0 + ((j : Int)).toNat = j by simp))) (k := ?_)))
        (repeat (first | ((with_reducible show RG _ _ (_ :: _) _ _ _); refine RG.go1 (k := ?_)) | ((with_reducible show DG _ _ (_ :: _) _ _ _ _ _); refine DG.go1 (k := ?_)) | (with_reducible first | apply RG.nil | apply W.seq | apply W.reg | apply W.skip | apply W.block | apply W.drw | apply DG.nil | refine W.done (QB.n ?_))))
        (first | ((with_reducible show RG _ _ (_ :: _) _ _ _); refine RG.sm (A.ldr (hat)) (k := ?_)) | ((with_reducible show DG _ _ (_ :: _) _ _ _ _ _); refine DG.sm (A.ldr (hat)) (k := ?_)))
        (repeat (first | ((with_reducible show RG _ _ (_ :: _) _ _ _); refine RG.go1 (k := ?_)) | ((with_reducible show DG _ _ (_ :: _) _ _ _ _ _); refine DG.go1 (k := ?_)) | (with_reducible first | apply RG.nil | apply W.seq | apply W.reg | apply W.skip | apply W.block | apply W.drw | apply DG.nil | refine W.done (QB.n ?_))))
        (first | ((with_reducible show RG _ _ (_ :: _) _ _ _); refine RG.cav (hc) (k := ?_)) | ((with_reducible show DG _ _ (_ :: _) _ _ _ _ _); refine DG.cav (hc) (k := ?_)))
        (repeat (first | ((with_reducible show RG _ _ (_ :: _) _ _ _); refine RG.go1 (k := ?_)) | ((with_reducible show DG _ _ (_ :: _) _ _ _ _ _); refine DG.go1 (k := ?_)) | (with_reducible first | apply RG.nil | apply W.seq | apply W.reg | apply W.skip | apply W.block | apply W.drw | apply DG.nil | refine W.done (QB.n ?_))))
        refine W.cndF ?_
        (repeat (first | ((with_reducible show RG _ _ (_ :: _) _ _ _); refine RG.go1 (k := ?_)) | ((with_reducible show DG _ _ (_ :: _) _ _ _ _ _); refine DG.go1 (k := ?_)) | (with_reducible first | apply RG.nil | apply W.seq | apply W.reg | apply W.skip | apply W.block | apply W.drw | apply DG.nil | refine W.done (QB.n ?_))))
        refine W.done (QL.n (⟨j + 1, by omega, by omega⟩) ?_ ?_)
        · dsimp only
          rw [hks]
          exact Wk.rn ([] ) ( [0])
        · dsimp only; omega
    · have hjn : j = l.length := by simp at h1; omega
      have hend := hend hjn
      rw [← hend]
      have hcl : ((kp ++ l.drop kp.length).map lrn).take kp.length ++ (List.replicate (l.length - kp.length) (lrn ⟨0, 0, 0, 0, 0, 0, 0⟩) ++ ((kp ++ l.drop kp.length).map lrn).drop (kp.length + (l.length - kp.length))) = kp.map lrn ++ List.replicate (l.length - kp.length) (lrn ⟨0, 0, 0, 0, 0, 0, 0⟩) := by
        rw [List.map_append, List.take_left' (by simp), List.drop_of_length_le (by simp <;> omega), List.append_nil]
      have htr : (kp.map lrn ++ List.replicate (l.length - kp.length) (lrn ⟨0, 0, 0, 0, 0, 0, 0⟩)).take kp.length = kp.map lrn := List.take_left' (by simp)
      have hll : (kp.map lrn ++ List.replicate (l.length - kp.length) (lrn ⟨0, 0, 0, 0, 0, 0, 0⟩)).length = l.length := by simp; omega
      clear hat hset hks hkl hk0 hp0 hf ci hany hend
      unfold lrn at hcl htr hll
      (refine W.exit ?_; (repeat (first | (with_reducible first | refine QL.x ?_ | refine QC.x ?_ | refine QB.x ?_) | (with_reducible refine QB.o (by decide) ?_))))
      (repeat (first | ((with_reducible show RG _ _ (_ :: _) _ _ _); refine RG.go1 (k := ?_)) | ((with_reducible show DG _ _ (_ :: _) _ _ _ _ _); refine DG.go1 (k := ?_)) | (with_reducible first | apply RG.nil | apply W.seq | apply W.reg | apply W.skip | apply W.block | apply W.drw | apply DG.nil | refine W.done (QB.n ?_))))
      (first | ((with_reducible show RG _ _ (_ :: _) _ _ _); refine RG.ew ((show AV.ref 0 7 (0 + (kp.length : Int).toNat) ((l.length : Int) - (kp.length : Int)).toNat = AV.ref 0 7 kp.length (l.length - kp.length) by congr 1 <;> omega)) (k := ?_)) | ((with_reducible show DG _ _ (_ :: _) _ _ _ _ _); refine DG.ew ((show AV.ref 0 7 (0 + (kp.length : Int).toNat) ((l.length : Int) - (kp.length : Int)).toNat = AV.ref 0 7 kp.length (l.length - kp.length) by congr 1 <;> omega)) (k := ?_)))
      (repeat (first | ((with_reducible show RG _ _ (_ :: _) _ _ _); refine RG.go1 (k := ?_)) | ((with_reducible show DG _ _ (_ :: _) _ _ _ _ _); refine DG.go1 (k := ?_)) | (with_reducible first | apply RG.nil | apply W.seq | apply W.reg | apply W.skip | apply W.block | apply W.drw | apply DG.nil | refine W.done (QB.n ?_))))
      (first | ((with_reducible show RG _ _ (_ :: _) _ _ _); refine RG.sn (A.clr (hcl)) (k := ?_)) | ((with_reducible show DG _ _ (_ :: _) _ _ _ _ _); refine DG.sn (A.clr (hcl)) (k := ?_)))
      (repeat (first | ((with_reducible show RG _ _ (_ :: _) _ _ _); refine RG.go1 (k := ?_)) | ((with_reducible show DG _ _ (_ :: _) _ _ _ _ _); refine DG.go1 (k := ?_)) | (with_reducible first | apply RG.nil | apply W.seq | apply W.reg | apply W.skip | apply W.block | apply W.drw | apply DG.nil | refine W.done (QB.n ?_))))
      (first | ((with_reducible show RG _ _ (_ :: _) _ _ _); refine RG.ew ((show AV.ref 0 7 (0 + (0 : Int).toNat) ((kp.length : Int) - 0).toNat = AV.ref 0 7 0 kp.length by first | (simp; (first | (all_goals fail) | fail)) | (congr 1 <;> omega))) (k := ?_)) | ((with_reducible show DG _ _ (_ :: _) _ _ _ _ _); refine DG.ew ((show AV.ref 0 7 (0 + (0 : Int).toNat) ((kp.length : Int) - 0).toNat = AV.ref 0 7 0 kp.length by first | (simp; (first | (all_goals fail) | fail)) | (congr 1 <;> omega))) (k := ?_)))
      (repeat (first | ((with_reducible show RG _ _ (_ :: _) _ _ _); refine RG.go1 (k := ?_)) | ((with_reducible show DG _ _ (_ :: _) _ _ _ _ _); refine DG.go1 (k := ?_)) | (with_reducible first | apply RG.nil | apply W.seq | apply W.reg | apply W.skip | apply W.block | apply W.drw | apply DG.nil | refine W.done (QB.n ?_))))
      (refine W.ret ?_; (repeat (with_reducible first | refine QB.r ?_ | refine QL.r ?_ | refine QC.r ?_)); refine QM.r ?_)
      refine RetM.wk (Wk.trim (b := 0) kp.length rfl (Nat.succ_pos _)) ?_
      dsimp only [setO]
      rw [htr]
      exact RetM.rs (vs := [_]) (tm' := [(4, .ref 0 7 0 kp.length), (1100000, .ratt 0 (pl 0))]) r_slices_DeleteFunc__caravel_api_Learnt_caravel_api_Learnt ([]) ([0]) 0 1
end Go.Proofs.Ytfpgpeomcefkhaa

namespace Go.Proofs.Ytfpgpeomcefkhaa
open Go.RowKit
set_option linter.unusedVariables false
set_option linter.unusedSimpArgs false
set_option maxRecDepth 100000
set_option maxHeartbeats 4000000
structure Mac where
  a0 : Int
  a1 : Int
  a2 : Int
  a3 : Int
  a4 : Int
  a5 : Int
def Mac.is (m : Mac) (x : Lrn) : Bool := decide (x.a0 = m.a0) && (decide (x.a1 = m.a1) && (decide (x.a2 = m.a2) && (decide (x.a3 = m.a3) && (decide (x.a4 = m.a4) && (decide (x.a5 = m.a5) && true)))))
def Mac.l (m : Mac) : List AV := [.int .u8 m.a0, .int .u8 m.a1, .int .u8 m.a2, .int .u8 m.a3, .int .u8 m.a4, .int .u8 m.a5]
theorem learn1_ok (x : Lrn) (m : Mac) : ACall Try.prog 24 [.agg [.int .u8 x.a0, .int .u8 x.a1, .int .u8 x.a2, .int .u8 x.a3, .int .u8 x.a4, .int .u8 x.a5, .int .i64 x.p], .cptr true [.int .u8 m.a0, .int .u8 m.a1, .int .u8 m.a2, .int .u8 m.a3, .int .u8 m.a4, .int .u8 m.a5]] (.bool (m.is x)) [] := by
  unfold Mac.is
  refine acall_walk (N := 8) Try.func24 (by kernel_rfl) p_bridge_learn_1 rfl ?_; unfold c_bridge_learn_1; dsimp only [enum, Nat.reduceAdd]
  (repeat (first | ((with_reducible show RG _ _ (_ :: _) _ _ _); refine RG.go1 (k := ?_)) | ((with_reducible show DG _ _ (_ :: _) _ _ _ _ _); refine DG.go1 (k := ?_)) | (with_reducible first | apply RG.nil | apply W.seq | apply W.reg | apply W.skip | apply W.block | apply W.drw | apply DG.nil | refine W.done (QB.n ?_))))
  (refine W.ret ?_; (repeat (with_reducible first | refine QB.r ?_ | refine QL.r ?_ | refine QC.r ?_)); refine QF.r ?_)
  exact RetOk.rs (vs := [_]) r_bridge_learn_1 []
def bfind (l : List Lrn) (m : Mac) : Int × Bool := match l.find? m.is with
  | some x => (x.p, true)
  | none => (0, false)
theorem bFind_ok (np : Int) (l : List Lrn) (hl : l.length ≤ 500000) (m : Mac) : ACall Try.prog 13 [.agg [.int .i64 np, .sl true 7 (l.map lrn)], .agg m.l] (.tup [.int .i64 (bfind l m).1, .bool (bfind l m).2]) [] := by
  have el := lr_len l
  unfold Mac.l
  refine acall_walk (N := 22) Try.func13 (by kernel_rfl) p_bridge_Find rfl ?_; unfold c_bridge_Find; dsimp only [enum, Nat.reduceAdd]
  (repeat (first | ((with_reducible show RG _ _ (_ :: _) _ _ _); refine RG.go1 (k := ?_)) | ((with_reducible show DG _ _ (_ :: _) _ _ _ _ _); refine DG.go1 (k := ?_)) | (with_reducible first | apply RG.nil | apply W.seq | apply W.reg | apply W.skip | apply W.block | apply W.drw | apply DG.nil | refine W.done (QB.n ?_))))
  refine W.loop (ι := {i : Nat // i ≤ l.length ∧ ∀ j : Nat, (h : j < l.length) → j < i → m.is l[j] = false}) (fun i => ⟨[(11, .int .i64 i.1), (10, .int .i64 l.length), (9, .sl true 7 (l.map lrn)), (3, .aptr 0 6)], [], [some ⟨false, 1, [.int .u8 m.a0, .int .u8 m.a1, .int .u8 m.a2, .int .u8 m.a3, .int .u8 m.a4, .int .u8 m.a5]⟩], 0, 1⟩) (fun i => l.length - i.1) ⟨0, Nat.zero_le _, fun j _ h => absurd h (Nat.not_lt_zero _)⟩ ?_ ?_
  · dsimp only
    rw [← el]
    exact Wk.rn ([] ) ( [0])
  rintro ⟨i, hi, hall⟩
  dsimp only
  (repeat (first | ((with_reducible show RG _ _ (_ :: _) _ _ _); refine RG.go1 (k := ?_)) | ((with_reducible show DG _ _ (_ :: _) _ _ _ _ _); refine DG.go1 (k := ?_)) | (with_reducible first | apply RG.nil | apply W.seq | apply W.reg | apply W.skip | apply W.block | apply W.drw | apply DG.nil | refine W.done (QB.n ?_))))
  refine W.cnd (fun h1 => ?_) (fun h1 => ?_)
  · have hlt : i < l.length := by simp at h1; omega
    have hE := lr_at l i hlt (j := ((i : Nat) : Int).toNat) (by simp)
    by_cases hid : m.is l[i] = true
    · have hw : bfind l m = (l[i].p, true) := by
        unfold bfind
        have : l.find? m.is = some l[i] := by
          rw [List.find?_eq_some_iff_getElem]
          exact ⟨hid, i, hlt, rfl, fun j hj => by simpa using hall j (by omega) hj⟩
        rw [this]
      rw [hw]
      generalize l[i] = x at *
      unfold Mac.is at hid
      (repeat (first | ((with_reducible show RG _ _ (_ :: _) _ _ _); refine RG.go1 (k := ?_)) | ((with_reducible show DG _ _ (_ :: _) _ _ _ _ _); refine DG.go1 (k := ?_)) | (with_reducible first | apply RG.nil | apply W.seq | apply W.reg | apply W.skip | apply W.block | apply W.drw | apply DG.nil | refine W.done (QB.n ?_))))
      (first | ((with_reducible show RG _ _ (_ :: _) _ _ _); refine RG.ew (cptr_of (hE) (by (conv => lhs; whnf) <;> exact rfl)) (k := ?_)) | ((with_reducible show DG _ _ (_ :: _) _ _ _ _ _); refine DG.ew (cptr_of (hE) (by (conv => lhs; whnf) <;> exact rfl)) (k := ?_)))
      (repeat (first | ((with_reducible show RG _ _ (_ :: _) _ _ _); refine RG.go1 (k := ?_)) | ((with_reducible show DG _ _ (_ :: _) _ _ _ _ _); refine DG.go1 (k := ?_)) | (with_reducible first | apply RG.nil | apply W.seq | apply W.reg | apply W.skip | apply W.block | apply W.drw | apply DG.nil | refine W.done (QB.n ?_))))
      rw [hid]
      refine W.cndT ?_
      (repeat (first | ((with_reducible show RG _ _ (_ :: _) _ _ _); refine RG.go1 (k := ?_)) | ((with_reducible show DG _ _ (_ :: _) _ _ _ _ _); refine DG.go1 (k := ?_)) | (with_reducible first | apply RG.nil | apply W.seq | apply W.reg | apply W.skip | apply W.block | apply W.drw | apply DG.nil | refine W.done (QB.n ?_))))
      (refine W.ret ?_; (repeat (with_reducible first | refine QB.r ?_ | refine QL.r ?_ | refine QC.r ?_)); refine QF.r ?_)
      exact RetOk.rs (vs := [_, _]) r_bridge_Find []
    · have hid : m.is l[i] = false := by simpa using hid
      have hall2 : ∀ j : Nat, (h : j < l.length) → j < i + 1 → m.is l[j] = false := fun j h hj => by
        rcases Nat.lt_or_ge j i with q | q
        · exact hall j h q
        · obtain rfl : j = i := by omega
          exact hid
      generalize l[i] = x at hE hid
      unfold Mac.is at hid
      (repeat (first | ((with_reducible show RG _ _ (_ :: _) _ _ _); refine RG.go1 (k := ?_)) | ((with_reducible show DG _ _ (_ :: _) _ _ _ _ _); refine DG.go1 (k := ?_)) | (with_reducible first | apply RG.nil | apply W.seq | apply W.reg | apply W.skip | apply W.block | apply W.drw | apply DG.nil | refine W.done (QB.n ?_))))
      (first | ((with_reducible show RG _ _ (_ :: _) _ _ _); refine RG.ew (cptr_of (hE) (by (conv => lhs; whnf) <;> exact rfl)) (k := ?_)) | ((with_reducible show DG _ _ (_ :: _) _ _ _ _ _); refine DG.ew (cptr_of (hE) (by (conv => lhs; whnf) <;> exact rfl)) (k := ?_)))
      (repeat (first | ((with_reducible show RG _ _ (_ :: _) _ _ _); refine RG.go1 (k := ?_)) | ((with_reducible show DG _ _ (_ :: _) _ _ _ _ _); refine DG.go1 (k := ?_)) | (with_reducible first | apply RG.nil | apply W.seq | apply W.reg | apply W.skip | apply W.block | apply W.drw | apply DG.nil | refine W.done (QB.n ?_))))
      rw [hid]
      refine W.cndF ?_
      (repeat (first | ((with_reducible show RG _ _ (_ :: _) _ _ _); refine RG.go1 (k := ?_)) | ((with_reducible show DG _ _ (_ :: _) _ _ _ _ _); refine DG.go1 (k := ?_)) | (with_reducible first | apply RG.nil | apply W.seq | apply W.reg | apply W.skip | apply W.block | apply W.drw | apply DG.nil | refine W.done (QB.n ?_))))
      refine W.done (QL.n (⟨i + 1, by omega, hall2⟩) ?_ ?_)
      · exact Wk.rn ([] ) ( [0])
      · dsimp only; omega
  have hw : bfind l m = (0, false) := by
    unfold bfind
    have : l.find? m.is = none := by
      rw [List.find?_eq_none]
      intro x hx
      obtain ⟨j, hj, rfl⟩ := List.getElem_of_mem hx
      have := hall j hj (by simp at h1; omega)
      simpa using this
    rw [this]
  rw [hw]
  (refine W.exit ?_; (repeat (first | (with_reducible first | refine QL.x ?_ | refine QC.x ?_ | refine QB.x ?_) | (with_reducible refine QB.o (by decide) ?_))))
  (repeat (first | ((with_reducible show RG _ _ (_ :: _) _ _ _); refine RG.go1 (k := ?_)) | ((with_reducible show DG _ _ (_ :: _) _ _ _ _ _); refine DG.go1 (k := ?_)) | (with_reducible first | apply RG.nil | apply W.seq | apply W.reg | apply W.skip | apply W.block | apply W.drw | apply DG.nil | refine W.done (QB.n ?_))))
  (refine W.ret ?_; (repeat (with_reducible first | refine QB.r ?_ | refine QL.r ?_ | refine QC.r ?_)); refine QF.r ?_)
  exact RetOk.rs (vs := [_, _]) r_bridge_Find []
end Go.Proofs.Ytfpgpeomcefkhaa

namespace Go.Proofs.Ytfpgpeomcefkhaa
open Go.RowKit
set_option linter.unusedVariables false
set_option linter.unusedSimpArgs false
set_option maxRecDepth 100000
set_option maxHeartbeats 4000000
theorem lrClip_ok (es : List AV) : ACall Try.prog 25 [.sl false 7 es] (.csl false 7 es) [] := by
  have hcut : (es.take (es.length : Int).toNat).drop (0 : Int).toNat = es := by simp
  refine acall_walk (N := 9) Try.func25 (by kernel_rfl) p_slices_Clip__caravel_api_Learnt_caravel_api_Learnt rfl ?_; unfold c_slices_Clip__caravel_api_Learnt_caravel_api_Learnt; dsimp only [enum, Nat.reduceAdd]
  (repeat (first | ((with_reducible show RG _ _ (_ :: _) _ _ _); refine RG.go1 (k := ?_)) | ((with_reducible show DG _ _ (_ :: _) _ _ _ _ _); refine DG.go1 (k := ?_)) | (with_reducible first | apply RG.nil | apply W.seq | apply W.reg | apply W.skip | apply W.block | apply W.drw | apply DG.nil | refine W.done (QB.n ?_))))
  (first | ((with_reducible show RG _ _ (_ :: _) _ _ _); refine RG.ew ((show AV.csl false 7 ((es.take (es.length : Int).toNat).drop (0 : Int).toNat) = AV.csl false 7 es by rw [hcut])) (k := ?_)) | ((with_reducible show DG _ _ (_ :: _) _ _ _ _ _); refine DG.ew ((show AV.csl false 7 ((es.take (es.length : Int).toNat).drop (0 : Int).toNat) = AV.csl false 7 es by rw [hcut])) (k := ?_)))
  (repeat (first | ((with_reducible show RG _ _ (_ :: _) _ _ _); refine RG.go1 (k := ?_)) | ((with_reducible show DG _ _ (_ :: _) _ _ _ _ _); refine DG.go1 (k := ?_)) | (with_reducible first | apply RG.nil | apply W.seq | apply W.reg | apply W.skip | apply W.block | apply W.drw | apply DG.nil | refine W.done (QB.n ?_))))
  (refine W.ret ?_; (repeat (with_reducible first | refine QB.r ?_ | refine QL.r ?_ | refine QC.r ?_)); refine QF.r ?_)
  exact RetOk.rs (vs := [_]) r_slices_Clip__caravel_api_Learnt_caravel_api_Learnt []
def bout (l : List Lrn) (m : Mac) : List Lrn := l.filter fun x => !m.is x
def btail (k : List Lrn) : List Lrn := if 16 ≤ k.length then k.drop 1 else k
def blearn (l : List Lrn) (m : Mac) (p : Int) : List Lrn := btail (bout l m) ++ [⟨m.a0, m.a1, m.a2, m.a3, m.a4, m.a5, p⟩]
theorem bLearn_ok (np : Int) (l : List Lrn) (hl : l.length ≤ 400000) (m : Mac) (p : Int) : ACall Try.prog 19 [.agg [.int .i64 np, .sl true 7 (l.map lrn)], .agg m.l, .int .i64 p] (.agg [.int .i64 np, .sl false 7 ((blearn l m p).map lrn)]) [] := by
  have cc := lrClone_ok l (by omega)
  have cd := lrDel_ok l (by omega) 24 m.a0 m.a1 m.a2 m.a3 m.a4 m.a5 m.is fun x _ => learn1_ok x m
  have ck := lrClip_ok
  have el := lr_len l
  have hol : (bout l m).length ≤ l.length := List.length_filter_le _ _
  rw [show (l.filter fun x => !m.is x) = bout l m from rfl] at cd
  unfold blearn
  generalize bout l m = k at *
  have elk := lr_len k
  have hsn : (btail k ++ [(⟨m.a0, m.a1, m.a2, m.a3, m.a4, m.a5, p⟩ : Lrn)]).map lrn = (btail k).map lrn ++ [.agg [.int .u8 m.a0, .int .u8 m.a1, .int .u8 m.a2, .int .u8 m.a3, .int .u8 m.a4, .int .u8 m.a5, .int .i64 p]] := by simp [lrn]
  rw [hsn]
  have hbt : (btail k).length ≤ k.length := by unfold btail; split <;> simp
  have ebt := lr_len (btail k)
  have epp := lr_pure (btail k)
  unfold Mac.l
  refine acall_walk (N := 27) Try.func19 (by kernel_rfl) p_bridge_learn rfl ?_; unfold c_bridge_learn; dsimp only [enum, Nat.reduceAdd]
  (repeat (first | ((with_reducible show RG _ _ (_ :: _) _ _ _); refine RG.go1 (k := ?_)) | ((with_reducible show DG _ _ (_ :: _) _ _ _ _ _); refine DG.go1 (k := ?_)) | (with_reducible first | apply RG.nil | apply W.seq | apply W.reg | apply W.skip | apply W.block | apply W.drw | apply DG.nil | refine W.done (QB.n ?_))))
  (first | ((with_reducible show RG _ _ (_ :: _) _ _ _); refine RG.ca (cc) (k := ?_)) | ((with_reducible show DG _ _ (_ :: _) _ _ _ _ _); refine DG.ca (cc) (k := ?_)))
  (repeat (first | ((with_reducible show RG _ _ (_ :: _) _ _ _); refine RG.go1 (k := ?_)) | ((with_reducible show DG _ _ (_ :: _) _ _ _ _ _); refine DG.go1 (k := ?_)) | (with_reducible first | apply RG.nil | apply W.seq | apply W.reg | apply W.skip | apply W.block | apply W.drw | apply DG.nil | refine W.done (QB.n ?_))))
  (refine RG.mca ([]) ([1]) (cd) (k := ?_))
  (repeat (first | ((with_reducible show RG _ _ (_ :: _) _ _ _); refine RG.go1 (k := ?_)) | ((with_reducible show DG _ _ (_ :: _) _ _ _ _ _); refine DG.go1 (k := ?_)) | (with_reducible first | apply RG.nil | apply W.seq | apply W.reg | apply W.skip | apply W.block | apply W.drw | apply DG.nil | refine W.done (QB.n ?_))))
  refine W.cnd (fun h => ?_) (fun h => ?_)
  · have hk16 : 16 ≤ k.length := by simp at h; omega
    have e1 : (k.map lrn).drop 1 = (btail k).map lrn := by unfold btail; rw [if_pos hk16, List.map_drop]
    (repeat (first | ((with_reducible show RG _ _ (_ :: _) _ _ _); refine RG.go1 (k := ?_)) | ((with_reducible show DG _ _ (_ :: _) _ _ _ _ _); refine DG.go1 (k := ?_)) | (with_reducible first | apply RG.nil | apply W.seq | apply W.reg | apply W.skip | apply W.block | apply W.drw | apply DG.nil | refine W.done (QB.n ?_))))
    (first | ((with_reducible show RG _ _ (_ :: _) _ _ _); refine RG.ew ((show AV.ref 1 7 (0 + (1 : Int).toNat) ((k.length : Int) - 1).toNat = AV.ref 1 7 1 (k.length - 1) by congr 1; omega)) (k := ?_)) | ((with_reducible show DG _ _ (_ :: _) _ _ _ _ _); refine DG.ew ((show AV.ref 1 7 (0 + (1 : Int).toNat) ((k.length : Int) - 1).toNat = AV.ref 1 7 1 (k.length - 1) by congr 1; omega)) (k := ?_)))
    (repeat (first | ((with_reducible show RG _ _ (_ :: _) _ _ _); refine RG.go1 (k := ?_)) | ((with_reducible show DG _ _ (_ :: _) _ _ _ _ _); refine DG.go1 (k := ?_)) | with_reducible apply RG.nil | with_reducible apply DG.nil))
    (refine W.wk (Wk.frz (b := 1) rfl rfl) ?_ (by simp); refine W.wk (Wk.tmp (t := 7) (Cl.ice rfl rfl rfl (by first | assumption | decide | omega | (simp; (first | (all_goals fail) | fail)) | (simp <;> omega)) (by first | exact take_all _ | exact take_len (by first | (simp; (first | (all_goals fail) | fail)) | (simp <;> omega)) | exact rfl))) ?_ (by simp); dsimp only [setO])
    rw [e1]
    (repeat (first | ((with_reducible show RG _ _ (_ :: _) _ _ _); refine RG.go1 (k := ?_)) | ((with_reducible show DG _ _ (_ :: _) _ _ _ _ _); refine DG.go1 (k := ?_)) | (with_reducible first | apply RG.nil | apply W.seq | apply W.reg | apply W.skip | apply W.block | apply W.drw | apply DG.nil | refine W.done (QB.n ?_))))
    (first | ((with_reducible show RG _ _ (_ :: _) _ _ _); refine RG.ca (ck ((btail k).map lrn)) (k := ?_)) | ((with_reducible show DG _ _ (_ :: _) _ _ _ _ _); refine DG.ca (ck ((btail k).map lrn)) (k := ?_)))
    (repeat (first | ((with_reducible show RG _ _ (_ :: _) _ _ _); refine RG.go1 (k := ?_)) | ((with_reducible show DG _ _ (_ :: _) _ _ _ _ _); refine DG.go1 (k := ?_)) | (with_reducible first | apply RG.nil | apply W.seq | apply W.reg | apply W.skip | apply W.block | apply W.drw | apply DG.nil | refine W.done (QB.n ?_))))
    (refine W.ret ?_; (repeat (with_reducible first | refine QB.r ?_ | refine QL.r ?_ | refine QC.r ?_)); refine QF.r ?_)
    (refine RetOk.wk (Wk.frz (b := 2) rfl rfl) ?_; refine RetOk.wk (Wk.box (b := 1) (cs' := [_, _]) rfl (by dsimp only [ClL]; (repeat' (first | exact True.intro | exact Cl.ice rfl rfl rfl (by first | assumption | decide | omega | (simp; (first | (all_goals fail) | fail)) | (simp <;> omega)) (by first | exact take_all _ | exact take_len (by first | (simp; (first | (all_goals fail) | fail)) | (simp <;> omega)) | exact rfl) | exact Cl.le (.refl _) | apply And.intro)); (first | (all_goals fail) | fail))) ?_; dsimp only [setO])
    exact RetOk.rs (vs := [_]) r_bridge_learn []
  · have hk16 : ¬ 16 ≤ k.length := by simp at h; omega
    have e1 : k.map lrn = (btail k).map lrn := by unfold btail; rw [if_neg hk16]
    (refine W.wk (Wk.frz (b := 1) rfl rfl) ?_ (by simp); refine W.wk (Wk.tmp (t := 7) (Cl.ice rfl rfl rfl (by first | assumption | decide | omega | (simp; (first | (all_goals fail) | fail)) | (simp <;> omega)) (by first | exact take_all _ | exact take_len (by first | (simp; (first | (all_goals fail) | fail)) | (simp <;> omega)) | exact rfl))) ?_ (by simp); dsimp only [setO])
    rw [e1]
    (repeat (first | ((with_reducible show RG _ _ (_ :: _) _ _ _); refine RG.go1 (k := ?_)) | ((with_reducible show DG _ _ (_ :: _) _ _ _ _ _); refine DG.go1 (k := ?_)) | (with_reducible first | apply RG.nil | apply W.seq | apply W.reg | apply W.skip | apply W.block | apply W.drw | apply DG.nil | refine W.done (QB.n ?_))))
    (first | ((with_reducible show RG _ _ (_ :: _) _ _ _); refine RG.ca (ck ((btail k).map lrn)) (k := ?_)) | ((with_reducible show DG _ _ (_ :: _) _ _ _ _ _); refine DG.ca (ck ((btail k).map lrn)) (k := ?_)))
    (repeat (first | ((with_reducible show RG _ _ (_ :: _) _ _ _); refine RG.go1 (k := ?_)) | ((with_reducible show DG _ _ (_ :: _) _ _ _ _ _); refine DG.go1 (k := ?_)) | (with_reducible first | apply RG.nil | apply W.seq | apply W.reg | apply W.skip | apply W.block | apply W.drw | apply DG.nil | refine W.done (QB.n ?_))))
    (refine W.ret ?_; (repeat (with_reducible first | refine QB.r ?_ | refine QL.r ?_ | refine QC.r ?_)); refine QF.r ?_)
    (refine RetOk.wk (Wk.frz (b := 2) rfl rfl) ?_; refine RetOk.wk (Wk.box (b := 1) (cs' := [_, _]) rfl (by dsimp only [ClL]; (repeat' (first | exact True.intro | exact Cl.ice rfl rfl rfl (by first | assumption | decide | omega | (simp; (first | (all_goals fail) | fail)) | (simp <;> omega)) (by first | exact take_all _ | exact take_len (by first | (simp; (first | (all_goals fail) | fail)) | (simp <;> omega)) | exact rfl) | exact Cl.le (.refl _) | apply And.intro)); (first | (all_goals fail) | fail))) ?_; dsimp only [setO])
    exact RetOk.rs (vs := [_]) r_bridge_learn []
end Go.Proofs.Ytfpgpeomcefkhaa

namespace Go.Proofs.Ytfpgpeomcefkhaa
open Go.RowKit
set_option linter.unusedVariables false
set_option linter.unusedSimpArgs false
set_option maxRecDepth 100000
set_option maxHeartbeats 4000000
theorem bNew_ok (n : Int) : ACall Try.prog 8 [.int .i64 n] (.tup [.agg [.int .i64 (if 1 ≤ n ∧ n ≤ 8 then n else 0), .nil], .int .i64 (if 1 ≤ n ∧ n ≤ 8 then 0 else 1)]) [] := by
  by_cases h : 1 ≤ n ∧ n ≤ 8
  · rw [if_pos h, if_pos h]
    obtain ⟨h1, h2⟩ := h
    refine acall_walk (N := 13) Try.func8 (by kernel_rfl) p_bridge_New rfl ?_; unfold c_bridge_New; dsimp only [enum, Nat.reduceAdd]
    (repeat (first | ((with_reducible show RG _ _ (_ :: _) _ _ _); refine RG.go1 (k := ?_)) | ((with_reducible show DG _ _ (_ :: _) _ _ _ _ _); refine DG.go1 (k := ?_)) | (with_reducible first | apply RG.nil | apply W.seq | apply W.reg | apply W.skip | apply W.block | apply W.drw | apply DG.nil | refine W.done (QB.n ?_))))
    refine W.cndF ?_
    (repeat (first | ((with_reducible show RG _ _ (_ :: _) _ _ _); refine RG.go1 (k := ?_)) | ((with_reducible show DG _ _ (_ :: _) _ _ _ _ _); refine DG.go1 (k := ?_)) | (with_reducible first | apply RG.nil | apply W.seq | apply W.reg | apply W.skip | apply W.block | apply W.drw | apply DG.nil | refine W.done (QB.n ?_))))
    (refine W.ret ?_; (repeat (with_reducible first | refine QB.r ?_ | refine QL.r ?_ | refine QC.r ?_)); refine QF.r ?_)
    exact RetOk.rs (vs := [_, _]) r_bridge_New []
  · rw [if_neg h, if_neg h]
    by_cases h1 : n < 1
    · refine acall_walk (N := 13) Try.func8 (by kernel_rfl) p_bridge_New rfl ?_; unfold c_bridge_New; dsimp only [enum, Nat.reduceAdd]
      (repeat (first | ((with_reducible show RG _ _ (_ :: _) _ _ _); refine RG.go1 (k := ?_)) | ((with_reducible show DG _ _ (_ :: _) _ _ _ _ _); refine DG.go1 (k := ?_)) | (with_reducible first | apply RG.nil | apply W.seq | apply W.reg | apply W.skip | apply W.block | apply W.drw | apply DG.nil | refine W.done (QB.n ?_))))
      refine W.cndT ?_
      (repeat (first | ((with_reducible show RG _ _ (_ :: _) _ _ _); refine RG.go1 (k := ?_)) | ((with_reducible show DG _ _ (_ :: _) _ _ _ _ _); refine DG.go1 (k := ?_)) | (with_reducible first | apply RG.nil | apply W.seq | apply W.reg | apply W.skip | apply W.block | apply W.drw | apply DG.nil | refine W.done (QB.n ?_))))
      (refine W.ret ?_; (repeat (with_reducible first | refine QB.r ?_ | refine QL.r ?_ | refine QC.r ?_)); refine QF.r ?_)
      exact RetOk.rs (vs := [_, _]) r_bridge_New []
    · have h2 : 8 < n := by omega
      clear h
      refine acall_walk (N := 13) Try.func8 (by kernel_rfl) p_bridge_New rfl ?_; unfold c_bridge_New; dsimp only [enum, Nat.reduceAdd]
      (repeat (first | ((with_reducible show RG _ _ (_ :: _) _ _ _); refine RG.go1 (k := ?_)) | ((with_reducible show DG _ _ (_ :: _) _ _ _ _ _); refine DG.go1 (k := ?_)) | (with_reducible first | apply RG.nil | apply W.seq | apply W.reg | apply W.skip | apply W.block | apply W.drw | apply DG.nil | refine W.done (QB.n ?_))))
      refine W.cndT ?_
      (repeat (first | ((with_reducible show RG _ _ (_ :: _) _ _ _); refine RG.go1 (k := ?_)) | ((with_reducible show DG _ _ (_ :: _) _ _ _ _ _); refine DG.go1 (k := ?_)) | (with_reducible first | apply RG.nil | apply W.seq | apply W.reg | apply W.skip | apply W.block | apply W.drw | apply DG.nil | refine W.done (QB.n ?_))))
      (refine W.ret ?_; (repeat (with_reducible first | refine QB.r ?_ | refine QL.r ?_ | refine QC.r ?_)); refine QF.r ?_)
      exact RetOk.rs (vs := [_, _]) r_bridge_New []
theorem all_ok : ACall Try.prog 16 [] (.agg [.int .u8 255, .int .u8 255, .int .u8 255, .int .u8 255, .int .u8 255, .int .u8 255]) [] := by
  refine acall_walk (N := 2) Try.func16 (by kernel_rfl) p_addr_All rfl ?_; unfold c_addr_All; dsimp only [enum, Nat.reduceAdd]
  (repeat (first | ((with_reducible show RG _ _ (_ :: _) _ _ _); refine RG.go1 (k := ?_)) | ((with_reducible show DG _ _ (_ :: _) _ _ _ _ _); refine DG.go1 (k := ?_)) | (with_reducible first | apply RG.nil | apply W.seq | apply W.reg | apply W.skip | apply W.block | apply W.drw | apply DG.nil | refine W.done (QB.n ?_))))
  (refine W.ret ?_; (repeat (with_reducible first | refine QB.r ?_ | refine QL.r ?_ | refine QC.r ?_)); refine QF.r ?_)
  exact RetOk.rs (vs := [_]) r_addr_All []
end Go.Proofs.Ytfpgpeomcefkhaa

namespace Go.Proofs.Ytfpgpeomcefkhaa
open Go.RowKit
set_option linter.unusedVariables false
set_option linter.unusedSimpArgs false
set_option maxRecDepth 100000
set_option maxHeartbeats 4000000
theorem bGroup_ok (m : Mac) (h : 0 ≤ m.a0 ∧ m.a0 ≤ 255) : ACall Try.prog 18 [.agg m.l] (.bool (decide (m.a0 % 2 = 1))) [] := by
  have e : ((BitVec.ofInt IntKind.u8.bits m.a0 &&& BitVec.ofInt IntKind.u8.bits 1).toNat : Int) % 256 = m.a0 % 2 := by
    obtain ⟨q, hq⟩ : ∃ q : Nat, m.a0 = q := ⟨m.a0.toNat, by omega⟩
    have h1 : (BitVec.ofInt IntKind.u8.bits (q : Int)).toNat = q % 256 := by
      rw [BitVec.ofInt_natCast, BitVec.toNat_ofNat]; rfl
    have h2 : (BitVec.ofInt IntKind.u8.bits 1).toNat = 1 := by decide
    rw [hq, BitVec.toNat_and, h1, h2, Nat.and_one_is_mod]
    omega
  unfold Mac.l
  refine acall_walk (N := 7) Try.func18 (by kernel_rfl) p_bridge_group rfl ?_; unfold c_bridge_group; dsimp only [enum, Nat.reduceAdd]
  (repeat (first | ((with_reducible show RG _ _ (_ :: _) _ _ _); refine RG.go1 (k := ?_)) | ((with_reducible show DG _ _ (_ :: _) _ _ _ _ _); refine DG.go1 (k := ?_)) | (with_reducible first | apply RG.nil | apply W.seq | apply W.reg | apply W.skip | apply W.block | apply W.drw | apply DG.nil | refine W.done (QB.n ?_))))
  (first | ((with_reducible show RG _ _ (_ :: _) _ _ _); refine RG.sm (A.ldr ((show [AV.int .u8 m.a0, .int .u8 m.a1, .int .u8 m.a2, .int .u8 m.a3, .int .u8 m.a4, .int .u8 m.a5][0]?.getD .any = .int .u8 m.a0 from rfl))) (k := ?_)) | ((with_reducible show DG _ _ (_ :: _) _ _ _ _ _); refine DG.sm (A.ldr ((show [AV.int .u8 m.a0, .int .u8 m.a1, .int .u8 m.a2, .int .u8 m.a3, .int .u8 m.a4, .int .u8 m.a5][0]?.getD .any = .int .u8 m.a0 from rfl))) (k := ?_)))
  (repeat (first | ((with_reducible show RG _ _ (_ :: _) _ _ _); refine RG.go1 (k := ?_)) | ((with_reducible show DG _ _ (_ :: _) _ _ _ _ _); refine DG.go1 (k := ?_)) | (with_reducible first | apply RG.nil | apply W.seq | apply W.reg | apply W.skip | apply W.block | apply W.drw | apply DG.nil | refine W.done (QB.n ?_))))
  (refine W.ret ?_; (repeat (with_reducible first | refine QB.r ?_ | refine QL.r ?_ | refine QC.r ?_)); refine QF.r ?_)
  rw [e]
  exact RetOk.rs (vs := [_]) r_bridge_group []
end Go.Proofs.Ytfpgpeomcefkhaa

namespace Go.Proofs.Ytfpgpeomcefkhaa
open Go.RowKit
set_option linter.unusedVariables false
set_option linter.unusedSimpArgs false
set_option maxRecDepth 100000
set_option maxHeartbeats 4000000
theorem frame_ok (d s : Mac) : ACall Try.prog 15 [.agg d.l, .agg s.l] (.sl false 1 (d.l ++ (s.l ++ [.int .u8 8, .int .u8 0]))) [] := by
  unfold Mac.l
  refine acall_walk (N := 12) Try.func15 (by kernel_rfl) p_caravellaw12_frame rfl ?_; unfold c_caravellaw12_frame; dsimp only [enum, Nat.reduceAdd]
  (repeat (first | ((with_reducible show RG _ _ (_ :: _) _ _ _); refine RG.go1 (k := ?_)) | ((with_reducible show DG _ _ (_ :: _) _ _ _ _ _); refine DG.go1 (k := ?_)) | (with_reducible first | apply RG.nil | apply W.seq | apply W.reg | apply W.skip | apply W.block | apply W.drw | apply DG.nil | refine W.done (QB.n ?_)) | refine W.cndT ?_ | refine W.cndF ?_))
  (refine W.ret ?_; (repeat (with_reducible first | refine QB.r ?_ | refine QL.r ?_ | refine QC.r ?_)); refine QF.r ?_)
  (refine RetOk.wk (Wk.frz (b := 6) rfl rfl) ?_; refine RetOk.wk (Wk.tmp (t := 4) (Cl.ice rfl rfl rfl (by first | assumption | decide | omega | (simp; (first | (all_goals fail) | fail)) | (simp <;> omega)) (by first | exact take_all _ | exact take_len (by first | (simp; (first | (all_goals fail) | fail)) | (simp <;> omega)) | exact rfl))) ?_; dsimp only [setO])
  exact RetOk.rs (vs := [_]) r_caravellaw12_frame []
structure Fr where
  port : Int
  dst : UInt8
  src : UInt8
  raw : List UInt8
def fr (f : Fr) : AV := .agg [.int .i64 f.port, .int .u8 f.dst.toNat, .int .u8 f.src.toNat, .sl true 1 (f.raw.map by8)]
def mac6 : List UInt8 → Mac
  | [a, b, c, d, e, f] => ⟨a.toNat, b.toNat, c.toNat, d.toNat, e.toNat, f.toNat⟩
  | _ => ⟨0, 0, 0, 0, 0, 0⟩
end Go.Proofs.Ytfpgpeomcefkhaa

namespace Go.Proofs.Ytfpgpeomcefkhaa
open Go.RowKit
set_option linter.unusedVariables false
set_option linter.unusedSimpArgs false
set_option maxRecDepth 100000
set_option maxHeartbeats 4000000
def iv (z : Int) : AV := .int .i64 z
theorem iv_len (l : List Int) : (l.map iv).length = l.length := by simp
def allMac : Mac := ⟨255, 255, 255, 255, 255, 255⟩
def Mac.ne (a b : Mac) : Bool := !(decide (a.a0 = b.a0) && (decide (a.a1 = b.a1) && (decide (a.a2 = b.a2) && (decide (a.a3 = b.a3) && (decide (a.a4 = b.a4) && (decide (a.a5 = b.a5) && true))))))
def outP (p : Int) (i : Nat) : List Int := ((List.range i).map fun (n : Nat) => (n : Int)).filter fun z => decide (z ≠ p)
theorem outP_len (p : Int) (i : Nat) : (outP p i).length ≤ i := by
  unfold outP; refine Nat.le_trans (List.length_filter_le _ _) ?_; simp
theorem outP_ne {p : Int} {i : Nat} (h : (i : Int) ≠ p) : outP p (i + 1) = outP p i ++ [(i : Int)] := by
  unfold outP; rw [List.range_succ]; simp [h]
theorem outP_eq {p : Int} {i : Nat} (h : (i : Int) = p) : outP p (i + 1) = outP p i := by
  unfold outP; rw [List.range_succ]; simp [h]
structure FwR where
  l : List Lrn
  out : List Int
  e : Int
def fseen (l : List Lrn) (p : Int) (s : List UInt8) : List Lrn := if (mac6 ((s.drop 6).take 6)).a0 % 2 = 1 then l else blearn l (mac6 ((s.drop 6).take 6)) p
def fout (l : List Lrn) (np : Nat) (p : Int) (d : Mac) : List Int :=
  if ((bfind l d).2 && d.ne allMac) = true then (if (bfind l d).1 = p then [] else [(bfind l d).1]) else outP p np
def bfwd (np : Nat) (l : List Lrn) (p : Int) (s : List UInt8) : FwR :=
  if p < 0 ∨ (np : Int) ≤ p then ⟨l, [], 1⟩ else if s.length < 14 then ⟨l, [], 6⟩
  else ⟨fseen l p s, fout (fseen l p s) np p (mac6 (s.take 6)), 0⟩
theorem s14 {s : List UInt8} (h : ¬ s.length < 14) : ∃ a0 a1 a2 a3 a4 a5 a6 a7 a8 a9 b0 b1 b2 b3 t, s = a0 :: a1 :: a2 :: a3 :: a4 :: a5 :: a6 :: a7 :: a8 :: a9 :: b0 :: b1 :: b2 :: b3 :: t := by
  match s, h with
  | a0 :: a1 :: a2 :: a3 :: a4 :: a5 :: a6 :: a7 :: a8 :: a9 :: b0 :: b1 :: b2 :: b3 :: t, _ => exact ⟨a0, a1, a2, a3, a4, a5, a6, a7, a8, a9, b0, b1, b2, b3, t, rfl⟩
  | [], h | [_], h | [_, _], h | [_, _, _], h | [_, _, _, _], h | [_, _, _, _, _], h | [_, _, _, _, _, _], h | [_, _, _, _, _, _, _], h | [_, _, _, _, _, _, _, _], h | [_, _, _, _, _, _, _, _, _], h | [_, _, _, _, _, _, _, _, _, _], h | [_, _, _, _, _, _, _, _, _, _, _], h | [_, _, _, _, _, _, _, _, _, _, _, _], h | [_, _, _, _, _, _, _, _, _, _, _, _, _], h => exact absurd (by simp) h
theorem bForward_ok (np : Nat) (hnp : np ≤ 8) (l : List Lrn) (hl : l.length ≤ 1000) (p : Int) (s : List UInt8) (hs : s.length ≤ 1000000) :
    ACall Try.prog 9 [.agg [.int .i64 np, .sl true 7 (l.map lrn)], .int .i64 p, .sl true 1 (s.map by8)]
      (.tup [.agg [.int .i64 np, .sl false 7 ((bfwd np l p s).l.map lrn)], .sl false 1 ((bfwd np l p s).out.map iv), .int .i64 (bfwd np l p s).e]) [] := by
  have cc := lrClone_ok l (by omega)
  have el := lr_len l
  have esl : (s.map by8).length = s.length := by simp
  unfold bfwd
  by_cases h1 : p < 0 ∨ (np : Int) ≤ p
  · rw [if_pos h1]
    rcases Int.lt_or_le p 0 with h | h
    · refine acall_walk (N := 85) Try.func9 (by kernel_rfl) p_bridge_Forward rfl ?_; unfold c_bridge_Forward; dsimp only [enum, Nat.reduceAdd]
      (repeat (first | ((with_reducible show RG _ _ (_ :: _) _ _ _); refine RG.go1 (k := ?_)) | ((with_reducible show DG _ _ (_ :: _) _ _ _ _ _); refine DG.go1 (k := ?_)) | (with_reducible first | apply RG.nil | apply W.seq | apply W.reg | apply W.skip | apply W.block | apply W.drw | apply DG.nil | refine W.done (QB.n ?_)) | refine W.cndT ?_ | refine W.cndF ?_))
      (first | ((with_reducible show RG _ _ (_ :: _) _ _ _); refine RG.ca (cc) (k := ?_)) | ((with_reducible show DG _ _ (_ :: _) _ _ _ _ _); refine DG.ca (cc) (k := ?_)))
      (repeat (first | ((with_reducible show RG _ _ (_ :: _) _ _ _); refine RG.go1 (k := ?_)) | ((with_reducible show DG _ _ (_ :: _) _ _ _ _ _); refine DG.go1 (k := ?_)) | (with_reducible first | apply RG.nil | apply W.seq | apply W.reg | apply W.skip | apply W.block | apply W.drw | apply DG.nil | refine W.done (QB.n ?_)) | refine W.cndT ?_ | refine W.cndF ?_))
      (refine W.ret ?_; (repeat (with_reducible first | refine QB.r ?_ | refine QL.r ?_ | refine QC.r ?_)); refine QF.r ?_)
      (refine RetOk.wk (Wk.frz (b := 0) rfl rfl) ?_; refine RetOk.wk (Wk.box (b := 1) (cs' := [_, _]) rfl (by dsimp only [ClL]; (repeat' (first | exact True.intro | exact Cl.ice rfl rfl rfl (by first | assumption | decide | omega | (simp; (first | (all_goals fail) | fail)) | (simp <;> omega)) (by first | exact take_all _ | exact take_len (by first | (simp; (first | (all_goals fail) | fail)) | (simp <;> omega)) | exact rfl) | exact Cl.le (.refl _) | apply And.intro)); (first | (all_goals fail) | fail))) ?_; dsimp only [setO])
      exact RetOk.rs (vs := [_, _, _]) r_bridge_Forward []
    · have h2 : (np : Int) ≤ p := by omega
      clear h1
      refine acall_walk (N := 85) Try.func9 (by kernel_rfl) p_bridge_Forward rfl ?_; unfold c_bridge_Forward; dsimp only [enum, Nat.reduceAdd]
      (repeat (first | ((with_reducible show RG _ _ (_ :: _) _ _ _); refine RG.go1 (k := ?_)) | ((with_reducible show DG _ _ (_ :: _) _ _ _ _ _); refine DG.go1 (k := ?_)) | (with_reducible first | apply RG.nil | apply W.seq | apply W.reg | apply W.skip | apply W.block | apply W.drw | apply DG.nil | refine W.done (QB.n ?_)) | refine W.cndT ?_ | refine W.cndF ?_))
      (first | ((with_reducible show RG _ _ (_ :: _) _ _ _); refine RG.ca (cc) (k := ?_)) | ((with_reducible show DG _ _ (_ :: _) _ _ _ _ _); refine DG.ca (cc) (k := ?_)))
      (repeat (first | ((with_reducible show RG _ _ (_ :: _) _ _ _); refine RG.go1 (k := ?_)) | ((with_reducible show DG _ _ (_ :: _) _ _ _ _ _); refine DG.go1 (k := ?_)) | (with_reducible first | apply RG.nil | apply W.seq | apply W.reg | apply W.skip | apply W.block | apply W.drw | apply DG.nil | refine W.done (QB.n ?_)) | refine W.cndT ?_ | refine W.cndF ?_))
      (refine W.ret ?_; (repeat (with_reducible first | refine QB.r ?_ | refine QL.r ?_ | refine QC.r ?_)); refine QF.r ?_)
      (refine RetOk.wk (Wk.frz (b := 0) rfl rfl) ?_; refine RetOk.wk (Wk.box (b := 1) (cs' := [_, _]) rfl (by dsimp only [ClL]; (repeat' (first | exact True.intro | exact Cl.ice rfl rfl rfl (by first | assumption | decide | omega | (simp; (first | (all_goals fail) | fail)) | (simp <;> omega)) (by first | exact take_all _ | exact take_len (by first | (simp; (first | (all_goals fail) | fail)) | (simp <;> omega)) | exact rfl) | exact Cl.le (.refl _) | apply And.intro)); (first | (all_goals fail) | fail))) ?_; dsimp only [setO])
      exact RetOk.rs (vs := [_, _, _]) r_bridge_Forward []
  rw [if_neg h1]
  have h1 : 0 ≤ p ∧ p < np := by omega
  by_cases h2 : s.length < 14
  · rw [if_pos h2]
    refine acall_walk (N := 85) Try.func9 (by kernel_rfl) p_bridge_Forward rfl ?_; unfold c_bridge_Forward; dsimp only [enum, Nat.reduceAdd]
    (repeat (first | ((with_reducible show RG _ _ (_ :: _) _ _ _); refine RG.go1 (k := ?_)) | ((with_reducible show DG _ _ (_ :: _) _ _ _ _ _); refine DG.go1 (k := ?_)) | (with_reducible first | apply RG.nil | apply W.seq | apply W.reg | apply W.skip | apply W.block | apply W.drw | apply DG.nil | refine W.done (QB.n ?_)) | refine W.cndT ?_ | refine W.cndF ?_))
    (first | ((with_reducible show RG _ _ (_ :: _) _ _ _); refine RG.ca (cc) (k := ?_)) | ((with_reducible show DG _ _ (_ :: _) _ _ _ _ _); refine DG.ca (cc) (k := ?_)))
    (repeat (first | ((with_reducible show RG _ _ (_ :: _) _ _ _); refine RG.go1 (k := ?_)) | ((with_reducible show DG _ _ (_ :: _) _ _ _ _ _); refine DG.go1 (k := ?_)) | (with_reducible first | apply RG.nil | apply W.seq | apply W.reg | apply W.skip | apply W.block | apply W.drw | apply DG.nil | refine W.done (QB.n ?_)) | refine W.cndT ?_ | refine W.cndF ?_))
    (refine W.ret ?_; (repeat (with_reducible first | refine QB.r ?_ | refine QL.r ?_ | refine QC.r ?_)); refine QF.r ?_)
    (refine RetOk.wk (Wk.frz (b := 0) rfl rfl) ?_; refine RetOk.wk (Wk.box (b := 1) (cs' := [_, _]) rfl (by dsimp only [ClL]; (repeat' (first | exact True.intro | exact Cl.ice rfl rfl rfl (by first | assumption | decide | omega | (simp; (first | (all_goals fail) | fail)) | (simp <;> omega)) (by first | exact take_all _ | exact take_len (by first | (simp; (first | (all_goals fail) | fail)) | (simp <;> omega)) | exact rfl) | exact Cl.le (.refl _) | apply And.intro)); (first | (all_goals fail) | fail))) ?_; dsimp only [setO])
    exact RetOk.rs (vs := [_, _, _]) r_bridge_Forward []
  rw [if_neg h2]
  obtain ⟨a0, a1, a2, a3, a4, a5, a6, a7, a8, a9, b0, b1, b2, b3, t, rfl⟩ := s14 h2
  have ef : fseen l p (a0 :: a1 :: a2 :: a3 :: a4 :: a5 :: a6 :: a7 :: a8 :: a9 :: b0 :: b1 :: b2 :: b3 :: t) = if (a6.toNat : Int) % 2 = 1 then l else blearn l ⟨a6.toNat, a7.toNat, a8.toNat, a9.toNat, b0.toNat, b1.toNat⟩ p := rfl
  have em : mac6 (List.take 6 (a0 :: a1 :: a2 :: a3 :: a4 :: a5 :: a6 :: a7 :: a8 :: a9 :: b0 :: b1 :: b2 :: b3 :: t)) = ⟨a0.toNat, a1.toNat, a2.toNat, a3.toNat, a4.toNat, a5.toNat⟩ := rfl
  rw [ef, em]
  clear ef em
  have hc0 : 0 ≤ (a6.toNat : Int) ∧ (a6.toNat : Int) ≤ 255 := by have := a6.toNat_lt; omega
  have hb2 : 0 ≤ (b2.toNat : Int) := by omega
  simp only [List.map, by8] at esl ⊢
  generalize (a0.toNat : Int) = d0 at *
  generalize (a1.toNat : Int) = d1 at *
  generalize (a2.toNat : Int) = d2 at *
  generalize (a3.toNat : Int) = d3 at *
  generalize (a4.toNat : Int) = d4 at *
  generalize (a5.toNat : Int) = d5 at *
  generalize (a6.toNat : Int) = c0 at *
  generalize (a7.toNat : Int) = c1 at *
  generalize (a8.toNat : Int) = c2 at *
  generalize (a9.toNat : Int) = c3 at *
  generalize (b0.toNat : Int) = c4 at *
  generalize (b1.toNat : Int) = c5 at *
  generalize (b2.toNat : Int) = x2 at *
  generalize (b3.toNat : Int) = x3 at *
  simp only [List.length_cons] at esl h2 hs
  generalize hT : t.map (fun c : UInt8 => AV.int .u8 (c.toNat : Int)) = T at *
  have q1 : (⟨false, 1, [AV.int .u8 0, AV.int .u8 0, AV.int .u8 0, AV.int .u8 0, AV.int .u8 0, AV.int .u8 0]⟩ : ARow).es.take 0 ++ ((AV.int .u8 d0 :: AV.int .u8 d1 :: AV.int .u8 d2 :: AV.int .u8 d3 :: AV.int .u8 d4 :: AV.int .u8 d5 :: AV.int .u8 c0 :: AV.int .u8 c1 :: AV.int .u8 c2 :: AV.int .u8 c3 :: AV.int .u8 c4 :: AV.int .u8 c5 :: AV.int .u8 x2 :: AV.int .u8 x3 :: t.map by8).take 6 ++ (⟨false, 1, [AV.int .u8 0, AV.int .u8 0, AV.int .u8 0, AV.int .u8 0, AV.int .u8 0, AV.int .u8 0]⟩ : ARow).es.drop (0 + 6)) = [AV.int .u8 d0, AV.int .u8 d1, AV.int .u8 d2, AV.int .u8 d3, AV.int .u8 d4, AV.int .u8 d5] := rfl
  have q2 : (⟨false, 1, [AV.int .u8 0, AV.int .u8 0, AV.int .u8 0, AV.int .u8 0, AV.int .u8 0, AV.int .u8 0]⟩ : ARow).es.take 0 ++ ((AV.int .u8 c0 :: AV.int .u8 c1 :: AV.int .u8 c2 :: AV.int .u8 c3 :: AV.int .u8 c4 :: AV.int .u8 c5 :: AV.int .u8 x2 :: AV.int .u8 x3 :: t.map by8).take 6 ++ (⟨false, 1, [AV.int .u8 0, AV.int .u8 0, AV.int .u8 0, AV.int .u8 0, AV.int .u8 0, AV.int .u8 0]⟩ : ARow).es.drop (0 + 6)) = [AV.int .u8 c0, AV.int .u8 c1, AV.int .u8 c2, AV.int .u8 c3, AV.int .u8 c4, AV.int .u8 c5] := rfl
  have q3 : ((AV.int .u8 d0 :: AV.int .u8 d1 :: AV.int .u8 d2 :: AV.int .u8 d3 :: AV.int .u8 d4 :: AV.int .u8 d5 :: AV.int .u8 c0 :: AV.int .u8 c1 :: AV.int .u8 c2 :: AV.int .u8 c3 :: AV.int .u8 c4 :: AV.int .u8 c5 :: AV.int .u8 x2 :: AV.int .u8 x3 :: t.map by8).take (((AV.int .u8 d0 :: AV.int .u8 d1 :: AV.int .u8 d2 :: AV.int .u8 d3 :: AV.int .u8 d4 :: AV.int .u8 d5 :: AV.int .u8 c0 :: AV.int .u8 c1 :: AV.int .u8 c2 :: AV.int .u8 c3 :: AV.int .u8 c4 :: AV.int .u8 c5 :: AV.int .u8 x2 :: AV.int .u8 x3 :: t.map by8).length : Nat) : Int).toNat).drop (6 : Int).toNat = AV.int .u8 c0 :: AV.int .u8 c1 :: AV.int .u8 c2 :: AV.int .u8 c3 :: AV.int .u8 c4 :: AV.int .u8 c5 :: AV.int .u8 x2 :: AV.int .u8 x3 :: t.map by8 := by rw [show (((AV.int .u8 d0 :: AV.int .u8 d1 :: AV.int .u8 d2 :: AV.int .u8 d3 :: AV.int .u8 d4 :: AV.int .u8 d5 :: AV.int .u8 c0 :: AV.int .u8 c1 :: AV.int .u8 c2 :: AV.int .u8 c3 :: AV.int .u8 c4 :: AV.int .u8 c5 :: AV.int .u8 x2 :: AV.int .u8 x3 :: t.map by8).length : Nat) : Int).toNat = (AV.int .u8 d0 :: AV.int .u8 d1 :: AV.int .u8 d2 :: AV.int .u8 d3 :: AV.int .u8 d4 :: AV.int .u8 d5 :: AV.int .u8 c0 :: AV.int .u8 c1 :: AV.int .u8 c2 :: AV.int .u8 c3 :: AV.int .u8 c4 :: AV.int .u8 c5 :: AV.int .u8 x2 :: AV.int .u8 x3 :: t.map by8).length from rfl, List.take_length]; rfl
  have cg := bGroup_ok ⟨c0, c1, c2, c3, c4, c5⟩ hc0
  dsimp only [Mac.l] at cg
  refine acall_walk (N := 85) Try.func9 (by kernel_rfl) p_bridge_Forward rfl ?_; unfold c_bridge_Forward; dsimp only [enum, Nat.reduceAdd]
  (repeat (first | ((with_reducible show RG _ _ (_ :: _) _ _ _); refine RG.go1 (k := ?_)) | ((with_reducible show DG _ _ (_ :: _) _ _ _ _ _); refine DG.go1 (k := ?_)) | (with_reducible first | apply RG.nil | apply W.seq | apply W.reg | apply W.skip | apply W.block | apply W.drw | apply DG.nil | refine W.done (QB.n ?_)) | refine W.cndT ?_ | refine W.cndF ?_))
  (first | ((with_reducible show RG _ _ (_ :: _) _ _ _); refine RG.ca (cc) (k := ?_)) | ((with_reducible show DG _ _ (_ :: _) _ _ _ _ _); refine DG.ca (cc) (k := ?_)))
  (repeat (first | ((with_reducible show RG _ _ (_ :: _) _ _ _); refine RG.go1 (k := ?_)) | ((with_reducible show DG _ _ (_ :: _) _ _ _ _ _); refine DG.go1 (k := ?_)) | (with_reducible first | apply RG.nil | apply W.seq | apply W.reg | apply W.skip | apply W.block | apply W.drw | apply DG.nil | refine W.done (QB.n ?_)) | refine W.cndT ?_ | refine W.cndF ?_))
  (first | ((with_reducible show RG _ _ (_ :: _) _ _ _); refine RG.sm (A.cpy (q1)) (k := ?_)) | ((with_reducible show DG _ _ (_ :: _) _ _ _ _ _); refine DG.sm (A.cpy (q1)) (k := ?_)))
  (repeat (first | ((with_reducible show RG _ _ (_ :: _) _ _ _); refine RG.go1 (k := ?_)) | ((with_reducible show DG _ _ (_ :: _) _ _ _ _ _); refine DG.go1 (k := ?_)) | (with_reducible first | apply RG.nil | apply W.seq | apply W.reg | apply W.skip | apply W.block | apply W.drw | apply DG.nil | refine W.done (QB.n ?_)) | refine W.cndT ?_ | refine W.cndF ?_))
  (first | ((with_reducible show RG _ _ (_ :: _) _ _ _); refine RG.ew (sl_of (q3)) (k := ?_)) | ((with_reducible show DG _ _ (_ :: _) _ _ _ _ _); refine DG.ew (sl_of (q3)) (k := ?_)))
  (repeat (first | ((with_reducible show RG _ _ (_ :: _) _ _ _); refine RG.go1 (k := ?_)) | ((with_reducible show DG _ _ (_ :: _) _ _ _ _ _); refine DG.go1 (k := ?_)) | (with_reducible first | apply RG.nil | apply W.seq | apply W.reg | apply W.skip | apply W.block | apply W.drw | apply DG.nil | refine W.done (QB.n ?_)) | refine W.cndT ?_ | refine W.cndF ?_))
  (first | ((with_reducible show RG _ _ (_ :: _) _ _ _); refine RG.sm (A.cpy (q2)) (k := ?_)) | ((with_reducible show DG _ _ (_ :: _) _ _ _ _ _); refine DG.sm (A.cpy (q2)) (k := ?_)))
  (repeat (first | ((with_reducible show RG _ _ (_ :: _) _ _ _); refine RG.go1 (k := ?_)) | ((with_reducible show DG _ _ (_ :: _) _ _ _ _ _); refine DG.go1 (k := ?_)) | (with_reducible first | apply RG.nil | apply W.seq | apply W.reg | apply W.skip | apply W.block | apply W.drw | apply DG.nil | refine W.done (QB.n ?_)) | refine W.cndT ?_ | refine W.cndF ?_))
  (first | ((with_reducible show RG _ _ (_ :: _) _ _ _); refine RG.ca (cg) (k := ?_)) | ((with_reducible show DG _ _ (_ :: _) _ _ _ _ _); refine DG.ca (cg) (k := ?_)))
  (repeat (first | ((with_reducible show RG _ _ (_ :: _) _ _ _); refine RG.go1 (k := ?_)) | ((with_reducible show DG _ _ (_ :: _) _ _ _ _ _); refine DG.go1 (k := ?_)) | (with_reducible first | apply RG.nil | apply W.seq | apply W.reg | apply W.skip | apply W.block | apply W.drw | apply DG.nil | refine W.done (QB.n ?_)) | refine W.cndT ?_ | refine W.cndF ?_))
  clear q1 q2 q3 cg cc esl hT h2 hs hb2
  (refine W.wk (Wk.frz (b := 0) rfl rfl) ?_ (by simp); refine W.wk (Wk.box (b := 2) (cs' := [_, _]) rfl (by dsimp only [ClL]; (repeat' (first | exact True.intro | exact Cl.ice rfl rfl rfl (by first | assumption | decide | omega | (simp; (first | (all_goals fail) | fail)) | (simp <;> omega)) (by first | exact take_all _ | exact take_len (by first | (simp; (first | (all_goals fail) | fail)) | (simp <;> omega)) | exact rfl) | exact Cl.le (.refl _) | apply And.intro)); (first | (all_goals fail) | fail))) ?_ (by simp); dsimp only [setO])
  obtain ⟨l', hl'⟩ : ∃ q, (if c0 % 2 = 1 then l else blearn l ⟨c0, c1, c2, c3, c4, c5⟩ p) = q := ⟨_, rfl⟩
  have hll : l'.length ≤ 1001 := by
    rw [← hl']; split
    · omega
    · unfold blearn btail bout
      rw [List.length_append]
      have := List.length_filter_le (fun x => !Mac.is ⟨c0, c1, c2, c3, c4, c5⟩ x) l
      split <;> simp <;> omega
  rw [hl']
  refine W.cut (ι := Unit) (fun _ => ⟨[(10, .aptr 0 6), (9, .bptr 2 0), (6, .bptr 1 0), (3, .bptr 0 0), (1, .int .i64 p)], [some [.int .i64 np, .sl true 7 (l.map lrn)], some [.int .i64 0, .nil], some [.int .i64 np, .sl false 7 (l'.map lrn)]], [some ⟨false, 1, [AV.int .u8 d0, .int .u8 d1, .int .u8 d2, .int .u8 d3, .int .u8 d4, .int .u8 d5]⟩], 3, 1⟩) ?_ (by simp) ?_
  · by_cases hp : c0 % 2 = 1
    · rw [if_pos hp] at hl'
      rw [decide_eq_true hp, hl']
      (repeat (first | ((with_reducible show RG _ _ (_ :: _) _ _ _); refine RG.go1 (k := ?_)) | ((with_reducible show DG _ _ (_ :: _) _ _ _ _ _); refine DG.go1 (k := ?_)) | (with_reducible first | apply RG.nil | apply W.seq | apply W.reg | apply W.skip | apply W.block | apply W.drw | apply DG.nil | refine W.done (QB.n ?_)) | refine W.cndT ?_ | refine W.cndF ?_))
      refine W.done (QC.n (()) ?_)
      exact Wk.rn ([0, 1, 2] ) ( [1])
    · rw [if_neg hp] at hl'
      rw [decide_eq_false hp]
      have cl := bLearn_ok np l (by omega) ⟨c0, c1, c2, c3, c4, c5⟩ p
      rw [hl'] at cl
      dsimp only [Mac.l] at cl
      (repeat (first | ((with_reducible show RG _ _ (_ :: _) _ _ _); refine RG.go1 (k := ?_)) | ((with_reducible show DG _ _ (_ :: _) _ _ _ _ _); refine DG.go1 (k := ?_)) | (with_reducible first | apply RG.nil | apply W.seq | apply W.reg | apply W.skip | apply W.block | apply W.drw | apply DG.nil | refine W.done (QB.n ?_)) | refine W.cndT ?_ | refine W.cndF ?_))
      (first | ((with_reducible show RG _ _ (_ :: _) _ _ _); refine RG.ca (cl) (k := ?_)) | ((with_reducible show DG _ _ (_ :: _) _ _ _ _ _); refine DG.ca (cl) (k := ?_)))
      (repeat (first | ((with_reducible show RG _ _ (_ :: _) _ _ _); refine RG.go1 (k := ?_)) | ((with_reducible show DG _ _ (_ :: _) _ _ _ _ _); refine DG.go1 (k := ?_)) | (with_reducible first | apply RG.nil | apply W.seq | apply W.reg | apply W.skip | apply W.block | apply W.drw | apply DG.nil | refine W.done (QB.n ?_)) | refine W.cndT ?_ | refine W.cndF ?_))
      refine W.done (QC.n (()) ?_)
      exact Wk.rn ([0, 1, 2] ) ( [1])
  intro _
  clear hl' hc0 el
  have el := lr_len l'
  have cf := bFind_ok np l' (by omega) ⟨d0, d1, d2, d3, d4, d5⟩
  unfold fout
  generalize bfind l' ⟨d0, d1, d2, d3, d4, d5⟩ = r at cf ⊢
  obtain ⟨at_, ok⟩ := r
  dsimp only [Mac.l] at cf ⊢
  obtain ⟨B, hB⟩ : ∃ B, Mac.ne ⟨d0, d1, d2, d3, d4, d5⟩ allMac = B := ⟨_, rfl⟩
  rw [hB]
  have hB2 : (!(decide (d0 = 255) && (decide (d1 = 255) && (decide (d2 = 255) && (decide (d3 = 255) && (decide (d4 = 255) && (decide (d5 = 255) && true))))))) = B := hB
  with_reducible apply W.seq
  with_reducible apply W.seq
  (with_reducible first | apply W.reg | apply W.drw)
  (repeat (first | ((with_reducible show RG _ _ (_ :: _) _ _ _); refine RG.go1 (k := ?_)) | ((with_reducible show DG _ _ (_ :: _) _ _ _ _ _); refine DG.go1 (k := ?_)) | with_reducible apply RG.nil | with_reducible apply DG.nil))
  (first | ((with_reducible show RG _ _ (_ :: _) _ _ _); refine RG.ca (cf) (k := ?_)) | ((with_reducible show DG _ _ (_ :: _) _ _ _ _ _); refine DG.ca (cf) (k := ?_)))
  (repeat (first | ((with_reducible show RG _ _ (_ :: _) _ _ _); refine RG.go1 (k := ?_)) | ((with_reducible show DG _ _ (_ :: _) _ _ _ _ _); refine DG.go1 (k := ?_)) | with_reducible apply RG.nil | with_reducible apply DG.nil))
  refine W.cut (ι := {u : Unit // (ok && B) = false}) (fun _ => ⟨[(9, .bptr 2 0), (6, .bptr 1 0), (3, .bptr 0 0), (1, .int .i64 p)], [some [.int .i64 np, .sl true 7 (l.map lrn)], some [.int .i64 0, .nil], some [.int .i64 np, .sl false 7 (l'.map lrn)]], [], 3, 0⟩) ?_ (by simp) ?_
  · cases ok
    · (repeat (first | ((with_reducible show RG _ _ (_ :: _) _ _ _); refine RG.go1 (k := ?_)) | ((with_reducible show DG _ _ (_ :: _) _ _ _ _ _); refine DG.go1 (k := ?_)) | (with_reducible first | apply RG.nil | apply W.seq | apply W.reg | apply W.skip | apply W.block | apply W.drw | apply DG.nil | refine W.done (QB.n ?_)) | refine W.cndT ?_ | refine W.cndF ?_))
      refine W.done (QC.n (⟨(), rfl⟩) ?_)
      exact Wk.rn ([0, 1, 2] ) ( [])
    · (repeat (first | ((with_reducible show RG _ _ (_ :: _) _ _ _); refine RG.go1 (k := ?_)) | ((with_reducible show DG _ _ (_ :: _) _ _ _ _ _); refine DG.go1 (k := ?_)) | (with_reducible first | apply RG.nil | apply W.seq | apply W.reg | apply W.skip | apply W.block | apply W.drw | apply DG.nil | refine W.done (QB.n ?_)) | refine W.cndT ?_ | refine W.cndF ?_))
      (first | ((with_reducible show RG _ _ (_ :: _) _ _ _); refine RG.gca (fun _ => all_ok) (k := ?_)) | ((with_reducible show DG _ _ (_ :: _) _ _ _ _ _); refine DG.gca (fun _ => all_ok) (k := ?_)))
      (repeat (first | ((with_reducible show RG _ _ (_ :: _) _ _ _); refine RG.go1 (k := ?_)) | ((with_reducible show DG _ _ (_ :: _) _ _ _ _ _); refine DG.go1 (k := ?_)) | (with_reducible first | apply RG.nil | apply W.seq | apply W.reg | apply W.skip | apply W.block | apply W.drw | apply DG.nil | refine W.done (QB.n ?_)) | refine W.cndT ?_ | refine W.cndF ?_))
      rw [hB2]
      cases B
      · refine W.cndF ?_
        (repeat (first | ((with_reducible show RG _ _ (_ :: _) _ _ _); refine RG.go1 (k := ?_)) | ((with_reducible show DG _ _ (_ :: _) _ _ _ _ _); refine DG.go1 (k := ?_)) | (with_reducible first | apply RG.nil | apply W.seq | apply W.reg | apply W.skip | apply W.block | apply W.drw | apply DG.nil | refine W.done (QB.n ?_)) | refine W.cndT ?_ | refine W.cndF ?_))
        refine W.done (QC.n (⟨(), rfl⟩) ?_)
        exact Wk.rn ([0, 1, 2] ) ( [])
      · refine W.cndT ?_
        rw [if_pos (show (true && true) = true from rfl)]
        by_cases hap : at_ = p
        · rw [if_pos hap]
          (repeat (first | ((with_reducible show RG _ _ (_ :: _) _ _ _); refine RG.go1 (k := ?_)) | ((with_reducible show DG _ _ (_ :: _) _ _ _ _ _); refine DG.go1 (k := ?_)) | (with_reducible first | apply RG.nil | apply W.seq | apply W.reg | apply W.skip | apply W.block | apply W.drw | apply DG.nil | refine W.done (QB.n ?_)) | refine W.cndT ?_ | refine W.cndF ?_))
          (refine W.ret ?_; (repeat (with_reducible first | refine QB.r ?_ | refine QL.r ?_ | refine QC.r ?_)); refine QF.r ?_)
          exact RetOk.rs (vs := [_, _, _]) r_bridge_Forward []
        · rw [if_neg hap]
          (repeat (first | ((with_reducible show RG _ _ (_ :: _) _ _ _); refine RG.go1 (k := ?_)) | ((with_reducible show DG _ _ (_ :: _) _ _ _ _ _); refine DG.go1 (k := ?_)) | (with_reducible first | apply RG.nil | apply W.seq | apply W.reg | apply W.skip | apply W.block | apply W.drw | apply DG.nil | refine W.done (QB.n ?_)) | refine W.cndT ?_ | refine W.cndF ?_))
          (refine W.ret ?_; (repeat (with_reducible first | refine QB.r ?_ | refine QL.r ?_ | refine QC.r ?_)); refine QF.r ?_)
          (refine RetOk.wk (Wk.frz (b := 1) rfl rfl) ?_; refine RetOk.wk (Wk.tmp (t := 7) (Cl.ice rfl rfl rfl (by first | assumption | decide | omega | (simp; (first | (all_goals fail) | fail)) | (simp <;> omega)) (by first | exact take_all _ | exact take_len (by first | (simp; (first | (all_goals fail) | fail)) | (simp <;> omega)) | exact rfl))) ?_; dsimp only [setO])
          exact RetOk.rs (vs := [_, _, _]) r_bridge_Forward []
  intro ⟨_, hOB⟩
  rw [if_neg (by rw [hOB]; decide)]
  (repeat (first | ((with_reducible show RG _ _ (_ :: _) _ _ _); refine RG.go1 (k := ?_)) | ((with_reducible show DG _ _ (_ :: _) _ _ _ _ _); refine DG.go1 (k := ?_)) | (with_reducible first | apply RG.nil | apply W.seq | apply W.reg | apply W.skip | apply W.block | apply W.drw | apply DG.nil | refine W.done (QB.n ?_)) | refine W.cndT ?_ | refine W.cndF ?_))
  refine W.wk (Wk.nilT (t := 14) 1 rfl) ?_ (by simp)
  refine W.loop (ι := {i : Nat // i ≤ np}) (fun i => ⟨[(72, .int .i64 i.1), (71, .int .i64 np), (14, .ref 0 1 0 (outP p i.1).length), (9, .bptr 2 0), (6, .bptr 1 0), (1, .int .i64 p)], [some [.int .i64 np, .sl true 7 (l.map lrn)], some [.int .i64 0, .nil], some [.int .i64 np, .sl false 7 (l'.map lrn)]], [some ⟨false, 1, (outP p i.1).map iv⟩], 3, 1⟩) (fun i => np - i.1) ⟨0, Nat.zero_le _⟩ ?_ ?_
  · have e0 : outP p 0 = [] := rfl
    dsimp only
    rw [e0]
    exact Wk.rn ([0, 1, 2] ) ( [0])
  rintro ⟨i, hi⟩
  dsimp only
  have hol := outP_len p i
  have hoe := iv_len (outP p i)
  (repeat (first | ((with_reducible show RG _ _ (_ :: _) _ _ _); refine RG.go1 (k := ?_)) | ((with_reducible show DG _ _ (_ :: _) _ _ _ _ _); refine DG.go1 (k := ?_)) | (with_reducible first | apply RG.nil | apply W.seq | apply W.reg | apply W.skip | apply W.block | apply W.drw | apply DG.nil | refine W.done (QB.n ?_))))
  refine W.cnd (fun h3 => ?_) (fun h3 => ?_)
  · have hlt : i < np := by simp at h3; omega
    clear h3
    by_cases hip : (i : Int) = p
    · have hsn := outP_eq hip
      (repeat (first | ((with_reducible show RG _ _ (_ :: _) _ _ _); refine RG.go1 (k := ?_)) | ((with_reducible show DG _ _ (_ :: _) _ _ _ _ _); refine DG.go1 (k := ?_)) | (with_reducible first | apply RG.nil | apply W.seq | apply W.reg | apply W.skip | apply W.block | apply W.drw | apply DG.nil | refine W.done (QB.n ?_)) | refine W.cndT ?_ | refine W.cndF ?_))
      rw [← hsn]
      refine W.done (QL.n (⟨i + 1, by omega⟩) ?_ ?_)
      · exact Wk.rn ([0, 1, 2] ) ( [0])
      · dsimp only; omega
    · have hsn := outP_ne hip
      have hs2 : (outP p i).map iv ++ [.int .i64 i] = (outP p (i + 1)).map iv := by rw [hsn, List.map_append]; rfl
      have hs3 : (outP p (i + 1)).length = (outP p i).length + 1 := by rw [hsn]; simp
      clear hsn
      (repeat (first | ((with_reducible show RG _ _ (_ :: _) _ _ _); refine RG.go1 (k := ?_)) | ((with_reducible show DG _ _ (_ :: _) _ _ _ _ _); refine DG.go1 (k := ?_)) | (with_reducible first | apply RG.nil | apply W.seq | apply W.reg | apply W.skip | apply W.block | apply W.drw | apply DG.nil | refine W.done (QB.n ?_)) | refine W.cndT ?_ | refine W.cndF ?_))
      rw [hs2, ← hs3]
      refine W.done (QL.n (⟨i + 1, by omega⟩) ?_ ?_)
      · exact Wk.rn ([0, 1, 2] ) ( [2])
      · dsimp only; omega
  · have hlt : i = np := by simp at h3; omega
    clear h3
    subst hlt
    (refine W.exit ?_; (repeat (first | (with_reducible first | refine QL.x ?_ | refine QC.x ?_ | refine QB.x ?_) | (with_reducible refine QB.o (by decide) ?_))))
    (repeat (first | ((with_reducible show RG _ _ (_ :: _) _ _ _); refine RG.go1 (k := ?_)) | ((with_reducible show DG _ _ (_ :: _) _ _ _ _ _); refine DG.go1 (k := ?_)) | (with_reducible first | apply RG.nil | apply W.seq | apply W.reg | apply W.skip | apply W.block | apply W.drw | apply DG.nil | refine W.done (QB.n ?_)) | refine W.cndT ?_ | refine W.cndF ?_))
    (refine W.ret ?_; (repeat (with_reducible first | refine QB.r ?_ | refine QL.r ?_ | refine QC.r ?_)); refine QF.r ?_)
    (refine RetOk.wk (Wk.frz (b := 0) rfl rfl) ?_; refine RetOk.wk (Wk.tmp (t := 7) (Cl.ice rfl rfl rfl (by first | assumption | decide | omega | (simp; (first | (all_goals fail) | fail)) | (simp <;> omega)) (by first | exact take_all _ | exact take_len (by first | (simp; (first | (all_goals fail) | fail)) | (simp <;> omega)) | exact rfl))) ?_; dsimp only [setO])
    exact RetOk.rs (vs := [_, _, _]) r_bridge_Forward []
end Go.Proofs.Ytfpgpeomcefkhaa

namespace Go.Proofs.Ytfpgpeomcefkhaa
open Go.RowKit
set_option linter.unusedVariables false
set_option linter.unusedSimpArgs false
set_option maxRecDepth 100000
set_option maxHeartbeats 4000000
def Lrn.mac (x : Lrn) : Mac := ⟨x.a0, x.a1, x.a2, x.a3, x.a4, x.a5⟩
def kn : List Lrn → List Lrn → List Lrn
  | [], out => out
  | x :: r, out => if out.length < 16 then kn r (if out.any x.mac.is then out else x :: out) else out
def known (l : List Lrn) : List Lrn := kn l.reverse []
structure KI where
  j : Nat
  out : List Lrn
structure KJ where
  k : Nat
  b : Bool
theorem kn_len : ∀ (r out : List Lrn), out.length ≤ 16 → (kn r out).length ≤ 16
  | [], out, h => h
  | x :: r, out, h => by
    unfold kn
    split
    · refine kn_len r _ ?_
      split
      · exact h
      · simp; omega
    · exact h
theorem known_len (l : List Lrn) : (known l).length ≤ 16 := kn_len _ _ (by simp)
end Go.Proofs.Ytfpgpeomcefkhaa

namespace Go.Proofs.Ytfpgpeomcefkhaa
open Go.RowKit
set_option linter.unusedVariables false
set_option linter.unusedSimpArgs false
set_option maxRecDepth 100000
set_option maxHeartbeats 4000000
end Go.Proofs.Ytfpgpeomcefkhaa
