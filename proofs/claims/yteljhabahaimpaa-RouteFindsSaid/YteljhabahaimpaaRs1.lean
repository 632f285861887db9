/- Functions of package slices, at routes. -/
import Derived.Test.YteljhabahaimpaaCode
import Derived.Test.YteljhabahaimpaaAxR
import Derived.Test.YteljhabahaimpaaAxJ
namespace Go.Proofs.Yteljhabahaimpaa
open Go.RowKit
set_option linter.unusedVariables false
set_option linter.unusedSimpArgs false
set_option maxRecDepth 100000
set_option maxHeartbeats 4000000
structure Rt where
  n0 : Int
  n1 : Int
  n2 : Int
  n3 : Int
  b : Int
  v0 : Int
  v1 : Int
  v2 : Int
  v3 : Int
def rt (x : Rt) : AV := .agg [.int .u8 x.n0, .int .u8 x.n1, .int .u8 x.n2, .int .u8 x.n3, .int .i64 x.b, .int .u8 x.v0, .int .u8 x.v1, .int .u8 x.v2, .int .u8 x.v3]
theorem rt_at (l : List Rt) (i : Nat) (h : i < l.length) {j : Nat} (hj : j = i) : (l.map rt)[j]?.getD .any = .agg [.int .u8 l[i].n0, .int .u8 l[i].n1, .int .u8 l[i].n2, .int .u8 l[i].n3, .int .i64 l[i].b, .int .u8 l[i].v0, .int .u8 l[i].v1, .int .u8 l[i].v2, .int .u8 l[i].v3] := at_map rt l i _ (List.getElem?_eq_getElem h) hj
theorem rt_pure (l : List Rt) : (l.map rt).all pureV = true := by simp [rt, pureV, pureC]
theorem rt_len (l : List Rt) : (l.map rt).length = l.length := by simp

theorem getD_lt {α : Type} (l : List α) (d : α) {i : Nat} (h : i < l.length) : l.getD i d = l[i] := by simp [h]
theorem map_take_snoc {α β : Type} (f : α → β) (l : List α) (i : Nat) (h : i < l.length) : (l.take i).map f ++ [f l[i]] = (l.take (i + 1)).map f := by
  rw [List.take_succ_eq_append_getElem h, List.map_append]; rfl
theorem keep_lt {α : Type} (p : α → Bool) : ∀ (l : List α) (j i : Nat) (h : i < l.length), i < j → p l[i] = false → ((l.take j).filter p).length < j
  | [], j, i, h, _, _ => absurd h (Nat.not_lt_zero _)
  | x :: l, 0, i, _, h, _ => absurd h (Nat.not_lt_zero _)
  | x :: l, j + 1, 0, _, _, hp => by
    have hp : p x = false := hp
    simp only [List.take_succ_cons, List.filter_cons, hp, Bool.false_eq_true, if_false]
    have := List.length_filter_le p (l.take j)
    have := List.length_take_le j l
    omega
  | x :: l, j + 1, i + 1, h, hij, hp => by
    have := keep_lt p l j i (by simpa using h) (by omega) (by simpa using hp)
    simp only [List.take_succ_cons, List.filter_cons]
    split
    · simp only [List.length_cons]; omega
    · omega
theorem keep_snoc {α : Type} (p : α → Bool) (l : List α) (j : Nat) (h : j < l.length) : (l.take (j + 1)).filter p = (l.take j).filter p ++ (if p l[j] then [l[j]] else []) := by
  rw [List.take_succ_eq_append_getElem h, List.filter_append]
  congr 1
  simp only [List.filter_cons, List.filter_nil]
theorem set_app {α : Type} (k : List α) (l : List α) (x : α) (h : k.length < l.length) : (k ++ l.drop k.length).set k.length x = (k ++ [x]) ++ l.drop (k.length + 1) := by
  rw [List.set_append_right _ _ (Nat.le_refl _), Nat.sub_self, List.drop_eq_getElem_cons h, List.set_cons_zero, List.append_assoc]
  rfl
theorem rtClone_ok (l : List Rt) (hl : l.length ≤ 1000000) : ACall Try.prog 25 [.sl true 9 (l.map rt)] (.ref 0 9 0 l.length) [⟨false, 9, l.map rt⟩] := by
  have el := rt_len l
  have hp := rt_pure l
  by_cases hne : l = []
  · subst hne
    refine acall_empty 0 rfl ?_ (fun a c hc => ?_)
    · dsimp only [List.set]
      refine acall_walk (N := 8) Try.func25 (by kernel_rfl) p_slices_Clone__caravel_api_Route_caravel_api_Route rfl ?_; unfold c_slices_Clone__caravel_api_Route_caravel_api_Route; dsimp only [enum, Nat.reduceAdd]
      (repeat (first | ((with_reducible show RG _ _ (_ :: _) _ _ _); refine RG.go1 (k := ?_)) | ((with_reducible show DG _ _ (_ :: _) _ _ _ _ _); refine DG.go1 (k := ?_)) | with_reducible apply RG.nil | with_reducible apply W.seq | with_reducible apply W.reg | with_reducible apply W.skip | with_reducible apply W.block | with_reducible apply W.drw | with_reducible apply DG.nil | (with_reducible refine W.done (QB.n ?_))))
      refine W.cndT ?_
      (repeat (first | ((with_reducible show RG _ _ (_ :: _) _ _ _); refine RG.go1 (k := ?_)) | ((with_reducible show DG _ _ (_ :: _) _ _ _ _ _); refine DG.go1 (k := ?_)) | with_reducible apply RG.nil | with_reducible apply W.seq | with_reducible apply W.reg | with_reducible apply W.skip | with_reducible apply W.block | with_reducible apply W.drw | with_reducible apply DG.nil | (with_reducible refine W.done (QB.n ?_))))
      (refine W.ret ?_; (repeat (with_reducible first | refine QB.r ?_ | refine QL.r ?_ | refine QC.r ?_)); refine QF.r ?_)
      refine RetOk.wk (Wk.nilT (t := 2) 9 rfl) ?_
      exact RetOk.rs (vs := [_]) r_slices_Clone__caravel_api_Route_caravel_api_Route [0]
    · dsimp only [List.set]
      refine acall_walk (N := 8) Try.func25 (by kernel_rfl) p_slices_Clone__caravel_api_Route_caravel_api_Route rfl ?_; unfold c_slices_Clone__caravel_api_Route_caravel_api_Route; dsimp only [enum, Nat.reduceAdd]
      (repeat (first | ((with_reducible show RG _ _ (_ :: _) _ _ _); refine RG.go1 (k := ?_)) | ((with_reducible show DG _ _ (_ :: _) _ _ _ _ _); refine DG.go1 (k := ?_)) | with_reducible apply RG.nil | with_reducible apply W.seq | with_reducible apply W.reg | with_reducible apply W.skip | with_reducible apply W.block | with_reducible apply W.drw | with_reducible apply DG.nil | (with_reducible refine W.done (QB.n ?_))))
      refine W.cndF ?_
      (repeat (first | ((with_reducible show RG _ _ (_ :: _) _ _ _); refine RG.go1 (k := ?_)) | ((with_reducible show DG _ _ (_ :: _) _ _ _ _ _); refine DG.go1 (k := ?_)) | with_reducible apply RG.nil | with_reducible apply W.seq | with_reducible apply W.reg | with_reducible apply W.skip | with_reducible apply W.block | with_reducible apply W.drw | with_reducible apply DG.nil | (with_reducible refine W.done (QB.n ?_))))
      (refine W.ret ?_; (repeat (with_reducible first | refine QB.r ?_ | refine QL.r ?_ | refine QC.r ?_)); refine QF.r ?_)
      exact RetOk.rs (vs := [_]) r_slices_Clone__caravel_api_Route_caravel_api_Route [1]
  · have hne' : l.map rt ≠ [] := by simpa using hne
    refine acall_walk (N := 8) Try.func25 (by kernel_rfl) p_slices_Clone__caravel_api_Route_caravel_api_Route rfl ?_; unfold c_slices_Clone__caravel_api_Route_caravel_api_Route; dsimp only [enum, Nat.reduceAdd]
    (repeat (first | ((with_reducible show RG _ _ (_ :: _) _ _ _); refine RG.go1 (k := ?_)) | ((with_reducible show DG _ _ (_ :: _) _ _ _ _ _); refine DG.go1 (k := ?_)) | with_reducible apply RG.nil | with_reducible apply W.seq | with_reducible apply W.reg | with_reducible apply W.skip | with_reducible apply W.block | with_reducible apply W.drw | with_reducible apply DG.nil | (with_reducible refine W.done (QB.n ?_))))
    refine W.cndF ?_
    (repeat (first | ((with_reducible show RG _ _ (_ :: _) _ _ _); refine RG.go1 (k := ?_)) | ((with_reducible show DG _ _ (_ :: _) _ _ _ _ _); refine DG.go1 (k := ?_)) | with_reducible apply RG.nil | with_reducible apply W.seq | with_reducible apply W.reg | with_reducible apply W.skip | with_reducible apply W.block | with_reducible apply W.drw | with_reducible apply DG.nil | (with_reducible refine W.done (QB.n ?_))))
    (refine W.ret ?_; (repeat (with_reducible first | refine QB.r ?_ | refine QL.r ?_ | refine QC.r ?_)); refine QF.r ?_)
    rw [el]
    exact RetOk.rs (vs := [_]) r_slices_Clone__caravel_api_Route_caravel_api_Route [1]
theorem rtIndex_ok (l : List Rt) (hl : l.length ≤ 1000000) (f : Nat) (m0 m1 m2 m3 mb : Int) (pr : Rt → Bool) (hf : ∀ x ∈ l, ACall Try.prog f [.agg [.int .u8 x.n0, .int .u8 x.n1, .int .u8 x.n2, .int .u8 x.n3, .int .i64 x.b, .int .u8 x.v0, .int .u8 x.v1, .int .u8 x.v2, .int .u8 x.v3], .cptr true [.int .u8 m0, .int .u8 m1, .int .u8 m2, .int .u8 m3], .cptr true [.int .i64 mb]] (.bool (pr x)) []) :
    ACall Try.prog 33 [.sl true 9 (l.map rt), .fn f [.cptr true [.int .u8 m0, .int .u8 m1, .int .u8 m2, .int .u8 m3], .cptr true [.int .i64 mb]]] (.int .i64 (if l.any pr then (l.findIdx pr : Int) else -1)) [] := by
  have el := rt_len l
  refine acall_walk (N := 19) Try.func33 (by kernel_rfl) p_slices_IndexFunc__caravel_api_Route_caravel_api_Route rfl ?_; unfold c_slices_IndexFunc__caravel_api_Route_caravel_api_Route; dsimp only [enum, Nat.reduceAdd]
  (repeat (first | ((with_reducible show RG _ _ (_ :: _) _ _ _); refine RG.go1 (k := ?_)) | ((with_reducible show DG _ _ (_ :: _) _ _ _ _ _); refine DG.go1 (k := ?_)) | with_reducible apply RG.nil | with_reducible apply W.seq | with_reducible apply W.reg | with_reducible apply W.skip | with_reducible apply W.block | with_reducible apply W.drw | with_reducible apply DG.nil | (with_reducible refine W.done (QB.n ?_))))
  refine W.loop (ι := {i : Nat // i ≤ l.length ∧ ∀ j : Nat, (h : j < l.length) → j < i → pr l[j] = false}) (fun i => ⟨[(8, .int .i64 i.1), (7, .int .i64 l.length), (0, .sl true 9 (l.map rt)), (1, .fn f [.cptr true [.int .u8 m0, .int .u8 m1, .int .u8 m2, .int .u8 m3], .cptr true [.int .i64 mb]])], [], [], 0, 0⟩) (fun i => l.length - i.1) ⟨0, Nat.zero_le _, fun j _ h => absurd h (Nat.not_lt_zero _)⟩ ?_ ?_
  · exact Wk.rn ([] ) ( [])
  rintro ⟨i, hi, hall⟩
  dsimp only
  (repeat (first | ((with_reducible show RG _ _ (_ :: _) _ _ _); refine RG.go1 (k := ?_)) | ((with_reducible show DG _ _ (_ :: _) _ _ _ _ _); refine DG.go1 (k := ?_)) | with_reducible apply RG.nil | with_reducible apply W.seq | with_reducible apply W.reg | with_reducible apply W.skip | with_reducible apply W.block | with_reducible apply W.drw | with_reducible apply DG.nil | (with_reducible refine W.done (QB.n ?_))))
  refine W.cnd (fun h1 => ?_) (fun h1 => ?_)
  · have hlt : i < l.length := by simp at h1; omega
    have hE := rt_at l i hlt (j := ((i : Nat) : Int).toNat) (by simp)
    have hc := hf _ (List.getElem_mem hlt)
    cases hpi : pr l[i]
    · rw [hpi] at hc
      (repeat (first | ((with_reducible show RG _ _ (_ :: _) _ _ _); refine RG.go1 (k := ?_)) | ((with_reducible show DG _ _ (_ :: _) _ _ _ _ _); refine DG.go1 (k := ?_)) | with_reducible apply RG.nil | with_reducible apply W.seq | with_reducible apply W.reg | with_reducible apply W.skip | with_reducible apply W.block | with_reducible apply W.drw | with_reducible apply DG.nil | (with_reducible refine W.done (QB.n ?_))))
      (first | ((with_reducible show RG _ _ (_ :: _) _ _ _); refine RG.ew (cptr_of (hE) (by (conv => lhs; whnf) <;> exact rfl)) (k := ?_)) | ((with_reducible show DG _ _ (_ :: _) _ _ _ _ _); refine DG.ew (cptr_of (hE) (by (conv => lhs; whnf) <;> exact rfl)) (k := ?_)))
      (repeat (first | ((with_reducible show RG _ _ (_ :: _) _ _ _); refine RG.go1 (k := ?_)) | ((with_reducible show DG _ _ (_ :: _) _ _ _ _ _); refine DG.go1 (k := ?_)) | with_reducible apply RG.nil | with_reducible apply W.seq | with_reducible apply W.reg | with_reducible apply W.skip | with_reducible apply W.block | with_reducible apply W.drw | with_reducible apply DG.nil | (with_reducible refine W.done (QB.n ?_))))
      (first | ((with_reducible show RG _ _ (_ :: _) _ _ _); refine RG.cav (hc) (k := ?_)) | ((with_reducible show DG _ _ (_ :: _) _ _ _ _ _); refine DG.cav (hc) (k := ?_)))
      (repeat (first | ((with_reducible show RG _ _ (_ :: _) _ _ _); refine RG.go1 (k := ?_)) | ((with_reducible show DG _ _ (_ :: _) _ _ _ _ _); refine DG.go1 (k := ?_)) | with_reducible apply RG.nil | with_reducible apply W.seq | with_reducible apply W.reg | with_reducible apply W.skip | with_reducible apply W.block | with_reducible apply W.drw | with_reducible apply DG.nil | (with_reducible refine W.done (QB.n ?_))))
      refine W.cndF ?_
      (repeat (first | ((with_reducible show RG _ _ (_ :: _) _ _ _); refine RG.go1 (k := ?_)) | ((with_reducible show DG _ _ (_ :: _) _ _ _ _ _); refine DG.go1 (k := ?_)) | with_reducible apply RG.nil | with_reducible apply W.seq | with_reducible apply W.reg | with_reducible apply W.skip | with_reducible apply W.block | with_reducible apply W.drw | with_reducible apply DG.nil | (with_reducible refine W.done (QB.n ?_))))
      refine W.done (QL.n (⟨i + 1, by omega, fun j hj hji => by
        rcases Nat.lt_or_ge j i with q | q
        · exact hall j hj q
        · obtain rfl : j = i := by omega
          exact hpi⟩) ?_ ?_)
      · exact Wk.rn ([] ) ( [])
      · dsimp only; omega
    · rw [hpi] at hc
      have hany : l.any pr = true := by rw [List.any_eq_true]; exact ⟨_, List.getElem_mem hlt, hpi⟩
      have hidx : l.findIdx pr = i := (List.findIdx_eq hlt).2 ⟨hpi, fun j hj => hall j (by omega) hj⟩
      rw [hany, hidx]
      (repeat (first | ((with_reducible show RG _ _ (_ :: _) _ _ _); refine RG.go1 (k := ?_)) | ((with_reducible show DG _ _ (_ :: _) _ _ _ _ _); refine DG.go1 (k := ?_)) | with_reducible apply RG.nil | with_reducible apply W.seq | with_reducible apply W.reg | with_reducible apply W.skip | with_reducible apply W.block | with_reducible apply W.drw | with_reducible apply DG.nil | (with_reducible refine W.done (QB.n ?_))))
      (first | ((with_reducible show RG _ _ (_ :: _) _ _ _); refine RG.ew (cptr_of (hE) (by (conv => lhs; whnf) <;> exact rfl)) (k := ?_)) | ((with_reducible show DG _ _ (_ :: _) _ _ _ _ _); refine DG.ew (cptr_of (hE) (by (conv => lhs; whnf) <;> exact rfl)) (k := ?_)))
      (repeat (first | ((with_reducible show RG _ _ (_ :: _) _ _ _); refine RG.go1 (k := ?_)) | ((with_reducible show DG _ _ (_ :: _) _ _ _ _ _); refine DG.go1 (k := ?_)) | with_reducible apply RG.nil | with_reducible apply W.seq | with_reducible apply W.reg | with_reducible apply W.skip | with_reducible apply W.block | with_reducible apply W.drw | with_reducible apply DG.nil | (with_reducible refine W.done (QB.n ?_))))
      (first | ((with_reducible show RG _ _ (_ :: _) _ _ _); refine RG.cav (hc) (k := ?_)) | ((with_reducible show DG _ _ (_ :: _) _ _ _ _ _); refine DG.cav (hc) (k := ?_)))
      (repeat (first | ((with_reducible show RG _ _ (_ :: _) _ _ _); refine RG.go1 (k := ?_)) | ((with_reducible show DG _ _ (_ :: _) _ _ _ _ _); refine DG.go1 (k := ?_)) | with_reducible apply RG.nil | with_reducible apply W.seq | with_reducible apply W.reg | with_reducible apply W.skip | with_reducible apply W.block | with_reducible apply W.drw | with_reducible apply DG.nil | (with_reducible refine W.done (QB.n ?_))))
      refine W.cndT ?_
      (repeat (first | ((with_reducible show RG _ _ (_ :: _) _ _ _); refine RG.go1 (k := ?_)) | ((with_reducible show DG _ _ (_ :: _) _ _ _ _ _); refine DG.go1 (k := ?_)) | with_reducible apply RG.nil | with_reducible apply W.seq | with_reducible apply W.reg | with_reducible apply W.skip | with_reducible apply W.block | with_reducible apply W.drw | with_reducible apply DG.nil | (with_reducible refine W.done (QB.n ?_))))
      (refine W.ret ?_; (repeat (with_reducible first | refine QB.r ?_ | refine QL.r ?_ | refine QC.r ?_)); refine QF.r ?_)
      exact RetOk.rs (vs := [_]) r_slices_IndexFunc__caravel_api_Route_caravel_api_Route []
  have hany : l.any pr = false := by
    rw [List.any_eq_false]
    intro x hx
    obtain ⟨j, hj, rfl⟩ := List.getElem_of_mem hx
    simp at h1
    rw [hall j hj (by omega)]; simp
  rw [hany]
  (refine W.exit ?_; (repeat (first | (with_reducible first | refine QL.x ?_ | refine QC.x ?_ | refine QB.x ?_) | (with_reducible refine QB.o (by decide) ?_))))
  (repeat (first | ((with_reducible show RG _ _ (_ :: _) _ _ _); refine RG.go1 (k := ?_)) | ((with_reducible show DG _ _ (_ :: _) _ _ _ _ _); refine DG.go1 (k := ?_)) | with_reducible apply RG.nil | with_reducible apply W.seq | with_reducible apply W.reg | with_reducible apply W.skip | with_reducible apply W.block | with_reducible apply W.drw | with_reducible apply DG.nil | (with_reducible refine W.done (QB.n ?_))))
  (refine W.ret ?_; (repeat (with_reducible first | refine QB.r ?_ | refine QL.r ?_ | refine QC.r ?_)); refine QF.r ?_)
  exact RetOk.rs (vs := [_]) r_slices_IndexFunc__caravel_api_Route_caravel_api_Route []
theorem rtDel_ok (l : List Rt) (hl : l.length ≤ 1000000) (f : Nat) (m0 m1 m2 m3 mb : Int) (pr : Rt → Bool) (hf : ∀ x ∈ l, ACall Try.prog f [.agg [.int .u8 x.n0, .int .u8 x.n1, .int .u8 x.n2, .int .u8 x.n3, .int .i64 x.b, .int .u8 x.v0, .int .u8 x.v1, .int .u8 x.v2, .int .u8 x.v3], .cptr true [.int .u8 m0, .int .u8 m1, .int .u8 m2, .int .u8 m3], .cptr true [.int .i64 mb]] (.bool (pr x)) []) :
    MCall Try.prog 24 [.ref 0 9 0 l.length, .fn f [.cptr true [.int .u8 m0, .int .u8 m1, .int .u8 m2, .int .u8 m3], .cptr true [.int .i64 mb]]] [] [⟨false, 9, l.map rt⟩] (.ref 0 9 0 (l.filter fun x => !pr x).length) [] [some ⟨false, 9, (l.filter fun x => !pr x).map rt⟩] [] := by
  have ci := rtIndex_ok l hl f m0 m1 m2 m3 mb pr hf
  have el := rt_len l
  cases hany : l.any pr
  · rw [hany, if_neg (by decide)] at ci
    have hfl : (l.filter fun x => !pr x) = l := by
      rw [List.filter_eq_self]
      intro x hx
      rw [List.any_eq_false] at hany
      simpa using hany x hx
    rw [hfl]
    refine mcall_walk (N := 42) Try.func24 (by kernel_rfl) p_slices_DeleteFunc__caravel_api_Route_caravel_api_Route rfl rfl rfl ?_; intro gb pl; unfold c_slices_DeleteFunc__caravel_api_Route_caravel_api_Route; dsimp only [enum, ghB, ghR, k_lc, k_ln, k_ap, k_an, k_m0, k_mc, Nat.reduceAdd, Nat.zero_add, Nat.add_zero]
    (repeat (first | ((with_reducible show RG _ _ (_ :: _) _ _ _); refine RG.go1 (k := ?_)) | ((with_reducible show DG _ _ (_ :: _) _ _ _ _ _); refine DG.go1 (k := ?_)) | with_reducible apply RG.nil | with_reducible apply W.seq | with_reducible apply W.reg | with_reducible apply W.skip | with_reducible apply W.block | with_reducible apply W.drw | with_reducible apply DG.nil | (with_reducible refine W.done (QB.n ?_))))
    (first | ((with_reducible show RG _ _ (_ :: _) _ _ _); refine RG.ca (ci) (k := ?_)) | ((with_reducible show DG _ _ (_ :: _) _ _ _ _ _); refine DG.ca (ci) (k := ?_)))
    (repeat (first | ((with_reducible show RG _ _ (_ :: _) _ _ _); refine RG.go1 (k := ?_)) | ((with_reducible show DG _ _ (_ :: _) _ _ _ _ _); refine DG.go1 (k := ?_)) | with_reducible apply RG.nil | with_reducible apply W.seq | with_reducible apply W.reg | with_reducible apply W.skip | with_reducible apply W.block | with_reducible apply W.drw | with_reducible apply DG.nil | (with_reducible refine W.done (QB.n ?_))))
    refine W.cndT ?_
    (repeat (first | ((with_reducible show RG _ _ (_ :: _) _ _ _); refine RG.go1 (k := ?_)) | ((with_reducible show DG _ _ (_ :: _) _ _ _ _ _); refine DG.go1 (k := ?_)) | with_reducible apply RG.nil | with_reducible apply W.seq | with_reducible apply W.reg | with_reducible apply W.skip | with_reducible apply W.block | with_reducible apply W.drw | with_reducible apply DG.nil | (with_reducible refine W.done (QB.n ?_))))
    (refine W.ret ?_; (repeat (with_reducible first | refine QB.r ?_ | refine QL.r ?_ | refine QC.r ?_)); refine QM.r ?_)
    exact RetM.rs (vs := [_]) (tm' := [(4, .ref 0 9 0 l.length), (1100000, .ratt 0 (pl 0))]) r_slices_DeleteFunc__caravel_api_Route_caravel_api_Route ([]) ([0]) 0 1
  · rw [hany, if_pos rfl] at ci
    have hi0 : l.findIdx pr < l.length := List.findIdx_lt_length_of_exists (by simpa using hany)
    have hp1 : pr l[l.findIdx pr] = true := List.findIdx_getElem
    have hp0 : (!pr l[l.findIdx pr]) = false := by rw [hp1]; rfl
    have hbefore : (l.take (l.findIdx pr)).filter (fun x => !pr x) = l.take (l.findIdx pr) := by
      rw [List.filter_eq_self]
      intro x hx
      obtain ⟨j, hj, rfl⟩ := List.getElem_of_mem hx
      have hj' : j < l.findIdx pr := by simp at hj; omega
      have := List.not_of_lt_findIdx hj'
      simpa using this
    have hk0 := keep_snoc (fun x => !pr x) l (l.findIdx pr) hi0
    rw [hbefore] at hk0
    simp only [hp1, Bool.not_true, Bool.false_eq_true, if_false, List.append_nil] at hk0
    clear hbefore hp1
    generalize l.findIdx pr = i0 at ci hi0 hp0 hk0
    have hkl : ∀ j, i0 < j → ((l.take j).filter fun x => !pr x).length < j := fun j hj => keep_lt _ l j i0 hi0 hj hp0
    refine mcall_walk (N := 42) Try.func24 (by kernel_rfl) p_slices_DeleteFunc__caravel_api_Route_caravel_api_Route rfl rfl rfl ?_; intro gb pl; unfold c_slices_DeleteFunc__caravel_api_Route_caravel_api_Route; dsimp only [enum, ghB, ghR, k_lc, k_ln, k_ap, k_an, k_m0, k_mc, Nat.reduceAdd, Nat.zero_add, Nat.add_zero]
    (repeat (first | ((with_reducible show RG _ _ (_ :: _) _ _ _); refine RG.go1 (k := ?_)) | ((with_reducible show DG _ _ (_ :: _) _ _ _ _ _); refine DG.go1 (k := ?_)) | with_reducible apply RG.nil | with_reducible apply W.seq | with_reducible apply W.reg | with_reducible apply W.skip | with_reducible apply W.block | with_reducible apply W.drw | with_reducible apply DG.nil | (with_reducible refine W.done (QB.n ?_))))
    (first | ((with_reducible show RG _ _ (_ :: _) _ _ _); refine RG.ca (ci) (k := ?_)) | ((with_reducible show DG _ _ (_ :: _) _ _ _ _ _); refine DG.ca (ci) (k := ?_)))
    (repeat (first | ((with_reducible show RG _ _ (_ :: _) _ _ _); refine RG.go1 (k := ?_)) | ((with_reducible show DG _ _ (_ :: _) _ _ _ _ _); refine DG.go1 (k := ?_)) | with_reducible apply RG.nil | with_reducible apply W.seq | with_reducible apply W.reg | with_reducible apply W.skip | with_reducible apply W.block | with_reducible apply W.drw | with_reducible apply DG.nil | (with_reducible refine W.done (QB.n ?_))))
    refine W.cndF ?_
    (repeat (first | ((with_reducible show RG _ _ (_ :: _) _ _ _); refine RG.go1 (k := ?_)) | ((with_reducible show DG _ _ (_ :: _) _ _ _ _ _); refine DG.go1 (k := ?_)) | with_reducible apply RG.nil | with_reducible apply W.seq | with_reducible apply W.reg | with_reducible apply W.skip | with_reducible apply W.block | with_reducible apply W.drw | with_reducible apply DG.nil | (with_reducible refine W.done (QB.n ?_))))
    refine W.loop (ι := {j : Nat // i0 < j ∧ j ≤ l.length}) (fun j => ⟨[(6, .int .i64 j.1), (5, .int .i64 ((l.take j.1).filter fun x => !pr x).length), (0, .ref 0 9 0 l.length), (1, .fn f [.cptr true [.int .u8 m0, .int .u8 m1, .int .u8 m2, .int .u8 m3], .cptr true [.int .i64 mb]]), (1100000, .ratt 0 (pl 0))], [], [some ⟨false, 9, (((l.take j.1).filter fun x => !pr x) ++ l.drop ((l.take j.1).filter fun x => !pr x).length).map rt⟩], 0, 1⟩) (fun j => l.length - j.1) ⟨i0 + 1, by omega, by omega⟩ ?_ ?_
    · dsimp only
      rw [hk0]
      have e1 : (l.take i0).length = i0 := by simp; omega
      rw [e1, List.take_append_drop]
      exact Wk.rn ([] ) ( [0])
    rintro ⟨j, hj1, hj2⟩
    dsimp only
    have hkj := hkl j hj1
    have hks := keep_snoc (fun x => !pr x) l j
    have hrow : (((l.take j).filter fun x => !pr x) ++ l.drop ((l.take j).filter fun x => !pr x).length).length = l.length := by simp; omega
    have hat : ∀ h : j < l.length, (((((l.take j).filter fun x => !pr x) ++ l.drop ((l.take j).filter fun x => !pr x).length)).map rt)[j]?.getD .any = .agg [.int .u8 l[j].n0, .int .u8 l[j].n1, .int .u8 l[j].n2, .int .u8 l[j].n3, .int .i64 l[j].b, .int .u8 l[j].v0, .int .u8 l[j].v1, .int .u8 l[j].v2, .int .u8 l[j].v3] := fun h => by
      have e2 : (((l.take j).filter fun x => !pr x) ++ l.drop ((l.take j).filter fun x => !pr x).length)[j]? = some l[j] := by
        rw [List.getElem?_append_right (by omega), List.getElem?_drop, ← List.getElem?_eq_getElem h]
        congr 1; omega
      rw [List.getElem?_map, e2]; rfl
    have hset : ∀ x, ((((l.take j).filter fun x => !pr x) ++ l.drop ((l.take j).filter fun x => !pr x).length).map rt).set ((l.take j).filter fun x => !pr x).length (rt x) = ((((l.take j).filter fun x => !pr x) ++ [x]) ++ l.drop (((l.take j).filter fun x => !pr x).length + 1)).map rt := fun x => by
      rw [← List.map_set, set_app _ _ _ (by omega)]
    have hend : j = l.length → (l.take j).filter (fun x => !pr x) = l.filter (fun x => !pr x) := fun h => by rw [h, List.take_length]
    obtain ⟨kp, hkp⟩ : ∃ kp, (l.take j).filter (fun x => !pr x) = kp := ⟨_, rfl⟩
    rw [hkp] at hkj hks hrow hat hset hend ⊢
    have hrl : ((kp ++ l.drop kp.length).map rt).length = l.length := by rw [List.length_map]; exact hrow
    (repeat (first | ((with_reducible show RG _ _ (_ :: _) _ _ _); refine RG.go1 (k := ?_)) | ((with_reducible show DG _ _ (_ :: _) _ _ _ _ _); refine DG.go1 (k := ?_)) | with_reducible apply RG.nil | with_reducible apply W.seq | with_reducible apply W.reg | with_reducible apply W.skip | with_reducible apply W.block | with_reducible apply W.drw | with_reducible apply DG.nil | (with_reducible refine W.done (QB.n ?_))))
    refine W.cnd (fun h1 => ?_) (fun h1 => ?_)
    · have hlt : j < l.length := by simp at h1; omega
      have hks := hks hlt
      have hat := hat hlt
      have hc := hf _ (List.getElem_mem hlt)
      have hset := hset l[j]
      clear hend hkl hkp hk0
      cases hpj : pr l[j]
      · rw [hpj] at hc hks
        have hks : (l.take (j + 1)).filter (fun x => !pr x) = kp ++ [l[j]] := hks
        unfold rt at hset
        generalize l[j] = y at hc hks hat hset
        (repeat (first | ((with_reducible show RG _ _ (_ :: _) _ _ _); refine RG.go1 (k := ?_)) | ((with_reducible show DG _ _ (_ :: _) _ _ _ _ _); refine DG.go1 (k := ?_)) | with_reducible apply RG.nil | with_reducible apply W.seq | with_reducible apply W.reg | with_reducible apply W.skip | with_reducible apply W.block | with_reducible apply W.drw | with_reducible apply DG.nil | (with_reducible refine W.done (QB.n ?_))))
        (first | ((with_reducible show RG _ _ (_ :: _) _ _ _); refine RG.ew (ix_of ((show 0 + ((j : Int)).toNat = j by simp))) (k := ?_)) | ((with_reducible show DG _ _ (_ :: _) _ _ _ _ _); refine DG.ew (ix_of ((show 0 + ((j : Int)).toNat = j by simp))) (k := ?_)))
        (repeat (first | ((with_reducible show RG _ _ (_ :: _) _ _ _); refine RG.go1 (k := ?_)) | ((with_reducible show DG _ _ (_ :: _) _ _ _ _ _); refine DG.go1 (k := ?_)) | with_reducible apply RG.nil | with_reducible apply W.seq | with_reducible apply W.reg | with_reducible apply W.skip | with_reducible apply W.block | with_reducible apply W.drw | with_reducible apply DG.nil | (with_reducible refine W.done (QB.n ?_))))
        (first | ((with_reducible show RG _ _ (_ :: _) _ _ _); refine RG.sm (A.ldr (hat)) (k := ?_)) | ((with_reducible show DG _ _ (_ :: _) _ _ _ _ _); refine DG.sm (A.ldr (hat)) (k := ?_)))
        (repeat (first | ((with_reducible show RG _ _ (_ :: _) _ _ _); refine RG.go1 (k := ?_)) | ((with_reducible show DG _ _ (_ :: _) _ _ _ _ _); refine DG.go1 (k := ?_)) | with_reducible apply RG.nil | with_reducible apply W.seq | with_reducible apply W.reg | with_reducible apply W.skip | with_reducible apply W.block | with_reducible apply W.drw | with_reducible apply DG.nil | (with_reducible refine W.done (QB.n ?_))))
        (first | ((with_reducible show RG _ _ (_ :: _) _ _ _); refine RG.cav (hc) (k := ?_)) | ((with_reducible show DG _ _ (_ :: _) _ _ _ _ _); refine DG.cav (hc) (k := ?_)))
        (repeat (first | ((with_reducible show RG _ _ (_ :: _) _ _ _); refine RG.go1 (k := ?_)) | ((with_reducible show DG _ _ (_ :: _) _ _ _ _ _); refine DG.go1 (k := ?_)) | with_reducible apply RG.nil | with_reducible apply W.seq | with_reducible apply W.reg | with_reducible apply W.skip | with_reducible apply W.block | with_reducible apply W.drw | with_reducible apply DG.nil | (with_reducible refine W.done (QB.n ?_))))
        refine W.cndT ?_
        (repeat (first | ((with_reducible show RG _ _ (_ :: _) _ _ _); refine RG.go1 (k := ?_)) | ((with_reducible show DG _ _ (_ :: _) _ _ _ _ _); refine DG.go1 (k := ?_)) | with_reducible apply RG.nil | with_reducible apply W.seq | with_reducible apply W.reg | with_reducible apply W.skip | with_reducible apply W.block | with_reducible apply W.drw | with_reducible apply DG.nil | (with_reducible refine W.done (QB.n ?_))))
        (first | ((with_reducible show RG _ _ (_ :: _) _ _ _); refine RG.ew (ix_of ((show 0 + ((kp.length : Int)).toNat = kp.length by simp))) (k := ?_)) | ((with_reducible show DG _ _ (_ :: _) _ _ _ _ _); refine DG.ew (ix_of ((show 0 + ((kp.length : Int)).toNat = kp.length by simp))) (k := ?_)))
        (repeat (first | ((with_reducible show RG _ _ (_ :: _) _ _ _); refine RG.go1 (k := ?_)) | ((with_reducible show DG _ _ (_ :: _) _ _ _ _ _); refine DG.go1 (k := ?_)) | with_reducible apply RG.nil | with_reducible apply W.seq | with_reducible apply W.reg | with_reducible apply W.skip | with_reducible apply W.block | with_reducible apply W.drw | with_reducible apply DG.nil | (with_reducible refine W.done (QB.n ?_))))
        (first | ((with_reducible show RG _ _ (_ :: _) _ _ _); refine RG.sn (A.str (hset)) (k := ?_)) | ((with_reducible show DG _ _ (_ :: _) _ _ _ _ _); refine DG.sn (A.str (hset)) (k := ?_)))
        (repeat (first | ((with_reducible show RG _ _ (_ :: _) _ _ _); refine RG.go1 (k := ?_)) | ((with_reducible show DG _ _ (_ :: _) _ _ _ _ _); refine DG.go1 (k := ?_)) | with_reducible apply RG.nil | with_reducible apply W.seq | with_reducible apply W.reg | with_reducible apply W.skip | with_reducible apply W.block | with_reducible apply W.drw | with_reducible apply DG.nil | (with_reducible refine W.done (QB.n ?_))))
        refine W.done (QL.n (⟨j + 1, by omega, by omega⟩) ?_ ?_)
        · dsimp only
          rw [hks]
          have e3 : (kp ++ [y]).length = kp.length + 1 := by simp
          rw [e3]
          exact Wk.rn ([] ) ( [0])
        · dsimp only; omega
      · rw [hpj] at hc hks
        simp only [Bool.not_true, Bool.false_eq_true, if_false, List.append_nil] at hks
        (repeat (first | ((with_reducible show RG _ _ (_ :: _) _ _ _); refine RG.go1 (k := ?_)) | ((with_reducible show DG _ _ (_ :: _) _ _ _ _ _); refine DG.go1 (k := ?_)) | with_reducible apply RG.nil | with_reducible apply W.seq | with_reducible apply W.reg | with_reducible apply W.skip | with_reducible apply W.block | with_reducible apply W.drw | with_reducible apply DG.nil | (with_reducible refine W.done (QB.n ?_))))
        (first | ((with_reducible show RG _ _ (_ :: _) _ _ _); refine RG.ew (ix_of ((show 0 + ((j : Int)).toNat = j by simp))) (k := ?_)) | ((with_reducible show DG _ _ (_ :: _) _ _ _ _ _); refine DG.ew (ix_of ((show 0 + ((j : Int)).toNat = j by simp))) (k := ?_)))
        (repeat (first | ((with_reducible show RG _ _ (_ :: _) _ _ _); refine RG.go1 (k := ?_)) | ((with_reducible show DG _ _ (_ :: _) _ _ _ _ _); refine DG.go1 (k := ?_)) | with_reducible apply RG.nil | with_reducible apply W.seq | with_reducible apply W.reg | with_reducible apply W.skip | with_reducible apply W.block | with_reducible apply W.drw | with_reducible apply DG.nil | (with_reducible refine W.done (QB.n ?_))))
        (first | ((with_reducible show RG _ _ (_ :: _) _ _ _); refine RG.sm (A.ldr (hat)) (k := ?_)) | ((with_reducible show DG _ _ (_ :: _) _ _ _ _ _); refine DG.sm (A.ldr (hat)) (k := ?_)))
        (repeat (first | ((with_reducible show RG _ _ (_ :: _) _ _ _); refine RG.go1 (k := ?_)) | ((with_reducible show DG _ _ (_ :: _) _ _ _ _ _); refine DG.go1 (k := ?_)) | with_reducible apply RG.nil | with_reducible apply W.seq | with_reducible apply W.reg | with_reducible apply W.skip | with_reducible apply W.block | with_reducible apply W.drw | with_reducible apply DG.nil | (with_reducible refine W.done (QB.n ?_))))
        (first | ((with_reducible show RG _ _ (_ :: _) _ _ _); refine RG.cav (hc) (k := ?_)) | ((with_reducible show DG _ _ (_ :: _) _ _ _ _ _); refine DG.cav (hc) (k := ?_)))
        (repeat (first | ((with_reducible show RG _ _ (_ :: _) _ _ _); refine RG.go1 (k := ?_)) | ((with_reducible show DG _ _ (_ :: _) _ _ _ _ _); refine DG.go1 (k := ?_)) | with_reducible apply RG.nil | with_reducible apply W.seq | with_reducible apply W.reg | with_reducible apply W.skip | with_reducible apply W.block | with_reducible apply W.drw | with_reducible apply DG.nil | (with_reducible refine W.done (QB.n ?_))))
        refine W.cndF ?_
        (repeat (first | ((with_reducible show RG _ _ (_ :: _) _ _ _); refine RG.go1 (k := ?_)) | ((with_reducible show DG _ _ (_ :: _) _ _ _ _ _); refine DG.go1 (k := ?_)) | with_reducible apply RG.nil | with_reducible apply W.seq | with_reducible apply W.reg | with_reducible apply W.skip | with_reducible apply W.block | with_reducible apply W.drw | with_reducible apply DG.nil | (with_reducible refine W.done (QB.n ?_))))
        refine W.done (QL.n (⟨j + 1, by omega, by omega⟩) ?_ ?_)
        · dsimp only
          rw [hks]
          exact Wk.rn ([] ) ( [0])
        · dsimp only; omega
    · have hjn : j = l.length := by simp at h1; omega
      have hend := hend hjn
      rw [← hend]
      have hcl : ((kp ++ l.drop kp.length).map rt).take kp.length ++ (List.replicate (l.length - kp.length) (rt ⟨0, 0, 0, 0, 0, 0, 0, 0, 0⟩) ++ ((kp ++ l.drop kp.length).map rt).drop (kp.length + (l.length - kp.length))) = kp.map rt ++ List.replicate (l.length - kp.length) (rt ⟨0, 0, 0, 0, 0, 0, 0, 0, 0⟩) := by
        rw [List.map_append, List.take_left' (by simp), List.drop_of_length_le (by simp <;> omega), List.append_nil]
      have htr : (kp.map rt ++ List.replicate (l.length - kp.length) (rt ⟨0, 0, 0, 0, 0, 0, 0, 0, 0⟩)).take kp.length = kp.map rt := List.take_left' (by simp)
      have hll : (kp.map rt ++ List.replicate (l.length - kp.length) (rt ⟨0, 0, 0, 0, 0, 0, 0, 0, 0⟩)).length = l.length := by simp; omega
      clear hat hset hks hkl hk0 hp0 hf ci hany hend
      unfold rt at hcl htr hll
      (refine W.exit ?_; (repeat (first | (with_reducible first | refine QL.x ?_ | refine QC.x ?_ | refine QB.x ?_) | (with_reducible refine QB.o (by decide) ?_))))
      (repeat (first | ((with_reducible show RG _ _ (_ :: _) _ _ _); refine RG.go1 (k := ?_)) | ((with_reducible show DG _ _ (_ :: _) _ _ _ _ _); refine DG.go1 (k := ?_)) | with_reducible apply RG.nil | with_reducible apply W.seq | with_reducible apply W.reg | with_reducible apply W.skip | with_reducible apply W.block | with_reducible apply W.drw | with_reducible apply DG.nil | (with_reducible refine W.done (QB.n ?_))))
      (first | ((with_reducible show RG _ _ (_ :: _) _ _ _); refine RG.ew ((show AV.ref 0 9 (0 + (kp.length : Int).toNat) ((l.length : Int) - (kp.length : Int)).toNat = AV.ref 0 9 kp.length (l.length - kp.length) by congr 1 <;> omega)) (k := ?_)) | ((with_reducible show DG _ _ (_ :: _) _ _ _ _ _); refine DG.ew ((show AV.ref 0 9 (0 + (kp.length : Int).toNat) ((l.length : Int) - (kp.length : Int)).toNat = AV.ref 0 9 kp.length (l.length - kp.length) by congr 1 <;> omega)) (k := ?_)))
      (repeat (first | ((with_reducible show RG _ _ (_ :: _) _ _ _); refine RG.go1 (k := ?_)) | ((with_reducible show DG _ _ (_ :: _) _ _ _ _ _); refine DG.go1 (k := ?_)) | with_reducible apply RG.nil | with_reducible apply W.seq | with_reducible apply W.reg | with_reducible apply W.skip | with_reducible apply W.block | with_reducible apply W.drw | with_reducible apply DG.nil | (with_reducible refine W.done (QB.n ?_))))
      (first | ((with_reducible show RG _ _ (_ :: _) _ _ _); refine RG.sn (A.clr (hcl)) (k := ?_)) | ((with_reducible show DG _ _ (_ :: _) _ _ _ _ _); refine DG.sn (A.clr (hcl)) (k := ?_)))
      (repeat (first | ((with_reducible show RG _ _ (_ :: _) _ _ _); refine RG.go1 (k := ?_)) | ((with_reducible show DG _ _ (_ :: _) _ _ _ _ _); refine DG.go1 (k := ?_)) | with_reducible apply RG.nil | with_reducible apply W.seq | with_reducible apply W.reg | with_reducible apply W.skip | with_reducible apply W.block | with_reducible apply W.drw | with_reducible apply DG.nil | (with_reducible refine W.done (QB.n ?_))))
      (first | ((with_reducible show RG _ _ (_ :: _) _ _ _); refine RG.ew ((show AV.ref 0 9 (0 + (0 : Int).toNat) ((kp.length : Int) - 0).toNat = AV.ref 0 9 0 kp.length by first | (simp; (first | (all_goals fail) | fail)) | (congr 1 <;> omega))) (k := ?_)) | ((with_reducible show DG _ _ (_ :: _) _ _ _ _ _); refine DG.ew ((show AV.ref 0 9 (0 + (0 : Int).toNat) ((kp.length : Int) - 0).toNat = AV.ref 0 9 0 kp.length by first | (simp; (first | (all_goals fail) | fail)) | (congr 1 <;> omega))) (k := ?_)))
      (repeat (first | ((with_reducible show RG _ _ (_ :: _) _ _ _); refine RG.go1 (k := ?_)) | ((with_reducible show DG _ _ (_ :: _) _ _ _ _ _); refine DG.go1 (k := ?_)) | with_reducible apply RG.nil | with_reducible apply W.seq | with_reducible apply W.reg | with_reducible apply W.skip | with_reducible apply W.block | with_reducible apply W.drw | with_reducible apply DG.nil | (with_reducible refine W.done (QB.n ?_))))
      (refine W.ret ?_; (repeat (with_reducible first | refine QB.r ?_ | refine QL.r ?_ | refine QC.r ?_)); refine QM.r ?_)
      refine RetM.wk (Wk.trim (b := 0) kp.length rfl) ?_
      dsimp only [setO]
      rw [htr]
      exact RetM.rs (vs := [_]) (tm' := [(4, .ref 0 9 0 kp.length), (1100000, .ratt 0 (pl 0))]) r_slices_DeleteFunc__caravel_api_Route_caravel_api_Route ([]) ([0]) 0 1
theorem rtOvl : OvlF Try.prog 34 9 := ⟨_, 22, 4, 33, Try.func34, by kernel_rfl, by kernel_rfl, by kernel_rfl, by kernel_rfl, by kernel_rfl, by kernel_rfl⟩
theorem rtIns0_ok (es vs : List AV) (n i : Nat) (el : es.length = n) (hl : n ≤ 500000) (hp : es.all pureV = true) (hi : i ≤ n) (hvl : vs.length = 1) (hvp : vs.all pureV = true) :
    MCall Try.prog 28 [.ref 0 9 0 n, .int .i64 i, .sl true 9 vs] [] [⟨false, 9, es⟩] (.ref 1 9 0 (n + 1)) [] [none] [⟨false, 9, es.take i ++ (vs ++ es.drop i)⟩] := by
  by_cases hin : i = n
  · have hall : es ++ vs = es.take i ++ (vs ++ es.drop i) := by
      rw [List.take_of_length_le (by omega), List.drop_of_length_le (by omega), List.append_nil]
    subst hin
    refine mcall_walk (N := 95) Try.func28 (by kernel_rfl) p_slices_Insert__caravel_api_Route_caravel_api_Route rfl rfl rfl ?_; intro gb pl; unfold c_slices_Insert__caravel_api_Route_caravel_api_Route; dsimp only [enum, ghB, ghR, k_lc, k_ln, k_ap, k_an, k_m0, k_mc, Nat.reduceAdd, Nat.zero_add, Nat.add_zero]
    (repeat (first | ((with_reducible show RG _ _ (_ :: _) _ _ _); refine RG.go1 (k := ?_)) | ((with_reducible show DG _ _ (_ :: _) _ _ _ _ _); refine DG.go1 (k := ?_)) | with_reducible apply RG.nil | with_reducible apply W.seq | with_reducible apply W.reg | with_reducible apply W.skip | with_reducible apply W.block | with_reducible apply W.drw | with_reducible apply DG.nil | (with_reducible refine W.done (QB.n ?_))))
    (first | ((with_reducible show RG _ _ (_ :: _) _ _ _); refine RG.ew ((show AV.ref 0 9 (0 + (i : Int).toNat) ((i : Int) - (i : Int)).toNat = AV.ref 0 9 i 0 by congr 1 <;> omega)) (k := ?_)) | ((with_reducible show DG _ _ (_ :: _) _ _ _ _ _); refine DG.ew ((show AV.ref 0 9 (0 + (i : Int).toNat) ((i : Int) - (i : Int)).toNat = AV.ref 0 9 i 0 by congr 1 <;> omega)) (k := ?_)))
    (repeat (first | ((with_reducible show RG _ _ (_ :: _) _ _ _); refine RG.go1 (k := ?_)) | ((with_reducible show DG _ _ (_ :: _) _ _ _ _ _); refine DG.go1 (k := ?_)) | with_reducible apply RG.nil | with_reducible apply W.seq | with_reducible apply W.reg | with_reducible apply W.skip | with_reducible apply W.block | with_reducible apply W.drw | with_reducible apply DG.nil | (with_reducible refine W.done (QB.n ?_))))
    refine W.cndF ?_
    (repeat (first | ((with_reducible show RG _ _ (_ :: _) _ _ _); refine RG.go1 (k := ?_)) | ((with_reducible show DG _ _ (_ :: _) _ _ _ _ _); refine DG.go1 (k := ?_)) | with_reducible apply RG.nil | with_reducible apply W.seq | with_reducible apply W.reg | with_reducible apply W.skip | with_reducible apply W.block | with_reducible apply W.drw | with_reducible apply DG.nil | (with_reducible refine W.done (QB.n ?_))))
    refine W.cndT ?_
    (repeat (first | ((with_reducible show RG _ _ (_ :: _) _ _ _); refine RG.go1 (k := ?_)) | ((with_reducible show DG _ _ (_ :: _) _ _ _ _ _); refine DG.go1 (k := ?_)) | with_reducible apply RG.nil | with_reducible apply W.seq | with_reducible apply W.reg | with_reducible apply W.skip | with_reducible apply W.block | with_reducible apply W.drw | with_reducible apply DG.nil | (with_reducible refine W.done (QB.n ?_))))
    rw [hall]
    (refine W.ret ?_; (repeat (with_reducible first | refine QB.r ?_ | refine QL.r ?_ | refine QC.r ?_)); refine QM.r ?_)
    rw [hvl]
    exact RetM.rs (vs := [_]) (tm' := [(6, .ref 1 9 0 (i + 1))]) r_slices_Insert__caravel_api_Route_caravel_api_Route ([]) ([0, 1]) 0 2
  have hlt : i < n := by omega
  refine mcall_walk (N := 95) Try.func28 (by kernel_rfl) p_slices_Insert__caravel_api_Route_caravel_api_Route rfl rfl rfl ?_; intro gb pl; unfold c_slices_Insert__caravel_api_Route_caravel_api_Route; dsimp only [enum, ghB, ghR, k_lc, k_ln, k_ap, k_an, k_m0, k_mc, Nat.reduceAdd, Nat.zero_add, Nat.add_zero]
  (repeat (first | ((with_reducible show RG _ _ (_ :: _) _ _ _); refine RG.go1 (k := ?_)) | ((with_reducible show DG _ _ (_ :: _) _ _ _ _ _); refine DG.go1 (k := ?_)) | with_reducible apply RG.nil | with_reducible apply W.seq | with_reducible apply W.reg | with_reducible apply W.skip | with_reducible apply W.block | with_reducible apply W.drw | with_reducible apply DG.nil | (with_reducible refine W.done (QB.n ?_))))
  (first | ((with_reducible show RG _ _ (_ :: _) _ _ _); refine RG.ew ((show AV.ref 0 9 (0 + (i : Int).toNat) ((n : Int) - (i : Int)).toNat = AV.ref 0 9 i (n - i) by congr 1 <;> omega)) (k := ?_)) | ((with_reducible show DG _ _ (_ :: _) _ _ _ _ _); refine DG.ew ((show AV.ref 0 9 (0 + (i : Int).toNat) ((n : Int) - (i : Int)).toNat = AV.ref 0 9 i (n - i) by congr 1 <;> omega)) (k := ?_)))
  (repeat (first | ((with_reducible show RG _ _ (_ :: _) _ _ _); refine RG.go1 (k := ?_)) | ((with_reducible show DG _ _ (_ :: _) _ _ _ _ _); refine DG.go1 (k := ?_)) | with_reducible apply RG.nil | with_reducible apply W.seq | with_reducible apply W.reg | with_reducible apply W.skip | with_reducible apply W.block | with_reducible apply W.drw | with_reducible apply DG.nil | (with_reducible refine W.done (QB.n ?_))))
  refine W.cndF ?_
  (repeat (first | ((with_reducible show RG _ _ (_ :: _) _ _ _); refine RG.go1 (k := ?_)) | ((with_reducible show DG _ _ (_ :: _) _ _ _ _ _); refine DG.go1 (k := ?_)) | with_reducible apply RG.nil | with_reducible apply W.seq | with_reducible apply W.reg | with_reducible apply W.skip | with_reducible apply W.block | with_reducible apply W.drw | with_reducible apply DG.nil | (with_reducible refine W.done (QB.n ?_))))
  refine W.cndF ?_
  refine W.cap (t := 0) rfl fun c hc1 hc2 => ?_
  by_cases hroom : n + 1 ≤ c
  · refine W.room (t := 0) 1 rfl rfl (by omega) hroom (by decide) fun us hus => ?_
    have hrl : (es ++ us).length = n + 1 := by rw [List.length_append, el, hus]
    have hsrc : ((es ++ us).drop i).take (n + 1 - i) = es.drop i ++ us := by
      rw [List.drop_append_of_le_length (by omega)]
      exact List.take_of_length_le (by simp; omega)
    have hsl : (es.drop i ++ us).length = n + 1 - i := by simp; omega
    have hpu : ((es.drop i ++ us).take (n - i)).all pureV = true := by
      rw [List.take_left' (by simp; omega)]
      rw [List.all_eq_true] at hp ⊢
      exact fun y hy => hp y (List.mem_of_mem_drop hy)
    have h1 : (es ++ us).take (i + 1) ++ ((es.drop i ++ us).take (n - i) ++ (es ++ us).drop (i + 1 + (n - i))) = es.take (i + 1) ++ es.drop i := by
      rw [List.take_left' (l₁ := es.drop i) (by simp; omega), List.drop_of_length_le (l := es ++ us) (by omega), List.append_nil, List.take_append_of_le_length (by omega)]
    have hrl2 : (es.take (i + 1) ++ es.drop i).length = n + 1 := by simp; omega
    have hvt : vs.take (n + 1 - i) = vs := List.take_of_length_le (by omega)
    have h2 : (es.take (i + 1) ++ es.drop i).take i ++ (vs.take (n + 1 - i) ++ (es.take (i + 1) ++ es.drop i).drop (i + 1)) = es.take i ++ (vs ++ es.drop i) := by
      rw [hvt, List.take_append_of_le_length (by simp; omega), List.take_take, Nat.min_eq_left (by omega), List.drop_left' (by simp; omega)]
    have hp1 : (vs.take (n + 1 - i)).all pureV = true := by rw [hvt]; exact hvp
    clear hp
    (repeat (first | ((with_reducible show RG _ _ (_ :: _) _ _ _); refine RG.go1 (k := ?_)) | ((with_reducible show DG _ _ (_ :: _) _ _ _ _ _); refine DG.go1 (k := ?_)) | with_reducible apply RG.nil | with_reducible apply W.seq | with_reducible apply W.reg | with_reducible apply W.skip | with_reducible apply W.block | with_reducible apply W.drw | with_reducible apply DG.nil | (with_reducible refine W.done (QB.n ?_))))
    refine W.cndF ?_
    (repeat (first | ((with_reducible show RG _ _ (_ :: _) _ _ _); refine RG.go1 (k := ?_)) | ((with_reducible show DG _ _ (_ :: _) _ _ _ _ _); refine DG.go1 (k := ?_)) | with_reducible apply RG.nil | with_reducible apply W.seq | with_reducible apply W.reg | with_reducible apply W.skip | with_reducible apply W.block | with_reducible apply W.drw | with_reducible apply DG.nil | (with_reducible refine W.done (QB.n ?_))))
    (first | ((with_reducible show RG _ _ (_ :: _) _ _ _); refine RG.ew ((show AV.refc 0 9 (0 + (0 : Int).toNat) ((n : Int) + (vs.length : Int) - 0).toNat ((c : Int) - 0).toNat = AV.refc 0 9 0 (n + 1) c by congr 1 <;> omega)) (k := ?_)) | ((with_reducible show DG _ _ (_ :: _) _ _ _ _ _); refine DG.ew ((show AV.refc 0 9 (0 + (0 : Int).toNat) ((n : Int) + (vs.length : Int) - 0).toNat ((c : Int) - 0).toNat = AV.refc 0 9 0 (n + 1) c by congr 1 <;> omega)) (k := ?_)))
    (repeat (first | ((with_reducible show RG _ _ (_ :: _) _ _ _); refine RG.go1 (k := ?_)) | ((with_reducible show DG _ _ (_ :: _) _ _ _ _ _); refine DG.go1 (k := ?_)) | with_reducible apply RG.nil | with_reducible apply W.seq | with_reducible apply W.reg | with_reducible apply W.skip | with_reducible apply W.block | with_reducible apply W.drw | with_reducible apply DG.nil | (with_reducible refine W.done (QB.n ?_))))
    (first | ((with_reducible show RG _ _ (_ :: _) _ _ _); refine RG.ew ((show AV.refc 0 9 (0 + ((i : Int) + (vs.length : Int)).toNat) (((n + 1 : Nat) : Int) - ((i : Int) + (vs.length : Int))).toNat ((c : Int) - ((i : Int) + (vs.length : Int))).toNat = AV.refc 0 9 (i + 1) (n - i) (c - (i + 1)) by congr 1 <;> omega)) (k := ?_)) | ((with_reducible show DG _ _ (_ :: _) _ _ _ _ _); refine DG.ew ((show AV.refc 0 9 (0 + ((i : Int) + (vs.length : Int)).toNat) (((n + 1 : Nat) : Int) - ((i : Int) + (vs.length : Int))).toNat ((c : Int) - ((i : Int) + (vs.length : Int))).toNat = AV.refc 0 9 (i + 1) (n - i) (c - (i + 1)) by congr 1 <;> omega)) (k := ?_)))
    (repeat (first | ((with_reducible show RG _ _ (_ :: _) _ _ _); refine RG.go1 (k := ?_)) | ((with_reducible show DG _ _ (_ :: _) _ _ _ _ _); refine DG.go1 (k := ?_)) | with_reducible apply RG.nil | with_reducible apply W.seq | with_reducible apply W.reg | with_reducible apply W.skip | with_reducible apply W.block | with_reducible apply W.drw | with_reducible apply DG.nil | (with_reducible refine W.done (QB.n ?_))))
    have hvne : vs ≠ [] := by rintro rfl; simp at hvl
    (refine RG.ov (rtOvl) (k := ?_))
    (repeat (first | ((with_reducible show RG _ _ (_ :: _) _ _ _); refine RG.go1 (k := ?_)) | ((with_reducible show DG _ _ (_ :: _) _ _ _ _ _); refine DG.go1 (k := ?_)) | with_reducible apply RG.nil | with_reducible apply W.seq | with_reducible apply W.reg | with_reducible apply W.skip | with_reducible apply W.block | with_reducible apply W.drw | with_reducible apply DG.nil | (with_reducible refine W.done (QB.n ?_))))
    refine W.cndT ?_
    (repeat (first | ((with_reducible show RG _ _ (_ :: _) _ _ _); refine RG.go1 (k := ?_)) | ((with_reducible show DG _ _ (_ :: _) _ _ _ _ _); refine DG.go1 (k := ?_)) | with_reducible apply RG.nil | with_reducible apply W.seq | with_reducible apply W.reg | with_reducible apply W.skip | with_reducible apply W.block | with_reducible apply W.drw | with_reducible apply DG.nil | (with_reducible refine W.done (QB.n ?_))))
    (first | ((with_reducible show RG _ _ (_ :: _) _ _ _); refine RG.ew ((show AV.refc 0 9 (0 + ((i : Int) + (vs.length : Int)).toNat) (((n + 1 : Nat) : Int) - ((i : Int) + (vs.length : Int))).toNat ((c : Int) - ((i : Int) + (vs.length : Int))).toNat = AV.refc 0 9 (i + 1) (n - i) (c - (i + 1)) by congr 1 <;> omega)) (k := ?_)) | ((with_reducible show DG _ _ (_ :: _) _ _ _ _ _); refine DG.ew ((show AV.refc 0 9 (0 + ((i : Int) + (vs.length : Int)).toNat) (((n + 1 : Nat) : Int) - ((i : Int) + (vs.length : Int))).toNat ((c : Int) - ((i : Int) + (vs.length : Int))).toNat = AV.refc 0 9 (i + 1) (n - i) (c - (i + 1)) by congr 1 <;> omega)) (k := ?_)))
    (repeat (first | ((with_reducible show RG _ _ (_ :: _) _ _ _); refine RG.go1 (k := ?_)) | ((with_reducible show DG _ _ (_ :: _) _ _ _ _ _); refine DG.go1 (k := ?_)) | with_reducible apply RG.nil | with_reducible apply W.seq | with_reducible apply W.reg | with_reducible apply W.skip | with_reducible apply W.block | with_reducible apply W.drw | with_reducible apply DG.nil | (with_reducible refine W.done (QB.n ?_))))
    (first | ((with_reducible show RG _ _ (_ :: _) _ _ _); refine RG.ew ((show AV.refc 0 9 (0 + (i : Int).toNat) (((n + 1 : Nat) : Int) - (i : Int)).toNat ((c : Int) - (i : Int)).toNat = AV.refc 0 9 i (n + 1 - i) (c - i) by congr 1 <;> omega)) (k := ?_)) | ((with_reducible show DG _ _ (_ :: _) _ _ _ _ _); refine DG.ew ((show AV.refc 0 9 (0 + (i : Int).toNat) (((n + 1 : Nat) : Int) - (i : Int)).toNat ((c : Int) - (i : Int)).toNat = AV.refc 0 9 i (n + 1 - i) (c - i) by congr 1 <;> omega)) (k := ?_)))
    (repeat (first | ((with_reducible show RG _ _ (_ :: _) _ _ _); refine RG.go1 (k := ?_)) | ((with_reducible show DG _ _ (_ :: _) _ _ _ _ _); refine DG.go1 (k := ?_)) | with_reducible apply RG.nil | with_reducible apply W.seq | with_reducible apply W.reg | with_reducible apply W.skip | with_reducible apply W.block | with_reducible apply W.drw | with_reducible apply DG.nil | (with_reducible refine W.done (QB.n ?_))))
    (refine RG.sm (A.cpy (m := n - i) h1 (he := Els.refc (r := ⟨false, 9, es ++ us⟩) rfl rfl (show i + (n + 1 - i) ≤ (es ++ us).length by omega) hsrc) (hp := hpu) (hm := by omega)) (k := ?_))
    (repeat (first | ((with_reducible show RG _ _ (_ :: _) _ _ _); refine RG.go1 (k := ?_)) | ((with_reducible show DG _ _ (_ :: _) _ _ _ _ _); refine DG.go1 (k := ?_)) | with_reducible apply RG.nil | with_reducible apply W.seq | with_reducible apply W.reg | with_reducible apply W.skip | with_reducible apply W.block | with_reducible apply W.drw | with_reducible apply DG.nil | (with_reducible refine W.done (QB.n ?_))))
    (first | ((with_reducible show RG _ _ (_ :: _) _ _ _); refine RG.ew ((show AV.refc 0 9 (0 + (i : Int).toNat) (((n + 1 : Nat) : Int) - (i : Int)).toNat ((c : Int) - (i : Int)).toNat = AV.refc 0 9 i (n + 1 - i) (c - i) by congr 1 <;> omega)) (k := ?_)) | ((with_reducible show DG _ _ (_ :: _) _ _ _ _ _); refine DG.ew ((show AV.refc 0 9 (0 + (i : Int).toNat) (((n + 1 : Nat) : Int) - (i : Int)).toNat ((c : Int) - (i : Int)).toNat = AV.refc 0 9 i (n + 1 - i) (c - i) by congr 1 <;> omega)) (k := ?_)))
    (repeat (first | ((with_reducible show RG _ _ (_ :: _) _ _ _); refine RG.go1 (k := ?_)) | ((with_reducible show DG _ _ (_ :: _) _ _ _ _ _); refine DG.go1 (k := ?_)) | with_reducible apply RG.nil | with_reducible apply W.seq | with_reducible apply W.reg | with_reducible apply W.skip | with_reducible apply W.block | with_reducible apply W.drw | with_reducible apply DG.nil | (with_reducible refine W.done (QB.n ?_))))
    (refine RG.sm (A.cpy (m := 1) h2 (hp := hp1) (hm := by omega)) (k := ?_))
    (repeat (first | ((with_reducible show RG _ _ (_ :: _) _ _ _); refine RG.go1 (k := ?_)) | ((with_reducible show DG _ _ (_ :: _) _ _ _ _ _); refine DG.go1 (k := ?_)) | with_reducible apply RG.nil | with_reducible apply W.seq | with_reducible apply W.reg | with_reducible apply W.skip | with_reducible apply W.block | with_reducible apply W.drw | with_reducible apply DG.nil | (with_reducible refine W.done (QB.n ?_))))
    (refine W.ret ?_; (repeat (with_reducible first | refine QB.r ?_ | refine QL.r ?_ | refine QC.r ?_)); refine QM.r ?_)
    refine RetM.wk (Wk.tmp (t := 6) (y := .ref 0 9 0 (n + 1)) (Cl.le (ALe.refc _ _ _ _ _))) ?_
    exact RetM.rs (vs := [_]) (tm' := [(6, .ref 1 9 0 (n + 1))]) r_slices_Insert__caravel_api_Route_caravel_api_Route ([]) ([1, 0]) 0 2
  · obtain ⟨zv, hzv⟩ : ∃ zv, rt ⟨0, 0, 0, 0, 0, 0, 0, 0, 0⟩ = zv := ⟨_, rfl⟩
    have hrl : (es.take i ++ List.replicate (n + 1 - i) zv).length = n + 1 := by simp; omega
    have h0 : (es.drop 0).take i ++ List.replicate (n + 1 - i) (rt ⟨0, 0, 0, 0, 0, 0, 0, 0, 0⟩) = es.take i ++ List.replicate (n + 1 - i) zv := by rw [hzv]; rfl
    unfold rt at h0
    have hvt : vs.take (n + 1 - i) = vs := List.take_of_length_le (by omega)
    have hp1 : (vs.take (n + 1 - i)).all pureV = true := by rw [hvt]; exact hvp
    have h1 : (es.take i ++ List.replicate (n + 1 - i) zv).take i ++ (vs.take (n + 1 - i) ++ (es.take i ++ List.replicate (n + 1 - i) zv).drop (i + 1)) = es.take i ++ (vs ++ List.replicate (n - i) zv) := by
      rw [hvt, List.take_left' (by simp; omega), List.drop_append, List.drop_of_length_le (by simp; omega), List.nil_append, List.drop_replicate]
      congr 3
      simp; omega
    have hsl : (es.drop i).length = n - i := by simp; omega
    have hsrc : (es.drop i).take (n - i) = es.drop i := List.take_of_length_le (by omega)
    have hpu : ((es.drop i).take (n - i)).all pureV = true := by
      rw [hsrc]
      rw [List.all_eq_true] at hp ⊢
      exact fun y hy => hp y (List.mem_of_mem_drop hy)
    have hrl2 : (es.take i ++ (vs ++ List.replicate (n - i) zv)).length = n + 1 := by simp; omega
    have h2 : (es.take i ++ (vs ++ List.replicate (n - i) zv)).take (i + 1) ++ ((es.drop i).take (n - i) ++ (es.take i ++ (vs ++ List.replicate (n - i) zv)).drop (i + 1 + (n - i))) = es.take i ++ (vs ++ es.drop i) := by
      rw [hsrc, List.drop_of_length_le (l := es.take i ++ (vs ++ List.replicate (n - i) zv)) (by omega), List.append_nil, ← List.append_assoc, List.take_left' (by simp; omega), List.append_assoc]
    clear hp
    have hc3 : c < i + (n + 1 - i) := by omega
    (repeat (first | ((with_reducible show RG _ _ (_ :: _) _ _ _); refine RG.go1 (k := ?_)) | ((with_reducible show DG _ _ (_ :: _) _ _ _ _ _); refine DG.go1 (k := ?_)) | with_reducible apply RG.nil | with_reducible apply W.seq | with_reducible apply W.reg | with_reducible apply W.skip | with_reducible apply W.block | with_reducible apply W.drw | with_reducible apply DG.nil | (with_reducible refine W.done (QB.n ?_))))
    refine W.cndT ?_
    (repeat (first | ((with_reducible show RG _ _ (_ :: _) _ _ _); refine RG.go1 (k := ?_)) | ((with_reducible show DG _ _ (_ :: _) _ _ _ _ _); refine DG.go1 (k := ?_)) | with_reducible apply RG.nil | with_reducible apply W.seq | with_reducible apply W.reg | with_reducible apply W.skip | with_reducible apply W.block | with_reducible apply W.drw | with_reducible apply DG.nil | (with_reducible refine W.done (QB.n ?_))))
    (first | ((with_reducible show RG _ _ (_ :: _) _ _ _); refine RG.ew ((show AV.refc 0 9 (0 + (0 : Int).toNat) ((i : Int) - 0).toNat ((c : Int) - 0).toNat = AV.refc 0 9 0 i c by congr 1 <;> omega)) (k := ?_)) | ((with_reducible show DG _ _ (_ :: _) _ _ _ _ _); refine DG.ew ((show AV.refc 0 9 (0 + (0 : Int).toNat) ((i : Int) - 0).toNat ((c : Int) - 0).toNat = AV.refc 0 9 0 i c by congr 1 <;> omega)) (k := ?_)))
    (repeat (first | ((with_reducible show RG _ _ (_ :: _) _ _ _); refine RG.go1 (k := ?_)) | ((with_reducible show DG _ _ (_ :: _) _ _ _ _ _); refine DG.go1 (k := ?_)) | with_reducible apply RG.nil | with_reducible apply W.seq | with_reducible apply W.reg | with_reducible apply W.skip | with_reducible apply W.block | with_reducible apply W.drw | with_reducible apply DG.nil | (with_reducible refine W.done (QB.n ?_))))
    (refine RG.sm (A.appz (j := (n : Int) + (vs.length : Int) - (i : Int)) (q := n + 1 - i) (m := n + 1) (by omega) h0) (k := ?_))
    (repeat (first | ((with_reducible show RG _ _ (_ :: _) _ _ _); refine RG.go1 (k := ?_)) | ((with_reducible show DG _ _ (_ :: _) _ _ _ _ _); refine DG.go1 (k := ?_)) | with_reducible apply RG.nil | with_reducible apply W.seq | with_reducible apply W.reg | with_reducible apply W.skip | with_reducible apply W.block | with_reducible apply W.drw | with_reducible apply DG.nil | (with_reducible refine W.done (QB.n ?_))))
    (first | ((with_reducible show RG _ _ (_ :: _) _ _ _); refine RG.ew ((show AV.ref 1 9 (0 + (i : Int).toNat) (((n + 1 : Nat) : Int) - (i : Int)).toNat = AV.ref 1 9 i (n + 1 - i) by congr 1 <;> omega)) (k := ?_)) | ((with_reducible show DG _ _ (_ :: _) _ _ _ _ _); refine DG.ew ((show AV.ref 1 9 (0 + (i : Int).toNat) (((n + 1 : Nat) : Int) - (i : Int)).toNat = AV.ref 1 9 i (n + 1 - i) by congr 1 <;> omega)) (k := ?_)))
    (repeat (first | ((with_reducible show RG _ _ (_ :: _) _ _ _); refine RG.go1 (k := ?_)) | ((with_reducible show DG _ _ (_ :: _) _ _ _ _ _); refine DG.go1 (k := ?_)) | with_reducible apply RG.nil | with_reducible apply W.seq | with_reducible apply W.reg | with_reducible apply W.skip | with_reducible apply W.block | with_reducible apply W.drw | with_reducible apply DG.nil | (with_reducible refine W.done (QB.n ?_))))
    (refine RG.sm (A.cpy (m := 1) h1 (hp := hp1) (hm := by omega)) (k := ?_))
    (repeat (first | ((with_reducible show RG _ _ (_ :: _) _ _ _); refine RG.go1 (k := ?_)) | ((with_reducible show DG _ _ (_ :: _) _ _ _ _ _); refine DG.go1 (k := ?_)) | with_reducible apply RG.nil | with_reducible apply W.seq | with_reducible apply W.reg | with_reducible apply W.skip | with_reducible apply W.block | with_reducible apply W.drw | with_reducible apply DG.nil | (with_reducible refine W.done (QB.n ?_))))
    (first | ((with_reducible show RG _ _ (_ :: _) _ _ _); refine RG.ew ((show AV.ref 1 9 (0 + ((i : Int) + (vs.length : Int)).toNat) (((n + 1 : Nat) : Int) - ((i : Int) + (vs.length : Int))).toNat = AV.ref 1 9 (i + 1) (n - i) by congr 1 <;> omega)) (k := ?_)) | ((with_reducible show DG _ _ (_ :: _) _ _ _ _ _); refine DG.ew ((show AV.ref 1 9 (0 + ((i : Int) + (vs.length : Int)).toNat) (((n + 1 : Nat) : Int) - ((i : Int) + (vs.length : Int))).toNat = AV.ref 1 9 (i + 1) (n - i) by congr 1 <;> omega)) (k := ?_)))
    (repeat (first | ((with_reducible show RG _ _ (_ :: _) _ _ _); refine RG.go1 (k := ?_)) | ((with_reducible show DG _ _ (_ :: _) _ _ _ _ _); refine DG.go1 (k := ?_)) | with_reducible apply RG.nil | with_reducible apply W.seq | with_reducible apply W.reg | with_reducible apply W.skip | with_reducible apply W.block | with_reducible apply W.drw | with_reducible apply DG.nil | (with_reducible refine W.done (QB.n ?_))))
    (first | ((with_reducible show RG _ _ (_ :: _) _ _ _); refine RG.ew ((show AV.refc 0 9 (0 + (i : Int).toNat) ((n : Int) - (i : Int)).toNat ((c : Int) - (i : Int)).toNat = AV.refc 0 9 i (n - i) (c - i) by congr 1 <;> omega)) (k := ?_)) | ((with_reducible show DG _ _ (_ :: _) _ _ _ _ _); refine DG.ew ((show AV.refc 0 9 (0 + (i : Int).toNat) ((n : Int) - (i : Int)).toNat ((c : Int) - (i : Int)).toNat = AV.refc 0 9 i (n - i) (c - i) by congr 1 <;> omega)) (k := ?_)))
    (repeat (first | ((with_reducible show RG _ _ (_ :: _) _ _ _); refine RG.go1 (k := ?_)) | ((with_reducible show DG _ _ (_ :: _) _ _ _ _ _); refine DG.go1 (k := ?_)) | with_reducible apply RG.nil | with_reducible apply W.seq | with_reducible apply W.reg | with_reducible apply W.skip | with_reducible apply W.block | with_reducible apply W.drw | with_reducible apply DG.nil | (with_reducible refine W.done (QB.n ?_))))
    (refine RG.sm (A.cpy (m := n - i) h2 (he := Els.refc (r := ⟨false, 9, es⟩) rfl rfl (show i + (n - i) ≤ es.length by omega) hsrc) (hp := hpu) (hm := by omega)) (k := ?_))
    (repeat (first | ((with_reducible show RG _ _ (_ :: _) _ _ _); refine RG.go1 (k := ?_)) | ((with_reducible show DG _ _ (_ :: _) _ _ _ _ _); refine DG.go1 (k := ?_)) | with_reducible apply RG.nil | with_reducible apply W.seq | with_reducible apply W.reg | with_reducible apply W.skip | with_reducible apply W.block | with_reducible apply W.drw | with_reducible apply DG.nil | (with_reducible refine W.done (QB.n ?_))))
    (refine W.ret ?_; (repeat (with_reducible first | refine QB.r ?_ | refine QL.r ?_ | refine QC.r ?_)); refine QM.r ?_)
    exact RetM.rs (vs := [_]) (tm' := [(6, .ref 1 9 0 (n + 1))]) r_slices_Insert__caravel_api_Route_caravel_api_Route ([]) ([0, 1]) 0 2
theorem rtIns_ok (l : List Rt) (hl : l.length ≤ 500000) (i : Nat) (hi : i ≤ l.length) (x : Rt) :
    MCall Try.prog 28 [.ref 0 9 0 l.length, .int .i64 i, .sl true 9 [.agg [.int .u8 x.n0, .int .u8 x.n1, .int .u8 x.n2, .int .u8 x.n3, .int .i64 x.b, .int .u8 x.v0, .int .u8 x.v1, .int .u8 x.v2, .int .u8 x.v3]]] [] [⟨false, 9, l.map rt⟩] (.ref 1 9 0 (l.length + 1)) [] [none] [⟨false, 9, (l.take i ++ x :: l.drop i).map rt⟩] := by
  have q := rtIns0_ok (l.map rt) [rt x] l.length i (rt_len l) hl (rt_pure l) hi rfl (rt_pure [x])
  rw [show (l.take i ++ x :: l.drop i).map rt = (l.map rt).take i ++ ([rt x] ++ (l.map rt).drop i) by simp]
  exact q
end Go.Proofs.Yteljhabahaimpaa
