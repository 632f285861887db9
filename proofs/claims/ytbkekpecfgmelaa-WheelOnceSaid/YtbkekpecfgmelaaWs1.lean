/- Functions of package slices, at timers. -/
import Derived.Test.YtbkekpecfgmelaaCode
import Derived.Test.YtbkekpecfgmelaaAxR
namespace Go.Proofs.Ytbkekpecfgmelaa
open Go.RowKit
set_option linter.unusedVariables false
set_option linter.unusedSimpArgs false
set_option maxRecDepth 100000
set_option maxHeartbeats 4000000
structure Tmr where
  id : Int
  at_ : Int
def tmr (x : Tmr) : AV := .agg [.int .i64 x.id, .int .u64 x.at_]
theorem tl_at (l : List Tmr) (i : Nat) (h : i < l.length) {j : Nat} (hj : j = i) : (l.map tmr)[j]?.getD .any = .agg [.int .i64 l[i].id, .int .u64 l[i].at_] := at_map tmr l i _ (List.getElem?_eq_getElem h) hj
theorem tl_pure (l : List Tmr) : (l.map tmr).all pureV = true := by simp [tmr, pureV, pureC]
theorem tl_len (l : List Tmr) : (l.map tmr).length = l.length := by simp

theorem getD_lt {α : Type} (l : List α) (d : α) {i : Nat} (h : i < l.length) : l.getD i d = l[i] := by simp [h]
theorem map_take_snoc {α β : Type} (f : α → β) (l : List α) (i : Nat) (h : i < l.length) : (l.take i).map f ++ [f l[i]] = (l.take (i + 1)).map f := by
  rw [List.take_succ_eq_append_getElem h, List.map_append]; rfl
theorem keep_lt {α : Type} (p : α → Bool) : ∀ (l : List α) (j i : Nat) (h : i < l.length), i < j → p l[i] = false → ((l.take j).filter p).length < j
  | [], j, i, h, _, _ => absurd h (Nat.not_lt_zero _)
  | x :: l, 0, i, _, h, _ => absurd h (Nat.not_lt_zero _)
  | x :: l, j + 1, 0, _, _, hp => by
    have hp : p x = false := hp
    simp only [List.take_succ_cons, List.filter_cons, hp, Bool.false_eq_true, if_false]
    have := List.length_filter_le p (l.take j)
    have := List.length_take_le j l
    omega
  | x :: l, j + 1, i + 1, h, hij, hp => by
    have := keep_lt p l j i (by simpa using h) (by omega) (by simpa using hp)
    simp only [List.take_succ_cons, List.filter_cons]
    split
    · simp only [List.length_cons]; omega
    · omega
theorem keep_snoc {α : Type} (p : α → Bool) (l : List α) (j : Nat) (h : j < l.length) : (l.take (j + 1)).filter p = (l.take j).filter p ++ (if p l[j] then [l[j]] else []) := by
  rw [List.take_succ_eq_append_getElem h, List.filter_append]
  congr 1
  simp only [List.filter_cons, List.filter_nil]
theorem set_app {α : Type} (k : List α) (l : List α) (x : α) (h : k.length < l.length) : (k ++ l.drop k.length).set k.length x = (k ++ [x]) ++ l.drop (k.length + 1) := by
  rw [List.set_append_right _ _ (Nat.le_refl _), Nat.sub_self, List.drop_eq_getElem_cons h, List.set_cons_zero, List.append_assoc]
  rfl
theorem tlClone_ok (l : List Tmr) (hl : l.length ≤ 1000000) : ACall Try.prog 24 [.sl true 2 (l.map tmr)] (.ref 0 2 0 l.length) [⟨false, 2, l.map tmr⟩] := by
  have el := tl_len l
  have hp := tl_pure l
  by_cases hne : l = []
  · subst hne
    refine acall_empty 0 rfl ?_ (fun a c hc => ?_)
    · dsimp only [List.set]
      refine acall_walk (N := 8) Try.func24 (by kernel_rfl) p_slices_Clone__caravel_api_Timer_caravel_api_Timer rfl ?_; unfold c_slices_Clone__caravel_api_Timer_caravel_api_Timer; dsimp only [enum, Nat.reduceAdd]
      (repeat (first | ((with_reducible show RG _ _ (_ :: _) _ _ _); refine RG.go1 (k := ?_)) | ((with_reducible show DG _ _ (_ :: _) _ _ _ _ _); refine DG.go1 (k := ?_)) | (with_reducible first | apply RG.nil | apply W.seq | apply W.reg | apply W.skip | apply W.block | apply W.drw | apply DG.nil | refine W.done (QB.n ?_))))
      refine W.cndT ?_
      (repeat (first | ((with_reducible show RG _ _ (_ :: _) _ _ _); refine RG.go1 (k := ?_)) | ((with_reducible show DG _ _ (_ :: _) _ _ _ _ _); refine DG.go1 (k := ?_)) | (with_reducible first | apply RG.nil | apply W.seq | apply W.reg | apply W.skip | apply W.block | apply W.drw | apply DG.nil | refine W.done (QB.n ?_))))
      (refine W.ret ?_; (repeat (with_reducible first | refine QB.r ?_ | refine QL.r ?_ | refine QC.r ?_)); refine QF.r ?_)
      refine RetOk.wk (Wk.nilT (t := 2) 2 rfl) ?_
      exact RetOk.rs (vs := [_]) r_slices_Clone__caravel_api_Timer_caravel_api_Timer [0]
    · dsimp only [List.set]
      refine acall_walk (N := 8) Try.func24 (by kernel_rfl) p_slices_Clone__caravel_api_Timer_caravel_api_Timer rfl ?_; unfold c_slices_Clone__caravel_api_Timer_caravel_api_Timer; dsimp only [enum, Nat.reduceAdd]
      (repeat (first | ((with_reducible show RG _ _ (_ :: _) _ _ _); refine RG.go1 (k := ?_)) | ((with_reducible show DG _ _ (_ :: _) _ _ _ _ _); refine DG.go1 (k := ?_)) | (with_reducible first | apply RG.nil | apply W.seq | apply W.reg | apply W.skip | apply W.block | apply W.drw | apply DG.nil | refine W.done (QB.n ?_))))
      refine W.cndF ?_
      (repeat (first | ((with_reducible show RG _ _ (_ :: _) _ _ _); refine RG.go1 (k := ?_)) | ((with_reducible show DG _ _ (_ :: _) _ _ _ _ _); refine DG.go1 (k := ?_)) | (with_reducible first | apply RG.nil | apply W.seq | apply W.reg | apply W.skip | apply W.block | apply W.drw | apply DG.nil | refine W.done (QB.n ?_))))
      (refine W.ret ?_; (repeat (with_reducible first | refine QB.r ?_ | refine QL.r ?_ | refine QC.r ?_)); refine QF.r ?_)
      exact RetOk.rs (vs := [_]) r_slices_Clone__caravel_api_Timer_caravel_api_Timer [1]
  · have hne' : l.map tmr ≠ [] := by simpa using hne
    refine acall_walk (N := 8) Try.func24 (by kernel_rfl) p_slices_Clone__caravel_api_Timer_caravel_api_Timer rfl ?_; unfold c_slices_Clone__caravel_api_Timer_caravel_api_Timer; dsimp only [enum, Nat.reduceAdd]
    (repeat (first | ((with_reducible show RG _ _ (_ :: _) _ _ _); refine RG.go1 (k := ?_)) | ((with_reducible show DG _ _ (_ :: _) _ _ _ _ _); refine DG.go1 (k := ?_)) | (with_reducible first | apply RG.nil | apply W.seq | apply W.reg | apply W.skip | apply W.block | apply W.drw | apply DG.nil | refine W.done (QB.n ?_))))
    refine W.cndF ?_
    (repeat (first | ((with_reducible show RG _ _ (_ :: _) _ _ _); refine RG.go1 (k := ?_)) | ((with_reducible show DG _ _ (_ :: _) _ _ _ _ _); refine DG.go1 (k := ?_)) | (with_reducible first | apply RG.nil | apply W.seq | apply W.reg | apply W.skip | apply W.block | apply W.drw | apply DG.nil | refine W.done (QB.n ?_))))
    (refine W.ret ?_; (repeat (with_reducible first | refine QB.r ?_ | refine QL.r ?_ | refine QC.r ?_)); refine QF.r ?_)
    rw [el]
    exact RetOk.rs (vs := [_]) r_slices_Clone__caravel_api_Timer_caravel_api_Timer [1]
theorem tlIndex_ok (l : List Tmr) (hl : l.length ≤ 1000000) (f : Nat) (cid : Int) (pr : Tmr → Bool) (hf : ∀ x ∈ l, ACall Try.prog f [.agg [.int .i64 x.id, .int .u64 x.at_], .cptr true [.int .i64 cid]] (.bool (pr x)) []) :
    ACall Try.prog 26 [.sl true 2 (l.map tmr), .fn f [.cptr true [.int .i64 cid]]] (.int .i64 (if l.any pr then (l.findIdx pr : Int) else -1)) [] := by
  have el := tl_len l
  refine acall_walk (N := 19) Try.func26 (by kernel_rfl) p_slices_IndexFunc__caravel_api_Timer_caravel_api_Timer rfl ?_; unfold c_slices_IndexFunc__caravel_api_Timer_caravel_api_Timer; dsimp only [enum, Nat.reduceAdd]
  (repeat (first | ((with_reducible show RG _ _ (_ :: _) _ _ _); refine RG.go1 (k := ?_)) | ((with_reducible show DG _ _ (_ :: _) _ _ _ _ _); refine DG.go1 (k := ?_)) | (with_reducible first | apply RG.nil | apply W.seq | apply W.reg | apply W.skip | apply W.block | apply W.drw | apply DG.nil | refine W.done (QB.n ?_))))
  refine W.loop (ι := {i : Nat // i ≤ l.length ∧ ∀ j : Nat, (h : j < l.length) → j < i → pr l[j] = false}) (fun i => ⟨[(8, .int .i64 i.1), (7, .int .i64 l.length), (0, .sl true 2 (l.map tmr)), (1, .fn f [.cptr true [.int .i64 cid]])], [], [], 0, 0⟩) (fun i => l.length - i.1) ⟨0, Nat.zero_le _, fun j _ h => absurd h (Nat.not_lt_zero _)⟩ ?_ ?_
  · exact Wk.rn ([] ) ( [])
  rintro ⟨i, hi, hall⟩
  dsimp only
  (repeat (first | ((with_reducible show RG _ _ (_ :: _) _ _ _); refine RG.go1 (k := ?_)) | ((with_reducible show DG _ _ (_ :: _) _ _ _ _ _); refine DG.go1 (k := ?_)) | (with_reducible first | apply RG.nil | apply W.seq | apply W.reg | apply W.skip | apply W.block | apply W.drw | apply DG.nil | refine W.done (QB.n ?_))))
  refine W.cnd (fun h1 => ?_) (fun h1 => ?_)
  · have hlt : i < l.length := by simp at h1; omega
    have hE := tl_at l i hlt (j := ((i : Nat) : Int).toNat) (by simp)
    have hc := hf _ (List.getElem_mem hlt)
    cases hpi : pr l[i]
    · rw [hpi] at hc
      (repeat (first | ((with_reducible show RG _ _ (_ :: _) _ _ _); refine RG.go1 (k := ?_)) | ((with_reducible show DG _ _ (_ :: _) _ _ _ _ _); refine DG.go1 (k := ?_)) | (with_reducible first | apply RG.nil | apply W.seq | apply W.reg | apply W.skip | apply W.block | apply W.drw | apply DG.nil | refine W.done (QB.n ?_))))
      (first | ((with_reducible show RG _ _ (_ :: _) _ _ _); refine RG.ew (cptr_of (hE) (by (conv => lhs; whnf) <;> exact rfl)) (k := ?_)) | ((with_reducible show DG _ _ (_ :: _) _ _ _ _ _); refine DG.ew (cptr_of (hE) (by (conv => lhs; whnf) <;> exact rfl)) (k := ?_)))
      (repeat (first | ((with_reducible show RG _ _ (_ :: _) _ _ _); refine RG.go1 (k := ?_)) | ((with_reducible show DG _ _ (_ :: _) _ _ _ _ _); refine DG.go1 (k := ?_)) | (with_reducible first | apply RG.nil | apply W.seq | apply W.reg | apply W.skip | apply W.block | apply W.drw | apply DG.nil | refine W.done (QB.n ?_))))
      (first | ((with_reducible show RG _ _ (_ :: _) _ _ _); refine RG.cav (hc) (k := ?_)) | ((with_reducible show DG _ _ (_ :: _) _ _ _ _ _); refine DG.cav (hc) (k := ?_)))
      (repeat (first | ((with_reducible show RG _ _ (_ :: _) _ _ _); refine RG.go1 (k := ?_)) | ((with_reducible show DG _ _ (_ :: _) _ _ _ _ _); refine DG.go1 (k := ?_)) | (with_reducible first | apply RG.nil | apply W.seq | apply W.reg | apply W.skip | apply W.block | apply W.drw | apply DG.nil | refine W.done (QB.n ?_))))
      refine W.cndF ?_
      (repeat (first | ((with_reducible show RG _ _ (_ :: _) _ _ _); refine RG.go1 (k := ?_)) | ((with_reducible show DG _ _ (_ :: _) _ _ _ _ _); refine DG.go1 (k := ?_)) | (with_reducible first | apply RG.nil | apply W.seq | apply W.reg | apply W.skip | apply W.block | apply W.drw | apply DG.nil | refine W.done (QB.n ?_))))
      refine W.done (QL.n (⟨i + 1, by omega, fun j hj hji => by
        rcases Nat.lt_or_ge j i with q | q
        · exact hall j hj q
        · obtain rfl : j = i := by omega
          exact hpi⟩) ?_ ?_)
      · exact Wk.rn ([] ) ( [])
      · dsimp only; omega
    · rw [hpi] at hc
      have hany : l.any pr = true := by rw [List.any_eq_true]; exact ⟨_, List.getElem_mem hlt, hpi⟩
      have hidx : l.findIdx pr = i := (List.findIdx_eq hlt).2 ⟨hpi, fun j hj => hall j (by omega) hj⟩
      rw [hany, hidx]
      (repeat (first | ((with_reducible show RG _ _ (_ :: _) _ _ _); refine RG.go1 (k := ?_)) | ((with_reducible show DG _ _ (_ :: _) _ _ _ _ _); refine DG.go1 (k := ?_)) | (with_reducible first | apply RG.nil | apply W.seq | apply W.reg | apply W.skip | apply W.block | apply W.drw | apply DG.nil | refine W.done (QB.n ?_))))
      (first | ((with_reducible show RG _ _ (_ :: _) _ _ _); refine RG.ew (cptr_of (hE) (by (conv => lhs; whnf) <;> exact rfl)) (k := ?_)) | ((with_reducible show DG _ _ (_ :: _) _ _ _ _ _); refine DG.ew (cptr_of (hE) (by (conv => lhs; whnf) <;> exact rfl)) (k := ?_)))
      (repeat (first | ((with_reducible show RG _ _ (_ :: _) _ _ _); refine RG.go1 (k := ?_)) | ((with_reducible show DG _ _ (_ :: _) _ _ _ _ _); refine DG.go1 (k := ?_)) | (with_reducible first | apply RG.nil | apply W.seq | apply W.reg | apply W.skip | apply W.block | apply W.drw | apply DG.nil | refine W.done (QB.n ?_))))
      (first | ((with_reducible show RG _ _ (_ :: _) _ _ _); refine RG.cav (hc) (k := ?_)) | ((with_reducible show DG _ _ (_ :: _) _ _ _ _ _); refine DG.cav (hc) (k := ?_)))
      (repeat (first | ((with_reducible show RG _ _ (_ :: _) _ _ _); refine RG.go1 (k := ?_)) | ((with_reducible show DG _ _ (_ :: _) _ _ _ _ _); refine DG.go1 (k := ?_)) | (with_reducible first | apply RG.nil | apply W.seq | apply W.reg | apply W.skip | apply W.block | apply W.drw | apply DG.nil | refine W.done (QB.n ?_))))
      refine W.cndT ?_
      (repeat (first | ((with_reducible show RG _ _ (_ :: _) _ _ _); refine RG.go1 (k := ?_)) | ((with_reducible show DG _ _ (_ :: _) _ _ _ _ _); refine DG.go1 (k := ?_)) | (with_reducible first | apply RG.nil | apply W.seq | apply W.reg | apply W.skip | apply W.block | apply W.drw | apply DG.nil | refine W.done (QB.n ?_))))
      (refine W.ret ?_; (repeat (with_reducible first | refine QB.r ?_ | refine QL.r ?_ | refine QC.r ?_)); refine QF.r ?_)
      exact RetOk.rs (vs := [_]) r_slices_IndexFunc__caravel_api_Timer_caravel_api_Timer []
  have hany : l.any pr = false := by
    rw [List.any_eq_false]
    intro x hx
    obtain ⟨j, hj, rfl⟩ := List.getElem_of_mem hx
    simp at h1
    rw [hall j hj (by omega)]; simp
  rw [hany]
  (refine W.exit ?_; (repeat (first | (with_reducible first | refine QL.x ?_ | refine QC.x ?_ | refine QB.x ?_) | (with_reducible refine QB.o (by decide) ?_))))
  (repeat (first | ((with_reducible show RG _ _ (_ :: _) _ _ _); refine RG.go1 (k := ?_)) | ((with_reducible show DG _ _ (_ :: _) _ _ _ _ _); refine DG.go1 (k := ?_)) | (with_reducible first | apply RG.nil | apply W.seq | apply W.reg | apply W.skip | apply W.block | apply W.drw | apply DG.nil | refine W.done (QB.n ?_))))
  (refine W.ret ?_; (repeat (with_reducible first | refine QB.r ?_ | refine QL.r ?_ | refine QC.r ?_)); refine QF.r ?_)
  exact RetOk.rs (vs := [_]) r_slices_IndexFunc__caravel_api_Timer_caravel_api_Timer []
theorem tlDel_ok (l : List Tmr) (hl : l.length ≤ 1000000) (f : Nat) (cid : Int) (pr : Tmr → Bool) (hf : ∀ x ∈ l, ACall Try.prog f [.agg [.int .i64 x.id, .int .u64 x.at_], .cptr true [.int .i64 cid]] (.bool (pr x)) []) :
    MCall Try.prog 19 [.ref 0 2 0 l.length, .fn f [.cptr true [.int .i64 cid]]] [] [⟨false, 2, l.map tmr⟩] (.ref 0 2 0 (l.filter fun x => !pr x).length) [] [some ⟨false, 2, (l.filter fun x => !pr x).map tmr⟩] [] := by
  have ci := tlIndex_ok l hl f cid pr hf
  have el := tl_len l
  cases hany : l.any pr
  · rw [hany, if_neg (by decide)] at ci
    have hfl : (l.filter fun x => !pr x) = l := by
      rw [List.filter_eq_self]
      intro x hx
      rw [List.any_eq_false] at hany
      simpa using hany x hx
    rw [hfl]
    refine mcall_walk (N := 42) Try.func19 (by kernel_rfl) p_slices_DeleteFunc__caravel_api_Timer_caravel_api_Timer rfl rfl rfl ?_; intro gb pl; unfold c_slices_DeleteFunc__caravel_api_Timer_caravel_api_Timer; dsimp only [enum, ghB, ghR, k_lc, k_ln, k_ap, k_an, k_m0, k_mc, Nat.reduceAdd, Nat.zero_add, Nat.add_zero]
    (repeat (first | ((with_reducible show RG _ _ (_ :: _) _ _ _); refine RG.go1 (k := ?_)) | ((with_reducible show DG _ _ (_ :: _) _ _ _ _ _); refine DG.go1 (k := ?_)) | (with_reducible first | apply RG.nil | apply W.seq | apply W.reg | apply W.skip | apply W.block | apply W.drw | apply DG.nil | refine W.done (QB.n ?_))))
    (first | ((with_reducible show RG _ _ (_ :: _) _ _ _); refine RG.ca (ci) (k := ?_)) | ((with_reducible show DG _ _ (_ :: _) _ _ _ _ _); refine DG.ca (ci) (k := ?_)))
    (repeat (first | ((with_reducible show RG _ _ (_ :: _) _ _ _); refine RG.go1 (k := ?_)) | ((with_reducible show DG _ _ (_ :: _) _ _ _ _ _); refine DG.go1 (k := ?_)) | (with_reducible first | apply RG.nil | apply W.seq | apply W.reg | apply W.skip | apply W.block | apply W.drw | apply DG.nil | refine W.done (QB.n ?_))))
    refine W.cndT ?_
    (repeat (first | ((with_reducible show RG _ _ (_ :: _) _ _ _); refine RG.go1 (k := ?_)) | ((with_reducible show DG _ _ (_ :: _) _ _ _ _ _); refine DG.go1 (k := ?_)) | (with_reducible first | apply RG.nil | apply W.seq | apply W.reg | apply W.skip | apply W.block | apply W.drw | apply DG.nil | refine W.done (QB.n ?_))))
    (refine W.ret ?_; (repeat (with_reducible first | refine QB.r ?_ | refine QL.r ?_ | refine QC.r ?_)); refine QM.r ?_)
    exact RetM.rs (vs := [_]) (tm' := [(4, .ref 0 2 0 l.length), (1100000, .ratt 0 (pl 0))]) r_slices_DeleteFunc__caravel_api_Timer_caravel_api_Timer ([]) ([0]) 0 1
  · rw [hany, if_pos rfl] at ci
    have hi0 : l.findIdx pr < l.length := List.findIdx_lt_length_of_exists (by simpa using hany)
    have hp1 : pr l[l.findIdx pr] = true := List.findIdx_getElem
    have hp0 : (!pr l[l.findIdx pr]) = false := by rw [hp1]; rfl
    have hbefore : (l.take (l.findIdx pr)).filter (fun x => !pr x) = l.take (l.findIdx pr) := by
      rw [List.filter_eq_self]
      intro x hx
      obtain ⟨j, hj, rfl⟩ := List.getElem_of_mem hx
      have hj' : j < l.findIdx pr := by simp at hj; omega
      have := List.not_of_lt_findIdx hj'
      simpa using this
    have hk0 := keep_snoc (fun x => !pr x) l (l.findIdx pr) hi0
    rw [hbefore] at hk0
    simp only [hp1, Bool.not_true, Bool.false_eq_true, if_false, List.append_nil] at hk0
    clear hbefore hp1
    generalize l.findIdx pr = i0 at ci hi0 hp0 hk0
    have hkl : ∀ j, i0 < j → ((l.take j).filter fun x => !pr x).length < j := fun j hj => keep_lt _ l j i0 hi0 hj hp0
    refine mcall_walk (N := 42) Try.func19 (by kernel_rfl) p_slices_DeleteFunc__caravel_api_Timer_caravel_api_Timer rfl rfl rfl ?_; intro gb pl; unfold c_slices_DeleteFunc__caravel_api_Timer_caravel_api_Timer; dsimp only [enum, ghB, ghR, k_lc, k_ln, k_ap, k_an, k_m0, k_mc, Nat.reduceAdd, Nat.zero_add, Nat.add_zero]
    (repeat (first | ((with_reducible show RG _ _ (_ :: _) _ _ _); refine RG.go1 (k := ?_)) | ((with_reducible show DG _ _ (_ :: _) _ _ _ _ _); refine DG.go1 (k := ?_)) | (with_reducible first | apply RG.nil | apply W.seq | apply W.reg | apply W.skip | apply W.block | apply W.drw | apply DG.nil | refine W.done (QB.n ?_))))
    (first | ((with_reducible show RG _ _ (_ :: _) _ _ _); refine RG.ca (ci) (k := ?_)) | ((with_reducible show DG _ _ (_ :: _) _ _ _ _ _); refine DG.ca (ci) (k := ?_)))
    (repeat (first | ((with_reducible show RG _ _ (_ :: _) _ _ _); refine RG.go1 (k := ?_)) | ((with_reducible show DG _ _ (_ :: _) _ _ _ _ _); refine DG.go1 (k := ?_)) | (with_reducible first | apply RG.nil | apply W.seq | apply W.reg | apply W.skip | apply W.block | apply W.drw | apply DG.nil | refine W.done (QB.n ?_))))
    refine W.cndF ?_
    (repeat (first | ((with_reducible show RG _ _ (_ :: _) _ _ _); refine RG.go1 (k := ?_)) | ((with_reducible show DG _ _ (_ :: _) _ _ _ _ _); refine DG.go1 (k := ?_)) | (with_reducible first | apply RG.nil | apply W.seq | apply W.reg | apply W.skip | apply W.block | apply W.drw | apply DG.nil | refine W.done (QB.n ?_))))
    refine W.loop (ι := {j : Nat // i0 < j ∧ j ≤ l.length}) (fun j => ⟨[(6, .int .i64 j.1), (5, .int .i64 ((l.take j.1).filter fun x => !pr x).length), (0, .ref 0 2 0 l.length), (1, .fn f [.cptr true [.int .i64 cid]]), (1100000, .ratt 0 (pl 0))], [], [some ⟨false, 2, (((l.take j.1).filter fun x => !pr x) ++ l.drop ((l.take j.1).filter fun x => !pr x).length).map tmr⟩], 0, 1⟩) (fun j => l.length - j.1) ⟨i0 + 1, by omega, by omega⟩ ?_ ?_
    · dsimp only
      rw [hk0]
      have e1 : (l.take i0).length = i0 := by simp; omega
      rw [e1, List.take_append_drop]
      exact Wk.rn ([] ) ( [0])
    rintro ⟨j, hj1, hj2⟩
    dsimp only
    have hkj := hkl j hj1
    have hks := keep_snoc (fun x => !pr x) l j
    have hrow : (((l.take j).filter fun x => !pr x) ++ l.drop ((l.take j).filter fun x => !pr x).length).length = l.length := by simp; omega
    have hat : ∀ h : j < l.length, (((((l.take j).filter fun x => !pr x) ++ l.drop ((l.take j).filter fun x => !pr x).length)).map tmr)[j]?.getD .any = .agg [.int .i64 l[j].id, .int .u64 l[j].at_] := fun h => by
      have e2 : (((l.take j).filter fun x => !pr x) ++ l.drop ((l.take j).filter fun x => !pr x).length)[j]? = some l[j] := by
        rw [List.getElem?_append_right (by omega), List.getElem?_drop, ← List.getElem?_eq_getElem h]
        congr 1; omega
      rw [List.getElem?_map, e2]; rfl
    have hset : ∀ x, ((((l.take j).filter fun x => !pr x) ++ l.drop ((l.take j).filter fun x => !pr x).length).map tmr).set ((l.take j).filter fun x => !pr x).length (tmr x) = ((((l.take j).filter fun x => !pr x) ++ [x]) ++ l.drop (((l.take j).filter fun x => !pr x).length + 1)).map tmr := fun x => by
      rw [← List.map_set, set_app _ _ _ (by omega)]
    have hend : j = l.length → (l.take j).filter (fun x => !pr x) = l.filter (fun x => !pr x) := fun h => by rw [h, List.take_length]
    obtain ⟨kp, hkp⟩ : ∃ kp, (l.take j).filter (fun x => !pr x) = kp := ⟨_, rfl⟩
    rw [hkp] at hkj hks hrow hat hset hend ⊢
    have hrl : ((kp ++ l.drop kp.length).map tmr).length = l.length := by rw [List.length_map]; exact hrow
    (repeat (first | ((with_reducible show RG _ _ (_ :: _) _ _ _); refine RG.go1 (k := ?_)) | ((with_reducible show DG _ _ (_ :: _) _ _ _ _ _); refine DG.go1 (k := ?_)) | (with_reducible first | apply RG.nil | apply W.seq | apply W.reg | apply W.skip | apply W.block | apply W.drw | apply DG.nil | refine W.done (QB.n ?_))))
    refine W.cnd (fun h1 => ?_) (fun h1 => ?_)
    · have hlt : j < l.length := by simp at h1; omega
      have hks := hks hlt
      have hat := hat hlt
      have hc := hf _ (List.getElem_mem hlt)
      have hset := hset l[j]
      clear hend hkl hkp hk0
      cases hpj : pr l[j]
      · rw [hpj] at hc hks
        have hks : (l.take (j + 1)).filter (fun x => !pr x) = kp ++ [l[j]] := hks
        unfold tmr at hset
        generalize l[j] = y at hc hks hat hset
        (repeat (first | ((with_reducible show RG _ _ (_ :: _) _ _ _); refine RG.go1 (k := ?_)) | ((with_reducible show DG _ _ (_ :: _) _ _ _ _ _); refine DG.go1 (k := ?_)) | (with_reducible first | apply RG.nil | apply W.seq | apply W.reg | apply W.skip | apply W.block | apply W.drw | apply DG.nil | refine W.done (QB.n ?_))))
        (first | ((with_reducible show RG _ _ (_ :: _) _ _ _); refine RG.ew (ix_of ((show 0 + ((j : Int)).toNat = j by simp))) (k := ?_)) | ((with_reducible show DG _ _ (_ :: _) _ _ _ _ _); refine DG.ew (ix_of ((show 0 + ((j : Int)).toNat = j by simp))) (k := ?_)))
        (repeat (first | ((with_reducible show RG _ _ (_ :: _) _ _ _); refine RG.go1 (k := ?_)) | ((with_reducible show DG _ _ (_ :: _) _ _ _ _ _); refine DG.go1 (k := ?_)) | (with_reducible first | apply RG.nil | apply W.seq | apply W.reg | apply W.skip | apply W.block | apply W.drw | apply DG.nil | refine W.done (QB.n ?_))))
        (first | ((with_reducible show RG _ _ (_ :: _) _ _ _); refine RG.sm (A.ldr (hat)) (k := ?_)) | ((with_reducible show DG _ _ (_ :: _) _ _ _ _ _); refine DG.sm (A.ldr (hat)) (k := ?_)))
        (repeat (first | ((with_reducible show RG _ _ (_ :: _) _ _ _); refine RG.go1 (k := ?_)) | ((with_reducible show DG _ _ (_ :: _) _ _ _ _ _); refine DG.go1 (k := ?_)) | (with_reducible first | apply RG.nil | apply W.seq | apply W.reg | apply W.skip | apply W.block | apply W.drw | apply DG.nil | refine W.done (QB.n ?_))))
        (first | ((with_reducible show RG _ _ (_ :: _) _ _ _); refine RG.cav (hc) (k := ?_)) | ((with_reducible show DG _ _ (_ :: _) _ _ _ _ _); refine DG.cav (hc) (k := ?_)))
        (repeat (first | ((with_reducible show RG _ _ (_ :: _) _ _ _); refine RG.go1 (k := ?_)) | ((with_reducible show DG _ _ (_ :: _) _ _ _ _ _); refine DG.go1 (k := ?_)) | (with_reducible first | apply RG.nil | apply W.seq | apply W.reg | apply W.skip | apply W.block | apply W.drw | apply DG.nil | refine W.done (QB.n ?_))))
        refine W.cndT ?_
        (repeat (first | ((with_reducible show RG _ _ (_ :: _) _ _ _); refine RG.go1 (k := ?_)) | ((with_reducible show DG _ _ (_ :: _) _ _ _ _ _); refine DG.go1 (k := ?_)) | (with_reducible first | apply RG.nil | apply W.seq | apply W.reg | apply W.skip | apply W.block | apply W.drw | apply DG.nil | refine W.done (QB.n ?_))))
        (first | ((with_reducible show RG _ _ (_ :: _) _ _ _); refine RG.ew (ix_of ((show 0 + ((kp.length : Int)).toNat = kp.length by simp))) (k := ?_)) | ((with_reducible show DG _ _ (_ :: _) _ _ _ _ _); refine DG.ew (ix_of ((show 0 + ((kp.length : Int)).toNat = kp.length by simp))) (k := ?_)))
        (repeat (first | ((with_reducible show RG _ _ (_ :: _) _ _ _); refine RG.go1 (k := ?_)) | ((with_reducible show DG _ _ (_ :: _) _ _ _ _ _); refine DG.go1 (k := ?_)) | (with_reducible first | apply RG.nil | apply W.seq | apply W.reg | apply W.skip | apply W.block | apply W.drw | apply DG.nil | refine W.done (QB.n ?_))))
        (first | ((with_reducible show RG _ _ (_ :: _) _ _ _); refine RG.sn (A.str (hset)) (k := ?_)) | ((with_reducible show DG _ _ (_ :: _) _ _ _ _ _); refine DG.sn (A.str (hset)) (k := ?_)))
        (repeat (first | ((with_reducible show RG _ _ (_ :: _) _ _ _); refine RG.go1 (k := ?_)) | ((with_reducible show DG _ _ (_ :: _) _ _ _ _ _); refine DG.go1 (k := ?_)) | (with_reducible first | apply RG.nil | apply W.seq | apply W.reg | apply W.skip | apply W.block | apply W.drw | apply DG.nil | refine W.done (QB.n ?_))))
        refine W.done (QL.n (⟨j + 1, by omega, by omega⟩) ?_ ?_)
        · dsimp only
          rw [hks]
          have e3 : (kp ++ [y]).length = kp.length + 1 := by simp
          rw [e3]
          exact Wk.rn ([] ) ( [0])
        · dsimp only; omega
      · rw [hpj] at hc hks
        simp only [Bool.not_true, Bool.false_eq_true, if_false, List.append_nil] at hks
        (repeat (first | ((with_reducible show RG _ _ (_ :: _) _ _ _); refine RG.go1 (k := ?_)) | ((with_reducible show DG _ _ (_ :: _) _ _ _ _ _); refine DG.go1 (k := ?_)) | (with_reducible first | apply RG.nil | apply W.seq | apply W.reg | apply W.skip | apply W.block | apply W.drw | apply DG.nil | refine W.done (QB.n ?_))))
        (first | ((with_reducible show RG _ _ (_ :: _) _ _ _); refine RG.ew (ix_of ((show 0 + ((j : Int)).toNat = j by simp))) (k := ?_)) | ((with_reducible show DG _ _ (_ :: _) _ _ _ _ _); refine DG.ew (ix_of ((show 0 + ((j : Int)).toNat = j by simp))) (k := ?_)))
        (repeat (first | ((with_reducible show RG _ _ (_ :: _) _ _ _); refine RG.go1 (k := ?_)) | ((with_reducible show DG _ _ (_ :: _) _ _ _ _ _); refine DG.go1 (k := ?_)) | (with_reducible first | apply RG.nil | apply W.seq | apply W.reg | apply W.skip | apply W.block | apply W.drw | apply DG.nil | refine W.done (QB.n ?_))))
        (first | ((with_reducible show RG _ _ (_ :: _) _ _ _); refine RG.sm (A.ldr (hat)) (k := ?_)) | ((with_reducible show DG _ _ (_ :: _) _ _ _ _ _); refine DG.sm (A.ldr (hat)) (k := ?_)))
        (repeat (first | ((with_reducible show RG _ _ (_ :: _) _ _ _); refine RG.go1 (k := ?_)) | ((with_reducible show DG _ _ (_ :: _) _ _ _ _ _); refine DG.go1 (k := ?_)) | (with_reducible first | apply RG.nil | apply W.seq | apply W.reg | apply W.skip | apply W.block | apply W.drw | apply DG.nil | refine W.done (QB.n ?_))))
        (first | ((with_reducible show RG _ _ (_ :: _) _ _ _); refine RG.cav (hc) (k := ?_)) | ((with_reducible show DG _ _ (_ :: _) _ _ _ _ _); refine DG.cav (hc) (k := ?_)))
        (repeat (first | ((with_reducible show RG _ _ (_ :: _) _ _ _); refine RG.go1 (k := ?_)) | ((with_reducible show DG _ _ (_ :: _) _ _ _ _ _); refine DG.go1 (k := ?_)) | (with_reducible first | apply RG.nil | apply W.seq | apply W.reg | apply W.skip | apply W.block | apply W.drw | apply DG.nil | refine W.done (QB.n ?_))))
        refine W.cndF ?_
        (repeat (first | ((with_reducible show RG _ _ (_ :: _) _ _ _); refine RG.go1 (k := ?_)) | ((with_reducible show DG _ _ (_ :: _) _ _ _ _ _); refine DG.go1 (k := ?_)) | (with_reducible first | apply RG.nil | apply W.seq | apply W.reg | apply W.skip | apply W.block | apply W.drw | apply DG.nil | refine W.done (QB.n ?_))))
        refine W.done (QL.n (⟨j + 1, by omega, by omega⟩) ?_ ?_)
        · dsimp only
          rw [hks]
          exact Wk.rn ([] ) ( [0])
        · dsimp only; omega
    · have hjn : j = l.length := by simp at h1; omega
      have hend := hend hjn
      rw [← hend]
      have hcl : ((kp ++ l.drop kp.length).map tmr).take kp.length ++ (List.replicate (l.length - kp.length) (tmr ⟨0, 0⟩) ++ ((kp ++ l.drop kp.length).map tmr).drop (kp.length + (l.length - kp.length))) = kp.map tmr ++ List.replicate (l.length - kp.length) (tmr ⟨0, 0⟩) := by
        rw [List.map_append, List.take_left' (by simp), List.drop_of_length_le (by simp <;> omega), List.append_nil]
      have htr : (kp.map tmr ++ List.replicate (l.length - kp.length) (tmr ⟨0, 0⟩)).take kp.length = kp.map tmr := List.take_left' (by simp)
      have hll : (kp.map tmr ++ List.replicate (l.length - kp.length) (tmr ⟨0, 0⟩)).length = l.length := by simp; omega
      clear hat hset hks hkl hk0 hp0 hf ci hany hend
      unfold tmr at hcl htr hll
      (refine W.exit ?_; (repeat (first | (with_reducible first | refine QL.x ?_ | refine QC.x ?_ | refine QB.x ?_) | (with_reducible refine QB.o (by decide) ?_))))
      (repeat (first | ((with_reducible show RG _ _ (_ :: _) _ _ _); refine RG.go1 (k := ?_)) | ((with_reducible show DG _ _ (_ :: _) _ _ _ _ _); refine DG.go1 (k := ?_)) | (with_reducible first | apply RG.nil | apply W.seq | apply W.reg | apply W.skip | apply W.block | apply W.drw | apply DG.nil | refine W.done (QB.n ?_))))
      (first | ((with_reducible show RG _ _ (_ :: _) _ _ _); refine RG.ew ((show AV.ref 0 2 (0 + (kp.length : Int).toNat) ((l.length : Int) - (kp.length : Int)).toNat = AV.ref 0 2 kp.length (l.length - kp.length) by congr 1 <;> omega)) (k := ?_)) | ((with_reducible show DG _ _ (_ :: _) _ _ _ _ _); refine DG.ew ((show AV.ref 0 2 (0 + (kp.length : Int).toNat) ((l.length : Int) - (kp.length : Int)).toNat = AV.ref 0 2 kp.length (l.length - kp.length) by congr 1 <;> omega)) (k := ?_)))
      (repeat (first | ((with_reducible show RG _ _ (_ :: _) _ _ _); refine RG.go1 (k := ?_)) | ((with_reducible show DG _ _ (_ :: _) _ _ _ _ _); refine DG.go1 (k := ?_)) | (with_reducible first | apply RG.nil | apply W.seq | apply W.reg | apply W.skip | apply W.block | apply W.drw | apply DG.nil | refine W.done (QB.n ?_))))
      (first | ((with_reducible show RG _ _ (_ :: _) _ _ _); refine RG.sn (A.clr (hcl)) (k := ?_)) | ((with_reducible show DG _ _ (_ :: _) _ _ _ _ _); refine DG.sn (A.clr (hcl)) (k := ?_)))
      (repeat (first | ((with_reducible show RG _ _ (_ :: _) _ _ _); refine RG.go1 (k := ?_)) | ((with_reducible show DG _ _ (_ :: _) _ _ _ _ _); refine DG.go1 (k := ?_)) | (with_reducible first | apply RG.nil | apply W.seq | apply W.reg | apply W.skip | apply W.block | apply W.drw | apply DG.nil | refine W.done (QB.n ?_))))
      (first | ((with_reducible show RG _ _ (_ :: _) _ _ _); refine RG.ew ((show AV.ref 0 2 (0 + (0 : Int).toNat) ((kp.length : Int) - 0).toNat = AV.ref 0 2 0 kp.length by first | (simp; (first | (all_goals fail) | fail)) | (congr 1 <;> omega))) (k := ?_)) | ((with_reducible show DG _ _ (_ :: _) _ _ _ _ _); refine DG.ew ((show AV.ref 0 2 (0 + (0 : Int).toNat) ((kp.length : Int) - 0).toNat = AV.ref 0 2 0 kp.length by first | (simp; (first | (all_goals fail) | fail)) | (congr 1 <;> omega))) (k := ?_)))
      (repeat (first | ((with_reducible show RG _ _ (_ :: _) _ _ _); refine RG.go1 (k := ?_)) | ((with_reducible show DG _ _ (_ :: _) _ _ _ _ _); refine DG.go1 (k := ?_)) | (with_reducible first | apply RG.nil | apply W.seq | apply W.reg | apply W.skip | apply W.block | apply W.drw | apply DG.nil | refine W.done (QB.n ?_))))
      (refine W.ret ?_; (repeat (with_reducible first | refine QB.r ?_ | refine QL.r ?_ | refine QC.r ?_)); refine QM.r ?_)
      refine RetM.wk (Wk.trim (b := 0) kp.length rfl (Nat.succ_pos _)) ?_
      dsimp only [setO]
      rw [htr]
      exact RetM.rs (vs := [_]) (tm' := [(4, .ref 0 2 0 kp.length), (1100000, .ratt 0 (pl 0))]) r_slices_DeleteFunc__caravel_api_Timer_caravel_api_Timer ([]) ([0]) 0 1
end Go.Proofs.Ytbkekpecfgmelaa

namespace Go.Proofs.Ytbkekpecfgmelaa
open Go.RowKit
set_option linter.unusedVariables false
set_option linter.unusedSimpArgs false
set_option maxRecDepth 100000
set_option maxHeartbeats 4000000
theorem tlOvl : OvlF Try.prog 27 2 := ⟨_, 25, 4, 43, Try.func27, by kernel_rfl, by kernel_rfl, by kernel_rfl, by kernel_rfl, by kernel_rfl, by kernel_rfl⟩
theorem tlIns0_ok (es vs : List AV) (n i : Nat) (el : es.length = n) (hl : n ≤ 500000) (hp : es.all pureV = true) (hi : i ≤ n) (hvl : vs.length = 1) (hvp : vs.all pureV = true) :
    MCall Try.prog 21 [.ref 0 2 0 n, .int .i64 i, .sl true 2 vs] [] [⟨false, 2, es⟩] (.ref 1 2 0 (n + 1)) [] [none] [⟨false, 2, es.take i ++ (vs ++ es.drop i)⟩] := by
  by_cases hin : i = n
  · have hall : es ++ vs = es.take i ++ (vs ++ es.drop i) := by
      rw [List.take_of_length_le (by omega), List.drop_of_length_le (by omega), List.append_nil]
    subst hin
    refine mcall_walk (N := 95) Try.func21 (by kernel_rfl) p_slices_Insert__caravel_api_Timer_caravel_api_Timer rfl rfl rfl ?_; intro gb pl; unfold c_slices_Insert__caravel_api_Timer_caravel_api_Timer; dsimp only [enum, ghB, ghR, k_lc, k_ln, k_ap, k_an, k_m0, k_mc, Nat.reduceAdd, Nat.zero_add, Nat.add_zero]
    (repeat (first | ((with_reducible show RG _ _ (_ :: _) _ _ _); refine RG.go1 (k := ?_)) | ((with_reducible show DG _ _ (_ :: _) _ _ _ _ _); refine DG.go1 (k := ?_)) | (with_reducible first | apply RG.nil | apply W.seq | apply W.reg | apply W.skip | apply W.block | apply W.drw | apply DG.nil | refine W.done (QB.n ?_))))
    (first | ((with_reducible show RG _ _ (_ :: _) _ _ _); refine RG.ew ((show AV.ref 0 2 (0 + (i : Int).toNat) ((i : Int) - (i : Int)).toNat = AV.ref 0 2 i 0 by congr 1 <;> omega)) (k := ?_)) | ((with_reducible show DG _ _ (_ :: _) _ _ _ _ _); refine DG.ew ((show AV.ref 0 2 (0 + (i : Int).toNat) ((i : Int) - (i : Int)).toNat = AV.ref 0 2 i 0 by congr 1 <;> omega)) (k := ?_)))
    (repeat (first | ((with_reducible show RG _ _ (_ :: _) _ _ _); refine RG.go1 (k := ?_)) | ((with_reducible show DG _ _ (_ :: _) _ _ _ _ _); refine DG.go1 (k := ?_)) | (with_reducible first | apply RG.nil | apply W.seq | apply W.reg | apply W.skip | apply W.block | apply W.drw | apply DG.nil | refine W.done (QB.n ?_))))
    refine W.cndF ?_
    (repeat (first | ((with_reducible show RG _ _ (_ :: _) _ _ _); refine RG.go1 (k := ?_)) | ((with_reducible show DG _ _ (_ :: _) _ _ _ _ _); refine DG.go1 (k := ?_)) | (with_reducible first | apply RG.nil | apply W.seq | apply W.reg | apply W.skip | apply W.block | apply W.drw | apply DG.nil | refine W.done (QB.n ?_))))
    refine W.cndT ?_
    (repeat (first | ((with_reducible show RG _ _ (_ :: _) _ _ _); refine RG.go1 (k := ?_)) | ((with_reducible show DG _ _ (_ :: _) _ _ _ _ _); refine DG.go1 (k := ?_)) | (with_reducible first | apply RG.nil | apply W.seq | apply W.reg | apply W.skip | apply W.block | apply W.drw | apply DG.nil | refine W.done (QB.n ?_))))
    rw [hall]
    (refine W.ret ?_; (repeat (with_reducible first | refine QB.r ?_ | refine QL.r ?_ | refine QC.r ?_)); refine QM.r ?_)
    rw [hvl]
    exact RetM.rs (vs := [_]) (tm' := [(6, .ref 1 2 0 (i + 1))]) r_slices_Insert__caravel_api_Timer_caravel_api_Timer ([]) ([0, 1]) 0 2
  have hlt : i < n := by omega
  refine mcall_walk (N := 95) Try.func21 (by kernel_rfl) p_slices_Insert__caravel_api_Timer_caravel_api_Timer rfl rfl rfl ?_; intro gb pl; unfold c_slices_Insert__caravel_api_Timer_caravel_api_Timer; dsimp only [enum, ghB, ghR, k_lc, k_ln, k_ap, k_an, k_m0, k_mc, Nat.reduceAdd, Nat.zero_add, Nat.add_zero]
  (repeat (first | ((with_reducible show RG _ _ (_ :: _) _ _ _); refine RG.go1 (k := ?_)) | ((with_reducible show DG _ _ (_ :: _) _ _ _ _ _); refine DG.go1 (k := ?_)) | (with_reducible first | apply RG.nil | apply W.seq | apply W.reg | apply W.skip | apply W.block | apply W.drw | apply DG.nil | refine W.done (QB.n ?_))))
  (first | ((with_reducible show RG _ _ (_ :: _) _ _ _); refine RG.ew ((show AV.ref 0 2 (0 + (i : Int).toNat) ((n : Int) - (i : Int)).toNat = AV.ref 0 2 i (n - i) by congr 1 <;> omega)) (k := ?_)) | ((with_reducible show DG _ _ (_ :: _) _ _ _ _ _); refine DG.ew ((show AV.ref 0 2 (0 + (i : Int).toNat) ((n : Int) - (i : Int)).toNat = AV.ref 0 2 i (n - i) by congr 1 <;> omega)) (k := ?_)))
  (repeat (first | ((with_reducible show RG _ _ (_ :: _) _ _ _); refine RG.go1 (k := ?_)) | ((with_reducible show DG _ _ (_ :: _) _ _ _ _ _); refine DG.go1 (k := ?_)) | (with_reducible first | apply RG.nil | apply W.seq | apply W.reg | apply W.skip | apply W.block | apply W.drw | apply DG.nil | refine W.done (QB.n ?_))))
  refine W.cndF ?_
  (repeat (first | ((with_reducible show RG _ _ (_ :: _) _ _ _); refine RG.go1 (k := ?_)) | ((with_reducible show DG _ _ (_ :: _) _ _ _ _ _); refine DG.go1 (k := ?_)) | (with_reducible first | apply RG.nil | apply W.seq | apply W.reg | apply W.skip | apply W.block | apply W.drw | apply DG.nil | refine W.done (QB.n ?_))))
  refine W.cndF ?_
  refine W.cap (t := 0) rfl fun c hc1 hc2 => ?_
  by_cases hroom : n + 1 ≤ c
  · refine W.room (t := 0) 1 rfl rfl (by omega) hroom (by decide) fun us hus => ?_
    have hrl : (es ++ us).length = n + 1 := by rw [List.length_append, el, hus]
    have hsrc : ((es ++ us).drop i).take (n + 1 - i) = es.drop i ++ us := by
      rw [List.drop_append_of_le_length (by omega)]
      exact List.take_of_length_le (by simp; omega)
    have hsl : (es.drop i ++ us).length = n + 1 - i := by simp; omega
    have hpu : ((es.drop i ++ us).take (n - i)).all pureV = true := by
      rw [List.take_left' (by simp; omega)]
      rw [List.all_eq_true] at hp ⊢
      exact fun y hy => hp y (List.mem_of_mem_drop hy)
    have h1 : (es ++ us).take (i + 1) ++ ((es.drop i ++ us).take (n - i) ++ (es ++ us).drop (i + 1 + (n - i))) = es.take (i + 1) ++ es.drop i := by
      rw [List.take_left' (l₁ := es.drop i) (by simp; omega), List.drop_of_length_le (l := es ++ us) (by omega), List.append_nil, List.take_append_of_le_length (by omega)]
    have hrl2 : (es.take (i + 1) ++ es.drop i).length = n + 1 := by simp; omega
    have hvt : vs.take (n + 1 - i) = vs := List.take_of_length_le (by omega)
    have h2 : (es.take (i + 1) ++ es.drop i).take i ++ (vs.take (n + 1 - i) ++ (es.take (i + 1) ++ es.drop i).drop (i + 1)) = es.take i ++ (vs ++ es.drop i) := by
      rw [hvt, List.take_append_of_le_length (by simp; omega), List.take_take, Nat.min_eq_left (by omega), List.drop_left' (by simp; omega)]
    have hp1 : (vs.take (n + 1 - i)).all pureV = true := by rw [hvt]; exact hvp
    clear hp
    (repeat (first | ((with_reducible show RG _ _ (_ :: _) _ _ _); refine RG.go1 (k := ?_)) | ((with_reducible show DG _ _ (_ :: _) _ _ _ _ _); refine DG.go1 (k := ?_)) | (with_reducible first | apply RG.nil | apply W.seq | apply W.reg | apply W.skip | apply W.block | apply W.drw | apply DG.nil | refine W.done (QB.n ?_))))
    refine W.cndF ?_
    (repeat (first | ((with_reducible show RG _ _ (_ :: _) _ _ _); refine RG.go1 (k := ?_)) | ((with_reducible show DG _ _ (_ :: _) _ _ _ _ _); refine DG.go1 (k := ?_)) | (with_reducible first | apply RG.nil | apply W.seq | apply W.reg | apply W.skip | apply W.block | apply W.drw | apply DG.nil | refine W.done (QB.n ?_))))
    (first | ((with_reducible show RG _ _ (_ :: _) _ _ _); refine RG.ew ((show AV.refc 0 2 (0 + (0 : Int).toNat) ((n : Int) + (vs.length : Int) - 0).toNat ((c : Int) - 0).toNat = AV.refc 0 2 0 (n + 1) c by congr 1 <;> omega)) (k := ?_)) | ((with_reducible show DG _ _ (_ :: _) _ _ _ _ _); refine DG.ew ((show AV.refc 0 2 (0 + (0 : Int).toNat) ((n : Int) + (vs.length : Int) - 0).toNat ((c : Int) - 0).toNat = AV.refc 0 2 0 (n + 1) c by congr 1 <;> omega)) (k := ?_)))
    (repeat (first | ((with_reducible show RG _ _ (_ :: _) _ _ _); refine RG.go1 (k := ?_)) | ((with_reducible show DG _ _ (_ :: _) _ _ _ _ _); refine DG.go1 (k := ?_)) | (with_reducible first | apply RG.nil | apply W.seq | apply W.reg | apply W.skip | apply W.block | apply W.drw | apply DG.nil | refine W.done (QB.n ?_))))
    (first | ((with_reducible show RG _ _ (_ :: _) _ _ _); refine RG.ew ((show AV.refc 0 2 (0 + ((i : Int) + (vs.length : Int)).toNat) (((n + 1 : Nat) : Int) - ((i : Int) + (vs.length : Int))).toNat ((c : Int) - ((i : Int) + (vs.length : Int))).toNat = AV.refc 0 2 (i + 1) (n - i) (c - (i + 1)) by congr 1 <;> omega)) (k := ?_)) | ((with_reducible show DG _ _ (_ :: _) _ _ _ _ _); refine DG.ew ((show AV.refc 0 2 (0 + ((i : Int) + (vs.length : Int)).toNat) (((n + 1 : Nat) : Int) - ((i : Int) + (vs.length : Int))).toNat ((c : Int) - ((i : Int) + (vs.length : Int))).toNat = AV.refc 0 2 (i + 1) (n - i) (c - (i + 1)) by congr 1 <;> omega)) (k := ?_)))
    (repeat (first | ((with_reducible show RG _ _ (_ :: _) _ _ _); refine RG.go1 (k := ?_)) | ((with_reducible show DG _ _ (_ :: _) _ _ _ _ _); refine DG.go1 (k := ?_)) | (with_reducible first | apply RG.nil | apply W.seq | apply W.reg | apply W.skip | apply W.block | apply W.drw | apply DG.nil | refine W.done (QB.n ?_))))
    have hvne : vs ≠ [] := by rintro rfl; simp at hvl
    (refine RG.ov (tlOvl) (k := ?_))
    (repeat (first | ((with_reducible show RG _ _ (_ :: _) _ _ _); refine RG.go1 (k := ?_)) | ((with_reducible show DG _ _ (_ :: _) _ _ _ _ _); refine DG.go1 (k := ?_)) | (with_reducible first | apply RG.nil | apply W.seq | apply W.reg | apply W.skip | apply W.block | apply W.drw | apply DG.nil | refine W.done (QB.n ?_))))
    refine W.cndT ?_
    (repeat (first | ((with_reducible show RG _ _ (_ :: _) _ _ _); refine RG.go1 (k := ?_)) | ((with_reducible show DG _ _ (_ :: _) _ _ _ _ _); refine DG.go1 (k := ?_)) | (with_reducible first | apply RG.nil | apply W.seq | apply W.reg | apply W.skip | apply W.block | apply W.drw | apply DG.nil | refine W.done (QB.n ?_))))
    (first | ((with_reducible show RG _ _ (_ :: _) _ _ _); refine RG.ew ((show AV.refc 0 2 (0 + ((i : Int) + (vs.length : Int)).toNat) (((n + 1 : Nat) : Int) - ((i : Int) + (vs.length : Int))).toNat ((c : Int) - ((i : Int) + (vs.length : Int))).toNat = AV.refc 0 2 (i + 1) (n - i) (c - (i + 1)) by congr 1 <;> omega)) (k := ?_)) | ((with_reducible show DG _ _ (_ :: _) _ _ _ _ _); refine DG.ew ((show AV.refc 0 2 (0 + ((i : Int) + (vs.length : Int)).toNat) (((n + 1 : Nat) : Int) - ((i : Int) + (vs.length : Int))).toNat ((c : Int) - ((i : Int) + (vs.length : Int))).toNat = AV.refc 0 2 (i + 1) (n - i) (c - (i + 1)) by congr 1 <;> omega)) (k := ?_)))
    (repeat (first | ((with_reducible show RG _ _ (_ :: _) _ _ _); refine RG.go1 (k := ?_)) | ((with_reducible show DG _ _ (_ :: _) _ _ _ _ _); refine DG.go1 (k := ?_)) | (with_reducible first | apply RG.nil | apply W.seq | apply W.reg | apply W.skip | apply W.block | apply W.drw | apply DG.nil | refine W.done (QB.n ?_))))
    (first | ((with_reducible show RG _ _ (_ :: _) _ _ _); refine RG.ew ((show AV.refc 0 2 (0 + (i : Int).toNat) (((n + 1 : Nat) : Int) - (i : Int)).toNat ((c : Int) - (i : Int)).toNat = AV.refc 0 2 i (n + 1 - i) (c - i) by congr 1 <;> omega)) (k := ?_)) | ((with_reducible show DG _ _ (_ :: _) _ _ _ _ _); refine DG.ew ((show AV.refc 0 2 (0 + (i : Int).toNat) (((n + 1 : Nat) : Int) - (i : Int)).toNat ((c : Int) - (i : Int)).toNat = AV.refc 0 2 i (n + 1 - i) (c - i) by congr 1 <;> omega)) (k := ?_)))
    (repeat (first | ((with_reducible show RG _ _ (_ :: _) _ _ _); refine RG.go1 (k := ?_)) | ((with_reducible show DG _ _ (_ :: _) _ _ _ _ _); refine DG.go1 (k := ?_)) | (with_reducible first | apply RG.nil | apply W.seq | apply W.reg | apply W.skip | apply W.block | apply W.drw | apply DG.nil | refine W.done (QB.n ?_))))
    (refine RG.sm (A.cpy (m := n - i) h1 (he := Els.refc (r := ⟨false, 2, es ++ us⟩) rfl rfl (show i + (n + 1 - i) ≤ (es ++ us).length by omega) hsrc) (hp := hpu) (hm := by omega)) (k := ?_))
    (repeat (first | ((with_reducible show RG _ _ (_ :: _) _ _ _); refine RG.go1 (k := ?_)) | ((with_reducible show DG _ _ (_ :: _) _ _ _ _ _); refine DG.go1 (k := ?_)) | (with_reducible first | apply RG.nil | apply W.seq | apply W.reg | apply W.skip | apply W.block | apply W.drw | apply DG.nil | refine W.done (QB.n ?_))))
    (first | ((with_reducible show RG _ _ (_ :: _) _ _ _); refine RG.ew ((show AV.refc 0 2 (0 + (i : Int).toNat) (((n + 1 : Nat) : Int) - (i : Int)).toNat ((c : Int) - (i : Int)).toNat = AV.refc 0 2 i (n + 1 - i) (c - i) by congr 1 <;> omega)) (k := ?_)) | ((with_reducible show DG _ _ (_ :: _) _ _ _ _ _); refine DG.ew ((show AV.refc 0 2 (0 + (i : Int).toNat) (((n + 1 : Nat) : Int) - (i : Int)).toNat ((c : Int) - (i : Int)).toNat = AV.refc 0 2 i (n + 1 - i) (c - i) by congr 1 <;> omega)) (k := ?_)))
    (repeat (first | ((with_reducible show RG _ _ (_ :: _) _ _ _); refine RG.go1 (k := ?_)) | ((with_reducible show DG _ _ (_ :: _) _ _ _ _ _); refine DG.go1 (k := ?_)) | (with_reducible first | apply RG.nil | apply W.seq | apply W.reg | apply W.skip | apply W.block | apply W.drw | apply DG.nil | refine W.done (QB.n ?_))))
    (refine RG.sm (A.cpy (m := 1) h2 (hp := hp1) (hm := by omega)) (k := ?_))
    (repeat (first | ((with_reducible show RG _ _ (_ :: _) _ _ _); refine RG.go1 (k := ?_)) | ((with_reducible show DG _ _ (_ :: _) _ _ _ _ _); refine DG.go1 (k := ?_)) | (with_reducible first | apply RG.nil | apply W.seq | apply W.reg | apply W.skip | apply W.block | apply W.drw | apply DG.nil | refine W.done (QB.n ?_))))
    (refine W.ret ?_; (repeat (with_reducible first | refine QB.r ?_ | refine QL.r ?_ | refine QC.r ?_)); refine QM.r ?_)
    refine RetM.wk (Wk.tmp (t := 6) (y := .ref 0 2 0 (n + 1)) (Cl.le (ALe.refc _ _ _ _ _))) ?_
    exact RetM.rs (vs := [_]) (tm' := [(6, .ref 1 2 0 (n + 1))]) r_slices_Insert__caravel_api_Timer_caravel_api_Timer ([]) ([1, 0]) 0 2
  · obtain ⟨zv, hzv⟩ : ∃ zv, tmr ⟨0, 0⟩ = zv := ⟨_, rfl⟩
    have hrl : (es.take i ++ List.replicate (n + 1 - i) zv).length = n + 1 := by simp; omega
    have h0 : (es.drop 0).take i ++ List.replicate (n + 1 - i) (tmr ⟨0, 0⟩) = es.take i ++ List.replicate (n + 1 - i) zv := by rw [hzv]; rfl
    unfold tmr at h0
    have hvt : vs.take (n + 1 - i) = vs := List.take_of_length_le (by omega)
    have hp1 : (vs.take (n + 1 - i)).all pureV = true := by rw [hvt]; exact hvp
    have h1 : (es.take i ++ List.replicate (n + 1 - i) zv).take i ++ (vs.take (n + 1 - i) ++ (es.take i ++ List.replicate (n + 1 - i) zv).drop (i + 1)) = es.take i ++ (vs ++ List.replicate (n - i) zv) := by
      rw [hvt, List.take_left' (by simp; omega), List.drop_append, List.drop_of_length_le (by simp; omega), List.nil_append, List.drop_replicate]
      congr 3
      simp; omega
    have hsl : (es.drop i).length = n - i := by simp; omega
    have hsrc : (es.drop i).take (n - i) = es.drop i := List.take_of_length_le (by omega)
    have hpu : ((es.drop i).take (n - i)).all pureV = true := by
      rw [hsrc]
      rw [List.all_eq_true] at hp ⊢
      exact fun y hy => hp y (List.mem_of_mem_drop hy)
    have hrl2 : (es.take i ++ (vs ++ List.replicate (n - i) zv)).length = n + 1 := by simp; omega
    have h2 : (es.take i ++ (vs ++ List.replicate (n - i) zv)).take (i + 1) ++ ((es.drop i).take (n - i) ++ (es.take i ++ (vs ++ List.replicate (n - i) zv)).drop (i + 1 + (n - i))) = es.take i ++ (vs ++ es.drop i) := by
      rw [hsrc, List.drop_of_length_le (l := es.take i ++ (vs ++ List.replicate (n - i) zv)) (by omega), List.append_nil, ← List.append_assoc, List.take_left' (by simp; omega), List.append_assoc]
    clear hp
    have hc3 : c < i + (n + 1 - i) := by omega
    (repeat (first | ((with_reducible show RG _ _ (_ :: _) _ _ _); refine RG.go1 (k := ?_)) | ((with_reducible show DG _ _ (_ :: _) _ _ _ _ _); refine DG.go1 (k := ?_)) | (with_reducible first | apply RG.nil | apply W.seq | apply W.reg | apply W.skip | apply W.block | apply W.drw | apply DG.nil | refine W.done (QB.n ?_))))
    refine W.cndT ?_
    (repeat (first | ((with_reducible show RG _ _ (_ :: _) _ _ _); refine RG.go1 (k := ?_)) | ((with_reducible show DG _ _ (_ :: _) _ _ _ _ _); refine DG.go1 (k := ?_)) | (with_reducible first | apply RG.nil | apply W.seq | apply W.reg | apply W.skip | apply W.block | apply W.drw | apply DG.nil | refine W.done (QB.n ?_))))
    (first | ((with_reducible show RG _ _ (_ :: _) _ _ _); refine RG.ew ((show AV.refc 0 2 (0 + (0 : Int).toNat) ((i : Int) - 0).toNat ((c : Int) - 0).toNat = AV.refc 0 2 0 i c by congr 1 <;> omega)) (k := ?_)) | ((with_reducible show DG _ _ (_ :: _) _ _ _ _ _); refine DG.ew ((show AV.refc 0 2 (0 + (0 : Int).toNat) ((i : Int) - 0).toNat ((c : Int) - 0).toNat = AV.refc 0 2 0 i c by congr 1 <;> omega)) (k := ?_)))
    (repeat (first | ((with_reducible show RG _ _ (_ :: _) _ _ _); refine RG.go1 (k := ?_)) | ((with_reducible show DG _ _ (_ :: _) _ _ _ _ _); refine DG.go1 (k := ?_)) | (with_reducible first | apply RG.nil | apply W.seq | apply W.reg | apply W.skip | apply W.block | apply W.drw | apply DG.nil | refine W.done (QB.n ?_))))
    (refine RG.sm (A.appz (j := (n : Int) + (vs.length : Int) - (i : Int)) (q := n + 1 - i) (m := n + 1) (by omega) h0) (k := ?_))
    (repeat (first | ((with_reducible show RG _ _ (_ :: _) _ _ _); refine RG.go1 (k := ?_)) | ((with_reducible show DG _ _ (_ :: _) _ _ _ _ _); refine DG.go1 (k := ?_)) | (with_reducible first | apply RG.nil | apply W.seq | apply W.reg | apply W.skip | apply W.block | apply W.drw | apply DG.nil | refine W.done (QB.n ?_))))
    (first | ((with_reducible show RG _ _ (_ :: _) _ _ _); refine RG.ew ((show AV.ref 1 2 (0 + (i : Int).toNat) (((n + 1 : Nat) : Int) - (i : Int)).toNat = AV.ref 1 2 i (n + 1 - i) by congr 1 <;> omega)) (k := ?_)) | ((with_reducible show DG _ _ (_ :: _) _ _ _ _ _); refine DG.ew ((show AV.ref 1 2 (0 + (i : Int).toNat) (((n + 1 : Nat) : Int) - (i : Int)).toNat = AV.ref 1 2 i (n + 1 - i) by congr 1 <;> omega)) (k := ?_)))
    (repeat (first | ((with_reducible show RG _ _ (_ :: _) _ _ _); refine RG.go1 (k := ?_)) | ((with_reducible show DG _ _ (_ :: _) _ _ _ _ _); refine DG.go1 (k := ?_)) | (with_reducible first | apply RG.nil | apply W.seq | apply W.reg | apply W.skip | apply W.block | apply W.drw | apply DG.nil | refine W.done (QB.n ?_))))
    (refine RG.sm (A.cpy (m := 1) h1 (hp := hp1) (hm := by omega)) (k := ?_))
    (repeat (first | ((with_reducible show RG _ _ (_ :: _) _ _ _); refine RG.go1 (k := ?_)) | ((with_reducible show DG _ _ (_ :: _) _ _ _ _ _); refine DG.go1 (k := ?_)) | (with_reducible first | apply RG.nil | apply W.seq | apply W.reg | apply W.skip | apply W.block | apply W.drw | apply DG.nil | refine W.done (QB.n ?_))))
    (first | ((with_reducible show RG _ _ (_ :: _) _ _ _); refine RG.ew ((show AV.ref 1 2 (0 + ((i : Int) + (vs.length : Int)).toNat) (((n + 1 : Nat) : Int) - ((i : Int) + (vs.length : Int))).toNat = AV.ref 1 2 (i + 1) (n - i) by congr 1 <;> omega)) (k := ?_)) | ((with_reducible show DG _ _ (_ :: _) _ _ _ _ _); refine DG.ew ((show AV.ref 1 2 (0 + ((i : Int) + (vs.length : Int)).toNat) (((n + 1 : Nat) : Int) - ((i : Int) + (vs.length : Int))).toNat = AV.ref 1 2 (i + 1) (n - i) by congr 1 <;> omega)) (k := ?_)))
    (repeat (first | ((with_reducible show RG _ _ (_ :: _) _ _ _); refine RG.go1 (k := ?_)) | ((with_reducible show DG _ _ (_ :: _) _ _ _ _ _); refine DG.go1 (k := ?_)) | (with_reducible first | apply RG.nil | apply W.seq | apply W.reg | apply W.skip | apply W.block | apply W.drw | apply DG.nil | refine W.done (QB.n ?_))))
    (first | ((with_reducible show RG _ _ (_ :: _) _ _ _); refine RG.ew ((show AV.refc 0 2 (0 + (i : Int).toNat) ((n : Int) - (i : Int)).toNat ((c : Int) - (i : Int)).toNat = AV.refc 0 2 i (n - i) (c - i) by congr 1 <;> omega)) (k := ?_)) | ((with_reducible show DG _ _ (_ :: _) _ _ _ _ _); refine DG.ew ((show AV.refc 0 2 (0 + (i : Int).toNat) ((n : Int) - (i : Int)).toNat ((c : Int) - (i : Int)).toNat = AV.refc 0 2 i (n - i) (c - i) by congr 1 <;> omega)) (k := ?_)))
    (repeat (first | ((with_reducible show RG _ _ (_ :: _) _ _ _); refine RG.go1 (k := ?_)) | ((with_reducible show DG _ _ (_ :: _) _ _ _ _ _); refine DG.go1 (k := ?_)) | (with_reducible first | apply RG.nil | apply W.seq | apply W.reg | apply W.skip | apply W.block | apply W.drw | apply DG.nil | refine W.done (QB.n ?_))))
    (refine RG.sm (A.cpy (m := n - i) h2 (he := Els.refc (r := ⟨false, 2, es⟩) rfl rfl (show i + (n - i) ≤ es.length by omega) hsrc) (hp := hpu) (hm := by omega)) (k := ?_))
    (repeat (first | ((with_reducible show RG _ _ (_ :: _) _ _ _); refine RG.go1 (k := ?_)) | ((with_reducible show DG _ _ (_ :: _) _ _ _ _ _); refine DG.go1 (k := ?_)) | (with_reducible first | apply RG.nil | apply W.seq | apply W.reg | apply W.skip | apply W.block | apply W.drw | apply DG.nil | refine W.done (QB.n ?_))))
    (refine W.ret ?_; (repeat (with_reducible first | refine QB.r ?_ | refine QL.r ?_ | refine QC.r ?_)); refine QM.r ?_)
    exact RetM.rs (vs := [_]) (tm' := [(6, .ref 1 2 0 (n + 1))]) r_slices_Insert__caravel_api_Timer_caravel_api_Timer ([]) ([0, 1]) 0 2
theorem tlIns_ok (l : List Tmr) (hl : l.length ≤ 500000) (i : Nat) (hi : i ≤ l.length) (x : Tmr) :
    MCall Try.prog 21 [.ref 0 2 0 l.length, .int .i64 i, .sl true 2 [.agg [.int .i64 x.id, .int .u64 x.at_]]] [] [⟨false, 2, l.map tmr⟩] (.ref 1 2 0 (l.length + 1)) [] [none] [⟨false, 2, (l.take i ++ x :: l.drop i).map tmr⟩] := by
  have q := tlIns0_ok (l.map tmr) [tmr x] l.length i (tl_len l) hl (tl_pure l) hi rfl (tl_pure [x])
  rw [show (l.take i ++ x :: l.drop i).map tmr = (l.map tmr).take i ++ ([tmr x] ++ (l.map tmr).drop i) by simp]
  exact q
end Go.Proofs.Ytbkekpecfgmelaa

namespace Go.Proofs.Ytbkekpecfgmelaa
open Go.RowKit
set_option linter.unusedVariables false
set_option linter.unusedSimpArgs false
set_option maxRecDepth 100000
set_option maxHeartbeats 4000000
def wv (v : Bool) (now : Int) (l : List Tmr) : AV := .agg [.int .u64 now, .sl v 2 (l.map tmr)]
theorem wClone_ok (now : Int) (l : List Tmr) (hl : l.length ≤ 500000) : ACall Try.prog 13 [wv true now l] (.agg [.int .u64 now, .ref 0 2 0 l.length]) [⟨false, 2, l.map tmr⟩] := by
  have cc := tlClone_ok l (by omega)
  unfold wv
  refine acall_walk (N := 9) Try.func13 (by kernel_rfl) p_wheel_Clone rfl ?_; unfold c_wheel_Clone; dsimp only [enum, Nat.reduceAdd]
  (repeat (first | ((with_reducible show RG _ _ (_ :: _) _ _ _); refine RG.go1 (k := ?_)) | ((with_reducible show DG _ _ (_ :: _) _ _ _ _ _); refine DG.go1 (k := ?_)) | (with_reducible first | apply RG.nil | apply W.seq | apply W.reg | apply W.skip | apply W.block | apply W.drw | apply DG.nil | refine W.done (QB.n ?_))))
  (first | ((with_reducible show RG _ _ (_ :: _) _ _ _); refine RG.ca (cc) (k := ?_)) | ((with_reducible show DG _ _ (_ :: _) _ _ _ _ _); refine DG.ca (cc) (k := ?_)))
  (repeat (first | ((with_reducible show RG _ _ (_ :: _) _ _ _); refine RG.go1 (k := ?_)) | ((with_reducible show DG _ _ (_ :: _) _ _ _ _ _); refine DG.go1 (k := ?_)) | (with_reducible first | apply RG.nil | apply W.seq | apply W.reg | apply W.skip | apply W.block | apply W.drw | apply DG.nil | refine W.done (QB.n ?_))))
  (refine W.ret ?_; (repeat (with_reducible first | refine QB.r ?_ | refine QL.r ?_ | refine QC.r ?_)); refine QF.r ?_)
  exact RetOk.rs (vs := [_]) r_wheel_Clone [0]
theorem wCloneF_ok (now : Int) (l : List Tmr) (hl : l.length ≤ 500000) : ACall Try.prog 13 [wv true now l] (wv false now l) [] := by
  have cc := tlClone_ok l (by omega)
  have el := tl_len l
  unfold wv
  refine acall_walk (N := 9) Try.func13 (by kernel_rfl) p_wheel_Clone rfl ?_; unfold c_wheel_Clone; dsimp only [enum, Nat.reduceAdd]
  (repeat (first | ((with_reducible show RG _ _ (_ :: _) _ _ _); refine RG.go1 (k := ?_)) | ((with_reducible show DG _ _ (_ :: _) _ _ _ _ _); refine DG.go1 (k := ?_)) | (with_reducible first | apply RG.nil | apply W.seq | apply W.reg | apply W.skip | apply W.block | apply W.drw | apply DG.nil | refine W.done (QB.n ?_))))
  (first | ((with_reducible show RG _ _ (_ :: _) _ _ _); refine RG.ca (cc) (k := ?_)) | ((with_reducible show DG _ _ (_ :: _) _ _ _ _ _); refine DG.ca (cc) (k := ?_)))
  (repeat (first | ((with_reducible show RG _ _ (_ :: _) _ _ _); refine RG.go1 (k := ?_)) | ((with_reducible show DG _ _ (_ :: _) _ _ _ _ _); refine DG.go1 (k := ?_)) | (with_reducible first | apply RG.nil | apply W.seq | apply W.reg | apply W.skip | apply W.block | apply W.drw | apply DG.nil | refine W.done (QB.n ?_))))
  (refine W.ret ?_; (repeat (with_reducible first | refine QB.r ?_ | refine QL.r ?_ | refine QC.r ?_)); refine QF.r ?_)
  (refine RetOk.wk (Wk.frz (b := 0) rfl rfl) ?_; refine RetOk.wk (Wk.box (b := 1) (cs' := [_, _]) rfl (by dsimp only [ClL]; (repeat' (first | exact True.intro | exact Cl.ice rfl rfl rfl (by first | assumption | decide | omega | (simp; (first | (all_goals fail) | fail)) | (simp <;> omega)) (by first | exact take_all _ | exact take_len (by first | (simp; (first | (all_goals fail) | fail)) | (simp <;> omega)) | exact rfl) | exact Cl.le (.refl _) | apply And.intro)); (first | (all_goals fail) | fail))) ?_; dsimp only [setO])
  exact RetOk.rs (vs := [_]) r_wheel_Clone []
theorem stop1_ok (x : Tmr) (id : Int) : ACall Try.prog 20 [.agg [.int .i64 x.id, .int .u64 x.at_], .cptr true [.int .i64 id]] (.bool (decide (x.id = id))) [] := by
  refine acall_walk (N := 8) Try.func20 (by kernel_rfl) p_wheel_Stop_1 rfl ?_; unfold c_wheel_Stop_1; dsimp only [enum, Nat.reduceAdd]
  (repeat (first | ((with_reducible show RG _ _ (_ :: _) _ _ _); refine RG.go1 (k := ?_)) | ((with_reducible show DG _ _ (_ :: _) _ _ _ _ _); refine DG.go1 (k := ?_)) | (with_reducible first | apply RG.nil | apply W.seq | apply W.reg | apply W.skip | apply W.block | apply W.drw | apply DG.nil | refine W.done (QB.n ?_))))
  (refine W.ret ?_; (repeat (with_reducible first | refine QB.r ?_ | refine QL.r ?_ | refine QC.r ?_)); refine QF.r ?_)
  exact RetOk.rs (vs := [_]) r_wheel_Stop_1 []
def wout (l : List Tmr) (id : Int) : List Tmr := l.filter fun x => !decide (x.id = id)
theorem wout_len (l : List Tmr) (id : Int) : (wout l id).length ≤ l.length := List.length_filter_le _ _
theorem wStop_ok (now : Int) (l : List Tmr) (hl : l.length ≤ 500000) (id : Int) : ACall Try.prog 8 [wv true now l, .int .i64 id] (.tup [.agg [.int .u64 now, .ref 0 2 0 (wout l id).length], .bool (decide ((wout l id).length < l.length))]) [⟨false, 2, (wout l id).map tmr⟩] := by
  have cc := wClone_ok now l hl
  have cd := tlDel_ok l (by omega) 20 id (fun x => decide (x.id = id)) fun x _ => stop1_ok x id
  have el := tl_len l
  rw [show (l.filter fun x => !decide (x.id = id)) = wout l id from rfl] at cd
  have hol := wout_len l id
  generalize wout l id = m at *
  have hb : (decide ((m.length : Int) < (l.length : Int))) = decide (m.length < l.length) := by congr 1; apply propext; omega
  unfold wv at cc ⊢
  refine acall_walk (N := 22) Try.func8 (by kernel_rfl) p_wheel_Stop rfl ?_; unfold c_wheel_Stop; dsimp only [enum, Nat.reduceAdd]
  (repeat (first | ((with_reducible show RG _ _ (_ :: _) _ _ _); refine RG.go1 (k := ?_)) | ((with_reducible show DG _ _ (_ :: _) _ _ _ _ _); refine DG.go1 (k := ?_)) | (with_reducible first | apply RG.nil | apply W.seq | apply W.reg | apply W.skip | apply W.block | apply W.drw | apply DG.nil | refine W.done (QB.n ?_))))
  (first | ((with_reducible show RG _ _ (_ :: _) _ _ _); refine RG.ca (cc) (k := ?_)) | ((with_reducible show DG _ _ (_ :: _) _ _ _ _ _); refine DG.ca (cc) (k := ?_)))
  (repeat (first | ((with_reducible show RG _ _ (_ :: _) _ _ _); refine RG.go1 (k := ?_)) | ((with_reducible show DG _ _ (_ :: _) _ _ _ _ _); refine DG.go1 (k := ?_)) | (with_reducible first | apply RG.nil | apply W.seq | apply W.reg | apply W.skip | apply W.block | apply W.drw | apply DG.nil | refine W.done (QB.n ?_))))
  (refine RG.mca ([]) ([0]) (cd) (k := ?_))
  (repeat (first | ((with_reducible show RG _ _ (_ :: _) _ _ _); refine RG.go1 (k := ?_)) | ((with_reducible show DG _ _ (_ :: _) _ _ _ _ _); refine DG.go1 (k := ?_)) | (with_reducible first | apply RG.nil | apply W.seq | apply W.reg | apply W.skip | apply W.block | apply W.drw | apply DG.nil | refine W.done (QB.n ?_))))
  (refine W.ret ?_; (repeat (with_reducible first | refine QB.r ?_ | refine QL.r ?_ | refine QC.r ?_)); refine QF.r ?_)
  rw [el, hb]
  exact RetOk.rs (vs := [_, _]) r_wheel_Stop [0]
end Go.Proofs.Ytbkekpecfgmelaa

namespace Go.Proofs.Ytbkekpecfgmelaa
open Go.RowKit
set_option linter.unusedVariables false
set_option linter.unusedSimpArgs false
set_option maxRecDepth 100000
set_option maxHeartbeats 4000000
def idv (x : Tmr) : AV := .int .i64 x.id
theorem idv_pure (l : List Tmr) : (l.map idv).all pureV = true := by simp [idv, pureV, pureC]
def tickK (now : Int) (l : List Tmr) : Nat := (l.takeWhile fun x => decide (x.at_ ≤ now)).length
theorem tickK_eq {now : Int} {l : List Tmr} {k : Nat} (hk : k ≤ l.length) (h1 : ∀ j : Nat, (h : j < l.length) → j < k → l[j].at_ ≤ now) (h2 : ∀ h : k < l.length, now < l[k].at_) : tickK now l = k := by
  induction l generalizing k with
  | nil => simp at hk; subst hk; rfl
  | cons x l ih =>
    unfold tickK at ih ⊢
    cases k with
    | zero =>
      have := h2 (by simp)
      simp only [List.getElem_cons_zero] at this
      rw [List.takeWhile_cons, if_neg (by simp; omega)]; rfl
    | succ k =>
      have := h1 0 (by simp) (by omega)
      simp only [List.getElem_cons_zero] at this
      rw [List.takeWhile_cons, if_pos (by simpa using this), List.length_cons, ih (k := k) (by simpa using hk) (fun j h hj => by
        have := h1 (j + 1) (by simp; omega) (by omega)
        simpa using this) (fun h => by
        have := h2 (by simp; omega)
        simpa using this)]
theorem wTick_ok (now : Int) (hn : 0 ≤ now ∧ now ≤ 9223372036854775807) (l : List Tmr) (hl : l.length ≤ 500000) : ACall Try.prog 11 [wv true now l] (.tup [wv false (now + 1) (l.drop (tickK (now + 1) l)), .sl false 1 ((l.take (tickK (now + 1) l)).map idv)]) [] := by
  have cc := wClone_ok now l hl
  have el := tl_len l
  unfold wv at cc ⊢
  refine acall_walk (N := 40) Try.func11 (by kernel_rfl) p_wheel_Tick rfl ?_; unfold c_wheel_Tick; dsimp only [enum, Nat.reduceAdd]
  (repeat (first | ((with_reducible show RG _ _ (_ :: _) _ _ _); refine RG.go1 (k := ?_)) | ((with_reducible show DG _ _ (_ :: _) _ _ _ _ _); refine DG.go1 (k := ?_)) | (with_reducible first | apply RG.nil | apply W.seq | apply W.reg | apply W.skip | apply W.block | apply W.drw | apply DG.nil | refine W.done (QB.n ?_))))
  (first | ((with_reducible show RG _ _ (_ :: _) _ _ _); refine RG.ca (cc) (k := ?_)) | ((with_reducible show DG _ _ (_ :: _) _ _ _ _ _); refine DG.ca (cc) (k := ?_)))
  (repeat (first | ((with_reducible show RG _ _ (_ :: _) _ _ _); refine RG.go1 (k := ?_)) | ((with_reducible show DG _ _ (_ :: _) _ _ _ _ _); refine DG.go1 (k := ?_)) | (with_reducible first | apply RG.nil | apply W.seq | apply W.reg | apply W.skip | apply W.block | apply W.drw | apply DG.nil | refine W.done (QB.n ?_))))
  refine W.wk (Wk.nilT (t := 5) 1 rfl) ?_ (by simp)
  refine W.loop (ι := {k : Nat // k ≤ l.length ∧ ∀ j : Nat, (h : j < l.length) → j < k → l[j].at_ ≤ now + 1}) (fun k => ⟨[(5, .ref 1 1 0 k.1), (2, .bptr 1 0), (4, .bptr 2 0), (3, .nil)], [none, some [.int .u64 0, .nil], some [.int .u64 (now + 1), .ref 0 2 k.1 (l.length - k.1)]], [some ⟨false, 2, l.map tmr⟩, some ⟨false, 1, (l.take k.1).map idv⟩], 3, 2⟩) (fun k => l.length - k.1) ⟨0, Nat.zero_le _, fun j _ h => absurd h (Nat.not_lt_zero _)⟩ ?_ ?_
  · exact Wk.rn ([0, 1, 2] ) ( [0, 1])
  rintro ⟨k, hk, hall⟩
  dsimp only
  have hrl : ((l.take k).map idv).length = k := by simp; omega
  have hip := idv_pure (l.take k)
  have fin : tickK (now + 1) l = k → (l.map tmr).drop k = (l.drop (tickK (now + 1) l)).map tmr := fun e => by
    rw [e, List.map_drop]
  by_cases hlt : k < l.length
  · have hE := tl_at l k hlt (j := k) rfl
    by_cases hat : l[k].at_ ≤ now + 1
    · have hsn := map_take_snoc idv l k hlt
      have hall2 : ∀ j : Nat, (h : j < l.length) → j < k + 1 → l[j].at_ ≤ now + 1 := fun j h hj => by
        rcases Nat.lt_or_ge j k with q | q
        · exact hall j h q
        · obtain rfl : j = k := by omega
          exact hat
      clear fin
      unfold idv at hsn
      rw [show (fun x : Tmr => AV.int .i64 x.id) = idv from rfl] at hsn
      generalize l[k] = x at hE hat hsn
      (repeat (first | ((with_reducible show RG _ _ (_ :: _) _ _ _); refine RG.go1 (k := ?_)) | ((with_reducible show DG _ _ (_ :: _) _ _ _ _ _); refine DG.go1 (k := ?_)) | (with_reducible first | apply RG.nil | apply W.seq | apply W.reg | apply W.skip | apply W.block | apply W.drw | apply DG.nil | refine W.done (QB.n ?_))))
      (first | ((with_reducible show RG _ _ (_ :: _) _ _ _); refine RG.ewg ((ix_of (show k + 0 = k from rfl))) (k := ?_)) | ((with_reducible show DG _ _ (_ :: _) _ _ _ _ _); refine DG.ewg ((ix_of (show k + 0 = k from rfl))) (k := ?_)))
      (repeat (first | ((with_reducible show RG _ _ (_ :: _) _ _ _); refine RG.go1 (k := ?_)) | ((with_reducible show DG _ _ (_ :: _) _ _ _ _ _); refine DG.go1 (k := ?_)) | (with_reducible first | apply RG.nil | apply W.seq | apply W.reg | apply W.skip | apply W.block | apply W.drw | apply DG.nil | refine W.done (QB.n ?_))))
      (first | ((with_reducible show RG _ _ (_ :: _) _ _ _); refine RG.gld (hE) (k := ?_)) | ((with_reducible show DG _ _ (_ :: _) _ _ _ _ _); refine DG.gld (hE) (k := ?_)))
      (repeat (first | ((with_reducible show RG _ _ (_ :: _) _ _ _); refine RG.go1 (k := ?_)) | ((with_reducible show DG _ _ (_ :: _) _ _ _ _ _); refine DG.go1 (k := ?_)) | (with_reducible first | apply RG.nil | apply W.seq | apply W.reg | apply W.skip | apply W.block | apply W.drw | apply DG.nil | refine W.done (QB.n ?_))))
      refine W.cndT ?_
      (repeat (first | ((with_reducible show RG _ _ (_ :: _) _ _ _); refine RG.go1 (k := ?_)) | ((with_reducible show DG _ _ (_ :: _) _ _ _ _ _); refine DG.go1 (k := ?_)) | (with_reducible first | apply RG.nil | apply W.seq | apply W.reg | apply W.skip | apply W.block | apply W.drw | apply DG.nil | refine W.done (QB.n ?_))))
      (first | ((with_reducible show RG _ _ (_ :: _) _ _ _); refine RG.ew (ix_of ((show k + 0 = k from rfl))) (k := ?_)) | ((with_reducible show DG _ _ (_ :: _) _ _ _ _ _); refine DG.ew (ix_of ((show k + 0 = k from rfl))) (k := ?_)))
      (repeat (first | ((with_reducible show RG _ _ (_ :: _) _ _ _); refine RG.go1 (k := ?_)) | ((with_reducible show DG _ _ (_ :: _) _ _ _ _ _); refine DG.go1 (k := ?_)) | (with_reducible first | apply RG.nil | apply W.seq | apply W.reg | apply W.skip | apply W.block | apply W.drw | apply DG.nil | refine W.done (QB.n ?_))))
      (first | ((with_reducible show RG _ _ (_ :: _) _ _ _); refine RG.sm (A.ldr (hE)) (k := ?_)) | ((with_reducible show DG _ _ (_ :: _) _ _ _ _ _); refine DG.sm (A.ldr (hE)) (k := ?_)))
      (repeat (first | ((with_reducible show RG _ _ (_ :: _) _ _ _); refine RG.go1 (k := ?_)) | ((with_reducible show DG _ _ (_ :: _) _ _ _ _ _); refine DG.go1 (k := ?_)) | (with_reducible first | apply RG.nil | apply W.seq | apply W.reg | apply W.skip | apply W.block | apply W.drw | apply DG.nil | refine W.done (QB.n ?_))))
      rw [hsn]
      (first | ((with_reducible show RG _ _ (_ :: _) _ _ _); refine RG.ew ((show AV.ref 0 2 (k + (1 : Int).toNat) (((l.length - k : Nat) : Int) - 1).toNat = AV.ref 0 2 (k + 1) (l.length - (k + 1)) by congr 1 <;> omega)) (k := ?_)) | ((with_reducible show DG _ _ (_ :: _) _ _ _ _ _); refine DG.ew ((show AV.ref 0 2 (k + (1 : Int).toNat) (((l.length - k : Nat) : Int) - 1).toNat = AV.ref 0 2 (k + 1) (l.length - (k + 1)) by congr 1 <;> omega)) (k := ?_)))
      (repeat (first | ((with_reducible show RG _ _ (_ :: _) _ _ _); refine RG.go1 (k := ?_)) | ((with_reducible show DG _ _ (_ :: _) _ _ _ _ _); refine DG.go1 (k := ?_)) | (with_reducible first | apply RG.nil | apply W.seq | apply W.reg | apply W.skip | apply W.block | apply W.drw | apply DG.nil | refine W.done (QB.n ?_))))
      refine W.done (QL.n (⟨k + 1, by omega, hall2⟩) ?_ ?_)
      · exact Wk.rn ([0, 1, 2] ) ( [0, 3])
      · dsimp only; omega
    · have hkk : tickK (now + 1) l = k := tickK_eq hk hall fun _ => by omega
      have fin := fin hkk
      have hal : ((l.take k).map idv) = (l.take (tickK (now + 1) l)).map idv := by rw [hkk]
      clear hkk
      generalize l[k] = x at hE hat
      (repeat (first | ((with_reducible show RG _ _ (_ :: _) _ _ _); refine RG.go1 (k := ?_)) | ((with_reducible show DG _ _ (_ :: _) _ _ _ _ _); refine DG.go1 (k := ?_)) | (with_reducible first | apply RG.nil | apply W.seq | apply W.reg | apply W.skip | apply W.block | apply W.drw | apply DG.nil | refine W.done (QB.n ?_))))
      (first | ((with_reducible show RG _ _ (_ :: _) _ _ _); refine RG.ewg ((ix_of (show k + 0 = k from rfl))) (k := ?_)) | ((with_reducible show DG _ _ (_ :: _) _ _ _ _ _); refine DG.ewg ((ix_of (show k + 0 = k from rfl))) (k := ?_)))
      (repeat (first | ((with_reducible show RG _ _ (_ :: _) _ _ _); refine RG.go1 (k := ?_)) | ((with_reducible show DG _ _ (_ :: _) _ _ _ _ _); refine DG.go1 (k := ?_)) | (with_reducible first | apply RG.nil | apply W.seq | apply W.reg | apply W.skip | apply W.block | apply W.drw | apply DG.nil | refine W.done (QB.n ?_))))
      (first | ((with_reducible show RG _ _ (_ :: _) _ _ _); refine RG.gld (hE) (k := ?_)) | ((with_reducible show DG _ _ (_ :: _) _ _ _ _ _); refine DG.gld (hE) (k := ?_)))
      (repeat (first | ((with_reducible show RG _ _ (_ :: _) _ _ _); refine RG.go1 (k := ?_)) | ((with_reducible show DG _ _ (_ :: _) _ _ _ _ _); refine DG.go1 (k := ?_)) | (with_reducible first | apply RG.nil | apply W.seq | apply W.reg | apply W.skip | apply W.block | apply W.drw | apply DG.nil | refine W.done (QB.n ?_))))
      refine W.cndF ?_
      (refine W.exit ?_; (repeat (first | (with_reducible first | refine QL.x ?_ | refine QC.x ?_ | refine QB.x ?_) | (with_reducible refine QB.o (by decide) ?_))))
      (repeat (first | ((with_reducible show RG _ _ (_ :: _) _ _ _); refine RG.go1 (k := ?_)) | ((with_reducible show DG _ _ (_ :: _) _ _ _ _ _); refine DG.go1 (k := ?_)) | (with_reducible first | apply RG.nil | apply W.seq | apply W.reg | apply W.skip | apply W.block | apply W.drw | apply DG.nil | refine W.done (QB.n ?_))))
      (refine W.ret ?_; (repeat (with_reducible first | refine QB.r ?_ | refine QL.r ?_ | refine QC.r ?_)); refine QF.r ?_)
      (refine RetOk.wk (Wk.frz (b := 0) rfl rfl) ?_; refine RetOk.wk (Wk.box (b := 1) (cs' := [_, _]) rfl (by dsimp only [ClL]; (repeat' (first | exact True.intro | exact Cl.ice rfl rfl rfl (by first | assumption | decide | omega | (simp; (first | (all_goals fail) | fail)) | (simp <;> omega)) (by first | exact take_all _ | exact take_len (by first | (simp; (first | (all_goals fail) | fail)) | (simp <;> omega)) | exact rfl) | exact Cl.le (.refl _) | apply And.intro)); (first | (all_goals fail) | fail))) ?_; dsimp only [setO])
      (refine RetOk.wk (Wk.frz (b := 1) rfl rfl) ?_; refine RetOk.wk (Wk.tmp (t := 3) (Cl.ice rfl rfl rfl (by first | assumption | decide | omega | (simp; (first | (all_goals fail) | fail)) | (simp <;> omega)) (by first | exact take_all _ | exact take_len (by first | (simp; (first | (all_goals fail) | fail)) | (simp <;> omega)) | exact rfl))) ?_; dsimp only [setO])
      rw [fin, hal]
      exact RetOk.rs (vs := [_, _]) r_wheel_Tick []
  · have hkl : k = l.length := by omega
    have hkk : tickK (now + 1) l = k := tickK_eq hk hall fun h => absurd h hlt
    have fin := fin hkk
    have hal : ((l.take k).map idv) = (l.take (tickK (now + 1) l)).map idv := by rw [hkk]
    clear hkk
    (repeat (first | ((with_reducible show RG _ _ (_ :: _) _ _ _); refine RG.go1 (k := ?_)) | ((with_reducible show DG _ _ (_ :: _) _ _ _ _ _); refine DG.go1 (k := ?_)) | (with_reducible first | apply RG.nil | apply W.seq | apply W.reg | apply W.skip | apply W.block | apply W.drw | apply DG.nil | refine W.done (QB.n ?_))))
    refine W.cndF ?_
    (refine W.exit ?_; (repeat (first | (with_reducible first | refine QL.x ?_ | refine QC.x ?_ | refine QB.x ?_) | (with_reducible refine QB.o (by decide) ?_))))
    (repeat (first | ((with_reducible show RG _ _ (_ :: _) _ _ _); refine RG.go1 (k := ?_)) | ((with_reducible show DG _ _ (_ :: _) _ _ _ _ _); refine DG.go1 (k := ?_)) | (with_reducible first | apply RG.nil | apply W.seq | apply W.reg | apply W.skip | apply W.block | apply W.drw | apply DG.nil | refine W.done (QB.n ?_))))
    (refine W.ret ?_; (repeat (with_reducible first | refine QB.r ?_ | refine QL.r ?_ | refine QC.r ?_)); refine QF.r ?_)
    (refine RetOk.wk (Wk.frz (b := 0) rfl rfl) ?_; refine RetOk.wk (Wk.box (b := 1) (cs' := [_, _]) rfl (by dsimp only [ClL]; (repeat' (first | exact True.intro | exact Cl.ice rfl rfl rfl (by first | assumption | decide | omega | (simp; (first | (all_goals fail) | fail)) | (simp <;> omega)) (by first | exact take_all _ | exact take_len (by first | (simp; (first | (all_goals fail) | fail)) | (simp <;> omega)) | exact rfl) | exact Cl.le (.refl _) | apply And.intro)); (first | (all_goals fail) | fail))) ?_; dsimp only [setO])
    (refine RetOk.wk (Wk.frz (b := 1) rfl rfl) ?_; refine RetOk.wk (Wk.tmp (t := 3) (Cl.ice rfl rfl rfl (by first | assumption | decide | omega | (simp; (first | (all_goals fail) | fail)) | (simp <;> omega)) (by first | exact take_all _ | exact take_len (by first | (simp; (first | (all_goals fail) | fail)) | (simp <;> omega)) | exact rfl))) ?_; dsimp only [setO])
    rw [fin, hal]
    exact RetOk.rs (vs := [_, _]) r_wheel_Tick []
end Go.Proofs.Ytbkekpecfgmelaa

namespace Go.Proofs.Ytbkekpecfgmelaa
open Go.RowKit
set_option linter.unusedVariables false
set_option linter.unusedSimpArgs false
set_option maxRecDepth 100000
set_option maxHeartbeats 4000000
def insGo (l : List Tmr) (at_ : Int) : Nat → Nat
  | 0 => 0
  | i + 1 => if at_ < (l.getD i ⟨0, 0⟩).at_ then insGo l at_ i else i + 1
theorem insGo_le (l : List Tmr) (at_ : Int) : ∀ i, insGo l at_ i ≤ i
  | 0 => Nat.le_refl _
  | i + 1 => by
    have := insGo_le l at_ i
    unfold insGo; split <;> omega
def insPos (l : List Tmr) (at_ : Int) : Nat := insGo l at_ l.length
def ins (l : List Tmr) (t : Tmr) : List Tmr := l.take (insPos l t.at_) ++ t :: l.drop (insPos l t.at_)
def wset (now : Int) (l : List Tmr) (id after : Int) : List Tmr × Int :=
  if 4611686018427387904 < after then (l, 1) else if 64 ≤ (wout l id).length then (l, 5) else (ins (wout l id) ⟨id, now + max after 1⟩, 0)
theorem wSet_ok (now : Int) (hn : 0 ≤ now ∧ now ≤ 9223372036854775807) (l : List Tmr) (hl : l.length ≤ 400000) (id after : Int) (ha : 0 ≤ after ∧ after ≤ 18446744073709551615) :
    ACall Try.prog 9 [wv true now l, .int .i64 id, .int .u64 after] (.tup [wv false now (wset now l id after).1, .int .i64 (wset now l id after).2]) [] := by
  have cs := wStop_ok now l (by omega) id
  have cc := wCloneF_ok now l (by omega)
  have hol := wout_len l id
  by_cases h1 : 4611686018427387904 < after
  · rw [show wset now l id after = (l, 1) from if_pos h1]
    unfold wv at cs cc ⊢
    refine acall_walk (N := 63) Try.func9 (by kernel_rfl) p_wheel_Set rfl ?_; unfold c_wheel_Set; dsimp only [enum, Nat.reduceAdd]
    (repeat (first | ((with_reducible show RG _ _ (_ :: _) _ _ _); refine RG.go1 (k := ?_)) | ((with_reducible show DG _ _ (_ :: _) _ _ _ _ _); refine DG.go1 (k := ?_)) | (with_reducible first | apply RG.nil | apply W.seq | apply W.reg | apply W.skip | apply W.block | apply W.drw | apply DG.nil | refine W.done (QB.n ?_))))
    (first | ((with_reducible show RG _ _ (_ :: _) _ _ _); refine RG.ca (cs) (k := ?_)) | ((with_reducible show DG _ _ (_ :: _) _ _ _ _ _); refine DG.ca (cs) (k := ?_)))
    (repeat (first | ((with_reducible show RG _ _ (_ :: _) _ _ _); refine RG.go1 (k := ?_)) | ((with_reducible show DG _ _ (_ :: _) _ _ _ _ _); refine DG.go1 (k := ?_)) | (with_reducible first | apply RG.nil | apply W.seq | apply W.reg | apply W.skip | apply W.block | apply W.drw | apply DG.nil | refine W.done (QB.n ?_))))
    refine W.cndT ?_
    (repeat (first | ((with_reducible show RG _ _ (_ :: _) _ _ _); refine RG.go1 (k := ?_)) | ((with_reducible show DG _ _ (_ :: _) _ _ _ _ _); refine DG.go1 (k := ?_)) | (with_reducible first | apply RG.nil | apply W.seq | apply W.reg | apply W.skip | apply W.block | apply W.drw | apply DG.nil | refine W.done (QB.n ?_))))
    (first | ((with_reducible show RG _ _ (_ :: _) _ _ _); refine RG.ca (cc) (k := ?_)) | ((with_reducible show DG _ _ (_ :: _) _ _ _ _ _); refine DG.ca (cc) (k := ?_)))
    (repeat (first | ((with_reducible show RG _ _ (_ :: _) _ _ _); refine RG.go1 (k := ?_)) | ((with_reducible show DG _ _ (_ :: _) _ _ _ _ _); refine DG.go1 (k := ?_)) | (with_reducible first | apply RG.nil | apply W.seq | apply W.reg | apply W.skip | apply W.block | apply W.drw | apply DG.nil | refine W.done (QB.n ?_))))
    (refine W.ret ?_; (repeat (with_reducible first | refine QB.r ?_ | refine QL.r ?_ | refine QC.r ?_)); refine QF.r ?_)
    exact RetOk.rs (vs := [_, _]) r_wheel_Set []
  by_cases h2 : 64 ≤ (wout l id).length
  · rw [show wset now l id after = (l, 5) by unfold wset; rw [if_neg h1, if_pos h2]]
    unfold wv at cs cc ⊢
    refine acall_walk (N := 63) Try.func9 (by kernel_rfl) p_wheel_Set rfl ?_; unfold c_wheel_Set; dsimp only [enum, Nat.reduceAdd]
    (repeat (first | ((with_reducible show RG _ _ (_ :: _) _ _ _); refine RG.go1 (k := ?_)) | ((with_reducible show DG _ _ (_ :: _) _ _ _ _ _); refine DG.go1 (k := ?_)) | (with_reducible first | apply RG.nil | apply W.seq | apply W.reg | apply W.skip | apply W.block | apply W.drw | apply DG.nil | refine W.done (QB.n ?_))))
    (first | ((with_reducible show RG _ _ (_ :: _) _ _ _); refine RG.ca (cs) (k := ?_)) | ((with_reducible show DG _ _ (_ :: _) _ _ _ _ _); refine DG.ca (cs) (k := ?_)))
    (repeat (first | ((with_reducible show RG _ _ (_ :: _) _ _ _); refine RG.go1 (k := ?_)) | ((with_reducible show DG _ _ (_ :: _) _ _ _ _ _); refine DG.go1 (k := ?_)) | (with_reducible first | apply RG.nil | apply W.seq | apply W.reg | apply W.skip | apply W.block | apply W.drw | apply DG.nil | refine W.done (QB.n ?_))))
    refine W.cndF ?_
    (repeat (first | ((with_reducible show RG _ _ (_ :: _) _ _ _); refine RG.go1 (k := ?_)) | ((with_reducible show DG _ _ (_ :: _) _ _ _ _ _); refine DG.go1 (k := ?_)) | (with_reducible first | apply RG.nil | apply W.seq | apply W.reg | apply W.skip | apply W.block | apply W.drw | apply DG.nil | refine W.done (QB.n ?_))))
    refine W.cndT ?_
    (repeat (first | ((with_reducible show RG _ _ (_ :: _) _ _ _); refine RG.go1 (k := ?_)) | ((with_reducible show DG _ _ (_ :: _) _ _ _ _ _); refine DG.go1 (k := ?_)) | (with_reducible first | apply RG.nil | apply W.seq | apply W.reg | apply W.skip | apply W.block | apply W.drw | apply DG.nil | refine W.done (QB.n ?_))))
    (first | ((with_reducible show RG _ _ (_ :: _) _ _ _); refine RG.ca (cc) (k := ?_)) | ((with_reducible show DG _ _ (_ :: _) _ _ _ _ _); refine DG.ca (cc) (k := ?_)))
    (repeat (first | ((with_reducible show RG _ _ (_ :: _) _ _ _); refine RG.go1 (k := ?_)) | ((with_reducible show DG _ _ (_ :: _) _ _ _ _ _); refine DG.go1 (k := ?_)) | (with_reducible first | apply RG.nil | apply W.seq | apply W.reg | apply W.skip | apply W.block | apply W.drw | apply DG.nil | refine W.done (QB.n ?_))))
    (refine W.ret ?_; (repeat (with_reducible first | refine QB.r ?_ | refine QL.r ?_ | refine QC.r ?_)); refine QF.r ?_)
    exact RetOk.rs (vs := [_, _]) r_wheel_Set []
  · rw [show wset now l id after = (ins (wout l id) ⟨id, now + max after 1⟩, 0) by unfold wset; rw [if_neg h1, if_neg h2]]
    clear cc
    generalize wout l id = m at *
    obtain ⟨at_, hat⟩ : ∃ at_, now + max after 1 = at_ := ⟨_, rfl⟩
    have hil : insPos m at_ ≤ m.length := insGo_le m at_ m.length
    have hip : insGo m at_ m.length = insPos m at_ := rfl
    unfold ins
    rw [hat]
    dsimp only
    generalize insPos m at_ = p at *
    have ci := tlIns_ok m (by omega) p hil ⟨id, at_⟩
    have elm := tl_len m
    dsimp only at ci ⊢
    have eli : ((m.take p ++ ⟨id, at_⟩ :: m.drop p).map tmr).length = m.length + 1 := by
      simp; omega
    unfold wv at cs ⊢
    refine acall_walk (N := 63) Try.func9 (by kernel_rfl) p_wheel_Set rfl ?_; unfold c_wheel_Set; dsimp only [enum, Nat.reduceAdd]
    (repeat (first | ((with_reducible show RG _ _ (_ :: _) _ _ _); refine RG.go1 (k := ?_)) | ((with_reducible show DG _ _ (_ :: _) _ _ _ _ _); refine DG.go1 (k := ?_)) | (with_reducible first | apply RG.nil | apply W.seq | apply W.reg | apply W.skip | apply W.block | apply W.drw | apply DG.nil | refine W.done (QB.n ?_))))
    (first | ((with_reducible show RG _ _ (_ :: _) _ _ _); refine RG.ca (cs) (k := ?_)) | ((with_reducible show DG _ _ (_ :: _) _ _ _ _ _); refine DG.ca (cs) (k := ?_)))
    (repeat (first | ((with_reducible show RG _ _ (_ :: _) _ _ _); refine RG.go1 (k := ?_)) | ((with_reducible show DG _ _ (_ :: _) _ _ _ _ _); refine DG.go1 (k := ?_)) | (with_reducible first | apply RG.nil | apply W.seq | apply W.reg | apply W.skip | apply W.block | apply W.drw | apply DG.nil | refine W.done (QB.n ?_))))
    refine W.cndF ?_
    (repeat (first | ((with_reducible show RG _ _ (_ :: _) _ _ _); refine RG.go1 (k := ?_)) | ((with_reducible show DG _ _ (_ :: _) _ _ _ _ _); refine DG.go1 (k := ?_)) | (with_reducible first | apply RG.nil | apply W.seq | apply W.reg | apply W.skip | apply W.block | apply W.drw | apply DG.nil | refine W.done (QB.n ?_))))
    refine W.cndF ?_
    (repeat (first | ((with_reducible show RG _ _ (_ :: _) _ _ _); refine RG.go1 (k := ?_)) | ((with_reducible show DG _ _ (_ :: _) _ _ _ _ _); refine DG.go1 (k := ?_)) | (with_reducible first | apply RG.nil | apply W.seq | apply W.reg | apply W.skip | apply W.block | apply W.drw | apply DG.nil | refine W.done (QB.n ?_))))
    rw [hat]
    refine W.loop (ι := {i : Nat // i ≤ m.length ∧ insGo m at_ i = p}) (fun i => ⟨[(11, .int .i64 i.1), (10, .int .u64 at_), (1, .int .i64 id), (8, .bptr 2 0), (6, .bptr 1 0)], [none, some [.int .u64 0, .nil], some [.int .u64 now, .ref 0 2 0 m.length]], [some ⟨false, 2, m.map tmr⟩], 3, 1⟩) (fun i => i.1) ⟨m.length, Nat.le_refl _, hip⟩ ?_ ?_
    · exact Wk.rn ([0, 1, 2] ) ( [0])
    rintro ⟨i, hi, hgo⟩
    dsimp only
    have hrl := elm
    cases i with
    | zero =>
      have hp : p = 0 := hgo.symm
      subst hp
      (repeat (first | ((with_reducible show RG _ _ (_ :: _) _ _ _); refine RG.go1 (k := ?_)) | ((with_reducible show DG _ _ (_ :: _) _ _ _ _ _); refine DG.go1 (k := ?_)) | (with_reducible first | apply RG.nil | apply W.seq | apply W.reg | apply W.skip | apply W.block | apply W.drw | apply DG.nil | refine W.done (QB.n ?_))))
      refine W.cndF ?_
      (refine W.exit ?_; (repeat (first | (with_reducible first | refine QL.x ?_ | refine QC.x ?_ | refine QB.x ?_) | (with_reducible refine QB.o (by decide) ?_))))
      (repeat (first | ((with_reducible show RG _ _ (_ :: _) _ _ _); refine RG.go1 (k := ?_)) | ((with_reducible show DG _ _ (_ :: _) _ _ _ _ _); refine DG.go1 (k := ?_)) | (with_reducible first | apply RG.nil | apply W.seq | apply W.reg | apply W.skip | apply W.block | apply W.drw | apply DG.nil | refine W.done (QB.n ?_))))
      (refine RG.mca ([]) ([0]) (ci) (k := ?_))
      (repeat (first | ((with_reducible show RG _ _ (_ :: _) _ _ _); refine RG.go1 (k := ?_)) | ((with_reducible show DG _ _ (_ :: _) _ _ _ _ _); refine DG.go1 (k := ?_)) | (with_reducible first | apply RG.nil | apply W.seq | apply W.reg | apply W.skip | apply W.block | apply W.drw | apply DG.nil | refine W.done (QB.n ?_))))
      (refine W.ret ?_; (repeat (with_reducible first | refine QB.r ?_ | refine QL.r ?_ | refine QC.r ?_)); refine QF.r ?_)
      (refine RetOk.wk (Wk.frz (b := 2) rfl rfl) ?_; refine RetOk.wk (Wk.box (b := 1) (cs' := [_, _]) rfl (by dsimp only [ClL]; (repeat' (first | exact True.intro | exact Cl.ice rfl rfl rfl (by first | assumption | decide | omega | (simp; (first | (all_goals fail) | fail)) | (simp <;> omega)) (by first | exact take_all _ | exact take_len (by first | (simp; (first | (all_goals fail) | fail)) | (simp <;> omega)) | exact rfl) | exact Cl.le (.refl _) | apply And.intro)); (first | (all_goals fail) | fail))) ?_; dsimp only [setO])
      exact RetOk.rs (vs := [_, _]) r_wheel_Set []
    | succ i =>
      have hlt : i < m.length := by omega
      have hE := tl_at m i hlt (j := i) rfl
      have hgd : m.getD i ⟨0, 0⟩ = m[i] := getD_lt m _ hlt
      unfold insGo at hgo
      rw [hgd] at hgo
      have hi1 : ((i + 1 : Nat) : Int) - 1 = (i : Int) := by omega
      by_cases hc : at_ < m[i].at_
      · rw [if_pos hc] at hgo
        generalize m[i] = x at hE hc
        (repeat (first | ((with_reducible show RG _ _ (_ :: _) _ _ _); refine RG.go1 (k := ?_)) | ((with_reducible show DG _ _ (_ :: _) _ _ _ _ _); refine DG.go1 (k := ?_)) | (with_reducible first | apply RG.nil | apply W.seq | apply W.reg | apply W.skip | apply W.block | apply W.drw | apply DG.nil | refine W.done (QB.n ?_))))
        (first | ((with_reducible show RG _ _ (_ :: _) _ _ _); refine RG.ewg ((ix_of (show 0 + (((i + 1 : Nat) : Int) - 1).toNat = i by omega))) (k := ?_)) | ((with_reducible show DG _ _ (_ :: _) _ _ _ _ _); refine DG.ewg ((ix_of (show 0 + (((i + 1 : Nat) : Int) - 1).toNat = i by omega))) (k := ?_)))
        (repeat (first | ((with_reducible show RG _ _ (_ :: _) _ _ _); refine RG.go1 (k := ?_)) | ((with_reducible show DG _ _ (_ :: _) _ _ _ _ _); refine DG.go1 (k := ?_)) | (with_reducible first | apply RG.nil | apply W.seq | apply W.reg | apply W.skip | apply W.block | apply W.drw | apply DG.nil | refine W.done (QB.n ?_))))
        (first | ((with_reducible show RG _ _ (_ :: _) _ _ _); refine RG.gld (hE) (k := ?_)) | ((with_reducible show DG _ _ (_ :: _) _ _ _ _ _); refine DG.gld (hE) (k := ?_)))
        (repeat (first | ((with_reducible show RG _ _ (_ :: _) _ _ _); refine RG.go1 (k := ?_)) | ((with_reducible show DG _ _ (_ :: _) _ _ _ _ _); refine DG.go1 (k := ?_)) | (with_reducible first | apply RG.nil | apply W.seq | apply W.reg | apply W.skip | apply W.block | apply W.drw | apply DG.nil | refine W.done (QB.n ?_))))
        refine W.cndT ?_
        (repeat (first | ((with_reducible show RG _ _ (_ :: _) _ _ _); refine RG.go1 (k := ?_)) | ((with_reducible show DG _ _ (_ :: _) _ _ _ _ _); refine DG.go1 (k := ?_)) | (with_reducible first | apply RG.nil | apply W.seq | apply W.reg | apply W.skip | apply W.block | apply W.drw | apply DG.nil | refine W.done (QB.n ?_))))
        rw [hi1]
        refine W.done (QL.n (⟨i, by omega, hgo⟩) ?_ ?_)
        · exact Wk.rn ([0, 1, 2] ) ( [0])
        · dsimp only; omega
      · rw [if_neg hc] at hgo
        subst hgo
        generalize m[i] = x at hE hc
        (repeat (first | ((with_reducible show RG _ _ (_ :: _) _ _ _); refine RG.go1 (k := ?_)) | ((with_reducible show DG _ _ (_ :: _) _ _ _ _ _); refine DG.go1 (k := ?_)) | (with_reducible first | apply RG.nil | apply W.seq | apply W.reg | apply W.skip | apply W.block | apply W.drw | apply DG.nil | refine W.done (QB.n ?_))))
        (first | ((with_reducible show RG _ _ (_ :: _) _ _ _); refine RG.ewg ((ix_of (show 0 + (((i + 1 : Nat) : Int) - 1).toNat = i by omega))) (k := ?_)) | ((with_reducible show DG _ _ (_ :: _) _ _ _ _ _); refine DG.ewg ((ix_of (show 0 + (((i + 1 : Nat) : Int) - 1).toNat = i by omega))) (k := ?_)))
        (repeat (first | ((with_reducible show RG _ _ (_ :: _) _ _ _); refine RG.go1 (k := ?_)) | ((with_reducible show DG _ _ (_ :: _) _ _ _ _ _); refine DG.go1 (k := ?_)) | (with_reducible first | apply RG.nil | apply W.seq | apply W.reg | apply W.skip | apply W.block | apply W.drw | apply DG.nil | refine W.done (QB.n ?_))))
        (first | ((with_reducible show RG _ _ (_ :: _) _ _ _); refine RG.gld (hE) (k := ?_)) | ((with_reducible show DG _ _ (_ :: _) _ _ _ _ _); refine DG.gld (hE) (k := ?_)))
        (repeat (first | ((with_reducible show RG _ _ (_ :: _) _ _ _); refine RG.go1 (k := ?_)) | ((with_reducible show DG _ _ (_ :: _) _ _ _ _ _); refine DG.go1 (k := ?_)) | (with_reducible first | apply RG.nil | apply W.seq | apply W.reg | apply W.skip | apply W.block | apply W.drw | apply DG.nil | refine W.done (QB.n ?_))))
        refine W.cndF ?_
        (refine W.exit ?_; (repeat (first | (with_reducible first | refine QL.x ?_ | refine QC.x ?_ | refine QB.x ?_) | (with_reducible refine QB.o (by decide) ?_))))
        (repeat (first | ((with_reducible show RG _ _ (_ :: _) _ _ _); refine RG.go1 (k := ?_)) | ((with_reducible show DG _ _ (_ :: _) _ _ _ _ _); refine DG.go1 (k := ?_)) | (with_reducible first | apply RG.nil | apply W.seq | apply W.reg | apply W.skip | apply W.block | apply W.drw | apply DG.nil | refine W.done (QB.n ?_))))
        (refine RG.mca ([]) ([0]) (ci) (k := ?_))
        (repeat (first | ((with_reducible show RG _ _ (_ :: _) _ _ _); refine RG.go1 (k := ?_)) | ((with_reducible show DG _ _ (_ :: _) _ _ _ _ _); refine DG.go1 (k := ?_)) | (with_reducible first | apply RG.nil | apply W.seq | apply W.reg | apply W.skip | apply W.block | apply W.drw | apply DG.nil | refine W.done (QB.n ?_))))
        (refine W.ret ?_; (repeat (with_reducible first | refine QB.r ?_ | refine QL.r ?_ | refine QC.r ?_)); refine QF.r ?_)
        (refine RetOk.wk (Wk.frz (b := 2) rfl rfl) ?_; refine RetOk.wk (Wk.box (b := 1) (cs' := [_, _]) rfl (by dsimp only [ClL]; (repeat' (first | exact True.intro | exact Cl.ice rfl rfl rfl (by first | assumption | decide | omega | (simp; (first | (all_goals fail) | fail)) | (simp <;> omega)) (by first | exact take_all _ | exact take_len (by first | (simp; (first | (all_goals fail) | fail)) | (simp <;> omega)) | exact rfl) | exact Cl.le (.refl _) | apply And.intro)); (first | (all_goals fail) | fail))) ?_; dsimp only [setO])
        exact RetOk.rs (vs := [_, _]) r_wheel_Set []
end Go.Proofs.Ytbkekpecfgmelaa

namespace Go.Proofs.Ytbkekpecfgmelaa
open Go.RowKit
set_option linter.unusedVariables false
set_option linter.unusedSimpArgs false
set_option maxRecDepth 100000
set_option maxHeartbeats 4000000
end Go.Proofs.Ytbkekpecfgmelaa
