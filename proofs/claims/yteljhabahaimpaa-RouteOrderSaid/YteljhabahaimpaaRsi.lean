/- RouteOrder: the walk. -/
import Derived.Test.YteljhabahaimpaaRsh
namespace Go.Proofs.Yteljhabahaimpaa
open Go.RowKit
set_option linter.unusedVariables false
set_option linter.unusedSimpArgs false
set_option maxRecDepth 100000
set_option maxHeartbeats 4000000
theorem routeOrder_ok (l : List Rt) (hL : (l.length : Int) ≤ 9223372036854775807) (hok : ∀ r ∈ l, r.Ok) (t : Int) : ACall Try.prog 6 [.sl false 9 (l.map rt), .int .i64 t] (.bool true) [] := by
  have hlv := lives_ok
  have el := rt_len l
  by_cases h8 : 8 < l.length
  · refine acall_walk (N := 105) Try.func6 (by kernel_rfl) p_caravellaw14_RouteOrder rfl ?_; unfold c_caravellaw14_RouteOrder; dsimp only [enum, Nat.reduceAdd]
    (repeat (first | ((with_reducible show RG _ _ (_ :: _) _ _ _); refine RG.go1 (k := ?_)) | ((with_reducible show DG _ _ (_ :: _) _ _ _ _ _); refine DG.go1 (k := ?_)) | with_reducible apply RG.nil | with_reducible apply W.seq | with_reducible apply W.reg | with_reducible apply W.skip | with_reducible apply W.block | with_reducible apply W.drw | with_reducible apply DG.nil | (with_reducible refine W.done (QB.n ?_)) | refine W.cndT ?_ | refine W.cndF ?_))
    (first | ((with_reducible show RG _ _ (_ :: _) _ _ _); refine RG.ca (hlv) (k := ?_)) | ((with_reducible show DG _ _ (_ :: _) _ _ _ _ _); refine DG.ca (hlv) (k := ?_)))
    (repeat (first | ((with_reducible show RG _ _ (_ :: _) _ _ _); refine RG.go1 (k := ?_)) | ((with_reducible show DG _ _ (_ :: _) _ _ _ _ _); refine DG.go1 (k := ?_)) | with_reducible apply RG.nil | with_reducible apply W.seq | with_reducible apply W.reg | with_reducible apply W.skip | with_reducible apply W.block | with_reducible apply W.drw | with_reducible apply DG.nil | (with_reducible refine W.done (QB.n ?_)) | refine W.cndT ?_ | refine W.cndF ?_))
    (first | ((with_reducible show RG _ _ (_ :: _) _ _ _); refine RG.ca (hlv) (k := ?_)) | ((with_reducible show DG _ _ (_ :: _) _ _ _ _ _); refine DG.ca (hlv) (k := ?_)))
    (repeat (first | ((with_reducible show RG _ _ (_ :: _) _ _ _); refine RG.go1 (k := ?_)) | ((with_reducible show DG _ _ (_ :: _) _ _ _ _ _); refine DG.go1 (k := ?_)) | with_reducible apply RG.nil | with_reducible apply W.seq | with_reducible apply W.reg | with_reducible apply W.skip | with_reducible apply W.block | with_reducible apply W.drw | with_reducible apply DG.nil | (with_reducible refine W.done (QB.n ?_)) | refine W.cndT ?_ | refine W.cndF ?_))
    (refine W.ret ?_; (repeat (with_reducible first | refine QB.r ?_ | refine QL.r ?_ | refine QC.r ?_)); refine QF.r ?_)
    exact RetOk.rs (vs := [_]) r_caravellaw14_RouteOrder []
  have h8 : l.length ≤ 8 := by omega
  refine acall_walk (N := 105) Try.func6 (by kernel_rfl) p_caravellaw14_RouteOrder rfl ?_; unfold c_caravellaw14_RouteOrder; dsimp only [enum, Nat.reduceAdd]
  (repeat (first | ((with_reducible show RG _ _ (_ :: _) _ _ _); refine RG.go1 (k := ?_)) | ((with_reducible show DG _ _ (_ :: _) _ _ _ _ _); refine DG.go1 (k := ?_)) | with_reducible apply RG.nil | with_reducible apply W.seq | with_reducible apply W.reg | with_reducible apply W.skip | with_reducible apply W.block | with_reducible apply W.drw | with_reducible apply DG.nil | (with_reducible refine W.done (QB.n ?_)) | refine W.cndT ?_ | refine W.cndF ?_))
  (first | ((with_reducible show RG _ _ (_ :: _) _ _ _); refine RG.ca (hlv) (k := ?_)) | ((with_reducible show DG _ _ (_ :: _) _ _ _ _ _); refine DG.ca (hlv) (k := ?_)))
  (repeat (first | ((with_reducible show RG _ _ (_ :: _) _ _ _); refine RG.go1 (k := ?_)) | ((with_reducible show DG _ _ (_ :: _) _ _ _ _ _); refine DG.go1 (k := ?_)) | with_reducible apply RG.nil | with_reducible apply W.seq | with_reducible apply W.reg | with_reducible apply W.skip | with_reducible apply W.block | with_reducible apply W.drw | with_reducible apply DG.nil | (with_reducible refine W.done (QB.n ?_)) | refine W.cndT ?_ | refine W.cndF ?_))
  refine W.loop (ι := {i : Nat // i ≤ l.length}) (fun i => ⟨[(25, .int .i64 i.1), (24, .int .i64 l.length), (5, .sl false 9 ((aF (l.take i.1)).map rt)), (6, .nil), (0, .sl false 9 (l.map rt)), (1, .int .i64 t)], [], [], 0, 0⟩) (fun i => l.length - i.1) ⟨0, Nat.zero_le _⟩ ?_ ?_
  · have q2 : ALe .nil (.sl false 9 []) := ALe.nil _ _
    have e0 : aF (l.take 0) = [] := rfl
    dsimp only
    rw [el, e0]
    dsimp only [List.map]
    exact Wk.rn ([] ) ( [])
  rintro ⟨i, hi⟩
  dsimp only
  have hri := aF_RI hok i hi
  have hn := hri.n
  (repeat (first | ((with_reducible show RG _ _ (_ :: _) _ _ _); refine RG.go1 (k := ?_)) | ((with_reducible show DG _ _ (_ :: _) _ _ _ _ _); refine DG.go1 (k := ?_)) | with_reducible apply RG.nil | with_reducible apply W.seq | with_reducible apply W.reg | with_reducible apply W.skip | with_reducible apply W.block | with_reducible apply W.drw | with_reducible apply DG.nil | (with_reducible refine W.done (QB.n ?_))))
  refine W.cnd (fun h1 => ?_) (fun h1 => ?_)
  · have hlt : i < l.length := by simp at h1; omega
    have hE := rt_at l i hlt (j := ((i : Nat) : Int).toNat) (by simp)
    have hst := aF_take l i hlt
    have c1 := add_ok _ (by omega) hri.ok hri.s _ (hok _ (List.getElem_mem hlt))
    clear h1
    generalize l[i] = r at hE hst c1
    rw [rtE] at c1
    rw [← hst] at c1
    generalize radd (aF (l.take i)) r = R at c1
    clear hst
    (repeat (first | ((with_reducible show RG _ _ (_ :: _) _ _ _); refine RG.go1 (k := ?_)) | ((with_reducible show DG _ _ (_ :: _) _ _ _ _ _); refine DG.go1 (k := ?_)) | with_reducible apply RG.nil | with_reducible apply W.seq | with_reducible apply W.reg | with_reducible apply W.skip | with_reducible apply W.block | with_reducible apply W.drw | with_reducible apply DG.nil | (with_reducible refine W.done (QB.n ?_)) | refine W.cndT ?_ | refine W.cndF ?_))
    (first | ((with_reducible show RG _ _ (_ :: _) _ _ _); refine RG.ew (cptr_of (hE) (by (conv => lhs; whnf) <;> exact rfl)) (k := ?_)) | ((with_reducible show DG _ _ (_ :: _) _ _ _ _ _); refine DG.ew (cptr_of (hE) (by (conv => lhs; whnf) <;> exact rfl)) (k := ?_)))
    (repeat (first | ((with_reducible show RG _ _ (_ :: _) _ _ _); refine RG.go1 (k := ?_)) | ((with_reducible show DG _ _ (_ :: _) _ _ _ _ _); refine DG.go1 (k := ?_)) | with_reducible apply RG.nil | with_reducible apply W.seq | with_reducible apply W.reg | with_reducible apply W.skip | with_reducible apply W.block | with_reducible apply W.drw | with_reducible apply DG.nil | (with_reducible refine W.done (QB.n ?_)) | refine W.cndT ?_ | refine W.cndF ?_))
    (first | ((with_reducible show RG _ _ (_ :: _) _ _ _); refine RG.ca (c1) (k := ?_)) | ((with_reducible show DG _ _ (_ :: _) _ _ _ _ _); refine DG.ca (c1) (k := ?_)))
    (repeat (first | ((with_reducible show RG _ _ (_ :: _) _ _ _); refine RG.go1 (k := ?_)) | ((with_reducible show DG _ _ (_ :: _) _ _ _ _ _); refine DG.go1 (k := ?_)) | with_reducible apply RG.nil | with_reducible apply W.seq | with_reducible apply W.reg | with_reducible apply W.skip | with_reducible apply W.block | with_reducible apply W.drw | with_reducible apply DG.nil | (with_reducible refine W.done (QB.n ?_)) | refine W.cndT ?_ | refine W.cndF ?_))
    refine W.done (QL.n (⟨i + 1, by omega⟩) ?_ ?_)
    · exact Wk.rn ([] ) ( [])
    · dsimp only; omega
  have hil : i = l.length := by simp at h1; omega
  subst hil
  clear h1
  rw [List.take_length] at hri hn ⊢
  have el2 := rt_len (aF l)
  (refine W.exit ?_; (repeat (first | (with_reducible first | refine QL.x ?_ | refine QC.x ?_ | refine QB.x ?_) | (with_reducible refine QB.o (by decide) ?_))))
  by_cases hall0 : ¬ (aF l).length = l.length
  · (repeat (first | ((with_reducible show RG _ _ (_ :: _) _ _ _); refine RG.go1 (k := ?_)) | ((with_reducible show DG _ _ (_ :: _) _ _ _ _ _); refine DG.go1 (k := ?_)) | with_reducible apply RG.nil | with_reducible apply W.seq | with_reducible apply W.reg | with_reducible apply W.skip | with_reducible apply W.block | with_reducible apply W.drw | with_reducible apply DG.nil | (with_reducible refine W.done (QB.n ?_)) | refine W.cndT ?_ | refine W.cndF ?_))
    (refine W.ret ?_; (repeat (with_reducible first | refine QB.r ?_ | refine QL.r ?_ | refine QC.r ?_)); refine QF.r ?_)
    exact RetOk.rs (vs := [_]) r_caravellaw14_RouteOrder []
  have hall : (aF l).length = l.length := by omega
  clear hall0
  obtain ⟨tt, htt⟩ : ∃ tt : Nat, tt = (t % 18446744073709551616 % (l.length : Int)).toNat := ⟨_, rfl⟩
  have htl : 0 < l.length → tt < l.length ∧ t % 18446744073709551616 % (l.length : Int) = tt := fun h => by
    have h1 := Int.emod_nonneg (t % 18446744073709551616) (show (l.length : Int) ≠ 0 by omega)
    have h2 := Int.emod_lt_of_pos (t % 18446744073709551616) (show (0 : Int) < l.length by omega)
    omega
  have hokr : ∀ r ∈ rotL l tt, r.Ok := fun r hr => by
    unfold rotL at hr
    rcases List.mem_append.1 hr with q | q
    · exact hok r (List.mem_of_mem_drop q)
    · exact hok r (List.mem_of_mem_take q)
  have hrl : (rotL l tt).length = l.length := by
    rcases Nat.eq_zero_or_pos l.length with q | q
    · rw [List.eq_nil_of_length_eq_zero q]; unfold rotL; simp
    · exact rot_len l tt (by have := (htl q).1; omega)
  clear htt
  (repeat (first | ((with_reducible show RG _ _ (_ :: _) _ _ _); refine RG.go1 (k := ?_)) | ((with_reducible show DG _ _ (_ :: _) _ _ _ _ _); refine DG.go1 (k := ?_)) | with_reducible apply RG.nil | with_reducible apply W.seq | with_reducible apply W.reg | with_reducible apply W.skip | with_reducible apply W.block | with_reducible apply W.drw | with_reducible apply DG.nil | (with_reducible refine W.done (QB.n ?_)) | refine W.cndT ?_ | refine W.cndF ?_))
  refine W.loop (ι := {i : Nat // i ≤ l.length}) (fun i => ⟨[(45, .int .i64 i.1), (44, .int .i64 l.length), (5, .sl false 9 ((aF l).map rt)), (6, .sl false 9 ((aF ((rotL l tt).take i.1)).map rt)), (0, .sl false 9 (l.map rt)), (1, .int .i64 t)], [], [], 0, 0⟩) (fun i => l.length - i.1) ⟨0, Nat.zero_le _⟩ ?_ ?_
  · have q2 : ALe .nil (.sl false 9 []) := ALe.nil _ _
    have e0 : aF ((rotL l tt).take 0) = [] := rfl
    dsimp only
    rw [el, e0]
    exact Wk.rn ([] ) ( [])
  rintro ⟨i, hi⟩
  dsimp only
  have hri2 := aF_RI hokr i (by omega)
  have hn2 := hri2.n
  (repeat (first | ((with_reducible show RG _ _ (_ :: _) _ _ _); refine RG.go1 (k := ?_)) | ((with_reducible show DG _ _ (_ :: _) _ _ _ _ _); refine DG.go1 (k := ?_)) | with_reducible apply RG.nil | with_reducible apply W.seq | with_reducible apply W.reg | with_reducible apply W.skip | with_reducible apply W.block | with_reducible apply W.drw | with_reducible apply DG.nil | (with_reducible refine W.done (QB.n ?_))))
  refine W.cnd (fun h1 => ?_) (fun h1 => ?_)
  · have hlt : i < l.length := by simp at h1; omega
    obtain ⟨htl1, htl2⟩ := htl (by omega)
    clear h1
    rw [← el] at htl2
    have hml : (i + tt) % l.length < l.length := Nat.mod_lt _ (by omega)
    have hmod : ((i : Int) + (tt : Int)) % ((l.map rt).length : Int) = (((i + tt) % l.length : Nat) : Int) := by rw [el, Int.natCast_emod, Int.natCast_add]
    have hra := rot_at l tt i htl1 (by omega)
    have hE := rt_at l ((i + tt) % l.length) hml (j := (((i + tt) % l.length : Nat) : Int).toNat) (Int.toNat_natCast _)
    have hst := aF_take (rotL l tt) i (by omega)
    have c1 := add_ok _ (by omega) hri2.ok hri2.s _ (hokr _ (List.getElem_mem (show i < (rotL l tt).length by omega)))
    rw [hra] at hst c1
    obtain ⟨m, hm⟩ : ∃ m, (i + tt) % l.length = m := ⟨_, rfl⟩
    rw [hm] at hmod
    simp only [hm] at hE hst c1 hml
    generalize l[m] = r at hE hst c1
    rw [rtE] at c1
    rw [← hst] at c1
    generalize radd (aF ((rotL l tt).take i)) r = R at c1
    clear hst
    (repeat (first | ((with_reducible show RG _ _ (_ :: _) _ _ _); refine RG.go1 (k := ?_)) | ((with_reducible show DG _ _ (_ :: _) _ _ _ _ _); refine DG.go1 (k := ?_)) | with_reducible apply RG.nil | with_reducible apply W.seq | with_reducible apply W.reg | with_reducible apply W.skip | with_reducible apply W.block | with_reducible apply W.drw | with_reducible apply DG.nil | (with_reducible refine W.done (QB.n ?_)) | refine W.cndT ?_ | refine W.cndF ?_))
    rw [htl2, hmod]
    (repeat (first | ((with_reducible show RG _ _ (_ :: _) _ _ _); refine RG.go1 (k := ?_)) | ((with_reducible show DG _ _ (_ :: _) _ _ _ _ _); refine DG.go1 (k := ?_)) | with_reducible apply RG.nil | with_reducible apply W.seq | with_reducible apply W.reg | with_reducible apply W.skip | with_reducible apply W.block | with_reducible apply W.drw | with_reducible apply DG.nil | (with_reducible refine W.done (QB.n ?_)) | refine W.cndT ?_ | refine W.cndF ?_))
    (first | ((with_reducible show RG _ _ (_ :: _) _ _ _); refine RG.ew (cptr_of (hE) (by (conv => lhs; whnf) <;> exact rfl)) (k := ?_)) | ((with_reducible show DG _ _ (_ :: _) _ _ _ _ _); refine DG.ew (cptr_of (hE) (by (conv => lhs; whnf) <;> exact rfl)) (k := ?_)))
    (repeat (first | ((with_reducible show RG _ _ (_ :: _) _ _ _); refine RG.go1 (k := ?_)) | ((with_reducible show DG _ _ (_ :: _) _ _ _ _ _); refine DG.go1 (k := ?_)) | with_reducible apply RG.nil | with_reducible apply W.seq | with_reducible apply W.reg | with_reducible apply W.skip | with_reducible apply W.block | with_reducible apply W.drw | with_reducible apply DG.nil | (with_reducible refine W.done (QB.n ?_)) | refine W.cndT ?_ | refine W.cndF ?_))
    (first | ((with_reducible show RG _ _ (_ :: _) _ _ _); refine RG.ca (c1) (k := ?_)) | ((with_reducible show DG _ _ (_ :: _) _ _ _ _ _); refine DG.ca (c1) (k := ?_)))
    (repeat (first | ((with_reducible show RG _ _ (_ :: _) _ _ _); refine RG.go1 (k := ?_)) | ((with_reducible show DG _ _ (_ :: _) _ _ _ _ _); refine DG.go1 (k := ?_)) | with_reducible apply RG.nil | with_reducible apply W.seq | with_reducible apply W.reg | with_reducible apply W.skip | with_reducible apply W.block | with_reducible apply W.drw | with_reducible apply DG.nil | (with_reducible refine W.done (QB.n ?_)) | refine W.cndT ?_ | refine W.cndF ?_))
    refine W.done (QL.n (⟨i + 1, by omega⟩) ?_ ?_)
    · exact Wk.rn ([] ) ( [])
    · dsimp only; omega
  have hil : i = l.length := by simp at h1; omega
  subst hil
  clear h1
  have hAB : aF ((rotL l tt).take l.length) = aF l := by
    rw [← hrl, List.take_length]
    rcases Nat.eq_zero_or_pos l.length with q | q
    · rw [List.eq_nil_of_length_eq_zero (show (rotL l tt).length = 0 by omega), List.eq_nil_of_length_eq_zero q]
    · exact order_same hok h8 hall tt (htl q).1
  rw [hAB] at hri2 hn2 ⊢
  have cs := same_ok (aF l) (by omega)
  (refine W.exit ?_; (repeat (first | (with_reducible first | refine QL.x ?_ | refine QC.x ?_ | refine QB.x ?_) | (with_reducible refine QB.o (by decide) ?_))))
  (repeat (first | ((with_reducible show RG _ _ (_ :: _) _ _ _); refine RG.go1 (k := ?_)) | ((with_reducible show DG _ _ (_ :: _) _ _ _ _ _); refine DG.go1 (k := ?_)) | with_reducible apply RG.nil | with_reducible apply W.seq | with_reducible apply W.reg | with_reducible apply W.skip | with_reducible apply W.block | with_reducible apply W.drw | with_reducible apply DG.nil | (with_reducible refine W.done (QB.n ?_)) | refine W.cndT ?_ | refine W.cndF ?_))
  (first | ((with_reducible show RG _ _ (_ :: _) _ _ _); refine RG.ca (cs) (k := ?_)) | ((with_reducible show DG _ _ (_ :: _) _ _ _ _ _); refine DG.ca (cs) (k := ?_)))
  (repeat (first | ((with_reducible show RG _ _ (_ :: _) _ _ _); refine RG.go1 (k := ?_)) | ((with_reducible show DG _ _ (_ :: _) _ _ _ _ _); refine DG.go1 (k := ?_)) | with_reducible apply RG.nil | with_reducible apply W.seq | with_reducible apply W.reg | with_reducible apply W.skip | with_reducible apply W.block | with_reducible apply W.drw | with_reducible apply DG.nil | (with_reducible refine W.done (QB.n ?_)) | refine W.cndT ?_ | refine W.cndF ?_))
  clear cs hAB htl hrl hokr hall hri2 hn2
  generalize aF l = K at *
  refine W.loop (ι := {j : Nat // j ≤ K.length}) (fun j => ⟨[(75, .int .i64 j.1), (74, .int .i64 K.length), (73, .sl false 9 (K.map rt)), (6, .sl false 9 ((K.drop j.1).map rt))], [], [], 0, 0⟩) (fun j => K.length - j.1) ⟨0, Nat.zero_le _⟩ ?_ ?_
  · dsimp only
    rw [el2]
    exact Wk.rn ([] ) ( [])
  rintro ⟨j, hj⟩
  dsimp only
  (repeat (first | ((with_reducible show RG _ _ (_ :: _) _ _ _); refine RG.go1 (k := ?_)) | ((with_reducible show DG _ _ (_ :: _) _ _ _ _ _); refine DG.go1 (k := ?_)) | with_reducible apply RG.nil | with_reducible apply W.seq | with_reducible apply W.reg | with_reducible apply W.skip | with_reducible apply W.block | with_reducible apply W.drw | with_reducible apply DG.nil | (with_reducible refine W.done (QB.n ?_))))
  refine W.cnd (fun h1 => ?_) (fun h1 => ?_)
  · have hlt : j < K.length := by simp at h1; omega
    have hE := rt_at K j hlt (j := ((j : Nat) : Int).toNat) (by simp)
    have hd := List.drop_eq_getElem_cons hlt
    have c1 := del_ok (K.drop j) (by simp; omega) ⟨K[j].n0, K[j].n1, K[j].n2, K[j].n3, K[j].b⟩
    have hp : pdel (K.drop j) ⟨K[j].n0, K[j].n1, K[j].n2, K[j].n3, K[j].b⟩ = ⟨K.drop (j + 1), 0⟩ := by
      have h0 : 0 < (K.drop j).length := by simp; omega
      have e0 : (K.drop j)[0] = K[j] := by simp
      have hd1 : dl ⟨K[j].n0, K[j].n1, K[j].n2, K[j].n3, K[j].b⟩ (K.drop j)[0] = true := by rw [e0]; unfold dl nbEq; simp
      have hone := dl_one h0 hd1 (fun k hk h => absurd h (Nat.not_lt_zero _)) (fun k hk h => by
        rw [List.getElem_drop]
        rw [List.getElem_drop] at hd1
        exact dl_uniq hri _ (j + 0) (j + k) (by omega) (by simp at hk; omega) (by omega) hd1)
      unfold pdel
      rw [hone]
      have e1 : (K.drop j).take 0 ++ (K.drop j).drop (0 + 1) = K.drop (j + 1) := by rw [List.drop_drop]; rfl
      rw [e1, if_neg (by simp; omega)]
    rw [hp] at c1
    dsimp only at c1
    have e3 : (K.drop j).map rt = (K.map rt).drop j := by rw [List.map_drop]
    clear h1 hp hd
    generalize K[j] = r at hE c1
    (repeat (first | ((with_reducible show RG _ _ (_ :: _) _ _ _); refine RG.go1 (k := ?_)) | ((with_reducible show DG _ _ (_ :: _) _ _ _ _ _); refine DG.go1 (k := ?_)) | with_reducible apply RG.nil | with_reducible apply W.seq | with_reducible apply W.reg | with_reducible apply W.skip | with_reducible apply W.block | with_reducible apply W.drw | with_reducible apply DG.nil | (with_reducible refine W.done (QB.n ?_)) | refine W.cndT ?_ | refine W.cndF ?_))
    (first | ((with_reducible show RG _ _ (_ :: _) _ _ _); refine RG.ew (cptr_of (hE) (by (conv => lhs; whnf) <;> exact rfl)) (k := ?_)) | ((with_reducible show DG _ _ (_ :: _) _ _ _ _ _); refine DG.ew (cptr_of (hE) (by (conv => lhs; whnf) <;> exact rfl)) (k := ?_)))
    (repeat (first | ((with_reducible show RG _ _ (_ :: _) _ _ _); refine RG.go1 (k := ?_)) | ((with_reducible show DG _ _ (_ :: _) _ _ _ _ _); refine DG.go1 (k := ?_)) | with_reducible apply RG.nil | with_reducible apply W.seq | with_reducible apply W.reg | with_reducible apply W.skip | with_reducible apply W.block | with_reducible apply W.drw | with_reducible apply DG.nil | (with_reducible refine W.done (QB.n ?_)) | refine W.cndT ?_ | refine W.cndF ?_))
    (first | ((with_reducible show RG _ _ (_ :: _) _ _ _); refine RG.ca (c1) (k := ?_)) | ((with_reducible show DG _ _ (_ :: _) _ _ _ _ _); refine DG.ca (c1) (k := ?_)))
    (repeat (first | ((with_reducible show RG _ _ (_ :: _) _ _ _); refine RG.go1 (k := ?_)) | ((with_reducible show DG _ _ (_ :: _) _ _ _ _ _); refine DG.go1 (k := ?_)) | with_reducible apply RG.nil | with_reducible apply W.seq | with_reducible apply W.reg | with_reducible apply W.skip | with_reducible apply W.block | with_reducible apply W.drw | with_reducible apply DG.nil | (with_reducible refine W.done (QB.n ?_)) | refine W.cndT ?_ | refine W.cndF ?_))
    refine W.done (QL.n (⟨j + 1, by omega⟩) ?_ ?_)
    · exact Wk.rn ([] ) ( [])
    · dsimp only; omega
  have hjl : j = K.length := by simp at h1; omega
  subst hjl
  clear h1
  rw [List.drop_length]
  have cf := find_ok [] (by decide) (fun r h => by cases h) ⟨10, 0, 0, 1⟩ (by constructor <;> decide)
  rw [show ans ⟨10, 0, 0, 1⟩ (([] : List Rt).find? (wi ⟨10, 0, 0, 1⟩)) = ⟨⟨0, 0, 0, 0⟩, 15⟩ from rfl] at cf
  simp only [List.map, faV, Ip.l] at cf ⊢
  (refine W.exit ?_; (repeat (first | (with_reducible first | refine QL.x ?_ | refine QC.x ?_ | refine QB.x ?_) | (with_reducible refine QB.o (by decide) ?_))))
  (repeat (first | ((with_reducible show RG _ _ (_ :: _) _ _ _); refine RG.go1 (k := ?_)) | ((with_reducible show DG _ _ (_ :: _) _ _ _ _ _); refine DG.go1 (k := ?_)) | with_reducible apply RG.nil | with_reducible apply W.seq | with_reducible apply W.reg | with_reducible apply W.skip | with_reducible apply W.block | with_reducible apply W.drw | with_reducible apply DG.nil | (with_reducible refine W.done (QB.n ?_)) | refine W.cndT ?_ | refine W.cndF ?_))
  (first | ((with_reducible show RG _ _ (_ :: _) _ _ _); refine RG.ca (cf) (k := ?_)) | ((with_reducible show DG _ _ (_ :: _) _ _ _ _ _); refine DG.ca (cf) (k := ?_)))
  (repeat (first | ((with_reducible show RG _ _ (_ :: _) _ _ _); refine RG.go1 (k := ?_)) | ((with_reducible show DG _ _ (_ :: _) _ _ _ _ _); refine DG.go1 (k := ?_)) | with_reducible apply RG.nil | with_reducible apply W.seq | with_reducible apply W.reg | with_reducible apply W.skip | with_reducible apply W.block | with_reducible apply W.drw | with_reducible apply DG.nil | (with_reducible refine W.done (QB.n ?_)) | refine W.cndT ?_ | refine W.cndF ?_))
  (refine W.ret ?_; (repeat (with_reducible first | refine QB.r ?_ | refine QL.r ?_ | refine QC.r ?_)); refine QF.r ?_)
  exact RetOk.rs (vs := [_]) r_caravellaw14_RouteOrder []
theorem RouteOrder_walk {r : Reach} {b0 base : Nat} {H : Type} {enc : TypeId × Value → H} {spare : Nat → Bool} {held : Bool} {d : DataW H} {p : List MemPlace} (v : Value) (a : Int) (W : World) (hv : Value.okWide Try.prog W r b0 22 v) (k : DataW.Trod enc Try.prog W base spare held 22 v d p) (ha : -9223372036854775808 ≤ a ∧ a ≤ 9223372036854775807) :
    Calls Try.prog 6 #[v, .int .i64 a] W fun e W' => e = .returned (.bool true) ∧ Below W.heap.size W W' := by
  obtain ⟨l, hr, hl, hq⟩ := routes_arg hv k
  exact acall_lawF (routeOrder_ok l (len_le hl) hq a) W [_, _] ⟨.pure _ _ hr, .pure _ _ (.int _ _), trivial⟩
end Go.Proofs.Yteljhabahaimpaa
