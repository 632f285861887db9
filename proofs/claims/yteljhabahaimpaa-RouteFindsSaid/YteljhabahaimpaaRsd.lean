/- Del, Same. -/
import Derived.Test.YteljhabahaimpaaRsc
namespace Go.Proofs.Yteljhabahaimpaa
open Go.RowKit
set_option linter.unusedVariables false
set_option linter.unusedSimpArgs false
set_option maxRecDepth 100000
set_option maxHeartbeats 4000000
structure Nb where
  n0 : Int
  n1 : Int
  n2 : Int
  n3 : Int
  b : Int
def nbEq (m : Nb) (x : Rt) : Bool := decide (x.n0 = m.n0) && (decide (x.n1 = m.n1) && (decide (x.n2 = m.n2) && (decide (x.n3 = m.n3) && true)))
theorem nbEq_q (m : Nb) (x : Rt) : eqTs [0, 0, 0, 0] [.int .u8 x.n0, .int .u8 x.n1, .int .u8 x.n2, .int .u8 x.n3] [.int .u8 m.n0, .int .u8 m.n1, .int .u8 m.n2, .int .u8 m.n3] = some (nbEq m x) := eqts_i (eqts_i (eqts_i (eqts_i eqts_nil)))
def dl (m : Nb) (x : Rt) : Bool := nbEq m x && decide (x.b = m.b)
theorem dl1_ok (x : Rt) (m : Nb) : ACall Try.prog 26 [rt x, .cptr true [.int .u8 m.n0, .int .u8 m.n1, .int .u8 m.n2, .int .u8 m.n3], .cptr true [.int .i64 m.b]] (.bool (dl m x)) [] := by
  have hq := nbEq_q m x
  unfold dl
  rw [rtE]
  cases hB : nbEq m x
  · rw [hB] at hq
    refine acall_walk (N := 15) Try.func26 (by kernel_rfl) p_route_Del_1 rfl ?_; unfold c_route_Del_1; dsimp only [enum, Nat.reduceAdd]
    (repeat (first | ((with_reducible show RG _ _ (_ :: _) _ _ _); refine RG.go1 (k := ?_)) | ((with_reducible show DG _ _ (_ :: _) _ _ _ _ _); refine DG.go1 (k := ?_)) | with_reducible apply RG.nil | with_reducible apply W.seq | with_reducible apply W.reg | with_reducible apply W.skip | with_reducible apply W.block | with_reducible apply W.drw | with_reducible apply DG.nil | (with_reducible refine W.done (QB.n ?_)) | refine W.cndT ?_ | refine W.cndF ?_))
    (refine W.ret ?_; (repeat (with_reducible first | refine QB.r ?_ | refine QL.r ?_ | refine QC.r ?_)); refine QF.r ?_)
    exact RetOk.rs (vs := [_]) r_route_Del_1 []
  · rw [hB] at hq
    by_cases hb : x.b = m.b
    · rw [decide_eq_true hb]
      refine acall_walk (N := 15) Try.func26 (by kernel_rfl) p_route_Del_1 rfl ?_; unfold c_route_Del_1; dsimp only [enum, Nat.reduceAdd]
      (repeat (first | ((with_reducible show RG _ _ (_ :: _) _ _ _); refine RG.go1 (k := ?_)) | ((with_reducible show DG _ _ (_ :: _) _ _ _ _ _); refine DG.go1 (k := ?_)) | with_reducible apply RG.nil | with_reducible apply W.seq | with_reducible apply W.reg | with_reducible apply W.skip | with_reducible apply W.block | with_reducible apply W.drw | with_reducible apply DG.nil | (with_reducible refine W.done (QB.n ?_)) | refine W.cndT ?_ | refine W.cndF ?_))
      (refine W.ret ?_; (repeat (with_reducible first | refine QB.r ?_ | refine QL.r ?_ | refine QC.r ?_)); refine QF.r ?_)
      exact RetOk.rs (vs := [_]) r_route_Del_1 []
    · rw [decide_eq_false hb]
      refine acall_walk (N := 15) Try.func26 (by kernel_rfl) p_route_Del_1 rfl ?_; unfold c_route_Del_1; dsimp only [enum, Nat.reduceAdd]
      (repeat (first | ((with_reducible show RG _ _ (_ :: _) _ _ _); refine RG.go1 (k := ?_)) | ((with_reducible show DG _ _ (_ :: _) _ _ _ _ _); refine DG.go1 (k := ?_)) | with_reducible apply RG.nil | with_reducible apply W.seq | with_reducible apply W.reg | with_reducible apply W.skip | with_reducible apply W.block | with_reducible apply W.drw | with_reducible apply DG.nil | (with_reducible refine W.done (QB.n ?_)) | refine W.cndT ?_ | refine W.cndF ?_))
      (refine W.ret ?_; (repeat (with_reducible first | refine QB.r ?_ | refine QL.r ?_ | refine QC.r ?_)); refine QF.r ?_)
      exact RetOk.rs (vs := [_]) r_route_Del_1 []
def pdel (l : List Rt) (m : Nb) : AR := ⟨l.filter fun x => !dl m x, if (l.filter fun x => !dl m x).length = l.length then 2 else 0⟩
theorem del_ok (l : List Rt) (hl : l.length ≤ 1000) (m : Nb) : ACall Try.prog 13 [.sl true 9 (l.map rt), .agg [.int .u8 m.n0, .int .u8 m.n1, .int .u8 m.n2, .int .u8 m.n3], .int .i64 m.b] (.tup [.sl false 9 ((pdel l m).l.map rt), .int .i64 (pdel l m).e]) [] := by
  have el := rt_len l
  have cc := rtClone_ok l (by omega)
  have cd := rtDel_ok l (by omega) 26 m.n0 m.n1 m.n2 m.n3 m.b (dl m) fun x _ => dl1_ok x m
  have hfl : (l.filter fun x => !dl m x).length ≤ l.length := List.length_filter_le _ _
  unfold pdel
  dsimp only
  generalize (l.filter fun x => !dl m x) = k at *
  have ek := rt_len k
  by_cases h : k.length = l.length
  · rw [if_pos h]
    refine acall_walk (N := 20) Try.func13 (by kernel_rfl) p_route_Del rfl ?_; unfold c_route_Del; dsimp only [enum, Nat.reduceAdd]
    (repeat (first | ((with_reducible show RG _ _ (_ :: _) _ _ _); refine RG.go1 (k := ?_)) | ((with_reducible show DG _ _ (_ :: _) _ _ _ _ _); refine DG.go1 (k := ?_)) | with_reducible apply RG.nil | with_reducible apply W.seq | with_reducible apply W.reg | with_reducible apply W.skip | with_reducible apply W.block | with_reducible apply W.drw | with_reducible apply DG.nil | (with_reducible refine W.done (QB.n ?_)) | refine W.cndT ?_ | refine W.cndF ?_))
    (first | ((with_reducible show RG _ _ (_ :: _) _ _ _); refine RG.ca (cc) (k := ?_)) | ((with_reducible show DG _ _ (_ :: _) _ _ _ _ _); refine DG.ca (cc) (k := ?_)))
    (repeat (first | ((with_reducible show RG _ _ (_ :: _) _ _ _); refine RG.go1 (k := ?_)) | ((with_reducible show DG _ _ (_ :: _) _ _ _ _ _); refine DG.go1 (k := ?_)) | with_reducible apply RG.nil | with_reducible apply W.seq | with_reducible apply W.reg | with_reducible apply W.skip | with_reducible apply W.block | with_reducible apply W.drw | with_reducible apply DG.nil | (with_reducible refine W.done (QB.n ?_)) | refine W.cndT ?_ | refine W.cndF ?_))
    (refine RG.mca ([]) ([1]) (cd) (k := ?_))
    (repeat (first | ((with_reducible show RG _ _ (_ :: _) _ _ _); refine RG.go1 (k := ?_)) | ((with_reducible show DG _ _ (_ :: _) _ _ _ _ _); refine DG.go1 (k := ?_)) | with_reducible apply RG.nil | with_reducible apply W.seq | with_reducible apply W.reg | with_reducible apply W.skip | with_reducible apply W.block | with_reducible apply W.drw | with_reducible apply DG.nil | (with_reducible refine W.done (QB.n ?_)) | refine W.cndT ?_ | refine W.cndF ?_))
    (refine W.ret ?_; (repeat (with_reducible first | refine QB.r ?_ | refine QL.r ?_ | refine QC.r ?_)); refine QF.r ?_)
    (refine RetOk.wk (Wk.frz (b := 1) rfl rfl) ?_; refine RetOk.wk (Wk.tmp (t := 6) (Cl.ice rfl rfl rfl (by first | assumption | decide | omega | (simp; (first | (all_goals fail) | fail)) | (simp <;> omega)) (by first | exact take_all _ | exact take_len (by first | (simp; (first | (all_goals fail) | fail)) | (simp <;> omega)) | exact rfl))) ?_; dsimp only [setO])
    exact RetOk.rs (vs := [_, _]) r_route_Del []
  · rw [if_neg h]
    refine acall_walk (N := 20) Try.func13 (by kernel_rfl) p_route_Del rfl ?_; unfold c_route_Del; dsimp only [enum, Nat.reduceAdd]
    (repeat (first | ((with_reducible show RG _ _ (_ :: _) _ _ _); refine RG.go1 (k := ?_)) | ((with_reducible show DG _ _ (_ :: _) _ _ _ _ _); refine DG.go1 (k := ?_)) | with_reducible apply RG.nil | with_reducible apply W.seq | with_reducible apply W.reg | with_reducible apply W.skip | with_reducible apply W.block | with_reducible apply W.drw | with_reducible apply DG.nil | (with_reducible refine W.done (QB.n ?_)) | refine W.cndT ?_ | refine W.cndF ?_))
    (first | ((with_reducible show RG _ _ (_ :: _) _ _ _); refine RG.ca (cc) (k := ?_)) | ((with_reducible show DG _ _ (_ :: _) _ _ _ _ _); refine DG.ca (cc) (k := ?_)))
    (repeat (first | ((with_reducible show RG _ _ (_ :: _) _ _ _); refine RG.go1 (k := ?_)) | ((with_reducible show DG _ _ (_ :: _) _ _ _ _ _); refine DG.go1 (k := ?_)) | with_reducible apply RG.nil | with_reducible apply W.seq | with_reducible apply W.reg | with_reducible apply W.skip | with_reducible apply W.block | with_reducible apply W.drw | with_reducible apply DG.nil | (with_reducible refine W.done (QB.n ?_)) | refine W.cndT ?_ | refine W.cndF ?_))
    (refine RG.mca ([]) ([1]) (cd) (k := ?_))
    (repeat (first | ((with_reducible show RG _ _ (_ :: _) _ _ _); refine RG.go1 (k := ?_)) | ((with_reducible show DG _ _ (_ :: _) _ _ _ _ _); refine DG.go1 (k := ?_)) | with_reducible apply RG.nil | with_reducible apply W.seq | with_reducible apply W.reg | with_reducible apply W.skip | with_reducible apply W.block | with_reducible apply W.drw | with_reducible apply DG.nil | (with_reducible refine W.done (QB.n ?_)) | refine W.cndT ?_ | refine W.cndF ?_))
    (refine W.ret ?_; (repeat (with_reducible first | refine QB.r ?_ | refine QL.r ?_ | refine QC.r ?_)); refine QF.r ?_)
    (refine RetOk.wk (Wk.frz (b := 1) rfl rfl) ?_; refine RetOk.wk (Wk.tmp (t := 6) (Cl.ice rfl rfl rfl (by first | assumption | decide | omega | (simp; (first | (all_goals fail) | fail)) | (simp <;> omega)) (by first | exact take_all _ | exact take_len (by first | (simp; (first | (all_goals fail) | fail)) | (simp <;> omega)) | exact rfl))) ?_; dsimp only [setO])
    exact RetOk.rs (vs := [_, _]) r_route_Del []
theorem dl_one {l : List Rt} {m : Nb} {i : Nat} (hi : i < l.length) (hd : dl m l[i] = true) (h1 : ∀ (j : Nat) (hj : j < l.length), j < i → dl m l[j] = false) (hu : ∀ (j : Nat) (hj : j < l.length), i < j → dl m l[j] = false) :
    (l.filter fun x => !dl m x) = l.take i ++ l.drop (i + 1) := by
  have e : l = l.take i ++ l[i] :: l.drop (i + 1) := by rw [← List.drop_eq_getElem_cons hi, List.take_append_drop]
  have f1 : (l.take i).filter (fun x => !dl m x) = l.take i := by
    rw [List.filter_eq_self]
    intro x hx
    obtain ⟨j, hj, rfl⟩ := List.getElem_of_mem hx
    simp at hj
    rw [List.getElem_take, h1 j (by omega) (by omega)]; rfl
  have f2 : (l.drop (i + 1)).filter (fun x => !dl m x) = l.drop (i + 1) := by
    rw [List.filter_eq_self]
    intro x hx
    obtain ⟨j, hj, rfl⟩ := List.getElem_of_mem hx
    simp at hj
    rw [List.getElem_drop, hu _ (by omega) (by omega)]; rfl
  conv => lhs; rw [e]
  rw [List.filter_append, List.filter_cons, hd, f1, f2]; rfl
theorem rDel_ok (l : List Rt) (hl : l.length ≤ 1000) (m : Nb) (hu : ∀ (i j : Nat) (hi : i < l.length) (hj : j < l.length), i < j → dl m l[i] = true → dl m l[j] = false) : ACall Try.prog 14 [.sl false 9 (l.map rt), .agg [.int .u8 m.n0, .int .u8 m.n1, .int .u8 m.n2, .int .u8 m.n3], .int .i64 m.b] (.tup [.sl false 9 ((pdel l m).l.map rt), .int .i64 (pdel l m).e]) [] := by
  have el := rt_len l
  obtain ⟨R, hR⟩ : ∃ R, pdel l m = R := ⟨_, rfl⟩
  rw [hR]
  unfold pdel at hR
  refine acall_walk (N := 44) Try.func14 (by kernel_rfl) p_caravelref14_Del rfl ?_; unfold c_caravelref14_Del; dsimp only [enum, Nat.reduceAdd]
  (repeat (first | ((with_reducible show RG _ _ (_ :: _) _ _ _); refine RG.go1 (k := ?_)) | ((with_reducible show DG _ _ (_ :: _) _ _ _ _ _); refine DG.go1 (k := ?_)) | with_reducible apply RG.nil | with_reducible apply W.seq | with_reducible apply W.reg | with_reducible apply W.skip | with_reducible apply W.block | with_reducible apply W.drw | with_reducible apply DG.nil | (with_reducible refine W.done (QB.n ?_)) | refine W.cndT ?_ | refine W.cndF ?_))
  refine W.loop (ι := {i : Nat // i ≤ l.length ∧ ∀ (j : Nat) (hj : j < l.length), j < i → dl m l[j] = false}) (fun i => ⟨[(8, .int .i64 i.1), (7, .int .i64 0), (0, .sl false 9 (l.map rt)), (2, .int .i64 m.b), (4, .aptr 0 4)], [], [some ⟨false, 1, [.int .u8 m.n0, .int .u8 m.n1, .int .u8 m.n2, .int .u8 m.n3]⟩], 0, 1⟩) (fun i => l.length - i.1) ⟨0, Nat.zero_le _, fun j _ h => absurd h (Nat.not_lt_zero _)⟩ ?_ ?_
  · exact Wk.rn ([] ) ( [0])
  rintro ⟨i, hi, hall⟩
  dsimp only
  (repeat (first | ((with_reducible show RG _ _ (_ :: _) _ _ _); refine RG.go1 (k := ?_)) | ((with_reducible show DG _ _ (_ :: _) _ _ _ _ _); refine DG.go1 (k := ?_)) | with_reducible apply RG.nil | with_reducible apply W.seq | with_reducible apply W.reg | with_reducible apply W.skip | with_reducible apply W.block | with_reducible apply W.drw | with_reducible apply DG.nil | (with_reducible refine W.done (QB.n ?_))))
  refine W.cnd (fun h1 => ?_) (fun h1 => ?_)
  · have hlt : i < l.length := by simp at h1; omega
    have hE := rt_at l i hlt (j := ((i : Nat) : Int).toNat) (by simp)
    have hone := dl_one (m := m) hlt
    have hu := fun j hj => hu i j hlt hj
    have hnext : dl m l[i] = false → ∀ (j : Nat) (hj : j < l.length), j < i + 1 → dl m l[j] = false := fun hf j hj hji => by
      rcases Nat.lt_or_ge j i with q | q
      · exact hall j hj q
      · obtain rfl : j = i := by omega
        exact hf
    clear h1
    generalize l[i] = x at hE hone hu hnext
    have hq := nbEq_q m x
    cases hB : nbEq m x
    · rw [hB] at hq
      have hnext := hnext (by unfold dl; rw [hB]; rfl)
      clear hone hu
      (repeat (first | ((with_reducible show RG _ _ (_ :: _) _ _ _); refine RG.go1 (k := ?_)) | ((with_reducible show DG _ _ (_ :: _) _ _ _ _ _); refine DG.go1 (k := ?_)) | with_reducible apply RG.nil | with_reducible apply W.seq | with_reducible apply W.reg | with_reducible apply W.skip | with_reducible apply W.block | with_reducible apply W.drw | with_reducible apply DG.nil | (with_reducible refine W.done (QB.n ?_)) | refine W.cndT ?_ | refine W.cndF ?_))
      (first | ((with_reducible show RG _ _ (_ :: _) _ _ _); refine RG.ew (cptr_of (hE) (by (conv => lhs; whnf) <;> exact rfl)) (k := ?_)) | ((with_reducible show DG _ _ (_ :: _) _ _ _ _ _); refine DG.ew (cptr_of (hE) (by (conv => lhs; whnf) <;> exact rfl)) (k := ?_)))
      (repeat (first | ((with_reducible show RG _ _ (_ :: _) _ _ _); refine RG.go1 (k := ?_)) | ((with_reducible show DG _ _ (_ :: _) _ _ _ _ _); refine DG.go1 (k := ?_)) | with_reducible apply RG.nil | with_reducible apply W.seq | with_reducible apply W.reg | with_reducible apply W.skip | with_reducible apply W.block | with_reducible apply W.drw | with_reducible apply DG.nil | (with_reducible refine W.done (QB.n ?_)) | refine W.cndT ?_ | refine W.cndF ?_))
      refine W.done (QL.n (⟨i + 1, by omega, hnext⟩) ?_ ?_)
      · exact Wk.rn ([] ) ( [0])
      · dsimp only; omega
    · rw [hB] at hq
      by_cases hb : x.b = m.b
      · have hd : dl m x = true := by unfold dl; rw [hB, decide_eq_true hb]; rfl
        have hone := hone hd hall fun j hj hij => hu j hj hij hd
        rw [hone] at hR
        have hln : (l.take i ++ l.drop (i + 1)).length + 1 = l.length := by simp; omega
        rw [if_neg (by omega)] at hR
        subst hR
        have e1 : (l.map rt).take i = (l.take i).map rt := by rw [List.map_take]
        have e2 : (l.map rt).drop (i + 1) = (l.drop (i + 1)).map rt := by rw [List.map_drop]
        have l1 := rt_len (l.take i)
        have l2 := rt_len (l.drop (i + 1))
        have p1 := rt_pure (l.take i)
        have p2 := rt_pure (l.drop (i + 1))
        have e3 : (l.take i).map rt ++ (l.drop (i + 1)).map rt = (l.take i ++ l.drop (i + 1)).map rt := by rw [List.map_append]
        have s1 : ((l.map rt).take ((i : Nat) : Int).toNat).drop (0 : Int).toNat = (l.take i).map rt := by simp
        have s2 : ((l.map rt).take (((l.map rt).length : Nat) : Int).toNat).drop ((i : Int) + 1).toNat = (l.drop (i + 1)).map rt := by
          rw [show (((l.map rt).length : Nat) : Int).toNat = (l.map rt).length from rfl, List.take_length, show ((i : Int) + 1).toNat = i + 1 by omega, e2]
        have l3 : (l.take i).length ≤ i := by simp <;> omega
        have l4 : (l.drop (i + 1)).length ≤ l.length := by simp <;> omega
        clear hone hnext hu
        (repeat (first | ((with_reducible show RG _ _ (_ :: _) _ _ _); refine RG.go1 (k := ?_)) | ((with_reducible show DG _ _ (_ :: _) _ _ _ _ _); refine DG.go1 (k := ?_)) | with_reducible apply RG.nil | with_reducible apply W.seq | with_reducible apply W.reg | with_reducible apply W.skip | with_reducible apply W.block | with_reducible apply W.drw | with_reducible apply DG.nil | (with_reducible refine W.done (QB.n ?_)) | refine W.cndT ?_ | refine W.cndF ?_))
        (first | ((with_reducible show RG _ _ (_ :: _) _ _ _); refine RG.ew (cptr_of (hE) (by (conv => lhs; whnf) <;> exact rfl)) (k := ?_)) | ((with_reducible show DG _ _ (_ :: _) _ _ _ _ _); refine DG.ew (cptr_of (hE) (by (conv => lhs; whnf) <;> exact rfl)) (k := ?_)))
        (repeat (first | ((with_reducible show RG _ _ (_ :: _) _ _ _); refine RG.go1 (k := ?_)) | ((with_reducible show DG _ _ (_ :: _) _ _ _ _ _); refine DG.go1 (k := ?_)) | with_reducible apply RG.nil | with_reducible apply W.seq | with_reducible apply W.reg | with_reducible apply W.skip | with_reducible apply W.block | with_reducible apply W.drw | with_reducible apply DG.nil | (with_reducible refine W.done (QB.n ?_)) | refine W.cndT ?_ | refine W.cndF ?_))
        (first | ((with_reducible show RG _ _ (_ :: _) _ _ _); refine RG.ewg (cptr_of (hE) (by (conv => lhs; whnf) <;> exact rfl)) (k := ?_)) | ((with_reducible show DG _ _ (_ :: _) _ _ _ _ _); refine DG.ewg (cptr_of (hE) (by (conv => lhs; whnf) <;> exact rfl)) (k := ?_)))
        (repeat (first | ((with_reducible show RG _ _ (_ :: _) _ _ _); refine RG.go1 (k := ?_)) | ((with_reducible show DG _ _ (_ :: _) _ _ _ _ _); refine DG.go1 (k := ?_)) | with_reducible apply RG.nil | with_reducible apply W.seq | with_reducible apply W.reg | with_reducible apply W.skip | with_reducible apply W.block | with_reducible apply W.drw | with_reducible apply DG.nil | (with_reducible refine W.done (QB.n ?_)) | refine W.cndT ?_ | refine W.cndF ?_))
        (first | ((with_reducible show RG _ _ (_ :: _) _ _ _); refine RG.ew (sl_of (s1)) (k := ?_)) | ((with_reducible show DG _ _ (_ :: _) _ _ _ _ _); refine DG.ew (sl_of (s1)) (k := ?_)))
        (repeat (first | ((with_reducible show RG _ _ (_ :: _) _ _ _); refine RG.go1 (k := ?_)) | ((with_reducible show DG _ _ (_ :: _) _ _ _ _ _); refine DG.go1 (k := ?_)) | with_reducible apply RG.nil | with_reducible apply W.seq | with_reducible apply W.reg | with_reducible apply W.skip | with_reducible apply W.block | with_reducible apply W.drw | with_reducible apply DG.nil | (with_reducible refine W.done (QB.n ?_)) | refine W.cndT ?_ | refine W.cndF ?_))
        (first | ((with_reducible show RG _ _ (_ :: _) _ _ _); refine RG.ew (sl_of (s2)) (k := ?_)) | ((with_reducible show DG _ _ (_ :: _) _ _ _ _ _); refine DG.ew (sl_of (s2)) (k := ?_)))
        (repeat (first | ((with_reducible show RG _ _ (_ :: _) _ _ _); refine RG.go1 (k := ?_)) | ((with_reducible show DG _ _ (_ :: _) _ _ _ _ _); refine DG.go1 (k := ?_)) | with_reducible apply RG.nil | with_reducible apply W.seq | with_reducible apply W.reg | with_reducible apply W.skip | with_reducible apply W.block | with_reducible apply W.drw | with_reducible apply DG.nil | (with_reducible refine W.done (QB.n ?_)) | refine W.cndT ?_ | refine W.cndF ?_))
        rw [e3, show ((l.take i).map rt).length + ((l.drop (i + 1)).map rt).length = (l.take i ++ l.drop (i + 1)).length by simp]
        (refine W.ret ?_; (repeat (with_reducible first | refine QB.r ?_ | refine QL.r ?_ | refine QC.r ?_)); refine QF.r ?_)
        (refine RetOk.wk (Wk.frz (b := 3) rfl rfl) ?_; refine RetOk.wk (Wk.tmp (t := 6) (Cl.ice rfl rfl rfl (by first | assumption | decide | omega | (simp; (first | (all_goals fail) | fail)) | (simp <;> omega)) (by first | exact take_all _ | exact take_len (by first | (simp; (first | (all_goals fail) | fail)) | (simp <;> omega)) | exact rfl))) ?_; dsimp only [setO])
        exact RetOk.rs (vs := [_, _]) r_caravelref14_Del []
      · have hnext := hnext (by unfold dl; rw [hB, decide_eq_false hb]; rfl)
        clear hone hu
        (repeat (first | ((with_reducible show RG _ _ (_ :: _) _ _ _); refine RG.go1 (k := ?_)) | ((with_reducible show DG _ _ (_ :: _) _ _ _ _ _); refine DG.go1 (k := ?_)) | with_reducible apply RG.nil | with_reducible apply W.seq | with_reducible apply W.reg | with_reducible apply W.skip | with_reducible apply W.block | with_reducible apply W.drw | with_reducible apply DG.nil | (with_reducible refine W.done (QB.n ?_)) | refine W.cndT ?_ | refine W.cndF ?_))
        (first | ((with_reducible show RG _ _ (_ :: _) _ _ _); refine RG.ew (cptr_of (hE) (by (conv => lhs; whnf) <;> exact rfl)) (k := ?_)) | ((with_reducible show DG _ _ (_ :: _) _ _ _ _ _); refine DG.ew (cptr_of (hE) (by (conv => lhs; whnf) <;> exact rfl)) (k := ?_)))
        (repeat (first | ((with_reducible show RG _ _ (_ :: _) _ _ _); refine RG.go1 (k := ?_)) | ((with_reducible show DG _ _ (_ :: _) _ _ _ _ _); refine DG.go1 (k := ?_)) | with_reducible apply RG.nil | with_reducible apply W.seq | with_reducible apply W.reg | with_reducible apply W.skip | with_reducible apply W.block | with_reducible apply W.drw | with_reducible apply DG.nil | (with_reducible refine W.done (QB.n ?_)) | refine W.cndT ?_ | refine W.cndF ?_))
        (first | ((with_reducible show RG _ _ (_ :: _) _ _ _); refine RG.ewg (cptr_of (hE) (by (conv => lhs; whnf) <;> exact rfl)) (k := ?_)) | ((with_reducible show DG _ _ (_ :: _) _ _ _ _ _); refine DG.ewg (cptr_of (hE) (by (conv => lhs; whnf) <;> exact rfl)) (k := ?_)))
        (repeat (first | ((with_reducible show RG _ _ (_ :: _) _ _ _); refine RG.go1 (k := ?_)) | ((with_reducible show DG _ _ (_ :: _) _ _ _ _ _); refine DG.go1 (k := ?_)) | with_reducible apply RG.nil | with_reducible apply W.seq | with_reducible apply W.reg | with_reducible apply W.skip | with_reducible apply W.block | with_reducible apply W.drw | with_reducible apply DG.nil | (with_reducible refine W.done (QB.n ?_)) | refine W.cndT ?_ | refine W.cndF ?_))
        refine W.done (QL.n (⟨i + 1, by omega, hnext⟩) ?_ ?_)
        · exact Wk.rn ([] ) ( [0])
        · dsimp only; omega
  have hil : i = l.length := by simp at h1; omega
  have hfil : (l.filter fun x => !dl m x) = l := by
    rw [List.filter_eq_self]
    intro x hx
    obtain ⟨j, hj, rfl⟩ := List.getElem_of_mem hx
    rw [hall j hj (by omega)]; rfl
  rw [hfil, if_pos rfl] at hR
  subst hR
  clear h1
  (refine W.exit ?_; (repeat (first | (with_reducible first | refine QL.x ?_ | refine QC.x ?_ | refine QB.x ?_) | (with_reducible refine QB.o (by decide) ?_))))
  (repeat (first | ((with_reducible show RG _ _ (_ :: _) _ _ _); refine RG.go1 (k := ?_)) | ((with_reducible show DG _ _ (_ :: _) _ _ _ _ _); refine DG.go1 (k := ?_)) | with_reducible apply RG.nil | with_reducible apply W.seq | with_reducible apply W.reg | with_reducible apply W.skip | with_reducible apply W.block | with_reducible apply W.drw | with_reducible apply DG.nil | (with_reducible refine W.done (QB.n ?_)) | refine W.cndT ?_ | refine W.cndF ?_))
  (refine W.ret ?_; (repeat (with_reducible first | refine QB.r ?_ | refine QL.r ?_ | refine QC.r ?_)); refine QF.r ?_)
  exact RetOk.rs (vs := [_, _]) r_caravelref14_Del []
theorem same_ok (l : List Rt) (hl : l.length ≤ 1000) : ACall Try.prog 15 [.sl true 9 (l.map rt), .sl true 9 (l.map rt)] (.bool true) [] := by
  have el := rt_len l
  refine acall_walk (N := 26) Try.func15 (by kernel_rfl) p_caravelref14_Same rfl ?_; unfold c_caravelref14_Same; dsimp only [enum, Nat.reduceAdd]
  (repeat (first | ((with_reducible show RG _ _ (_ :: _) _ _ _); refine RG.go1 (k := ?_)) | ((with_reducible show DG _ _ (_ :: _) _ _ _ _ _); refine DG.go1 (k := ?_)) | with_reducible apply RG.nil | with_reducible apply W.seq | with_reducible apply W.reg | with_reducible apply W.skip | with_reducible apply W.block | with_reducible apply W.drw | with_reducible apply DG.nil | (with_reducible refine W.done (QB.n ?_)) | refine W.cndT ?_ | refine W.cndF ?_))
  refine W.loop (ι := {i : Nat // i ≤ l.length}) (fun i => ⟨[(5, .int .i64 i.1), (0, .sl true 9 (l.map rt)), (1, .sl true 9 (l.map rt))], [], [], 0, 0⟩) (fun i => l.length - i.1) ⟨0, Nat.zero_le _⟩ ?_ ?_
  · exact Wk.rn ([] ) ( [])
  rintro ⟨i, hi⟩
  dsimp only
  (repeat (first | ((with_reducible show RG _ _ (_ :: _) _ _ _); refine RG.go1 (k := ?_)) | ((with_reducible show DG _ _ (_ :: _) _ _ _ _ _); refine DG.go1 (k := ?_)) | with_reducible apply RG.nil | with_reducible apply W.seq | with_reducible apply W.reg | with_reducible apply W.skip | with_reducible apply W.block | with_reducible apply W.drw | with_reducible apply DG.nil | (with_reducible refine W.done (QB.n ?_))))
  refine W.cnd (fun h1 => ?_) (fun h1 => ?_)
  · have hlt : i < l.length := by simp at h1; omega
    have hE := rt_at l i hlt (j := ((i : Nat) : Int).toNat) (by simp)
    clear h1
    generalize l[i] = x at hE
    have hq : eqTs [0, 0, 0, 0, 0, 0, 0, 0, 0] [AV.int .u8 x.n0, .int .u8 x.n1, .int .u8 x.n2, .int .u8 x.n3, .int .i64 x.b, .int .u8 x.v0, .int .u8 x.v1, .int .u8 x.v2, .int .u8 x.v3] [AV.int .u8 x.n0, .int .u8 x.n1, .int .u8 x.n2, .int .u8 x.n3, .int .i64 x.b, .int .u8 x.v0, .int .u8 x.v1, .int .u8 x.v2, .int .u8 x.v3] = some true :=
      (eqts_i (eqts_i (eqts_i (eqts_i (eqts_i (eqts_i (eqts_i (eqts_i (eqts_i eqts_nil))))))))).trans (by simp)
    (repeat (first | ((with_reducible show RG _ _ (_ :: _) _ _ _); refine RG.go1 (k := ?_)) | ((with_reducible show DG _ _ (_ :: _) _ _ _ _ _); refine DG.go1 (k := ?_)) | with_reducible apply RG.nil | with_reducible apply W.seq | with_reducible apply W.reg | with_reducible apply W.skip | with_reducible apply W.block | with_reducible apply W.drw | with_reducible apply DG.nil | (with_reducible refine W.done (QB.n ?_)) | refine W.cndT ?_ | refine W.cndF ?_))
    (first | ((with_reducible show RG _ _ (_ :: _) _ _ _); refine RG.ew (cptr_of (hE) (by (conv => lhs; whnf) <;> exact rfl)) (k := ?_)) | ((with_reducible show DG _ _ (_ :: _) _ _ _ _ _); refine DG.ew (cptr_of (hE) (by (conv => lhs; whnf) <;> exact rfl)) (k := ?_)))
    (repeat (first | ((with_reducible show RG _ _ (_ :: _) _ _ _); refine RG.go1 (k := ?_)) | ((with_reducible show DG _ _ (_ :: _) _ _ _ _ _); refine DG.go1 (k := ?_)) | with_reducible apply RG.nil | with_reducible apply W.seq | with_reducible apply W.reg | with_reducible apply W.skip | with_reducible apply W.block | with_reducible apply W.drw | with_reducible apply DG.nil | (with_reducible refine W.done (QB.n ?_)) | refine W.cndT ?_ | refine W.cndF ?_))
    (first | ((with_reducible show RG _ _ (_ :: _) _ _ _); refine RG.ew (cptr_of (hE) (by (conv => lhs; whnf) <;> exact rfl)) (k := ?_)) | ((with_reducible show DG _ _ (_ :: _) _ _ _ _ _); refine DG.ew (cptr_of (hE) (by (conv => lhs; whnf) <;> exact rfl)) (k := ?_)))
    (repeat (first | ((with_reducible show RG _ _ (_ :: _) _ _ _); refine RG.go1 (k := ?_)) | ((with_reducible show DG _ _ (_ :: _) _ _ _ _ _); refine DG.go1 (k := ?_)) | with_reducible apply RG.nil | with_reducible apply W.seq | with_reducible apply W.reg | with_reducible apply W.skip | with_reducible apply W.block | with_reducible apply W.drw | with_reducible apply DG.nil | (with_reducible refine W.done (QB.n ?_)) | refine W.cndT ?_ | refine W.cndF ?_))
    refine W.done (QL.n (⟨i + 1, by omega⟩) ?_ ?_)
    · exact Wk.rn ([] ) ( [])
    · dsimp only; omega
  clear h1
  (refine W.exit ?_; (repeat (first | (with_reducible first | refine QL.x ?_ | refine QC.x ?_ | refine QB.x ?_) | (with_reducible refine QB.o (by decide) ?_))))
  (repeat (first | ((with_reducible show RG _ _ (_ :: _) _ _ _); refine RG.go1 (k := ?_)) | ((with_reducible show DG _ _ (_ :: _) _ _ _ _ _); refine DG.go1 (k := ?_)) | with_reducible apply RG.nil | with_reducible apply W.seq | with_reducible apply W.reg | with_reducible apply W.skip | with_reducible apply W.block | with_reducible apply W.drw | with_reducible apply DG.nil | (with_reducible refine W.done (QB.n ?_)) | refine W.cndT ?_ | refine W.cndF ?_))
  (refine W.ret ?_; (repeat (with_reducible first | refine QB.r ?_ | refine QL.r ?_ | refine QC.r ?_)); refine QF.r ?_)
  exact RetOk.rs (vs := [_]) r_caravelref14_Same []
end Go.Proofs.Yteljhabahaimpaa
