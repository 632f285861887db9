/- slices.Insert, at timers. -/
import Derived.Test.YtbkekpecfgmelaaWs1
namespace Go.Proofs.Ytbkekpecfgmelaa
open Go.RowKit
set_option linter.unusedVariables false
set_option linter.unusedSimpArgs false
set_option maxRecDepth 100000
set_option maxHeartbeats 4000000
theorem tlOvl : OvlF Try.prog 27 2 := ⟨_, 25, 4, 43, Try.func27, by kernel_rfl, by kernel_rfl, by kernel_rfl, by kernel_rfl, by kernel_rfl, by kernel_rfl⟩
theorem tlIns0_ok (es vs : List AV) (n i : Nat) (el : es.length = n) (hl : n ≤ 500000) (hp : es.all pureV = true) (hi : i ≤ n) (hvl : vs.length = 1) (hvp : vs.all pureV = true) :
    MCall Try.prog 21 [.ref 0 2 0 n, .int .i64 i, .sl true 2 vs] [] [⟨false, 2, es⟩] (.ref 1 2 0 (n + 1)) [] [none] [⟨false, 2, es.take i ++ (vs ++ es.drop i)⟩] := by
  by_cases hin : i = n
  · have hall : es ++ vs = es.take i ++ (vs ++ es.drop i) := by
      rw [List.take_of_length_le (by omega), List.drop_of_length_le (by omega), List.append_nil]
    subst hin
    refine mcall_walk (N := 95) Try.func21 (by kernel_rfl) p_slices_Insert__caravel_api_Timer_caravel_api_Timer rfl rfl rfl ?_; intro gb pl; unfold c_slices_Insert__caravel_api_Timer_caravel_api_Timer; dsimp only [enum, ghB, ghR, k_lc, k_ln, k_ap, k_an, k_m0, k_mc, Nat.reduceAdd, Nat.zero_add, Nat.add_zero]
    (repeat (first | ((with_reducible show RG _ _ (_ :: _) _ _ _); refine RG.go1 (k := ?_)) | ((with_reducible show DG _ _ (_ :: _) _ _ _ _ _); refine DG.go1 (k := ?_)) | with_reducible apply RG.nil | with_reducible apply W.seq | with_reducible apply W.reg | with_reducible apply W.skip | with_reducible apply W.block | with_reducible apply W.drw | with_reducible apply DG.nil | (with_reducible refine W.done (QB.n ?_))))
    (first | ((with_reducible show RG _ _ (_ :: _) _ _ _); refine RG.ew ((show AV.ref 0 2 (0 + (i : Int).toNat) ((i : Int) - (i : Int)).toNat = AV.ref 0 2 i 0 by congr 1 <;> omega)) (k := ?_)) | ((with_reducible show DG _ _ (_ :: _) _ _ _ _ _); refine DG.ew ((show AV.ref 0 2 (0 + (i : Int).toNat) ((i : Int) - (i : Int)).toNat = AV.ref 0 2 i 0 by congr 1 <;> omega)) (k := ?_)))
    (repeat (first | ((with_reducible show RG _ _ (_ :: _) _ _ _); refine RG.go1 (k := ?_)) | ((with_reducible show DG _ _ (_ :: _) _ _ _ _ _); refine DG.go1 (k := ?_)) | with_reducible apply RG.nil | with_reducible apply W.seq | with_reducible apply W.reg | with_reducible apply W.skip | with_reducible apply W.block | with_reducible apply W.drw | with_reducible apply DG.nil | (with_reducible refine W.done (QB.n ?_))))
    refine W.cndF ?_
    (repeat (first | ((with_reducible show RG _ _ (_ :: _) _ _ _); refine RG.go1 (k := ?_)) | ((with_reducible show DG _ _ (_ :: _) _ _ _ _ _); refine DG.go1 (k := ?_)) | with_reducible apply RG.nil | with_reducible apply W.seq | with_reducible apply W.reg | with_reducible apply W.skip | with_reducible apply W.block | with_reducible apply W.drw | with_reducible apply DG.nil | (with_reducible refine W.done (QB.n ?_))))
    refine W.cndT ?_
    (repeat (first | ((with_reducible show RG _ _ (_ :: _) _ _ _); refine RG.go1 (k := ?_)) | ((with_reducible show DG _ _ (_ :: _) _ _ _ _ _); refine DG.go1 (k := ?_)) | with_reducible apply RG.nil | with_reducible apply W.seq | with_reducible apply W.reg | with_reducible apply W.skip | with_reducible apply W.block | with_reducible apply W.drw | with_reducible apply DG.nil | (with_reducible refine W.done (QB.n ?_))))
    rw [hall]
    (refine W.ret ?_; (repeat (with_reducible first | refine QB.r ?_ | refine QL.r ?_ | refine QC.r ?_)); refine QM.r ?_)
    rw [hvl]
    exact RetM.rs (vs := [_]) (tm' := [(6, .ref 1 2 0 (i + 1))]) r_slices_Insert__caravel_api_Timer_caravel_api_Timer ([]) ([0, 1]) 0 2
  have hlt : i < n := by omega
  refine mcall_walk (N := 95) Try.func21 (by kernel_rfl) p_slices_Insert__caravel_api_Timer_caravel_api_Timer rfl rfl rfl ?_; intro gb pl; unfold c_slices_Insert__caravel_api_Timer_caravel_api_Timer; dsimp only [enum, ghB, ghR, k_lc, k_ln, k_ap, k_an, k_m0, k_mc, Nat.reduceAdd, Nat.zero_add, Nat.add_zero]
  (repeat (first | ((with_reducible show RG _ _ (_ :: _) _ _ _); refine RG.go1 (k := ?_)) | ((with_reducible show DG _ _ (_ :: _) _ _ _ _ _); refine DG.go1 (k := ?_)) | with_reducible apply RG.nil | with_reducible apply W.seq | with_reducible apply W.reg | with_reducible apply W.skip | with_reducible apply W.block | with_reducible apply W.drw | with_reducible apply DG.nil | (with_reducible refine W.done (QB.n ?_))))
  (first | ((with_reducible show RG _ _ (_ :: _) _ _ _); refine RG.ew ((show AV.ref 0 2 (0 + (i : Int).toNat) ((n : Int) - (i : Int)).toNat = AV.ref 0 2 i (n - i) by congr 1 <;> omega)) (k := ?_)) | ((with_reducible show DG _ _ (_ :: _) _ _ _ _ _); refine DG.ew ((show AV.ref 0 2 (0 + (i : Int).toNat) ((n : Int) - (i : Int)).toNat = AV.ref 0 2 i (n - i) by congr 1 <;> omega)) (k := ?_)))
  (repeat (first | ((with_reducible show RG _ _ (_ :: _) _ _ _); refine RG.go1 (k := ?_)) | ((with_reducible show DG _ _ (_ :: _) _ _ _ _ _); refine DG.go1 (k := ?_)) | with_reducible apply RG.nil | with_reducible apply W.seq | with_reducible apply W.reg | with_reducible apply W.skip | with_reducible apply W.block | with_reducible apply W.drw | with_reducible apply DG.nil | (with_reducible refine W.done (QB.n ?_))))
  refine W.cndF ?_
  (repeat (first | ((with_reducible show RG _ _ (_ :: _) _ _ _); refine RG.go1 (k := ?_)) | ((with_reducible show DG _ _ (_ :: _) _ _ _ _ _); refine DG.go1 (k := ?_)) | with_reducible apply RG.nil | with_reducible apply W.seq | with_reducible apply W.reg | with_reducible apply W.skip | with_reducible apply W.block | with_reducible apply W.drw | with_reducible apply DG.nil | (with_reducible refine W.done (QB.n ?_))))
  refine W.cndF ?_
  refine W.cap (t := 0) rfl fun c hc1 hc2 => ?_
  by_cases hroom : n + 1 ≤ c
  · refine W.room (t := 0) 1 rfl rfl (by omega) hroom (by decide) fun us hus => ?_
    have hrl : (es ++ us).length = n + 1 := by rw [List.length_append, el, hus]
    have hsrc : ((es ++ us).drop i).take (n + 1 - i) = es.drop i ++ us := by
      rw [List.drop_append_of_le_length (by omega)]
      exact List.take_of_length_le (by simp; omega)
    have hsl : (es.drop i ++ us).length = n + 1 - i := by simp; omega
    have hpu : ((es.drop i ++ us).take (n - i)).all pureV = true := by
      rw [List.take_left' (by simp; omega)]
      rw [List.all_eq_true] at hp ⊢
      exact fun y hy => hp y (List.mem_of_mem_drop hy)
    have h1 : (es ++ us).take (i + 1) ++ ((es.drop i ++ us).take (n - i) ++ (es ++ us).drop (i + 1 + (n - i))) = es.take (i + 1) ++ es.drop i := by
      rw [List.take_left' (l₁ := es.drop i) (by simp; omega), List.drop_of_length_le (l := es ++ us) (by omega), List.append_nil, List.take_append_of_le_length (by omega)]
    have hrl2 : (es.take (i + 1) ++ es.drop i).length = n + 1 := by simp; omega
    have hvt : vs.take (n + 1 - i) = vs := List.take_of_length_le (by omega)
    have h2 : (es.take (i + 1) ++ es.drop i).take i ++ (vs.take (n + 1 - i) ++ (es.take (i + 1) ++ es.drop i).drop (i + 1)) = es.take i ++ (vs ++ es.drop i) := by
      rw [hvt, List.take_append_of_le_length (by simp; omega), List.take_take, Nat.min_eq_left (by omega), List.drop_left' (by simp; omega)]
    have hp1 : (vs.take (n + 1 - i)).all pureV = true := by rw [hvt]; exact hvp
    clear hp
    (repeat (first | ((with_reducible show RG _ _ (_ :: _) _ _ _); refine RG.go1 (k := ?_)) | ((with_reducible show DG _ _ (_ :: _) _ _ _ _ _); refine DG.go1 (k := ?_)) | with_reducible apply RG.nil | with_reducible apply W.seq | with_reducible apply W.reg | with_reducible apply W.skip | with_reducible apply W.block | with_reducible apply W.drw | with_reducible apply DG.nil | (with_reducible refine W.done (QB.n ?_))))
    refine W.cndF ?_
    (repeat (first | ((with_reducible show RG _ _ (_ :: _) _ _ _); refine RG.go1 (k := ?_)) | ((with_reducible show DG _ _ (_ :: _) _ _ _ _ _); refine DG.go1 (k := ?_)) | with_reducible apply RG.nil | with_reducible apply W.seq | with_reducible apply W.reg | with_reducible apply W.skip | with_reducible apply W.block | with_reducible apply W.drw | with_reducible apply DG.nil | (with_reducible refine W.done (QB.n ?_))))
    (first | ((with_reducible show RG _ _ (_ :: _) _ _ _); refine RG.ew ((show AV.refc 0 2 (0 + (0 : Int).toNat) ((n : Int) + (vs.length : Int) - 0).toNat ((c : Int) - 0).toNat = AV.refc 0 2 0 (n + 1) c by congr 1 <;> omega)) (k := ?_)) | ((with_reducible show DG _ _ (_ :: _) _ _ _ _ _); refine DG.ew ((show AV.refc 0 2 (0 + (0 : Int).toNat) ((n : Int) + (vs.length : Int) - 0).toNat ((c : Int) - 0).toNat = AV.refc 0 2 0 (n + 1) c by congr 1 <;> omega)) (k := ?_)))
    (repeat (first | ((with_reducible show RG _ _ (_ :: _) _ _ _); refine RG.go1 (k := ?_)) | ((with_reducible show DG _ _ (_ :: _) _ _ _ _ _); refine DG.go1 (k := ?_)) | with_reducible apply RG.nil | with_reducible apply W.seq | with_reducible apply W.reg | with_reducible apply W.skip | with_reducible apply W.block | with_reducible apply W.drw | with_reducible apply DG.nil | (with_reducible refine W.done (QB.n ?_))))
    (first | ((with_reducible show RG _ _ (_ :: _) _ _ _); refine RG.ew ((show AV.refc 0 2 (0 + ((i : Int) + (vs.length : Int)).toNat) (((n + 1 : Nat) : Int) - ((i : Int) + (vs.length : Int))).toNat ((c : Int) - ((i : Int) + (vs.length : Int))).toNat = AV.refc 0 2 (i + 1) (n - i) (c - (i + 1)) by congr 1 <;> omega)) (k := ?_)) | ((with_reducible show DG _ _ (_ :: _) _ _ _ _ _); refine DG.ew ((show AV.refc 0 2 (0 + ((i : Int) + (vs.length : Int)).toNat) (((n + 1 : Nat) : Int) - ((i : Int) + (vs.length : Int))).toNat ((c : Int) - ((i : Int) + (vs.length : Int))).toNat = AV.refc 0 2 (i + 1) (n - i) (c - (i + 1)) by congr 1 <;> omega)) (k := ?_)))
    (repeat (first | ((with_reducible show RG _ _ (_ :: _) _ _ _); refine RG.go1 (k := ?_)) | ((with_reducible show DG _ _ (_ :: _) _ _ _ _ _); refine DG.go1 (k := ?_)) | with_reducible apply RG.nil | with_reducible apply W.seq | with_reducible apply W.reg | with_reducible apply W.skip | with_reducible apply W.block | with_reducible apply W.drw | with_reducible apply DG.nil | (with_reducible refine W.done (QB.n ?_))))
    have hvne : vs ≠ [] := by rintro rfl; simp at hvl
    (refine RG.ov (tlOvl) (k := ?_))
    (repeat (first | ((with_reducible show RG _ _ (_ :: _) _ _ _); refine RG.go1 (k := ?_)) | ((with_reducible show DG _ _ (_ :: _) _ _ _ _ _); refine DG.go1 (k := ?_)) | with_reducible apply RG.nil | with_reducible apply W.seq | with_reducible apply W.reg | with_reducible apply W.skip | with_reducible apply W.block | with_reducible apply W.drw | with_reducible apply DG.nil | (with_reducible refine W.done (QB.n ?_))))
    refine W.cndT ?_
    (repeat (first | ((with_reducible show RG _ _ (_ :: _) _ _ _); refine RG.go1 (k := ?_)) | ((with_reducible show DG _ _ (_ :: _) _ _ _ _ _); refine DG.go1 (k := ?_)) | with_reducible apply RG.nil | with_reducible apply W.seq | with_reducible apply W.reg | with_reducible apply W.skip | with_reducible apply W.block | with_reducible apply W.drw | with_reducible apply DG.nil | (with_reducible refine W.done (QB.n ?_))))
    (first | ((with_reducible show RG _ _ (_ :: _) _ _ _); refine RG.ew ((show AV.refc 0 2 (0 + ((i : Int) + (vs.length : Int)).toNat) (((n + 1 : Nat) : Int) - ((i : Int) + (vs.length : Int))).toNat ((c : Int) - ((i : Int) + (vs.length : Int))).toNat = AV.refc 0 2 (i + 1) (n - i) (c - (i + 1)) by congr 1 <;> omega)) (k := ?_)) | ((with_reducible show DG _ _ (_ :: _) _ _ _ _ _); refine DG.ew ((show AV.refc 0 2 (0 + ((i : Int) + (vs.length : Int)).toNat) (((n + 1 : Nat) : Int) - ((i : Int) + (vs.length : Int))).toNat ((c : Int) - ((i : Int) + (vs.length : Int))).toNat = AV.refc 0 2 (i + 1) (n - i) (c - (i + 1)) by congr 1 <;> omega)) (k := ?_)))
    (repeat (first | ((with_reducible show RG _ _ (_ :: _) _ _ _); refine RG.go1 (k := ?_)) | ((with_reducible show DG _ _ (_ :: _) _ _ _ _ _); refine DG.go1 (k := ?_)) | with_reducible apply RG.nil | with_reducible apply W.seq | with_reducible apply W.reg | with_reducible apply W.skip | with_reducible apply W.block | with_reducible apply W.drw | with_reducible apply DG.nil | (with_reducible refine W.done (QB.n ?_))))
    (first | ((with_reducible show RG _ _ (_ :: _) _ _ _); refine RG.ew ((show AV.refc 0 2 (0 + (i : Int).toNat) (((n + 1 : Nat) : Int) - (i : Int)).toNat ((c : Int) - (i : Int)).toNat = AV.refc 0 2 i (n + 1 - i) (c - i) by congr 1 <;> omega)) (k := ?_)) | ((with_reducible show DG _ _ (_ :: _) _ _ _ _ _); refine DG.ew ((show AV.refc 0 2 (0 + (i : Int).toNat) (((n + 1 : Nat) : Int) - (i : Int)).toNat ((c : Int) - (i : Int)).toNat = AV.refc 0 2 i (n + 1 - i) (c - i) by congr 1 <;> omega)) (k := ?_)))
    (repeat (first | ((with_reducible show RG _ _ (_ :: _) _ _ _); refine RG.go1 (k := ?_)) | ((with_reducible show DG _ _ (_ :: _) _ _ _ _ _); refine DG.go1 (k := ?_)) | with_reducible apply RG.nil | with_reducible apply W.seq | with_reducible apply W.reg | with_reducible apply W.skip | with_reducible apply W.block | with_reducible apply W.drw | with_reducible apply DG.nil | (with_reducible refine W.done (QB.n ?_))))
    (refine RG.sm (A.cpy (m := n - i) h1 (he := Els.refc (r := ⟨false, 2, es ++ us⟩) rfl rfl (show i + (n + 1 - i) ≤ (es ++ us).length by omega) hsrc) (hp := hpu) (hm := by omega)) (k := ?_))
    (repeat (first | ((with_reducible show RG _ _ (_ :: _) _ _ _); refine RG.go1 (k := ?_)) | ((with_reducible show DG _ _ (_ :: _) _ _ _ _ _); refine DG.go1 (k := ?_)) | with_reducible apply RG.nil | with_reducible apply W.seq | with_reducible apply W.reg | with_reducible apply W.skip | with_reducible apply W.block | with_reducible apply W.drw | with_reducible apply DG.nil | (with_reducible refine W.done (QB.n ?_))))
    (first | ((with_reducible show RG _ _ (_ :: _) _ _ _); refine RG.ew ((show AV.refc 0 2 (0 + (i : Int).toNat) (((n + 1 : Nat) : Int) - (i : Int)).toNat ((c : Int) - (i : Int)).toNat = AV.refc 0 2 i (n + 1 - i) (c - i) by congr 1 <;> omega)) (k := ?_)) | ((with_reducible show DG _ _ (_ :: _) _ _ _ _ _); refine DG.ew ((show AV.refc 0 2 (0 + (i : Int).toNat) (((n + 1 : Nat) : Int) - (i : Int)).toNat ((c : Int) - (i : Int)).toNat = AV.refc 0 2 i (n + 1 - i) (c - i) by congr 1 <;> omega)) (k := ?_)))
    (repeat (first | ((with_reducible show RG _ _ (_ :: _) _ _ _); refine RG.go1 (k := ?_)) | ((with_reducible show DG _ _ (_ :: _) _ _ _ _ _); refine DG.go1 (k := ?_)) | with_reducible apply RG.nil | with_reducible apply W.seq | with_reducible apply W.reg | with_reducible apply W.skip | with_reducible apply W.block | with_reducible apply W.drw | with_reducible apply DG.nil | (with_reducible refine W.done (QB.n ?_))))
    (refine RG.sm (A.cpy (m := 1) h2 (hp := hp1) (hm := by omega)) (k := ?_))
    (repeat (first | ((with_reducible show RG _ _ (_ :: _) _ _ _); refine RG.go1 (k := ?_)) | ((with_reducible show DG _ _ (_ :: _) _ _ _ _ _); refine DG.go1 (k := ?_)) | with_reducible apply RG.nil | with_reducible apply W.seq | with_reducible apply W.reg | with_reducible apply W.skip | with_reducible apply W.block | with_reducible apply W.drw | with_reducible apply DG.nil | (with_reducible refine W.done (QB.n ?_))))
    (refine W.ret ?_; (repeat (with_reducible first | refine QB.r ?_ | refine QL.r ?_ | refine QC.r ?_)); refine QM.r ?_)
    refine RetM.wk (Wk.tmp (t := 6) (y := .ref 0 2 0 (n + 1)) (Cl.le (ALe.refc _ _ _ _ _))) ?_
    exact RetM.rs (vs := [_]) (tm' := [(6, .ref 1 2 0 (n + 1))]) r_slices_Insert__caravel_api_Timer_caravel_api_Timer ([]) ([1, 0]) 0 2
  · obtain ⟨zv, hzv⟩ : ∃ zv, tmr ⟨0, 0⟩ = zv := ⟨_, rfl⟩
    have hrl : (es.take i ++ List.replicate (n + 1 - i) zv).length = n + 1 := by simp; omega
    have h0 : (es.drop 0).take i ++ List.replicate (n + 1 - i) (tmr ⟨0, 0⟩) = es.take i ++ List.replicate (n + 1 - i) zv := by rw [hzv]; rfl
    unfold tmr at h0
    have hvt : vs.take (n + 1 - i) = vs := List.take_of_length_le (by omega)
    have hp1 : (vs.take (n + 1 - i)).all pureV = true := by rw [hvt]; exact hvp
    have h1 : (es.take i ++ List.replicate (n + 1 - i) zv).take i ++ (vs.take (n + 1 - i) ++ (es.take i ++ List.replicate (n + 1 - i) zv).drop (i + 1)) = es.take i ++ (vs ++ List.replicate (n - i) zv) := by
      rw [hvt, List.take_left' (by simp; omega), List.drop_append, List.drop_of_length_le (by simp; omega), List.nil_append, List.drop_replicate]
      congr 3
      simp; omega
    have hsl : (es.drop i).length = n - i := by simp; omega
    have hsrc : (es.drop i).take (n - i) = es.drop i := List.take_of_length_le (by omega)
    have hpu : ((es.drop i).take (n - i)).all pureV = true := by
      rw [hsrc]
      rw [List.all_eq_true] at hp ⊢
      exact fun y hy => hp y (List.mem_of_mem_drop hy)
    have hrl2 : (es.take i ++ (vs ++ List.replicate (n - i) zv)).length = n + 1 := by simp; omega
    have h2 : (es.take i ++ (vs ++ List.replicate (n - i) zv)).take (i + 1) ++ ((es.drop i).take (n - i) ++ (es.take i ++ (vs ++ List.replicate (n - i) zv)).drop (i + 1 + (n - i))) = es.take i ++ (vs ++ es.drop i) := by
      rw [hsrc, List.drop_of_length_le (l := es.take i ++ (vs ++ List.replicate (n - i) zv)) (by omega), List.append_nil, ← List.append_assoc, List.take_left' (by simp; omega), List.append_assoc]
    clear hp
    have hc3 : c < i + (n + 1 - i) := by omega
    (repeat (first | ((with_reducible show RG _ _ (_ :: _) _ _ _); refine RG.go1 (k := ?_)) | ((with_reducible show DG _ _ (_ :: _) _ _ _ _ _); refine DG.go1 (k := ?_)) | with_reducible apply RG.nil | with_reducible apply W.seq | with_reducible apply W.reg | with_reducible apply W.skip | with_reducible apply W.block | with_reducible apply W.drw | with_reducible apply DG.nil | (with_reducible refine W.done (QB.n ?_))))
    refine W.cndT ?_
    (repeat (first | ((with_reducible show RG _ _ (_ :: _) _ _ _); refine RG.go1 (k := ?_)) | ((with_reducible show DG _ _ (_ :: _) _ _ _ _ _); refine DG.go1 (k := ?_)) | with_reducible apply RG.nil | with_reducible apply W.seq | with_reducible apply W.reg | with_reducible apply W.skip | with_reducible apply W.block | with_reducible apply W.drw | with_reducible apply DG.nil | (with_reducible refine W.done (QB.n ?_))))
    (first | ((with_reducible show RG _ _ (_ :: _) _ _ _); refine RG.ew ((show AV.refc 0 2 (0 + (0 : Int).toNat) ((i : Int) - 0).toNat ((c : Int) - 0).toNat = AV.refc 0 2 0 i c by congr 1 <;> omega)) (k := ?_)) | ((with_reducible show DG _ _ (_ :: _) _ _ _ _ _); refine DG.ew ((show AV.refc 0 2 (0 + (0 : Int).toNat) ((i : Int) - 0).toNat ((c : Int) - 0).toNat = AV.refc 0 2 0 i c by congr 1 <;> omega)) (k := ?_)))
    (repeat (first | ((with_reducible show RG _ _ (_ :: _) _ _ _); refine RG.go1 (k := ?_)) | ((with_reducible show DG _ _ (_ :: _) _ _ _ _ _); refine DG.go1 (k := ?_)) | with_reducible apply RG.nil | with_reducible apply W.seq | with_reducible apply W.reg | with_reducible apply W.skip | with_reducible apply W.block | with_reducible apply W.drw | with_reducible apply DG.nil | (with_reducible refine W.done (QB.n ?_))))
    (refine RG.sm (A.appz (j := (n : Int) + (vs.length : Int) - (i : Int)) (q := n + 1 - i) (m := n + 1) (by omega) h0) (k := ?_))
    (repeat (first | ((with_reducible show RG _ _ (_ :: _) _ _ _); refine RG.go1 (k := ?_)) | ((with_reducible show DG _ _ (_ :: _) _ _ _ _ _); refine DG.go1 (k := ?_)) | with_reducible apply RG.nil | with_reducible apply W.seq | with_reducible apply W.reg | with_reducible apply W.skip | with_reducible apply W.block | with_reducible apply W.drw | with_reducible apply DG.nil | (with_reducible refine W.done (QB.n ?_))))
    (first | ((with_reducible show RG _ _ (_ :: _) _ _ _); refine RG.ew ((show AV.ref 1 2 (0 + (i : Int).toNat) (((n + 1 : Nat) : Int) - (i : Int)).toNat = AV.ref 1 2 i (n + 1 - i) by congr 1 <;> omega)) (k := ?_)) | ((with_reducible show DG _ _ (_ :: _) _ _ _ _ _); refine DG.ew ((show AV.ref 1 2 (0 + (i : Int).toNat) (((n + 1 : Nat) : Int) - (i : Int)).toNat = AV.ref 1 2 i (n + 1 - i) by congr 1 <;> omega)) (k := ?_)))
    (repeat (first | ((with_reducible show RG _ _ (_ :: _) _ _ _); refine RG.go1 (k := ?_)) | ((with_reducible show DG _ _ (_ :: _) _ _ _ _ _); refine DG.go1 (k := ?_)) | with_reducible apply RG.nil | with_reducible apply W.seq | with_reducible apply W.reg | with_reducible apply W.skip | with_reducible apply W.block | with_reducible apply W.drw | with_reducible apply DG.nil | (with_reducible refine W.done (QB.n ?_))))
    (refine RG.sm (A.cpy (m := 1) h1 (hp := hp1) (hm := by omega)) (k := ?_))
    (repeat (first | ((with_reducible show RG _ _ (_ :: _) _ _ _); refine RG.go1 (k := ?_)) | ((with_reducible show DG _ _ (_ :: _) _ _ _ _ _); refine DG.go1 (k := ?_)) | with_reducible apply RG.nil | with_reducible apply W.seq | with_reducible apply W.reg | with_reducible apply W.skip | with_reducible apply W.block | with_reducible apply W.drw | with_reducible apply DG.nil | (with_reducible refine W.done (QB.n ?_))))
    (first | ((with_reducible show RG _ _ (_ :: _) _ _ _); refine RG.ew ((show AV.ref 1 2 (0 + ((i : Int) + (vs.length : Int)).toNat) (((n + 1 : Nat) : Int) - ((i : Int) + (vs.length : Int))).toNat = AV.ref 1 2 (i + 1) (n - i) by congr 1 <;> omega)) (k := ?_)) | ((with_reducible show DG _ _ (_ :: _) _ _ _ _ _); refine DG.ew ((show AV.ref 1 2 (0 + ((i : Int) + (vs.length : Int)).toNat) (((n + 1 : Nat) : Int) - ((i : Int) + (vs.length : Int))).toNat = AV.ref 1 2 (i + 1) (n - i) by congr 1 <;> omega)) (k := ?_)))
    (repeat (first | ((with_reducible show RG _ _ (_ :: _) _ _ _); refine RG.go1 (k := ?_)) | ((with_reducible show DG _ _ (_ :: _) _ _ _ _ _); refine DG.go1 (k := ?_)) | with_reducible apply RG.nil | with_reducible apply W.seq | with_reducible apply W.reg | with_reducible apply W.skip | with_reducible apply W.block | with_reducible apply W.drw | with_reducible apply DG.nil | (with_reducible refine W.done (QB.n ?_))))
    (first | ((with_reducible show RG _ _ (_ :: _) _ _ _); refine RG.ew ((show AV.refc 0 2 (0 + (i : Int).toNat) ((n : Int) - (i : Int)).toNat ((c : Int) - (i : Int)).toNat = AV.refc 0 2 i (n - i) (c - i) by congr 1 <;> omega)) (k := ?_)) | ((with_reducible show DG _ _ (_ :: _) _ _ _ _ _); refine DG.ew ((show AV.refc 0 2 (0 + (i : Int).toNat) ((n : Int) - (i : Int)).toNat ((c : Int) - (i : Int)).toNat = AV.refc 0 2 i (n - i) (c - i) by congr 1 <;> omega)) (k := ?_)))
    (repeat (first | ((with_reducible show RG _ _ (_ :: _) _ _ _); refine RG.go1 (k := ?_)) | ((with_reducible show DG _ _ (_ :: _) _ _ _ _ _); refine DG.go1 (k := ?_)) | with_reducible apply RG.nil | with_reducible apply W.seq | with_reducible apply W.reg | with_reducible apply W.skip | with_reducible apply W.block | with_reducible apply W.drw | with_reducible apply DG.nil | (with_reducible refine W.done (QB.n ?_))))
    (refine RG.sm (A.cpy (m := n - i) h2 (he := Els.refc (r := ⟨false, 2, es⟩) rfl rfl (show i + (n - i) ≤ es.length by omega) hsrc) (hp := hpu) (hm := by omega)) (k := ?_))
    (repeat (first | ((with_reducible show RG _ _ (_ :: _) _ _ _); refine RG.go1 (k := ?_)) | ((with_reducible show DG _ _ (_ :: _) _ _ _ _ _); refine DG.go1 (k := ?_)) | with_reducible apply RG.nil | with_reducible apply W.seq | with_reducible apply W.reg | with_reducible apply W.skip | with_reducible apply W.block | with_reducible apply W.drw | with_reducible apply DG.nil | (with_reducible refine W.done (QB.n ?_))))
    (refine W.ret ?_; (repeat (with_reducible first | refine QB.r ?_ | refine QL.r ?_ | refine QC.r ?_)); refine QM.r ?_)
    exact RetM.rs (vs := [_]) (tm' := [(6, .ref 1 2 0 (n + 1))]) r_slices_Insert__caravel_api_Timer_caravel_api_Timer ([]) ([0, 1]) 0 2
theorem tlIns_ok (l : List Tmr) (hl : l.length ≤ 500000) (i : Nat) (hi : i ≤ l.length) (x : Tmr) :
    MCall Try.prog 21 [.ref 0 2 0 l.length, .int .i64 i, .sl true 2 [.agg [.int .i64 x.id, .int .u64 x.at_]]] [] [⟨false, 2, l.map tmr⟩] (.ref 1 2 0 (l.length + 1)) [] [none] [⟨false, 2, (l.take i ++ x :: l.drop i).map tmr⟩] := by
  have q := tlIns0_ok (l.map tmr) [tmr x] l.length i (tl_len l) hl (tl_pure l) hi rfl (tl_pure [x])
  rw [show (l.take i ++ x :: l.drop i).map tmr = (l.map tmr).take i ++ ([tmr x] ++ (l.map tmr).drop i) by simp]
  exact q
end Go.Proofs.Ytbkekpecfgmelaa
