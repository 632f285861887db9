/- What recvq's functions compute: pieces put together. -/
import Derived.Test.YtmohmcgcggenfaaRq1
namespace Go.Proofs.Ytmohmcgcggenfaa
open Go.RowKit
set_option linter.unusedVariables false
set_option linter.unusedSimpArgs false
set_option maxRecDepth 100000
set_option maxHeartbeats 4000000
theorem cloneF_ok (l : List UInt8) (hl : l.length ≤ 1000000) : ACall Try.prog 22 [.sl true 1 (l.map by8)] (.sl false 1 (l.map by8)) [] := by
  by_cases hne : l = []
  · subst hne
    refine acall_empty 0 rfl ?_ (fun a c hc => ?_)
    · dsimp only [List.set, List.map_nil]
      refine acall_walk (N := 8) Try.func22 (by kernel_rfl) p_slices_Clone__byte_byte rfl ?_; unfold c_slices_Clone__byte_byte; dsimp only [enum, Nat.reduceAdd]
      (repeat (first | ((with_reducible show RG _ _ (_ :: _) _ _ _); refine RG.go1 (k := ?_)) | ((with_reducible show DG _ _ (_ :: _) _ _ _ _ _); refine DG.go1 (k := ?_)) | with_reducible apply RG.nil | with_reducible apply W.seq | with_reducible apply W.reg | with_reducible apply W.skip | with_reducible apply W.block | with_reducible apply W.drw | with_reducible apply DG.nil | (with_reducible refine W.done (QB.n ?_))))
      refine W.cndT ?_
      (repeat (first | ((with_reducible show RG _ _ (_ :: _) _ _ _); refine RG.go1 (k := ?_)) | ((with_reducible show DG _ _ (_ :: _) _ _ _ _ _); refine DG.go1 (k := ?_)) | with_reducible apply RG.nil | with_reducible apply W.seq | with_reducible apply W.reg | with_reducible apply W.skip | with_reducible apply W.block | with_reducible apply W.drw | with_reducible apply DG.nil | (with_reducible refine W.done (QB.n ?_))))
      (refine W.ret ?_; (repeat (with_reducible first | refine QB.r ?_ | refine QL.r ?_ | refine QC.r ?_)); refine QF.r ?_)
      exact RetOk.rs (vs := [_]) r_slices_Clone__byte_byte []
    · dsimp only [List.set, List.map_nil]
      refine acall_walk (N := 8) Try.func22 (by kernel_rfl) p_slices_Clone__byte_byte rfl ?_; unfold c_slices_Clone__byte_byte; dsimp only [enum, Nat.reduceAdd]
      (repeat (first | ((with_reducible show RG _ _ (_ :: _) _ _ _); refine RG.go1 (k := ?_)) | ((with_reducible show DG _ _ (_ :: _) _ _ _ _ _); refine DG.go1 (k := ?_)) | with_reducible apply RG.nil | with_reducible apply W.seq | with_reducible apply W.reg | with_reducible apply W.skip | with_reducible apply W.block | with_reducible apply W.drw | with_reducible apply DG.nil | (with_reducible refine W.done (QB.n ?_))))
      refine W.cndF ?_
      (repeat (first | ((with_reducible show RG _ _ (_ :: _) _ _ _); refine RG.go1 (k := ?_)) | ((with_reducible show DG _ _ (_ :: _) _ _ _ _ _); refine DG.go1 (k := ?_)) | with_reducible apply RG.nil | with_reducible apply W.seq | with_reducible apply W.reg | with_reducible apply W.skip | with_reducible apply W.block | with_reducible apply W.drw | with_reducible apply DG.nil | (with_reducible refine W.done (QB.n ?_))))
      (refine W.ret ?_; (repeat (with_reducible first | refine QB.r ?_ | refine QL.r ?_ | refine QC.r ?_)); refine QF.r ?_)
      (refine RetOk.wk (Wk.frz (b := 1) rfl rfl) ?_; refine RetOk.wk (Wk.tmp (t := 2) (Cl.ice rfl rfl rfl (by first | assumption | decide | omega | (simp; (first | (all_goals fail) | fail)) | (simp <;> omega)) (by first | exact take_all _ | exact take_len (by first | (simp; (first | (all_goals fail) | fail)) | (simp <;> omega)) | exact rfl))) ?_; dsimp only [setO])
      exact RetOk.rs (vs := [_]) r_slices_Clone__byte_byte []
  · have hp := by8_pure l
    have hml : (l.map by8).length = l.length := by simp
    have hm0 : l.map by8 ≠ [] := by simpa using hne
    generalize l.map by8 = es at hp hml hm0
    refine acall_walk (N := 8) Try.func22 (by kernel_rfl) p_slices_Clone__byte_byte rfl ?_; unfold c_slices_Clone__byte_byte; dsimp only [enum, Nat.reduceAdd]
    (repeat (first | ((with_reducible show RG _ _ (_ :: _) _ _ _); refine RG.go1 (k := ?_)) | ((with_reducible show DG _ _ (_ :: _) _ _ _ _ _); refine DG.go1 (k := ?_)) | with_reducible apply RG.nil | with_reducible apply W.seq | with_reducible apply W.reg | with_reducible apply W.skip | with_reducible apply W.block | with_reducible apply W.drw | with_reducible apply DG.nil | (with_reducible refine W.done (QB.n ?_))))
    refine W.cndF ?_
    (repeat (first | ((with_reducible show RG _ _ (_ :: _) _ _ _); refine RG.go1 (k := ?_)) | ((with_reducible show DG _ _ (_ :: _) _ _ _ _ _); refine DG.go1 (k := ?_)) | with_reducible apply RG.nil | with_reducible apply W.seq | with_reducible apply W.reg | with_reducible apply W.skip | with_reducible apply W.block | with_reducible apply W.drw | with_reducible apply DG.nil | (with_reducible refine W.done (QB.n ?_))))
    (refine W.ret ?_; (repeat (with_reducible first | refine QB.r ?_ | refine QL.r ?_ | refine QC.r ?_)); refine QF.r ?_)
    (refine RetOk.wk (Wk.frz (b := 1) rfl rfl) ?_; refine RetOk.wk (Wk.tmp (t := 2) (Cl.ice rfl rfl rfl (by first | assumption | decide | omega | (simp; (first | (all_goals fail) | fail)) | (simp <;> omega)) (by first | exact take_all _ | exact take_len (by first | (simp; (first | (all_goals fail) | fail)) | (simp <;> omega)) | exact rfl))) ?_; dsimp only [setO])
    exact RetOk.rs (vs := [_]) r_slices_Clone__byte_byte []
theorem clip_ok (es : List AV) : ACall Try.prog 35 [.sl false 1 es] (.csl false 1 es) [] := by
  have hcut : (es.take (es.length : Int).toNat).drop (0 : Int).toNat = es := by simp
  refine acall_walk (N := 9) Try.func35 (by kernel_rfl) p_slices_Clip__byte_byte rfl ?_; unfold c_slices_Clip__byte_byte; dsimp only [enum, Nat.reduceAdd]
  (repeat (first | ((with_reducible show RG _ _ (_ :: _) _ _ _); refine RG.go1 (k := ?_)) | ((with_reducible show DG _ _ (_ :: _) _ _ _ _ _); refine DG.go1 (k := ?_)) | with_reducible apply RG.nil | with_reducible apply W.seq | with_reducible apply W.reg | with_reducible apply W.skip | with_reducible apply W.block | with_reducible apply W.drw | with_reducible apply DG.nil | (with_reducible refine W.done (QB.n ?_))))
  (first | ((with_reducible show RG _ _ (_ :: _) _ _ _); refine RG.ew ((show AV.csl false 1 ((es.take (es.length : Int).toNat).drop (0 : Int).toNat) = AV.csl false 1 es by rw [hcut])) (k := ?_)) | ((with_reducible show DG _ _ (_ :: _) _ _ _ _ _); refine DG.ew ((show AV.csl false 1 ((es.take (es.length : Int).toNat).drop (0 : Int).toNat) = AV.csl false 1 es by rw [hcut])) (k := ?_)))
  (repeat (first | ((with_reducible show RG _ _ (_ :: _) _ _ _); refine RG.go1 (k := ?_)) | ((with_reducible show DG _ _ (_ :: _) _ _ _ _ _); refine DG.go1 (k := ?_)) | with_reducible apply RG.nil | with_reducible apply W.seq | with_reducible apply W.reg | with_reducible apply W.skip | with_reducible apply W.block | with_reducible apply W.drw | with_reducible apply DG.nil | (with_reducible refine W.done (QB.n ?_))))
  (refine W.ret ?_; (repeat (with_reducible first | refine QB.r ?_ | refine QL.r ?_ | refine QC.r ?_)); refine QF.r ?_)
  exact RetOk.rs (vs := [_]) r_slices_Clip__byte_byte []
theorem z_by8 : AV.int .u8 0 = by8 0 := rfl
/-- Two copies into noughts. -/
theorem both_es (x p : Pc) (n : Nat) (hn : n = bothN x p) :
    (((List.replicate n (AV.int .u8 0)).take (p.1 - min x.1 p.1) ++ ((p.2.map by8).take (n - (p.1 - min x.1 p.1)) ++ (List.replicate n (AV.int .u8 0)).drop (p.1 - min x.1 p.1 + p.2.length))).take (x.1 - min x.1 p.1) ++ ((x.2.map by8).take (n - (x.1 - min x.1 p.1)) ++ ((List.replicate n (AV.int .u8 0)).take (p.1 - min x.1 p.1) ++ ((p.2.map by8).take (n - (p.1 - min x.1 p.1)) ++ (List.replicate n (AV.int .u8 0)).drop (p.1 - min x.1 p.1 + p.2.length))).drop (x.1 - min x.1 p.1 + x.2.length))) = (bothD x p).map by8 := by
  subst hn
  obtain ⟨a, g⟩ := x
  obtain ⟨c, h⟩ := p
  dsimp only
  have hN : bothN (a, g) (c, h) = max (a + g.length) (c + h.length) - min a c := rfl
  have hE : bothD (a, g) (c, h) = (List.range (bothN (a, g) (c, h))).map fun j => if a ≤ min a c + j ∧ min a c + j < a + g.length then g.getD (min a c + j - a) 0 else if c ≤ min a c + j ∧ min a c + j < c + h.length then h.getD (min a c + j - c) 0 else 0 := rfl
  rw [z_by8, ← List.map_replicate, ← List.map_take, ← List.map_take, ← List.map_drop, ← List.map_append, ← List.map_append, ← List.map_take, ← List.map_take, ← List.map_drop, ← List.map_append, ← List.map_append]
  congr 1
  rw [hE]
  generalize hNN : bothN (a, g) (c, h) = N at hN ⊢
  have hz : ∀ j, j < N → (List.replicate N (0 : UInt8))[j]? = some 0 := fun j hj => by simp [hj]
  apply List.ext_getElem?
  intro j
  by_cases hj : j < N
  · rw [List.getElem?_map, List.getElem?_range hj, Option.map_some]
    have l1 : ((List.replicate N (0 : UInt8)).take (c - min a c)).length = c - min a c := by simp; omega
    have l2 : (h.take (N - (c - min a c))).length = h.length := by simp; omega
    have l3 : ((List.replicate N (0 : UInt8)).take (c - min a c) ++ (h.take (N - (c - min a c)) ++ (List.replicate N (0 : UInt8)).drop (c - min a c + h.length))).length = N := by simp; omega
    have key : ((List.replicate N (0 : UInt8)).take (c - min a c) ++ (h.take (N - (c - min a c)) ++ (List.replicate N (0 : UInt8)).drop (c - min a c + h.length)))[j]? = some (if c ≤ min a c + j ∧ min a c + j < c + h.length then h.getD (min a c + j - c) 0 else 0) := by
      by_cases q1 : j < c - min a c
      · rw [List.getElem?_append_left (by rw [l1]; exact q1), List.getElem?_take_of_lt q1, hz j hj, if_neg (by omega)]
      · rw [List.getElem?_append_right (by rw [l1]; omega), l1]
        by_cases q2 : j - (c - min a c) < h.length
        · rw [List.getElem?_append_left (by rw [l2]; exact q2), List.getElem?_take_of_lt (by omega), if_pos (by omega)]
          rw [show min a c + j - c = j - (c - min a c) by omega, List.getD_eq_getElem?_getD, List.getElem?_eq_getElem q2]; rfl
        · rw [List.getElem?_append_right (by rw [l2]; omega), l2, List.getElem?_drop, hz _ (by omega), if_neg (by omega)]
    generalize (List.replicate N (0 : UInt8)).take (c - min a c) ++ (h.take (N - (c - min a c)) ++ (List.replicate N (0 : UInt8)).drop (c - min a c + h.length)) = e1 at l3 key
    have l4 : (e1.take (a - min a c)).length = a - min a c := by simp; omega
    have l5 : (g.take (N - (a - min a c))).length = g.length := by simp; omega
    by_cases q1 : j < a - min a c
    · rw [List.getElem?_append_left (by rw [l4]; exact q1), List.getElem?_take_of_lt q1, key, if_neg (c := a ≤ _ ∧ _) (by omega)]
    · rw [List.getElem?_append_right (by rw [l4]; omega), l4]
      by_cases q2 : j - (a - min a c) < g.length
      · rw [List.getElem?_append_left (by rw [l5]; exact q2), List.getElem?_take_of_lt (by omega), if_pos (by omega)]
        rw [show min a c + j - a = j - (a - min a c) by omega, List.getD_eq_getElem?_getD, List.getElem?_eq_getElem q2]; rfl
      · rw [List.getElem?_append_right (by rw [l5]; omega), l5, List.getElem?_drop, show a - min a c + g.length + (j - (a - min a c) - g.length) = j by omega, key, if_neg (c := a ≤ _ ∧ _) (by omega)]
  · rw [List.getElem?_eq_none (by simp; omega), List.getElem?_eq_none (by simp; omega)]
theorem both_ok (b : Int) (x p : Pc) (hx : pEnd x ≤ 100000) (hp : pEnd p ≤ 100000) : ACall Try.prog 34 [.agg [.int .u32 (sAdd b x.1), .sl true 1 (x.2.map by8)], .agg [.int .u32 (sAdd b p.1), .sl true 1 (p.2.map by8)]] (.agg [.int .u32 (sAdd b (both x p).1), .sl false 1 ((both x p).2.map by8)]) [] := by
  have hee := both_es x p (bothN x p) rfl
  have hNN : bothN x p = max (pEnd x) (pEnd p) - min x.1 p.1 := rfl
  have h1 : pEnd x = x.1 + x.2.length := rfl
  have h2 : pEnd p = p.1 + p.2.length := rfl
  have cl := seqLess_ok (sAdd b p.1) (sAdd b x.1)
  rw [sDiff_add _ _ _ (by omega)] at cl
  obtain ⟨m, hm⟩ : ∃ m, m = min x.1 p.1 := ⟨_, rfl⟩
  have cd1 := seqDiff_ok (sAdd b x.1) (sAdd b m)
  have cd2 := seqDiff_ok (sAdd b p.1) (sAdd b m)
  rw [sDiff_add _ _ _ (by omega)] at cd1 cd2
  have e1 : (x.2.map by8).length = x.2.length := by simp
  have e2 : (p.2.map by8).length = p.2.length := by simp
  dsimp only [both]
  rw [← hm] at hee hNN ⊢
  have px := by8_pure x.2
  have pp := by8_pure p.2
  have hel : ((bothD x p).map by8).length = bothN x p := by simp [bothD]
  generalize (bothD x p).map by8 = es at hee hel ⊢
  have hc0 : min (p.2.map by8).length (bothN x p - (p.1 - m)) = p.2.length := by rw [e2]; omega
  have hc1 : min (x.2.map by8).length (bothN x p - (x.1 - m)) = x.2.length := by rw [e1]; omega
  have hmx : max ((x.1 : Int) - m + x.2.length) ((p.1 : Int) - m + p.2.length) = (bothN x p : Int) := by omega
  generalize bothN x p = n at hee hNN hc0 hc1 hmx hel
  by_cases hlt : p.1 < x.1
  · have hsm : sAdd b p.1 = sAdd b m := by rw [show (p.1 : Int) = m by omega]
    rw [decide_eq_true (by omega)] at cl
    refine acall_walk (N := 56) Try.func34 (by kernel_rfl) p_recvq_both rfl ?_; unfold c_recvq_both; dsimp only [enum, Nat.reduceAdd]
    (repeat (first | ((with_reducible show RG _ _ (_ :: _) _ _ _); refine RG.go1 (k := ?_)) | ((with_reducible show DG _ _ (_ :: _) _ _ _ _ _); refine DG.go1 (k := ?_)) | with_reducible apply RG.nil | with_reducible apply W.seq | with_reducible apply W.reg | with_reducible apply W.skip | with_reducible apply W.block | with_reducible apply W.drw | with_reducible apply DG.nil | (with_reducible refine W.done (QB.n ?_))))
    (first | ((with_reducible show RG _ _ (_ :: _) _ _ _); refine RG.ca (cl) (k := ?_)) | ((with_reducible show DG _ _ (_ :: _) _ _ _ _ _); refine DG.ca (cl) (k := ?_)))
    (repeat (first | ((with_reducible show RG _ _ (_ :: _) _ _ _); refine RG.go1 (k := ?_)) | ((with_reducible show DG _ _ (_ :: _) _ _ _ _ _); refine DG.go1 (k := ?_)) | with_reducible apply RG.nil | with_reducible apply W.seq | with_reducible apply W.reg | with_reducible apply W.skip | with_reducible apply W.block | with_reducible apply W.drw | with_reducible apply DG.nil | (with_reducible refine W.done (QB.n ?_))))
    refine W.cndT ?_
    (repeat (first | ((with_reducible show RG _ _ (_ :: _) _ _ _); refine RG.go1 (k := ?_)) | ((with_reducible show DG _ _ (_ :: _) _ _ _ _ _); refine DG.go1 (k := ?_)) | with_reducible apply RG.nil | with_reducible apply W.seq | with_reducible apply W.reg | with_reducible apply W.skip | with_reducible apply W.block | with_reducible apply W.drw | with_reducible apply DG.nil | (with_reducible refine W.done (QB.n ?_))))
    (first | ((with_reducible show RG _ _ (_ :: _) _ _ _); refine RG.ca (cd1) (k := ?_)) | ((with_reducible show DG _ _ (_ :: _) _ _ _ _ _); refine DG.ca (cd1) (k := ?_)))
    (repeat (first | ((with_reducible show RG _ _ (_ :: _) _ _ _); refine RG.go1 (k := ?_)) | ((with_reducible show DG _ _ (_ :: _) _ _ _ _ _); refine DG.go1 (k := ?_)) | with_reducible apply RG.nil | with_reducible apply W.seq | with_reducible apply W.reg | with_reducible apply W.skip | with_reducible apply W.block | with_reducible apply W.drw | with_reducible apply DG.nil | (with_reducible refine W.done (QB.n ?_))))
    (first | ((with_reducible show RG _ _ (_ :: _) _ _ _); refine RG.ca (cd2) (k := ?_)) | ((with_reducible show DG _ _ (_ :: _) _ _ _ _ _); refine DG.ca (cd2) (k := ?_)))
    (repeat (first | ((with_reducible show RG _ _ (_ :: _) _ _ _); refine RG.go1 (k := ?_)) | ((with_reducible show DG _ _ (_ :: _) _ _ _ _ _); refine DG.go1 (k := ?_)) | with_reducible apply RG.nil | with_reducible apply W.seq | with_reducible apply W.reg | with_reducible apply W.skip | with_reducible apply W.block | with_reducible apply W.drw | with_reducible apply DG.nil | (with_reducible refine W.done (QB.n ?_))))
    rw [e1, e2, hmx]
    (repeat (first | ((with_reducible show RG _ _ (_ :: _) _ _ _); refine RG.go1 (k := ?_)) | ((with_reducible show DG _ _ (_ :: _) _ _ _ _ _); refine DG.go1 (k := ?_)) | with_reducible apply RG.nil | with_reducible apply W.seq | with_reducible apply W.reg | with_reducible apply W.skip | with_reducible apply W.block | with_reducible apply W.drw | with_reducible apply DG.nil | (with_reducible refine W.done (QB.n ?_))))
    rw [Int.toNat_natCast]
    (first | ((with_reducible show RG _ _ (_ :: _) _ _ _); refine RG.ca (cd2) (k := ?_)) | ((with_reducible show DG _ _ (_ :: _) _ _ _ _ _); refine DG.ca (cd2) (k := ?_)))
    (repeat (first | ((with_reducible show RG _ _ (_ :: _) _ _ _); refine RG.go1 (k := ?_)) | ((with_reducible show DG _ _ (_ :: _) _ _ _ _ _); refine DG.go1 (k := ?_)) | with_reducible apply RG.nil | with_reducible apply W.seq | with_reducible apply W.reg | with_reducible apply W.skip | with_reducible apply W.block | with_reducible apply W.drw | with_reducible apply DG.nil | (with_reducible refine W.done (QB.n ?_))))
    (first | ((with_reducible show RG _ _ (_ :: _) _ _ _); refine RG.ew ((show AV.ref 0 1 (0 + ((p.1 : Int) - (m : Int)).toNat) ((n : Int) - ((p.1 : Int) - (m : Int))).toNat = AV.ref 0 1 (p.1 - m) (n - (p.1 - m)) by congr 1 <;> omega)) (k := ?_)) | ((with_reducible show DG _ _ (_ :: _) _ _ _ _ _); refine DG.ew ((show AV.ref 0 1 (0 + ((p.1 : Int) - (m : Int)).toNat) ((n : Int) - ((p.1 : Int) - (m : Int))).toNat = AV.ref 0 1 (p.1 - m) (n - (p.1 - m)) by congr 1 <;> omega)) (k := ?_)))
    (repeat (first | ((with_reducible show RG _ _ (_ :: _) _ _ _); refine RG.go1 (k := ?_)) | ((with_reducible show DG _ _ (_ :: _) _ _ _ _ _); refine DG.go1 (k := ?_)) | with_reducible apply RG.nil | with_reducible apply W.seq | with_reducible apply W.reg | with_reducible apply W.skip | with_reducible apply W.block | with_reducible apply W.drw | with_reducible apply DG.nil | (with_reducible refine W.done (QB.n ?_))))
    (first | ((with_reducible show RG _ _ (_ :: _) _ _ _); refine RG.sm (A.cpy (rfl)) (k := ?_)) | ((with_reducible show DG _ _ (_ :: _) _ _ _ _ _); refine DG.sm (A.cpy (rfl)) (k := ?_)))
    (repeat (first | ((with_reducible show RG _ _ (_ :: _) _ _ _); refine RG.go1 (k := ?_)) | ((with_reducible show DG _ _ (_ :: _) _ _ _ _ _); refine DG.go1 (k := ?_)) | with_reducible apply RG.nil | with_reducible apply W.seq | with_reducible apply W.reg | with_reducible apply W.skip | with_reducible apply W.block | with_reducible apply W.drw | with_reducible apply DG.nil | (with_reducible refine W.done (QB.n ?_))))
    (first | ((with_reducible show RG _ _ (_ :: _) _ _ _); refine RG.ca (cd1) (k := ?_)) | ((with_reducible show DG _ _ (_ :: _) _ _ _ _ _); refine DG.ca (cd1) (k := ?_)))
    (repeat (first | ((with_reducible show RG _ _ (_ :: _) _ _ _); refine RG.go1 (k := ?_)) | ((with_reducible show DG _ _ (_ :: _) _ _ _ _ _); refine DG.go1 (k := ?_)) | with_reducible apply RG.nil | with_reducible apply W.seq | with_reducible apply W.reg | with_reducible apply W.skip | with_reducible apply W.block | with_reducible apply W.drw | with_reducible apply DG.nil | (with_reducible refine W.done (QB.n ?_))))
    (first | ((with_reducible show RG _ _ (_ :: _) _ _ _); refine RG.ew ((show AV.ref 0 1 (0 + ((x.1 : Int) - (m : Int)).toNat) ((n : Int) - ((x.1 : Int) - (m : Int))).toNat = AV.ref 0 1 (x.1 - m) (n - (x.1 - m)) by congr 1 <;> omega)) (k := ?_)) | ((with_reducible show DG _ _ (_ :: _) _ _ _ _ _); refine DG.ew ((show AV.ref 0 1 (0 + ((x.1 : Int) - (m : Int)).toNat) ((n : Int) - ((x.1 : Int) - (m : Int))).toNat = AV.ref 0 1 (x.1 - m) (n - (x.1 - m)) by congr 1 <;> omega)) (k := ?_)))
    (repeat (first | ((with_reducible show RG _ _ (_ :: _) _ _ _); refine RG.go1 (k := ?_)) | ((with_reducible show DG _ _ (_ :: _) _ _ _ _ _); refine DG.go1 (k := ?_)) | with_reducible apply RG.nil | with_reducible apply W.seq | with_reducible apply W.reg | with_reducible apply W.skip | with_reducible apply W.block | with_reducible apply W.drw | with_reducible apply DG.nil | (with_reducible refine W.done (QB.n ?_))))
    (first | ((with_reducible show RG _ _ (_ :: _) _ _ _); refine RG.sm (A.cpy (hee)) (k := ?_)) | ((with_reducible show DG _ _ (_ :: _) _ _ _ _ _); refine DG.sm (A.cpy (hee)) (k := ?_)))
    (repeat (first | ((with_reducible show RG _ _ (_ :: _) _ _ _); refine RG.go1 (k := ?_)) | ((with_reducible show DG _ _ (_ :: _) _ _ _ _ _); refine DG.go1 (k := ?_)) | with_reducible apply RG.nil | with_reducible apply W.seq | with_reducible apply W.reg | with_reducible apply W.skip | with_reducible apply W.block | with_reducible apply W.drw | with_reducible apply DG.nil | (with_reducible refine W.done (QB.n ?_))))
    (refine W.ret ?_; (repeat (with_reducible first | refine QB.r ?_ | refine QL.r ?_ | refine QC.r ?_)); refine QF.r ?_)
    (refine RetOk.wk (Wk.frz (b := 0) rfl rfl) ?_; refine RetOk.wk (Wk.box (b := 2) (cs' := [_, _]) rfl (by dsimp only [ClL]; (repeat' (first | exact True.intro | exact Cl.ice rfl rfl rfl (by first | assumption | decide | omega | (simp; (first | (all_goals fail) | fail)) | (simp <;> omega)) (by first | exact take_all _ | exact take_len (by first | (simp; (first | (all_goals fail) | fail)) | (simp <;> omega)) | exact rfl) | exact Cl.le (.refl _) | apply And.intro)); (first | (all_goals fail) | fail))) ?_; dsimp only [setO])
    exact RetOk.rs (vs := [_]) r_recvq_both []
  · have hsm : sAdd b x.1 = sAdd b m := by rw [show (x.1 : Int) = m by omega]
    rw [decide_eq_false (by omega)] at cl
    refine acall_walk (N := 56) Try.func34 (by kernel_rfl) p_recvq_both rfl ?_; unfold c_recvq_both; dsimp only [enum, Nat.reduceAdd]
    (repeat (first | ((with_reducible show RG _ _ (_ :: _) _ _ _); refine RG.go1 (k := ?_)) | ((with_reducible show DG _ _ (_ :: _) _ _ _ _ _); refine DG.go1 (k := ?_)) | with_reducible apply RG.nil | with_reducible apply W.seq | with_reducible apply W.reg | with_reducible apply W.skip | with_reducible apply W.block | with_reducible apply W.drw | with_reducible apply DG.nil | (with_reducible refine W.done (QB.n ?_))))
    (first | ((with_reducible show RG _ _ (_ :: _) _ _ _); refine RG.ca (cl) (k := ?_)) | ((with_reducible show DG _ _ (_ :: _) _ _ _ _ _); refine DG.ca (cl) (k := ?_)))
    (repeat (first | ((with_reducible show RG _ _ (_ :: _) _ _ _); refine RG.go1 (k := ?_)) | ((with_reducible show DG _ _ (_ :: _) _ _ _ _ _); refine DG.go1 (k := ?_)) | with_reducible apply RG.nil | with_reducible apply W.seq | with_reducible apply W.reg | with_reducible apply W.skip | with_reducible apply W.block | with_reducible apply W.drw | with_reducible apply DG.nil | (with_reducible refine W.done (QB.n ?_))))
    refine W.cndF ?_
    (repeat (first | ((with_reducible show RG _ _ (_ :: _) _ _ _); refine RG.go1 (k := ?_)) | ((with_reducible show DG _ _ (_ :: _) _ _ _ _ _); refine DG.go1 (k := ?_)) | with_reducible apply RG.nil | with_reducible apply W.seq | with_reducible apply W.reg | with_reducible apply W.skip | with_reducible apply W.block | with_reducible apply W.drw | with_reducible apply DG.nil | (with_reducible refine W.done (QB.n ?_))))
    (first | ((with_reducible show RG _ _ (_ :: _) _ _ _); refine RG.ca (cd1) (k := ?_)) | ((with_reducible show DG _ _ (_ :: _) _ _ _ _ _); refine DG.ca (cd1) (k := ?_)))
    (repeat (first | ((with_reducible show RG _ _ (_ :: _) _ _ _); refine RG.go1 (k := ?_)) | ((with_reducible show DG _ _ (_ :: _) _ _ _ _ _); refine DG.go1 (k := ?_)) | with_reducible apply RG.nil | with_reducible apply W.seq | with_reducible apply W.reg | with_reducible apply W.skip | with_reducible apply W.block | with_reducible apply W.drw | with_reducible apply DG.nil | (with_reducible refine W.done (QB.n ?_))))
    (first | ((with_reducible show RG _ _ (_ :: _) _ _ _); refine RG.ca (cd2) (k := ?_)) | ((with_reducible show DG _ _ (_ :: _) _ _ _ _ _); refine DG.ca (cd2) (k := ?_)))
    (repeat (first | ((with_reducible show RG _ _ (_ :: _) _ _ _); refine RG.go1 (k := ?_)) | ((with_reducible show DG _ _ (_ :: _) _ _ _ _ _); refine DG.go1 (k := ?_)) | with_reducible apply RG.nil | with_reducible apply W.seq | with_reducible apply W.reg | with_reducible apply W.skip | with_reducible apply W.block | with_reducible apply W.drw | with_reducible apply DG.nil | (with_reducible refine W.done (QB.n ?_))))
    rw [e1, e2, hmx]
    (repeat (first | ((with_reducible show RG _ _ (_ :: _) _ _ _); refine RG.go1 (k := ?_)) | ((with_reducible show DG _ _ (_ :: _) _ _ _ _ _); refine DG.go1 (k := ?_)) | with_reducible apply RG.nil | with_reducible apply W.seq | with_reducible apply W.reg | with_reducible apply W.skip | with_reducible apply W.block | with_reducible apply W.drw | with_reducible apply DG.nil | (with_reducible refine W.done (QB.n ?_))))
    rw [Int.toNat_natCast]
    (first | ((with_reducible show RG _ _ (_ :: _) _ _ _); refine RG.ca (cd2) (k := ?_)) | ((with_reducible show DG _ _ (_ :: _) _ _ _ _ _); refine DG.ca (cd2) (k := ?_)))
    (repeat (first | ((with_reducible show RG _ _ (_ :: _) _ _ _); refine RG.go1 (k := ?_)) | ((with_reducible show DG _ _ (_ :: _) _ _ _ _ _); refine DG.go1 (k := ?_)) | with_reducible apply RG.nil | with_reducible apply W.seq | with_reducible apply W.reg | with_reducible apply W.skip | with_reducible apply W.block | with_reducible apply W.drw | with_reducible apply DG.nil | (with_reducible refine W.done (QB.n ?_))))
    (first | ((with_reducible show RG _ _ (_ :: _) _ _ _); refine RG.ew ((show AV.ref 0 1 (0 + ((p.1 : Int) - (m : Int)).toNat) ((n : Int) - ((p.1 : Int) - (m : Int))).toNat = AV.ref 0 1 (p.1 - m) (n - (p.1 - m)) by congr 1 <;> omega)) (k := ?_)) | ((with_reducible show DG _ _ (_ :: _) _ _ _ _ _); refine DG.ew ((show AV.ref 0 1 (0 + ((p.1 : Int) - (m : Int)).toNat) ((n : Int) - ((p.1 : Int) - (m : Int))).toNat = AV.ref 0 1 (p.1 - m) (n - (p.1 - m)) by congr 1 <;> omega)) (k := ?_)))
    (repeat (first | ((with_reducible show RG _ _ (_ :: _) _ _ _); refine RG.go1 (k := ?_)) | ((with_reducible show DG _ _ (_ :: _) _ _ _ _ _); refine DG.go1 (k := ?_)) | with_reducible apply RG.nil | with_reducible apply W.seq | with_reducible apply W.reg | with_reducible apply W.skip | with_reducible apply W.block | with_reducible apply W.drw | with_reducible apply DG.nil | (with_reducible refine W.done (QB.n ?_))))
    (first | ((with_reducible show RG _ _ (_ :: _) _ _ _); refine RG.sm (A.cpy (rfl)) (k := ?_)) | ((with_reducible show DG _ _ (_ :: _) _ _ _ _ _); refine DG.sm (A.cpy (rfl)) (k := ?_)))
    (repeat (first | ((with_reducible show RG _ _ (_ :: _) _ _ _); refine RG.go1 (k := ?_)) | ((with_reducible show DG _ _ (_ :: _) _ _ _ _ _); refine DG.go1 (k := ?_)) | with_reducible apply RG.nil | with_reducible apply W.seq | with_reducible apply W.reg | with_reducible apply W.skip | with_reducible apply W.block | with_reducible apply W.drw | with_reducible apply DG.nil | (with_reducible refine W.done (QB.n ?_))))
    (first | ((with_reducible show RG _ _ (_ :: _) _ _ _); refine RG.ca (cd1) (k := ?_)) | ((with_reducible show DG _ _ (_ :: _) _ _ _ _ _); refine DG.ca (cd1) (k := ?_)))
    (repeat (first | ((with_reducible show RG _ _ (_ :: _) _ _ _); refine RG.go1 (k := ?_)) | ((with_reducible show DG _ _ (_ :: _) _ _ _ _ _); refine DG.go1 (k := ?_)) | with_reducible apply RG.nil | with_reducible apply W.seq | with_reducible apply W.reg | with_reducible apply W.skip | with_reducible apply W.block | with_reducible apply W.drw | with_reducible apply DG.nil | (with_reducible refine W.done (QB.n ?_))))
    (first | ((with_reducible show RG _ _ (_ :: _) _ _ _); refine RG.ew ((show AV.ref 0 1 (0 + ((x.1 : Int) - (m : Int)).toNat) ((n : Int) - ((x.1 : Int) - (m : Int))).toNat = AV.ref 0 1 (x.1 - m) (n - (x.1 - m)) by congr 1 <;> omega)) (k := ?_)) | ((with_reducible show DG _ _ (_ :: _) _ _ _ _ _); refine DG.ew ((show AV.ref 0 1 (0 + ((x.1 : Int) - (m : Int)).toNat) ((n : Int) - ((x.1 : Int) - (m : Int))).toNat = AV.ref 0 1 (x.1 - m) (n - (x.1 - m)) by congr 1 <;> omega)) (k := ?_)))
    (repeat (first | ((with_reducible show RG _ _ (_ :: _) _ _ _); refine RG.go1 (k := ?_)) | ((with_reducible show DG _ _ (_ :: _) _ _ _ _ _); refine DG.go1 (k := ?_)) | with_reducible apply RG.nil | with_reducible apply W.seq | with_reducible apply W.reg | with_reducible apply W.skip | with_reducible apply W.block | with_reducible apply W.drw | with_reducible apply DG.nil | (with_reducible refine W.done (QB.n ?_))))
    (first | ((with_reducible show RG _ _ (_ :: _) _ _ _); refine RG.sm (A.cpy (hee)) (k := ?_)) | ((with_reducible show DG _ _ (_ :: _) _ _ _ _ _); refine DG.sm (A.cpy (hee)) (k := ?_)))
    (repeat (first | ((with_reducible show RG _ _ (_ :: _) _ _ _); refine RG.go1 (k := ?_)) | ((with_reducible show DG _ _ (_ :: _) _ _ _ _ _); refine DG.go1 (k := ?_)) | with_reducible apply RG.nil | with_reducible apply W.seq | with_reducible apply W.reg | with_reducible apply W.skip | with_reducible apply W.block | with_reducible apply W.drw | with_reducible apply DG.nil | (with_reducible refine W.done (QB.n ?_))))
    (refine W.ret ?_; (repeat (with_reducible first | refine QB.r ?_ | refine QL.r ?_ | refine QC.r ?_)); refine QF.r ?_)
    (refine RetOk.wk (Wk.frz (b := 0) rfl rfl) ?_; refine RetOk.wk (Wk.box (b := 2) (cs' := [_, _]) rfl (by dsimp only [ClL]; (repeat' (first | exact True.intro | exact Cl.ice rfl rfl rfl (by first | assumption | decide | omega | (simp; (first | (all_goals fail) | fail)) | (simp <;> omega)) (by first | exact take_all _ | exact take_len (by first | (simp; (first | (all_goals fail) | fail)) | (simp <;> omega)) | exact rfl) | exact Cl.le (.refl _) | apply And.intro)); (first | (all_goals fail) | fail))) ?_; dsimp only [setO])
    exact RetOk.rs (vs := [_]) r_recvq_both []
end Go.Proofs.Ytmohmcgcggenfaa
