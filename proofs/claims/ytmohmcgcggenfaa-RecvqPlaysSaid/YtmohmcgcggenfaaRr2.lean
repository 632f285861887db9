/- What the document's receiver computes: front, runs. -/
import Derived.Test.YtmohmcgcggenfaaRr1
namespace Go.Proofs.Ytmohmcgcggenfaa
open Go.RowKit
set_option linter.unusedVariables false
set_option linter.unusedSimpArgs false
set_option maxRecDepth 100000
set_option maxHeartbeats 4000000
/-- Numbers of bytes, or below nought. -/
def ByI (l : List Int) : Prop := ∀ z ∈ l, -1 ≤ z ∧ z ≤ 255
theorem frontI_len (l : List Int) : (frontI l).length ≤ l.length := by
  unfold frontI; rw [List.length_map]; exact (List.takeWhile_sublist _).length_le
theorem front_stop {l : List Int} {i : Nat} (hi : i ≤ l.length) (h0 : ∀ j : Nat, (hj : j < l.length) → j < i → 0 ≤ l[j]) (h1 : ∀ hj : i < l.length, l[i] < 0) : l.takeWhile (fun z => decide (0 ≤ z)) = l.take i := by
  induction l generalizing i with
  | nil => simp
  | cons a l ih =>
    cases i with
    | zero =>
      have := h1 (by simp)
      simp only [List.getElem_cons_zero] at this
      rw [List.takeWhile_cons_of_neg (by simpa using this)]; rfl
    | succ i =>
      have ha := h0 0 (by simp) (by omega)
      simp only [List.getElem_cons_zero] at ha
      rw [List.takeWhile_cons_of_pos (by simpa using ha), List.take_succ_cons]
      congr 1
      refine ih (by simpa using hi) (fun j hj hji => ?_) (fun hj => ?_)
      · have := h0 (j + 1) (by simpa using hj) (by omega); simpa using this
      · have := h1 (by simpa using hj); simpa using this
theorem by8_of {z : Int} (h0 : 0 ≤ z) (h1 : z ≤ 255) : AV.int .u8 z = by8 (UInt8.ofNat z.toNat) := by
  simp only [by8]; congr 1; simp; omega
theorem front_ok (l : List Int) (hb : ByI l) (hl : l.length ≤ 1000) : ACall Try.prog 29 [.sl true 1 (gi l)] (.str (frontI l)) [] := by
  have el := gi_len l
  refine acall_walk (N := 28) Try.func29 (by kernel_rfl) p_caravelref17_front rfl ?_; unfold c_caravelref17_front; dsimp only [enum, Nat.reduceAdd]
  (repeat (first | ((with_reducible show RG _ _ (_ :: _) _ _ _); refine RG.go1 (k := ?_)) | ((with_reducible show DG _ _ (_ :: _) _ _ _ _ _); refine DG.go1 (k := ?_)) | with_reducible apply RG.nil | with_reducible apply W.seq | with_reducible apply W.reg | with_reducible apply W.skip | with_reducible apply W.block | with_reducible apply W.drw | with_reducible apply DG.nil | (with_reducible refine W.done (QB.n ?_))))
  refine W.loop (ι := {i : Nat // i ≤ l.length ∧ ∀ j : Nat, (hj : j < l.length) → j < i → 0 ≤ l[j]}) (fun i => ⟨[(4, .int .i64 i.1), (0, .sl true 1 (gi l)), (3, .str ((l.take i.1).map fun z => UInt8.ofNat z.toNat))], [], [], 0, 0⟩) (fun i => l.length - i.1) ⟨0, Nat.zero_le _, fun j _ h => absurd h (Nat.not_lt_zero _)⟩ ?_ ?_
  · exact Wk.rn ([] ) ( [])
  rintro ⟨i, hi, h0⟩
  dsimp only
  by_cases hlt : i < l.length
  · have hE := gi_at l i hlt
    obtain ⟨b1, b2⟩ := hb _ (List.getElem_mem hlt)
    have hstop := fun hz : l[i] < 0 => front_stop (l := l) (i := i) hi h0 (fun _ => hz)
    have hgo : 0 ≤ l[i] → ∀ j : Nat, (hj : j < l.length) → j < i + 1 → 0 ≤ l[j] := fun hz j hj hji => by
      rcases Nat.lt_or_ge j i with q | q
      · exact h0 j hj q
      · obtain rfl : j = i := by omega
        exact hz
    have hsn : (l.take i).map (fun z => UInt8.ofNat z.toNat) ++ [UInt8.ofNat l[i].toNat] = (l.take (i + 1)).map fun z => UInt8.ofNat z.toNat := by
      rw [List.take_succ_eq_append_getElem hlt, List.map_append]; rfl
    have hml : ((l.take i).map fun z => UInt8.ofNat z.toNat).length = i := by simp; omega
    generalize l[i] = z at *
    by_cases hz : 0 ≤ z
    · have h8 : ([AV.int .u8 z] : List AV) = [UInt8.ofNat z.toNat].map by8 := by rw [by8_of hz b2]; rfl
      (repeat (first | ((with_reducible show RG _ _ (_ :: _) _ _ _); refine RG.go1 (k := ?_)) | ((with_reducible show DG _ _ (_ :: _) _ _ _ _ _); refine DG.go1 (k := ?_)) | with_reducible apply RG.nil | with_reducible apply W.seq | with_reducible apply W.reg | with_reducible apply W.skip | with_reducible apply W.block | with_reducible apply W.drw | with_reducible apply DG.nil | (with_reducible refine W.done (QB.n ?_))))
      (first | ((with_reducible show RG _ _ (_ :: _) _ _ _); refine RG.ewg (cptr_of (hE) (by (conv => lhs; whnf) <;> exact rfl)) (k := ?_)) | ((with_reducible show DG _ _ (_ :: _) _ _ _ _ _); refine DG.ewg (cptr_of (hE) (by (conv => lhs; whnf) <;> exact rfl)) (k := ?_)))
      (repeat (first | ((with_reducible show RG _ _ (_ :: _) _ _ _); refine RG.go1 (k := ?_)) | ((with_reducible show DG _ _ (_ :: _) _ _ _ _ _); refine DG.go1 (k := ?_)) | with_reducible apply RG.nil | with_reducible apply W.seq | with_reducible apply W.reg | with_reducible apply W.skip | with_reducible apply W.block | with_reducible apply W.drw | with_reducible apply DG.nil | (with_reducible refine W.done (QB.n ?_))))
      refine W.cndT ?_
      (repeat (first | ((with_reducible show RG _ _ (_ :: _) _ _ _); refine RG.go1 (k := ?_)) | ((with_reducible show DG _ _ (_ :: _) _ _ _ _ _); refine DG.go1 (k := ?_)) | with_reducible apply RG.nil | with_reducible apply W.seq | with_reducible apply W.reg | with_reducible apply W.skip | with_reducible apply W.block | with_reducible apply W.drw | with_reducible apply DG.nil | (with_reducible refine W.done (QB.n ?_))))
      (first | ((with_reducible show RG _ _ (_ :: _) _ _ _); refine RG.ew (cptr_of (hE) (by (conv => lhs; whnf) <;> exact rfl)) (k := ?_)) | ((with_reducible show DG _ _ (_ :: _) _ _ _ _ _); refine DG.ew (cptr_of (hE) (by (conv => lhs; whnf) <;> exact rfl)) (k := ?_)))
      (repeat (first | ((with_reducible show RG _ _ (_ :: _) _ _ _); refine RG.go1 (k := ?_)) | ((with_reducible show DG _ _ (_ :: _) _ _ _ _ _); refine DG.go1 (k := ?_)) | with_reducible apply RG.nil | with_reducible apply W.seq | with_reducible apply W.reg | with_reducible apply W.skip | with_reducible apply W.block | with_reducible apply W.drw | with_reducible apply DG.nil | (with_reducible refine W.done (QB.n ?_))))
      rw [h8]
      (repeat (first | ((with_reducible show RG _ _ (_ :: _) _ _ _); refine RG.go1 (k := ?_)) | ((with_reducible show DG _ _ (_ :: _) _ _ _ _ _); refine DG.go1 (k := ?_)) | with_reducible apply RG.nil | with_reducible apply W.seq | with_reducible apply W.reg | with_reducible apply W.skip | with_reducible apply W.block | with_reducible apply W.drw | with_reducible apply DG.nil | (with_reducible refine W.done (QB.n ?_))))
      rw [hsn]
      refine W.done (QL.n (⟨i + 1, by omega, hgo hz⟩) ?_ ?_)
      · exact Wk.rn ([] ) ( [])
      · dsimp only; omega
    · have hf : frontI l = (l.take i).map fun z => UInt8.ofNat z.toNat := by unfold frontI; rw [hstop (by omega)]
      rw [hf]
      (repeat (first | ((with_reducible show RG _ _ (_ :: _) _ _ _); refine RG.go1 (k := ?_)) | ((with_reducible show DG _ _ (_ :: _) _ _ _ _ _); refine DG.go1 (k := ?_)) | with_reducible apply RG.nil | with_reducible apply W.seq | with_reducible apply W.reg | with_reducible apply W.skip | with_reducible apply W.block | with_reducible apply W.drw | with_reducible apply DG.nil | (with_reducible refine W.done (QB.n ?_))))
      (first | ((with_reducible show RG _ _ (_ :: _) _ _ _); refine RG.ewg (cptr_of (hE) (by (conv => lhs; whnf) <;> exact rfl)) (k := ?_)) | ((with_reducible show DG _ _ (_ :: _) _ _ _ _ _); refine DG.ewg (cptr_of (hE) (by (conv => lhs; whnf) <;> exact rfl)) (k := ?_)))
      (repeat (first | ((with_reducible show RG _ _ (_ :: _) _ _ _); refine RG.go1 (k := ?_)) | ((with_reducible show DG _ _ (_ :: _) _ _ _ _ _); refine DG.go1 (k := ?_)) | with_reducible apply RG.nil | with_reducible apply W.seq | with_reducible apply W.reg | with_reducible apply W.skip | with_reducible apply W.block | with_reducible apply W.drw | with_reducible apply DG.nil | (with_reducible refine W.done (QB.n ?_))))
      refine W.cndF ?_
      (refine W.exit ?_; (repeat (first | (with_reducible first | refine QL.x ?_ | refine QC.x ?_ | refine QB.x ?_) | (with_reducible refine QB.o (by decide) ?_))))
      (repeat (first | ((with_reducible show RG _ _ (_ :: _) _ _ _); refine RG.go1 (k := ?_)) | ((with_reducible show DG _ _ (_ :: _) _ _ _ _ _); refine DG.go1 (k := ?_)) | with_reducible apply RG.nil | with_reducible apply W.seq | with_reducible apply W.reg | with_reducible apply W.skip | with_reducible apply W.block | with_reducible apply W.drw | with_reducible apply DG.nil | (with_reducible refine W.done (QB.n ?_))))
      (refine W.ret ?_; (repeat (with_reducible first | refine QB.r ?_ | refine QL.r ?_ | refine QC.r ?_)); refine QF.r ?_)
      exact RetOk.rs (vs := [_]) r_caravelref17_front []
  · have hi2 : i = l.length := by omega
    have hf : frontI l = (l.take i).map fun z => UInt8.ofNat z.toNat := by unfold frontI; rw [front_stop (l := l) (i := i) hi h0 (fun hj => absurd hj hlt)]
    rw [hf]
    (repeat (first | ((with_reducible show RG _ _ (_ :: _) _ _ _); refine RG.go1 (k := ?_)) | ((with_reducible show DG _ _ (_ :: _) _ _ _ _ _); refine DG.go1 (k := ?_)) | with_reducible apply RG.nil | with_reducible apply W.seq | with_reducible apply W.reg | with_reducible apply W.skip | with_reducible apply W.block | with_reducible apply W.drw | with_reducible apply DG.nil | (with_reducible refine W.done (QB.n ?_))))
    refine W.cndF ?_
    (refine W.exit ?_; (repeat (first | (with_reducible first | refine QL.x ?_ | refine QC.x ?_ | refine QB.x ?_) | (with_reducible refine QB.o (by decide) ?_))))
    (repeat (first | ((with_reducible show RG _ _ (_ :: _) _ _ _); refine RG.go1 (k := ?_)) | ((with_reducible show DG _ _ (_ :: _) _ _ _ _ _); refine DG.go1 (k := ?_)) | with_reducible apply RG.nil | with_reducible apply W.seq | with_reducible apply W.reg | with_reducible apply W.skip | with_reducible apply W.block | with_reducible apply W.drw | with_reducible apply DG.nil | (with_reducible refine W.done (QB.n ?_))))
    (refine W.ret ?_; (repeat (with_reducible first | refine QB.r ?_ | refine QL.r ?_ | refine QC.r ?_)); refine QF.r ?_)
    exact RetOk.rs (vs := [_]) r_caravelref17_front []
theorem runsI_snoc : ∀ (l : List Int) (i : Nat) (h1 : 1 ≤ i) (hi : i < l.length), runsI (l.take (i + 1)) = runsI (l.take i) + if 0 ≤ l[i] ∧ l[i - 1]'(by omega) < 0 then 1 else 0
  | [], i, h1, hi => absurd hi (by simp)
  | [a], i, h1, hi => absurd hi (by simp; omega)
  | a :: b :: l, 1, h1, hi => by simp [runsI]
  | a :: b :: l, i + 2, h1, hi => by
    have h := runsI_snoc (b :: l) (i + 1) (by omega) (by simpa using hi)
    simp only [List.take_succ_cons, runsI] at h ⊢
    simp only [List.getElem_cons_succ, Nat.add_sub_cancel] at h ⊢
    rw [h]; simp; omega
theorem runsI_le (l : List Int) (i : Nat) (h1 : 1 ≤ i) (hi : i ≤ l.length) : runsI (l.take i) ≤ i := by
  induction i with
  | zero => omega
  | succ i ih =>
    by_cases h : 1 ≤ i
    · rw [runsI_snoc l i h (by omega)]
      have := ih h (by omega)
      split <;> omega
    · obtain rfl : i = 0 := by omega
      cases l with
      | nil => simp [runsI]
      | cons a l => simp [runsI]
theorem runs_ok (l : List Int) (hb : ByI l) (h1 : 1 ≤ l.length) (hl : l.length ≤ 1000) : ACall Try.prog 30 [.sl true 1 (gi l)] (.int .i64 (runsI l)) [] := by
  have el := gi_len l
  refine acall_walk (N := 27) Try.func30 (by kernel_rfl) p_caravelref17_runs rfl ?_; unfold c_caravelref17_runs; dsimp only [enum, Nat.reduceAdd]
  (repeat (first | ((with_reducible show RG _ _ (_ :: _) _ _ _); refine RG.go1 (k := ?_)) | ((with_reducible show DG _ _ (_ :: _) _ _ _ _ _); refine DG.go1 (k := ?_)) | with_reducible apply RG.nil | with_reducible apply W.seq | with_reducible apply W.reg | with_reducible apply W.skip | with_reducible apply W.block | with_reducible apply W.drw | with_reducible apply DG.nil | (with_reducible refine W.done (QB.n ?_))))
  refine W.loop (ι := {i : Nat // 1 ≤ i ∧ i ≤ l.length}) (fun i => ⟨[(4, .int .i64 i.1), (0, .sl true 1 (gi l)), (3, .int .i64 (runsI (l.take i.1)))], [], [], 0, 0⟩) (fun i => l.length - i.1) ⟨1, Nat.le_refl _, h1⟩ ?_ ?_
  · have h0 : runsI (l.take 1) = 0 := by
      cases l with
      | nil => rfl
      | cons a l => simp [runsI]
    rw [h0]
    exact Wk.rn ([] ) ( [])
  rintro ⟨i, hi1, hi⟩
  dsimp only
  have hr := runsI_le l i hi1 hi
  by_cases hlt : i < l.length
  · have hE := gi_at l i hlt
    have hE2 : (gi l)[((i : Int) - 1).toNat]?.getD .any = .int .i64 (l[i - 1]'(by omega)) := at_map (fun z => AV.int .i64 z) l (i - 1) _ (List.getElem?_eq_getElem (by omega)) (by omega)
    have hsn := runsI_snoc l i hi1 hlt
    generalize l[i] = z at *
    generalize l[i - 1]'(by omega) = y at *
    (repeat (first | ((with_reducible show RG _ _ (_ :: _) _ _ _); refine RG.go1 (k := ?_)) | ((with_reducible show DG _ _ (_ :: _) _ _ _ _ _); refine DG.go1 (k := ?_)) | with_reducible apply RG.nil | with_reducible apply W.seq | with_reducible apply W.reg | with_reducible apply W.skip | with_reducible apply W.block | with_reducible apply W.drw | with_reducible apply DG.nil | (with_reducible refine W.done (QB.n ?_))))
    refine W.cndT ?_
    (repeat (first | ((with_reducible show RG _ _ (_ :: _) _ _ _); refine RG.go1 (k := ?_)) | ((with_reducible show DG _ _ (_ :: _) _ _ _ _ _); refine DG.go1 (k := ?_)) | with_reducible apply RG.nil | with_reducible apply W.seq | with_reducible apply W.reg | with_reducible apply W.skip | with_reducible apply W.block | with_reducible apply W.drw | with_reducible apply DG.nil | (with_reducible refine W.done (QB.n ?_))))
    (first | ((with_reducible show RG _ _ (_ :: _) _ _ _); refine RG.ew (cptr_of (hE) (by (conv => lhs; whnf) <;> exact rfl)) (k := ?_)) | ((with_reducible show DG _ _ (_ :: _) _ _ _ _ _); refine DG.ew (cptr_of (hE) (by (conv => lhs; whnf) <;> exact rfl)) (k := ?_)))
    (repeat (first | ((with_reducible show RG _ _ (_ :: _) _ _ _); refine RG.go1 (k := ?_)) | ((with_reducible show DG _ _ (_ :: _) _ _ _ _ _); refine DG.go1 (k := ?_)) | with_reducible apply RG.nil | with_reducible apply W.seq | with_reducible apply W.reg | with_reducible apply W.skip | with_reducible apply W.block | with_reducible apply W.drw | with_reducible apply DG.nil | (with_reducible refine W.done (QB.n ?_))))
    (first | ((with_reducible show RG _ _ (_ :: _) _ _ _); refine RG.ewg (cptr_of (hE2) (by (conv => lhs; whnf) <;> exact rfl)) (k := ?_)) | ((with_reducible show DG _ _ (_ :: _) _ _ _ _ _); refine DG.ewg (cptr_of (hE2) (by (conv => lhs; whnf) <;> exact rfl)) (k := ?_)))
    (repeat (first | ((with_reducible show RG _ _ (_ :: _) _ _ _); refine RG.go1 (k := ?_)) | ((with_reducible show DG _ _ (_ :: _) _ _ _ _ _); refine DG.go1 (k := ?_)) | with_reducible apply RG.nil | with_reducible apply W.seq | with_reducible apply W.reg | with_reducible apply W.skip | with_reducible apply W.block | with_reducible apply W.drw | with_reducible apply DG.nil | (with_reducible refine W.done (QB.n ?_))))
    refine W.cnd (fun hc => ?_) (fun hc => ?_)
    · have hc2 : 0 ≤ z ∧ y < 0 := by simpa using hc
      have hs2 : ((runsI (l.take i) : Int) + 1) = (runsI (l.take (i + 1)) : Nat) := by rw [hsn, if_pos hc2]; rfl
      (repeat (first | ((with_reducible show RG _ _ (_ :: _) _ _ _); refine RG.go1 (k := ?_)) | ((with_reducible show DG _ _ (_ :: _) _ _ _ _ _); refine DG.go1 (k := ?_)) | with_reducible apply RG.nil | with_reducible apply W.seq | with_reducible apply W.reg | with_reducible apply W.skip | with_reducible apply W.block | with_reducible apply W.drw | with_reducible apply DG.nil | (with_reducible refine W.done (QB.n ?_))))
      rw [hs2]
      refine W.done (QL.n (⟨i + 1, by omega, by omega⟩) ?_ ?_)
      · exact Wk.rn ([] ) ( [])
      · dsimp only; omega
    · have hc2 : ¬ (0 ≤ z ∧ y < 0) := by simpa using hc
      have hs2 : runsI (l.take i) = runsI (l.take (i + 1)) := by rw [hsn, if_neg hc2]; rfl
      (repeat (first | ((with_reducible show RG _ _ (_ :: _) _ _ _); refine RG.go1 (k := ?_)) | ((with_reducible show DG _ _ (_ :: _) _ _ _ _ _); refine DG.go1 (k := ?_)) | with_reducible apply RG.nil | with_reducible apply W.seq | with_reducible apply W.reg | with_reducible apply W.skip | with_reducible apply W.block | with_reducible apply W.drw | with_reducible apply DG.nil | (with_reducible refine W.done (QB.n ?_))))
      rw [hs2]
      refine W.done (QL.n (⟨i + 1, by omega, by omega⟩) ?_ ?_)
      · exact Wk.rn ([] ) ( [])
      · dsimp only; omega
  · have hi2 : i = l.length := by omega
    have hf : l.take i = l := by rw [hi2, List.take_length]
    rw [hf]
    (repeat (first | ((with_reducible show RG _ _ (_ :: _) _ _ _); refine RG.go1 (k := ?_)) | ((with_reducible show DG _ _ (_ :: _) _ _ _ _ _); refine DG.go1 (k := ?_)) | with_reducible apply RG.nil | with_reducible apply W.seq | with_reducible apply W.reg | with_reducible apply W.skip | with_reducible apply W.block | with_reducible apply W.drw | with_reducible apply DG.nil | (with_reducible refine W.done (QB.n ?_))))
    refine W.cndF ?_
    (refine W.exit ?_; (repeat (first | (with_reducible first | refine QL.x ?_ | refine QC.x ?_ | refine QB.x ?_) | (with_reducible refine QB.o (by decide) ?_))))
    (repeat (first | ((with_reducible show RG _ _ (_ :: _) _ _ _); refine RG.go1 (k := ?_)) | ((with_reducible show DG _ _ (_ :: _) _ _ _ _ _); refine DG.go1 (k := ?_)) | with_reducible apply RG.nil | with_reducible apply W.seq | with_reducible apply W.reg | with_reducible apply W.skip | with_reducible apply W.block | with_reducible apply W.drw | with_reducible apply DG.nil | (with_reducible refine W.done (QB.n ?_))))
    (refine W.ret ?_; (repeat (with_reducible first | refine QB.r ?_ | refine QL.r ?_ | refine QC.r ?_)); refine QF.r ?_)
    exact RetOk.rs (vs := [_]) r_caravelref17_runs []
theorem tmod_neg {n : Int} (h : n < 0) : n.tmod 4294967296 = -((-n) % 4294967296) := by
  obtain ⟨m, rfl⟩ : ∃ m : Int, n = -m := ⟨-n, by omega⟩
  rw [Int.neg_tmod, Int.tmod_eq_emod_of_nonneg (by omega), Int.neg_neg]
theorem rMod_ok (n : Int) (hn : -4611686018427387904 ≤ n ∧ n ≤ 4611686018427387904) : ACall Try.prog 36 [.int .i64 n] (.int .i64 (n % 4294967296)) [] := by
  by_cases h0 : 0 ≤ n
  · refine acall_walk (N := 11) Try.func36 (by kernel_rfl) p_caravelref03_mod rfl ?_; unfold c_caravelref03_mod; dsimp only [enum, Nat.reduceAdd]
    (repeat (first | ((with_reducible show RG _ _ (_ :: _) _ _ _); refine RG.go1 (k := ?_)) | ((with_reducible show DG _ _ (_ :: _) _ _ _ _ _); refine DG.go1 (k := ?_)) | with_reducible apply RG.nil | with_reducible apply W.seq | with_reducible apply W.reg | with_reducible apply W.skip | with_reducible apply W.block | with_reducible apply W.drw | with_reducible apply DG.nil | (with_reducible refine W.done (QB.n ?_))))
    refine W.cndF ?_
    (repeat (first | ((with_reducible show RG _ _ (_ :: _) _ _ _); refine RG.go1 (k := ?_)) | ((with_reducible show DG _ _ (_ :: _) _ _ _ _ _); refine DG.go1 (k := ?_)) | with_reducible apply RG.nil | with_reducible apply W.seq | with_reducible apply W.reg | with_reducible apply W.skip | with_reducible apply W.block | with_reducible apply W.drw | with_reducible apply DG.nil | (with_reducible refine W.done (QB.n ?_))))
    (refine W.ret ?_; (repeat (with_reducible first | refine QB.r ?_ | refine QL.r ?_ | refine QC.r ?_)); refine QF.r ?_)
    exact RetOk.rs (vs := [_]) r_caravelref03_mod []
  · have ht := tmod_neg (n := n) (by omega)
    refine acall_walk (N := 11) Try.func36 (by kernel_rfl) p_caravelref03_mod rfl ?_; unfold c_caravelref03_mod; dsimp only [enum, Nat.reduceAdd]
    (repeat (first | ((with_reducible show RG _ _ (_ :: _) _ _ _); refine RG.go1 (k := ?_)) | ((with_reducible show DG _ _ (_ :: _) _ _ _ _ _); refine DG.go1 (k := ?_)) | with_reducible apply RG.nil | with_reducible apply W.seq | with_reducible apply W.reg | with_reducible apply W.skip | with_reducible apply W.block | with_reducible apply W.drw | with_reducible apply DG.nil | (with_reducible refine W.done (QB.n ?_))))
    rw [ht]
    refine W.cnd (fun hc => ?_) (fun hc => ?_)
    · (repeat (first | ((with_reducible show RG _ _ (_ :: _) _ _ _); refine RG.go1 (k := ?_)) | ((with_reducible show DG _ _ (_ :: _) _ _ _ _ _); refine DG.go1 (k := ?_)) | with_reducible apply RG.nil | with_reducible apply W.seq | with_reducible apply W.reg | with_reducible apply W.skip | with_reducible apply W.block | with_reducible apply W.drw | with_reducible apply DG.nil | (with_reducible refine W.done (QB.n ?_))))
      (refine W.ret ?_; (repeat (with_reducible first | refine QB.r ?_ | refine QL.r ?_ | refine QC.r ?_)); refine QF.r ?_)
      simp only [decide_eq_true_eq] at hc
      exact RetOk.rs (vs := [_]) r_caravelref03_mod []
    · (repeat (first | ((with_reducible show RG _ _ (_ :: _) _ _ _); refine RG.go1 (k := ?_)) | ((with_reducible show DG _ _ (_ :: _) _ _ _ _ _); refine DG.go1 (k := ?_)) | with_reducible apply RG.nil | with_reducible apply W.seq | with_reducible apply W.reg | with_reducible apply W.skip | with_reducible apply W.block | with_reducible apply W.drw | with_reducible apply DG.nil | (with_reducible refine W.done (QB.n ?_))))
      (refine W.ret ?_; (repeat (with_reducible first | refine QB.r ?_ | refine QL.r ?_ | refine QC.r ?_)); refine QF.r ?_)
      simp only [decide_eq_false_iff_not] at hc
      exact RetOk.rs (vs := [_]) r_caravelref03_mod []
theorem rAdd_ok (a n : Int) (ha : 0 ≤ a ∧ a ≤ 4294967295) (hn : 0 ≤ n ∧ n ≤ 4000000000) : ACall Try.prog 31 [.int .u32 a, .int .i64 n] (.int .u32 (sAdd a n)) [] := by
  have c := rMod_ok (a + n) (by omega)
  have h : n % 4294967296 = n := Int.emod_eq_of_lt (by omega) (by omega)
  refine acall_walk (N := 12) Try.func31 (by kernel_rfl) p_caravelref03_Add rfl ?_; unfold c_caravelref03_Add; dsimp only [enum, Nat.reduceAdd]
  (repeat (first | ((with_reducible show RG _ _ (_ :: _) _ _ _); refine RG.go1 (k := ?_)) | ((with_reducible show DG _ _ (_ :: _) _ _ _ _ _); refine DG.go1 (k := ?_)) | with_reducible apply RG.nil | with_reducible apply W.seq | with_reducible apply W.reg | with_reducible apply W.skip | with_reducible apply W.block | with_reducible apply W.drw | with_reducible apply DG.nil | (with_reducible refine W.done (QB.n ?_))))
  rw [h]
  (first | ((with_reducible show RG _ _ (_ :: _) _ _ _); refine RG.ca (c) (k := ?_)) | ((with_reducible show DG _ _ (_ :: _) _ _ _ _ _); refine DG.ca (c) (k := ?_)))
  (repeat (first | ((with_reducible show RG _ _ (_ :: _) _ _ _); refine RG.go1 (k := ?_)) | ((with_reducible show DG _ _ (_ :: _) _ _ _ _ _); refine DG.go1 (k := ?_)) | with_reducible apply RG.nil | with_reducible apply W.seq | with_reducible apply W.reg | with_reducible apply W.skip | with_reducible apply W.block | with_reducible apply W.drw | with_reducible apply DG.nil | (with_reducible refine W.done (QB.n ?_))))
  (refine W.ret ?_; (repeat (with_reducible first | refine QB.r ?_ | refine QL.r ?_ | refine QC.r ?_)); refine QF.r ?_)
  unfold sAdd
  exact RetOk.rs (vs := [_]) r_caravelref03_Add []
theorem rDiff_ok (a b : Int) (ha : 0 ≤ a ∧ a ≤ 4294967295) (hb : 0 ≤ b ∧ b ≤ 4294967295) : ACall Try.prog 28 [.int .u32 a, .int .u32 b] (.int .i64 (sDiff a b)) [] := by
  have c := rMod_ok (a - b) (by omega)
  have hm : 0 ≤ (a - b) % 4294967296 ∧ (a - b) % 4294967296 ≤ 4294967295 := by omega
  unfold sDiff
  refine acall_walk (N := 17) Try.func28 (by kernel_rfl) p_caravelref03_Diff rfl ?_; unfold c_caravelref03_Diff; dsimp only [enum, Nat.reduceAdd]
  (repeat (first | ((with_reducible show RG _ _ (_ :: _) _ _ _); refine RG.go1 (k := ?_)) | ((with_reducible show DG _ _ (_ :: _) _ _ _ _ _); refine DG.go1 (k := ?_)) | with_reducible apply RG.nil | with_reducible apply W.seq | with_reducible apply W.reg | with_reducible apply W.skip | with_reducible apply W.block | with_reducible apply W.drw | with_reducible apply DG.nil | (with_reducible refine W.done (QB.n ?_))))
  (first | ((with_reducible show RG _ _ (_ :: _) _ _ _); refine RG.ca (c) (k := ?_)) | ((with_reducible show DG _ _ (_ :: _) _ _ _ _ _); refine DG.ca (c) (k := ?_)))
  (repeat (first | ((with_reducible show RG _ _ (_ :: _) _ _ _); refine RG.go1 (k := ?_)) | ((with_reducible show DG _ _ (_ :: _) _ _ _ _ _); refine DG.go1 (k := ?_)) | with_reducible apply RG.nil | with_reducible apply W.seq | with_reducible apply W.reg | with_reducible apply W.skip | with_reducible apply W.block | with_reducible apply W.drw | with_reducible apply DG.nil | (with_reducible refine W.done (QB.n ?_))))
  refine W.cnd (fun hc => ?_) (fun hc => ?_)
  · simp only [decide_eq_true_eq] at hc
    (repeat (first | ((with_reducible show RG _ _ (_ :: _) _ _ _); refine RG.go1 (k := ?_)) | ((with_reducible show DG _ _ (_ :: _) _ _ _ _ _); refine DG.go1 (k := ?_)) | with_reducible apply RG.nil | with_reducible apply W.seq | with_reducible apply W.reg | with_reducible apply W.skip | with_reducible apply W.block | with_reducible apply W.drw | with_reducible apply DG.nil | (with_reducible refine W.done (QB.n ?_))))
    (refine W.ret ?_; (repeat (with_reducible first | refine QB.r ?_ | refine QL.r ?_ | refine QC.r ?_)); refine QF.r ?_)
    exact RetOk.rs (vs := [_]) r_caravelref03_Diff []
  · simp only [decide_eq_false_iff_not] at hc
    (repeat (first | ((with_reducible show RG _ _ (_ :: _) _ _ _); refine RG.go1 (k := ?_)) | ((with_reducible show DG _ _ (_ :: _) _ _ _ _ _); refine DG.go1 (k := ?_)) | with_reducible apply RG.nil | with_reducible apply W.seq | with_reducible apply W.reg | with_reducible apply W.skip | with_reducible apply W.block | with_reducible apply W.drw | with_reducible apply DG.nil | (with_reducible refine W.done (QB.n ?_))))
    (refine W.ret ?_; (repeat (with_reducible first | refine QB.r ?_ | refine QL.r ?_ | refine QC.r ?_)); refine QF.r ?_)
    exact RetOk.rs (vs := [_]) r_caravelref03_Diff []
end Go.Proofs.Ytmohmcgcggenfaa
