/- The law's fits, and Quiet. -/
import Derived.Test.YtlmioolkofbboaaRingP
import Derived.Test.YtlmioolkofbboaaAxR
namespace Go.Proofs.Ytlmioolkofbboaa
open Go.RowKit
set_option linter.unusedVariables false
set_option linter.unusedSimpArgs false
set_option maxRecDepth 100000
set_option maxHeartbeats 4000000
/-- An op of the law. -/
def opA (o : Int × List UInt8) : AV := .agg [.int .i64 o.1, bs o.2]
def fitsB (l : List (Int × List UInt8)) : Bool := l.all (fun o => decide (o.2.length ≤ 300)) && decide (l.length ≤ 100)
theorem opA_at (l : List (Int × List UInt8)) (i : Nat) (h : i < l.length) : (l.map opA)[((i : Nat) : Int).toNat]?.getD .any = .agg [.int .i64 l[i].1, .sl false 1 (l[i].2.map by8)] := at_map opA l i _ (List.getElem?_eq_getElem h) (by simp)
theorem fits_ok (l : List (Int × List UInt8)) (hL : (l.length : Int) ≤ 9223372036854775807) : ACall Try.prog 13 [.sl true 2 (l.map opA)] (.bool (fitsB l)) [] := by
  have e : (l.map opA).length = l.length := by simp
  refine acall_walk (N := 19) Try.func13 (by kernel_rfl) p_caravellaw11_fits rfl ?_; unfold c_caravellaw11_fits; dsimp only [enum, Nat.reduceAdd]
  (repeat (first | ((with_reducible show RG _ _ (_ :: _) _ _ _); refine RG.go1 (k := ?_)) | ((with_reducible show DG _ _ (_ :: _) _ _ _ _ _); refine DG.go1 (k := ?_)) | with_reducible apply RG.nil | with_reducible apply W.seq | with_reducible apply W.reg | with_reducible apply W.skip | with_reducible apply W.block | with_reducible apply W.drw | with_reducible apply DG.nil | (with_reducible refine W.done (QB.n ?_))))
  refine W.loop (ι := {i : Nat // i ≤ l.length ∧ ∀ j : Nat, j < i → (l.getD j default).2.length ≤ 300}) (fun i => ⟨[(7, .int .i64 i.1), (6, .int .i64 l.length), (5, .sl true 2 (l.map opA)), (0, .sl true 2 (l.map opA))], [], [], 0, 0⟩) (fun i => l.length - i.1) ⟨0, Nat.zero_le _, fun j hj => absurd hj (Nat.not_lt_zero _)⟩ ?_ ?_
  · exact Wk.rn ([] ) ( [])
  rintro ⟨i, hi, hall⟩
  dsimp only
  (repeat (first | ((with_reducible show RG _ _ (_ :: _) _ _ _); refine RG.go1 (k := ?_)) | ((with_reducible show DG _ _ (_ :: _) _ _ _ _ _); refine DG.go1 (k := ?_)) | with_reducible apply RG.nil | with_reducible apply W.seq | with_reducible apply W.reg | with_reducible apply W.skip | with_reducible apply W.block | with_reducible apply W.drw | with_reducible apply DG.nil | (with_reducible refine W.done (QB.n ?_))))
  refine W.cnd (fun h1 => ?_) (fun h1 => ?_)
  · have hlt : i < l.length := by simpa using h1
    have hE := opA_at l i hlt
    have hfb : (l.getD i default).2 = l[i].2 := by rw [getD_lt _ _ hlt]
    have e2 : (l[i].2.map by8).length = l[i].2.length := by simp
    (repeat (first | ((with_reducible show RG _ _ (_ :: _) _ _ _); refine RG.go1 (k := ?_)) | ((with_reducible show DG _ _ (_ :: _) _ _ _ _ _); refine DG.go1 (k := ?_)) | with_reducible apply RG.nil | with_reducible apply W.seq | with_reducible apply W.reg | with_reducible apply W.skip | with_reducible apply W.block | with_reducible apply W.drw | with_reducible apply DG.nil | (with_reducible refine W.done (QB.n ?_))))
    (first | ((with_reducible show RG _ _ (_ :: _) _ _ _); refine RG.ew (cptr_of (hE) (by (conv => lhs; whnf) <;> exact rfl)) (k := ?_)) | ((with_reducible show DG _ _ (_ :: _) _ _ _ _ _); refine DG.ew (cptr_of (hE) (by (conv => lhs; whnf) <;> exact rfl)) (k := ?_)))
    (repeat (first | ((with_reducible show RG _ _ (_ :: _) _ _ _); refine RG.go1 (k := ?_)) | ((with_reducible show DG _ _ (_ :: _) _ _ _ _ _); refine DG.go1 (k := ?_)) | with_reducible apply RG.nil | with_reducible apply W.seq | with_reducible apply W.reg | with_reducible apply W.skip | with_reducible apply W.block | with_reducible apply W.drw | with_reducible apply DG.nil | (with_reducible refine W.done (QB.n ?_))))
    refine W.cnd (fun h2 => ?_) (fun h2 => ?_)
    · have hb : fitsB l = false := by
        simp only [decide_eq_true_eq] at h2
        unfold fitsB
        rw [Bool.and_eq_false_iff]; left
        rw [List.all_eq_false]
        exact ⟨l[i], List.getElem_mem hlt, by simp; omega⟩
      rw [hb]
      (repeat (first | ((with_reducible show RG _ _ (_ :: _) _ _ _); refine RG.go1 (k := ?_)) | ((with_reducible show DG _ _ (_ :: _) _ _ _ _ _); refine DG.go1 (k := ?_)) | with_reducible apply RG.nil | with_reducible apply W.seq | with_reducible apply W.reg | with_reducible apply W.skip | with_reducible apply W.block | with_reducible apply W.drw | with_reducible apply DG.nil | (with_reducible refine W.done (QB.n ?_))))
      (refine W.ret ?_; (repeat (with_reducible first | refine QB.r ?_ | refine QL.r ?_ | refine QC.r ?_)); refine QF.r ?_)
      exact RetOk.rs (vs := [_]) r_caravellaw11_fits []
    · (repeat (first | ((with_reducible show RG _ _ (_ :: _) _ _ _); refine RG.go1 (k := ?_)) | ((with_reducible show DG _ _ (_ :: _) _ _ _ _ _); refine DG.go1 (k := ?_)) | with_reducible apply RG.nil | with_reducible apply W.seq | with_reducible apply W.reg | with_reducible apply W.skip | with_reducible apply W.block | with_reducible apply W.drw | with_reducible apply DG.nil | (with_reducible refine W.done (QB.n ?_))))
      refine W.done (QL.n (⟨i + 1, by omega, fun j hj => by
        rcases Nat.lt_or_ge j i with q | q
        · exact hall j q
        · obtain rfl : j = i := by omega
          rw [hfb]; simp only [decide_eq_false_iff_not] at h2; omega⟩) ?_ ?_)
      · exact Wk.rn ([] ) ( [])
      · dsimp only; omega
  have hi2 : i = l.length := by simp at h1; omega
  have hb : fitsB l = decide (((l.map opA).length : Int) ≤ 100) := by
    unfold fitsB
    have : l.all (fun o => decide (o.2.length ≤ 300)) = true := by
      rw [List.all_eq_true]
      intro o ho
      obtain ⟨j, hj, rfl⟩ := List.getElem_of_mem ho
      have := hall j (by omega)
      rw [getD_lt _ _ hj] at this
      simpa using this
    rw [this, Bool.true_and, e]
    simp only [decide_eq_decide]; omega
  rw [hb]
  (refine W.exit ?_; (repeat (first | (with_reducible first | refine QL.x ?_ | refine QC.x ?_ | refine QB.x ?_) | (with_reducible refine QB.o (by decide) ?_))))
  (repeat (first | ((with_reducible show RG _ _ (_ :: _) _ _ _); refine RG.go1 (k := ?_)) | ((with_reducible show DG _ _ (_ :: _) _ _ _ _ _); refine DG.go1 (k := ?_)) | with_reducible apply RG.nil | with_reducible apply W.seq | with_reducible apply W.reg | with_reducible apply W.skip | with_reducible apply W.block | with_reducible apply W.drw | with_reducible apply DG.nil | (with_reducible refine W.done (QB.n ?_))))
  (refine W.ret ?_; (repeat (with_reducible first | refine QB.r ?_ | refine QL.r ?_ | refine QC.r ?_)); refine QF.r ?_)
  exact RetOk.rs (vs := [_]) r_caravellaw11_fits []
theorem take_snoc' {L : List (List UInt8)} {b i : Nat} (h : b + i < L.length) : ((L.drop b).take i).map bs ++ [.sl false 1 ((L.getD (b + i) []).map by8)] = ((L.drop b).take (i + 1)).map bs := by
  have h1 : i < (L.drop b).length := by simp; omega
  have := map_take_snoc bs (L.drop b) i h1
  rw [← this]
  congr 2
  rw [getD_lt _ _ h]
  simp [bs]
theorem ringQuiet_ok {x : Rg} {n : Nat} {c : Int} {L : List (List UInt8)} {b e f : Nat} (h : Log x n c L b e f) :
    ACall Try.prog 14 [x.av] (.tup [(Rg.at n x.p).fr, .sl false 1 ((L.drop b).map bs)]) [] := by
  have hn := h.n1; have hl1 := h.l1; have hl2 := h.l2; have hl3 := h.l3; have hl4 := h.l4
  have hx := h.ok
  have es : (x.s.map bs).length = n := by rw [List.length_map, h.sl]
  have cn := ringNew_ok n (by omega) h.nd
  rw [Int.toNat_natCast] at cn
  unfold Rg.av Rg.fr
  have hp := h.p
  have hat : ∀ q : Int, 0 ≤ q ∧ q < 65536 → ACall Try.prog 21 [.agg [.sl true 1 (x.s.map bs), .int .u16 x.p, .int .u16 x.t, .int .u16 x.d, .int .u16 x.r], .int .u16 q] (.int .i64 (q % n)) [] := fun q hq => by
    have := at_ok (x.s.map bs) x.p x.t x.d x.r q hq (by omega)
    rw [es] at this; exact this
  refine acall_walk (N := 48) Try.func14 (by kernel_rfl) p_ring_Quiet rfl ?_; unfold c_ring_Quiet; dsimp only [enum, Nat.reduceAdd]
  (repeat (first | ((with_reducible show RG _ _ (_ :: _) _ _ _); refine RG.go1 (k := ?_)) | ((with_reducible show DG _ _ (_ :: _) _ _ _ _ _); refine DG.go1 (k := ?_)) | with_reducible apply RG.nil | with_reducible apply W.seq | with_reducible apply W.reg | with_reducible apply W.skip | with_reducible apply W.block | with_reducible apply W.drw | with_reducible apply DG.nil | (with_reducible refine W.done (QB.n ?_))))
  refine W.wk (Wk.nilT (t := 4) 1 rfl) ?_ (by simp)
  refine W.loop (ι := {i : Nat // b + i ≤ L.length}) (fun i => ⟨[(5, .int .u16 ((c + b + i.1) % 65536)), (4, .ref 0 1 0 i.1), (1, .bptr 0 0), (2, .bptr 1 0)], [some [.sl true 1 (x.s.map bs), .int .u16 x.p, .int .u16 x.t, .int .u16 x.d, .int .u16 x.r], some [.nil, .int .u16 0, .int .u16 0, .int .u16 0, .int .u16 0]], [some ⟨false, 1, ((L.drop b).take i.1).map bs⟩], 2, 1⟩) (fun i => L.length - i.1) ⟨0, hl3⟩ ?_ ?_
  · rw [h.t]; exact Wk.rn ([0, 1] ) ( [0])
  rintro ⟨i, hi⟩
  dsimp only
  (repeat (first | ((with_reducible show RG _ _ (_ :: _) _ _ _); refine RG.go1 (k := ?_)) | ((with_reducible show DG _ _ (_ :: _) _ _ _ _ _); refine DG.go1 (k := ?_)) | with_reducible apply RG.nil | with_reducible apply W.seq | with_reducible apply W.reg | with_reducible apply W.skip | with_reducible apply W.block | with_reducible apply W.drw | with_reducible apply DG.nil | (with_reducible refine W.done (QB.n ?_))))
  refine W.cnd (fun h1 => ?_) (fun h1 => ?_)
  · rw [h.p] at h1
    have hlt : b + i < L.length := by simp at h1; omega
    have hs := hx.b
    have hsl := slot_lt hn.1 (c + (b + i : Nat))
    have hE : (x.s.map bs)[((c + b + i) % 65536 % n : Int).toNat]?.getD .any = .sl false 1 ((L.getD (b + i) []).map by8) := by
      rw [mod_dvd h.nd, show c + b + i = c + (b + i : Nat) by omega]
      have q1 := h.at' (b + i) (by omega) hlt
      rw [getD_lt _ _ (by rw [h.sl]; exact hsl)] at q1
      rw [← q1]
      exact at_map bs x.s _ _ (List.getElem?_eq_getElem (by rw [h.sl]; exact hsl)) rfl
    have hm := Int.emod_lt_of_pos ((c + b + i) % 65536) (show (0 : Int) < n by omega)
    have hm0 := Int.emod_nonneg ((c + b + i) % 65536) (show (n : Int) ≠ 0 by omega)
    have hbb : (L.getD (b + i) []).length ≤ 1000000 := by
      have q1 := h.at' (b + i) (by omega) hlt
      rw [getD_lt _ _ (by rw [h.sl]; exact hsl)] at q1
      rw [← q1]; exact hs _ (List.getElem_mem _)
    have hsn := take_snoc' hlt
    have hca := hat ((c + b + i) % 65536) (by omega)
    have cc := clone_ok ((L.getD (b + i) []).map by8) (by8_pure _) (by simpa using hbb)
    generalize (c + b + i) % 65536 % (n : Int) = sl at hm hm0 hE hca
    (repeat (first | ((with_reducible show RG _ _ (_ :: _) _ _ _); refine RG.go1 (k := ?_)) | ((with_reducible show DG _ _ (_ :: _) _ _ _ _ _); refine DG.go1 (k := ?_)) | with_reducible apply RG.nil | with_reducible apply W.seq | with_reducible apply W.reg | with_reducible apply W.skip | with_reducible apply W.block | with_reducible apply W.drw | with_reducible apply DG.nil | (with_reducible refine W.done (QB.n ?_))))
    (first | ((with_reducible show RG _ _ (_ :: _) _ _ _); refine RG.ca (hca) (k := ?_)) | ((with_reducible show DG _ _ (_ :: _) _ _ _ _ _); refine DG.ca (hca) (k := ?_)))
    (repeat (first | ((with_reducible show RG _ _ (_ :: _) _ _ _); refine RG.go1 (k := ?_)) | ((with_reducible show DG _ _ (_ :: _) _ _ _ _ _); refine DG.go1 (k := ?_)) | with_reducible apply RG.nil | with_reducible apply W.seq | with_reducible apply W.reg | with_reducible apply W.skip | with_reducible apply W.block | with_reducible apply W.drw | with_reducible apply DG.nil | (with_reducible refine W.done (QB.n ?_))))
    (first | ((with_reducible show RG _ _ (_ :: _) _ _ _); refine RG.ew (cptr_of (hE) (by (conv => lhs; whnf) <;> exact rfl)) (k := ?_)) | ((with_reducible show DG _ _ (_ :: _) _ _ _ _ _); refine DG.ew (cptr_of (hE) (by (conv => lhs; whnf) <;> exact rfl)) (k := ?_)))
    (repeat (first | ((with_reducible show RG _ _ (_ :: _) _ _ _); refine RG.go1 (k := ?_)) | ((with_reducible show DG _ _ (_ :: _) _ _ _ _ _); refine DG.go1 (k := ?_)) | with_reducible apply RG.nil | with_reducible apply W.seq | with_reducible apply W.reg | with_reducible apply W.skip | with_reducible apply W.block | with_reducible apply W.drw | with_reducible apply DG.nil | (with_reducible refine W.done (QB.n ?_))))
    (first | ((with_reducible show RG _ _ (_ :: _) _ _ _); refine RG.ca (cc) (k := ?_)) | ((with_reducible show DG _ _ (_ :: _) _ _ _ _ _); refine DG.ca (cc) (k := ?_)))
    (repeat (first | ((with_reducible show RG _ _ (_ :: _) _ _ _); refine RG.go1 (k := ?_)) | ((with_reducible show DG _ _ (_ :: _) _ _ _ _ _); refine DG.go1 (k := ?_)) | with_reducible apply RG.nil | with_reducible apply W.seq | with_reducible apply W.reg | with_reducible apply W.skip | with_reducible apply W.block | with_reducible apply W.drw | with_reducible apply DG.nil | (with_reducible refine W.done (QB.n ?_))))
    rw [hsn]
    refine W.done (QL.n (⟨i + 1, by omega⟩) ?_ ?_)
    · have e5 : ((c + b + i) % 65536 + 1) % 65536 = (c + b + (i + 1 : Nat)) % 65536 := by omega
      rw [e5]
      exact Wk.rn ([0, 1] ) ( [3])
    · dsimp only; omega
  · rw [h.p] at h1
    have hi' : b + i = L.length := by simp at h1; omega
    have ht : (L.drop b).take i = L.drop b := List.take_of_length_le (by simp; omega)
    rw [ht]
    (refine W.exit ?_; (repeat (first | (with_reducible first | refine QL.x ?_ | refine QC.x ?_ | refine QB.x ?_) | (with_reducible refine QB.o (by decide) ?_))))
    (repeat (first | ((with_reducible show RG _ _ (_ :: _) _ _ _); refine RG.go1 (k := ?_)) | ((with_reducible show DG _ _ (_ :: _) _ _ _ _ _); refine DG.go1 (k := ?_)) | with_reducible apply RG.nil | with_reducible apply W.seq | with_reducible apply W.reg | with_reducible apply W.skip | with_reducible apply W.block | with_reducible apply W.drw | with_reducible apply DG.nil | (with_reducible refine W.done (QB.n ?_))))
    (first | ((with_reducible show RG _ _ (_ :: _) _ _ _); refine RG.ca (cn) (k := ?_)) | ((with_reducible show DG _ _ (_ :: _) _ _ _ _ _); refine DG.ca (cn) (k := ?_)))
    (repeat (first | ((with_reducible show RG _ _ (_ :: _) _ _ _); refine RG.go1 (k := ?_)) | ((with_reducible show DG _ _ (_ :: _) _ _ _ _ _); refine DG.go1 (k := ?_)) | with_reducible apply RG.nil | with_reducible apply W.seq | with_reducible apply W.reg | with_reducible apply W.skip | with_reducible apply W.block | with_reducible apply W.drw | with_reducible apply DG.nil | (with_reducible refine W.done (QB.n ?_))))
    (refine W.ret ?_; (repeat (with_reducible first | refine QB.r ?_ | refine QL.r ?_ | refine QC.r ?_)); refine QF.r ?_)
    (refine RetOk.wk (Wk.frz (b := 0) rfl rfl) ?_; refine RetOk.wk (Wk.tmp (t := 3) (Cl.ice rfl rfl rfl (by first | assumption | decide | omega | (simp; (first | (all_goals fail) | fail)) | (simp <;> omega)) (by first | exact take_all _ | exact take_len (by first | (simp; (first | (all_goals fail) | fail)) | (simp <;> omega)) | exact rfl))) ?_; dsimp only [setO])
    exact RetOk.rs (vs := [_, _]) r_ring_Quiet []
end Go.Proofs.Ytlmioolkofbboaa
