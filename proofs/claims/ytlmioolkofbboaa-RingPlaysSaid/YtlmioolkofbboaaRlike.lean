/- The document's ring: is it this one? -/
import Derived.Test.YtlmioolkofbboaaRref
namespace Go.Proofs.Ytlmioolkofbboaa
open Go.RowKit
set_option linter.unusedVariables false
set_option linter.unusedSimpArgs false
set_option maxRecDepth 100000
set_option maxHeartbeats 4000000
/-- The document's ring of a log. -/
def refOf (n : Nat) (c : Int) (L : List (List UInt8)) (b e f : Nat) : AV := rR n (L.drop b) ((L.take b).drop e) ((L.take e).drop f) ((c + L.length) % 65536)
theorem split3 (L : List (List UInt8)) {b e f : Nat} (h1 : f ≤ e) (h2 : e ≤ b) (h3 : b ≤ L.length) : (L.take e).drop f ++ (L.take b).drop e ++ L.drop b = L.drop f := by
  have k1 : (L.take b).drop e ++ L.drop b = L.drop e := by
    have : (L.take b ++ L.drop b).drop e = L.drop e := by rw [List.take_append_drop]
    rw [← this, List.drop_append_of_le_length (by simp; omega)]
  have k2 : (L.take e).drop f ++ L.drop e = L.drop f := by
    have : (L.take e ++ L.drop e).drop f = L.drop f := by rw [List.take_append_drop]
    rw [← this, List.drop_append_of_le_length (by simp; omega)]
  rw [List.append_assoc, k1, k2]
theorem like_ok {x : Rg} {n : Nat} {c : Int} {L : List (List UInt8)} {b e f : Nat} (h : Log x n c L b e f) :
    ACall Try.prog 16 [refOf n c L b e f, x.av] (.bool true) [] := by
  have hn := h.n1; have hl1 := h.l1; have hl2 := h.l2; have hl3 := h.l3; have hl4 := h.l4; have hc0 := h.c0
  have hx := h.ok
  have es : (x.s.map bs).length = n := by rw [List.length_map, h.sl]
  have ep : ((L.drop b).map AV.str).length = L.length - b := by simp
  have et : (((L.take b).drop e).map AV.str).length = b - e := by simp; omega
  have ed : (((L.take e).drop f).map AV.str).length = e - f := by simp; omega
  have hp1 := strs_pure (L.drop b)
  have hp2 := strs_pure ((L.take b).drop e)
  have hp3 := strs_pure ((L.take e).drop f)
  have h3 : (((L.take e).drop f).map AV.str ++ ((L.take b).drop e).map AV.str) ++ (L.drop b).map AV.str = (L.drop f).map AV.str := by
    rw [← List.map_append, ← List.map_append, split3 L hl1 hl2 hl3]
  have hP := h.p; have hT := h.t; have hD := h.d; have hR := h.r
  dsimp only [refOf, rR, ss]
  unfold Rg.av
  generalize (L.drop b).map AV.str = lp at ep hp1 h3 ⊢
  generalize ((L.take b).drop e).map AV.str = lt at et hp2 h3 ⊢
  generalize ((L.take e).drop f).map AV.str = ld at ed hp3 h3 ⊢
  refine acall_walk (N := 123) Try.func16 (by kernel_rfl) p_caravelref11_Like rfl ?_; unfold c_caravelref11_Like; dsimp only [enum, Nat.reduceAdd]
  (repeat (first | ((with_reducible show RG _ _ (_ :: _) _ _ _); refine RG.go1 (k := ?_)) | ((with_reducible show DG _ _ (_ :: _) _ _ _ _ _); refine DG.go1 (k := ?_)) | with_reducible apply RG.nil | with_reducible apply W.seq | with_reducible apply W.reg | with_reducible apply W.skip | with_reducible apply W.block | with_reducible apply W.drw | with_reducible apply DG.nil | (with_reducible refine W.done (QB.n ?_))))
  refine W.cndF ?_
  (repeat (first | ((with_reducible show RG _ _ (_ :: _) _ _ _); refine RG.go1 (k := ?_)) | ((with_reducible show DG _ _ (_ :: _) _ _ _ _ _); refine DG.go1 (k := ?_)) | with_reducible apply RG.nil | with_reducible apply W.seq | with_reducible apply W.reg | with_reducible apply W.skip | with_reducible apply W.block | with_reducible apply W.drw | with_reducible apply DG.nil | (with_reducible refine W.done (QB.n ?_))))
  refine W.cndF ?_
  (repeat (first | ((with_reducible show RG _ _ (_ :: _) _ _ _); refine RG.go1 (k := ?_)) | ((with_reducible show DG _ _ (_ :: _) _ _ _ _ _); refine DG.go1 (k := ?_)) | with_reducible apply RG.nil | with_reducible apply W.seq | with_reducible apply W.reg | with_reducible apply W.skip | with_reducible apply W.block | with_reducible apply W.drw | with_reducible apply DG.nil | (with_reducible refine W.done (QB.n ?_))))
  (refine W.wk (Wk.frz (b := 3) rfl rfl) ?_ (by simp); refine W.wk (Wk.tmp (t := 6) (Cl.ice rfl rfl rfl (by first | assumption | decide | omega | (simp; (first | (all_goals fail) | fail)) | (simp <;> omega)) (by first | exact take_all _ | exact take_len (by first | (simp; (first | (all_goals fail) | fail)) | (simp <;> omega)) | exact rfl))) ?_ (by simp); dsimp only [setO])
  rw [h3]
  obtain ⟨m, hm⟩ : ∃ m : Nat, f + m = L.length := ⟨L.length - f, by omega⟩
  have em : ((L.drop f).map AV.str).length = m := by simp; omega
  refine W.loop (ι := {i : Nat // i ≤ m}) (fun i => ⟨[(9, .int .i64 i.1), (8, .int .i64 i.1), (6, .sl false 1 ((L.drop f).map .str)), (7, .int .i64 ((c + f) % 65536)), (5, .int .i64 ((c + L.length) % 65536)), (2, .bptr 0 0), (3, .bptr 1 0)], [some [.int .i64 n, .sl false 1 lp, .sl false 1 lt, .sl false 1 ld, .int .i64 ((c + L.length) % 65536)], some [.sl true 1 (x.s.map bs), .int .u16 x.p, .int .u16 x.t, .int .u16 x.d, .int .u16 x.r]], [], 2, 0⟩) (fun i => m - i.1) ⟨0, Nat.zero_le _⟩ ?_ ?_
  · exact Wk.rn ([0, 1] ) ( [])
  clear h3 hp1 hp2 hp3 ep et ed hP hT hD hR
  rintro ⟨i, hi⟩
  dsimp only
  (repeat (first | ((with_reducible show RG _ _ (_ :: _) _ _ _); refine RG.go1 (k := ?_)) | ((with_reducible show DG _ _ (_ :: _) _ _ _ _ _); refine DG.go1 (k := ?_)) | with_reducible apply RG.nil | with_reducible apply W.seq | with_reducible apply W.reg | with_reducible apply W.skip | with_reducible apply W.block | with_reducible apply W.drw | with_reducible apply DG.nil | (with_reducible refine W.done (QB.n ?_))))
  refine W.cnd (fun h1 => ?_) (fun h1 => ?_)
  · have hlt : i < m := by simp at h1; omega
    have hs := hx.b
    have hsl := slot_lt hn.1 (c + (f + i : Nat))
    have q0 := h.at' (f + i) (by omega) (by omega)
    rw [getD_lt _ _ (by rw [h.sl]; exact hsl)] at q0
    have hE : (x.s.map bs)[(((c + f) % 65536 + i) % 65536 % n : Int).toNat]?.getD .any = .sl false 1 ((L.getD (f + i) []).map by8) := by
      rw [show ((c + f) % 65536 + i) % 65536 = (c + (f + i : Nat)) % 65536 by omega, mod_dvd h.nd, ← q0]
      exact at_map bs x.s _ _ (List.getElem?_eq_getElem (by rw [h.sl]; exact hsl)) rfl
    have hE2 : ((L.drop f).map AV.str)[((i : Nat) : Int).toNat]?.getD .any = .str (L.getD (f + i) []) := by
      rw [getD_lt _ _ (by omega)]; exact at_map AV.str (L.drop f) i _ (by rw [List.getElem?_drop]; exact List.getElem?_eq_getElem (by omega)) (by simp)
    have hm1 := Int.emod_lt_of_pos (((c + f) % 65536 + i) % 65536) (show (0 : Int) < n by omega)
    have hm0 := Int.emod_nonneg (((c + f) % 65536 + i) % 65536) (show (n : Int) ≠ 0 by omega)
    have hbb : (L.getD (f + i) []).length ≤ 1000000 := by rw [← q0]; exact hs _ (List.getElem_mem _)
    generalize L.getD (f + i) [] = g at hE hE2 hbb
    (repeat (first | ((with_reducible show RG _ _ (_ :: _) _ _ _); refine RG.go1 (k := ?_)) | ((with_reducible show DG _ _ (_ :: _) _ _ _ _ _); refine DG.go1 (k := ?_)) | with_reducible apply RG.nil | with_reducible apply W.seq | with_reducible apply W.reg | with_reducible apply W.skip | with_reducible apply W.block | with_reducible apply W.drw | with_reducible apply DG.nil | (with_reducible refine W.done (QB.n ?_))))
    (first | ((with_reducible show RG _ _ (_ :: _) _ _ _); refine RG.ew (cptr_of (hE) (by (conv => lhs; whnf) <;> exact rfl)) (k := ?_)) | ((with_reducible show DG _ _ (_ :: _) _ _ _ _ _); refine DG.ew (cptr_of (hE) (by (conv => lhs; whnf) <;> exact rfl)) (k := ?_)))
    (repeat (first | ((with_reducible show RG _ _ (_ :: _) _ _ _); refine RG.go1 (k := ?_)) | ((with_reducible show DG _ _ (_ :: _) _ _ _ _ _); refine DG.go1 (k := ?_)) | with_reducible apply RG.nil | with_reducible apply W.seq | with_reducible apply W.reg | with_reducible apply W.skip | with_reducible apply W.block | with_reducible apply W.drw | with_reducible apply DG.nil | (with_reducible refine W.done (QB.n ?_))))
    (first | ((with_reducible show RG _ _ (_ :: _) _ _ _); refine RG.ew (cptr_of (hE2) (by (conv => lhs; whnf) <;> exact rfl)) (k := ?_)) | ((with_reducible show DG _ _ (_ :: _) _ _ _ _ _); refine DG.ew (cptr_of (hE2) (by (conv => lhs; whnf) <;> exact rfl)) (k := ?_)))
    (repeat (first | ((with_reducible show RG _ _ (_ :: _) _ _ _); refine RG.go1 (k := ?_)) | ((with_reducible show DG _ _ (_ :: _) _ _ _ _ _); refine DG.go1 (k := ?_)) | with_reducible apply RG.nil | with_reducible apply W.seq | with_reducible apply W.reg | with_reducible apply W.skip | with_reducible apply W.block | with_reducible apply W.drw | with_reducible apply DG.nil | (with_reducible refine W.done (QB.n ?_))))
    refine W.cndF ?_
    (repeat (first | ((with_reducible show RG _ _ (_ :: _) _ _ _); refine RG.go1 (k := ?_)) | ((with_reducible show DG _ _ (_ :: _) _ _ _ _ _); refine DG.go1 (k := ?_)) | with_reducible apply RG.nil | with_reducible apply W.seq | with_reducible apply W.reg | with_reducible apply W.skip | with_reducible apply W.block | with_reducible apply W.drw | with_reducible apply DG.nil | (with_reducible refine W.done (QB.n ?_))))
    refine W.done (QL.n (⟨i + 1, by omega⟩) ?_ ?_)
    · exact Wk.rn ([0, 1] ) ( [])
    · dsimp only; omega
  have hi2 : i = m := by simp at h1; omega
  subst hi2
  (refine W.exit ?_; (repeat (first | (with_reducible first | refine QL.x ?_ | refine QC.x ?_ | refine QB.x ?_) | (with_reducible refine QB.o (by decide) ?_))))
  clear h1 em hi
  (repeat (first | ((with_reducible show RG _ _ (_ :: _) _ _ _); refine RG.go1 (k := ?_)) | ((with_reducible show DG _ _ (_ :: _) _ _ _ _ _); refine DG.go1 (k := ?_)) | with_reducible apply RG.nil | with_reducible apply W.seq | with_reducible apply W.reg | with_reducible apply W.skip | with_reducible apply W.block | with_reducible apply W.drw | with_reducible apply DG.nil | (with_reducible refine W.done (QB.n ?_))))
  refine W.loop (ι := {j : Nat // i + j ≤ n}) (fun j => ⟨[(10, .int .i64 j.1), (8, .int .i64 i), (5, .int .i64 ((c + L.length) % 65536)), (2, .bptr 0 0), (3, .bptr 1 0)], [some [.int .i64 n, .sl false 1 lp, .sl false 1 lt, .sl false 1 ld, .int .i64 ((c + L.length) % 65536)], some [.sl true 1 (x.s.map bs), .int .u16 x.p, .int .u16 x.t, .int .u16 x.d, .int .u16 x.r]], [], 2, 0⟩) (fun j => n - i - j.1) ⟨0, by omega⟩ ?_ ?_
  · exact Wk.rn ([0, 1] ) ( [])
  rintro ⟨j, hj⟩
  dsimp only
  (repeat (first | ((with_reducible show RG _ _ (_ :: _) _ _ _); refine RG.go1 (k := ?_)) | ((with_reducible show DG _ _ (_ :: _) _ _ _ _ _); refine DG.go1 (k := ?_)) | with_reducible apply RG.nil | with_reducible apply W.seq | with_reducible apply W.reg | with_reducible apply W.skip | with_reducible apply W.block | with_reducible apply W.drw | with_reducible apply DG.nil | (with_reducible refine W.done (QB.n ?_))))
  refine W.cnd (fun h1 => ?_) (fun h1 => ?_)
  · have hlt : i + j < n := by simp at h1; omega
    have hsl := slot_lt hn.1 (c + (L.length + j : Nat))
    have q0 := h.fr (L.length + j) (by omega) (by omega)
    rw [getD_lt _ _ (by rw [h.sl]; exact hsl)] at q0
    have hE : (x.s.map bs)[(((c + L.length) % 65536 + j) % 65536 % n : Int).toNat]?.getD .any = .sl false 1 [] := by
      rw [show ((c + L.length) % 65536 + j) % 65536 = (c + (L.length + j : Nat)) % 65536 by omega, mod_dvd h.nd, at_map bs x.s _ _ (List.getElem?_eq_getElem (by rw [h.sl]; exact hsl)) rfl, q0]; rfl
    have hm1 := Int.emod_lt_of_pos (((c + L.length) % 65536 + j) % 65536) (show (0 : Int) < n by omega)
    have hm0 := Int.emod_nonneg (((c + L.length) % 65536 + j) % 65536) (show (n : Int) ≠ 0 by omega)
    (repeat (first | ((with_reducible show RG _ _ (_ :: _) _ _ _); refine RG.go1 (k := ?_)) | ((with_reducible show DG _ _ (_ :: _) _ _ _ _ _); refine DG.go1 (k := ?_)) | with_reducible apply RG.nil | with_reducible apply W.seq | with_reducible apply W.reg | with_reducible apply W.skip | with_reducible apply W.block | with_reducible apply W.drw | with_reducible apply DG.nil | (with_reducible refine W.done (QB.n ?_))))
    (first | ((with_reducible show RG _ _ (_ :: _) _ _ _); refine RG.ew (cptr_of (hE) (by (conv => lhs; whnf) <;> exact rfl)) (k := ?_)) | ((with_reducible show DG _ _ (_ :: _) _ _ _ _ _); refine DG.ew (cptr_of (hE) (by (conv => lhs; whnf) <;> exact rfl)) (k := ?_)))
    (repeat (first | ((with_reducible show RG _ _ (_ :: _) _ _ _); refine RG.go1 (k := ?_)) | ((with_reducible show DG _ _ (_ :: _) _ _ _ _ _); refine DG.go1 (k := ?_)) | with_reducible apply RG.nil | with_reducible apply W.seq | with_reducible apply W.reg | with_reducible apply W.skip | with_reducible apply W.block | with_reducible apply W.drw | with_reducible apply DG.nil | (with_reducible refine W.done (QB.n ?_))))
    refine W.cndF ?_
    (repeat (first | ((with_reducible show RG _ _ (_ :: _) _ _ _); refine RG.go1 (k := ?_)) | ((with_reducible show DG _ _ (_ :: _) _ _ _ _ _); refine DG.go1 (k := ?_)) | with_reducible apply RG.nil | with_reducible apply W.seq | with_reducible apply W.reg | with_reducible apply W.skip | with_reducible apply W.block | with_reducible apply W.drw | with_reducible apply DG.nil | (with_reducible refine W.done (QB.n ?_))))
    refine W.done (QL.n (⟨j + 1, by omega⟩) ?_ ?_)
    · exact Wk.rn ([0, 1] ) ( [])
    · dsimp only; omega
  (refine W.exit ?_; (repeat (first | (with_reducible first | refine QL.x ?_ | refine QC.x ?_ | refine QB.x ?_) | (with_reducible refine QB.o (by decide) ?_))))
  (repeat (first | ((with_reducible show RG _ _ (_ :: _) _ _ _); refine RG.go1 (k := ?_)) | ((with_reducible show DG _ _ (_ :: _) _ _ _ _ _); refine DG.go1 (k := ?_)) | with_reducible apply RG.nil | with_reducible apply W.seq | with_reducible apply W.reg | with_reducible apply W.skip | with_reducible apply W.block | with_reducible apply W.drw | with_reducible apply DG.nil | (with_reducible refine W.done (QB.n ?_))))
  (refine W.ret ?_; (repeat (with_reducible first | refine QB.r ?_ | refine QL.r ?_ | refine QC.r ?_)); refine QF.r ?_)
  exact RetOk.rs (vs := [_]) r_caravelref11_Like []
end Go.Proofs.Ytlmioolkofbboaa
