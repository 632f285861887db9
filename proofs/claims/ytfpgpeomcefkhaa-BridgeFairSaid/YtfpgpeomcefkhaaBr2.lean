/- What bridge.learn computes. -/
import Derived.Test.YtfpgpeomcefkhaaBr1
namespace Go.Proofs.Ytfpgpeomcefkhaa
open Go.RowKit
set_option linter.unusedVariables false
set_option linter.unusedSimpArgs false
set_option maxRecDepth 100000
set_option maxHeartbeats 4000000
theorem lrClip_ok (es : List AV) : ACall Try.prog 25 [.sl false 7 es] (.csl false 7 es) [] := by
  have hcut : (es.take (es.length : Int).toNat).drop (0 : Int).toNat = es := by simp
  refine acall_walk (N := 9) Try.func25 (by kernel_rfl) p_slices_Clip__caravel_api_Learnt_caravel_api_Learnt rfl ?_; unfold c_slices_Clip__caravel_api_Learnt_caravel_api_Learnt; dsimp only [enum, Nat.reduceAdd]
  (repeat (first | ((with_reducible show RG _ _ (_ :: _) _ _ _); refine RG.go1 (k := ?_)) | ((with_reducible show DG _ _ (_ :: _) _ _ _ _ _); refine DG.go1 (k := ?_)) | with_reducible apply RG.nil | with_reducible apply W.seq | with_reducible apply W.reg | with_reducible apply W.skip | with_reducible apply W.block | with_reducible apply W.drw | with_reducible apply DG.nil | (with_reducible refine W.done (QB.n ?_))))
  (first | ((with_reducible show RG _ _ (_ :: _) _ _ _); refine RG.ew ((show AV.csl false 7 ((es.take (es.length : Int).toNat).drop (0 : Int).toNat) = AV.csl false 7 es by rw [hcut])) (k := ?_)) | ((with_reducible show DG _ _ (_ :: _) _ _ _ _ _); refine DG.ew ((show AV.csl false 7 ((es.take (es.length : Int).toNat).drop (0 : Int).toNat) = AV.csl false 7 es by rw [hcut])) (k := ?_)))
  (repeat (first | ((with_reducible show RG _ _ (_ :: _) _ _ _); refine RG.go1 (k := ?_)) | ((with_reducible show DG _ _ (_ :: _) _ _ _ _ _); refine DG.go1 (k := ?_)) | with_reducible apply RG.nil | with_reducible apply W.seq | with_reducible apply W.reg | with_reducible apply W.skip | with_reducible apply W.block | with_reducible apply W.drw | with_reducible apply DG.nil | (with_reducible refine W.done (QB.n ?_))))
  (refine W.ret ?_; (repeat (with_reducible first | refine QB.r ?_ | refine QL.r ?_ | refine QC.r ?_)); refine QF.r ?_)
  exact RetOk.rs (vs := [_]) r_slices_Clip__caravel_api_Learnt_caravel_api_Learnt []
def bout (l : List Lrn) (m : Mac) : List Lrn := l.filter fun x => !m.is x
def btail (k : List Lrn) : List Lrn := if 16 ≤ k.length then k.drop 1 else k
def blearn (l : List Lrn) (m : Mac) (p : Int) : List Lrn := btail (bout l m) ++ [⟨m.a0, m.a1, m.a2, m.a3, m.a4, m.a5, p⟩]
theorem bLearn_ok (np : Int) (l : List Lrn) (hl : l.length ≤ 400000) (m : Mac) (p : Int) : ACall Try.prog 19 [.agg [.int .i64 np, .sl true 7 (l.map lrn)], .agg m.l, .int .i64 p] (.agg [.int .i64 np, .sl false 7 ((blearn l m p).map lrn)]) [] := by
  have cc := lrClone_ok l (by omega)
  have cd := lrDel_ok l (by omega) 24 m.a0 m.a1 m.a2 m.a3 m.a4 m.a5 m.is fun x _ => learn1_ok x m
  have ck := lrClip_ok
  have el := lr_len l
  have hol : (bout l m).length ≤ l.length := List.length_filter_le _ _
  rw [show (l.filter fun x => !m.is x) = bout l m from rfl] at cd
  unfold blearn
  generalize bout l m = k at *
  have elk := lr_len k
  have hsn : (btail k ++ [(⟨m.a0, m.a1, m.a2, m.a3, m.a4, m.a5, p⟩ : Lrn)]).map lrn = (btail k).map lrn ++ [.agg [.int .u8 m.a0, .int .u8 m.a1, .int .u8 m.a2, .int .u8 m.a3, .int .u8 m.a4, .int .u8 m.a5, .int .i64 p]] := by simp [lrn]
  rw [hsn]
  have hbt : (btail k).length ≤ k.length := by unfold btail; split <;> simp
  have ebt := lr_len (btail k)
  have epp := lr_pure (btail k)
  unfold Mac.l
  refine acall_walk (N := 27) Try.func19 (by kernel_rfl) p_bridge_learn rfl ?_; unfold c_bridge_learn; dsimp only [enum, Nat.reduceAdd]
  (repeat (first | ((with_reducible show RG _ _ (_ :: _) _ _ _); refine RG.go1 (k := ?_)) | ((with_reducible show DG _ _ (_ :: _) _ _ _ _ _); refine DG.go1 (k := ?_)) | with_reducible apply RG.nil | with_reducible apply W.seq | with_reducible apply W.reg | with_reducible apply W.skip | with_reducible apply W.block | with_reducible apply W.drw | with_reducible apply DG.nil | (with_reducible refine W.done (QB.n ?_))))
  (first | ((with_reducible show RG _ _ (_ :: _) _ _ _); refine RG.ca (cc) (k := ?_)) | ((with_reducible show DG _ _ (_ :: _) _ _ _ _ _); refine DG.ca (cc) (k := ?_)))
  (repeat (first | ((with_reducible show RG _ _ (_ :: _) _ _ _); refine RG.go1 (k := ?_)) | ((with_reducible show DG _ _ (_ :: _) _ _ _ _ _); refine DG.go1 (k := ?_)) | with_reducible apply RG.nil | with_reducible apply W.seq | with_reducible apply W.reg | with_reducible apply W.skip | with_reducible apply W.block | with_reducible apply W.drw | with_reducible apply DG.nil | (with_reducible refine W.done (QB.n ?_))))
  (refine RG.mca ([]) ([1]) (cd) (k := ?_))
  (repeat (first | ((with_reducible show RG _ _ (_ :: _) _ _ _); refine RG.go1 (k := ?_)) | ((with_reducible show DG _ _ (_ :: _) _ _ _ _ _); refine DG.go1 (k := ?_)) | with_reducible apply RG.nil | with_reducible apply W.seq | with_reducible apply W.reg | with_reducible apply W.skip | with_reducible apply W.block | with_reducible apply W.drw | with_reducible apply DG.nil | (with_reducible refine W.done (QB.n ?_))))
  refine W.cnd (fun h => ?_) (fun h => ?_)
  · have hk16 : 16 ≤ k.length := by simp at h; omega
    have e1 : (k.map lrn).drop 1 = (btail k).map lrn := by unfold btail; rw [if_pos hk16, List.map_drop]
    (repeat (first | ((with_reducible show RG _ _ (_ :: _) _ _ _); refine RG.go1 (k := ?_)) | ((with_reducible show DG _ _ (_ :: _) _ _ _ _ _); refine DG.go1 (k := ?_)) | with_reducible apply RG.nil | with_reducible apply W.seq | with_reducible apply W.reg | with_reducible apply W.skip | with_reducible apply W.block | with_reducible apply W.drw | with_reducible apply DG.nil | (with_reducible refine W.done (QB.n ?_))))
    (first | ((with_reducible show RG _ _ (_ :: _) _ _ _); refine RG.ew ((show AV.ref 1 7 (0 + (1 : Int).toNat) ((k.length : Int) - 1).toNat = AV.ref 1 7 1 (k.length - 1) by congr 1; omega)) (k := ?_)) | ((with_reducible show DG _ _ (_ :: _) _ _ _ _ _); refine DG.ew ((show AV.ref 1 7 (0 + (1 : Int).toNat) ((k.length : Int) - 1).toNat = AV.ref 1 7 1 (k.length - 1) by congr 1; omega)) (k := ?_)))
    (repeat (first | ((with_reducible show RG _ _ (_ :: _) _ _ _); refine RG.go1 (k := ?_)) | ((with_reducible show DG _ _ (_ :: _) _ _ _ _ _); refine DG.go1 (k := ?_)) | with_reducible apply RG.nil | with_reducible apply DG.nil))
    (refine W.wk (Wk.frz (b := 1) rfl rfl) ?_ (by simp); refine W.wk (Wk.tmp (t := 7) (Cl.ice rfl rfl rfl (by first | assumption | decide | omega | (simp; (first | (all_goals fail) | fail)) | (simp <;> omega)) (by first | exact take_all _ | exact take_len (by first | (simp; (first | (all_goals fail) | fail)) | (simp <;> omega)) | exact rfl))) ?_ (by simp); dsimp only [setO])
    rw [e1]
    (repeat (first | ((with_reducible show RG _ _ (_ :: _) _ _ _); refine RG.go1 (k := ?_)) | ((with_reducible show DG _ _ (_ :: _) _ _ _ _ _); refine DG.go1 (k := ?_)) | with_reducible apply RG.nil | with_reducible apply W.seq | with_reducible apply W.reg | with_reducible apply W.skip | with_reducible apply W.block | with_reducible apply W.drw | with_reducible apply DG.nil | (with_reducible refine W.done (QB.n ?_))))
    (first | ((with_reducible show RG _ _ (_ :: _) _ _ _); refine RG.ca (ck ((btail k).map lrn)) (k := ?_)) | ((with_reducible show DG _ _ (_ :: _) _ _ _ _ _); refine DG.ca (ck ((btail k).map lrn)) (k := ?_)))
    (repeat (first | ((with_reducible show RG _ _ (_ :: _) _ _ _); refine RG.go1 (k := ?_)) | ((with_reducible show DG _ _ (_ :: _) _ _ _ _ _); refine DG.go1 (k := ?_)) | with_reducible apply RG.nil | with_reducible apply W.seq | with_reducible apply W.reg | with_reducible apply W.skip | with_reducible apply W.block | with_reducible apply W.drw | with_reducible apply DG.nil | (with_reducible refine W.done (QB.n ?_))))
    (refine W.ret ?_; (repeat (with_reducible first | refine QB.r ?_ | refine QL.r ?_ | refine QC.r ?_)); refine QF.r ?_)
    (refine RetOk.wk (Wk.frz (b := 2) rfl rfl) ?_; refine RetOk.wk (Wk.box (b := 1) (cs' := [_, _]) rfl (by dsimp only [ClL]; (repeat' (first | exact True.intro | exact Cl.ice rfl rfl rfl (by first | assumption | decide | omega | (simp; (first | (all_goals fail) | fail)) | (simp <;> omega)) (by first | exact take_all _ | exact take_len (by first | (simp; (first | (all_goals fail) | fail)) | (simp <;> omega)) | exact rfl) | exact Cl.le (.refl _) | apply And.intro)); (first | (all_goals fail) | fail))) ?_; dsimp only [setO])
    exact RetOk.rs (vs := [_]) r_bridge_learn []
  · have hk16 : ¬ 16 ≤ k.length := by simp at h; omega
    have e1 : k.map lrn = (btail k).map lrn := by unfold btail; rw [if_neg hk16]
    (refine W.wk (Wk.frz (b := 1) rfl rfl) ?_ (by simp); refine W.wk (Wk.tmp (t := 7) (Cl.ice rfl rfl rfl (by first | assumption | decide | omega | (simp; (first | (all_goals fail) | fail)) | (simp <;> omega)) (by first | exact take_all _ | exact take_len (by first | (simp; (first | (all_goals fail) | fail)) | (simp <;> omega)) | exact rfl))) ?_ (by simp); dsimp only [setO])
    rw [e1]
    (repeat (first | ((with_reducible show RG _ _ (_ :: _) _ _ _); refine RG.go1 (k := ?_)) | ((with_reducible show DG _ _ (_ :: _) _ _ _ _ _); refine DG.go1 (k := ?_)) | with_reducible apply RG.nil | with_reducible apply W.seq | with_reducible apply W.reg | with_reducible apply W.skip | with_reducible apply W.block | with_reducible apply W.drw | with_reducible apply DG.nil | (with_reducible refine W.done (QB.n ?_))))
    (first | ((with_reducible show RG _ _ (_ :: _) _ _ _); refine RG.ca (ck ((btail k).map lrn)) (k := ?_)) | ((with_reducible show DG _ _ (_ :: _) _ _ _ _ _); refine DG.ca (ck ((btail k).map lrn)) (k := ?_)))
    (repeat (first | ((with_reducible show RG _ _ (_ :: _) _ _ _); refine RG.go1 (k := ?_)) | ((with_reducible show DG _ _ (_ :: _) _ _ _ _ _); refine DG.go1 (k := ?_)) | with_reducible apply RG.nil | with_reducible apply W.seq | with_reducible apply W.reg | with_reducible apply W.skip | with_reducible apply W.block | with_reducible apply W.drw | with_reducible apply DG.nil | (with_reducible refine W.done (QB.n ?_))))
    (refine W.ret ?_; (repeat (with_reducible first | refine QB.r ?_ | refine QL.r ?_ | refine QC.r ?_)); refine QF.r ?_)
    (refine RetOk.wk (Wk.frz (b := 2) rfl rfl) ?_; refine RetOk.wk (Wk.box (b := 1) (cs' := [_, _]) rfl (by dsimp only [ClL]; (repeat' (first | exact True.intro | exact Cl.ice rfl rfl rfl (by first | assumption | decide | omega | (simp; (first | (all_goals fail) | fail)) | (simp <;> omega)) (by first | exact take_all _ | exact take_len (by first | (simp; (first | (all_goals fail) | fail)) | (simp <;> omega)) | exact rfl) | exact Cl.le (.refl _) | apply And.intro)); (first | (all_goals fail) | fail))) ?_; dsimp only [setO])
    exact RetOk.rs (vs := [_]) r_bridge_learn []
end Go.Proofs.Ytfpgpeomcefkhaa
