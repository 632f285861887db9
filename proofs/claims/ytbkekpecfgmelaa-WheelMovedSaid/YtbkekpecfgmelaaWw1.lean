/- What wheel's functions compute: Clone, Stop, Due, Tick. -/
import Derived.Test.YtbkekpecfgmelaaWs2
namespace Go.Proofs.Ytbkekpecfgmelaa
open Go.RowKit
set_option linter.unusedVariables false
set_option linter.unusedSimpArgs false
set_option maxRecDepth 100000
set_option maxHeartbeats 4000000
def wv (v : Bool) (now : Int) (l : List Tmr) : AV := .agg [.int .u64 now, .sl v 2 (l.map tmr)]
theorem wClone_ok (now : Int) (l : List Tmr) (hl : l.length ≤ 500000) : ACall Try.prog 13 [wv true now l] (.agg [.int .u64 now, .ref 0 2 0 l.length]) [⟨false, 2, l.map tmr⟩] := by
  have cc := tlClone_ok l (by omega)
  unfold wv
  refine acall_walk (N := 9) Try.func13 (by kernel_rfl) p_wheel_Clone rfl ?_; unfold c_wheel_Clone; dsimp only [enum, Nat.reduceAdd]
  (repeat (first | ((with_reducible show RG _ _ (_ :: _) _ _ _); refine RG.go1 (k := ?_)) | ((with_reducible show DG _ _ (_ :: _) _ _ _ _ _); refine DG.go1 (k := ?_)) | with_reducible apply RG.nil | with_reducible apply W.seq | with_reducible apply W.reg | with_reducible apply W.skip | with_reducible apply W.block | with_reducible apply W.drw | with_reducible apply DG.nil | (with_reducible refine W.done (QB.n ?_))))
  (first | ((with_reducible show RG _ _ (_ :: _) _ _ _); refine RG.ca (cc) (k := ?_)) | ((with_reducible show DG _ _ (_ :: _) _ _ _ _ _); refine DG.ca (cc) (k := ?_)))
  (repeat (first | ((with_reducible show RG _ _ (_ :: _) _ _ _); refine RG.go1 (k := ?_)) | ((with_reducible show DG _ _ (_ :: _) _ _ _ _ _); refine DG.go1 (k := ?_)) | with_reducible apply RG.nil | with_reducible apply W.seq | with_reducible apply W.reg | with_reducible apply W.skip | with_reducible apply W.block | with_reducible apply W.drw | with_reducible apply DG.nil | (with_reducible refine W.done (QB.n ?_))))
  (refine W.ret ?_; (repeat (with_reducible first | refine QB.r ?_ | refine QL.r ?_ | refine QC.r ?_)); refine QF.r ?_)
  exact RetOk.rs (vs := [_]) r_wheel_Clone [0]
theorem wCloneF_ok (now : Int) (l : List Tmr) (hl : l.length ≤ 500000) : ACall Try.prog 13 [wv true now l] (wv false now l) [] := by
  have cc := tlClone_ok l (by omega)
  have el := tl_len l
  unfold wv
  refine acall_walk (N := 9) Try.func13 (by kernel_rfl) p_wheel_Clone rfl ?_; unfold c_wheel_Clone; dsimp only [enum, Nat.reduceAdd]
  (repeat (first | ((with_reducible show RG _ _ (_ :: _) _ _ _); refine RG.go1 (k := ?_)) | ((with_reducible show DG _ _ (_ :: _) _ _ _ _ _); refine DG.go1 (k := ?_)) | with_reducible apply RG.nil | with_reducible apply W.seq | with_reducible apply W.reg | with_reducible apply W.skip | with_reducible apply W.block | with_reducible apply W.drw | with_reducible apply DG.nil | (with_reducible refine W.done (QB.n ?_))))
  (first | ((with_reducible show RG _ _ (_ :: _) _ _ _); refine RG.ca (cc) (k := ?_)) | ((with_reducible show DG _ _ (_ :: _) _ _ _ _ _); refine DG.ca (cc) (k := ?_)))
  (repeat (first | ((with_reducible show RG _ _ (_ :: _) _ _ _); refine RG.go1 (k := ?_)) | ((with_reducible show DG _ _ (_ :: _) _ _ _ _ _); refine DG.go1 (k := ?_)) | with_reducible apply RG.nil | with_reducible apply W.seq | with_reducible apply W.reg | with_reducible apply W.skip | with_reducible apply W.block | with_reducible apply W.drw | with_reducible apply DG.nil | (with_reducible refine W.done (QB.n ?_))))
  (refine W.ret ?_; (repeat (with_reducible first | refine QB.r ?_ | refine QL.r ?_ | refine QC.r ?_)); refine QF.r ?_)
  (refine RetOk.wk (Wk.frz (b := 0) rfl rfl) ?_; refine RetOk.wk (Wk.box (b := 1) (cs' := [_, _]) rfl (by dsimp only [ClL]; (repeat' (first | exact True.intro | exact Cl.ice rfl rfl rfl (by first | assumption | decide | omega | (simp; (first | (all_goals fail) | fail)) | (simp <;> omega)) (by first | exact take_all _ | exact take_len (by first | (simp; (first | (all_goals fail) | fail)) | (simp <;> omega)) | exact rfl) | exact Cl.le (.refl _) | apply And.intro)); (first | (all_goals fail) | fail))) ?_; dsimp only [setO])
  exact RetOk.rs (vs := [_]) r_wheel_Clone []
theorem stop1_ok (x : Tmr) (id : Int) : ACall Try.prog 20 [.agg [.int .i64 x.id, .int .u64 x.at_], .cptr true [.int .i64 id]] (.bool (decide (x.id = id))) [] := by
  refine acall_walk (N := 8) Try.func20 (by kernel_rfl) p_wheel_Stop_1 rfl ?_; unfold c_wheel_Stop_1; dsimp only [enum, Nat.reduceAdd]
  (repeat (first | ((with_reducible show RG _ _ (_ :: _) _ _ _); refine RG.go1 (k := ?_)) | ((with_reducible show DG _ _ (_ :: _) _ _ _ _ _); refine DG.go1 (k := ?_)) | with_reducible apply RG.nil | with_reducible apply W.seq | with_reducible apply W.reg | with_reducible apply W.skip | with_reducible apply W.block | with_reducible apply W.drw | with_reducible apply DG.nil | (with_reducible refine W.done (QB.n ?_))))
  (refine W.ret ?_; (repeat (with_reducible first | refine QB.r ?_ | refine QL.r ?_ | refine QC.r ?_)); refine QF.r ?_)
  exact RetOk.rs (vs := [_]) r_wheel_Stop_1 []
def wout (l : List Tmr) (id : Int) : List Tmr := l.filter fun x => !decide (x.id = id)
theorem wout_len (l : List Tmr) (id : Int) : (wout l id).length ≤ l.length := List.length_filter_le _ _
theorem wStop_ok (now : Int) (l : List Tmr) (hl : l.length ≤ 500000) (id : Int) : ACall Try.prog 8 [wv true now l, .int .i64 id] (.tup [.agg [.int .u64 now, .ref 0 2 0 (wout l id).length], .bool (decide ((wout l id).length < l.length))]) [⟨false, 2, (wout l id).map tmr⟩] := by
  have cc := wClone_ok now l hl
  have cd := tlDel_ok l (by omega) 20 id (fun x => decide (x.id = id)) fun x _ => stop1_ok x id
  have el := tl_len l
  rw [show (l.filter fun x => !decide (x.id = id)) = wout l id from rfl] at cd
  have hol := wout_len l id
  generalize wout l id = m at *
  have hb : (decide ((m.length : Int) < (l.length : Int))) = decide (m.length < l.length) := by congr 1; apply propext; omega
  unfold wv at cc ⊢
  refine acall_walk (N := 22) Try.func8 (by kernel_rfl) p_wheel_Stop rfl ?_; unfold c_wheel_Stop; dsimp only [enum, Nat.reduceAdd]
  (repeat (first | ((with_reducible show RG _ _ (_ :: _) _ _ _); refine RG.go1 (k := ?_)) | ((with_reducible show DG _ _ (_ :: _) _ _ _ _ _); refine DG.go1 (k := ?_)) | with_reducible apply RG.nil | with_reducible apply W.seq | with_reducible apply W.reg | with_reducible apply W.skip | with_reducible apply W.block | with_reducible apply W.drw | with_reducible apply DG.nil | (with_reducible refine W.done (QB.n ?_))))
  (first | ((with_reducible show RG _ _ (_ :: _) _ _ _); refine RG.ca (cc) (k := ?_)) | ((with_reducible show DG _ _ (_ :: _) _ _ _ _ _); refine DG.ca (cc) (k := ?_)))
  (repeat (first | ((with_reducible show RG _ _ (_ :: _) _ _ _); refine RG.go1 (k := ?_)) | ((with_reducible show DG _ _ (_ :: _) _ _ _ _ _); refine DG.go1 (k := ?_)) | with_reducible apply RG.nil | with_reducible apply W.seq | with_reducible apply W.reg | with_reducible apply W.skip | with_reducible apply W.block | with_reducible apply W.drw | with_reducible apply DG.nil | (with_reducible refine W.done (QB.n ?_))))
  (refine RG.mca ([]) ([0]) (cd) (k := ?_))
  (repeat (first | ((with_reducible show RG _ _ (_ :: _) _ _ _); refine RG.go1 (k := ?_)) | ((with_reducible show DG _ _ (_ :: _) _ _ _ _ _); refine DG.go1 (k := ?_)) | with_reducible apply RG.nil | with_reducible apply W.seq | with_reducible apply W.reg | with_reducible apply W.skip | with_reducible apply W.block | with_reducible apply W.drw | with_reducible apply DG.nil | (with_reducible refine W.done (QB.n ?_))))
  (refine W.ret ?_; (repeat (with_reducible first | refine QB.r ?_ | refine QL.r ?_ | refine QC.r ?_)); refine QF.r ?_)
  rw [el, hb]
  exact RetOk.rs (vs := [_, _]) r_wheel_Stop [0]
