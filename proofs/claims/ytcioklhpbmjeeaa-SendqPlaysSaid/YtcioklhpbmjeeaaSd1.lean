/- What sendq's functions compute: on the record's parts. -/
import Derived.Test.YtcioklhpbmjeeaaSnd
import Derived.Test.YtcioklhpbmjeeaaAxS
namespace Go.Proofs.Ytcioklhpbmjeeaa
open Go.RowKit
set_option linter.unusedVariables false
set_option linter.unusedSimpArgs false
set_option maxRecDepth 100000
set_option maxHeartbeats 4000000
def qA (v : Bool) (u : Int) (d : List UInt8) (o : Nat) (e es ea : Bool) : AV := .agg [.int .u32 u, .sl v 1 (d.map by8), .int .i64 o, .bool e, .bool es, .bool ea]
theorem seqAdd_ok (a n : Int) : ACall Try.prog 25 [.int .u32 a, .int .i64 n] (.int .u32 (sAdd a n)) [] := by
  have h : (a + n % 4294967296) % 4294967296 = sAdd a n := by unfold sAdd; omega
  refine acall_walk (N := 9) Try.func25 (by kernel_rfl) p_seq_Add rfl ?_; unfold c_seq_Add; dsimp only [enum, Nat.reduceAdd]
  (repeat (first | ((with_reducible show RG _ _ (_ :: _) _ _ _); refine RG.go1 (k := ?_)) | ((with_reducible show DG _ _ (_ :: _) _ _ _ _ _); refine DG.go1 (k := ?_)) | with_reducible apply RG.nil | with_reducible apply W.seq | with_reducible apply W.reg | with_reducible apply W.skip | with_reducible apply W.block | with_reducible apply W.drw | with_reducible apply DG.nil | (with_reducible refine W.done (QB.n ?_))))
  (refine W.ret ?_; (repeat (first | refine QB.r ?_ | refine QL.r ?_ | refine QC.r ?_)); refine QF.r ?_)
  rw [h]
  exact RetOk.rs (vs := [_]) r_seq_Add []
theorem seqDiff_ok (a n : Int) : ACall Try.prog 27 [.int .u32 a, .int .u32 n] (.int .i64 (sDiff a n)) [] := by
  have h : ((a - n) % 4294967296 + 2147483648) % 4294967296 - 2147483648 = sDiff a n := by unfold sDiff; omega
  refine acall_walk (N := 10) Try.func27 (by kernel_rfl) p_seq_Diff rfl ?_; unfold c_seq_Diff; dsimp only [enum, Nat.reduceAdd]
  (repeat (first | ((with_reducible show RG _ _ (_ :: _) _ _ _); refine RG.go1 (k := ?_)) | ((with_reducible show DG _ _ (_ :: _) _ _ _ _ _); refine DG.go1 (k := ?_)) | with_reducible apply RG.nil | with_reducible apply W.seq | with_reducible apply W.reg | with_reducible apply W.skip | with_reducible apply W.block | with_reducible apply W.drw | with_reducible apply DG.nil | (with_reducible refine W.done (QB.n ?_))))
  (refine W.ret ?_; (repeat (first | refine QB.r ?_ | refine QL.r ?_ | refine QC.r ?_)); refine QF.r ?_)
  rw [h]
  exact RetOk.rs (vs := [_]) r_seq_Diff []
theorem qNew_ok (u : Int) : ACall Try.prog 11 [.int .u32 u] (qA false u [] 0 false false false) [] := by
  unfold qA
  refine acall_walk (N := 5) Try.func11 (by kernel_rfl) p_sendq_New rfl ?_; unfold c_sendq_New; dsimp only [enum, Nat.reduceAdd]
  (repeat (first | ((with_reducible show RG _ _ (_ :: _) _ _ _); refine RG.go1 (k := ?_)) | ((with_reducible show DG _ _ (_ :: _) _ _ _ _ _); refine DG.go1 (k := ?_)) | with_reducible apply RG.nil | with_reducible apply W.seq | with_reducible apply W.reg | with_reducible apply W.skip | with_reducible apply W.block | with_reducible apply W.drw | with_reducible apply DG.nil | (with_reducible refine W.done (QB.n ?_))))
  (refine W.ret ?_; (repeat (first | refine QB.r ?_ | refine QL.r ?_ | refine QC.r ?_)); refine QF.r ?_)
  exact RetOk.rs (vs := [_]) r_sendq_New []
section
variable (u : Int) (d : List UInt8) (o : Nat) (e es ea : Bool) (hu : 0 ≤ u ∧ u ≤ 4294967295) (hd : d.length ≤ 100000) (ho : o ≤ d.length)
include hd
theorem qClone_ok : ACall Try.prog 24 [qA true u d o e es ea] (.agg [.int .u32 u, .ref 0 1 0 d.length, .int .i64 o, .bool e, .bool es, .bool ea]) [⟨false, 1, d.map by8⟩] := by
  have cl := cloneB_ok d (by omega)
  unfold qA
  refine acall_walk (N := 8) Try.func24 (by kernel_rfl) p_sendq_Clone rfl ?_; unfold c_sendq_Clone; dsimp only [enum, Nat.reduceAdd]
  (repeat (first | ((with_reducible show RG _ _ (_ :: _) _ _ _); refine RG.go1 (k := ?_)) | ((with_reducible show DG _ _ (_ :: _) _ _ _ _ _); refine DG.go1 (k := ?_)) | with_reducible apply RG.nil | with_reducible apply W.seq | with_reducible apply W.reg | with_reducible apply W.skip | with_reducible apply W.block | with_reducible apply W.drw | with_reducible apply DG.nil | (with_reducible refine W.done (QB.n ?_))))
  (first | ((with_reducible show RG _ _ (_ :: _) _ _ _); refine RG.ca (cl) (k := ?_)) | ((with_reducible show DG _ _ (_ :: _) _ _ _ _ _); refine DG.ca (cl) (k := ?_)))
  (repeat (first | ((with_reducible show RG _ _ (_ :: _) _ _ _); refine RG.go1 (k := ?_)) | ((with_reducible show DG _ _ (_ :: _) _ _ _ _ _); refine DG.go1 (k := ?_)) | with_reducible apply RG.nil | with_reducible apply W.seq | with_reducible apply W.reg | with_reducible apply W.skip | with_reducible apply W.block | with_reducible apply W.drw | with_reducible apply DG.nil | (with_reducible refine W.done (QB.n ?_))))
  (refine W.ret ?_; (repeat (first | refine QB.r ?_ | refine QL.r ?_ | refine QC.r ?_)); refine QF.r ?_)
  exact RetOk.rs (vs := [_]) r_sendq_Clone [0]
theorem qRoom_ok : ACall Try.prog 17 [qA true u d o e es ea] (.int .i64 (if e then 0 else 256 - (d.length : Int))) [] := by
  have hl : (d.map by8).length = d.length := by simp
  unfold qA
  cases e
  · refine acall_walk (N := 9) Try.func17 (by kernel_rfl) p_sendq_Room rfl ?_; unfold c_sendq_Room; dsimp only [enum, Nat.reduceAdd]
    (repeat (first | ((with_reducible show RG _ _ (_ :: _) _ _ _); refine RG.go1 (k := ?_)) | ((with_reducible show DG _ _ (_ :: _) _ _ _ _ _); refine DG.go1 (k := ?_)) | with_reducible apply RG.nil | with_reducible apply W.seq | with_reducible apply W.reg | with_reducible apply W.skip | with_reducible apply W.block | with_reducible apply W.drw | with_reducible apply DG.nil | (with_reducible refine W.done (QB.n ?_))))
    refine W.cndF ?_
    (repeat (first | ((with_reducible show RG _ _ (_ :: _) _ _ _); refine RG.go1 (k := ?_)) | ((with_reducible show DG _ _ (_ :: _) _ _ _ _ _); refine DG.go1 (k := ?_)) | with_reducible apply RG.nil | with_reducible apply W.seq | with_reducible apply W.reg | with_reducible apply W.skip | with_reducible apply W.block | with_reducible apply W.drw | with_reducible apply DG.nil | (with_reducible refine W.done (QB.n ?_))))
    (refine W.ret ?_; (repeat (first | refine QB.r ?_ | refine QL.r ?_ | refine QC.r ?_)); refine QF.r ?_)
    rw [hl]
    exact RetOk.rs (vs := [_]) r_sendq_Room []
  · refine acall_walk (N := 9) Try.func17 (by kernel_rfl) p_sendq_Room rfl ?_; unfold c_sendq_Room; dsimp only [enum, Nat.reduceAdd]
    (repeat (first | ((with_reducible show RG _ _ (_ :: _) _ _ _); refine RG.go1 (k := ?_)) | ((with_reducible show DG _ _ (_ :: _) _ _ _ _ _); refine DG.go1 (k := ?_)) | with_reducible apply RG.nil | with_reducible apply W.seq | with_reducible apply W.reg | with_reducible apply W.skip | with_reducible apply W.block | with_reducible apply W.drw | with_reducible apply DG.nil | (with_reducible refine W.done (QB.n ?_))))
    refine W.cndT ?_
    (repeat (first | ((with_reducible show RG _ _ (_ :: _) _ _ _); refine RG.go1 (k := ?_)) | ((with_reducible show DG _ _ (_ :: _) _ _ _ _ _); refine DG.go1 (k := ?_)) | with_reducible apply RG.nil | with_reducible apply W.seq | with_reducible apply W.reg | with_reducible apply W.skip | with_reducible apply W.block | with_reducible apply W.drw | with_reducible apply DG.nil | (with_reducible refine W.done (QB.n ?_))))
    (refine W.ret ?_; (repeat (first | refine QB.r ?_ | refine QL.r ?_ | refine QC.r ?_)); refine QF.r ?_)
    exact RetOk.rs (vs := [_]) r_sendq_Room []
include ho
theorem qFlight_ok : ACall Try.prog 18 [qA true u d o e es ea] (.int .i64 (if es && !ea then (o : Int) + 1 else o)) [] := by
  unfold qA
  cases es
  · refine acall_walk (N := 15) Try.func18 (by kernel_rfl) p_sendq_Flight rfl ?_; unfold c_sendq_Flight; dsimp only [enum, Nat.reduceAdd]
    (repeat (first | ((with_reducible show RG _ _ (_ :: _) _ _ _); refine RG.go1 (k := ?_)) | ((with_reducible show DG _ _ (_ :: _) _ _ _ _ _); refine DG.go1 (k := ?_)) | with_reducible apply RG.nil | with_reducible apply W.seq | with_reducible apply W.reg | with_reducible apply W.skip | with_reducible apply W.block | with_reducible apply W.drw | with_reducible apply DG.nil | (with_reducible refine W.done (QB.n ?_))))
    refine W.cndF ?_
    (repeat (first | ((with_reducible show RG _ _ (_ :: _) _ _ _); refine RG.go1 (k := ?_)) | ((with_reducible show DG _ _ (_ :: _) _ _ _ _ _); refine DG.go1 (k := ?_)) | with_reducible apply RG.nil | with_reducible apply W.seq | with_reducible apply W.reg | with_reducible apply W.skip | with_reducible apply W.block | with_reducible apply W.drw | with_reducible apply DG.nil | (with_reducible refine W.done (QB.n ?_))))
    (refine W.ret ?_; (repeat (first | refine QB.r ?_ | refine QL.r ?_ | refine QC.r ?_)); refine QF.r ?_)
    exact RetOk.rs (vs := [_]) r_sendq_Flight []
  · cases ea
    · refine acall_walk (N := 15) Try.func18 (by kernel_rfl) p_sendq_Flight rfl ?_; unfold c_sendq_Flight; dsimp only [enum, Nat.reduceAdd]
      (repeat (first | ((with_reducible show RG _ _ (_ :: _) _ _ _); refine RG.go1 (k := ?_)) | ((with_reducible show DG _ _ (_ :: _) _ _ _ _ _); refine DG.go1 (k := ?_)) | with_reducible apply RG.nil | with_reducible apply W.seq | with_reducible apply W.reg | with_reducible apply W.skip | with_reducible apply W.block | with_reducible apply W.drw | with_reducible apply DG.nil | (with_reducible refine W.done (QB.n ?_))))
      refine W.cndT ?_
      (repeat (first | ((with_reducible show RG _ _ (_ :: _) _ _ _); refine RG.go1 (k := ?_)) | ((with_reducible show DG _ _ (_ :: _) _ _ _ _ _); refine DG.go1 (k := ?_)) | with_reducible apply RG.nil | with_reducible apply W.seq | with_reducible apply W.reg | with_reducible apply W.skip | with_reducible apply W.block | with_reducible apply W.drw | with_reducible apply DG.nil | (with_reducible refine W.done (QB.n ?_))))
      (refine W.ret ?_; (repeat (first | refine QB.r ?_ | refine QL.r ?_ | refine QC.r ?_)); refine QF.r ?_)
      exact RetOk.rs (vs := [_]) r_sendq_Flight []
    · refine acall_walk (N := 15) Try.func18 (by kernel_rfl) p_sendq_Flight rfl ?_; unfold c_sendq_Flight; dsimp only [enum, Nat.reduceAdd]
      (repeat (first | ((with_reducible show RG _ _ (_ :: _) _ _ _); refine RG.go1 (k := ?_)) | ((with_reducible show DG _ _ (_ :: _) _ _ _ _ _); refine DG.go1 (k := ?_)) | with_reducible apply RG.nil | with_reducible apply W.seq | with_reducible apply W.reg | with_reducible apply W.skip | with_reducible apply W.block | with_reducible apply W.drw | with_reducible apply DG.nil | (with_reducible refine W.done (QB.n ?_))))
      refine W.cndF ?_
      (repeat (first | ((with_reducible show RG _ _ (_ :: _) _ _ _); refine RG.go1 (k := ?_)) | ((with_reducible show DG _ _ (_ :: _) _ _ _ _ _); refine DG.go1 (k := ?_)) | with_reducible apply RG.nil | with_reducible apply W.seq | with_reducible apply W.reg | with_reducible apply W.skip | with_reducible apply W.block | with_reducible apply W.drw | with_reducible apply DG.nil | (with_reducible refine W.done (QB.n ?_))))
      (refine W.ret ?_; (repeat (first | refine QB.r ?_ | refine QL.r ?_ | refine QC.r ?_)); refine QF.r ?_)
      exact RetOk.rs (vs := [_]) r_sendq_Flight []
omit ho in
theorem qClose_ok : ACall Try.prog 16 [qA true u d o e es ea] (qA false u d o true es ea) [] := by
  have cl := qClone_ok u d o e es ea hd
  unfold qA at cl ⊢
  refine acall_walk (N := 8) Try.func16 (by kernel_rfl) p_sendq_Close rfl ?_; unfold c_sendq_Close; dsimp only [enum, Nat.reduceAdd]
  (repeat (first | ((with_reducible show RG _ _ (_ :: _) _ _ _); refine RG.go1 (k := ?_)) | ((with_reducible show DG _ _ (_ :: _) _ _ _ _ _); refine DG.go1 (k := ?_)) | with_reducible apply RG.nil | with_reducible apply W.seq | with_reducible apply W.reg | with_reducible apply W.skip | with_reducible apply W.block | with_reducible apply W.drw | with_reducible apply DG.nil | (with_reducible refine W.done (QB.n ?_))))
  (first | ((with_reducible show RG _ _ (_ :: _) _ _ _); refine RG.ca (cl) (k := ?_)) | ((with_reducible show DG _ _ (_ :: _) _ _ _ _ _); refine DG.ca (cl) (k := ?_)))
  (repeat (first | ((with_reducible show RG _ _ (_ :: _) _ _ _); refine RG.go1 (k := ?_)) | ((with_reducible show DG _ _ (_ :: _) _ _ _ _ _); refine DG.go1 (k := ?_)) | with_reducible apply RG.nil | with_reducible apply W.seq | with_reducible apply W.reg | with_reducible apply W.skip | with_reducible apply W.block | with_reducible apply W.drw | with_reducible apply DG.nil | (with_reducible refine W.done (QB.n ?_))))
  (refine W.ret ?_; (repeat (first | refine QB.r ?_ | refine QL.r ?_ | refine QC.r ?_)); refine QF.r ?_)
  (refine RetOk.wk (Wk.frz (b := 0) rfl rfl) ?_; refine RetOk.wk (Wk.box (b := 1) (cs' := [_, _, _, _, _, _]) rfl (by dsimp only [ClL]; (repeat' (first | exact True.intro | exact Cl.ice rfl rfl rfl (by first | assumption | decide | omega | (simp; (first | (all_goals fail) | fail)) | (simp <;> omega)) (by first | exact take_all _ | exact take_len (by first | (simp; (first | (all_goals fail) | fail)) | (simp <;> omega)) | exact rfl) | exact Cl.le (.refl _) | apply And.intro)); (first | (all_goals fail) | fail))) ?_; dsimp only [setO])
  exact RetOk.rs (vs := [_]) r_sendq_Close []
omit ho hd in
theorem qEmpty_ok : ACall Try.prog 23 [qA true u d o e es ea] (.bool (decide (d.length = 0) && (!e || ea))) [] := by
  have hl : (d.map by8).length = d.length := by simp
  unfold qA
  by_cases h0 : d.length = 0
  · have hv : decide (d.length = 0) = true := by simp [h0]
    rw [hv]
    cases e
    · refine acall_walk (N := 16) Try.func23 (by kernel_rfl) p_sendq_Empty rfl ?_; unfold c_sendq_Empty; dsimp only [enum, Nat.reduceAdd]
      (repeat (first | ((with_reducible show RG _ _ (_ :: _) _ _ _); refine RG.go1 (k := ?_)) | ((with_reducible show DG _ _ (_ :: _) _ _ _ _ _); refine DG.go1 (k := ?_)) | with_reducible apply RG.nil | with_reducible apply W.seq | with_reducible apply W.reg | with_reducible apply W.skip | with_reducible apply W.block | with_reducible apply W.drw | with_reducible apply DG.nil | (with_reducible refine W.done (QB.n ?_))))
      (refine W.ret ?_; (repeat (first | refine QB.r ?_ | refine QL.r ?_ | refine QC.r ?_)); refine QF.r ?_)
      exact RetOk.rs (vs := [_]) r_sendq_Empty []
    · cases ea
      · refine acall_walk (N := 16) Try.func23 (by kernel_rfl) p_sendq_Empty rfl ?_; unfold c_sendq_Empty; dsimp only [enum, Nat.reduceAdd]
        (repeat (first | ((with_reducible show RG _ _ (_ :: _) _ _ _); refine RG.go1 (k := ?_)) | ((with_reducible show DG _ _ (_ :: _) _ _ _ _ _); refine DG.go1 (k := ?_)) | with_reducible apply RG.nil | with_reducible apply W.seq | with_reducible apply W.reg | with_reducible apply W.skip | with_reducible apply W.block | with_reducible apply W.drw | with_reducible apply DG.nil | (with_reducible refine W.done (QB.n ?_))))
        (refine W.ret ?_; (repeat (first | refine QB.r ?_ | refine QL.r ?_ | refine QC.r ?_)); refine QF.r ?_)
        exact RetOk.rs (vs := [_]) r_sendq_Empty []
      · refine acall_walk (N := 16) Try.func23 (by kernel_rfl) p_sendq_Empty rfl ?_; unfold c_sendq_Empty; dsimp only [enum, Nat.reduceAdd]
        (repeat (first | ((with_reducible show RG _ _ (_ :: _) _ _ _); refine RG.go1 (k := ?_)) | ((with_reducible show DG _ _ (_ :: _) _ _ _ _ _); refine DG.go1 (k := ?_)) | with_reducible apply RG.nil | with_reducible apply W.seq | with_reducible apply W.reg | with_reducible apply W.skip | with_reducible apply W.block | with_reducible apply W.drw | with_reducible apply DG.nil | (with_reducible refine W.done (QB.n ?_))))
        (refine W.ret ?_; (repeat (first | refine QB.r ?_ | refine QL.r ?_ | refine QC.r ?_)); refine QF.r ?_)
        exact RetOk.rs (vs := [_]) r_sendq_Empty []
  · have hv : decide (d.length = 0) = false := by simp [h0]
    rw [hv]
    refine acall_walk (N := 16) Try.func23 (by kernel_rfl) p_sendq_Empty rfl ?_; unfold c_sendq_Empty; dsimp only [enum, Nat.reduceAdd]
    (repeat (first | ((with_reducible show RG _ _ (_ :: _) _ _ _); refine RG.go1 (k := ?_)) | ((with_reducible show DG _ _ (_ :: _) _ _ _ _ _); refine DG.go1 (k := ?_)) | with_reducible apply RG.nil | with_reducible apply W.seq | with_reducible apply W.reg | with_reducible apply W.skip | with_reducible apply W.block | with_reducible apply W.drw | with_reducible apply DG.nil | (with_reducible refine W.done (QB.n ?_))))
    (refine W.ret ?_; (repeat (first | refine QB.r ?_ | refine QL.r ?_ | refine QC.r ?_)); refine QF.r ?_)
    exact RetOk.rs (vs := [_]) r_sendq_Empty []
theorem qRight_ok (h256 : d.length ≤ 256) (he : es = true → e = true ∧ o = d.length) (ha : ea = true → es = true ∧ d.length = 0) : ACall Try.prog 9 [qA true u d o e es ea] (.bool true) [] := by
  have hl : (d.map by8).length = d.length := by simp
  unfold qA
  cases es
  · cases ea
    · refine acall_walk (N := 52) Try.func9 (by kernel_rfl) p_sendq_Right rfl ?_; unfold c_sendq_Right; dsimp only [enum, Nat.reduceAdd]
      (repeat (first | ((with_reducible show RG _ _ (_ :: _) _ _ _); refine RG.go1 (k := ?_)) | ((with_reducible show DG _ _ (_ :: _) _ _ _ _ _); refine DG.go1 (k := ?_)) | with_reducible apply RG.nil | with_reducible apply W.seq | with_reducible apply W.reg | with_reducible apply W.skip | with_reducible apply W.block | with_reducible apply W.drw | with_reducible apply DG.nil | (with_reducible refine W.done (QB.n ?_))))
      (refine W.ret ?_; (repeat (first | refine QB.r ?_ | refine QL.r ?_ | refine QC.r ?_)); refine QF.r ?_)
      exact RetOk.rs (vs := [_]) r_sendq_Right []
    · exact absurd (ha rfl).1 (by decide)
  · obtain ⟨rfl, h1⟩ := he rfl
    cases ea
    · refine acall_walk (N := 52) Try.func9 (by kernel_rfl) p_sendq_Right rfl ?_; unfold c_sendq_Right; dsimp only [enum, Nat.reduceAdd]
      (repeat (first | ((with_reducible show RG _ _ (_ :: _) _ _ _); refine RG.go1 (k := ?_)) | ((with_reducible show DG _ _ (_ :: _) _ _ _ _ _); refine DG.go1 (k := ?_)) | with_reducible apply RG.nil | with_reducible apply W.seq | with_reducible apply W.reg | with_reducible apply W.skip | with_reducible apply W.block | with_reducible apply W.drw | with_reducible apply DG.nil | (with_reducible refine W.done (QB.n ?_))))
      (refine W.ret ?_; (repeat (first | refine QB.r ?_ | refine QL.r ?_ | refine QC.r ?_)); refine QF.r ?_)
      exact RetOk.rs (vs := [_]) r_sendq_Right []
    · obtain ⟨_, h2⟩ := ha rfl
      refine acall_walk (N := 52) Try.func9 (by kernel_rfl) p_sendq_Right rfl ?_; unfold c_sendq_Right; dsimp only [enum, Nat.reduceAdd]
      (repeat (first | ((with_reducible show RG _ _ (_ :: _) _ _ _); refine RG.go1 (k := ?_)) | ((with_reducible show DG _ _ (_ :: _) _ _ _ _ _); refine DG.go1 (k := ?_)) | with_reducible apply RG.nil | with_reducible apply W.seq | with_reducible apply W.reg | with_reducible apply W.skip | with_reducible apply W.block | with_reducible apply W.drw | with_reducible apply DG.nil | (with_reducible refine W.done (QB.n ?_))))
      (refine W.ret ?_; (repeat (first | refine QB.r ?_ | refine QL.r ?_ | refine QC.r ?_)); refine QF.r ?_)
      exact RetOk.rs (vs := [_]) r_sendq_Right []
omit ho in
theorem qWrite_ok (ds : List UInt8) (hds : ds.length ≤ 1000) (k : Nat) (hk : (k : Int) = min (ds.length : Int) (if e then 0 else 256 - (d.length : Int))) : ACall Try.prog 12 [qA true u d o e es ea, .sl true 1 (ds.map by8)] (.tup [qA false u (d ++ ds.take k) o e es ea, .int .i64 k]) [] := by
  have hl : (ds.map by8).length = ds.length := by simp
  have cl := qClone_ok u d o e es ea hd
  have cr := qRoom_ok u d o e es ea hd
  generalize (if e then (0 : Int) else 256 - (d.length : Int)) = r at hk cr
  have ht : (ds.map by8).take k = (ds.take k).map by8 := by rw [List.map_take]
  have hap : d.map by8 ++ (ds.take k).map by8 = (d ++ ds.take k).map by8 := by rw [List.map_append]
  have hkl : k ≤ ds.length := by omega
  unfold qA at cl cr ⊢
  refine acall_walk (N := 24) Try.func12 (by kernel_rfl) p_sendq_Write rfl ?_; unfold c_sendq_Write; dsimp only [enum, Nat.reduceAdd]
  (repeat (first | ((with_reducible show RG _ _ (_ :: _) _ _ _); refine RG.go1 (k := ?_)) | ((with_reducible show DG _ _ (_ :: _) _ _ _ _ _); refine DG.go1 (k := ?_)) | with_reducible apply RG.nil | with_reducible apply W.seq | with_reducible apply W.reg | with_reducible apply W.skip | with_reducible apply W.block | with_reducible apply W.drw | with_reducible apply DG.nil | (with_reducible refine W.done (QB.n ?_))))
  (first | ((with_reducible show RG _ _ (_ :: _) _ _ _); refine RG.ca (cl) (k := ?_)) | ((with_reducible show DG _ _ (_ :: _) _ _ _ _ _); refine DG.ca (cl) (k := ?_)))
  (repeat (first | ((with_reducible show RG _ _ (_ :: _) _ _ _); refine RG.go1 (k := ?_)) | ((with_reducible show DG _ _ (_ :: _) _ _ _ _ _); refine DG.go1 (k := ?_)) | with_reducible apply RG.nil | with_reducible apply W.seq | with_reducible apply W.reg | with_reducible apply W.skip | with_reducible apply W.block | with_reducible apply W.drw | with_reducible apply DG.nil | (with_reducible refine W.done (QB.n ?_))))
  (first | ((with_reducible show RG _ _ (_ :: _) _ _ _); refine RG.ca (cr) (k := ?_)) | ((with_reducible show DG _ _ (_ :: _) _ _ _ _ _); refine DG.ca (cr) (k := ?_)))
  (repeat (first | ((with_reducible show RG _ _ (_ :: _) _ _ _); refine RG.go1 (k := ?_)) | ((with_reducible show DG _ _ (_ :: _) _ _ _ _ _); refine DG.go1 (k := ?_)) | with_reducible apply RG.nil | with_reducible apply W.seq | with_reducible apply W.reg | with_reducible apply W.skip | with_reducible apply W.block | with_reducible apply W.drw | with_reducible apply DG.nil | (with_reducible refine W.done (QB.n ?_))))
  have hmin : min ((ds.map by8).length : Int) r = k := by rw [hl]; exact hk.symm
  rw [hmin]
  have hcut : ((ds.map by8).take (k : Int).toNat).drop (0 : Int).toNat = (ds.take k).map by8 := by simp
  (first | ((with_reducible show RG _ _ (_ :: _) _ _ _); refine RG.ew (sl_of (hcut)) (k := ?_)) | ((with_reducible show DG _ _ (_ :: _) _ _ _ _ _); refine DG.ew (sl_of (hcut)) (k := ?_)))
  (repeat (first | ((with_reducible show RG _ _ (_ :: _) _ _ _); refine RG.go1 (k := ?_)) | ((with_reducible show DG _ _ (_ :: _) _ _ _ _ _); refine DG.go1 (k := ?_)) | with_reducible apply RG.nil | with_reducible apply W.seq | with_reducible apply W.reg | with_reducible apply W.skip | with_reducible apply W.block | with_reducible apply W.drw | with_reducible apply DG.nil | (with_reducible refine W.done (QB.n ?_))))
  rw [hap]
  (refine W.ret ?_; (repeat (first | refine QB.r ?_ | refine QL.r ?_ | refine QC.r ?_)); refine QF.r ?_)
  (refine RetOk.wk (Wk.frz (b := 1) rfl rfl) ?_; refine RetOk.wk (Wk.box (b := 1) (cs' := [_, _, _, _, _, _]) rfl (by dsimp only [ClL]; (repeat' (first | exact True.intro | exact Cl.ice rfl rfl rfl (by first | assumption | decide | omega | (simp; (first | (all_goals fail) | fail)) | (simp <;> omega)) (by first | exact take_all _ | exact take_len (by first | (simp; (first | (all_goals fail) | fail)) | (simp <;> omega)) | exact rfl) | exact Cl.le (.refl _) | apply And.intro)); (first | (all_goals fail) | fail))) ?_; dsimp only [setO])
  exact RetOk.rs (vs := [_, _]) r_sendq_Write []
end
theorem cut_by8 (l : List UInt8) (o k : Nat) : ((l.map by8).take ((o : Int) + (k : Int)).toNat).drop (o : Int).toNat = ((l.drop o).take k).map by8 := by
  rw [show ((o : Int) + k).toNat = o + k by omega, Int.toNat_natCast, ← List.map_take, ← List.map_drop, List.drop_take, Nat.add_sub_cancel_left]
section
variable (u : Int) (d : List UInt8) (o : Nat) (e es ea : Bool) (hd : d.length ≤ 100000) (ho : o ≤ d.length)
include hd ho
theorem qNext_no (win mss : Int) (hw : -9223372036854775808 ≤ win ∧ win ≤ 9223372036854775807) (hm : -9223372036854775808 ≤ mss ∧ mss ≤ 9223372036854775807)
    (hk : max 0 (min ((d.length : Int) - o) (min mss (max win 0 - o))) = 0) (hen : (e && !es && decide ((o : Int) + 0 = d.length)) = false) :
    ACall Try.prog 13 [qA true u d o e es ea, .int .i64 win, .int .i64 mss] (.tup [qA false u d o e es ea, .agg [.int .u32 0, .sl false 1 []], .bool false, .bool false]) [] := by
  have hl : (d.map by8).length = d.length := by simp
  have cl := qClone_ok u d o e es ea hd
  have hmx : max 0 (min (min (((d.map by8).length : Int) - o) mss) (max win 0 - o)) = 0 := by rw [hl]; omega
  rw [← hl] at hen
  unfold qA at cl ⊢
  refine acall_walk (N := 85) Try.func13 (by kernel_rfl) p_sendq_Next rfl ?_; unfold c_sendq_Next; dsimp only [enum, Nat.reduceAdd]
  (repeat (first | ((with_reducible show RG _ _ (_ :: _) _ _ _); refine RG.go1 (k := ?_)) | ((with_reducible show DG _ _ (_ :: _) _ _ _ _ _); refine DG.go1 (k := ?_)) | with_reducible apply RG.nil | with_reducible apply W.seq | with_reducible apply W.reg | with_reducible apply W.skip | with_reducible apply W.block | with_reducible apply W.drw | with_reducible apply DG.nil | (with_reducible refine W.done (QB.n ?_))))
  (first | ((with_reducible show RG _ _ (_ :: _) _ _ _); refine RG.ca (cl) (k := ?_)) | ((with_reducible show DG _ _ (_ :: _) _ _ _ _ _); refine DG.ca (cl) (k := ?_)))
  (repeat (first | ((with_reducible show RG _ _ (_ :: _) _ _ _); refine RG.go1 (k := ?_)) | ((with_reducible show DG _ _ (_ :: _) _ _ _ _ _); refine DG.go1 (k := ?_)) | with_reducible apply RG.nil | with_reducible apply W.seq | with_reducible apply W.reg | with_reducible apply W.skip | with_reducible apply W.block | with_reducible apply W.drw | with_reducible apply DG.nil | (with_reducible refine W.done (QB.n ?_))))
  rw [hmx, hen]
  refine W.cndT ?_
  (repeat (first | ((with_reducible show RG _ _ (_ :: _) _ _ _); refine RG.go1 (k := ?_)) | ((with_reducible show DG _ _ (_ :: _) _ _ _ _ _); refine DG.go1 (k := ?_)) | with_reducible apply RG.nil | with_reducible apply W.seq | with_reducible apply W.reg | with_reducible apply W.skip | with_reducible apply W.block | with_reducible apply W.drw | with_reducible apply DG.nil | (with_reducible refine W.done (QB.n ?_))))
  (refine W.ret ?_; (repeat (first | refine QB.r ?_ | refine QL.r ?_ | refine QC.r ?_)); refine QF.r ?_)
  (refine RetOk.wk (Wk.frz (b := 0) rfl rfl) ?_; refine RetOk.wk (Wk.box (b := 1) (cs' := [_, _, _, _, _, _]) rfl (by dsimp only [ClL]; (repeat' (first | exact True.intro | exact Cl.ice rfl rfl rfl (by first | assumption | decide | omega | (simp; (first | (all_goals fail) | fail)) | (simp <;> omega)) (by first | exact take_all _ | exact take_len (by first | (simp; (first | (all_goals fail) | fail)) | (simp <;> omega)) | exact rfl) | exact Cl.le (.refl _) | apply And.intro)); (first | (all_goals fail) | fail))) ?_; dsimp only [setO])
  exact RetOk.rs (vs := [_, _, _, _]) r_sendq_Next []
theorem qNext_yes (win mss : Int) (hw : -9223372036854775808 ≤ win ∧ win ≤ 9223372036854775807) (hm : -9223372036854775808 ≤ mss ∧ mss ≤ 9223372036854775807) (k : Nat) (en : Bool)
    (hk : max 0 (min ((d.length : Int) - o) (min mss (max win 0 - o))) = k) (hen : (e && !es && decide ((o : Int) + k = d.length)) = en) (hne : ¬ (k = 0 ∧ en = false)) :
    ACall Try.prog 13 [qA true u d o e es ea, .int .i64 win, .int .i64 mss] (.tup [qA false u d (o + k) e (es || en) ea, .agg [.int .u32 (sAdd u o), .sl false 1 (((d.drop o).take k).map by8)], .bool en, .bool true]) [] := by
  have hl : (d.map by8).length = d.length := by simp
  have cl := qClone_ok u d o e es ea hd
  have hmx : max 0 (min (min (((d.map by8).length : Int) - o) mss) (max win 0 - o)) = k := by rw [hl]; omega
  rw [← hl] at hen
  have ca := seqAdd_ok u o
  have hcut := cut_by8 d o k
  have cc := cloneB_ok ((d.drop o).take k) (by simp; omega)
  have hkd : o + k ≤ d.length := by omega
  unfold qA at cl ⊢
  by_cases h0 : k = 0
  · have h1 : en = true := by cases en; exact absurd ⟨h0, rfl⟩ hne; rfl
    refine acall_walk (N := 85) Try.func13 (by kernel_rfl) p_sendq_Next rfl ?_; unfold c_sendq_Next; dsimp only [enum, Nat.reduceAdd]
    (repeat (first | ((with_reducible show RG _ _ (_ :: _) _ _ _); refine RG.go1 (k := ?_)) | ((with_reducible show DG _ _ (_ :: _) _ _ _ _ _); refine DG.go1 (k := ?_)) | with_reducible apply RG.nil | with_reducible apply W.seq | with_reducible apply W.reg | with_reducible apply W.skip | with_reducible apply W.block | with_reducible apply W.drw | with_reducible apply DG.nil | (with_reducible refine W.done (QB.n ?_))))
    (first | ((with_reducible show RG _ _ (_ :: _) _ _ _); refine RG.ca (cl) (k := ?_)) | ((with_reducible show DG _ _ (_ :: _) _ _ _ _ _); refine DG.ca (cl) (k := ?_)))
    (repeat (first | ((with_reducible show RG _ _ (_ :: _) _ _ _); refine RG.go1 (k := ?_)) | ((with_reducible show DG _ _ (_ :: _) _ _ _ _ _); refine DG.go1 (k := ?_)) | with_reducible apply RG.nil | with_reducible apply W.seq | with_reducible apply W.reg | with_reducible apply W.skip | with_reducible apply W.block | with_reducible apply W.drw | with_reducible apply DG.nil | (with_reducible refine W.done (QB.n ?_))))
    rw [hmx, hen, h1]
    refine W.cndF ?_
    (repeat (first | ((with_reducible show RG _ _ (_ :: _) _ _ _); refine RG.go1 (k := ?_)) | ((with_reducible show DG _ _ (_ :: _) _ _ _ _ _); refine DG.go1 (k := ?_)) | with_reducible apply RG.nil | with_reducible apply W.seq | with_reducible apply W.reg | with_reducible apply W.skip | with_reducible apply W.block | with_reducible apply W.drw | with_reducible apply DG.nil | (with_reducible refine W.done (QB.n ?_))))
    (first | ((with_reducible show RG _ _ (_ :: _) _ _ _); refine RG.ca (ca) (k := ?_)) | ((with_reducible show DG _ _ (_ :: _) _ _ _ _ _); refine DG.ca (ca) (k := ?_)))
    (repeat (first | ((with_reducible show RG _ _ (_ :: _) _ _ _); refine RG.go1 (k := ?_)) | ((with_reducible show DG _ _ (_ :: _) _ _ _ _ _); refine DG.go1 (k := ?_)) | with_reducible apply RG.nil | with_reducible apply W.seq | with_reducible apply W.reg | with_reducible apply W.skip | with_reducible apply W.block | with_reducible apply W.drw | with_reducible apply DG.nil | (with_reducible refine W.done (QB.n ?_))))
    (first | ((with_reducible show RG _ _ (_ :: _) _ _ _); refine RG.ew (sl_of (hcut)) (k := ?_)) | ((with_reducible show DG _ _ (_ :: _) _ _ _ _ _); refine DG.ew (sl_of (hcut)) (k := ?_)))
    (repeat (first | ((with_reducible show RG _ _ (_ :: _) _ _ _); refine RG.go1 (k := ?_)) | ((with_reducible show DG _ _ (_ :: _) _ _ _ _ _); refine DG.go1 (k := ?_)) | with_reducible apply RG.nil | with_reducible apply W.seq | with_reducible apply W.reg | with_reducible apply W.skip | with_reducible apply W.block | with_reducible apply W.drw | with_reducible apply DG.nil | (with_reducible refine W.done (QB.n ?_))))
    (first | ((with_reducible show RG _ _ (_ :: _) _ _ _); refine RG.ca (cc) (k := ?_)) | ((with_reducible show DG _ _ (_ :: _) _ _ _ _ _); refine DG.ca (cc) (k := ?_)))
    (repeat (first | ((with_reducible show RG _ _ (_ :: _) _ _ _); refine RG.go1 (k := ?_)) | ((with_reducible show DG _ _ (_ :: _) _ _ _ _ _); refine DG.go1 (k := ?_)) | with_reducible apply RG.nil | with_reducible apply W.seq | with_reducible apply W.reg | with_reducible apply W.skip | with_reducible apply W.block | with_reducible apply W.drw | with_reducible apply DG.nil | (with_reducible refine W.done (QB.n ?_))))
    (refine W.ret ?_; (repeat (first | refine QB.r ?_ | refine QL.r ?_ | refine QC.r ?_)); refine QF.r ?_)
    (refine RetOk.wk (Wk.frz (b := 0) rfl rfl) ?_; refine RetOk.wk (Wk.box (b := 1) (cs' := [_, _, _, _, _, _]) rfl (by dsimp only [ClL]; (repeat' (first | exact True.intro | exact Cl.ice rfl rfl rfl (by first | assumption | decide | omega | (simp; (first | (all_goals fail) | fail)) | (simp <;> omega)) (by first | exact take_all _ | exact take_len (by first | (simp; (first | (all_goals fail) | fail)) | (simp <;> omega)) | exact rfl) | exact Cl.le (.refl _) | apply And.intro)); (first | (all_goals fail) | fail))) ?_; dsimp only [setO])
    (refine RetOk.wk (Wk.frz (b := 1) rfl rfl) ?_; refine RetOk.wk (Wk.box (b := 2) (cs' := [_, _]) rfl (by dsimp only [ClL]; (repeat' (first | exact True.intro | exact Cl.ice rfl rfl rfl (by first | assumption | decide | omega | (simp; (first | (all_goals fail) | fail)) | (simp <;> omega)) (by first | exact take_all _ | exact take_len (by first | (simp; (first | (all_goals fail) | fail)) | (simp <;> omega)) | exact rfl) | exact Cl.le (.refl _) | apply And.intro)); (first | (all_goals fail) | fail))) ?_; dsimp only [setO])
    exact RetOk.rs (vs := [_, _, _, _]) r_sendq_Next []
  · refine acall_walk (N := 85) Try.func13 (by kernel_rfl) p_sendq_Next rfl ?_; unfold c_sendq_Next; dsimp only [enum, Nat.reduceAdd]
    (repeat (first | ((with_reducible show RG _ _ (_ :: _) _ _ _); refine RG.go1 (k := ?_)) | ((with_reducible show DG _ _ (_ :: _) _ _ _ _ _); refine DG.go1 (k := ?_)) | with_reducible apply RG.nil | with_reducible apply W.seq | with_reducible apply W.reg | with_reducible apply W.skip | with_reducible apply W.block | with_reducible apply W.drw | with_reducible apply DG.nil | (with_reducible refine W.done (QB.n ?_))))
    (first | ((with_reducible show RG _ _ (_ :: _) _ _ _); refine RG.ca (cl) (k := ?_)) | ((with_reducible show DG _ _ (_ :: _) _ _ _ _ _); refine DG.ca (cl) (k := ?_)))
    (repeat (first | ((with_reducible show RG _ _ (_ :: _) _ _ _); refine RG.go1 (k := ?_)) | ((with_reducible show DG _ _ (_ :: _) _ _ _ _ _); refine DG.go1 (k := ?_)) | with_reducible apply RG.nil | with_reducible apply W.seq | with_reducible apply W.reg | with_reducible apply W.skip | with_reducible apply W.block | with_reducible apply W.drw | with_reducible apply DG.nil | (with_reducible refine W.done (QB.n ?_))))
    rw [hmx, hen]
    refine W.cndF ?_
    (repeat (first | ((with_reducible show RG _ _ (_ :: _) _ _ _); refine RG.go1 (k := ?_)) | ((with_reducible show DG _ _ (_ :: _) _ _ _ _ _); refine DG.go1 (k := ?_)) | with_reducible apply RG.nil | with_reducible apply W.seq | with_reducible apply W.reg | with_reducible apply W.skip | with_reducible apply W.block | with_reducible apply W.drw | with_reducible apply DG.nil | (with_reducible refine W.done (QB.n ?_))))
    (first | ((with_reducible show RG _ _ (_ :: _) _ _ _); refine RG.ca (ca) (k := ?_)) | ((with_reducible show DG _ _ (_ :: _) _ _ _ _ _); refine DG.ca (ca) (k := ?_)))
    (repeat (first | ((with_reducible show RG _ _ (_ :: _) _ _ _); refine RG.go1 (k := ?_)) | ((with_reducible show DG _ _ (_ :: _) _ _ _ _ _); refine DG.go1 (k := ?_)) | with_reducible apply RG.nil | with_reducible apply W.seq | with_reducible apply W.reg | with_reducible apply W.skip | with_reducible apply W.block | with_reducible apply W.drw | with_reducible apply DG.nil | (with_reducible refine W.done (QB.n ?_))))
    (first | ((with_reducible show RG _ _ (_ :: _) _ _ _); refine RG.ew (sl_of (hcut)) (k := ?_)) | ((with_reducible show DG _ _ (_ :: _) _ _ _ _ _); refine DG.ew (sl_of (hcut)) (k := ?_)))
    (repeat (first | ((with_reducible show RG _ _ (_ :: _) _ _ _); refine RG.go1 (k := ?_)) | ((with_reducible show DG _ _ (_ :: _) _ _ _ _ _); refine DG.go1 (k := ?_)) | with_reducible apply RG.nil | with_reducible apply W.seq | with_reducible apply W.reg | with_reducible apply W.skip | with_reducible apply W.block | with_reducible apply W.drw | with_reducible apply DG.nil | (with_reducible refine W.done (QB.n ?_))))
    (first | ((with_reducible show RG _ _ (_ :: _) _ _ _); refine RG.ca (cc) (k := ?_)) | ((with_reducible show DG _ _ (_ :: _) _ _ _ _ _); refine DG.ca (cc) (k := ?_)))
    (repeat (first | ((with_reducible show RG _ _ (_ :: _) _ _ _); refine RG.go1 (k := ?_)) | ((with_reducible show DG _ _ (_ :: _) _ _ _ _ _); refine DG.go1 (k := ?_)) | with_reducible apply RG.nil | with_reducible apply W.seq | with_reducible apply W.reg | with_reducible apply W.skip | with_reducible apply W.block | with_reducible apply W.drw | with_reducible apply DG.nil | (with_reducible refine W.done (QB.n ?_))))
    (refine W.ret ?_; (repeat (first | refine QB.r ?_ | refine QL.r ?_ | refine QC.r ?_)); refine QF.r ?_)
    (refine RetOk.wk (Wk.frz (b := 0) rfl rfl) ?_; refine RetOk.wk (Wk.box (b := 1) (cs' := [_, _, _, _, _, _]) rfl (by dsimp only [ClL]; (repeat' (first | exact True.intro | exact Cl.ice rfl rfl rfl (by first | assumption | decide | omega | (simp; (first | (all_goals fail) | fail)) | (simp <;> omega)) (by first | exact take_all _ | exact take_len (by first | (simp; (first | (all_goals fail) | fail)) | (simp <;> omega)) | exact rfl) | exact Cl.le (.refl _) | apply And.intro)); (first | (all_goals fail) | fail))) ?_; dsimp only [setO])
    (refine RetOk.wk (Wk.frz (b := 1) rfl rfl) ?_; refine RetOk.wk (Wk.box (b := 2) (cs' := [_, _]) rfl (by dsimp only [ClL]; (repeat' (first | exact True.intro | exact Cl.ice rfl rfl rfl (by first | assumption | decide | omega | (simp; (first | (all_goals fail) | fail)) | (simp <;> omega)) (by first | exact take_all _ | exact take_len (by first | (simp; (first | (all_goals fail) | fail)) | (simp <;> omega)) | exact rfl) | exact Cl.le (.refl _) | apply And.intro)); (first | (all_goals fail) | fail))) ?_; dsimp only [setO])
    exact RetOk.rs (vs := [_, _, _, _]) r_sendq_Next []
end
end Go.Proofs.Ytcioklhpbmjeeaa
