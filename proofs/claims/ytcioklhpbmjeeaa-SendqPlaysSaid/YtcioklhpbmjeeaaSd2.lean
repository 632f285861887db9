/- What sendq's functions compute: Again, Ack; and all of them on the record. -/
import Derived.Test.YtcioklhpbmjeeaaSd1
namespace Go.Proofs.Ytcioklhpbmjeeaa
open Go.RowKit
set_option linter.unusedVariables false
set_option linter.unusedSimpArgs false
set_option maxRecDepth 100000
set_option maxHeartbeats 4000000
section
variable (u : Int) (d : List UInt8) (o : Nat) (e es ea : Bool) (hd : d.length ≤ 100000) (ho : o ≤ d.length)
include hd ho
omit hd ho in
theorem qAgain_no (mss : Int) (hk : max 0 (min (o : Int) mss) = 0) (hen : (es && !ea && decide ((0 : Int) = d.length)) = false) :
    ACall Try.prog 14 [qA true u d o e es ea, .int .i64 mss] (.tup [.agg [.int .u32 0, .sl false 1 []], .bool false, .bool false]) [] := by
  have hl : (d.map by8).length = d.length := by simp
  rw [← hl] at hen
  unfold qA
  refine acall_walk (N := 44) Try.func14 (by kernel_rfl) p_sendq_Again rfl ?_; unfold c_sendq_Again; dsimp only [enum, Nat.reduceAdd]
  (repeat (first | ((with_reducible show RG _ _ (_ :: _) _ _ _); refine RG.go1 (k := ?_)) | ((with_reducible show DG _ _ (_ :: _) _ _ _ _ _); refine DG.go1 (k := ?_)) | with_reducible apply RG.nil | with_reducible apply W.seq | with_reducible apply W.reg | with_reducible apply W.skip | with_reducible apply W.block | with_reducible apply W.drw | with_reducible apply DG.nil | (with_reducible refine W.done (QB.n ?_))))
  rw [hk, hen]
  refine W.cndT ?_
  (repeat (first | ((with_reducible show RG _ _ (_ :: _) _ _ _); refine RG.go1 (k := ?_)) | ((with_reducible show DG _ _ (_ :: _) _ _ _ _ _); refine DG.go1 (k := ?_)) | with_reducible apply RG.nil | with_reducible apply W.seq | with_reducible apply W.reg | with_reducible apply W.skip | with_reducible apply W.block | with_reducible apply W.drw | with_reducible apply DG.nil | (with_reducible refine W.done (QB.n ?_))))
  (refine W.ret ?_; (repeat (first | refine QB.r ?_ | refine QL.r ?_ | refine QC.r ?_)); refine QF.r ?_)
  exact RetOk.rs (vs := [_, _, _]) r_sendq_Again []
theorem qAgain_yes (mss : Int) (k : Nat) (en : Bool) (hk : max 0 (min (o : Int) mss) = k) (hen : (es && !ea && decide ((k : Int) = d.length)) = en) (hne : ¬ (k = 0 ∧ en = false)) :
    ACall Try.prog 14 [qA true u d o e es ea, .int .i64 mss] (.tup [.agg [.int .u32 u, .sl false 1 ((d.take k).map by8)], .bool en, .bool true]) [] := by
  have hl : (d.map by8).length = d.length := by simp
  rw [← hl] at hen
  have hcut : ((d.map by8).take (k : Int).toNat).drop (0 : Int).toNat = (d.take k).map by8 := by simp
  have cc := cloneB_ok (d.take k) (by simp; omega)
  have hkd : k ≤ d.length := by omega
  unfold qA
  by_cases h0 : k = 0
  · have h1 : en = true := by cases en; exact absurd ⟨h0, rfl⟩ hne; rfl
    refine acall_walk (N := 44) Try.func14 (by kernel_rfl) p_sendq_Again rfl ?_; unfold c_sendq_Again; dsimp only [enum, Nat.reduceAdd]
    (repeat (first | ((with_reducible show RG _ _ (_ :: _) _ _ _); refine RG.go1 (k := ?_)) | ((with_reducible show DG _ _ (_ :: _) _ _ _ _ _); refine DG.go1 (k := ?_)) | with_reducible apply RG.nil | with_reducible apply W.seq | with_reducible apply W.reg | with_reducible apply W.skip | with_reducible apply W.block | with_reducible apply W.drw | with_reducible apply DG.nil | (with_reducible refine W.done (QB.n ?_))))
    rw [hk, hen, h1]
    refine W.cndF ?_
    (repeat (first | ((with_reducible show RG _ _ (_ :: _) _ _ _); refine RG.go1 (k := ?_)) | ((with_reducible show DG _ _ (_ :: _) _ _ _ _ _); refine DG.go1 (k := ?_)) | with_reducible apply RG.nil | with_reducible apply W.seq | with_reducible apply W.reg | with_reducible apply W.skip | with_reducible apply W.block | with_reducible apply W.drw | with_reducible apply DG.nil | (with_reducible refine W.done (QB.n ?_))))
    (first | ((with_reducible show RG _ _ (_ :: _) _ _ _); refine RG.ew (sl_of (hcut)) (k := ?_)) | ((with_reducible show DG _ _ (_ :: _) _ _ _ _ _); refine DG.ew (sl_of (hcut)) (k := ?_)))
    (repeat (first | ((with_reducible show RG _ _ (_ :: _) _ _ _); refine RG.go1 (k := ?_)) | ((with_reducible show DG _ _ (_ :: _) _ _ _ _ _); refine DG.go1 (k := ?_)) | with_reducible apply RG.nil | with_reducible apply W.seq | with_reducible apply W.reg | with_reducible apply W.skip | with_reducible apply W.block | with_reducible apply W.drw | with_reducible apply DG.nil | (with_reducible refine W.done (QB.n ?_))))
    (first | ((with_reducible show RG _ _ (_ :: _) _ _ _); refine RG.ca (cc) (k := ?_)) | ((with_reducible show DG _ _ (_ :: _) _ _ _ _ _); refine DG.ca (cc) (k := ?_)))
    (repeat (first | ((with_reducible show RG _ _ (_ :: _) _ _ _); refine RG.go1 (k := ?_)) | ((with_reducible show DG _ _ (_ :: _) _ _ _ _ _); refine DG.go1 (k := ?_)) | with_reducible apply RG.nil | with_reducible apply W.seq | with_reducible apply W.reg | with_reducible apply W.skip | with_reducible apply W.block | with_reducible apply W.drw | with_reducible apply DG.nil | (with_reducible refine W.done (QB.n ?_))))
    (refine W.ret ?_; (repeat (first | refine QB.r ?_ | refine QL.r ?_ | refine QC.r ?_)); refine QF.r ?_)
    (refine RetOk.wk (Wk.frz (b := 0) rfl rfl) ?_; refine RetOk.wk (Wk.box (b := 1) (cs' := [_, _]) rfl (by dsimp only [ClL]; (repeat' (first | exact True.intro | exact Cl.ice rfl rfl rfl (by first | assumption | decide | omega | (simp; (first | (all_goals fail) | fail)) | (simp <;> omega)) (by first | exact take_all _ | exact take_len (by first | (simp; (first | (all_goals fail) | fail)) | (simp <;> omega)) | exact rfl) | exact Cl.le (.refl _) | apply And.intro)); (first | (all_goals fail) | fail))) ?_; dsimp only [setO])
    exact RetOk.rs (vs := [_, _, _]) r_sendq_Again []
  · refine acall_walk (N := 44) Try.func14 (by kernel_rfl) p_sendq_Again rfl ?_; unfold c_sendq_Again; dsimp only [enum, Nat.reduceAdd]
    (repeat (first | ((with_reducible show RG _ _ (_ :: _) _ _ _); refine RG.go1 (k := ?_)) | ((with_reducible show DG _ _ (_ :: _) _ _ _ _ _); refine DG.go1 (k := ?_)) | with_reducible apply RG.nil | with_reducible apply W.seq | with_reducible apply W.reg | with_reducible apply W.skip | with_reducible apply W.block | with_reducible apply W.drw | with_reducible apply DG.nil | (with_reducible refine W.done (QB.n ?_))))
    rw [hk, hen]
    refine W.cndF ?_
    (repeat (first | ((with_reducible show RG _ _ (_ :: _) _ _ _); refine RG.go1 (k := ?_)) | ((with_reducible show DG _ _ (_ :: _) _ _ _ _ _); refine DG.go1 (k := ?_)) | with_reducible apply RG.nil | with_reducible apply W.seq | with_reducible apply W.reg | with_reducible apply W.skip | with_reducible apply W.block | with_reducible apply W.drw | with_reducible apply DG.nil | (with_reducible refine W.done (QB.n ?_))))
    (first | ((with_reducible show RG _ _ (_ :: _) _ _ _); refine RG.ew (sl_of (hcut)) (k := ?_)) | ((with_reducible show DG _ _ (_ :: _) _ _ _ _ _); refine DG.ew (sl_of (hcut)) (k := ?_)))
    (repeat (first | ((with_reducible show RG _ _ (_ :: _) _ _ _); refine RG.go1 (k := ?_)) | ((with_reducible show DG _ _ (_ :: _) _ _ _ _ _); refine DG.go1 (k := ?_)) | with_reducible apply RG.nil | with_reducible apply W.seq | with_reducible apply W.reg | with_reducible apply W.skip | with_reducible apply W.block | with_reducible apply W.drw | with_reducible apply DG.nil | (with_reducible refine W.done (QB.n ?_))))
    (first | ((with_reducible show RG _ _ (_ :: _) _ _ _); refine RG.ca (cc) (k := ?_)) | ((with_reducible show DG _ _ (_ :: _) _ _ _ _ _); refine DG.ca (cc) (k := ?_)))
    (repeat (first | ((with_reducible show RG _ _ (_ :: _) _ _ _); refine RG.go1 (k := ?_)) | ((with_reducible show DG _ _ (_ :: _) _ _ _ _ _); refine DG.go1 (k := ?_)) | with_reducible apply RG.nil | with_reducible apply W.seq | with_reducible apply W.reg | with_reducible apply W.skip | with_reducible apply W.block | with_reducible apply W.drw | with_reducible apply DG.nil | (with_reducible refine W.done (QB.n ?_))))
    (refine W.ret ?_; (repeat (first | refine QB.r ?_ | refine QL.r ?_ | refine QC.r ?_)); refine QF.r ?_)
    (refine RetOk.wk (Wk.frz (b := 0) rfl rfl) ?_; refine RetOk.wk (Wk.box (b := 1) (cs' := [_, _]) rfl (by dsimp only [ClL]; (repeat' (first | exact True.intro | exact Cl.ice rfl rfl rfl (by first | assumption | decide | omega | (simp; (first | (all_goals fail) | fail)) | (simp <;> omega)) (by first | exact take_all _ | exact take_len (by first | (simp; (first | (all_goals fail) | fail)) | (simp <;> omega)) | exact rfl) | exact Cl.le (.refl _) | apply And.intro)); (first | (all_goals fail) | fail))) ?_; dsimp only [setO])
    exact RetOk.rs (vs := [_, _, _]) r_sendq_Again []
omit ho in
/-- Ack: nothing new. -/
theorem qAck_none (ack : Int) (hd0 : sDiff ack u ≤ 0) : ACall Try.prog 15 [qA true u d o e es ea, .int .u32 ack] (.tup [qA false u d o e es ea, .int .i64 0, .int .i64 0]) [] := by
  have cl := qClone_ok u d o e es ea hd
  have cd := seqDiff_ok ack u
  generalize sDiff ack u = z at cd hd0
  unfold qA at cl ⊢
  refine acall_walk (N := 52) Try.func15 (by kernel_rfl) p_sendq_Ack rfl ?_; unfold c_sendq_Ack; dsimp only [enum, Nat.reduceAdd]
  (repeat (first | ((with_reducible show RG _ _ (_ :: _) _ _ _); refine RG.go1 (k := ?_)) | ((with_reducible show DG _ _ (_ :: _) _ _ _ _ _); refine DG.go1 (k := ?_)) | with_reducible apply RG.nil | with_reducible apply W.seq | with_reducible apply W.reg | with_reducible apply W.skip | with_reducible apply W.block | with_reducible apply W.drw | with_reducible apply DG.nil | (with_reducible refine W.done (QB.n ?_))))
  (first | ((with_reducible show RG _ _ (_ :: _) _ _ _); refine RG.ca (cl) (k := ?_)) | ((with_reducible show DG _ _ (_ :: _) _ _ _ _ _); refine DG.ca (cl) (k := ?_)))
  (repeat (first | ((with_reducible show RG _ _ (_ :: _) _ _ _); refine RG.go1 (k := ?_)) | ((with_reducible show DG _ _ (_ :: _) _ _ _ _ _); refine DG.go1 (k := ?_)) | with_reducible apply RG.nil | with_reducible apply W.seq | with_reducible apply W.reg | with_reducible apply W.skip | with_reducible apply W.block | with_reducible apply W.drw | with_reducible apply DG.nil | (with_reducible refine W.done (QB.n ?_))))
  (first | ((with_reducible show RG _ _ (_ :: _) _ _ _); refine RG.ca (cd) (k := ?_)) | ((with_reducible show DG _ _ (_ :: _) _ _ _ _ _); refine DG.ca (cd) (k := ?_)))
  (repeat (first | ((with_reducible show RG _ _ (_ :: _) _ _ _); refine RG.go1 (k := ?_)) | ((with_reducible show DG _ _ (_ :: _) _ _ _ _ _); refine DG.go1 (k := ?_)) | with_reducible apply RG.nil | with_reducible apply W.seq | with_reducible apply W.reg | with_reducible apply W.skip | with_reducible apply W.block | with_reducible apply W.drw | with_reducible apply DG.nil | (with_reducible refine W.done (QB.n ?_))))
  refine W.cndT ?_
  (repeat (first | ((with_reducible show RG _ _ (_ :: _) _ _ _); refine RG.go1 (k := ?_)) | ((with_reducible show DG _ _ (_ :: _) _ _ _ _ _); refine DG.go1 (k := ?_)) | with_reducible apply RG.nil | with_reducible apply W.seq | with_reducible apply W.reg | with_reducible apply W.skip | with_reducible apply W.block | with_reducible apply W.drw | with_reducible apply DG.nil | (with_reducible refine W.done (QB.n ?_))))
  (refine W.ret ?_; (repeat (first | refine QB.r ?_ | refine QL.r ?_ | refine QC.r ?_)); refine QF.r ?_)
  (refine RetOk.wk (Wk.frz (b := 0) rfl rfl) ?_; refine RetOk.wk (Wk.box (b := 1) (cs' := [_, _, _, _, _, _]) rfl (by dsimp only [ClL]; (repeat' (first | exact True.intro | exact Cl.ice rfl rfl rfl (by first | assumption | decide | omega | (simp; (first | (all_goals fail) | fail)) | (simp <;> omega)) (by first | exact take_all _ | exact take_len (by first | (simp; (first | (all_goals fail) | fail)) | (simp <;> omega)) | exact rfl) | exact Cl.le (.refl _) | apply And.intro)); (first | (all_goals fail) | fail))) ?_; dsimp only [setO])
  exact RetOk.rs (vs := [_, _, _]) r_sendq_Ack []
theorem qAck_far (ack : Int) (z : Int) (hz : sDiff ack u = z) (hd0 : 0 < z) (hd1 : (if es && !ea then (o : Int) + 1 else o) < z) : ACall Try.prog 15 [qA true u d o e es ea, .int .u32 ack] (.tup [qA false u d o e es ea, .int .i64 0, .int .i64 1]) [] := by
  have cl := qClone_ok u d o e es ea hd
  have cd := seqDiff_ok ack u
  rw [hz] at cd
  have cf := qFlight_ok u d o e es ea hd ho
  generalize (if es && !ea then (o : Int) + 1 else o) = fl at cf hd1
  unfold qA at cl cf ⊢
  refine acall_walk (N := 52) Try.func15 (by kernel_rfl) p_sendq_Ack rfl ?_; unfold c_sendq_Ack; dsimp only [enum, Nat.reduceAdd]
  (repeat (first | ((with_reducible show RG _ _ (_ :: _) _ _ _); refine RG.go1 (k := ?_)) | ((with_reducible show DG _ _ (_ :: _) _ _ _ _ _); refine DG.go1 (k := ?_)) | with_reducible apply RG.nil | with_reducible apply W.seq | with_reducible apply W.reg | with_reducible apply W.skip | with_reducible apply W.block | with_reducible apply W.drw | with_reducible apply DG.nil | (with_reducible refine W.done (QB.n ?_))))
  (first | ((with_reducible show RG _ _ (_ :: _) _ _ _); refine RG.ca (cl) (k := ?_)) | ((with_reducible show DG _ _ (_ :: _) _ _ _ _ _); refine DG.ca (cl) (k := ?_)))
  (repeat (first | ((with_reducible show RG _ _ (_ :: _) _ _ _); refine RG.go1 (k := ?_)) | ((with_reducible show DG _ _ (_ :: _) _ _ _ _ _); refine DG.go1 (k := ?_)) | with_reducible apply RG.nil | with_reducible apply W.seq | with_reducible apply W.reg | with_reducible apply W.skip | with_reducible apply W.block | with_reducible apply W.drw | with_reducible apply DG.nil | (with_reducible refine W.done (QB.n ?_))))
  (first | ((with_reducible show RG _ _ (_ :: _) _ _ _); refine RG.ca (cd) (k := ?_)) | ((with_reducible show DG _ _ (_ :: _) _ _ _ _ _); refine DG.ca (cd) (k := ?_)))
  (repeat (first | ((with_reducible show RG _ _ (_ :: _) _ _ _); refine RG.go1 (k := ?_)) | ((with_reducible show DG _ _ (_ :: _) _ _ _ _ _); refine DG.go1 (k := ?_)) | with_reducible apply RG.nil | with_reducible apply W.seq | with_reducible apply W.reg | with_reducible apply W.skip | with_reducible apply W.block | with_reducible apply W.drw | with_reducible apply DG.nil | (with_reducible refine W.done (QB.n ?_))))
  refine W.cndF ?_
  (repeat (first | ((with_reducible show RG _ _ (_ :: _) _ _ _); refine RG.go1 (k := ?_)) | ((with_reducible show DG _ _ (_ :: _) _ _ _ _ _); refine DG.go1 (k := ?_)) | with_reducible apply RG.nil | with_reducible apply W.seq | with_reducible apply W.reg | with_reducible apply W.skip | with_reducible apply W.block | with_reducible apply W.drw | with_reducible apply DG.nil | (with_reducible refine W.done (QB.n ?_))))
  (first | ((with_reducible show RG _ _ (_ :: _) _ _ _); refine RG.ca (cf) (k := ?_)) | ((with_reducible show DG _ _ (_ :: _) _ _ _ _ _); refine DG.ca (cf) (k := ?_)))
  (repeat (first | ((with_reducible show RG _ _ (_ :: _) _ _ _); refine RG.go1 (k := ?_)) | ((with_reducible show DG _ _ (_ :: _) _ _ _ _ _); refine DG.go1 (k := ?_)) | with_reducible apply RG.nil | with_reducible apply W.seq | with_reducible apply W.reg | with_reducible apply W.skip | with_reducible apply W.block | with_reducible apply W.drw | with_reducible apply DG.nil | (with_reducible refine W.done (QB.n ?_))))
  refine W.cndT ?_
  (repeat (first | ((with_reducible show RG _ _ (_ :: _) _ _ _); refine RG.go1 (k := ?_)) | ((with_reducible show DG _ _ (_ :: _) _ _ _ _ _); refine DG.go1 (k := ?_)) | with_reducible apply RG.nil | with_reducible apply W.seq | with_reducible apply W.reg | with_reducible apply W.skip | with_reducible apply W.block | with_reducible apply W.drw | with_reducible apply DG.nil | (with_reducible refine W.done (QB.n ?_))))
  (refine W.ret ?_; (repeat (first | refine QB.r ?_ | refine QL.r ?_ | refine QC.r ?_)); refine QF.r ?_)
  (refine RetOk.wk (Wk.frz (b := 0) rfl rfl) ?_; refine RetOk.wk (Wk.box (b := 1) (cs' := [_, _, _, _, _, _]) rfl (by dsimp only [ClL]; (repeat' (first | exact True.intro | exact Cl.ice rfl rfl rfl (by first | assumption | decide | omega | (simp; (first | (all_goals fail) | fail)) | (simp <;> omega)) (by first | exact take_all _ | exact take_len (by first | (simp; (first | (all_goals fail) | fail)) | (simp <;> omega)) | exact rfl) | exact Cl.le (.refl _) | apply And.intro)); (first | (all_goals fail) | fail))) ?_; dsimp only [setO])
  exact RetOk.rs (vs := [_, _, _]) r_sendq_Ack []
theorem qAck_yes (ack : Int) (z : Nat) (hz : sDiff ack u = z) (hd0 : 0 < z) (hd1 : (z : Int) ≤ (if es && !ea then (o : Int) + 1 else o)) : ACall Try.prog 15 [qA true u d o e es ea, .int .u32 ack] (.tup [qA false ack (d.drop (min z o)) (o - min z o) e es (ea || decide (((min z o : Nat) : Int) < z)), .int .i64 z, .int .i64 0]) [] := by
  have cl := qClone_ok u d o e es ea hd
  have cd := seqDiff_ok ack u
  rw [hz] at cd
  have cf := qFlight_ok u d o e es ea hd ho
  generalize (if es && !ea then (o : Int) + 1 else o) = fl at cf hd1
  obtain ⟨m, hm⟩ : ∃ m : Nat, min z o = m := ⟨_, rfl⟩
  rw [hm]
  have hmi : min (z : Int) (o : Int) = m := by omega
  have hmo : m ≤ o := by omega
  unfold qA at cl cf ⊢
  refine acall_walk (N := 52) Try.func15 (by kernel_rfl) p_sendq_Ack rfl ?_; unfold c_sendq_Ack; dsimp only [enum, Nat.reduceAdd]
  (repeat (first | ((with_reducible show RG _ _ (_ :: _) _ _ _); refine RG.go1 (k := ?_)) | ((with_reducible show DG _ _ (_ :: _) _ _ _ _ _); refine DG.go1 (k := ?_)) | with_reducible apply RG.nil | with_reducible apply W.seq | with_reducible apply W.reg | with_reducible apply W.skip | with_reducible apply W.block | with_reducible apply W.drw | with_reducible apply DG.nil | (with_reducible refine W.done (QB.n ?_))))
  (first | ((with_reducible show RG _ _ (_ :: _) _ _ _); refine RG.ca (cl) (k := ?_)) | ((with_reducible show DG _ _ (_ :: _) _ _ _ _ _); refine DG.ca (cl) (k := ?_)))
  (repeat (first | ((with_reducible show RG _ _ (_ :: _) _ _ _); refine RG.go1 (k := ?_)) | ((with_reducible show DG _ _ (_ :: _) _ _ _ _ _); refine DG.go1 (k := ?_)) | with_reducible apply RG.nil | with_reducible apply W.seq | with_reducible apply W.reg | with_reducible apply W.skip | with_reducible apply W.block | with_reducible apply W.drw | with_reducible apply DG.nil | (with_reducible refine W.done (QB.n ?_))))
  (first | ((with_reducible show RG _ _ (_ :: _) _ _ _); refine RG.ca (cd) (k := ?_)) | ((with_reducible show DG _ _ (_ :: _) _ _ _ _ _); refine DG.ca (cd) (k := ?_)))
  (repeat (first | ((with_reducible show RG _ _ (_ :: _) _ _ _); refine RG.go1 (k := ?_)) | ((with_reducible show DG _ _ (_ :: _) _ _ _ _ _); refine DG.go1 (k := ?_)) | with_reducible apply RG.nil | with_reducible apply W.seq | with_reducible apply W.reg | with_reducible apply W.skip | with_reducible apply W.block | with_reducible apply W.drw | with_reducible apply DG.nil | (with_reducible refine W.done (QB.n ?_))))
  refine W.cndF ?_
  (repeat (first | ((with_reducible show RG _ _ (_ :: _) _ _ _); refine RG.go1 (k := ?_)) | ((with_reducible show DG _ _ (_ :: _) _ _ _ _ _); refine DG.go1 (k := ?_)) | with_reducible apply RG.nil | with_reducible apply W.seq | with_reducible apply W.reg | with_reducible apply W.skip | with_reducible apply W.block | with_reducible apply W.drw | with_reducible apply DG.nil | (with_reducible refine W.done (QB.n ?_))))
  (first | ((with_reducible show RG _ _ (_ :: _) _ _ _); refine RG.ca (cf) (k := ?_)) | ((with_reducible show DG _ _ (_ :: _) _ _ _ _ _); refine DG.ca (cf) (k := ?_)))
  (repeat (first | ((with_reducible show RG _ _ (_ :: _) _ _ _); refine RG.go1 (k := ?_)) | ((with_reducible show DG _ _ (_ :: _) _ _ _ _ _); refine DG.go1 (k := ?_)) | with_reducible apply RG.nil | with_reducible apply W.seq | with_reducible apply W.reg | with_reducible apply W.skip | with_reducible apply W.block | with_reducible apply W.drw | with_reducible apply DG.nil | (with_reducible refine W.done (QB.n ?_))))
  refine W.cndF ?_
  (repeat (first | ((with_reducible show RG _ _ (_ :: _) _ _ _); refine RG.go1 (k := ?_)) | ((with_reducible show DG _ _ (_ :: _) _ _ _ _ _); refine DG.go1 (k := ?_)) | with_reducible apply RG.nil | with_reducible apply W.seq | with_reducible apply W.reg | with_reducible apply W.skip | with_reducible apply W.block | with_reducible apply W.drw | with_reducible apply DG.nil | (with_reducible refine W.done (QB.n ?_))))
  rw [hmi]
  (first | ((with_reducible show RG _ _ (_ :: _) _ _ _); refine RG.ew ((show AV.ref 0 1 (0 + (m : Int).toNat) ((d.length : Int) - (m : Int)).toNat = AV.ref 0 1 m (d.length - m) by congr 1 <;> omega)) (k := ?_)) | ((with_reducible show DG _ _ (_ :: _) _ _ _ _ _); refine DG.ew ((show AV.ref 0 1 (0 + (m : Int).toNat) ((d.length : Int) - (m : Int)).toNat = AV.ref 0 1 m (d.length - m) by congr 1 <;> omega)) (k := ?_)))
  (repeat (first | ((with_reducible show RG _ _ (_ :: _) _ _ _); refine RG.go1 (k := ?_)) | ((with_reducible show DG _ _ (_ :: _) _ _ _ _ _); refine DG.go1 (k := ?_)) | with_reducible apply RG.nil | with_reducible apply W.seq | with_reducible apply W.reg | with_reducible apply W.skip | with_reducible apply W.block | with_reducible apply W.drw | with_reducible apply DG.nil | (with_reducible refine W.done (QB.n ?_))))
  (refine W.ret ?_; (repeat (first | refine QB.r ?_ | refine QL.r ?_ | refine QC.r ?_)); refine QF.r ?_)
  (refine RetOk.wk (Wk.frz (b := 0) rfl rfl) ?_; refine RetOk.wk (Wk.box (b := 1) (cs' := [_, _, _, _, _, _]) rfl (by dsimp only [ClL]; (repeat' (first | exact True.intro | exact Cl.ice rfl rfl rfl (by first | assumption | decide | omega | (simp; (first | (all_goals fail) | fail)) | (simp <;> omega)) (by first | exact take_all _ | exact take_len (by first | (simp; (first | (all_goals fail) | fail)) | (simp <;> omega)) | exact rfl) | exact Cl.le (.refl _) | apply And.intro)); (first | (all_goals fail) | fail))) ?_; dsimp only [setO])
  have hdr : (d.map by8).drop m = (d.drop m).map by8 := List.map_drop.symm
  rw [hdr]
  have hio : ((o - m : Nat) : Int) = (o : Int) - m := by omega
  rw [hio]
  exact RetOk.rs (vs := [_, _, _]) r_sendq_Ack []
end
/-! ### On the record -/
def Snd.q (v : Bool) (x : Snd) : AV := qA v x.una x.rest x.out x.fin x.es x.ea
theorem sNew_ok (u : Int) (hu : 0 ≤ u ∧ u ≤ 4294967295) : ACall Try.prog 11 [.int .u32 u] (Snd.q false ⟨u, [], 0, 0, false, false⟩) [] := by
  have h := qNew_ok u
  have e : Snd.q false ⟨u, [], 0, 0, false, false⟩ = qA false u [] 0 false false false := by
    unfold Snd.q Snd.una Snd.rest Snd.out Snd.ea Snd.low sAdd
    simp only [Int.natCast_zero, Int.add_zero]
    rw [Int.emod_eq_of_lt (by omega) (by omega)]
    rfl
  rw [e]; exact h
section
variable (x : Snd) (h : x.Ok)
include h
theorem rest_le5 : x.rest.length ≤ 100000 := by have := h.rest_le; omega
theorem sClone_ok : ACall Try.prog 24 [x.q true] (.agg [.int .u32 x.una, .ref 0 1 0 x.rest.length, .int .i64 x.out, .bool x.fin, .bool x.es, .bool x.ea]) [⟨false, 1, x.rest.map by8⟩] :=
  qClone_ok _ _ _ _ _ _ (rest_le5 x h)
theorem sRoom_ok : ACall Try.prog 17 [x.q true] (.int .i64 x.room) [] := by
  have := qRoom_ok x.una x.rest x.out x.fin x.es x.ea (rest_le5 x h)
  have e : x.room = (if x.fin then 0 else 256 - (x.rest.length : Int)) := by
    unfold Snd.room; rw [x.rest_len]; have := x.low_le; split <;> omega
  rw [e]; exact this
theorem sFlight_ok : ACall Try.prog 18 [x.q true] (.int .i64 x.flight) [] := by
  have := qFlight_ok x.una x.rest x.out x.fin x.es x.ea (rest_le5 x h) h.out_le
  rw [Snd.flight_code h] at this; exact this
theorem sClose_ok : ACall Try.prog 16 [x.q true] (x.close.q false) [] :=
  qClose_ok _ _ _ _ _ _ (rest_le5 x h)
theorem sRight_ok : ACall Try.prog 9 [x.q true] (.bool true) [] := by
  have hc := h.ack_cases
  have hlow := h.low_eq
  refine qRight_ok _ _ _ _ _ _ (rest_le5 x h) h.out_le h.rest_le (fun he => ?_) (fun he => ?_)
  · obtain ⟨h1, h2⟩ := h.e he
    refine ⟨h1, ?_⟩
    rw [x.rest_len]; unfold Snd.out; omega
  · rcases hc with ⟨_, _, h3⟩ | ⟨_, h2, _, _, h5, _⟩
    · rw [h3] at he; cases he
    · exact ⟨h2, by rw [x.rest_len, h5]; omega⟩
theorem sWrite_ok (ds : List UInt8) (hds : ds.length ≤ 1000) : ACall Try.prog 12 [x.q true, .sl true 1 (ds.map by8)] (.tup [(x.write ds).q false, .int .i64 (x.kW ds.length)]) [] := by
  have hk : ((x.kW ds.length : Nat) : Int) = min (ds.length : Int) (if x.fin then 0 else 256 - (x.rest.length : Int)) := by
    have := h.rest_le
    rw [Snd.kW_rest]; split <;> omega
  have hw := qWrite_ok x.una x.rest x.out x.fin x.es x.ea (rest_le5 x h) ds hds _ hk
  have e : (x.write ds).q false = qA false x.una (x.rest ++ ds.take (x.kW ds.length)) x.out x.fin x.es x.ea := by
    unfold Snd.q
    rw [Snd.write_rest h, Snd.write_out h, (Snd.write_low h ds).2]; rfl
  rw [e]; exact hw
theorem sNext_no (win mss : Int) (hw : -9223372036854775808 ≤ win ∧ win ≤ 9223372036854775807) (hm : -9223372036854775808 ≤ mss ∧ mss ≤ 9223372036854775807) (hk : x.kN win mss = 0) (hen : x.eN 0 = false) :
    ACall Try.prog 13 [x.q true, .int .i64 win, .int .i64 mss] (.tup [x.q false, .agg [.int .u32 0, .sl false 1 []], .bool false, .bool false]) [] := by
  refine qNext_no _ _ _ _ _ _ (rest_le5 x h) h.out_le win mss hw hm ?_ ?_
  · rw [Snd.kN_code h, hk]; rfl
  · rw [Snd.eN_code h] at hen
    rw [← hen]; congr 1
theorem sNext_yes (win mss : Int) (hw : -9223372036854775808 ≤ win ∧ win ≤ 9223372036854775807) (hm : -9223372036854775808 ≤ mss ∧ mss ≤ 9223372036854775807) (k : Nat) (en : Bool) (hk : x.kN win mss = k) (hen : x.eN k = en) (hne : ¬ (k = 0 ∧ en = false)) :
    ACall Try.prog 13 [x.q true, .int .i64 win, .int .i64 mss] (.tup [(x.next k en).q false, .agg [.int .u32 (sAdd x.first x.sent), .sl false 1 (((x.all.drop x.sent).take k).map by8)], .bool en, .bool true]) [] := by
  have := qNext_yes x.una x.rest x.out x.fin x.es x.ea (rest_le5 x h) h.out_le win mss hw hm k en (by rw [Snd.kN_code h, hk]) (by
    rw [Snd.eN_code h] at hen
    rw [← hen]; congr 1) hne
  rw [Snd.next_at h k en win mss hk hen hne, Snd.next_piece h] at this
  have e : (x.next k en).q false = qA false x.una x.rest (x.out + k) x.fin (x.es || en) x.ea := by
    unfold Snd.q; rw [Snd.next_out h]; rfl
  rw [e]; exact this
omit h in
theorem sAgain_no (mss : Int) (hk : x.kA mss = 0) (hen : x.eA 0 = false) :
    ACall Try.prog 14 [x.q true, .int .i64 mss] (.tup [.agg [.int .u32 0, .sl false 1 []], .bool false, .bool false]) [] := by
  refine qAgain_no _ _ _ _ _ _ mss ?_ ?_
  · rw [Snd.kA_code, hk]; rfl
  · rw [Snd.eA_code] at hen; rw [← hen]; congr 1
theorem sAgain_yes (mss : Int) (k : Nat) (en : Bool) (hk : x.kA mss = k) (hen : x.eA k = en) (hne : ¬ (k = 0 ∧ en = false)) :
    ACall Try.prog 14 [x.q true, .int .i64 mss] (.tup [.agg [.int .u32 x.una, .sl false 1 ((x.rest.take k).map by8)], .bool en, .bool true]) [] :=
  qAgain_yes _ _ _ _ _ _ (rest_le5 x h) h.out_le mss k en (by rw [Snd.kA_code, hk]) (by rw [Snd.eA_code] at hen; rw [← hen]; congr 1) hne
theorem sAck_ok (ack d : Int) (hA : 0 ≤ ack ∧ ack ≤ 4294967295) (hd : sDiff ack x.una = d) :
    ACall Try.prog 15 [x.q true, .int .u32 ack] (.tup [(x.ackd d).q false, .int .i64 (x.ackN d), .int .i64 (x.ackE d)]) [] := by
  have h5 := rest_le5 x h
  have hb := h.flight_bd
  by_cases h0 : d ≤ 0
  · have := qAck_none x.una x.rest x.out x.fin x.es x.ea h5 ack (by omega)
    have e1 : x.ackd d = x := by unfold Snd.ackd; rw [if_neg (by omega)]
    have e2 : x.ackN d = 0 := by unfold Snd.ackN; rw [if_neg (by omega)]
    have e3 : x.ackE d = 0 := by unfold Snd.ackE; rw [if_neg (by omega)]
    rw [e1, e2, e3]; exact this
  by_cases h1 : x.flight < d
  · have := qAck_far x.una x.rest x.out x.fin x.es x.ea h5 h.out_le ack d hd (by omega) (by rw [Snd.flight_code h]; exact h1)
    have e1 : x.ackd d = x := by unfold Snd.ackd; rw [if_neg (by omega)]
    have e2 : x.ackN d = 0 := by unfold Snd.ackN; rw [if_neg (by omega)]
    have e3 : x.ackE d = 1 := by unfold Snd.ackE; rw [if_pos h1]
    rw [e1, e2, e3]; exact this
  obtain ⟨z, rfl⟩ := Int.eq_ofNat_of_zero_le (show 0 ≤ d by omega)
  obtain ⟨g1, g2, g3⟩ := Snd.ack_low h z (by omega) (by omega)
  have := qAck_yes x.una x.rest x.out x.fin x.es x.ea h5 h.out_le ack z hd (by omega) (by rw [Snd.flight_code h]; omega)
  have e1 : x.ackd z = x.ack z := by unfold Snd.ackd; rw [if_pos (by omega)]; rfl
  have e2 : x.ackN z = z := by unfold Snd.ackN; rw [if_pos (by omega)]
  have e3 : x.ackE z = 0 := by unfold Snd.ackE; rw [if_neg (by omega)]
  have hu := Snd.ack_una x ack z hA hd (by omega)
  rw [Int.toNat_natCast] at hu
  have hr : (x.ack z).rest = x.rest.drop (min z x.out) := by
    unfold Snd.rest; rw [g1, List.drop_drop]; rfl
  have ho : (x.ack z).out = x.out - min z x.out := by
    have hlow := h.low_eq
    unfold Snd.out at *; rw [g1]; show x.sent - _ = _; omega
  rw [e1, e2, e3]
  have e : (x.ack z).q false = qA false ack (x.rest.drop (min z x.out)) (x.out - min z x.out) x.fin x.es (x.ea || decide (((min z x.out : Nat) : Int) < z)) := by
    unfold Snd.q; rw [hu, hr, ho, g2]; rfl
  rw [e]; exact this
end
end Go.Proofs.Ytcioklhpbmjeeaa
