/- What recvq's functions compute: New, Clone, Window, Ended, Read; what seq's do. -/
import Derived.Test.YtmohmcgcggenfaaRqP
import Derived.Test.YtmohmcgcggenfaaAxS
namespace Go.Proofs.Ytmohmcgcggenfaa
open Go.RowKit
set_option linter.unusedVariables false
set_option linter.unusedSimpArgs false
set_option maxRecDepth 100000
set_option maxHeartbeats 4000000
def pc (b : Int) (p : Pc) : AV := .agg [.int .u32 (sAdd b p.1), .sl false 1 (p.2.map by8)]
def qv (v : Bool) (b : Int) (data : List UInt8) (ps : List Pc) (b0 : Int) (kn : Bool) (ev : Int) (dn : Bool) : AV := .agg [.int .u32 b, .sl v 1 (data.map by8), .sl v 2 (ps.map (pc b0)), .bool kn, .int .u32 ev, .bool dn]
theorem pc_at (b : Int) (l : List Pc) (i : Nat) (h : i < l.length) : (l.map (pc b))[((i : Nat) : Int).toNat]?.getD .any = .agg [.int .u32 (sAdd b l[i].1), .sl false 1 (l[i].2.map by8)] := at_map (pc b) l i _ (List.getElem?_eq_getElem h) (by simp)
theorem pc_pure (b : Int) (l : List Pc) : (l.map (pc b)).all pureV = true := by simp [pc, pureV, pureC]
theorem seqAdd_ok (a n : Int) : ACall Try.prog 24 [.int .u32 a, .int .i64 n] (.int .u32 (sAdd a n)) [] := by
  have h : (a + n % 4294967296) % 4294967296 = sAdd a n := by unfold sAdd; omega
  refine acall_walk (N := 9) Try.func24 (by kernel_rfl) p_seq_Add rfl ?_; unfold c_seq_Add; dsimp only [enum, Nat.reduceAdd]
  (repeat (first | ((with_reducible show RG _ _ (_ :: _) _ _ _); refine RG.go1 (k := ?_)) | ((with_reducible show DG _ _ (_ :: _) _ _ _ _ _); refine DG.go1 (k := ?_)) | with_reducible apply RG.nil | with_reducible apply W.seq | with_reducible apply W.reg | with_reducible apply W.skip | with_reducible apply W.block | with_reducible apply W.drw | with_reducible apply DG.nil | (with_reducible refine W.done (QB.n ?_))))
  (refine W.ret ?_; (repeat (with_reducible first | refine QB.r ?_ | refine QL.r ?_ | refine QC.r ?_)); refine QF.r ?_)
  rw [h]
  exact RetOk.rs (vs := [_]) r_seq_Add []
theorem seqDiff_ok (a n : Int) : ACall Try.prog 23 [.int .u32 a, .int .u32 n] (.int .i64 (sDiff a n)) [] := by
  have h : ((a - n) % 4294967296 + 2147483648) % 4294967296 - 2147483648 = sDiff a n := by unfold sDiff; omega
  refine acall_walk (N := 10) Try.func23 (by kernel_rfl) p_seq_Diff rfl ?_; unfold c_seq_Diff; dsimp only [enum, Nat.reduceAdd]
  (repeat (first | ((with_reducible show RG _ _ (_ :: _) _ _ _); refine RG.go1 (k := ?_)) | ((with_reducible show DG _ _ (_ :: _) _ _ _ _ _); refine DG.go1 (k := ?_)) | with_reducible apply RG.nil | with_reducible apply W.seq | with_reducible apply W.reg | with_reducible apply W.skip | with_reducible apply W.block | with_reducible apply W.drw | with_reducible apply DG.nil | (with_reducible refine W.done (QB.n ?_))))
  (refine W.ret ?_; (repeat (with_reducible first | refine QB.r ?_ | refine QL.r ?_ | refine QC.r ?_)); refine QF.r ?_)
  rw [h]
  exact RetOk.rs (vs := [_]) r_seq_Diff []
theorem seqLess_ok (a n : Int) : ACall Try.prog 38 [.int .u32 a, .int .u32 n] (.bool (decide (sDiff a n < 0))) [] := by
  have c := seqDiff_ok a n
  generalize sDiff a n = z at c
  refine acall_walk (N := 9) Try.func38 (by kernel_rfl) p_seq_Less rfl ?_; unfold c_seq_Less; dsimp only [enum, Nat.reduceAdd]
  (repeat (first | ((with_reducible show RG _ _ (_ :: _) _ _ _); refine RG.go1 (k := ?_)) | ((with_reducible show DG _ _ (_ :: _) _ _ _ _ _); refine DG.go1 (k := ?_)) | with_reducible apply RG.nil | with_reducible apply W.seq | with_reducible apply W.reg | with_reducible apply W.skip | with_reducible apply W.block | with_reducible apply W.drw | with_reducible apply DG.nil | (with_reducible refine W.done (QB.n ?_))))
  (first | ((with_reducible show RG _ _ (_ :: _) _ _ _); refine RG.ca (c) (k := ?_)) | ((with_reducible show DG _ _ (_ :: _) _ _ _ _ _); refine DG.ca (c) (k := ?_)))
  (repeat (first | ((with_reducible show RG _ _ (_ :: _) _ _ _); refine RG.go1 (k := ?_)) | ((with_reducible show DG _ _ (_ :: _) _ _ _ _ _); refine DG.go1 (k := ?_)) | with_reducible apply RG.nil | with_reducible apply W.seq | with_reducible apply W.reg | with_reducible apply W.skip | with_reducible apply W.block | with_reducible apply W.drw | with_reducible apply DG.nil | (with_reducible refine W.done (QB.n ?_))))
  (refine W.ret ?_; (repeat (with_reducible first | refine QB.r ?_ | refine QL.r ?_ | refine QC.r ?_)); refine QF.r ?_)
  exact RetOk.rs (vs := [_]) r_seq_Less []
theorem qNew_ok (b : Int) : ACall Try.prog 10 [.int .u32 b] (qv false b [] [] b false 0 false) [] := by
  unfold qv
  refine acall_walk (N := 5) Try.func10 (by kernel_rfl) p_recvq_New rfl ?_; unfold c_recvq_New; dsimp only [enum, Nat.reduceAdd]
  (repeat (first | ((with_reducible show RG _ _ (_ :: _) _ _ _); refine RG.go1 (k := ?_)) | ((with_reducible show DG _ _ (_ :: _) _ _ _ _ _); refine DG.go1 (k := ?_)) | with_reducible apply RG.nil | with_reducible apply W.seq | with_reducible apply W.reg | with_reducible apply W.skip | with_reducible apply W.block | with_reducible apply W.drw | with_reducible apply DG.nil | (with_reducible refine W.done (QB.n ?_))))
  (refine W.ret ?_; (repeat (with_reducible first | refine QB.r ?_ | refine QL.r ?_ | refine QC.r ?_)); refine QF.r ?_)
  exact RetOk.rs (vs := [_]) r_recvq_New []
section
variable (b : Int) (data : List UInt8) (ps : List Pc) (b0 : Int) (kn : Bool) (ev : Int) (dn : Bool) (hd : data.length ≤ 1000) (hp : ps.length ≤ 100) (hg : ∀ p ∈ ps, p.2.length ≤ 1000)
include hd
theorem qWindow_ok : ACall Try.prog 13 [qv true b data ps b0 kn ev dn] (.int .i64 (256 - (data.length : Int))) [] := by
  have hl : (data.map by8).length = data.length := by simp
  unfold qv
  refine acall_walk (N := 7) Try.func13 (by kernel_rfl) p_recvq_Window rfl ?_; unfold c_recvq_Window; dsimp only [enum, Nat.reduceAdd]
  (repeat (first | ((with_reducible show RG _ _ (_ :: _) _ _ _); refine RG.go1 (k := ?_)) | ((with_reducible show DG _ _ (_ :: _) _ _ _ _ _); refine DG.go1 (k := ?_)) | with_reducible apply RG.nil | with_reducible apply W.seq | with_reducible apply W.reg | with_reducible apply W.skip | with_reducible apply W.block | with_reducible apply W.drw | with_reducible apply DG.nil | (with_reducible refine W.done (QB.n ?_))))
  (refine W.ret ?_; (repeat (with_reducible first | refine QB.r ?_ | refine QL.r ?_ | refine QC.r ?_)); refine QF.r ?_)
  rw [hl]
  exact RetOk.rs (vs := [_]) r_recvq_Window []
omit hd in
theorem qEnded_ok : ACall Try.prog 14 [qv true b data ps b0 kn ev dn] (.bool (dn && decide (data.length = 0))) [] := by
  have hl : (data.map by8).length = data.length := by simp
  unfold qv
  by_cases h0 : data.length = 0
  · rw [decide_eq_true h0]
    refine acall_walk (N := 11) Try.func14 (by kernel_rfl) p_recvq_Ended rfl ?_; unfold c_recvq_Ended; dsimp only [enum, Nat.reduceAdd]
    (repeat (first | ((with_reducible show RG _ _ (_ :: _) _ _ _); refine RG.go1 (k := ?_)) | ((with_reducible show DG _ _ (_ :: _) _ _ _ _ _); refine DG.go1 (k := ?_)) | with_reducible apply RG.nil | with_reducible apply W.seq | with_reducible apply W.reg | with_reducible apply W.skip | with_reducible apply W.block | with_reducible apply W.drw | with_reducible apply DG.nil | (with_reducible refine W.done (QB.n ?_))))
    (refine W.ret ?_; (repeat (with_reducible first | refine QB.r ?_ | refine QL.r ?_ | refine QC.r ?_)); refine QF.r ?_)
    exact RetOk.rs (vs := [_]) r_recvq_Ended []
  · rw [decide_eq_false h0]
    refine acall_walk (N := 11) Try.func14 (by kernel_rfl) p_recvq_Ended rfl ?_; unfold c_recvq_Ended; dsimp only [enum, Nat.reduceAdd]
    (repeat (first | ((with_reducible show RG _ _ (_ :: _) _ _ _); refine RG.go1 (k := ?_)) | ((with_reducible show DG _ _ (_ :: _) _ _ _ _ _); refine DG.go1 (k := ?_)) | with_reducible apply RG.nil | with_reducible apply W.seq | with_reducible apply W.reg | with_reducible apply W.skip | with_reducible apply W.block | with_reducible apply W.drw | with_reducible apply DG.nil | (with_reducible refine W.done (QB.n ?_))))
    (refine W.ret ?_; (repeat (with_reducible first | refine QB.r ?_ | refine QL.r ?_ | refine QC.r ?_)); refine QF.r ?_)
    exact RetOk.rs (vs := [_]) r_recvq_Ended []
include hp hg
theorem qClone_ok : ACall Try.prog 21 [qv true b data ps b0 kn ev dn] (.agg [.int .u32 b, .ref 0 1 0 data.length, .ref 1 2 0 ps.length, .bool kn, .int .u32 ev, .bool dn]) [⟨false, 1, data.map by8⟩, ⟨false, 2, ps.map (pc b0)⟩] := by
  have cl := cloneB_ok data (by omega)
  have el : (ps.map (pc b0)).length = ps.length := by simp
  unfold qv
  refine acall_walk (N := 32) Try.func21 (by kernel_rfl) p_recvq_Clone rfl ?_; unfold c_recvq_Clone; dsimp only [enum, Nat.reduceAdd]
  (repeat (first | ((with_reducible show RG _ _ (_ :: _) _ _ _); refine RG.go1 (k := ?_)) | ((with_reducible show DG _ _ (_ :: _) _ _ _ _ _); refine DG.go1 (k := ?_)) | with_reducible apply RG.nil | with_reducible apply W.seq | with_reducible apply W.reg | with_reducible apply W.skip | with_reducible apply W.block | with_reducible apply W.drw | with_reducible apply DG.nil | (with_reducible refine W.done (QB.n ?_))))
  (first | ((with_reducible show RG _ _ (_ :: _) _ _ _); refine RG.ca (cl) (k := ?_)) | ((with_reducible show DG _ _ (_ :: _) _ _ _ _ _); refine DG.ca (cl) (k := ?_)))
  (repeat (first | ((with_reducible show RG _ _ (_ :: _) _ _ _); refine RG.go1 (k := ?_)) | ((with_reducible show DG _ _ (_ :: _) _ _ _ _ _); refine DG.go1 (k := ?_)) | with_reducible apply RG.nil | with_reducible apply W.seq | with_reducible apply W.reg | with_reducible apply W.skip | with_reducible apply W.block | with_reducible apply W.drw | with_reducible apply DG.nil | (with_reducible refine W.done (QB.n ?_))))
  refine W.wk (Wk.nilB (b := 2) (i := 2) 2 rfl rfl) ?_ (by simp)
  refine W.loop (ι := {i : Nat // i ≤ ps.length}) (fun i => ⟨[(15, .int .i64 i.1), (14, .int .i64 ps.length), (13, .sl true 2 (ps.map (pc b0))), (1, .bptr 0 0), (2, .bptr 1 0), (3, .bptr 2 0)], [some [.int .u32 b, .sl true 1 (data.map by8), .sl true 2 (ps.map (pc b0)), .bool kn, .int .u32 ev, .bool dn], some [.int .u32 0, .nil, .nil, .bool false, .int .u32 0, .bool false], some [.int .u32 b, .ref 0 1 0 data.length, .ref 1 2 0 i.1, .bool kn, .int .u32 ev, .bool dn]], [some ⟨false, 1, data.map by8⟩, some ⟨false, 2, (ps.take i.1).map (pc b0)⟩], 3, 2⟩) (fun i => ps.length - i.1) ⟨0, Nat.zero_le _⟩ ?_ ?_
  · exact Wk.rn ([0, 1, 2] ) ( [0, 1])
  rintro ⟨i, hi⟩
  dsimp only
  (repeat (first | ((with_reducible show RG _ _ (_ :: _) _ _ _); refine RG.go1 (k := ?_)) | ((with_reducible show DG _ _ (_ :: _) _ _ _ _ _); refine DG.go1 (k := ?_)) | with_reducible apply RG.nil | with_reducible apply W.seq | with_reducible apply W.reg | with_reducible apply W.skip | with_reducible apply W.block | with_reducible apply W.drw | with_reducible apply DG.nil | (with_reducible refine W.done (QB.n ?_))))
  refine W.cnd (fun h1 => ?_) (fun h1 => ?_)
  · have hlt : i < ps.length := by simp at h1; omega
    have hE := pc_at b0 ps i hlt
    have hgi := hg _ (List.getElem_mem hlt)
    have hsn : (ps.take i).map (pc b0) ++ [.agg [.int .u32 (sAdd b0 ps[i].1), .sl false 1 (ps[i].2.map by8)]] = (ps.take (i + 1)).map (pc b0) := map_take_snoc (pc b0) ps i hlt
    have cb := cloneB_ok ps[i].2 (by omega)
    have hpp := pc_pure b0 (ps.take i)
    have etk : ((ps.take i).map (pc b0)).length = i := by simp; omega
    generalize ps[i] = p at hE hgi hsn cb
    (repeat (first | ((with_reducible show RG _ _ (_ :: _) _ _ _); refine RG.go1 (k := ?_)) | ((with_reducible show DG _ _ (_ :: _) _ _ _ _ _); refine DG.go1 (k := ?_)) | with_reducible apply RG.nil | with_reducible apply W.seq | with_reducible apply W.reg | with_reducible apply W.skip | with_reducible apply W.block | with_reducible apply W.drw | with_reducible apply DG.nil | (with_reducible refine W.done (QB.n ?_))))
    (first | ((with_reducible show RG _ _ (_ :: _) _ _ _); refine RG.ew (cptr_of (hE) (by (conv => lhs; whnf) <;> exact rfl)) (k := ?_)) | ((with_reducible show DG _ _ (_ :: _) _ _ _ _ _); refine DG.ew (cptr_of (hE) (by (conv => lhs; whnf) <;> exact rfl)) (k := ?_)))
    (repeat (first | ((with_reducible show RG _ _ (_ :: _) _ _ _); refine RG.go1 (k := ?_)) | ((with_reducible show DG _ _ (_ :: _) _ _ _ _ _); refine DG.go1 (k := ?_)) | with_reducible apply RG.nil | with_reducible apply W.seq | with_reducible apply W.reg | with_reducible apply W.skip | with_reducible apply W.block | with_reducible apply W.drw | with_reducible apply DG.nil | (with_reducible refine W.done (QB.n ?_))))
    (first | ((with_reducible show RG _ _ (_ :: _) _ _ _); refine RG.ca (cb) (k := ?_)) | ((with_reducible show DG _ _ (_ :: _) _ _ _ _ _); refine DG.ca (cb) (k := ?_)))
    (repeat (first | ((with_reducible show RG _ _ (_ :: _) _ _ _); refine RG.go1 (k := ?_)) | ((with_reducible show DG _ _ (_ :: _) _ _ _ _ _); refine DG.go1 (k := ?_)) | with_reducible apply RG.nil | with_reducible apply W.seq | with_reducible apply W.reg | with_reducible apply W.skip | with_reducible apply W.block | with_reducible apply W.drw | with_reducible apply DG.nil | (with_reducible refine W.done (QB.n ?_))))
    rw [hsn]
    refine W.done (QL.n (⟨i + 1, hlt⟩) ?_ ?_)
    · exact Wk.rn ([0, 1, 2] ) ( [0, 4])
    · dsimp only; omega
  · have hi' : i = ps.length := by simp at h1; omega
    subst hi'
    (refine W.exit ?_; (repeat (first | (with_reducible first | refine QL.x ?_ | refine QC.x ?_ | refine QB.x ?_) | (with_reducible refine QB.o (by decide) ?_))))
    (repeat (first | ((with_reducible show RG _ _ (_ :: _) _ _ _); refine RG.go1 (k := ?_)) | ((with_reducible show DG _ _ (_ :: _) _ _ _ _ _); refine DG.go1 (k := ?_)) | with_reducible apply RG.nil | with_reducible apply W.seq | with_reducible apply W.reg | with_reducible apply W.skip | with_reducible apply W.block | with_reducible apply W.drw | with_reducible apply DG.nil | (with_reducible refine W.done (QB.n ?_))))
    (refine W.ret ?_; (repeat (with_reducible first | refine QB.r ?_ | refine QL.r ?_ | refine QC.r ?_)); refine QF.r ?_)
    simp only [List.take_length]
    exact RetOk.rs (vs := [_]) r_recvq_Clone [0, 1]
theorem qRead_ok (n : Int) (k : Nat) (hk : (k : Int) = max 0 (min n (data.length : Int))) : ACall Try.prog 11 [qv true b data ps b0 kn ev dn, .int .i64 n] (.tup [qv false b (data.drop k) ps b0 kn ev dn, .ref 0 1 0 k]) [⟨false, 1, (data.take k).map by8⟩] := by
  have cc := qClone_ok b data ps b0 kn ev dn hd hp hg
  have hl : (data.map by8).length = data.length := by simp
  have hlp : (ps.map (pc b0)).length = ps.length := by simp
  have hcut : ((data.map by8).take (k : Int).toNat).drop (0 : Int).toNat = (data.take k).map by8 := by simp
  have hkl : k ≤ data.length := by omega
  have htl : (data.take k).length = k := by simp; omega
  have cb := cloneB_ok (data.take k) (by omega)
  rw [htl] at cb
  unfold qv at cc ⊢
  refine acall_walk (N := 27) Try.func11 (by kernel_rfl) p_recvq_Read rfl ?_; unfold c_recvq_Read; dsimp only [enum, Nat.reduceAdd]
  (repeat (first | ((with_reducible show RG _ _ (_ :: _) _ _ _); refine RG.go1 (k := ?_)) | ((with_reducible show DG _ _ (_ :: _) _ _ _ _ _); refine DG.go1 (k := ?_)) | with_reducible apply RG.nil | with_reducible apply W.seq | with_reducible apply W.reg | with_reducible apply W.skip | with_reducible apply W.block | with_reducible apply W.drw | with_reducible apply DG.nil | (with_reducible refine W.done (QB.n ?_))))
  (first | ((with_reducible show RG _ _ (_ :: _) _ _ _); refine RG.ca (cc) (k := ?_)) | ((with_reducible show DG _ _ (_ :: _) _ _ _ _ _); refine DG.ca (cc) (k := ?_)))
  (repeat (first | ((with_reducible show RG _ _ (_ :: _) _ _ _); refine RG.go1 (k := ?_)) | ((with_reducible show DG _ _ (_ :: _) _ _ _ _ _); refine DG.go1 (k := ?_)) | with_reducible apply RG.nil | with_reducible apply W.seq | with_reducible apply W.reg | with_reducible apply W.skip | with_reducible apply W.block | with_reducible apply W.drw | with_reducible apply DG.nil | (with_reducible refine W.done (QB.n ?_))))
  rw [hl, ← hk]
  (first | ((with_reducible show RG _ _ (_ :: _) _ _ _); refine RG.ew ((show AV.ref 0 1 (0 + (k : Int).toNat) ((data.length : Int) - (k : Int)).toNat = AV.ref 0 1 k (data.length - k) by congr 1 <;> omega)) (k := ?_)) | ((with_reducible show DG _ _ (_ :: _) _ _ _ _ _); refine DG.ew ((show AV.ref 0 1 (0 + (k : Int).toNat) ((data.length : Int) - (k : Int)).toNat = AV.ref 0 1 k (data.length - k) by congr 1 <;> omega)) (k := ?_)))
  (repeat (first | ((with_reducible show RG _ _ (_ :: _) _ _ _); refine RG.go1 (k := ?_)) | ((with_reducible show DG _ _ (_ :: _) _ _ _ _ _); refine DG.go1 (k := ?_)) | with_reducible apply RG.nil | with_reducible apply W.seq | with_reducible apply W.reg | with_reducible apply W.skip | with_reducible apply W.block | with_reducible apply W.drw | with_reducible apply DG.nil | (with_reducible refine W.done (QB.n ?_))))
  (first | ((with_reducible show RG _ _ (_ :: _) _ _ _); refine RG.ew (sl_of (hcut)) (k := ?_)) | ((with_reducible show DG _ _ (_ :: _) _ _ _ _ _); refine DG.ew (sl_of (hcut)) (k := ?_)))
  (repeat (first | ((with_reducible show RG _ _ (_ :: _) _ _ _); refine RG.go1 (k := ?_)) | ((with_reducible show DG _ _ (_ :: _) _ _ _ _ _); refine DG.go1 (k := ?_)) | with_reducible apply RG.nil | with_reducible apply W.seq | with_reducible apply W.reg | with_reducible apply W.skip | with_reducible apply W.block | with_reducible apply W.drw | with_reducible apply DG.nil | (with_reducible refine W.done (QB.n ?_))))
  (first | ((with_reducible show RG _ _ (_ :: _) _ _ _); refine RG.ca (cb) (k := ?_)) | ((with_reducible show DG _ _ (_ :: _) _ _ _ _ _); refine DG.ca (cb) (k := ?_)))
  (repeat (first | ((with_reducible show RG _ _ (_ :: _) _ _ _); refine RG.go1 (k := ?_)) | ((with_reducible show DG _ _ (_ :: _) _ _ _ _ _); refine DG.go1 (k := ?_)) | with_reducible apply RG.nil | with_reducible apply W.seq | with_reducible apply W.reg | with_reducible apply W.skip | with_reducible apply W.block | with_reducible apply W.drw | with_reducible apply DG.nil | (with_reducible refine W.done (QB.n ?_))))
  (refine W.ret ?_; (repeat (with_reducible first | refine QB.r ?_ | refine QL.r ?_ | refine QC.r ?_)); refine QF.r ?_)
  (refine RetOk.wk (Wk.frz (b := 0) rfl rfl) ?_; refine RetOk.wk (Wk.box (b := 1) (cs' := [_, _, _, _, _, _]) rfl (by dsimp only [ClL]; (repeat' (first | exact True.intro | exact Cl.ice rfl rfl rfl (by first | assumption | decide | omega | (simp; (first | (all_goals fail) | fail)) | (simp <;> omega)) (by first | exact take_all _ | exact take_len (by first | (simp; (first | (all_goals fail) | fail)) | (simp <;> omega)) | exact rfl) | exact Cl.le (.refl _) | apply And.intro)); (first | (all_goals fail) | fail))) ?_; dsimp only [setO])
  (refine RetOk.wk (Wk.frz (b := 1) rfl rfl) ?_; refine RetOk.wk (Wk.box (b := 1) (cs' := [_, _, _, _, _, _]) rfl (by dsimp only [ClL]; (repeat' (first | exact True.intro | exact Cl.ice rfl rfl rfl (by first | assumption | decide | omega | (simp; (first | (all_goals fail) | fail)) | (simp <;> omega)) (by first | exact take_all _ | exact take_len (by first | (simp; (first | (all_goals fail) | fail)) | (simp <;> omega)) | exact rfl) | exact Cl.le (.refl _) | apply And.intro)); (first | (all_goals fail) | fail))) ?_; dsimp only [setO])
  have hdr : (data.map by8).drop k = (data.drop k).map by8 := List.map_drop.symm
  rw [hdr]
  exact RetOk.rs (vs := [_, _]) r_recvq_Read [2]
end
end Go.Proofs.Ytmohmcgcggenfaa
