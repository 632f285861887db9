/- What the document's receiver computes: blank, front, runs, New, Window, Read. -/
import Derived.Test.YtmohmcgcggenfaaRq8
namespace Go.Proofs.Ytmohmcgcggenfaa
open Go.RowKit
set_option linter.unusedVariables false
set_option linter.unusedSimpArgs false
set_option maxRecDepth 100000
set_option maxHeartbeats 4000000
def gi (l : List Int) : List AV := l.map fun z => .int .i64 z
def rf (v : Bool) (nx : Int) (data : List UInt8) (got : List Int) (en : Int) (dn : Bool) : AV := .agg [.int .u32 nx, .str data, .sl v 1 (gi got), .int .i64 en, .bool dn]
theorem gi_pure (l : List Int) : (gi l).all pureV = true := by simp [gi, pureV, pureC]
theorem gi_len (l : List Int) : (gi l).length = l.length := by simp [gi]
theorem gi_snoc (l : List Int) (z : Int) : gi l ++ [.int .i64 z] = gi (l ++ [z]) := by simp [gi]
theorem gi_at (l : List Int) (i : Nat) (h : i < l.length) : (gi l)[((i : Nat) : Int).toNat]?.getD .any = .int .i64 l[i] := at_map (fun z => AV.int .i64 z) l i _ (List.getElem?_eq_getElem h) (by simp)
theorem blank_ok (n : Nat) (hn : n ≤ 1000) : ACall Try.prog 27 [.int .i64 n] (.sl false 1 (gi (List.replicate n (-1)))) [] := by
  refine acall_walk (N := 14) Try.func27 (by kernel_rfl) p_caravelref17_blank rfl ?_; unfold c_caravelref17_blank; dsimp only [enum, Nat.reduceAdd]
  (repeat (first | ((with_reducible show RG _ _ (_ :: _) _ _ _); refine RG.go1 (k := ?_)) | ((with_reducible show DG _ _ (_ :: _) _ _ _ _ _); refine DG.go1 (k := ?_)) | with_reducible apply RG.nil | with_reducible apply W.seq | with_reducible apply W.reg | with_reducible apply W.skip | with_reducible apply W.block | with_reducible apply W.drw | with_reducible apply DG.nil | (with_reducible refine W.done (QB.n ?_))))
  refine W.wk (Wk.nilT (t := 3) 1 rfl) ?_ (by simp)
  refine W.loop (ι := {i : Nat // i ≤ n}) (fun i => ⟨[(4, .int .i64 i.1), (0, .int .i64 n), (3, .ref 0 1 0 i.1)], [], [some ⟨false, 1, gi (List.replicate i.1 (-1))⟩], 0, 1⟩) (fun i => n - i.1) ⟨0, Nat.zero_le _⟩ ?_ ?_
  · exact Wk.rn ([] ) ( [0])
  rintro ⟨i, hi⟩
  dsimp only
  have hp := gi_pure (List.replicate i (-1))
  have hl : (gi (List.replicate i (-1))).length = i := by rw [gi_len]; simp
  (repeat (first | ((with_reducible show RG _ _ (_ :: _) _ _ _); refine RG.go1 (k := ?_)) | ((with_reducible show DG _ _ (_ :: _) _ _ _ _ _); refine DG.go1 (k := ?_)) | with_reducible apply RG.nil | with_reducible apply W.seq | with_reducible apply W.reg | with_reducible apply W.skip | with_reducible apply W.block | with_reducible apply W.drw | with_reducible apply DG.nil | (with_reducible refine W.done (QB.n ?_))))
  refine W.cnd (fun h1 => ?_) (fun h1 => ?_)
  · have hlt : i < n := by simp at h1; omega
    have hsn : gi (List.replicate i (-1)) ++ [.int .i64 (-1)] = gi (List.replicate (i + 1) (-1)) := by rw [gi_snoc, List.replicate_succ']
    (repeat (first | ((with_reducible show RG _ _ (_ :: _) _ _ _); refine RG.go1 (k := ?_)) | ((with_reducible show DG _ _ (_ :: _) _ _ _ _ _); refine DG.go1 (k := ?_)) | with_reducible apply RG.nil | with_reducible apply W.seq | with_reducible apply W.reg | with_reducible apply W.skip | with_reducible apply W.block | with_reducible apply W.drw | with_reducible apply DG.nil | (with_reducible refine W.done (QB.n ?_))))
    rw [hsn]
    refine W.done (QL.n (⟨i + 1, hlt⟩) ?_ ?_)
    · exact Wk.rn ([] ) ( [2])
    · dsimp only; omega
  have hi2 : i = n := by simp at h1; omega
  subst hi2
  (refine W.exit ?_; (repeat (first | (with_reducible first | refine QL.x ?_ | refine QC.x ?_ | refine QB.x ?_) | (with_reducible refine QB.o (by decide) ?_))))
  (repeat (first | ((with_reducible show RG _ _ (_ :: _) _ _ _); refine RG.go1 (k := ?_)) | ((with_reducible show DG _ _ (_ :: _) _ _ _ _ _); refine DG.go1 (k := ?_)) | with_reducible apply RG.nil | with_reducible apply W.seq | with_reducible apply W.reg | with_reducible apply W.skip | with_reducible apply W.block | with_reducible apply W.drw | with_reducible apply DG.nil | (with_reducible refine W.done (QB.n ?_))))
  (refine W.ret ?_; (repeat (with_reducible first | refine QB.r ?_ | refine QL.r ?_ | refine QC.r ?_)); refine QF.r ?_)
  (refine RetOk.wk (Wk.frz (b := 0) rfl rfl) ?_; refine RetOk.wk (Wk.tmp (t := 2) (Cl.ice rfl rfl rfl (by first | assumption | decide | omega | (simp; (first | (all_goals fail) | fail)) | (simp <;> omega)) (by first | exact take_all _ | exact take_len (by first | (simp; (first | (all_goals fail) | fail)) | (simp <;> omega)) | exact rfl))) ?_; dsimp only [setO])
  exact RetOk.rs (vs := [_]) r_caravelref17_blank []
/-- The bytes from the front on. -/
def frontI (l : List Int) : List UInt8 := (l.takeWhile fun z => decide (0 ≤ z)).map fun z => UInt8.ofNat z.toNat
/-- How many pieces don't begin at the front. -/
def runsI : List Int → Nat
  | a :: b :: l => (if 0 ≤ b ∧ a < 0 then 1 else 0) + runsI (b :: l)
  | _ => 0
theorem rWindow_ok (v : Bool) (nx : Int) (data : List UInt8) (got : List Int) (en : Int) (dn : Bool) (hd : data.length ≤ 1000) : ACall Try.prog 20 [rf v nx data got en dn] (.int .i64 (256 - (data.length : Int))) [] := by
  unfold rf
  refine acall_walk (N := 7) Try.func20 (by kernel_rfl) p_caravelref17_Window rfl ?_; unfold c_caravelref17_Window; dsimp only [enum, Nat.reduceAdd]
  (repeat (first | ((with_reducible show RG _ _ (_ :: _) _ _ _); refine RG.go1 (k := ?_)) | ((with_reducible show DG _ _ (_ :: _) _ _ _ _ _); refine DG.go1 (k := ?_)) | with_reducible apply RG.nil | with_reducible apply W.seq | with_reducible apply W.reg | with_reducible apply W.skip | with_reducible apply W.block | with_reducible apply W.drw | with_reducible apply DG.nil | (with_reducible refine W.done (QB.n ?_))))
  (refine W.ret ?_; (repeat (with_reducible first | refine QB.r ?_ | refine QL.r ?_ | refine QC.r ?_)); refine QF.r ?_)
  exact RetOk.rs (vs := [_]) r_caravelref17_Window []
theorem rNew_ok (b : Int) : ACall Try.prog 15 [.int .u32 b] (rf false b [] (List.replicate 256 (-1)) (-1) false) [] := by
  have c := blank_ok 256 (by decide)
  unfold rf
  generalize gi (List.replicate 256 (-1)) = g at c ⊢
  refine acall_walk (N := 6) Try.func15 (by kernel_rfl) p_caravelref17_New rfl ?_; unfold c_caravelref17_New; dsimp only [enum, Nat.reduceAdd]
  (repeat (first | ((with_reducible show RG _ _ (_ :: _) _ _ _); refine RG.go1 (k := ?_)) | ((with_reducible show DG _ _ (_ :: _) _ _ _ _ _); refine DG.go1 (k := ?_)) | with_reducible apply RG.nil | with_reducible apply W.seq | with_reducible apply W.reg | with_reducible apply W.skip | with_reducible apply W.block | with_reducible apply W.drw | with_reducible apply DG.nil | (with_reducible refine W.done (QB.n ?_))))
  (first | ((with_reducible show RG _ _ (_ :: _) _ _ _); refine RG.ca (c) (k := ?_)) | ((with_reducible show DG _ _ (_ :: _) _ _ _ _ _); refine DG.ca (c) (k := ?_)))
  (repeat (first | ((with_reducible show RG _ _ (_ :: _) _ _ _); refine RG.go1 (k := ?_)) | ((with_reducible show DG _ _ (_ :: _) _ _ _ _ _); refine DG.go1 (k := ?_)) | with_reducible apply RG.nil | with_reducible apply W.seq | with_reducible apply W.reg | with_reducible apply W.skip | with_reducible apply W.block | with_reducible apply W.drw | with_reducible apply DG.nil | (with_reducible refine W.done (QB.n ?_))))
  (refine W.ret ?_; (repeat (with_reducible first | refine QB.r ?_ | refine QL.r ?_ | refine QC.r ?_)); refine QF.r ?_)
  exact RetOk.rs (vs := [_]) r_caravelref17_New []
theorem str_eqr {a b : List UInt8} (h : a = b) : AV.str a = AV.str b := by rw [h]
theorem rRead_ok (nx : Int) (data : List UInt8) (got : List Int) (en : Int) (dn : Bool) (hd : data.length ≤ 1000) (n : Int) (k : Nat) (hk : (k : Int) = max 0 (min n (data.length : Int))) :
    ACall Try.prog 16 [rf false nx data got en dn, .int .i64 n] (.tup [rf false nx (data.drop k) got en dn, .str (data.take k)]) [] := by
  have h1 : (data.take (k : Int).toNat).drop (0 : Int).toNat = data.take k := by simp
  have h2 : (data.take (data.length : Int).toNat).drop (k : Int).toNat = data.drop k := by simp
  have hkl : k ≤ data.length := by omega
  unfold rf
  generalize gi got = g
  refine acall_walk (N := 25) Try.func16 (by kernel_rfl) p_caravelref17_Read rfl ?_; unfold c_caravelref17_Read; dsimp only [enum, Nat.reduceAdd]
  (repeat (first | ((with_reducible show RG _ _ (_ :: _) _ _ _); refine RG.go1 (k := ?_)) | ((with_reducible show DG _ _ (_ :: _) _ _ _ _ _); refine DG.go1 (k := ?_)) | with_reducible apply RG.nil | with_reducible apply W.seq | with_reducible apply W.reg | with_reducible apply W.skip | with_reducible apply W.block | with_reducible apply W.drw | with_reducible apply DG.nil | (with_reducible refine W.done (QB.n ?_))))
  rw [← hk]
  (first | ((with_reducible show RG _ _ (_ :: _) _ _ _); refine RG.ew (str_eqr h1) (k := ?_)) | ((with_reducible show DG _ _ (_ :: _) _ _ _ _ _); refine DG.ew (str_eqr h1) (k := ?_)))
  (repeat (first | ((with_reducible show RG _ _ (_ :: _) _ _ _); refine RG.go1 (k := ?_)) | ((with_reducible show DG _ _ (_ :: _) _ _ _ _ _); refine DG.go1 (k := ?_)) | with_reducible apply RG.nil | with_reducible apply W.seq | with_reducible apply W.reg | with_reducible apply W.skip | with_reducible apply W.block | with_reducible apply W.drw | with_reducible apply DG.nil | (with_reducible refine W.done (QB.n ?_))))
  (first | ((with_reducible show RG _ _ (_ :: _) _ _ _); refine RG.ew (str_eqr h2) (k := ?_)) | ((with_reducible show DG _ _ (_ :: _) _ _ _ _ _); refine DG.ew (str_eqr h2) (k := ?_)))
  (repeat (first | ((with_reducible show RG _ _ (_ :: _) _ _ _); refine RG.go1 (k := ?_)) | ((with_reducible show DG _ _ (_ :: _) _ _ _ _ _); refine DG.go1 (k := ?_)) | with_reducible apply RG.nil | with_reducible apply W.seq | with_reducible apply W.reg | with_reducible apply W.skip | with_reducible apply W.block | with_reducible apply W.drw | with_reducible apply DG.nil | (with_reducible refine W.done (QB.n ?_))))
  (refine W.ret ?_; (repeat (with_reducible first | refine QB.r ?_ | refine QL.r ?_ | refine QC.r ?_)); refine QF.r ?_)
  exact RetOk.rs (vs := [_, _]) r_caravelref17_Read []
end Go.Proofs.Ytmohmcgcggenfaa
