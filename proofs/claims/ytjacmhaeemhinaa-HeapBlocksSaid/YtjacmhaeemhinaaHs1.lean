/- Functions of package slices, at blocks, bytes, truth values. -/
import Derived.Test.YtjacmhaeemhinaaCode
import Derived.Test.YtjacmhaeemhinaaAxR
namespace Go.Proofs.Ytjacmhaeemhinaa
open Go.RowKit
set_option linter.unusedVariables false
set_option linter.unusedSimpArgs false
set_option maxRecDepth 100000
set_option maxHeartbeats 4000000
structure Blk where
  at_ : Int
  ln : Int
def bo (b : Bool) : AV := .bool b
theorem bo_pure (l : List Bool) : (l.map bo).all pureV = true := by simp [bo, pureV, pureC]
theorem bo_len (l : List Bool) : (l.map bo).length = l.length := by simp
theorem by8_len (l : List UInt8) : (l.map by8).length = l.length := by simp
def bk (x : Blk) : AV := .agg [.int .i64 x.at_, .int .i64 x.ln]
theorem bk_at (l : List Blk) (i : Nat) (h : i < l.length) {j : Nat} (hj : j = i) : (l.map bk)[j]?.getD .any = .agg [.int .i64 l[i].at_, .int .i64 l[i].ln] := at_map bk l i _ (List.getElem?_eq_getElem h) hj
theorem bk_pure (l : List Blk) : (l.map bk).all pureV = true := by simp [bk, pureV, pureC]
theorem bk_len (l : List Blk) : (l.map bk).length = l.length := by simp

theorem ybclone0 (es : List AV) (hp : es.all pureV = true) (hl : es.length ≤ 1000000) : ACall Try.prog 30 [.sl true 1 es] (.ref 0 1 0 es.length) [⟨false, 1, es⟩] := by
  by_cases hne : es = []
  · subst hne
    refine acall_empty 0 rfl ?_ (fun a c hc => ?_)
    · dsimp only [List.set]
      refine acall_walk (N := 8) Try.func30 (by kernel_rfl) p_slices_Clone__byte_byte rfl ?_; unfold c_slices_Clone__byte_byte; dsimp only [enum, Nat.reduceAdd]
      (repeat (first | ((with_reducible show RG _ _ (_ :: _) _ _ _); refine RG.go1 (k := ?_)) | ((with_reducible show DG _ _ (_ :: _) _ _ _ _ _); refine DG.go1 (k := ?_)) | (with_reducible first | apply RG.nil | apply W.seq | apply W.reg | apply W.skip | apply W.block | apply W.drw | apply DG.nil | refine W.done (QB.n ?_))))
      refine W.cndT ?_
      (repeat (first | ((with_reducible show RG _ _ (_ :: _) _ _ _); refine RG.go1 (k := ?_)) | ((with_reducible show DG _ _ (_ :: _) _ _ _ _ _); refine DG.go1 (k := ?_)) | (with_reducible first | apply RG.nil | apply W.seq | apply W.reg | apply W.skip | apply W.block | apply W.drw | apply DG.nil | refine W.done (QB.n ?_))))
      (refine W.ret ?_; (repeat (with_reducible first | refine QB.r ?_ | refine QL.r ?_ | refine QC.r ?_)); refine QF.r ?_)
      refine RetOk.wk (Wk.nilT (t := 2) 1 rfl) ?_
      exact RetOk.rs (vs := [_]) r_slices_Clone__byte_byte [0]
    · dsimp only [List.set]
      refine acall_walk (N := 8) Try.func30 (by kernel_rfl) p_slices_Clone__byte_byte rfl ?_; unfold c_slices_Clone__byte_byte; dsimp only [enum, Nat.reduceAdd]
      (repeat (first | ((with_reducible show RG _ _ (_ :: _) _ _ _); refine RG.go1 (k := ?_)) | ((with_reducible show DG _ _ (_ :: _) _ _ _ _ _); refine DG.go1 (k := ?_)) | (with_reducible first | apply RG.nil | apply W.seq | apply W.reg | apply W.skip | apply W.block | apply W.drw | apply DG.nil | refine W.done (QB.n ?_))))
      refine W.cndF ?_
      (repeat (first | ((with_reducible show RG _ _ (_ :: _) _ _ _); refine RG.go1 (k := ?_)) | ((with_reducible show DG _ _ (_ :: _) _ _ _ _ _); refine DG.go1 (k := ?_)) | (with_reducible first | apply RG.nil | apply W.seq | apply W.reg | apply W.skip | apply W.block | apply W.drw | apply DG.nil | refine W.done (QB.n ?_))))
      (refine W.ret ?_; (repeat (with_reducible first | refine QB.r ?_ | refine QL.r ?_ | refine QC.r ?_)); refine QF.r ?_)
      exact RetOk.rs (vs := [_]) r_slices_Clone__byte_byte [1]
  · refine acall_walk (N := 8) Try.func30 (by kernel_rfl) p_slices_Clone__byte_byte rfl ?_; unfold c_slices_Clone__byte_byte; dsimp only [enum, Nat.reduceAdd]
    (repeat (first | ((with_reducible show RG _ _ (_ :: _) _ _ _); refine RG.go1 (k := ?_)) | ((with_reducible show DG _ _ (_ :: _) _ _ _ _ _); refine DG.go1 (k := ?_)) | (with_reducible first | apply RG.nil | apply W.seq | apply W.reg | apply W.skip | apply W.block | apply W.drw | apply DG.nil | refine W.done (QB.n ?_))))
    refine W.cndF ?_
    (repeat (first | ((with_reducible show RG _ _ (_ :: _) _ _ _); refine RG.go1 (k := ?_)) | ((with_reducible show DG _ _ (_ :: _) _ _ _ _ _); refine DG.go1 (k := ?_)) | (with_reducible first | apply RG.nil | apply W.seq | apply W.reg | apply W.skip | apply W.block | apply W.drw | apply DG.nil | refine W.done (QB.n ?_))))
    (refine W.ret ?_; (repeat (with_reducible first | refine QB.r ?_ | refine QL.r ?_ | refine QC.r ?_)); refine QF.r ?_)
    exact RetOk.rs (vs := [_]) r_slices_Clone__byte_byte [1]
theorem ybClone_ok (l : List UInt8) (hl : l.length ≤ 1000000) : ACall Try.prog 30 [.sl true 1 (l.map by8)] (.ref 0 1 0 l.length) [⟨false, 1, l.map by8⟩] := by
  have := ybclone0 (l.map by8) (by8_pure _) (by simpa using hl)
  rw [List.length_map] at this; exact this
theorem bbclone0 (es : List AV) (hp : es.all pureV = true) (hl : es.length ≤ 1000000) : ACall Try.prog 39 [.sl true 1 es] (.ref 0 1 0 es.length) [⟨false, 1, es⟩] := by
  by_cases hne : es = []
  · subst hne
    refine acall_empty 0 rfl ?_ (fun a c hc => ?_)
    · dsimp only [List.set]
      refine acall_walk (N := 8) Try.func39 (by kernel_rfl) p_slices_Clone__bool_bool rfl ?_; unfold c_slices_Clone__bool_bool; dsimp only [enum, Nat.reduceAdd]
      (repeat (first | ((with_reducible show RG _ _ (_ :: _) _ _ _); refine RG.go1 (k := ?_)) | ((with_reducible show DG _ _ (_ :: _) _ _ _ _ _); refine DG.go1 (k := ?_)) | (with_reducible first | apply RG.nil | apply W.seq | apply W.reg | apply W.skip | apply W.block | apply W.drw | apply DG.nil | refine W.done (QB.n ?_))))
      refine W.cndT ?_
      (repeat (first | ((with_reducible show RG _ _ (_ :: _) _ _ _); refine RG.go1 (k := ?_)) | ((with_reducible show DG _ _ (_ :: _) _ _ _ _ _); refine DG.go1 (k := ?_)) | (with_reducible first | apply RG.nil | apply W.seq | apply W.reg | apply W.skip | apply W.block | apply W.drw | apply DG.nil | refine W.done (QB.n ?_))))
      (refine W.ret ?_; (repeat (with_reducible first | refine QB.r ?_ | refine QL.r ?_ | refine QC.r ?_)); refine QF.r ?_)
      refine RetOk.wk (Wk.nilT (t := 2) 1 rfl) ?_
      exact RetOk.rs (vs := [_]) r_slices_Clone__bool_bool [0]
    · dsimp only [List.set]
      refine acall_walk (N := 8) Try.func39 (by kernel_rfl) p_slices_Clone__bool_bool rfl ?_; unfold c_slices_Clone__bool_bool; dsimp only [enum, Nat.reduceAdd]
      (repeat (first | ((with_reducible show RG _ _ (_ :: _) _ _ _); refine RG.go1 (k := ?_)) | ((with_reducible show DG _ _ (_ :: _) _ _ _ _ _); refine DG.go1 (k := ?_)) | (with_reducible first | apply RG.nil | apply W.seq | apply W.reg | apply W.skip | apply W.block | apply W.drw | apply DG.nil | refine W.done (QB.n ?_))))
      refine W.cndF ?_
      (repeat (first | ((with_reducible show RG _ _ (_ :: _) _ _ _); refine RG.go1 (k := ?_)) | ((with_reducible show DG _ _ (_ :: _) _ _ _ _ _); refine DG.go1 (k := ?_)) | (with_reducible first | apply RG.nil | apply W.seq | apply W.reg | apply W.skip | apply W.block | apply W.drw | apply DG.nil | refine W.done (QB.n ?_))))
      (refine W.ret ?_; (repeat (with_reducible first | refine QB.r ?_ | refine QL.r ?_ | refine QC.r ?_)); refine QF.r ?_)
      exact RetOk.rs (vs := [_]) r_slices_Clone__bool_bool [1]
  · refine acall_walk (N := 8) Try.func39 (by kernel_rfl) p_slices_Clone__bool_bool rfl ?_; unfold c_slices_Clone__bool_bool; dsimp only [enum, Nat.reduceAdd]
    (repeat (first | ((with_reducible show RG _ _ (_ :: _) _ _ _); refine RG.go1 (k := ?_)) | ((with_reducible show DG _ _ (_ :: _) _ _ _ _ _); refine DG.go1 (k := ?_)) | (with_reducible first | apply RG.nil | apply W.seq | apply W.reg | apply W.skip | apply W.block | apply W.drw | apply DG.nil | refine W.done (QB.n ?_))))
    refine W.cndF ?_
    (repeat (first | ((with_reducible show RG _ _ (_ :: _) _ _ _); refine RG.go1 (k := ?_)) | ((with_reducible show DG _ _ (_ :: _) _ _ _ _ _); refine DG.go1 (k := ?_)) | (with_reducible first | apply RG.nil | apply W.seq | apply W.reg | apply W.skip | apply W.block | apply W.drw | apply DG.nil | refine W.done (QB.n ?_))))
    (refine W.ret ?_; (repeat (with_reducible first | refine QB.r ?_ | refine QL.r ?_ | refine QC.r ?_)); refine QF.r ?_)
    exact RetOk.rs (vs := [_]) r_slices_Clone__bool_bool [1]
theorem bbClone_ok (l : List Bool) (hl : l.length ≤ 1000000) : ACall Try.prog 39 [.sl true 1 (l.map bo)] (.ref 0 1 0 l.length) [⟨false, 1, l.map bo⟩] := by
  have := bbclone0 (l.map bo) (bo_pure _) (by simpa using hl)
  rw [List.length_map] at this; exact this
theorem bkClone_ok (l : List Blk) (hl : l.length ≤ 1000000) : ACall Try.prog 38 [.sl true 2 (l.map bk)] (.ref 0 2 0 l.length) [⟨false, 2, l.map bk⟩] := by
  have el := bk_len l
  have hp := bk_pure l
  by_cases hne : l = []
  · subst hne
    refine acall_empty 0 rfl ?_ (fun a c hc => ?_)
    · dsimp only [List.set]
      refine acall_walk (N := 8) Try.func38 (by kernel_rfl) p_slices_Clone__caravel_api_Block_caravel_api_Block rfl ?_; unfold c_slices_Clone__caravel_api_Block_caravel_api_Block; dsimp only [enum, Nat.reduceAdd]
      (repeat (first | ((with_reducible show RG _ _ (_ :: _) _ _ _); refine RG.go1 (k := ?_)) | ((with_reducible show DG _ _ (_ :: _) _ _ _ _ _); refine DG.go1 (k := ?_)) | (with_reducible first | apply RG.nil | apply W.seq | apply W.reg | apply W.skip | apply W.block | apply W.drw | apply DG.nil | refine W.done (QB.n ?_))))
      refine W.cndT ?_
      (repeat (first | ((with_reducible show RG _ _ (_ :: _) _ _ _); refine RG.go1 (k := ?_)) | ((with_reducible show DG _ _ (_ :: _) _ _ _ _ _); refine DG.go1 (k := ?_)) | (with_reducible first | apply RG.nil | apply W.seq | apply W.reg | apply W.skip | apply W.block | apply W.drw | apply DG.nil | refine W.done (QB.n ?_))))
      (refine W.ret ?_; (repeat (with_reducible first | refine QB.r ?_ | refine QL.r ?_ | refine QC.r ?_)); refine QF.r ?_)
      refine RetOk.wk (Wk.nilT (t := 2) 2 rfl) ?_
      exact RetOk.rs (vs := [_]) r_slices_Clone__caravel_api_Block_caravel_api_Block [0]
    · dsimp only [List.set]
      refine acall_walk (N := 8) Try.func38 (by kernel_rfl) p_slices_Clone__caravel_api_Block_caravel_api_Block rfl ?_; unfold c_slices_Clone__caravel_api_Block_caravel_api_Block; dsimp only [enum, Nat.reduceAdd]
      (repeat (first | ((with_reducible show RG _ _ (_ :: _) _ _ _); refine RG.go1 (k := ?_)) | ((with_reducible show DG _ _ (_ :: _) _ _ _ _ _); refine DG.go1 (k := ?_)) | (with_reducible first | apply RG.nil | apply W.seq | apply W.reg | apply W.skip | apply W.block | apply W.drw | apply DG.nil | refine W.done (QB.n ?_))))
      refine W.cndF ?_
      (repeat (first | ((with_reducible show RG _ _ (_ :: _) _ _ _); refine RG.go1 (k := ?_)) | ((with_reducible show DG _ _ (_ :: _) _ _ _ _ _); refine DG.go1 (k := ?_)) | (with_reducible first | apply RG.nil | apply W.seq | apply W.reg | apply W.skip | apply W.block | apply W.drw | apply DG.nil | refine W.done (QB.n ?_))))
      (refine W.ret ?_; (repeat (with_reducible first | refine QB.r ?_ | refine QL.r ?_ | refine QC.r ?_)); refine QF.r ?_)
      exact RetOk.rs (vs := [_]) r_slices_Clone__caravel_api_Block_caravel_api_Block [1]
  · have hne' : l.map bk ≠ [] := by simpa using hne
    refine acall_walk (N := 8) Try.func38 (by kernel_rfl) p_slices_Clone__caravel_api_Block_caravel_api_Block rfl ?_; unfold c_slices_Clone__caravel_api_Block_caravel_api_Block; dsimp only [enum, Nat.reduceAdd]
    (repeat (first | ((with_reducible show RG _ _ (_ :: _) _ _ _); refine RG.go1 (k := ?_)) | ((with_reducible show DG _ _ (_ :: _) _ _ _ _ _); refine DG.go1 (k := ?_)) | (with_reducible first | apply RG.nil | apply W.seq | apply W.reg | apply W.skip | apply W.block | apply W.drw | apply DG.nil | refine W.done (QB.n ?_))))
    refine W.cndF ?_
    (repeat (first | ((with_reducible show RG _ _ (_ :: _) _ _ _); refine RG.go1 (k := ?_)) | ((with_reducible show DG _ _ (_ :: _) _ _ _ _ _); refine DG.go1 (k := ?_)) | (with_reducible first | apply RG.nil | apply W.seq | apply W.reg | apply W.skip | apply W.block | apply W.drw | apply DG.nil | refine W.done (QB.n ?_))))
    (refine W.ret ?_; (repeat (with_reducible first | refine QB.r ?_ | refine QL.r ?_ | refine QC.r ?_)); refine QF.r ?_)
    rw [el]
    exact RetOk.rs (vs := [_]) r_slices_Clone__caravel_api_Block_caravel_api_Block [1]
theorem bkIndex_ok (l : List Blk) (hl : l.length ≤ 1000000) (f : Nat) (ca : Int) (pr : Blk → Bool) (hf : ∀ x ∈ l, ACall Try.prog f [.agg [.int .i64 x.at_, .int .i64 x.ln], .cptr true [.int .i64 ca]] (.bool (pr x)) []) :
    ACall Try.prog 44 [.sl true 2 (l.map bk), .fn f [.cptr true [.int .i64 ca]]] (.int .i64 (if l.any pr then (l.findIdx pr : Int) else -1)) [] := by
  have el := bk_len l
  refine acall_walk (N := 19) Try.func44 (by kernel_rfl) p_slices_IndexFunc__caravel_api_Block_caravel_api_Block rfl ?_; unfold c_slices_IndexFunc__caravel_api_Block_caravel_api_Block; dsimp only [enum, Nat.reduceAdd]
  (repeat (first | ((with_reducible show RG _ _ (_ :: _) _ _ _); refine RG.go1 (k := ?_)) | ((with_reducible show DG _ _ (_ :: _) _ _ _ _ _); refine DG.go1 (k := ?_)) | (with_reducible first | apply RG.nil | apply W.seq | apply W.reg | apply W.skip | apply W.block | apply W.drw | apply DG.nil | refine W.done (QB.n ?_))))
  refine W.loop (ι := {i : Nat // i ≤ l.length ∧ ∀ j : Nat, (h : j < l.length) → j < i → pr l[j] = false}) (fun i => ⟨[(8, .int .i64 i.1), (7, .int .i64 l.length), (0, .sl true 2 (l.map bk)), (1, .fn f [.cptr true [.int .i64 ca]])], [], [], 0, 0⟩) (fun i => l.length - i.1) ⟨0, Nat.zero_le _, fun j _ h => absurd h (Nat.not_lt_zero _)⟩ ?_ ?_
  · exact Wk.rn ([] ) ( [])
  rintro ⟨i, hi, hall⟩
  dsimp only
  (repeat (first | ((with_reducible show RG _ _ (_ :: _) _ _ _); refine RG.go1 (k := ?_)) | ((with_reducible show DG _ _ (_ :: _) _ _ _ _ _); refine DG.go1 (k := ?_)) | (with_reducible first | apply RG.nil | apply W.seq | apply W.reg | apply W.skip | apply W.block | apply W.drw | apply DG.nil | refine W.done (QB.n ?_))))
  refine W.cnd (fun h1 => ?_) (fun h1 => ?_)
  · have hlt : i < l.length := by simp at h1; omega
    have hE := bk_at l i hlt (j := ((i : Nat) : Int).toNat) (by simp)
    have hc := hf _ (List.getElem_mem hlt)
    cases hpi : pr l[i]
    · rw [hpi] at hc
      (repeat (first | ((with_reducible show RG _ _ (_ :: _) _ _ _); refine RG.go1 (k := ?_)) | ((with_reducible show DG _ _ (_ :: _) _ _ _ _ _); refine DG.go1 (k := ?_)) | (with_reducible first | apply RG.nil | apply W.seq | apply W.reg | apply W.skip | apply W.block | apply W.drw | apply DG.nil | refine W.done (QB.n ?_))))
      (first | ((with_reducible show RG _ _ (_ :: _) _ _ _); refine RG.ew (cptr_of (hE) (by (conv => lhs; whnf) <;> exact rfl)) (k := ?_)) | ((with_reducible show DG _ _ (_ :: _) _ _ _ _ _); refine DG.ew (cptr_of (hE) (by (conv => lhs; whnf) <;> exact rfl)) (k := ?_)))
      (repeat (first | ((with_reducible show RG _ _ (_ :: _) _ _ _); refine RG.go1 (k := ?_)) | ((with_reducible show DG _ _ (_ :: _) _ _ _ _ _); refine DG.go1 (k := ?_)) | (with_reducible first | apply RG.nil | apply W.seq | apply W.reg | apply W.skip | apply W.block | apply W.drw | apply DG.nil | refine W.done (QB.n ?_))))
      (first | ((with_reducible show RG _ _ (_ :: _) _ _ _); refine RG.cav (hc) (k := ?_)) | ((with_reducible show DG _ _ (_ :: _) _ _ _ _ _); refine DG.cav (hc) (k := ?_)))
      (repeat (first | ((with_reducible show RG _ _ (_ :: _) _ _ _); refine RG.go1 (k := ?_)) | ((with_reducible show DG _ _ (_ :: _) _ _ _ _ _); refine DG.go1 (k := ?_)) | (with_reducible first | apply RG.nil | apply W.seq | apply W.reg | apply W.skip | apply W.block | apply W.drw | apply DG.nil | refine W.done (QB.n ?_))))
      refine W.cndF ?_
      (repeat (first | ((with_reducible show RG _ _ (_ :: _) _ _ _); refine RG.go1 (k := ?_)) | ((with_reducible show DG _ _ (_ :: _) _ _ _ _ _); refine DG.go1 (k := ?_)) | (with_reducible first | apply RG.nil | apply W.seq | apply W.reg | apply W.skip | apply W.block | apply W.drw | apply DG.nil | refine W.done (QB.n ?_))))
      refine W.done (QL.n (⟨i + 1, by omega, fun j hj hji => by
        rcases Nat.lt_or_ge j i with q | q
        · exact hall j hj q
        · obtain rfl : j = i := by omega
          exact hpi⟩) ?_ ?_)
      · exact Wk.rn ([] ) ( [])
      · dsimp only; omega
    · rw [hpi] at hc
      have hany : l.any pr = true := by rw [List.any_eq_true]; exact ⟨_, List.getElem_mem hlt, hpi⟩
      have hidx : l.findIdx pr = i := (List.findIdx_eq hlt).2 ⟨hpi, fun j hj => hall j (by omega) hj⟩
      rw [hany, hidx]
      (repeat (first | ((with_reducible show RG _ _ (_ :: _) _ _ _); refine RG.go1 (k := ?_)) | ((with_reducible show DG _ _ (_ :: _) _ _ _ _ _); refine DG.go1 (k := ?_)) | (with_reducible first | apply RG.nil | apply W.seq | apply W.reg | apply W.skip | apply W.block | apply W.drw | apply DG.nil | refine W.done (QB.n ?_))))
      (first | ((with_reducible show RG _ _ (_ :: _) _ _ _); refine RG.ew (cptr_of (hE) (by (conv => lhs; whnf) <;> exact rfl)) (k := ?_)) | ((with_reducible show DG _ _ (_ :: _) _ _ _ _ _); refine DG.ew (cptr_of (hE) (by (conv => lhs; whnf) <;> exact rfl)) (k := ?_)))
      (repeat (first | ((with_reducible show RG _ _ (_ :: _) _ _ _); refine RG.go1 (k := ?_)) | ((with_reducible show DG _ _ (_ :: _) _ _ _ _ _); refine DG.go1 (k := ?_)) | (with_reducible first | apply RG.nil | apply W.seq | apply W.reg | apply W.skip | apply W.block | apply W.drw | apply DG.nil | refine W.done (QB.n ?_))))
      (first | ((with_reducible show RG _ _ (_ :: _) _ _ _); refine RG.cav (hc) (k := ?_)) | ((with_reducible show DG _ _ (_ :: _) _ _ _ _ _); refine DG.cav (hc) (k := ?_)))
      (repeat (first | ((with_reducible show RG _ _ (_ :: _) _ _ _); refine RG.go1 (k := ?_)) | ((with_reducible show DG _ _ (_ :: _) _ _ _ _ _); refine DG.go1 (k := ?_)) | (with_reducible first | apply RG.nil | apply W.seq | apply W.reg | apply W.skip | apply W.block | apply W.drw | apply DG.nil | refine W.done (QB.n ?_))))
      refine W.cndT ?_
      (repeat (first | ((with_reducible show RG _ _ (_ :: _) _ _ _); refine RG.go1 (k := ?_)) | ((with_reducible show DG _ _ (_ :: _) _ _ _ _ _); refine DG.go1 (k := ?_)) | (with_reducible first | apply RG.nil | apply W.seq | apply W.reg | apply W.skip | apply W.block | apply W.drw | apply DG.nil | refine W.done (QB.n ?_))))
      (refine W.ret ?_; (repeat (with_reducible first | refine QB.r ?_ | refine QL.r ?_ | refine QC.r ?_)); refine QF.r ?_)
      exact RetOk.rs (vs := [_]) r_slices_IndexFunc__caravel_api_Block_caravel_api_Block []
  have hany : l.any pr = false := by
    rw [List.any_eq_false]
    intro x hx
    obtain ⟨j, hj, rfl⟩ := List.getElem_of_mem hx
    simp at h1
    rw [hall j hj (by omega)]; simp
  rw [hany]
  (refine W.exit ?_; (repeat (first | (with_reducible first | refine QL.x ?_ | refine QC.x ?_ | refine QB.x ?_) | (with_reducible refine QB.o (by decide) ?_))))
  (repeat (first | ((with_reducible show RG _ _ (_ :: _) _ _ _); refine RG.go1 (k := ?_)) | ((with_reducible show DG _ _ (_ :: _) _ _ _ _ _); refine DG.go1 (k := ?_)) | (with_reducible first | apply RG.nil | apply W.seq | apply W.reg | apply W.skip | apply W.block | apply W.drw | apply DG.nil | refine W.done (QB.n ?_))))
  (refine W.ret ?_; (repeat (with_reducible first | refine QB.r ?_ | refine QL.r ?_ | refine QC.r ?_)); refine QF.r ?_)
  exact RetOk.rs (vs := [_]) r_slices_IndexFunc__caravel_api_Block_caravel_api_Block []
theorem bkIndexR_ok (l : List Blk) (hl : l.length ≤ 1000000) (f : Nat) (ca cb : Int) (pr : Blk → Bool) (hf : ∀ x ∈ l, ACall Try.prog f [.agg [.int .i64 x.at_, .int .i64 x.ln], .cptr true [.int .i64 ca], .cptr true [.int .i64 cb]] (.bool (pr x)) []) :
    ACall Try.prog 44 [.sl true 2 (l.map bk), .fn f [.cptr true [.int .i64 ca], .cptr true [.int .i64 cb]]] (.int .i64 (if l.any pr then (l.findIdx pr : Int) else -1)) [] := by
  have el := bk_len l
  refine acall_walk (N := 19) Try.func44 (by kernel_rfl) p_slices_IndexFunc__caravel_api_Block_caravel_api_Block rfl ?_; unfold c_slices_IndexFunc__caravel_api_Block_caravel_api_Block; dsimp only [enum, Nat.reduceAdd]
  (repeat (first | ((with_reducible show RG _ _ (_ :: _) _ _ _); refine RG.go1 (k := ?_)) | ((with_reducible show DG _ _ (_ :: _) _ _ _ _ _); refine DG.go1 (k := ?_)) | (with_reducible first | apply RG.nil | apply W.seq | apply W.reg | apply W.skip | apply W.block | apply W.drw | apply DG.nil | refine W.done (QB.n ?_))))
  refine W.loop (ι := {i : Nat // i ≤ l.length ∧ ∀ j : Nat, (h : j < l.length) → j < i → pr l[j] = false}) (fun i => ⟨[(8, .int .i64 i.1), (7, .int .i64 l.length), (0, .sl true 2 (l.map bk)), (1, .fn f [.cptr true [.int .i64 ca], .cptr true [.int .i64 cb]])], [], [], 0, 0⟩) (fun i => l.length - i.1) ⟨0, Nat.zero_le _, fun j _ h => absurd h (Nat.not_lt_zero _)⟩ ?_ ?_
  · exact Wk.rn ([] ) ( [])
  rintro ⟨i, hi, hall⟩
  dsimp only
  (repeat (first | ((with_reducible show RG _ _ (_ :: _) _ _ _); refine RG.go1 (k := ?_)) | ((with_reducible show DG _ _ (_ :: _) _ _ _ _ _); refine DG.go1 (k := ?_)) | (with_reducible first | apply RG.nil | apply W.seq | apply W.reg | apply W.skip | apply W.block | apply W.drw | apply DG.nil | refine W.done (QB.n ?_))))
  refine W.cnd (fun h1 => ?_) (fun h1 => ?_)
  · have hlt : i < l.length := by simp at h1; omega
    have hE := bk_at l i hlt (j := ((i : Nat) : Int).toNat) (by simp)
    have hc := hf _ (List.getElem_mem hlt)
    cases hpi : pr l[i]
    · rw [hpi] at hc
      (repeat (first | ((with_reducible show RG _ _ (_ :: _) _ _ _); refine RG.go1 (k := ?_)) | ((with_reducible show DG _ _ (_ :: _) _ _ _ _ _); refine DG.go1 (k := ?_)) | (with_reducible first | apply RG.nil | apply W.seq | apply W.reg | apply W.skip | apply W.block | apply W.drw | apply DG.nil | refine W.done (QB.n ?_))))
      (first | ((with_reducible show RG _ _ (_ :: _) _ _ _); refine RG.ew (cptr_of (hE) (by (conv => lhs; whnf) <;> exact rfl)) (k := ?_)) | ((with_reducible show DG _ _ (_ :: _) _ _ _ _ _); refine DG.ew (cptr_of (hE) (by (conv => lhs; whnf) <;> exact rfl)) (k := ?_)))
      (repeat (first | ((with_reducible show RG _ _ (_ :: _) _ _ _); refine RG.go1 (k := ?_)) | ((with_reducible show DG _ _ (_ :: _) _ _ _ _ _); refine DG.go1 (k := ?_)) | (with_reducible first | apply RG.nil | apply W.seq | apply W.reg | apply W.skip | apply W.block | apply W.drw | apply DG.nil | refine W.done (QB.n ?_))))
      (first | ((with_reducible show RG _ _ (_ :: _) _ _ _); refine RG.cav (hc) (k := ?_)) | ((with_reducible show DG _ _ (_ :: _) _ _ _ _ _); refine DG.cav (hc) (k := ?_)))
      (repeat (first | ((with_reducible show RG _ _ (_ :: _) _ _ _); refine RG.go1 (k := ?_)) | ((with_reducible show DG _ _ (_ :: _) _ _ _ _ _); refine DG.go1 (k := ?_)) | (with_reducible first | apply RG.nil | apply W.seq | apply W.reg | apply W.skip | apply W.block | apply W.drw | apply DG.nil | refine W.done (QB.n ?_))))
      refine W.cndF ?_
      (repeat (first | ((with_reducible show RG _ _ (_ :: _) _ _ _); refine RG.go1 (k := ?_)) | ((with_reducible show DG _ _ (_ :: _) _ _ _ _ _); refine DG.go1 (k := ?_)) | (with_reducible first | apply RG.nil | apply W.seq | apply W.reg | apply W.skip | apply W.block | apply W.drw | apply DG.nil | refine W.done (QB.n ?_))))
      refine W.done (QL.n (⟨i + 1, by omega, fun j hj hji => by
        rcases Nat.lt_or_ge j i with q | q
        · exact hall j hj q
        · obtain rfl : j = i := by omega
          exact hpi⟩) ?_ ?_)
      · exact Wk.rn ([] ) ( [])
      · dsimp only; omega
    · rw [hpi] at hc
      have hany : l.any pr = true := by rw [List.any_eq_true]; exact ⟨_, List.getElem_mem hlt, hpi⟩
      have hidx : l.findIdx pr = i := (List.findIdx_eq hlt).2 ⟨hpi, fun j hj => hall j (by omega) hj⟩
      rw [hany, hidx]
      (repeat (first | ((with_reducible show RG _ _ (_ :: _) _ _ _); refine RG.go1 (k := ?_)) | ((with_reducible show DG _ _ (_ :: _) _ _ _ _ _); refine DG.go1 (k := ?_)) | (with_reducible first | apply RG.nil | apply W.seq | apply W.reg | apply W.skip | apply W.block | apply W.drw | apply DG.nil | refine W.done (QB.n ?_))))
      (first | ((with_reducible show RG _ _ (_ :: _) _ _ _); refine RG.ew (cptr_of (hE) (by (conv => lhs; whnf) <;> exact rfl)) (k := ?_)) | ((with_reducible show DG _ _ (_ :: _) _ _ _ _ _); refine DG.ew (cptr_of (hE) (by (conv => lhs; whnf) <;> exact rfl)) (k := ?_)))
      (repeat (first | ((with_reducible show RG _ _ (_ :: _) _ _ _); refine RG.go1 (k := ?_)) | ((with_reducible show DG _ _ (_ :: _) _ _ _ _ _); refine DG.go1 (k := ?_)) | (with_reducible first | apply RG.nil | apply W.seq | apply W.reg | apply W.skip | apply W.block | apply W.drw | apply DG.nil | refine W.done (QB.n ?_))))
      (first | ((with_reducible show RG _ _ (_ :: _) _ _ _); refine RG.cav (hc) (k := ?_)) | ((with_reducible show DG _ _ (_ :: _) _ _ _ _ _); refine DG.cav (hc) (k := ?_)))
      (repeat (first | ((with_reducible show RG _ _ (_ :: _) _ _ _); refine RG.go1 (k := ?_)) | ((with_reducible show DG _ _ (_ :: _) _ _ _ _ _); refine DG.go1 (k := ?_)) | (with_reducible first | apply RG.nil | apply W.seq | apply W.reg | apply W.skip | apply W.block | apply W.drw | apply DG.nil | refine W.done (QB.n ?_))))
      refine W.cndT ?_
      (repeat (first | ((with_reducible show RG _ _ (_ :: _) _ _ _); refine RG.go1 (k := ?_)) | ((with_reducible show DG _ _ (_ :: _) _ _ _ _ _); refine DG.go1 (k := ?_)) | (with_reducible first | apply RG.nil | apply W.seq | apply W.reg | apply W.skip | apply W.block | apply W.drw | apply DG.nil | refine W.done (QB.n ?_))))
      (refine W.ret ?_; (repeat (with_reducible first | refine QB.r ?_ | refine QL.r ?_ | refine QC.r ?_)); refine QF.r ?_)
      exact RetOk.rs (vs := [_]) r_slices_IndexFunc__caravel_api_Block_caravel_api_Block []
  have hany : l.any pr = false := by
    rw [List.any_eq_false]
    intro x hx
    obtain ⟨j, hj, rfl⟩ := List.getElem_of_mem hx
    simp at h1
    rw [hall j hj (by omega)]; simp
  rw [hany]
  (refine W.exit ?_; (repeat (first | (with_reducible first | refine QL.x ?_ | refine QC.x ?_ | refine QB.x ?_) | (with_reducible refine QB.o (by decide) ?_))))
  (repeat (first | ((with_reducible show RG _ _ (_ :: _) _ _ _); refine RG.go1 (k := ?_)) | ((with_reducible show DG _ _ (_ :: _) _ _ _ _ _); refine DG.go1 (k := ?_)) | (with_reducible first | apply RG.nil | apply W.seq | apply W.reg | apply W.skip | apply W.block | apply W.drw | apply DG.nil | refine W.done (QB.n ?_))))
  (refine W.ret ?_; (repeat (with_reducible first | refine QB.r ?_ | refine QL.r ?_ | refine QC.r ?_)); refine QF.r ?_)
  exact RetOk.rs (vs := [_]) r_slices_IndexFunc__caravel_api_Block_caravel_api_Block []
theorem bkContainsR_ok (l : List Blk) (hl : l.length ≤ 1000000) (f : Nat) (ca cb : Int) (pr : Blk → Bool) (hf : ∀ x ∈ l, ACall Try.prog f [.agg [.int .i64 x.at_, .int .i64 x.ln], .cptr true [.int .i64 ca], .cptr true [.int .i64 cb]] (.bool (pr x)) []) :
    ACall Try.prog 42 [.sl true 2 (l.map bk), .fn f [.cptr true [.int .i64 ca], .cptr true [.int .i64 cb]]] (.bool (l.any pr)) [] := by
  have ci := bkIndexR_ok l hl f ca cb pr hf
  cases hany : l.any pr
  · rw [hany] at ci
    refine acall_walk (N := 9) Try.func42 (by kernel_rfl) p_slices_ContainsFunc__caravel_api_Block_caravel_api_Block rfl ?_; unfold c_slices_ContainsFunc__caravel_api_Block_caravel_api_Block; dsimp only [enum, Nat.reduceAdd]
    (repeat (first | ((with_reducible show RG _ _ (_ :: _) _ _ _); refine RG.go1 (k := ?_)) | ((with_reducible show DG _ _ (_ :: _) _ _ _ _ _); refine DG.go1 (k := ?_)) | (with_reducible first | apply RG.nil | apply W.seq | apply W.reg | apply W.skip | apply W.block | apply W.drw | apply DG.nil | refine W.done (QB.n ?_))))
    (first | ((with_reducible show RG _ _ (_ :: _) _ _ _); refine RG.ca (ci) (k := ?_)) | ((with_reducible show DG _ _ (_ :: _) _ _ _ _ _); refine DG.ca (ci) (k := ?_)))
    (repeat (first | ((with_reducible show RG _ _ (_ :: _) _ _ _); refine RG.go1 (k := ?_)) | ((with_reducible show DG _ _ (_ :: _) _ _ _ _ _); refine DG.go1 (k := ?_)) | (with_reducible first | apply RG.nil | apply W.seq | apply W.reg | apply W.skip | apply W.block | apply W.drw | apply DG.nil | refine W.done (QB.n ?_))))
    (refine W.ret ?_; (repeat (with_reducible first | refine QB.r ?_ | refine QL.r ?_ | refine QC.r ?_)); refine QF.r ?_)
    exact RetOk.rs (vs := [_]) r_slices_ContainsFunc__caravel_api_Block_caravel_api_Block []
  · rw [hany, if_pos rfl] at ci
    refine acall_walk (N := 9) Try.func42 (by kernel_rfl) p_slices_ContainsFunc__caravel_api_Block_caravel_api_Block rfl ?_; unfold c_slices_ContainsFunc__caravel_api_Block_caravel_api_Block; dsimp only [enum, Nat.reduceAdd]
    (repeat (first | ((with_reducible show RG _ _ (_ :: _) _ _ _); refine RG.go1 (k := ?_)) | ((with_reducible show DG _ _ (_ :: _) _ _ _ _ _); refine DG.go1 (k := ?_)) | (with_reducible first | apply RG.nil | apply W.seq | apply W.reg | apply W.skip | apply W.block | apply W.drw | apply DG.nil | refine W.done (QB.n ?_))))
    (first | ((with_reducible show RG _ _ (_ :: _) _ _ _); refine RG.ca (ci) (k := ?_)) | ((with_reducible show DG _ _ (_ :: _) _ _ _ _ _); refine DG.ca (ci) (k := ?_)))
    (repeat (first | ((with_reducible show RG _ _ (_ :: _) _ _ _); refine RG.go1 (k := ?_)) | ((with_reducible show DG _ _ (_ :: _) _ _ _ _ _); refine DG.go1 (k := ?_)) | (with_reducible first | apply RG.nil | apply W.seq | apply W.reg | apply W.skip | apply W.block | apply W.drw | apply DG.nil | refine W.done (QB.n ?_))))
    (refine W.ret ?_; (repeat (with_reducible first | refine QB.r ?_ | refine QL.r ?_ | refine QC.r ?_)); refine QF.r ?_)
    exact RetOk.rs (vs := [_]) r_slices_ContainsFunc__caravel_api_Block_caravel_api_Block []
theorem bkOvl : OvlF Try.prog 40 2 := ⟨_, 23, 4, 29, Try.func40, by kernel_rfl, by kernel_rfl, by kernel_rfl, by kernel_rfl, by kernel_rfl, by kernel_rfl⟩
theorem bkIns0_ok (es vs : List AV) (n i : Nat) (el : es.length = n) (hl : n ≤ 500000) (hp : es.all pureV = true) (hi : i ≤ n) (hvl : vs.length = 1) (hvp : vs.all pureV = true) :
    MCall Try.prog 25 [.ref 0 2 0 n, .int .i64 i, .sl true 2 vs] [] [⟨false, 2, es⟩] (.ref 1 2 0 (n + 1)) [] [none] [⟨false, 2, es.take i ++ (vs ++ es.drop i)⟩] := by
  by_cases hin : i = n
  · have hall : es ++ vs = es.take i ++ (vs ++ es.drop i) := by
      rw [List.take_of_length_le (by omega), List.drop_of_length_le (by omega), List.append_nil]
    subst hin
    refine mcall_walk (N := 95) Try.func25 (by kernel_rfl) p_slices_Insert__caravel_api_Block_caravel_api_Block rfl rfl rfl ?_; intro gb pl; unfold c_slices_Insert__caravel_api_Block_caravel_api_Block; dsimp only [enum, ghB, ghR, k_lc, k_ln, k_ap, k_an, k_m0, k_mc, Nat.reduceAdd, Nat.zero_add, Nat.add_zero]
    (repeat (first | ((with_reducible show RG _ _ (_ :: _) _ _ _); refine RG.go1 (k := ?_)) | ((with_reducible show DG _ _ (_ :: _) _ _ _ _ _); refine DG.go1 (k := ?_)) | (with_reducible first | apply RG.nil | apply W.seq | apply W.reg | apply W.skip | apply W.block | apply W.drw | apply DG.nil | refine W.done (QB.n ?_))))
    (first | ((with_reducible show RG _ _ (_ :: _) _ _ _); refine RG.ew ((show AV.ref 0 2 (0 + (i : Int).toNat) ((i : Int) - (i : Int)).toNat = AV.ref 0 2 i 0 by congr 1 <;> omega)) (k := ?_)) | ((with_reducible show DG _ _ (_ :: _) _ _ _ _ _); refine DG.ew ((show AV.ref 0 2 (0 + (i : Int).toNat) ((i : Int) - (i : Int)).toNat = AV.ref 0 2 i 0 by congr 1 <;> omega)) (k := ?_)))
    (repeat (first | ((with_reducible show RG _ _ (_ :: _) _ _ _); refine RG.go1 (k := ?_)) | ((with_reducible show DG _ _ (_ :: _) _ _ _ _ _); refine DG.go1 (k := ?_)) | (with_reducible first | apply RG.nil | apply W.seq | apply W.reg | apply W.skip | apply W.block | apply W.drw | apply DG.nil | refine W.done (QB.n ?_))))
    refine W.cndF ?_
    (repeat (first | ((with_reducible show RG _ _ (_ :: _) _ _ _); refine RG.go1 (k := ?_)) | ((with_reducible show DG _ _ (_ :: _) _ _ _ _ _); refine DG.go1 (k := ?_)) | (with_reducible first | apply RG.nil | apply W.seq | apply W.reg | apply W.skip | apply W.block | apply W.drw | apply DG.nil | refine W.done (QB.n ?_))))
    refine W.cndT ?_
    (repeat (first | ((with_reducible show RG _ _ (_ :: _) _ _ _); refine RG.go1 (k := ?_)) | ((with_reducible show DG _ _ (_ :: _) _ _ _ _ _); refine DG.go1 (k := ?_)) | (with_reducible first | apply RG.nil | apply W.seq | apply W.reg | apply W.skip | apply W.block | apply W.drw | apply DG.nil | refine W.done (QB.n ?_))))
    rw [hall]
    (refine W.ret ?_; (repeat (with_reducible first | refine QB.r ?_ | refine QL.r ?_ | refine QC.r ?_)); refine QM.r ?_)
    rw [hvl]
    exact RetM.rs (vs := [_]) (tm' := [(6, .ref 1 2 0 (i + 1))]) r_slices_Insert__caravel_api_Block_caravel_api_Block ([]) ([0, 1]) 0 2
  have hlt : i < n := by omega
  refine mcall_walk (N := 95) Try.func25 (by kernel_rfl) p_slices_Insert__caravel_api_Block_caravel_api_Block rfl rfl rfl ?_; intro gb pl; unfold c_slices_Insert__caravel_api_Block_caravel_api_Block; dsimp only [enum, ghB, ghR, k_lc, k_ln, k_ap, k_an, k_m0, k_mc, Nat.reduceAdd, Nat.zero_add, Nat.add_zero]
  (repeat (first | ((with_reducible show RG _ _ (_ :: _) _ _ _); refine RG.go1 (k := ?_)) | ((with_reducible show DG _ _ (_ :: _) _ _ _ _ _); refine DG.go1 (k := ?_)) | (with_reducible first | apply RG.nil | apply W.seq | apply W.reg | apply W.skip | apply W.block | apply W.drw | apply DG.nil | refine W.done (QB.n ?_))))
  (first | ((with_reducible show RG _ _ (_ :: _) _ _ _); refine RG.ew ((show AV.ref 0 2 (0 + (i : Int).toNat) ((n : Int) - (i : Int)).toNat = AV.ref 0 2 i (n - i) by congr 1 <;> omega)) (k := ?_)) | ((with_reducible show DG _ _ (_ :: _) _ _ _ _ _); refine DG.ew ((show AV.ref 0 2 (0 + (i : Int).toNat) ((n : Int) - (i : Int)).toNat = AV.ref 0 2 i (n - i) by congr 1 <;> omega)) (k := ?_)))
  (repeat (first | ((with_reducible show RG _ _ (_ :: _) _ _ _); refine RG.go1 (k := ?_)) | ((with_reducible show DG _ _ (_ :: _) _ _ _ _ _); refine DG.go1 (k := ?_)) | (with_reducible first | apply RG.nil | apply W.seq | apply W.reg | apply W.skip | apply W.block | apply W.drw | apply DG.nil | refine W.done (QB.n ?_))))
  refine W.cndF ?_
  (repeat (first | ((with_reducible show RG _ _ (_ :: _) _ _ _); refine RG.go1 (k := ?_)) | ((with_reducible show DG _ _ (_ :: _) _ _ _ _ _); refine DG.go1 (k := ?_)) | (with_reducible first | apply RG.nil | apply W.seq | apply W.reg | apply W.skip | apply W.block | apply W.drw | apply DG.nil | refine W.done (QB.n ?_))))
  refine W.cndF ?_
  refine W.cap (t := 0) rfl fun c hc1 hc2 => ?_
  by_cases hroom : n + 1 ≤ c
  · refine W.room (t := 0) 1 rfl rfl (by omega) hroom (by decide) fun us hus => ?_
    have hrl : (es ++ us).length = n + 1 := by rw [List.length_append, el, hus]
    have hsrc : ((es ++ us).drop i).take (n + 1 - i) = es.drop i ++ us := by
      rw [List.drop_append_of_le_length (by omega)]
      exact List.take_of_length_le (by simp; omega)
    have hsl : (es.drop i ++ us).length = n + 1 - i := by simp; omega
    have hpu : ((es.drop i ++ us).take (n - i)).all pureV = true := by
      rw [List.take_left' (by simp; omega)]
      rw [List.all_eq_true] at hp ⊢
      exact fun y hy => hp y (List.mem_of_mem_drop hy)
    have h1 : (es ++ us).take (i + 1) ++ ((es.drop i ++ us).take (n - i) ++ (es ++ us).drop (i + 1 + (n - i))) = es.take (i + 1) ++ es.drop i := by
      rw [List.take_left' (l₁ := es.drop i) (by simp; omega), List.drop_of_length_le (l := es ++ us) (by omega), List.append_nil, List.take_append_of_le_length (by omega)]
    have hrl2 : (es.take (i + 1) ++ es.drop i).length = n + 1 := by simp; omega
    have hvt : vs.take (n + 1 - i) = vs := List.take_of_length_le (by omega)
    have h2 : (es.take (i + 1) ++ es.drop i).take i ++ (vs.take (n + 1 - i) ++ (es.take (i + 1) ++ es.drop i).drop (i + 1)) = es.take i ++ (vs ++ es.drop i) := by
      rw [hvt, List.take_append_of_le_length (by simp; omega), List.take_take, Nat.min_eq_left (by omega), List.drop_left' (by simp; omega)]
    have hp1 : (vs.take (n + 1 - i)).all pureV = true := by rw [hvt]; exact hvp
    clear hp
    (repeat (first | ((with_reducible show RG _ _ (_ :: _) _ _ _); refine RG.go1 (k := ?_)) | ((with_reducible show DG _ _ (_ :: _) _ _ _ _ _); refine DG.go1 (k := ?_)) | (with_reducible first | apply RG.nil | apply W.seq | apply W.reg | apply W.skip | apply W.block | apply W.drw | apply DG.nil | refine W.done (QB.n ?_))))
    refine W.cndF ?_
    (repeat (first | ((with_reducible show RG _ _ (_ :: _) _ _ _); refine RG.go1 (k := ?_)) | ((with_reducible show DG _ _ (_ :: _) _ _ _ _ _); refine DG.go1 (k := ?_)) | (with_reducible first | apply RG.nil | apply W.seq | apply W.reg | apply W.skip | apply W.block | apply W.drw | apply DG.nil | refine W.done (QB.n ?_))))
    (first | ((with_reducible show RG _ _ (_ :: _) _ _ _); refine RG.ew ((show AV.refc 0 2 (0 + (0 : Int).toNat) ((n : Int) + (vs.length : Int) - 0).toNat ((c : Int) - 0).toNat = AV.refc 0 2 0 (n + 1) c by congr 1 <;> omega)) (k := ?_)) | ((with_reducible show DG _ _ (_ :: _) _ _ _ _ _); refine DG.ew ((show AV.refc 0 2 (0 + (0 : Int).toNat) ((n : Int) + (vs.length : Int) - 0).toNat ((c : Int) - 0).toNat = AV.refc 0 2 0 (n + 1) c by congr 1 <;> omega)) (k := ?_)))
    (repeat (first | ((with_reducible show RG _ _ (_ :: _) _ _ _); refine RG.go1 (k := ?_)) | ((with_reducible show DG _ _ (_ :: _) _ _ _ _ _); refine DG.go1 (k := ?_)) | (with_reducible first | apply RG.nil | apply W.seq | apply W.reg | apply W.skip | apply W.block | apply W.drw | apply DG.nil | refine W.done (QB.n ?_))))
    (first | ((with_reducible show RG _ _ (_ :: _) _ _ _); refine RG.ew ((show AV.refc 0 2 (0 + ((i : Int) + (vs.length : Int)).toNat) (((n + 1 : Nat) : Int) - ((i : Int) + (vs.length : Int))).toNat ((c : Int) - ((i : Int) + (vs.length : Int))).toNat = AV.refc 0 2 (i + 1) (n - i) (c - (i + 1)) by congr 1 <;> omega)) (k := ?_)) | ((with_reducible show DG _ _ (_ :: _) _ _ _ _ _); refine DG.ew ((show AV.refc 0 2 (0 + ((i : Int) + (vs.length : Int)).toNat) (((n + 1 : Nat) : Int) - ((i : Int) + (vs.length : Int))).toNat ((c : Int) - ((i : Int) + (vs.length : Int))).toNat = AV.refc 0 2 (i + 1) (n - i) (c - (i + 1)) by congr 1 <;> omega)) (k := ?_)))
    (repeat (first | ((with_reducible show RG _ _ (_ :: _) _ _ _); refine RG.go1 (k := ?_)) | ((with_reducible show DG _ _ (_ :: _) _ _ _ _ _); refine DG.go1 (k := ?_)) | (with_reducible first | apply RG.nil | apply W.seq | apply W.reg | apply W.skip | apply W.block | apply W.drw | apply DG.nil | refine W.done (QB.n ?_))))
    have hvne : vs ≠ [] := by rintro rfl; simp at hvl
    (refine RG.ov (bkOvl) (k := ?_))
    (repeat (first | ((with_reducible show RG _ _ (_ :: _) _ _ _); refine RG.go1 (k := ?_)) | ((with_reducible show DG _ _ (_ :: _) _ _ _ _ _); refine DG.go1 (k := ?_)) | (with_reducible first | apply RG.nil | apply W.seq | apply W.reg | apply W.skip | apply W.block | apply W.drw | apply DG.nil | refine W.done (QB.n ?_))))
    refine W.cndT ?_
    (repeat (first | ((with_reducible show RG _ _ (_ :: _) _ _ _); refine RG.go1 (k := ?_)) | ((with_reducible show DG _ _ (_ :: _) _ _ _ _ _); refine DG.go1 (k := ?_)) | (with_reducible first | apply RG.nil | apply W.seq | apply W.reg | apply W.skip | apply W.block | apply W.drw | apply DG.nil | refine W.done (QB.n ?_))))
    (first | ((with_reducible show RG _ _ (_ :: _) _ _ _); refine RG.ew ((show AV.refc 0 2 (0 + ((i : Int) + (vs.length : Int)).toNat) (((n + 1 : Nat) : Int) - ((i : Int) + (vs.length : Int))).toNat ((c : Int) - ((i : Int) + (vs.length : Int))).toNat = AV.refc 0 2 (i + 1) (n - i) (c - (i + 1)) by congr 1 <;> omega)) (k := ?_)) | ((with_reducible show DG _ _ (_ :: _) _ _ _ _ _); refine DG.ew ((show AV.refc 0 2 (0 + ((i : Int) + (vs.length : Int)).toNat) (((n + 1 : Nat) : Int) - ((i : Int) + (vs.length : Int))).toNat ((c : Int) - ((i : Int) + (vs.length : Int))).toNat = AV.refc 0 2 (i + 1) (n - i) (c - (i + 1)) by congr 1 <;> omega)) (k := ?_)))
    (repeat (first | ((with_reducible show RG _ _ (_ :: _) _ _ _); refine RG.go1 (k := ?_)) | ((with_reducible show DG _ _ (_ :: _) _ _ _ _ _); refine DG.go1 (k := ?_)) | (with_reducible first | apply RG.nil | apply W.seq | apply W.reg | apply W.skip | apply W.block | apply W.drw | apply DG.nil | refine W.done (QB.n ?_))))
    (first | ((with_reducible show RG _ _ (_ :: _) _ _ _); refine RG.ew ((show AV.refc 0 2 (0 + (i : Int).toNat) (((n + 1 : Nat) : Int) - (i : Int)).toNat ((c : Int) - (i : Int)).toNat = AV.refc 0 2 i (n + 1 - i) (c - i) by congr 1 <;> omega)) (k := ?_)) | ((with_reducible show DG _ _ (_ :: _) _ _ _ _ _); refine DG.ew ((show AV.refc 0 2 (0 + (i : Int).toNat) (((n + 1 : Nat) : Int) - (i : Int)).toNat ((c : Int) - (i : Int)).toNat = AV.refc 0 2 i (n + 1 - i) (c - i) by congr 1 <;> omega)) (k := ?_)))
    (repeat (first | ((with_reducible show RG _ _ (_ :: _) _ _ _); refine RG.go1 (k := ?_)) | ((with_reducible show DG _ _ (_ :: _) _ _ _ _ _); refine DG.go1 (k := ?_)) | (with_reducible first | apply RG.nil | apply W.seq | apply W.reg | apply W.skip | apply W.block | apply W.drw | apply DG.nil | refine W.done (QB.n ?_))))
    (refine RG.sm (A.cpy (m := n - i) h1 (he := Els.refc (r := ⟨false, 2, es ++ us⟩) rfl rfl (show i + (n + 1 - i) ≤ (es ++ us).length by omega) hsrc) (hp := hpu) (hm := by omega)) (k := ?_))
    (repeat (first | ((with_reducible show RG _ _ (_ :: _) _ _ _); refine RG.go1 (k := ?_)) | ((with_reducible show DG _ _ (_ :: _) _ _ _ _ _); refine DG.go1 (k := ?_)) | (with_reducible first | apply RG.nil | apply W.seq | apply W.reg | apply W.skip | apply W.block | apply W.drw | apply DG.nil | refine W.done (QB.n ?_))))
    (first | ((with_reducible show RG _ _ (_ :: _) _ _ _); refine RG.ew ((show AV.refc 0 2 (0 + (i : Int).toNat) (((n + 1 : Nat) : Int) - (i : Int)).toNat ((c : Int) - (i : Int)).toNat = AV.refc 0 2 i (n + 1 - i) (c - i) by congr 1 <;> omega)) (k := ?_)) | ((with_reducible show DG _ _ (_ :: _) _ _ _ _ _); refine DG.ew ((show AV.refc 0 2 (0 + (i : Int).toNat) (((n + 1 : Nat) : Int) - (i : Int)).toNat ((c : Int) - (i : Int)).toNat = AV.refc 0 2 i (n + 1 - i) (c - i) by congr 1 <;> omega)) (k := ?_)))
    (repeat (first | ((with_reducible show RG _ _ (_ :: _) _ _ _); refine RG.go1 (k := ?_)) | ((with_reducible show DG _ _ (_ :: _) _ _ _ _ _); refine DG.go1 (k := ?_)) | (with_reducible first | apply RG.nil | apply W.seq | apply W.reg | apply W.skip | apply W.block | apply W.drw | apply DG.nil | refine W.done (QB.n ?_))))
    (refine RG.sm (A.cpy (m := 1) h2 (hp := hp1) (hm := by omega)) (k := ?_))
    (repeat (first | ((with_reducible show RG _ _ (_ :: _) _ _ _); refine RG.go1 (k := ?_)) | ((with_reducible show DG _ _ (_ :: _) _ _ _ _ _); refine DG.go1 (k := ?_)) | (with_reducible first | apply RG.nil | apply W.seq | apply W.reg | apply W.skip | apply W.block | apply W.drw | apply DG.nil | refine W.done (QB.n ?_))))
    (refine W.ret ?_; (repeat (with_reducible first | refine QB.r ?_ | refine QL.r ?_ | refine QC.r ?_)); refine QM.r ?_)
    refine RetM.wk (Wk.tmp (t := 6) (y := .ref 0 2 0 (n + 1)) (Cl.le (ALe.refc _ _ _ _ _))) ?_
    exact RetM.rs (vs := [_]) (tm' := [(6, .ref 1 2 0 (n + 1))]) r_slices_Insert__caravel_api_Block_caravel_api_Block ([]) ([1, 0]) 0 2
  · obtain ⟨zv, hzv⟩ : ∃ zv, bk ⟨0, 0⟩ = zv := ⟨_, rfl⟩
    have hrl : (es.take i ++ List.replicate (n + 1 - i) zv).length = n + 1 := by simp; omega
    have h0 : (es.drop 0).take i ++ List.replicate (n + 1 - i) (bk ⟨0, 0⟩) = es.take i ++ List.replicate (n + 1 - i) zv := by rw [hzv]; rfl
    unfold bk at h0
    have hvt : vs.take (n + 1 - i) = vs := List.take_of_length_le (by omega)
    have hp1 : (vs.take (n + 1 - i)).all pureV = true := by rw [hvt]; exact hvp
    have h1 : (es.take i ++ List.replicate (n + 1 - i) zv).take i ++ (vs.take (n + 1 - i) ++ (es.take i ++ List.replicate (n + 1 - i) zv).drop (i + 1)) = es.take i ++ (vs ++ List.replicate (n - i) zv) := by
      rw [hvt, List.take_left' (by simp; omega), List.drop_append, List.drop_of_length_le (by simp; omega), List.nil_append, List.drop_replicate]
      congr 3
      simp; omega
    have hsl : (es.drop i).length = n - i := by simp; omega
    have hsrc : (es.drop i).take (n - i) = es.drop i := List.take_of_length_le (by omega)
    have hpu : ((es.drop i).take (n - i)).all pureV = true := by
      rw [hsrc]
      rw [List.all_eq_true] at hp ⊢
      exact fun y hy => hp y (List.mem_of_mem_drop hy)
    have hrl2 : (es.take i ++ (vs ++ List.replicate (n - i) zv)).length = n + 1 := by simp; omega
    have h2 : (es.take i ++ (vs ++ List.replicate (n - i) zv)).take (i + 1) ++ ((es.drop i).take (n - i) ++ (es.take i ++ (vs ++ List.replicate (n - i) zv)).drop (i + 1 + (n - i))) = es.take i ++ (vs ++ es.drop i) := by
      rw [hsrc, List.drop_of_length_le (l := es.take i ++ (vs ++ List.replicate (n - i) zv)) (by omega), List.append_nil, ← List.append_assoc, List.take_left' (by simp; omega), List.append_assoc]
    clear hp
    have hc3 : c < i + (n + 1 - i) := by omega
    (repeat (first | ((with_reducible show RG _ _ (_ :: _) _ _ _); refine RG.go1 (k := ?_)) | ((with_reducible show DG _ _ (_ :: _) _ _ _ _ _); refine DG.go1 (k := ?_)) | (with_reducible first | apply RG.nil | apply W.seq | apply W.reg | apply W.skip | apply W.block | apply W.drw | apply DG.nil | refine W.done (QB.n ?_))))
    refine W.cndT ?_
    (repeat (first | ((with_reducible show RG _ _ (_ :: _) _ _ _); refine RG.go1 (k := ?_)) | ((with_reducible show DG _ _ (_ :: _) _ _ _ _ _); refine DG.go1 (k := ?_)) | (with_reducible first | apply RG.nil | apply W.seq | apply W.reg | apply W.skip | apply W.block | apply W.drw | apply DG.nil | refine W.done (QB.n ?_))))
    (first | ((with_reducible show RG _ _ (_ :: _) _ _ _); refine RG.ew ((show AV.refc 0 2 (0 + (0 : Int).toNat) ((i : Int) - 0).toNat ((c : Int) - 0).toNat = AV.refc 0 2 0 i c by congr 1 <;> omega)) (k := ?_)) | ((with_reducible show DG _ _ (_ :: _) _ _ _ _ _); refine DG.ew ((show AV.refc 0 2 (0 + (0 : Int).toNat) ((i : Int) - 0).toNat ((c : Int) - 0).toNat = AV.refc 0 2 0 i c by congr 1 <;> omega)) (k := ?_)))
    (repeat (first | ((with_reducible show RG _ _ (_ :: _) _ _ _); refine RG.go1 (k := ?_)) | ((with_reducible show DG _ _ (_ :: _) _ _ _ _ _); refine DG.go1 (k := ?_)) | (with_reducible first | apply RG.nil | apply W.seq | apply W.reg | apply W.skip | apply W.block | apply W.drw | apply DG.nil | refine W.done (QB.n ?_))))
    (refine RG.sm (A.appz (j := (n : Int) + (vs.length : Int) - (i : Int)) (q := n + 1 - i) (m := n + 1) (by omega) h0) (k := ?_))
    (repeat (first | ((with_reducible show RG _ _ (_ :: _) _ _ _); refine RG.go1 (k := ?_)) | ((with_reducible show DG _ _ (_ :: _) _ _ _ _ _); refine DG.go1 (k := ?_)) | (with_reducible first | apply RG.nil | apply W.seq | apply W.reg | apply W.skip | apply W.block | apply W.drw | apply DG.nil | refine W.done (QB.n ?_))))
    (first | ((with_reducible show RG _ _ (_ :: _) _ _ _); refine RG.ew ((show AV.ref 1 2 (0 + (i : Int).toNat) (((n + 1 : Nat) : Int) - (i : Int)).toNat = AV.ref 1 2 i (n + 1 - i) by congr 1 <;> omega)) (k := ?_)) | ((with_reducible show DG _ _ (_ :: _) _ _ _ _ _); refine DG.ew ((show AV.ref 1 2 (0 + (i : Int).toNat) (((n + 1 : Nat) : Int) - (i : Int)).toNat = AV.ref 1 2 i (n + 1 - i) by congr 1 <;> omega)) (k := ?_)))
    (repeat (first | ((with_reducible show RG _ _ (_ :: _) _ _ _); refine RG.go1 (k := ?_)) | ((with_reducible show DG _ _ (_ :: _) _ _ _ _ _); refine DG.go1 (k := ?_)) | (with_reducible first | apply RG.nil | apply W.seq | apply W.reg | apply W.skip | apply W.block | apply W.drw | apply DG.nil | refine W.done (QB.n ?_))))
    (refine RG.sm (A.cpy (m := 1) h1 (hp := hp1) (hm := by omega)) (k := ?_))
    (repeat (first | ((with_reducible show RG _ _ (_ :: _) _ _ _); refine RG.go1 (k := ?_)) | ((with_reducible show DG _ _ (_ :: _) _ _ _ _ _); refine DG.go1 (k := ?_)) | (with_reducible first | apply RG.nil | apply W.seq | apply W.reg | apply W.skip | apply W.block | apply W.drw | apply DG.nil | refine W.done (QB.n ?_))))
    (first | ((with_reducible show RG _ _ (_ :: _) _ _ _); refine RG.ew ((show AV.ref 1 2 (0 + ((i : Int) + (vs.length : Int)).toNat) (((n + 1 : Nat) : Int) - ((i : Int) + (vs.length : Int))).toNat = AV.ref 1 2 (i + 1) (n - i) by congr 1 <;> omega)) (k := ?_)) | ((with_reducible show DG _ _ (_ :: _) _ _ _ _ _); refine DG.ew ((show AV.ref 1 2 (0 + ((i : Int) + (vs.length : Int)).toNat) (((n + 1 : Nat) : Int) - ((i : Int) + (vs.length : Int))).toNat = AV.ref 1 2 (i + 1) (n - i) by congr 1 <;> omega)) (k := ?_)))
    (repeat (first | ((with_reducible show RG _ _ (_ :: _) _ _ _); refine RG.go1 (k := ?_)) | ((with_reducible show DG _ _ (_ :: _) _ _ _ _ _); refine DG.go1 (k := ?_)) | (with_reducible first | apply RG.nil | apply W.seq | apply W.reg | apply W.skip | apply W.block | apply W.drw | apply DG.nil | refine W.done (QB.n ?_))))
    (first | ((with_reducible show RG _ _ (_ :: _) _ _ _); refine RG.ew ((show AV.refc 0 2 (0 + (i : Int).toNat) ((n : Int) - (i : Int)).toNat ((c : Int) - (i : Int)).toNat = AV.refc 0 2 i (n - i) (c - i) by congr 1 <;> omega)) (k := ?_)) | ((with_reducible show DG _ _ (_ :: _) _ _ _ _ _); refine DG.ew ((show AV.refc 0 2 (0 + (i : Int).toNat) ((n : Int) - (i : Int)).toNat ((c : Int) - (i : Int)).toNat = AV.refc 0 2 i (n - i) (c - i) by congr 1 <;> omega)) (k := ?_)))
    (repeat (first | ((with_reducible show RG _ _ (_ :: _) _ _ _); refine RG.go1 (k := ?_)) | ((with_reducible show DG _ _ (_ :: _) _ _ _ _ _); refine DG.go1 (k := ?_)) | (with_reducible first | apply RG.nil | apply W.seq | apply W.reg | apply W.skip | apply W.block | apply W.drw | apply DG.nil | refine W.done (QB.n ?_))))
    (refine RG.sm (A.cpy (m := n - i) h2 (he := Els.refc (r := ⟨false, 2, es⟩) rfl rfl (show i + (n - i) ≤ es.length by omega) hsrc) (hp := hpu) (hm := by omega)) (k := ?_))
    (repeat (first | ((with_reducible show RG _ _ (_ :: _) _ _ _); refine RG.go1 (k := ?_)) | ((with_reducible show DG _ _ (_ :: _) _ _ _ _ _); refine DG.go1 (k := ?_)) | (with_reducible first | apply RG.nil | apply W.seq | apply W.reg | apply W.skip | apply W.block | apply W.drw | apply DG.nil | refine W.done (QB.n ?_))))
    (refine W.ret ?_; (repeat (with_reducible first | refine QB.r ?_ | refine QL.r ?_ | refine QC.r ?_)); refine QM.r ?_)
    exact RetM.rs (vs := [_]) (tm' := [(6, .ref 1 2 0 (n + 1))]) r_slices_Insert__caravel_api_Block_caravel_api_Block ([]) ([0, 1]) 0 2
theorem bkIns_ok (l : List Blk) (hl : l.length ≤ 500000) (i : Nat) (hi : i ≤ l.length) (x : Blk) :
    MCall Try.prog 25 [.ref 0 2 0 l.length, .int .i64 i, .sl true 2 [.agg [.int .i64 x.at_, .int .i64 x.ln]]] [] [⟨false, 2, l.map bk⟩] (.ref 1 2 0 (l.length + 1)) [] [none] [⟨false, 2, (l.take i ++ x :: l.drop i).map bk⟩] := by
  have q := bkIns0_ok (l.map bk) [bk x] l.length i (bk_len l) hl (bk_pure l) hi rfl (bk_pure [x])
  rw [show (l.take i ++ x :: l.drop i).map bk = (l.map bk).take i ++ ([bk x] ++ (l.map bk).drop i) by simp]
  exact q
theorem bkDel1_ok (l : List Blk) (hl : l.length ≤ 500000) (i : Nat) (hi : i < l.length) :
    MCall Try.prog 29 [.ref 0 2 0 l.length, .int .i64 i, .int .i64 ((i : Int) + 1)] [] [⟨false, 2, l.map bk⟩] (.ref 0 2 0 (l.length - 1)) [] [some ⟨false, 2, (l.eraseIdx i).map bk⟩] [] := by
  obtain ⟨es, hes⟩ : ∃ es, l.map bk = es := ⟨_, rfl⟩
  have el : es.length = l.length := by rw [← hes]; simp
  have hp : es.all pureV = true := by rw [← hes]; exact bk_pure l
  have hend : (l.eraseIdx i).map bk = es.take i ++ es.drop (i + 1) := by rw [← hes, List.eraseIdx_eq_take_drop_succ, List.map_append, List.map_take, List.map_drop]
  rw [hend, hes]
  obtain ⟨n, hn⟩ : ∃ n, l.length = n := ⟨_, rfl⟩
  rw [hn] at hl hi el ⊢
  clear hend hes hn
  have hsrc : (es.drop (i + 1)).take (n - (i + 1)) = es.drop (i + 1) := List.take_of_length_le (by simp; omega)
  have hsl : (es.drop (i + 1)).length = n - (i + 1) := by simp; omega
  have hpu : (es.drop (i + 1)).all pureV = true := by
    rw [List.all_eq_true] at hp ⊢
    exact fun y hy => hp y (List.mem_of_mem_drop hy)
  obtain ⟨E2, hE2⟩ : ∃ E, es.take (0 + i) ++ (es.drop (i + 1) ++ es.drop (0 + (n - 1))) = E := ⟨_, rfl⟩
  have eE : E2.length = n := by rw [← hE2]; simp; omega
  have htr : E2.take (n - 1) = es.take i ++ es.drop (i + 1) := by
    rw [← hE2, Nat.zero_add, ← List.append_assoc, List.take_left' (by simp; omega)]
  have hcl : E2.take (n - 1) ++ (List.replicate 1 (bk ⟨0, 0⟩) ++ E2.drop (n - 1 + 1)) = (es.take i ++ es.drop (i + 1)) ++ [(bk ⟨0, 0⟩)] := by
    rw [htr, List.drop_of_length_le (l := E2) (by omega), List.append_nil]; rfl
  have htr2 : ((es.take i ++ es.drop (i + 1)) ++ [(bk ⟨0, 0⟩)]).take (n - 1) = es.take i ++ es.drop (i + 1) := List.take_left' (by simp; omega)
  have hll : ((es.take i ++ es.drop (i + 1)) ++ [(bk ⟨0, 0⟩)]).length = n := by simp; omega
  unfold bk at hcl htr2 hll
  refine mcall_walk (N := 33) Try.func29 (by kernel_rfl) p_slices_Delete__caravel_api_Block_caravel_api_Block rfl rfl rfl ?_; intro gb pl; unfold c_slices_Delete__caravel_api_Block_caravel_api_Block; dsimp only [enum, ghB, ghR, k_lc, k_ln, k_ap, k_an, k_m0, k_mc, Nat.reduceAdd, Nat.zero_add, Nat.add_zero]
  (repeat (first | ((with_reducible show RG _ _ (_ :: _) _ _ _); refine RG.go1 (k := ?_)) | ((with_reducible show DG _ _ (_ :: _) _ _ _ _ _); refine DG.go1 (k := ?_)) | (with_reducible first | apply RG.nil | apply W.seq | apply W.reg | apply W.skip | apply W.block | apply W.drw | apply DG.nil | refine W.done (QB.n ?_))))
  (first | ((with_reducible show RG _ _ (_ :: _) _ _ _); refine RG.ew ((show AV.ref 0 2 (0 + (i : Int).toNat) ((i : Int) + 1 - (i : Int)).toNat = AV.ref 0 2 i 1 by congr 1 <;> omega)) (k := ?_)) | ((with_reducible show DG _ _ (_ :: _) _ _ _ _ _); refine DG.ew ((show AV.ref 0 2 (0 + (i : Int).toNat) ((i : Int) + 1 - (i : Int)).toNat = AV.ref 0 2 i 1 by congr 1 <;> omega)) (k := ?_)))
  (repeat (first | ((with_reducible show RG _ _ (_ :: _) _ _ _); refine RG.go1 (k := ?_)) | ((with_reducible show DG _ _ (_ :: _) _ _ _ _ _); refine DG.go1 (k := ?_)) | (with_reducible first | apply RG.nil | apply W.seq | apply W.reg | apply W.skip | apply W.block | apply W.drw | apply DG.nil | refine W.done (QB.n ?_))))
  refine W.cndF ?_
  refine W.cap (t := 0) rfl fun c hc1 hc2 => ?_
  (repeat (first | ((with_reducible show RG _ _ (_ :: _) _ _ _); refine RG.go1 (k := ?_)) | ((with_reducible show DG _ _ (_ :: _) _ _ _ _ _); refine DG.go1 (k := ?_)) | (with_reducible first | apply RG.nil | apply W.seq | apply W.reg | apply W.skip | apply W.block | apply W.drw | apply DG.nil | refine W.done (QB.n ?_))))
  (first | ((with_reducible show RG _ _ (_ :: _) _ _ _); refine RG.ew ((show AV.refc 0 2 (0 + (0 : Int).toNat) ((i : Int) - 0).toNat ((c : Int) - 0).toNat = AV.refc 0 2 0 i c by congr 1 <;> omega)) (k := ?_)) | ((with_reducible show DG _ _ (_ :: _) _ _ _ _ _); refine DG.ew ((show AV.refc 0 2 (0 + (0 : Int).toNat) ((i : Int) - 0).toNat ((c : Int) - 0).toNat = AV.refc 0 2 0 i c by congr 1 <;> omega)) (k := ?_)))
  (repeat (first | ((with_reducible show RG _ _ (_ :: _) _ _ _); refine RG.go1 (k := ?_)) | ((with_reducible show DG _ _ (_ :: _) _ _ _ _ _); refine DG.go1 (k := ?_)) | (with_reducible first | apply RG.nil | apply W.seq | apply W.reg | apply W.skip | apply W.block | apply W.drw | apply DG.nil | refine W.done (QB.n ?_))))
  (first | ((with_reducible show RG _ _ (_ :: _) _ _ _); refine RG.ew ((show AV.refc 0 2 (0 + ((i : Int) + 1).toNat) ((n : Int) - ((i : Int) + 1)).toNat ((c : Int) - ((i : Int) + 1)).toNat = AV.refc 0 2 (i + 1) (n - (i + 1)) (c - (i + 1)) by congr 1 <;> omega)) (k := ?_)) | ((with_reducible show DG _ _ (_ :: _) _ _ _ _ _); refine DG.ew ((show AV.refc 0 2 (0 + ((i : Int) + 1).toNat) ((n : Int) - ((i : Int) + 1)).toNat ((c : Int) - ((i : Int) + 1)).toNat = AV.refc 0 2 (i + 1) (n - (i + 1)) (c - (i + 1)) by congr 1 <;> omega)) (k := ?_)))
  (repeat (first | ((with_reducible show RG _ _ (_ :: _) _ _ _); refine RG.go1 (k := ?_)) | ((with_reducible show DG _ _ (_ :: _) _ _ _ _ _); refine DG.go1 (k := ?_)) | (with_reducible first | apply RG.nil | apply W.seq | apply W.reg | apply W.skip | apply W.block | apply W.drw | apply DG.nil | refine W.done (QB.n ?_))))
  (refine RG.sm (A.appI (m := n - 1) hE2 (he := Els.refc (r := ⟨false, 2, es⟩) rfl rfl (show i + 1 + (n - (i + 1)) ≤ es.length by omega) hsrc) (hl := by omega) (hrl := by show 0 + i + (es.drop (i + 1)).length ≤ es.length; omega) (hroom := by omega) (hp := hpu) (hm := by omega)) (k := ?_))
  (repeat (first | ((with_reducible show RG _ _ (_ :: _) _ _ _); refine RG.go1 (k := ?_)) | ((with_reducible show DG _ _ (_ :: _) _ _ _ _ _); refine DG.go1 (k := ?_)) | (with_reducible first | apply RG.nil | apply W.seq | apply W.reg | apply W.skip | apply W.block | apply W.drw | apply DG.nil | refine W.done (QB.n ?_))))
  (first | ((with_reducible show RG _ _ (_ :: _) _ _ _); refine RG.ew ((show AV.refc 0 2 (0 + ((n - 1 : Nat) : Int).toNat) ((n : Int) - ((n - 1 : Nat) : Int)).toNat ((c : Int) - ((n - 1 : Nat) : Int)).toNat = AV.refc 0 2 (n - 1) 1 (c - (n - 1)) by congr 1 <;> omega)) (k := ?_)) | ((with_reducible show DG _ _ (_ :: _) _ _ _ _ _); refine DG.ew ((show AV.refc 0 2 (0 + ((n - 1 : Nat) : Int).toNat) ((n : Int) - ((n - 1 : Nat) : Int)).toNat ((c : Int) - ((n - 1 : Nat) : Int)).toNat = AV.refc 0 2 (n - 1) 1 (c - (n - 1)) by congr 1 <;> omega)) (k := ?_)))
  (repeat (first | ((with_reducible show RG _ _ (_ :: _) _ _ _); refine RG.go1 (k := ?_)) | ((with_reducible show DG _ _ (_ :: _) _ _ _ _ _); refine DG.go1 (k := ?_)) | (with_reducible first | apply RG.nil | apply W.seq | apply W.reg | apply W.skip | apply W.block | apply W.drw | apply DG.nil | refine W.done (QB.n ?_))))
  (first | ((with_reducible show RG _ _ (_ :: _) _ _ _); refine RG.sn (A.clr (hcl)) (k := ?_)) | ((with_reducible show DG _ _ (_ :: _) _ _ _ _ _); refine DG.sn (A.clr (hcl)) (k := ?_)))
  (repeat (first | ((with_reducible show RG _ _ (_ :: _) _ _ _); refine RG.go1 (k := ?_)) | ((with_reducible show DG _ _ (_ :: _) _ _ _ _ _); refine DG.go1 (k := ?_)) | (with_reducible first | apply RG.nil | apply W.seq | apply W.reg | apply W.skip | apply W.block | apply W.drw | apply DG.nil | refine W.done (QB.n ?_))))
  (refine W.ret ?_; (repeat (with_reducible first | refine QB.r ?_ | refine QL.r ?_ | refine QC.r ?_)); refine QM.r ?_)
  refine RetM.wk (Wk.tmp (t := 6) (y := .ref 0 2 0 (n - 1)) (Cl.le (ALe.refc _ _ _ _ _))) ?_
  refine RetM.wk (Wk.trim (b := 0) (n - 1) rfl (Nat.succ_pos _)) ?_
  dsimp only [setO]
  rw [htr2]
  exact RetM.rs (vs := [_]) (tm' := [(6, .ref 0 2 0 (n - 1)), (1100000, .ratt 0 (pl 0))]) r_slices_Delete__caravel_api_Block_caravel_api_Block ([]) ([0]) 0 1
end Go.Proofs.Ytjacmhaeemhinaa

namespace Go.Proofs.Ytjacmhaeemhinaa
open Go.RowKit
set_option linter.unusedVariables false
set_option linter.unusedSimpArgs false
set_option maxRecDepth 100000
set_option maxHeartbeats 4000000
structure Hp where
  s : List UInt8
  l : List Blk
  d : List Bool
def hv (vol : Bool) (h : Hp) : AV := .agg [.sl vol 1 (h.s.map by8), .sl vol 2 (h.l.map bk), .sl vol 1 (h.d.map bo)]
structure Hp.Few (h : Hp) : Prop where
  s : h.s.length ≤ 100000
  l : h.l.length ≤ 100000
  d : h.d.length ≤ 100000
theorem hClone_ok (h : Hp) (hf : h.Few) : ACall Try.prog 23 [hv true h] (.agg [.ref 0 1 0 h.s.length, .ref 1 2 0 h.l.length, .ref 2 1 0 h.d.length]) [⟨false, 1, h.s.map by8⟩, ⟨false, 2, h.l.map bk⟩, ⟨false, 1, h.d.map bo⟩] := by
  have h1 := hf.s; have h2 := hf.l; have h3 := hf.d
  have c1 := ybClone_ok h.s (by omega)
  have c2 := bkClone_ok h.l (by omega)
  have c3 := bbClone_ok h.d (by omega)
  unfold hv
  refine acall_walk (N := 13) Try.func23 (by kernel_rfl) p_heap_Clone rfl ?_; unfold c_heap_Clone; dsimp only [enum, Nat.reduceAdd]
  (repeat (first | ((with_reducible show RG _ _ (_ :: _) _ _ _); refine RG.go1 (k := ?_)) | ((with_reducible show DG _ _ (_ :: _) _ _ _ _ _); refine DG.go1 (k := ?_)) | (with_reducible first | apply RG.nil | apply W.seq | apply W.reg | apply W.skip | apply W.block | apply W.drw | apply DG.nil | refine W.done (QB.n ?_)) | refine W.cndT ?_ | refine W.cndF ?_))
  (first | ((with_reducible show RG _ _ (_ :: _) _ _ _); refine RG.ca (c1) (k := ?_)) | ((with_reducible show DG _ _ (_ :: _) _ _ _ _ _); refine DG.ca (c1) (k := ?_)))
  (repeat (first | ((with_reducible show RG _ _ (_ :: _) _ _ _); refine RG.go1 (k := ?_)) | ((with_reducible show DG _ _ (_ :: _) _ _ _ _ _); refine DG.go1 (k := ?_)) | (with_reducible first | apply RG.nil | apply W.seq | apply W.reg | apply W.skip | apply W.block | apply W.drw | apply DG.nil | refine W.done (QB.n ?_)) | refine W.cndT ?_ | refine W.cndF ?_))
  (first | ((with_reducible show RG _ _ (_ :: _) _ _ _); refine RG.ca (c2) (k := ?_)) | ((with_reducible show DG _ _ (_ :: _) _ _ _ _ _); refine DG.ca (c2) (k := ?_)))
  (repeat (first | ((with_reducible show RG _ _ (_ :: _) _ _ _); refine RG.go1 (k := ?_)) | ((with_reducible show DG _ _ (_ :: _) _ _ _ _ _); refine DG.go1 (k := ?_)) | (with_reducible first | apply RG.nil | apply W.seq | apply W.reg | apply W.skip | apply W.block | apply W.drw | apply DG.nil | refine W.done (QB.n ?_)) | refine W.cndT ?_ | refine W.cndF ?_))
  (first | ((with_reducible show RG _ _ (_ :: _) _ _ _); refine RG.ca (c3) (k := ?_)) | ((with_reducible show DG _ _ (_ :: _) _ _ _ _ _); refine DG.ca (c3) (k := ?_)))
  (repeat (first | ((with_reducible show RG _ _ (_ :: _) _ _ _); refine RG.go1 (k := ?_)) | ((with_reducible show DG _ _ (_ :: _) _ _ _ _ _); refine DG.go1 (k := ?_)) | (with_reducible first | apply RG.nil | apply W.seq | apply W.reg | apply W.skip | apply W.block | apply W.drw | apply DG.nil | refine W.done (QB.n ?_)) | refine W.cndT ?_ | refine W.cndF ?_))
  (refine W.ret ?_; (repeat (with_reducible first | refine QB.r ?_ | refine QL.r ?_ | refine QC.r ?_)); refine QF.r ?_)
  exact RetOk.rs (vs := [_]) r_heap_Clone [0, 1, 2]
theorem hCloneF_ok (h : Hp) (hf : h.Few) : ACall Try.prog 23 [hv true h] (hv false h) [] := by
  have h1 := hf.s; have h2 := hf.l; have h3 := hf.d
  have e1 := by8_len h.s
  have e2 := bk_len h.l
  have e3 := bo_len h.d
  have c1 := ybClone_ok h.s (by omega)
  have c2 := bkClone_ok h.l (by omega)
  have c3 := bbClone_ok h.d (by omega)
  unfold hv
  refine acall_walk (N := 13) Try.func23 (by kernel_rfl) p_heap_Clone rfl ?_; unfold c_heap_Clone; dsimp only [enum, Nat.reduceAdd]
  (repeat (first | ((with_reducible show RG _ _ (_ :: _) _ _ _); refine RG.go1 (k := ?_)) | ((with_reducible show DG _ _ (_ :: _) _ _ _ _ _); refine DG.go1 (k := ?_)) | (with_reducible first | apply RG.nil | apply W.seq | apply W.reg | apply W.skip | apply W.block | apply W.drw | apply DG.nil | refine W.done (QB.n ?_)) | refine W.cndT ?_ | refine W.cndF ?_))
  (first | ((with_reducible show RG _ _ (_ :: _) _ _ _); refine RG.ca (c1) (k := ?_)) | ((with_reducible show DG _ _ (_ :: _) _ _ _ _ _); refine DG.ca (c1) (k := ?_)))
  (repeat (first | ((with_reducible show RG _ _ (_ :: _) _ _ _); refine RG.go1 (k := ?_)) | ((with_reducible show DG _ _ (_ :: _) _ _ _ _ _); refine DG.go1 (k := ?_)) | (with_reducible first | apply RG.nil | apply W.seq | apply W.reg | apply W.skip | apply W.block | apply W.drw | apply DG.nil | refine W.done (QB.n ?_)) | refine W.cndT ?_ | refine W.cndF ?_))
  (first | ((with_reducible show RG _ _ (_ :: _) _ _ _); refine RG.ca (c2) (k := ?_)) | ((with_reducible show DG _ _ (_ :: _) _ _ _ _ _); refine DG.ca (c2) (k := ?_)))
  (repeat (first | ((with_reducible show RG _ _ (_ :: _) _ _ _); refine RG.go1 (k := ?_)) | ((with_reducible show DG _ _ (_ :: _) _ _ _ _ _); refine DG.go1 (k := ?_)) | (with_reducible first | apply RG.nil | apply W.seq | apply W.reg | apply W.skip | apply W.block | apply W.drw | apply DG.nil | refine W.done (QB.n ?_)) | refine W.cndT ?_ | refine W.cndF ?_))
  (first | ((with_reducible show RG _ _ (_ :: _) _ _ _); refine RG.ca (c3) (k := ?_)) | ((with_reducible show DG _ _ (_ :: _) _ _ _ _ _); refine DG.ca (c3) (k := ?_)))
  (repeat (first | ((with_reducible show RG _ _ (_ :: _) _ _ _); refine RG.go1 (k := ?_)) | ((with_reducible show DG _ _ (_ :: _) _ _ _ _ _); refine DG.go1 (k := ?_)) | (with_reducible first | apply RG.nil | apply W.seq | apply W.reg | apply W.skip | apply W.block | apply W.drw | apply DG.nil | refine W.done (QB.n ?_)) | refine W.cndT ?_ | refine W.cndF ?_))
  (refine W.ret ?_; (repeat (with_reducible first | refine QB.r ?_ | refine QL.r ?_ | refine QC.r ?_)); refine QF.r ?_)
  (refine RetOk.wk (Wk.frz (b := 0) rfl rfl) ?_; dsimp only [setO])
  (refine RetOk.wk (Wk.frz (b := 1) rfl rfl) ?_; dsimp only [setO])
  (refine RetOk.wk (Wk.frz (b := 2) rfl rfl) ?_; refine RetOk.wk (Wk.box (b := 1) (cs' := [_, _, _]) rfl (by dsimp only [ClL]; (repeat' (first | exact True.intro | exact Cl.ice rfl rfl rfl (by first | assumption | decide | omega | (simp; (first | (all_goals fail) | fail)) | (simp <;> omega)) (by first | exact take_all _ | exact take_len (by first | (simp; (first | (all_goals fail) | fail)) | (simp <;> omega)) | exact rfl) | exact Cl.le (.refl _) | apply And.intro)); (first | (all_goals fail) | fail))) ?_; dsimp only [setO])
  exact RetOk.rs (vs := [_]) r_heap_Clone []
def hnew (n : Nat) : Hp := ⟨List.replicate (64 * n) 0, [], List.replicate n false⟩
theorem rep_by8 (n : Nat) : List.replicate n (AV.int .u8 0) = (List.replicate n (0 : UInt8)).map by8 := by simp [by8]
theorem rep_bo (n : Nat) : List.replicate n (AV.bool false) = (List.replicate n false).map bo := by simp [bo]
theorem find1_ok (x : Blk) (ca : Int) : ACall Try.prog 45 [bk x, .cptr true [.int .i64 ca]] (.bool (decide (x.at_ = ca))) [] := by
  unfold bk
  refine acall_walk (N := 8) Try.func45 (by kernel_rfl) p_heap_find_1 rfl ?_; unfold c_heap_find_1; dsimp only [enum, Nat.reduceAdd]
  (repeat (first | ((with_reducible show RG _ _ (_ :: _) _ _ _); refine RG.go1 (k := ?_)) | ((with_reducible show DG _ _ (_ :: _) _ _ _ _ _); refine DG.go1 (k := ?_)) | (with_reducible first | apply RG.nil | apply W.seq | apply W.reg | apply W.skip | apply W.block | apply W.drw | apply DG.nil | refine W.done (QB.n ?_)) | refine W.cndT ?_ | refine W.cndF ?_))
  (refine W.ret ?_; (repeat (with_reducible first | refine QB.r ?_ | refine QL.r ?_ | refine QC.r ?_)); refine QF.r ?_)
  exact RetOk.rs (vs := [_]) r_heap_find_1 []
def hfind (l : List Blk) (a : Int) : Int := if l.any (fun x => decide (x.at_ = a)) then (l.findIdx (fun x => decide (x.at_ = a)) : Int) else -1
theorem hFind_ok (h : Hp) (hf : h.Few) (a : Int) : ACall Try.prog 28 [hv true h, .int .i64 a] (.int .i64 (hfind h.l a)) [] := by
  have h2 := hf.l
  have ci := bkIndex_ok h.l (by omega) 45 a (fun x => decide (x.at_ = a)) fun x _ => find1_ok x a
  unfold hv hfind
  refine acall_walk (N := 9) Try.func28 (by kernel_rfl) p_heap_find rfl ?_; unfold c_heap_find; dsimp only [enum, Nat.reduceAdd]
  (repeat (first | ((with_reducible show RG _ _ (_ :: _) _ _ _); refine RG.go1 (k := ?_)) | ((with_reducible show DG _ _ (_ :: _) _ _ _ _ _); refine DG.go1 (k := ?_)) | (with_reducible first | apply RG.nil | apply W.seq | apply W.reg | apply W.skip | apply W.block | apply W.drw | apply DG.nil | refine W.done (QB.n ?_)) | refine W.cndT ?_ | refine W.cndF ?_))
  (first | ((with_reducible show RG _ _ (_ :: _) _ _ _); refine RG.ca (ci) (k := ?_)) | ((with_reducible show DG _ _ (_ :: _) _ _ _ _ _); refine DG.ca (ci) (k := ?_)))
  (repeat (first | ((with_reducible show RG _ _ (_ :: _) _ _ _); refine RG.go1 (k := ?_)) | ((with_reducible show DG _ _ (_ :: _) _ _ _ _ _); refine DG.go1 (k := ?_)) | (with_reducible first | apply RG.nil | apply W.seq | apply W.reg | apply W.skip | apply W.block | apply W.drw | apply DG.nil | refine W.done (QB.n ?_)) | refine W.cndT ?_ | refine W.cndF ?_))
  (refine W.ret ?_; (repeat (with_reducible first | refine QB.r ?_ | refine QL.r ?_ | refine QC.r ?_)); refine QF.r ?_)
  exact RetOk.rs (vs := [_]) r_heap_find []
/-- A block that lies where blocks may lie. -/
def BOk (N : Int) (x : Blk) : Prop := 0 ≤ x.at_ ∧ x.at_ % 8 = 0 ∧ 8 ≤ x.ln ∧ x.ln % 8 = 0 ∧ x.at_ + x.ln ≤ N
def insB (a n : Int) (x : Blk) : Bool := decide (x.at_ ≤ a) && decide (n ≤ x.at_ + x.ln - a)
theorem inside1_ok (x : Blk) {N : Int} (hN : N ≤ 100000) (hx : BOk N x) (a n : Int) (ha : 0 ≤ a ∧ a ≤ 9223372036854775807) : ACall Try.prog 43 [bk x, .cptr true [.int .i64 a], .cptr true [.int .i64 n]] (.bool (insB a n x)) [] := by
  obtain ⟨h1, h2, h3, h4, h5⟩ := hx
  clear h2 h4
  unfold bk insB
  by_cases q1 : x.at_ ≤ a
  · rw [decide_eq_true q1, Bool.true_and]
    refine acall_walk (N := 20) Try.func43 (by kernel_rfl) p_heap_inside_1 rfl ?_; unfold c_heap_inside_1; dsimp only [enum, Nat.reduceAdd]
    (repeat (first | ((with_reducible show RG _ _ (_ :: _) _ _ _); refine RG.go1 (k := ?_)) | ((with_reducible show DG _ _ (_ :: _) _ _ _ _ _); refine DG.go1 (k := ?_)) | (with_reducible first | apply RG.nil | apply W.seq | apply W.reg | apply W.skip | apply W.block | apply W.drw | apply DG.nil | refine W.done (QB.n ?_)) | refine W.cndT ?_ | refine W.cndF ?_))
    (refine W.ret ?_; (repeat (with_reducible first | refine QB.r ?_ | refine QL.r ?_ | refine QC.r ?_)); refine QF.r ?_)
    exact RetOk.rs (vs := [_]) r_heap_inside_1 []
  · rw [decide_eq_false q1, Bool.false_and]
    refine acall_walk (N := 20) Try.func43 (by kernel_rfl) p_heap_inside_1 rfl ?_; unfold c_heap_inside_1; dsimp only [enum, Nat.reduceAdd]
    (repeat (first | ((with_reducible show RG _ _ (_ :: _) _ _ _); refine RG.go1 (k := ?_)) | ((with_reducible show DG _ _ (_ :: _) _ _ _ _ _); refine DG.go1 (k := ?_)) | (with_reducible first | apply RG.nil | apply W.seq | apply W.reg | apply W.skip | apply W.block | apply W.drw | apply DG.nil | refine W.done (QB.n ?_)) | refine W.cndT ?_ | refine W.cndF ?_))
    (refine W.ret ?_; (repeat (with_reducible first | refine QB.r ?_ | refine QL.r ?_ | refine QC.r ?_)); refine QF.r ?_)
    exact RetOk.rs (vs := [_]) r_heap_inside_1 []
theorem hInside_ok (h : Hp) (hf : h.Few) {N : Int} (hN : N ≤ 100000) (hb : ∀ x ∈ h.l, BOk N x) (a n : Int) (ha : 0 ≤ a ∧ a ≤ 9223372036854775807) : ACall Try.prog 26 [hv true h, .int .i64 a, .int .i64 n] (.bool (h.l.any (insB a n))) [] := by
  have h2 := hf.l
  have ci := bkContainsR_ok h.l (by omega) 43 a n (insB a n) fun x hx => inside1_ok x hN (hb x hx) a n ha
  unfold hv
  refine acall_walk (N := 11) Try.func26 (by kernel_rfl) p_heap_inside rfl ?_; unfold c_heap_inside; dsimp only [enum, Nat.reduceAdd]
  (repeat (first | ((with_reducible show RG _ _ (_ :: _) _ _ _); refine RG.go1 (k := ?_)) | ((with_reducible show DG _ _ (_ :: _) _ _ _ _ _); refine DG.go1 (k := ?_)) | (with_reducible first | apply RG.nil | apply W.seq | apply W.reg | apply W.skip | apply W.block | apply W.drw | apply DG.nil | refine W.done (QB.n ?_)) | refine W.cndT ?_ | refine W.cndF ?_))
  (first | ((with_reducible show RG _ _ (_ :: _) _ _ _); refine RG.ca (ci) (k := ?_)) | ((with_reducible show DG _ _ (_ :: _) _ _ _ _ _); refine DG.ca (ci) (k := ?_)))
  (repeat (first | ((with_reducible show RG _ _ (_ :: _) _ _ _); refine RG.go1 (k := ?_)) | ((with_reducible show DG _ _ (_ :: _) _ _ _ _ _); refine DG.go1 (k := ?_)) | (with_reducible first | apply RG.nil | apply W.seq | apply W.reg | apply W.skip | apply W.block | apply W.drw | apply DG.nil | refine W.done (QB.n ?_)) | refine W.cndT ?_ | refine W.cndF ?_))
  (refine W.ret ?_; (repeat (with_reducible first | refine QB.r ?_ | refine QL.r ?_ | refine QC.r ?_)); refine QF.r ?_)
  exact RetOk.rs (vs := [_]) r_heap_inside []
/-- The pages that are touched. -/
def touch (a n : Int) (p : Nat) : Bool := decide (0 < n) && (decide (a < 64 * ((p : Int) + 1)) && decide (64 * (p : Int) < a + n))
def markP (d : List Bool) (a n : Int) : List Bool := d.mapIdx fun p b => b || touch a n p
/-- .. up to a page. -/
def markTo (d : List Bool) (a n : Int) (q : Nat) : List Bool := d.mapIdx fun p b => b || (decide (p < q) && touch a n p)
theorem markTo_len (d : List Bool) (a n : Int) (q : Nat) : (markTo d a n q).length = d.length := by simp [markTo]
theorem markP_len (d : List Bool) (a n : Int) : (markP d a n).length = d.length := by simp [markP]
theorem markTo_at (d : List Bool) (a n : Int) (q i : Nat) (h : i < (markTo d a n q).length) (h2 : i < d.length) : (markTo d a n q)[i] = (d[i] || (decide (i < q) && touch a n i)) := List.getElem_mapIdx ..
theorem markP_at (d : List Bool) (a n : Int) (i : Nat) (h : i < (markP d a n).length) (h2 : i < d.length) : (markP d a n)[i] = (d[i] || touch a n i) := List.getElem_mapIdx ..
theorem markTo_0 {d : List Bool} {a n : Int} {q : Nat} (h : (q : Int) * 64 ≤ a) : markTo d a n q = d := by
  apply List.ext_getElem (markTo_len d a n q)
  intro i h1 h2
  rw [markTo_at d a n q i h1 h2]
  have : (decide (i < q) && touch a n i) = false := by
    unfold touch
    by_cases g : i < q
    · rw [decide_eq_false (show ¬ a < 64 * ((i : Int) + 1) by omega)]; simp
    · rw [decide_eq_false g]; rfl
  rw [this, Bool.or_false]
theorem markTo_s {d : List Bool} {a n : Int} {q : Nat} (hq : q < d.length) (ht : touch a n q = true) : (markTo d a n q).set q true = markTo d a n (q + 1) := by
  apply List.ext_getElem
  · rw [List.length_set, markTo_len, markTo_len]
  · intro i h1 h2
    have hi : i < d.length := by rw [markTo_len] at h2; exact h2
    rw [List.getElem_set, markTo_at d a n (q + 1) i h2 hi, markTo_at d a n q i (by rw [markTo_len]; exact hi) hi]
    by_cases g : q = i
    · subst g
      rw [if_pos rfl, ht, decide_eq_true (by omega)]; simp
    · rw [if_neg g]
      have : decide (i < q + 1) = decide (i < q) := by
        by_cases g2 : i < q
        · rw [decide_eq_true g2, decide_eq_true (by omega)]
        · rw [decide_eq_false g2, decide_eq_false (by omega)]
      rw [this]
theorem markTo_end {d : List Bool} {a n : Int} {q : Nat} (h : n ≤ 0 ∨ a + n ≤ q * 64) : markTo d a n q = markP d a n := by
  apply List.ext_getElem
  · rw [markTo_len, markP_len]
  · intro i h1 h2
    have hi : i < d.length := by rw [markP_len] at h2; exact h2
    rw [markTo_at d a n q i h1 hi, markP_at d a n i h2 hi]
    congr 1
    unfold touch
    by_cases g : i < q
    · rw [decide_eq_true g, Bool.true_and]
    · rw [decide_eq_false g, Bool.false_and]
      symm
      rcases h with h | h
      · rw [decide_eq_false (by omega)]; rfl
      · rw [decide_eq_false (show ¬ 64 * (i : Int) < a + n by omega)]; simp
theorem hMark_ok (S : List UInt8) (L : List Blk) (d : List Bool) (hd : d.length ≤ 1000) (a n : Int) (ha : 0 ≤ a ∧ a ≤ 100000) (hn : 0 ≤ n ∧ a + n ≤ 64 * d.length) :
    MCall Try.prog 27 [.agg [.sl true 1 (S.map by8), .sl true 2 (L.map bk), .ref 0 1 0 d.length], .int .i64 a, .int .i64 n] [] [⟨false, 1, d.map bo⟩] (.tup []) [] [some ⟨false, 1, (markP d a n).map bo⟩] [] := by
  obtain ⟨q0, hq0⟩ : ∃ q0 : Nat, a / 64 = q0 := ⟨(a / 64).toNat, by omega⟩
  obtain ⟨nd, hnd⟩ : ∃ nd : Nat, d.length = nd := ⟨_, rfl⟩
  obtain ⟨a1, a2⟩ := ha
  obtain ⟨n1, n2⟩ := hn
  rw [hnd] at n2 ⊢
  have hq1 : q0 * 64 ≤ a := by omega
  have hq2 : a < (q0 + 1) * 64 := by omega
  have e0 := @markTo_0 d a n q0 (by omega)
  refine mcall_walk (N := 25) Try.func27 (by kernel_rfl) p_heap_mark rfl rfl rfl ?_; intro gb pl; unfold c_heap_mark; dsimp only [enum, ghB, ghR, k_lc, k_ln, k_ap, k_an, k_m0, k_mc, Nat.reduceAdd, Nat.zero_add, Nat.add_zero]
  (repeat (first | ((with_reducible show RG _ _ (_ :: _) _ _ _); refine RG.go1 (k := ?_)) | ((with_reducible show DG _ _ (_ :: _) _ _ _ _ _); refine DG.go1 (k := ?_)) | (with_reducible first | apply RG.nil | apply W.seq | apply W.reg | apply W.skip | apply W.block | apply W.drw | apply DG.nil | refine W.done (QB.n ?_))))
  rw [hq0]
  clear hq0
  refine W.loop (ι := {q : Nat // q0 ≤ q ∧ q ≤ nd}) (fun q => ⟨[(6, .int .i64 q.1), (3, .bptr 0 0), (1, .int .i64 a), (2, .int .i64 n), (1100000, .ratt 0 (pl 0))], [some [.sl true 1 (S.map by8), .sl true 2 (L.map bk), .ref 0 1 0 nd]], [some ⟨false, 1, (markTo d a n q.1).map bo⟩], 1, 1⟩) (fun q => nd - q.1) ⟨q0, Nat.le_refl _, by omega⟩ ?_ ?_
  · dsimp only
    rw [e0]
    exact Wk.rn ([0] ) ( [0])
  rintro ⟨q, hqa, hqb⟩
  dsimp only
  by_cases hn0 : 0 < n
  · have hl : ((markTo d a n q).map bo).length = nd := by rw [List.length_map, markTo_len, hnd]
    (repeat (first | ((with_reducible show RG _ _ (_ :: _) _ _ _); refine RG.go1 (k := ?_)) | ((with_reducible show DG _ _ (_ :: _) _ _ _ _ _); refine DG.go1 (k := ?_)) | (with_reducible first | apply RG.nil | apply W.seq | apply W.reg | apply W.skip | apply W.block | apply W.drw | apply DG.nil | refine W.done (QB.n ?_))))
    refine W.cnd (fun h1 => ?_) (fun h1 => ?_)
    · have h2 : (q : Int) * 64 < a + n := by simpa using h1
      have ht : touch a n q = true := by unfold touch; simp; omega
      have hs : ((markTo d a n q).map bo).set q (.bool true) = (markTo d a n (q + 1)).map bo := by
        rw [← markTo_s (by omega) ht, List.map_set]; rfl
      clear ht h1
      (repeat (first | ((with_reducible show RG _ _ (_ :: _) _ _ _); refine RG.go1 (k := ?_)) | ((with_reducible show DG _ _ (_ :: _) _ _ _ _ _); refine DG.go1 (k := ?_)) | (with_reducible first | apply RG.nil | apply W.seq | apply W.reg | apply W.skip | apply W.block | apply W.drw | apply DG.nil | refine W.done (QB.n ?_))))
      (first | ((with_reducible show RG _ _ (_ :: _) _ _ _); refine RG.ew (ix_of ((show 0 + ((q : Nat) : Int).toNat = q by omega))) (k := ?_)) | ((with_reducible show DG _ _ (_ :: _) _ _ _ _ _); refine DG.ew (ix_of ((show 0 + ((q : Nat) : Int).toNat = q by omega))) (k := ?_)))
      (repeat (first | ((with_reducible show RG _ _ (_ :: _) _ _ _); refine RG.go1 (k := ?_)) | ((with_reducible show DG _ _ (_ :: _) _ _ _ _ _); refine DG.go1 (k := ?_)) | (with_reducible first | apply RG.nil | apply W.seq | apply W.reg | apply W.skip | apply W.block | apply W.drw | apply DG.nil | refine W.done (QB.n ?_))))
      (first | ((with_reducible show RG _ _ (_ :: _) _ _ _); refine RG.sn (A.str (hs)) (k := ?_)) | ((with_reducible show DG _ _ (_ :: _) _ _ _ _ _); refine DG.sn (A.str (hs)) (k := ?_)))
      (repeat (first | ((with_reducible show RG _ _ (_ :: _) _ _ _); refine RG.go1 (k := ?_)) | ((with_reducible show DG _ _ (_ :: _) _ _ _ _ _); refine DG.go1 (k := ?_)) | (with_reducible first | apply RG.nil | apply W.seq | apply W.reg | apply W.skip | apply W.block | apply W.drw | apply DG.nil | refine W.done (QB.n ?_))))
      refine W.done (QL.n (⟨q + 1, by omega, by omega⟩) ?_ ?_)
      · exact Wk.rn ([0] ) ( [0])
      · dsimp only; omega
    · have h2 : a + n ≤ (q : Int) * 64 := by simpa using h1
      (refine W.exit ?_; (repeat (first | (with_reducible first | refine QL.x ?_ | refine QC.x ?_ | refine QB.x ?_) | (with_reducible refine QB.o (by decide) ?_))))
      (repeat (first | ((with_reducible show RG _ _ (_ :: _) _ _ _); refine RG.go1 (k := ?_)) | ((with_reducible show DG _ _ (_ :: _) _ _ _ _ _); refine DG.go1 (k := ?_)) | (with_reducible first | apply RG.nil | apply W.seq | apply W.reg | apply W.skip | apply W.block | apply W.drw | apply DG.nil | refine W.done (QB.n ?_))))
      rw [markTo_end (Or.inr h2)]
      (refine W.done ?_; (repeat (with_reducible first | refine QB.n ?_ | refine QC.n ?_)); refine QM.n ?_)
      exact RetM.rs (vs := []) (tm' := [(1100000, .ratt 0 (pl 0))]) r_heap_mark ([]) ([0]) 0 1
  · rw [markTo_end (Or.inl (by omega))]
    (repeat (first | ((with_reducible show RG _ _ (_ :: _) _ _ _); refine RG.go1 (k := ?_)) | ((with_reducible show DG _ _ (_ :: _) _ _ _ _ _); refine DG.go1 (k := ?_)) | (with_reducible first | apply RG.nil | apply W.seq | apply W.reg | apply W.skip | apply W.block | apply W.drw | apply DG.nil | refine W.done (QB.n ?_)) | refine W.cndT ?_ | refine W.cndF ?_))
    (refine W.exit ?_; (repeat (first | (with_reducible first | refine QL.x ?_ | refine QC.x ?_ | refine QB.x ?_) | (with_reducible refine QB.o (by decide) ?_))))
    (repeat (first | ((with_reducible show RG _ _ (_ :: _) _ _ _); refine RG.go1 (k := ?_)) | ((with_reducible show DG _ _ (_ :: _) _ _ _ _ _); refine DG.go1 (k := ?_)) | (with_reducible first | apply RG.nil | apply W.seq | apply W.reg | apply W.skip | apply W.block | apply W.drw | apply DG.nil | refine W.done (QB.n ?_))))
    (refine W.done ?_; (repeat (with_reducible first | refine QB.n ?_ | refine QC.n ?_)); refine QM.n ?_)
    exact RetM.rs (vs := []) (tm' := [(1100000, .ratt 0 (pl 0))]) r_heap_mark ([]) ([0]) 0 1
end Go.Proofs.Ytjacmhaeemhinaa
