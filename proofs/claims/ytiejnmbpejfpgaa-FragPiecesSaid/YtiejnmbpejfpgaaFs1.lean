/- Functions of package slices, at bytes. -/
import Derived.Test.YtiejnmbpejfpgaaFs0
namespace Go.Proofs.Ytiejnmbpejfpgaa
open Go.RowKit
set_option linter.unusedVariables false
set_option linter.unusedSimpArgs false
set_option maxRecDepth 100000
set_option maxHeartbeats 4000000
theorem by8_len (l : List UInt8) : (l.map by8).length = l.length := by simp

theorem getD_lt {α : Type} (l : List α) (d : α) {i : Nat} (h : i < l.length) : l.getD i d = l[i] := by simp [h]
theorem map_take_snoc {α β : Type} (f : α → β) (l : List α) (i : Nat) (h : i < l.length) : (l.take i).map f ++ [f l[i]] = (l.take (i + 1)).map f := by
  rw [List.take_succ_eq_append_getElem h, List.map_append]; rfl
theorem keep_lt {α : Type} (p : α → Bool) : ∀ (l : List α) (j i : Nat) (h : i < l.length), i < j → p l[i] = false → ((l.take j).filter p).length < j
  | [], j, i, h, _, _ => absurd h (Nat.not_lt_zero _)
  | x :: l, 0, i, _, h, _ => absurd h (Nat.not_lt_zero _)
  | x :: l, j + 1, 0, _, _, hp => by
    have hp : p x = false := hp
    simp only [List.take_succ_cons, List.filter_cons, hp, Bool.false_eq_true, if_false]
    have := List.length_filter_le p (l.take j)
    have := List.length_take_le j l
    omega
  | x :: l, j + 1, i + 1, h, hij, hp => by
    have := keep_lt p l j i (by simpa using h) (by omega) (by simpa using hp)
    simp only [List.take_succ_cons, List.filter_cons]
    split
    · simp only [List.length_cons]; omega
    · omega
theorem keep_snoc {α : Type} (p : α → Bool) (l : List α) (j : Nat) (h : j < l.length) : (l.take (j + 1)).filter p = (l.take j).filter p ++ (if p l[j] then [l[j]] else []) := by
  rw [List.take_succ_eq_append_getElem h, List.filter_append]
  congr 1
  simp only [List.filter_cons, List.filter_nil]
theorem set_app {α : Type} (k : List α) (l : List α) (x : α) (h : k.length < l.length) : (k ++ l.drop k.length).set k.length x = (k ++ [x]) ++ l.drop (k.length + 1) := by
  rw [List.set_append_right _ _ (Nat.le_refl _), Nat.sub_self, List.drop_eq_getElem_cons h, List.set_cons_zero, List.append_assoc]
  rfl
theorem ybclone0 (es : List AV) (hp : es.all pureV = true) (hl : es.length ≤ 1000000) : ACall Try.prog 15 [.sl true 1 es] (.ref 0 1 0 es.length) [⟨false, 1, es⟩] := by
  by_cases hne : es = []
  · subst hne
    refine acall_empty 0 rfl ?_ (fun a c hc => ?_)
    · dsimp only [List.set]
      refine acall_walk (N := 8) Try.func15 (by kernel_rfl) p_slices_Clone__byte_byte rfl ?_; unfold c_slices_Clone__byte_byte; dsimp only [enum, Nat.reduceAdd]
      (repeat (first | ((with_reducible show RG _ _ (_ :: _) _ _ _); refine RG.go1 (k := ?_)) | ((with_reducible show DG _ _ (_ :: _) _ _ _ _ _); refine DG.go1 (k := ?_)) | (with_reducible first | apply RG.nil | apply W.seq | apply W.reg | apply W.skip | apply W.block | apply W.drw | apply DG.nil | refine W.done (QB.n ?_))))
      refine W.cndT ?_
      (repeat (first | ((with_reducible show RG _ _ (_ :: _) _ _ _); refine RG.go1 (k := ?_)) | ((with_reducible show DG _ _ (_ :: _) _ _ _ _ _); refine DG.go1 (k := ?_)) | (with_reducible first | apply RG.nil | apply W.seq | apply W.reg | apply W.skip | apply W.block | apply W.drw | apply DG.nil | refine W.done (QB.n ?_))))
      (refine W.ret ?_; (repeat (with_reducible first | refine QB.r ?_ | refine QL.r ?_ | refine QC.r ?_)); refine QF.r ?_)
      refine RetOk.wk (Wk.nilT (t := 2) 1 rfl) ?_
      exact RetOk.rs (vs := [_]) r_slices_Clone__byte_byte [0]
    · dsimp only [List.set]
      refine acall_walk (N := 8) Try.func15 (by kernel_rfl) p_slices_Clone__byte_byte rfl ?_; unfold c_slices_Clone__byte_byte; dsimp only [enum, Nat.reduceAdd]
      (repeat (first | ((with_reducible show RG _ _ (_ :: _) _ _ _); refine RG.go1 (k := ?_)) | ((with_reducible show DG _ _ (_ :: _) _ _ _ _ _); refine DG.go1 (k := ?_)) | (with_reducible first | apply RG.nil | apply W.seq | apply W.reg | apply W.skip | apply W.block | apply W.drw | apply DG.nil | refine W.done (QB.n ?_))))
      refine W.cndF ?_
      (repeat (first | ((with_reducible show RG _ _ (_ :: _) _ _ _); refine RG.go1 (k := ?_)) | ((with_reducible show DG _ _ (_ :: _) _ _ _ _ _); refine DG.go1 (k := ?_)) | (with_reducible first | apply RG.nil | apply W.seq | apply W.reg | apply W.skip | apply W.block | apply W.drw | apply DG.nil | refine W.done (QB.n ?_))))
      (refine W.ret ?_; (repeat (with_reducible first | refine QB.r ?_ | refine QL.r ?_ | refine QC.r ?_)); refine QF.r ?_)
      exact RetOk.rs (vs := [_]) r_slices_Clone__byte_byte [1]
  · refine acall_walk (N := 8) Try.func15 (by kernel_rfl) p_slices_Clone__byte_byte rfl ?_; unfold c_slices_Clone__byte_byte; dsimp only [enum, Nat.reduceAdd]
    (repeat (first | ((with_reducible show RG _ _ (_ :: _) _ _ _); refine RG.go1 (k := ?_)) | ((with_reducible show DG _ _ (_ :: _) _ _ _ _ _); refine DG.go1 (k := ?_)) | (with_reducible first | apply RG.nil | apply W.seq | apply W.reg | apply W.skip | apply W.block | apply W.drw | apply DG.nil | refine W.done (QB.n ?_))))
    refine W.cndF ?_
    (repeat (first | ((with_reducible show RG _ _ (_ :: _) _ _ _); refine RG.go1 (k := ?_)) | ((with_reducible show DG _ _ (_ :: _) _ _ _ _ _); refine DG.go1 (k := ?_)) | (with_reducible first | apply RG.nil | apply W.seq | apply W.reg | apply W.skip | apply W.block | apply W.drw | apply DG.nil | refine W.done (QB.n ?_))))
    (refine W.ret ?_; (repeat (with_reducible first | refine QB.r ?_ | refine QL.r ?_ | refine QC.r ?_)); refine QF.r ?_)
    exact RetOk.rs (vs := [_]) r_slices_Clone__byte_byte [1]
theorem ybClone_ok (l : List UInt8) (hl : l.length ≤ 1000000) : ACall Try.prog 15 [.sl true 1 (l.map by8)] (.ref 0 1 0 l.length) [⟨false, 1, l.map by8⟩] := by
  have := ybclone0 (l.map by8) (by8_pure _) (by simpa using hl)
  rw [List.length_map] at this; exact this
end Go.Proofs.Ytiejnmbpejfpgaa
