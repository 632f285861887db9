/- caravelref16: without, Set, Stop, Tick. -/
import Derived.Test.YtbkekpecfgmelaaWm0
namespace Go.Proofs.Ytbkekpecfgmelaa
open Go.RowKit
set_option linter.unusedVariables false
set_option linter.unusedSimpArgs false
set_option maxRecDepth 100000
set_option maxHeartbeats 4000000
theorem without_ok (s : List Tmr) (hs : s.length ≤ 400000) (b : Int) : ACall Try.prog 25 [.sl true 2 (s.map tmr), .int .i64 b] (.ref 0 2 0 (wout s b).length) [⟨false, 2, (wout s b).map tmr⟩] := by
  have el := tl_len s
  refine acall_walk (N := 28) Try.func25 (by kernel_rfl) p_caravelref16_without rfl ?_; unfold c_caravelref16_without; dsimp only [enum, Nat.reduceAdd]
  (repeat (first | ((with_reducible show RG _ _ (_ :: _) _ _ _); refine RG.go1 (k := ?_)) | ((with_reducible show DG _ _ (_ :: _) _ _ _ _ _); refine DG.go1 (k := ?_)) | with_reducible apply RG.nil | with_reducible apply W.seq | with_reducible apply W.reg | with_reducible apply W.skip | with_reducible apply W.block | with_reducible apply W.drw | with_reducible apply DG.nil | (with_reducible refine W.done (QB.n ?_))))
  refine W.wk (Wk.nilT (t := 5) 2 rfl) ?_ (by simp)
  refine W.loop (ι := {i : Nat // i ≤ s.length}) (fun i => ⟨[(6, .int .i64 i.1), (5, .ref 0 2 0 (wout (s.take i.1) b).length), (0, .sl true 2 (s.map tmr)), (1, .int .i64 b)], [], [some ⟨false, 2, (wout (s.take i.1) b).map tmr⟩], 0, 1⟩) (fun i => s.length - i.1) ⟨0, Nat.zero_le _⟩ ?_ ?_
  · have e0 : wout (s.take 0) b = [] := rfl
    dsimp only
    rw [e0]
    exact Wk.rn ([] ) ( [0])
  rintro ⟨i, hi⟩
  dsimp only
  have hml : (wout (s.take i) b).length ≤ i := Nat.le_trans (wout_len _ _) (by simp; omega)
  (repeat (first | ((with_reducible show RG _ _ (_ :: _) _ _ _); refine RG.go1 (k := ?_)) | ((with_reducible show DG _ _ (_ :: _) _ _ _ _ _); refine DG.go1 (k := ?_)) | with_reducible apply RG.nil | with_reducible apply W.seq | with_reducible apply W.reg | with_reducible apply W.skip | with_reducible apply W.block | with_reducible apply W.drw | with_reducible apply DG.nil | (with_reducible refine W.done (QB.n ?_))))
  refine W.cnd (fun h1 => ?_) (fun h1 => ?_)
  · have hlt : i < s.length := by simp at h1; omega
    have hE := tl_at s i hlt (j := ((i : Nat) : Int).toNat) (by simp)
    have hk := keep_snoc (fun x : Tmr => !decide (x.id = b)) s i hlt
    change wout (s.take (i + 1)) b = wout (s.take i) b ++ _ at hk
    clear h1
    by_cases hid : s[i].id = b
    · rw [if_neg (by simpa using hid), List.append_nil] at hk
      generalize s[i] = x at hE hid
      have hQ : (⟨i + 1, (by omega : i + 1 ≤ s.length)⟩ : {i : Nat // i ≤ s.length}).1 = i + 1 := rfl
      (repeat (first | ((with_reducible show RG _ _ (_ :: _) _ _ _); refine RG.go1 (k := ?_)) | ((with_reducible show DG _ _ (_ :: _) _ _ _ _ _); refine DG.go1 (k := ?_)) | with_reducible apply RG.nil | with_reducible apply W.seq | with_reducible apply W.reg | with_reducible apply W.skip | with_reducible apply W.block | with_reducible apply W.drw | with_reducible apply DG.nil | (with_reducible refine W.done (QB.n ?_))))
      (first | ((with_reducible show RG _ _ (_ :: _) _ _ _); refine RG.ew (cptr_of (hE) (by (conv => lhs; whnf) <;> exact rfl)) (k := ?_)) | ((with_reducible show DG _ _ (_ :: _) _ _ _ _ _); refine DG.ew (cptr_of (hE) (by (conv => lhs; whnf) <;> exact rfl)) (k := ?_)))
      (repeat (first | ((with_reducible show RG _ _ (_ :: _) _ _ _); refine RG.go1 (k := ?_)) | ((with_reducible show DG _ _ (_ :: _) _ _ _ _ _); refine DG.go1 (k := ?_)) | with_reducible apply RG.nil | with_reducible apply W.seq | with_reducible apply W.reg | with_reducible apply W.skip | with_reducible apply W.block | with_reducible apply W.drw | with_reducible apply DG.nil | (with_reducible refine W.done (QB.n ?_))))
      refine W.cndF ?_
      (repeat (first | ((with_reducible show RG _ _ (_ :: _) _ _ _); refine RG.go1 (k := ?_)) | ((with_reducible show DG _ _ (_ :: _) _ _ _ _ _); refine DG.go1 (k := ?_)) | with_reducible apply RG.nil | with_reducible apply W.seq | with_reducible apply W.reg | with_reducible apply W.skip | with_reducible apply W.block | with_reducible apply W.drw | with_reducible apply DG.nil | (with_reducible refine W.done (QB.n ?_))))
      rw [← hk]
      refine W.done (QL.n (⟨i + 1, by omega⟩) ?_ ?_)
      · exact Wk.rn ([] ) ( [0])
      · dsimp only; omega
    · rw [if_pos (by simpa using hid)] at hk
      have hsn : (wout (s.take i) b).map tmr ++ [.agg [.int .i64 s[i].id, .int .u64 s[i].at_]] = (wout (s.take (i + 1)) b).map tmr := by
        rw [hk, List.map_append]; rfl
      have hln : (wout (s.take (i + 1)) b).length = (wout (s.take i) b).length + 1 := by rw [hk]; simp
      have hrl := tl_len (wout (s.take i) b)
      have hip := tl_pure (wout (s.take i) b)
      generalize s[i] = x at hE hid hsn
      clear hk
      (repeat (first | ((with_reducible show RG _ _ (_ :: _) _ _ _); refine RG.go1 (k := ?_)) | ((with_reducible show DG _ _ (_ :: _) _ _ _ _ _); refine DG.go1 (k := ?_)) | with_reducible apply RG.nil | with_reducible apply W.seq | with_reducible apply W.reg | with_reducible apply W.skip | with_reducible apply W.block | with_reducible apply W.drw | with_reducible apply DG.nil | (with_reducible refine W.done (QB.n ?_))))
      (first | ((with_reducible show RG _ _ (_ :: _) _ _ _); refine RG.ew (cptr_of (hE) (by (conv => lhs; whnf) <;> exact rfl)) (k := ?_)) | ((with_reducible show DG _ _ (_ :: _) _ _ _ _ _); refine DG.ew (cptr_of (hE) (by (conv => lhs; whnf) <;> exact rfl)) (k := ?_)))
      (repeat (first | ((with_reducible show RG _ _ (_ :: _) _ _ _); refine RG.go1 (k := ?_)) | ((with_reducible show DG _ _ (_ :: _) _ _ _ _ _); refine DG.go1 (k := ?_)) | with_reducible apply RG.nil | with_reducible apply W.seq | with_reducible apply W.reg | with_reducible apply W.skip | with_reducible apply W.block | with_reducible apply W.drw | with_reducible apply DG.nil | (with_reducible refine W.done (QB.n ?_))))
      refine W.cndT ?_
      (repeat (first | ((with_reducible show RG _ _ (_ :: _) _ _ _); refine RG.go1 (k := ?_)) | ((with_reducible show DG _ _ (_ :: _) _ _ _ _ _); refine DG.go1 (k := ?_)) | with_reducible apply RG.nil | with_reducible apply W.seq | with_reducible apply W.reg | with_reducible apply W.skip | with_reducible apply W.block | with_reducible apply W.drw | with_reducible apply DG.nil | (with_reducible refine W.done (QB.n ?_))))
      (first | ((with_reducible show RG _ _ (_ :: _) _ _ _); refine RG.ew (cptr_of (hE) (by (conv => lhs; whnf) <;> exact rfl)) (k := ?_)) | ((with_reducible show DG _ _ (_ :: _) _ _ _ _ _); refine DG.ew (cptr_of (hE) (by (conv => lhs; whnf) <;> exact rfl)) (k := ?_)))
      (repeat (first | ((with_reducible show RG _ _ (_ :: _) _ _ _); refine RG.go1 (k := ?_)) | ((with_reducible show DG _ _ (_ :: _) _ _ _ _ _); refine DG.go1 (k := ?_)) | with_reducible apply RG.nil | with_reducible apply W.seq | with_reducible apply W.reg | with_reducible apply W.skip | with_reducible apply W.block | with_reducible apply W.drw | with_reducible apply DG.nil | (with_reducible refine W.done (QB.n ?_))))
      rw [hsn, ← hln]
      refine W.done (QL.n (⟨i + 1, by omega⟩) ?_ ?_)
      · exact Wk.rn ([] ) ( [2])
      · dsimp only; omega
  · obtain rfl : i = s.length := by simp at h1; omega
    (refine W.exit ?_; (repeat (first | (with_reducible first | refine QL.x ?_ | refine QC.x ?_ | refine QB.x ?_) | (with_reducible refine QB.o (by decide) ?_))))
    (repeat (first | ((with_reducible show RG _ _ (_ :: _) _ _ _); refine RG.go1 (k := ?_)) | ((with_reducible show DG _ _ (_ :: _) _ _ _ _ _); refine DG.go1 (k := ?_)) | with_reducible apply RG.nil | with_reducible apply W.seq | with_reducible apply W.reg | with_reducible apply W.skip | with_reducible apply W.block | with_reducible apply W.drw | with_reducible apply DG.nil | (with_reducible refine W.done (QB.n ?_))))
    (refine W.ret ?_; (repeat (with_reducible first | refine QB.r ?_ | refine QL.r ?_ | refine QC.r ?_)); refine QF.r ?_)
    rw [List.take_length]
    exact RetOk.rs (vs := [_]) r_caravelref16_without [0]
def rset (now : Int) (s : List Tmr) (b after : Int) : List Tmr × Int :=
  if 4611686018427387904 < after then (s, 1) else if 64 ≤ (wout s b).length then (s, 5) else (wout s b ++ [⟨b, now + max after 1⟩], 0)
theorem rSet_ok (now : Int) (hn : 0 ≤ now ∧ now ≤ 9223372036854775807) (s : List Tmr) (hs : s.length ≤ 400000) (b after : Int) (ha : 0 ≤ after ∧ after ≤ 18446744073709551615) :
    ACall Try.prog 14 [wv false now s, .int .i64 b, .int .u64 after] (.tup [wv false now (rset now s b after).1, .int .i64 (rset now s b after).2]) [] := by
  have cw := without_ok s hs b
  by_cases h1 : 4611686018427387904 < after
  · rw [show rset now s b after = (s, 1) from if_pos h1]
    unfold wv
    refine acall_walk (N := 33) Try.func14 (by kernel_rfl) p_caravelref16_Set rfl ?_; unfold c_caravelref16_Set; dsimp only [enum, Nat.reduceAdd]
    (repeat (first | ((with_reducible show RG _ _ (_ :: _) _ _ _); refine RG.go1 (k := ?_)) | ((with_reducible show DG _ _ (_ :: _) _ _ _ _ _); refine DG.go1 (k := ?_)) | with_reducible apply RG.nil | with_reducible apply W.seq | with_reducible apply W.reg | with_reducible apply W.skip | with_reducible apply W.block | with_reducible apply W.drw | with_reducible apply DG.nil | (with_reducible refine W.done (QB.n ?_))))
    refine W.cndT ?_
    (repeat (first | ((with_reducible show RG _ _ (_ :: _) _ _ _); refine RG.go1 (k := ?_)) | ((with_reducible show DG _ _ (_ :: _) _ _ _ _ _); refine DG.go1 (k := ?_)) | with_reducible apply RG.nil | with_reducible apply W.seq | with_reducible apply W.reg | with_reducible apply W.skip | with_reducible apply W.block | with_reducible apply W.drw | with_reducible apply DG.nil | (with_reducible refine W.done (QB.n ?_))))
    (refine W.ret ?_; (repeat (with_reducible first | refine QB.r ?_ | refine QL.r ?_ | refine QC.r ?_)); refine QF.r ?_)
    exact RetOk.rs (vs := [_, _]) r_caravelref16_Set []
  by_cases h2 : 64 ≤ (wout s b).length
  · rw [show rset now s b after = (s, 5) by unfold rset; rw [if_neg h1, if_pos h2]]
    unfold wv
    refine acall_walk (N := 33) Try.func14 (by kernel_rfl) p_caravelref16_Set rfl ?_; unfold c_caravelref16_Set; dsimp only [enum, Nat.reduceAdd]
    (repeat (first | ((with_reducible show RG _ _ (_ :: _) _ _ _); refine RG.go1 (k := ?_)) | ((with_reducible show DG _ _ (_ :: _) _ _ _ _ _); refine DG.go1 (k := ?_)) | with_reducible apply RG.nil | with_reducible apply W.seq | with_reducible apply W.reg | with_reducible apply W.skip | with_reducible apply W.block | with_reducible apply W.drw | with_reducible apply DG.nil | (with_reducible refine W.done (QB.n ?_))))
    refine W.cndF ?_
    (repeat (first | ((with_reducible show RG _ _ (_ :: _) _ _ _); refine RG.go1 (k := ?_)) | ((with_reducible show DG _ _ (_ :: _) _ _ _ _ _); refine DG.go1 (k := ?_)) | with_reducible apply RG.nil | with_reducible apply W.seq | with_reducible apply W.reg | with_reducible apply W.skip | with_reducible apply W.block | with_reducible apply W.drw | with_reducible apply DG.nil | (with_reducible refine W.done (QB.n ?_))))
    (first | ((with_reducible show RG _ _ (_ :: _) _ _ _); refine RG.ca (cw) (k := ?_)) | ((with_reducible show DG _ _ (_ :: _) _ _ _ _ _); refine DG.ca (cw) (k := ?_)))
    (repeat (first | ((with_reducible show RG _ _ (_ :: _) _ _ _); refine RG.go1 (k := ?_)) | ((with_reducible show DG _ _ (_ :: _) _ _ _ _ _); refine DG.go1 (k := ?_)) | with_reducible apply RG.nil | with_reducible apply W.seq | with_reducible apply W.reg | with_reducible apply W.skip | with_reducible apply W.block | with_reducible apply W.drw | with_reducible apply DG.nil | (with_reducible refine W.done (QB.n ?_))))
    refine W.cndT ?_
    (repeat (first | ((with_reducible show RG _ _ (_ :: _) _ _ _); refine RG.go1 (k := ?_)) | ((with_reducible show DG _ _ (_ :: _) _ _ _ _ _); refine DG.go1 (k := ?_)) | with_reducible apply RG.nil | with_reducible apply W.seq | with_reducible apply W.reg | with_reducible apply W.skip | with_reducible apply W.block | with_reducible apply W.drw | with_reducible apply DG.nil | (with_reducible refine W.done (QB.n ?_))))
    (refine W.ret ?_; (repeat (with_reducible first | refine QB.r ?_ | refine QL.r ?_ | refine QC.r ?_)); refine QF.r ?_)
    exact RetOk.rs (vs := [_, _]) r_caravelref16_Set []
  · rw [show rset now s b after = (wout s b ++ [⟨b, now + max after 1⟩], 0) by unfold rset; rw [if_neg h1, if_neg h2]]
    have hsn : (wout s b ++ [(⟨b, now + max after 1⟩ : Tmr)]).map tmr = (wout s b).map tmr ++ [.agg [.int .i64 b, .int .u64 (now + max after 1)]] := by simp [tmr]
    dsimp only [wv]
    rw [hsn]
    clear hsn
    generalize wout s b = m at *
    have elm := tl_len m
    have hip := tl_pure m
    have hln : (m.map tmr ++ [AV.agg [.int .i64 b, .int .u64 (now + max after 1)]]).length = m.length + 1 := by simp
    by_cases h3 : after = 0
    · have e : now + max after 1 = now + 1 := by omega
      rw [e] at hln ⊢
      refine acall_walk (N := 33) Try.func14 (by kernel_rfl) p_caravelref16_Set rfl ?_; unfold c_caravelref16_Set; dsimp only [enum, Nat.reduceAdd]
      (repeat (first | ((with_reducible show RG _ _ (_ :: _) _ _ _); refine RG.go1 (k := ?_)) | ((with_reducible show DG _ _ (_ :: _) _ _ _ _ _); refine DG.go1 (k := ?_)) | with_reducible apply RG.nil | with_reducible apply W.seq | with_reducible apply W.reg | with_reducible apply W.skip | with_reducible apply W.block | with_reducible apply W.drw | with_reducible apply DG.nil | (with_reducible refine W.done (QB.n ?_))))
      refine W.cndF ?_
      (repeat (first | ((with_reducible show RG _ _ (_ :: _) _ _ _); refine RG.go1 (k := ?_)) | ((with_reducible show DG _ _ (_ :: _) _ _ _ _ _); refine DG.go1 (k := ?_)) | with_reducible apply RG.nil | with_reducible apply W.seq | with_reducible apply W.reg | with_reducible apply W.skip | with_reducible apply W.block | with_reducible apply W.drw | with_reducible apply DG.nil | (with_reducible refine W.done (QB.n ?_))))
      (first | ((with_reducible show RG _ _ (_ :: _) _ _ _); refine RG.ca (cw) (k := ?_)) | ((with_reducible show DG _ _ (_ :: _) _ _ _ _ _); refine DG.ca (cw) (k := ?_)))
      (repeat (first | ((with_reducible show RG _ _ (_ :: _) _ _ _); refine RG.go1 (k := ?_)) | ((with_reducible show DG _ _ (_ :: _) _ _ _ _ _); refine DG.go1 (k := ?_)) | with_reducible apply RG.nil | with_reducible apply W.seq | with_reducible apply W.reg | with_reducible apply W.skip | with_reducible apply W.block | with_reducible apply W.drw | with_reducible apply DG.nil | (with_reducible refine W.done (QB.n ?_))))
      refine W.cndF ?_
      (repeat (first | ((with_reducible show RG _ _ (_ :: _) _ _ _); refine RG.go1 (k := ?_)) | ((with_reducible show DG _ _ (_ :: _) _ _ _ _ _); refine DG.go1 (k := ?_)) | with_reducible apply RG.nil | with_reducible apply W.seq | with_reducible apply W.reg | with_reducible apply W.skip | with_reducible apply W.block | with_reducible apply W.drw | with_reducible apply DG.nil | (with_reducible refine W.done (QB.n ?_))))
      refine W.cndT ?_
      (repeat (first | ((with_reducible show RG _ _ (_ :: _) _ _ _); refine RG.go1 (k := ?_)) | ((with_reducible show DG _ _ (_ :: _) _ _ _ _ _); refine DG.go1 (k := ?_)) | with_reducible apply RG.nil | with_reducible apply W.seq | with_reducible apply W.reg | with_reducible apply W.skip | with_reducible apply W.block | with_reducible apply W.drw | with_reducible apply DG.nil | (with_reducible refine W.done (QB.n ?_))))
      (refine W.ret ?_; (repeat (with_reducible first | refine QB.r ?_ | refine QL.r ?_ | refine QC.r ?_)); refine QF.r ?_)
      (refine RetOk.wk (Wk.frz (b := 2) rfl rfl) ?_; refine RetOk.wk (Wk.box (b := 1) (cs' := [_, _]) rfl (by dsimp only [ClL]; (repeat' (first | exact True.intro | exact Cl.ice rfl rfl rfl (by first | assumption | decide | omega | (simp; (first | (all_goals fail) | fail)) | (simp <;> omega)) (by first | exact take_all _ | exact take_len (by first | (simp; (first | (all_goals fail) | fail)) | (simp <;> omega)) | exact rfl) | exact Cl.le (.refl _) | apply And.intro)); (first | (all_goals fail) | fail))) ?_; dsimp only [setO])
      exact RetOk.rs (vs := [_, _]) r_caravelref16_Set []
    · have e : now + max after 1 = now + after := by omega
      rw [e] at hln ⊢
      refine acall_walk (N := 33) Try.func14 (by kernel_rfl) p_caravelref16_Set rfl ?_; unfold c_caravelref16_Set; dsimp only [enum, Nat.reduceAdd]
      (repeat (first | ((with_reducible show RG _ _ (_ :: _) _ _ _); refine RG.go1 (k := ?_)) | ((with_reducible show DG _ _ (_ :: _) _ _ _ _ _); refine DG.go1 (k := ?_)) | with_reducible apply RG.nil | with_reducible apply W.seq | with_reducible apply W.reg | with_reducible apply W.skip | with_reducible apply W.block | with_reducible apply W.drw | with_reducible apply DG.nil | (with_reducible refine W.done (QB.n ?_))))
      refine W.cndF ?_
      (repeat (first | ((with_reducible show RG _ _ (_ :: _) _ _ _); refine RG.go1 (k := ?_)) | ((with_reducible show DG _ _ (_ :: _) _ _ _ _ _); refine DG.go1 (k := ?_)) | with_reducible apply RG.nil | with_reducible apply W.seq | with_reducible apply W.reg | with_reducible apply W.skip | with_reducible apply W.block | with_reducible apply W.drw | with_reducible apply DG.nil | (with_reducible refine W.done (QB.n ?_))))
      (first | ((with_reducible show RG _ _ (_ :: _) _ _ _); refine RG.ca (cw) (k := ?_)) | ((with_reducible show DG _ _ (_ :: _) _ _ _ _ _); refine DG.ca (cw) (k := ?_)))
      (repeat (first | ((with_reducible show RG _ _ (_ :: _) _ _ _); refine RG.go1 (k := ?_)) | ((with_reducible show DG _ _ (_ :: _) _ _ _ _ _); refine DG.go1 (k := ?_)) | with_reducible apply RG.nil | with_reducible apply W.seq | with_reducible apply W.reg | with_reducible apply W.skip | with_reducible apply W.block | with_reducible apply W.drw | with_reducible apply DG.nil | (with_reducible refine W.done (QB.n ?_))))
      refine W.cndF ?_
      (repeat (first | ((with_reducible show RG _ _ (_ :: _) _ _ _); refine RG.go1 (k := ?_)) | ((with_reducible show DG _ _ (_ :: _) _ _ _ _ _); refine DG.go1 (k := ?_)) | with_reducible apply RG.nil | with_reducible apply W.seq | with_reducible apply W.reg | with_reducible apply W.skip | with_reducible apply W.block | with_reducible apply W.drw | with_reducible apply DG.nil | (with_reducible refine W.done (QB.n ?_))))
      refine W.cndF ?_
      (repeat (first | ((with_reducible show RG _ _ (_ :: _) _ _ _); refine RG.go1 (k := ?_)) | ((with_reducible show DG _ _ (_ :: _) _ _ _ _ _); refine DG.go1 (k := ?_)) | with_reducible apply RG.nil | with_reducible apply W.seq | with_reducible apply W.reg | with_reducible apply W.skip | with_reducible apply W.block | with_reducible apply W.drw | with_reducible apply DG.nil | (with_reducible refine W.done (QB.n ?_))))
      (refine W.ret ?_; (repeat (with_reducible first | refine QB.r ?_ | refine QL.r ?_ | refine QC.r ?_)); refine QF.r ?_)
      (refine RetOk.wk (Wk.frz (b := 2) rfl rfl) ?_; refine RetOk.wk (Wk.box (b := 1) (cs' := [_, _]) rfl (by dsimp only [ClL]; (repeat' (first | exact True.intro | exact Cl.ice rfl rfl rfl (by first | assumption | decide | omega | (simp; (first | (all_goals fail) | fail)) | (simp <;> omega)) (by first | exact take_all _ | exact take_len (by first | (simp; (first | (all_goals fail) | fail)) | (simp <;> omega)) | exact rfl) | exact Cl.le (.refl _) | apply And.intro)); (first | (all_goals fail) | fail))) ?_; dsimp only [setO])
      exact RetOk.rs (vs := [_, _]) r_caravelref16_Set []
theorem rStop_ok (now : Int) (s : List Tmr) (hs : s.length ≤ 400000) (b : Int) :
    ACall Try.prog 15 [wv false now s, .int .i64 b] (.tup [wv false now (wout s b), .bool (decide ((wout s b).length < s.length))]) [] := by
  have cw := without_ok s hs b
  have el := tl_len s
  dsimp only [wv]
  generalize wout s b = m at *
  have elm := tl_len m
  have hb : (decide ((m.length : Int) < ((s.map tmr).length : Int))) = decide (m.length < s.length) := by rw [el]; congr 1; apply propext; omega
  refine acall_walk (N := 22) Try.func15 (by kernel_rfl) p_caravelref16_Stop rfl ?_; unfold c_caravelref16_Stop; dsimp only [enum, Nat.reduceAdd]
  (repeat (first | ((with_reducible show RG _ _ (_ :: _) _ _ _); refine RG.go1 (k := ?_)) | ((with_reducible show DG _ _ (_ :: _) _ _ _ _ _); refine DG.go1 (k := ?_)) | with_reducible apply RG.nil | with_reducible apply W.seq | with_reducible apply W.reg | with_reducible apply W.skip | with_reducible apply W.block | with_reducible apply W.drw | with_reducible apply DG.nil | (with_reducible refine W.done (QB.n ?_))))
  (first | ((with_reducible show RG _ _ (_ :: _) _ _ _); refine RG.ca (cw) (k := ?_)) | ((with_reducible show DG _ _ (_ :: _) _ _ _ _ _); refine DG.ca (cw) (k := ?_)))
  (repeat (first | ((with_reducible show RG _ _ (_ :: _) _ _ _); refine RG.go1 (k := ?_)) | ((with_reducible show DG _ _ (_ :: _) _ _ _ _ _); refine DG.go1 (k := ?_)) | with_reducible apply RG.nil | with_reducible apply W.seq | with_reducible apply W.reg | with_reducible apply W.skip | with_reducible apply W.block | with_reducible apply W.drw | with_reducible apply DG.nil | (with_reducible refine W.done (QB.n ?_))))
  (refine W.ret ?_; (repeat (with_reducible first | refine QB.r ?_ | refine QL.r ?_ | refine QC.r ?_)); refine QF.r ?_)
  rw [hb]
  (refine RetOk.wk (Wk.frz (b := 0) rfl rfl) ?_; refine RetOk.wk (Wk.box (b := 1) (cs' := [_, _]) rfl (by dsimp only [ClL]; (repeat' (first | exact True.intro | exact Cl.ice rfl rfl rfl (by first | assumption | decide | omega | (simp; (first | (all_goals fail) | fail)) | (simp <;> omega)) (by first | exact take_all _ | exact take_len (by first | (simp; (first | (all_goals fail) | fail)) | (simp <;> omega)) | exact rfl) | exact Cl.le (.refl _) | apply And.intro)); (first | (all_goals fail) | fail))) ?_; dsimp only [setO])
  exact RetOk.rs (vs := [_, _]) r_caravelref16_Stop []
def rdue (now : Int) (s : List Tmr) : List Tmr := s.filter fun x => decide (x.at_ = now)
def rrest (now : Int) (s : List Tmr) : List Tmr := s.filter fun x => !decide (x.at_ = now)
theorem rTick_ok (now : Int) (hn : 0 ≤ now ∧ now ≤ 9223372036854775807) (s : List Tmr) (hs : s.length ≤ 400000) :
    ACall Try.prog 16 [wv false now s] (.tup [wv false (now + 1) (rrest (now + 1) s), .sl false 1 ((rdue (now + 1) s).map idv)]) [] := by
  have el := tl_len s
  dsimp only [wv]
  refine acall_walk (N := 48) Try.func16 (by kernel_rfl) p_caravelref16_Tick rfl ?_; unfold c_caravelref16_Tick; dsimp only [enum, Nat.reduceAdd]
  (repeat (first | ((with_reducible show RG _ _ (_ :: _) _ _ _); refine RG.go1 (k := ?_)) | ((with_reducible show DG _ _ (_ :: _) _ _ _ _ _); refine DG.go1 (k := ?_)) | with_reducible apply RG.nil | with_reducible apply W.seq | with_reducible apply W.reg | with_reducible apply W.skip | with_reducible apply W.block | with_reducible apply W.drw | with_reducible apply DG.nil | (with_reducible refine W.done (QB.n ?_))))
  generalize now + 1 = nw
  refine W.wk (Wk.nilT (t := 4) 1 rfl) ?_ (by simp)
  refine W.wk (Wk.nilT (t := 5) 2 rfl) ?_ (by simp)
  refine W.loop (ι := {i : Nat // i ≤ s.length}) (fun i => ⟨[(6, .int .i64 i.1), (5, .ref 1 2 0 (rrest nw (s.take i.1)).length), (4, .ref 0 1 0 (rdue nw (s.take i.1)).length), (1, .bptr 0 0), (2, .bptr 1 0)], [some [.int .u64 nw, .sl false 2 (s.map tmr)], some [.int .u64 0, .nil]], [some ⟨false, 1, (rdue nw (s.take i.1)).map idv⟩, some ⟨false, 2, (rrest nw (s.take i.1)).map tmr⟩], 2, 2⟩) (fun i => s.length - i.1) ⟨0, Nat.zero_le _⟩ ?_ ?_
  · have e0 : rdue nw (s.take 0) = [] := rfl
    have e1 : rrest nw (s.take 0) = [] := rfl
    dsimp only
    rw [e0, e1]
    exact Wk.rn ([0, 1] ) ( [0, 1])
  rintro ⟨i, hi⟩
  dsimp only
  have hm1 : (rdue nw (s.take i)).length ≤ i := Nat.le_trans (List.length_filter_le _ _) (by simp; omega)
  have hm2 : (rrest nw (s.take i)).length ≤ i := Nat.le_trans (List.length_filter_le _ _) (by simp; omega)
  have hr1 : ((rdue nw (s.take i)).map idv).length = (rdue nw (s.take i)).length := by simp
  have hr2 := tl_len (rrest nw (s.take i))
  have hp1 := idv_pure (rdue nw (s.take i))
  have hp2 := tl_pure (rrest nw (s.take i))
  (repeat (first | ((with_reducible show RG _ _ (_ :: _) _ _ _); refine RG.go1 (k := ?_)) | ((with_reducible show DG _ _ (_ :: _) _ _ _ _ _); refine DG.go1 (k := ?_)) | with_reducible apply RG.nil | with_reducible apply W.seq | with_reducible apply W.reg | with_reducible apply W.skip | with_reducible apply W.block | with_reducible apply W.drw | with_reducible apply DG.nil | (with_reducible refine W.done (QB.n ?_))))
  refine W.cnd (fun h1 => ?_) (fun h1 => ?_)
  · have hlt : i < s.length := by simp at h1; omega
    have hE := tl_at s i hlt (j := ((i : Nat) : Int).toNat) (by simp)
    have hk1 := keep_snoc (fun x : Tmr => decide (x.at_ = nw)) s i hlt
    have hk2 := keep_snoc (fun x : Tmr => !decide (x.at_ = nw)) s i hlt
    change rdue nw (s.take (i + 1)) = rdue nw (s.take i) ++ _ at hk1
    change rrest nw (s.take (i + 1)) = rrest nw (s.take i) ++ _ at hk2
    clear h1
    by_cases hid : s[i].at_ = nw
    · rw [if_pos (by simpa using hid)] at hk1
      rw [if_neg (by simpa using hid), List.append_nil] at hk2
      have hsn : (rdue nw (s.take i)).map idv ++ [.int .i64 s[i].id] = (rdue nw (s.take (i + 1))).map idv := by
        rw [hk1, List.map_append]; rfl
      have hln : (rdue nw (s.take (i + 1))).length = (rdue nw (s.take i)).length + 1 := by rw [hk1]; simp
      generalize s[i] = x at hE hid hsn
      clear hk1
      (repeat (first | ((with_reducible show RG _ _ (_ :: _) _ _ _); refine RG.go1 (k := ?_)) | ((with_reducible show DG _ _ (_ :: _) _ _ _ _ _); refine DG.go1 (k := ?_)) | with_reducible apply RG.nil | with_reducible apply W.seq | with_reducible apply W.reg | with_reducible apply W.skip | with_reducible apply W.block | with_reducible apply W.drw | with_reducible apply DG.nil | (with_reducible refine W.done (QB.n ?_))))
      (first | ((with_reducible show RG _ _ (_ :: _) _ _ _); refine RG.ew (cptr_of (hE) (by (conv => lhs; whnf) <;> exact rfl)) (k := ?_)) | ((with_reducible show DG _ _ (_ :: _) _ _ _ _ _); refine DG.ew (cptr_of (hE) (by (conv => lhs; whnf) <;> exact rfl)) (k := ?_)))
      (repeat (first | ((with_reducible show RG _ _ (_ :: _) _ _ _); refine RG.go1 (k := ?_)) | ((with_reducible show DG _ _ (_ :: _) _ _ _ _ _); refine DG.go1 (k := ?_)) | with_reducible apply RG.nil | with_reducible apply W.seq | with_reducible apply W.reg | with_reducible apply W.skip | with_reducible apply W.block | with_reducible apply W.drw | with_reducible apply DG.nil | (with_reducible refine W.done (QB.n ?_))))
      refine W.cndT ?_
      (repeat (first | ((with_reducible show RG _ _ (_ :: _) _ _ _); refine RG.go1 (k := ?_)) | ((with_reducible show DG _ _ (_ :: _) _ _ _ _ _); refine DG.go1 (k := ?_)) | with_reducible apply RG.nil | with_reducible apply W.seq | with_reducible apply W.reg | with_reducible apply W.skip | with_reducible apply W.block | with_reducible apply W.drw | with_reducible apply DG.nil | (with_reducible refine W.done (QB.n ?_))))
      (first | ((with_reducible show RG _ _ (_ :: _) _ _ _); refine RG.ew (cptr_of (hE) (by (conv => lhs; whnf) <;> exact rfl)) (k := ?_)) | ((with_reducible show DG _ _ (_ :: _) _ _ _ _ _); refine DG.ew (cptr_of (hE) (by (conv => lhs; whnf) <;> exact rfl)) (k := ?_)))
      (repeat (first | ((with_reducible show RG _ _ (_ :: _) _ _ _); refine RG.go1 (k := ?_)) | ((with_reducible show DG _ _ (_ :: _) _ _ _ _ _); refine DG.go1 (k := ?_)) | with_reducible apply RG.nil | with_reducible apply W.seq | with_reducible apply W.reg | with_reducible apply W.skip | with_reducible apply W.block | with_reducible apply W.drw | with_reducible apply DG.nil | (with_reducible refine W.done (QB.n ?_))))
      rw [hsn, ← hln, ← hk2]
      refine W.done (QL.n (⟨i + 1, by omega⟩) ?_ ?_)
      · exact Wk.rn ([0, 1] ) ( [3, 1])
      · dsimp only; omega
    · rw [if_neg (by simpa using hid), List.append_nil] at hk1
      rw [if_pos (by simpa using hid)] at hk2
      have hsn : (rrest nw (s.take i)).map tmr ++ [.agg [.int .i64 s[i].id, .int .u64 s[i].at_]] = (rrest nw (s.take (i + 1))).map tmr := by
        rw [hk2, List.map_append]; rfl
      have hln : (rrest nw (s.take (i + 1))).length = (rrest nw (s.take i)).length + 1 := by rw [hk2]; simp
      generalize s[i] = x at hE hid hsn
      clear hk2
      (repeat (first | ((with_reducible show RG _ _ (_ :: _) _ _ _); refine RG.go1 (k := ?_)) | ((with_reducible show DG _ _ (_ :: _) _ _ _ _ _); refine DG.go1 (k := ?_)) | with_reducible apply RG.nil | with_reducible apply W.seq | with_reducible apply W.reg | with_reducible apply W.skip | with_reducible apply W.block | with_reducible apply W.drw | with_reducible apply DG.nil | (with_reducible refine W.done (QB.n ?_))))
      (first | ((with_reducible show RG _ _ (_ :: _) _ _ _); refine RG.ew (cptr_of (hE) (by (conv => lhs; whnf) <;> exact rfl)) (k := ?_)) | ((with_reducible show DG _ _ (_ :: _) _ _ _ _ _); refine DG.ew (cptr_of (hE) (by (conv => lhs; whnf) <;> exact rfl)) (k := ?_)))
      (repeat (first | ((with_reducible show RG _ _ (_ :: _) _ _ _); refine RG.go1 (k := ?_)) | ((with_reducible show DG _ _ (_ :: _) _ _ _ _ _); refine DG.go1 (k := ?_)) | with_reducible apply RG.nil | with_reducible apply W.seq | with_reducible apply W.reg | with_reducible apply W.skip | with_reducible apply W.block | with_reducible apply W.drw | with_reducible apply DG.nil | (with_reducible refine W.done (QB.n ?_))))
      refine W.cndF ?_
      (repeat (first | ((with_reducible show RG _ _ (_ :: _) _ _ _); refine RG.go1 (k := ?_)) | ((with_reducible show DG _ _ (_ :: _) _ _ _ _ _); refine DG.go1 (k := ?_)) | with_reducible apply RG.nil | with_reducible apply W.seq | with_reducible apply W.reg | with_reducible apply W.skip | with_reducible apply W.block | with_reducible apply W.drw | with_reducible apply DG.nil | (with_reducible refine W.done (QB.n ?_))))
      (first | ((with_reducible show RG _ _ (_ :: _) _ _ _); refine RG.ew (cptr_of (hE) (by (conv => lhs; whnf) <;> exact rfl)) (k := ?_)) | ((with_reducible show DG _ _ (_ :: _) _ _ _ _ _); refine DG.ew (cptr_of (hE) (by (conv => lhs; whnf) <;> exact rfl)) (k := ?_)))
      (repeat (first | ((with_reducible show RG _ _ (_ :: _) _ _ _); refine RG.go1 (k := ?_)) | ((with_reducible show DG _ _ (_ :: _) _ _ _ _ _); refine DG.go1 (k := ?_)) | with_reducible apply RG.nil | with_reducible apply W.seq | with_reducible apply W.reg | with_reducible apply W.skip | with_reducible apply W.block | with_reducible apply W.drw | with_reducible apply DG.nil | (with_reducible refine W.done (QB.n ?_))))
      rw [hsn, ← hln, ← hk1]
      refine W.done (QL.n (⟨i + 1, by omega⟩) ?_ ?_)
      · exact Wk.rn ([0, 1] ) ( [0, 3])
      · dsimp only; omega
  · obtain rfl : i = s.length := by simp at h1; omega
    have et : s.take s.length = s := List.take_length
    (refine W.exit ?_; (repeat (first | (with_reducible first | refine QL.x ?_ | refine QC.x ?_ | refine QB.x ?_) | (with_reducible refine QB.o (by decide) ?_))))
    (repeat (first | ((with_reducible show RG _ _ (_ :: _) _ _ _); refine RG.go1 (k := ?_)) | ((with_reducible show DG _ _ (_ :: _) _ _ _ _ _); refine DG.go1 (k := ?_)) | with_reducible apply RG.nil | with_reducible apply W.seq | with_reducible apply W.reg | with_reducible apply W.skip | with_reducible apply W.block | with_reducible apply W.drw | with_reducible apply DG.nil | (with_reducible refine W.done (QB.n ?_))))
    (refine W.ret ?_; (repeat (with_reducible first | refine QB.r ?_ | refine QL.r ?_ | refine QC.r ?_)); refine QF.r ?_)
    rw [et] at *
    (refine RetOk.wk (Wk.frz (b := 1) rfl rfl) ?_; refine RetOk.wk (Wk.box (b := 1) (cs' := [_, _]) rfl (by dsimp only [ClL]; (repeat' (first | exact True.intro | exact Cl.ice rfl rfl rfl (by first | assumption | decide | omega | (simp; (first | (all_goals fail) | fail)) | (simp <;> omega)) (by first | exact take_all _ | exact take_len (by first | (simp; (first | (all_goals fail) | fail)) | (simp <;> omega)) | exact rfl) | exact Cl.le (.refl _) | apply And.intro)); (first | (all_goals fail) | fail))) ?_; dsimp only [setO])
    (refine RetOk.wk (Wk.frz (b := 0) rfl rfl) ?_; refine RetOk.wk (Wk.tmp (t := 3) (Cl.ice rfl rfl rfl (by first | assumption | decide | omega | (simp; (first | (all_goals fail) | fail)) | (simp <;> omega)) (by first | exact take_all _ | exact take_len (by first | (simp; (first | (all_goals fail) | fail)) | (simp <;> omega)) | exact rfl))) ?_; dsimp only [setO])
    exact RetOk.rs (vs := [_, _]) r_caravelref16_Tick []
end Go.Proofs.Ytbkekpecfgmelaa
