/- What wheel's functions compute: Set, Right. -/
import Derived.Test.YtbkekpecfgmelaaWw2
namespace Go.Proofs.Ytbkekpecfgmelaa
open Go.RowKit
set_option linter.unusedVariables false
set_option linter.unusedSimpArgs false
set_option maxRecDepth 100000
set_option maxHeartbeats 4000000
def insGo (l : List Tmr) (at_ : Int) : Nat → Nat
  | 0 => 0
  | i + 1 => if at_ < (l.getD i ⟨0, 0⟩).at_ then insGo l at_ i else i + 1
theorem insGo_le (l : List Tmr) (at_ : Int) : ∀ i, insGo l at_ i ≤ i
  | 0 => Nat.le_refl _
  | i + 1 => by
    have := insGo_le l at_ i
    unfold insGo; split <;> omega
def insPos (l : List Tmr) (at_ : Int) : Nat := insGo l at_ l.length
def ins (l : List Tmr) (t : Tmr) : List Tmr := l.take (insPos l t.at_) ++ t :: l.drop (insPos l t.at_)
def wset (now : Int) (l : List Tmr) (id after : Int) : List Tmr × Int :=
  if 4611686018427387904 < after then (l, 1) else if 64 ≤ (wout l id).length then (l, 5) else (ins (wout l id) ⟨id, now + max after 1⟩, 0)
theorem wSet_ok (now : Int) (hn : 0 ≤ now ∧ now ≤ 9223372036854775807) (l : List Tmr) (hl : l.length ≤ 400000) (id after : Int) (ha : 0 ≤ after ∧ after ≤ 18446744073709551615) :
    ACall Try.prog 9 [wv true now l, .int .i64 id, .int .u64 after] (.tup [wv false now (wset now l id after).1, .int .i64 (wset now l id after).2]) [] := by
  have cs := wStop_ok now l (by omega) id
  have cc := wCloneF_ok now l (by omega)
  have hol := wout_len l id
  by_cases h1 : 4611686018427387904 < after
  · rw [show wset now l id after = (l, 1) from if_pos h1]
    unfold wv at cs cc ⊢
    refine acall_walk (N := 63) Try.func9 (by kernel_rfl) p_wheel_Set rfl ?_; unfold c_wheel_Set; dsimp only [enum, Nat.reduceAdd]
    (repeat (first | ((with_reducible show RG _ _ (_ :: _) _ _ _); refine RG.go1 (k := ?_)) | ((with_reducible show DG _ _ (_ :: _) _ _ _ _ _); refine DG.go1 (k := ?_)) | with_reducible apply RG.nil | with_reducible apply W.seq | with_reducible apply W.reg | with_reducible apply W.skip | with_reducible apply W.block | with_reducible apply W.drw | with_reducible apply DG.nil | (with_reducible refine W.done (QB.n ?_))))
    (first | ((with_reducible show RG _ _ (_ :: _) _ _ _); refine RG.ca (cs) (k := ?_)) | ((with_reducible show DG _ _ (_ :: _) _ _ _ _ _); refine DG.ca (cs) (k := ?_)))
    (repeat (first | ((with_reducible show RG _ _ (_ :: _) _ _ _); refine RG.go1 (k := ?_)) | ((with_reducible show DG _ _ (_ :: _) _ _ _ _ _); refine DG.go1 (k := ?_)) | with_reducible apply RG.nil | with_reducible apply W.seq | with_reducible apply W.reg | with_reducible apply W.skip | with_reducible apply W.block | with_reducible apply W.drw | with_reducible apply DG.nil | (with_reducible refine W.done (QB.n ?_))))
    refine W.cndT ?_
    (repeat (first | ((with_reducible show RG _ _ (_ :: _) _ _ _); refine RG.go1 (k := ?_)) | ((with_reducible show DG _ _ (_ :: _) _ _ _ _ _); refine DG.go1 (k := ?_)) | with_reducible apply RG.nil | with_reducible apply W.seq | with_reducible apply W.reg | with_reducible apply W.skip | with_reducible apply W.block | with_reducible apply W.drw | with_reducible apply DG.nil | (with_reducible refine W.done (QB.n ?_))))
    (first | ((with_reducible show RG _ _ (_ :: _) _ _ _); refine RG.ca (cc) (k := ?_)) | ((with_reducible show DG _ _ (_ :: _) _ _ _ _ _); refine DG.ca (cc) (k := ?_)))
    (repeat (first | ((with_reducible show RG _ _ (_ :: _) _ _ _); refine RG.go1 (k := ?_)) | ((with_reducible show DG _ _ (_ :: _) _ _ _ _ _); refine DG.go1 (k := ?_)) | with_reducible apply RG.nil | with_reducible apply W.seq | with_reducible apply W.reg | with_reducible apply W.skip | with_reducible apply W.block | with_reducible apply W.drw | with_reducible apply DG.nil | (with_reducible refine W.done (QB.n ?_))))
    (refine W.ret ?_; (repeat (with_reducible first | refine QB.r ?_ | refine QL.r ?_ | refine QC.r ?_)); refine QF.r ?_)
    exact RetOk.rs (vs := [_, _]) r_wheel_Set []
  by_cases h2 : 64 ≤ (wout l id).length
  · rw [show wset now l id after = (l, 5) by unfold wset; rw [if_neg h1, if_pos h2]]
    unfold wv at cs cc ⊢
    refine acall_walk (N := 63) Try.func9 (by kernel_rfl) p_wheel_Set rfl ?_; unfold c_wheel_Set; dsimp only [enum, Nat.reduceAdd]
    (repeat (first | ((with_reducible show RG _ _ (_ :: _) _ _ _); refine RG.go1 (k := ?_)) | ((with_reducible show DG _ _ (_ :: _) _ _ _ _ _); refine DG.go1 (k := ?_)) | with_reducible apply RG.nil | with_reducible apply W.seq | with_reducible apply W.reg | with_reducible apply W.skip | with_reducible apply W.block | with_reducible apply W.drw | with_reducible apply DG.nil | (with_reducible refine W.done (QB.n ?_))))
    (first | ((with_reducible show RG _ _ (_ :: _) _ _ _); refine RG.ca (cs) (k := ?_)) | ((with_reducible show DG _ _ (_ :: _) _ _ _ _ _); refine DG.ca (cs) (k := ?_)))
    (repeat (first | ((with_reducible show RG _ _ (_ :: _) _ _ _); refine RG.go1 (k := ?_)) | ((with_reducible show DG _ _ (_ :: _) _ _ _ _ _); refine DG.go1 (k := ?_)) | with_reducible apply RG.nil | with_reducible apply W.seq | with_reducible apply W.reg | with_reducible apply W.skip | with_reducible apply W.block | with_reducible apply W.drw | with_reducible apply DG.nil | (with_reducible refine W.done (QB.n ?_))))
    refine W.cndF ?_
    (repeat (first | ((with_reducible show RG _ _ (_ :: _) _ _ _); refine RG.go1 (k := ?_)) | ((with_reducible show DG _ _ (_ :: _) _ _ _ _ _); refine DG.go1 (k := ?_)) | with_reducible apply RG.nil | with_reducible apply W.seq | with_reducible apply W.reg | with_reducible apply W.skip | with_reducible apply W.block | with_reducible apply W.drw | with_reducible apply DG.nil | (with_reducible refine W.done (QB.n ?_))))
    refine W.cndT ?_
    (repeat (first | ((with_reducible show RG _ _ (_ :: _) _ _ _); refine RG.go1 (k := ?_)) | ((with_reducible show DG _ _ (_ :: _) _ _ _ _ _); refine DG.go1 (k := ?_)) | with_reducible apply RG.nil | with_reducible apply W.seq | with_reducible apply W.reg | with_reducible apply W.skip | with_reducible apply W.block | with_reducible apply W.drw | with_reducible apply DG.nil | (with_reducible refine W.done (QB.n ?_))))
    (first | ((with_reducible show RG _ _ (_ :: _) _ _ _); refine RG.ca (cc) (k := ?_)) | ((with_reducible show DG _ _ (_ :: _) _ _ _ _ _); refine DG.ca (cc) (k := ?_)))
    (repeat (first | ((with_reducible show RG _ _ (_ :: _) _ _ _); refine RG.go1 (k := ?_)) | ((with_reducible show DG _ _ (_ :: _) _ _ _ _ _); refine DG.go1 (k := ?_)) | with_reducible apply RG.nil | with_reducible apply W.seq | with_reducible apply W.reg | with_reducible apply W.skip | with_reducible apply W.block | with_reducible apply W.drw | with_reducible apply DG.nil | (with_reducible refine W.done (QB.n ?_))))
    (refine W.ret ?_; (repeat (with_reducible first | refine QB.r ?_ | refine QL.r ?_ | refine QC.r ?_)); refine QF.r ?_)
    exact RetOk.rs (vs := [_, _]) r_wheel_Set []
  · rw [show wset now l id after = (ins (wout l id) ⟨id, now + max after 1⟩, 0) by unfold wset; rw [if_neg h1, if_neg h2]]
    clear cc
    generalize wout l id = m at *
    obtain ⟨at_, hat⟩ : ∃ at_, now + max after 1 = at_ := ⟨_, rfl⟩
    have hil : insPos m at_ ≤ m.length := insGo_le m at_ m.length
    have hip : insGo m at_ m.length = insPos m at_ := rfl
    unfold ins
    rw [hat]
    dsimp only
    generalize insPos m at_ = p at *
    have ci := tlIns_ok m (by omega) p hil ⟨id, at_⟩
    have elm := tl_len m
    dsimp only at ci ⊢
    have eli : ((m.take p ++ ⟨id, at_⟩ :: m.drop p).map tmr).length = m.length + 1 := by
      simp; omega
    unfold wv at cs ⊢
    refine acall_walk (N := 63) Try.func9 (by kernel_rfl) p_wheel_Set rfl ?_; unfold c_wheel_Set; dsimp only [enum, Nat.reduceAdd]
    (repeat (first | ((with_reducible show RG _ _ (_ :: _) _ _ _); refine RG.go1 (k := ?_)) | ((with_reducible show DG _ _ (_ :: _) _ _ _ _ _); refine DG.go1 (k := ?_)) | with_reducible apply RG.nil | with_reducible apply W.seq | with_reducible apply W.reg | with_reducible apply W.skip | with_reducible apply W.block | with_reducible apply W.drw | with_reducible apply DG.nil | (with_reducible refine W.done (QB.n ?_))))
    (first | ((with_reducible show RG _ _ (_ :: _) _ _ _); refine RG.ca (cs) (k := ?_)) | ((with_reducible show DG _ _ (_ :: _) _ _ _ _ _); refine DG.ca (cs) (k := ?_)))
    (repeat (first | ((with_reducible show RG _ _ (_ :: _) _ _ _); refine RG.go1 (k := ?_)) | ((with_reducible show DG _ _ (_ :: _) _ _ _ _ _); refine DG.go1 (k := ?_)) | with_reducible apply RG.nil | with_reducible apply W.seq | with_reducible apply W.reg | with_reducible apply W.skip | with_reducible apply W.block | with_reducible apply W.drw | with_reducible apply DG.nil | (with_reducible refine W.done (QB.n ?_))))
    refine W.cndF ?_
    (repeat (first | ((with_reducible show RG _ _ (_ :: _) _ _ _); refine RG.go1 (k := ?_)) | ((with_reducible show DG _ _ (_ :: _) _ _ _ _ _); refine DG.go1 (k := ?_)) | with_reducible apply RG.nil | with_reducible apply W.seq | with_reducible apply W.reg | with_reducible apply W.skip | with_reducible apply W.block | with_reducible apply W.drw | with_reducible apply DG.nil | (with_reducible refine W.done (QB.n ?_))))
    refine W.cndF ?_
    (repeat (first | ((with_reducible show RG _ _ (_ :: _) _ _ _); refine RG.go1 (k := ?_)) | ((with_reducible show DG _ _ (_ :: _) _ _ _ _ _); refine DG.go1 (k := ?_)) | with_reducible apply RG.nil | with_reducible apply W.seq | with_reducible apply W.reg | with_reducible apply W.skip | with_reducible apply W.block | with_reducible apply W.drw | with_reducible apply DG.nil | (with_reducible refine W.done (QB.n ?_))))
    rw [hat]
    refine W.loop (ι := {i : Nat // i ≤ m.length ∧ insGo m at_ i = p}) (fun i => ⟨[(11, .int .i64 i.1), (10, .int .u64 at_), (1, .int .i64 id), (8, .bptr 2 0), (6, .bptr 1 0)], [none, some [.int .u64 0, .nil], some [.int .u64 now, .ref 0 2 0 m.length]], [some ⟨false, 2, m.map tmr⟩], 3, 1⟩) (fun i => i.1) ⟨m.length, Nat.le_refl _, hip⟩ ?_ ?_
    · exact Wk.rn ([0, 1, 2] ) ( [0])
    rintro ⟨i, hi, hgo⟩
    dsimp only
    have hrl := elm
    cases i with
    | zero =>
      have hp : p = 0 := hgo.symm
      subst hp
      (repeat (first | ((with_reducible show RG _ _ (_ :: _) _ _ _); refine RG.go1 (k := ?_)) | ((with_reducible show DG _ _ (_ :: _) _ _ _ _ _); refine DG.go1 (k := ?_)) | with_reducible apply RG.nil | with_reducible apply W.seq | with_reducible apply W.reg | with_reducible apply W.skip | with_reducible apply W.block | with_reducible apply W.drw | with_reducible apply DG.nil | (with_reducible refine W.done (QB.n ?_))))
      refine W.cndF ?_
      (refine W.exit ?_; (repeat (first | (with_reducible first | refine QL.x ?_ | refine QC.x ?_ | refine QB.x ?_) | (with_reducible refine QB.o (by decide) ?_))))
      (repeat (first | ((with_reducible show RG _ _ (_ :: _) _ _ _); refine RG.go1 (k := ?_)) | ((with_reducible show DG _ _ (_ :: _) _ _ _ _ _); refine DG.go1 (k := ?_)) | with_reducible apply RG.nil | with_reducible apply W.seq | with_reducible apply W.reg | with_reducible apply W.skip | with_reducible apply W.block | with_reducible apply W.drw | with_reducible apply DG.nil | (with_reducible refine W.done (QB.n ?_))))
      (refine RG.mca ([]) ([0]) (ci) (k := ?_))
      (repeat (first | ((with_reducible show RG _ _ (_ :: _) _ _ _); refine RG.go1 (k := ?_)) | ((with_reducible show DG _ _ (_ :: _) _ _ _ _ _); refine DG.go1 (k := ?_)) | with_reducible apply RG.nil | with_reducible apply W.seq | with_reducible apply W.reg | with_reducible apply W.skip | with_reducible apply W.block | with_reducible apply W.drw | with_reducible apply DG.nil | (with_reducible refine W.done (QB.n ?_))))
      (refine W.ret ?_; (repeat (with_reducible first | refine QB.r ?_ | refine QL.r ?_ | refine QC.r ?_)); refine QF.r ?_)
      (refine RetOk.wk (Wk.frz (b := 2) rfl rfl) ?_; refine RetOk.wk (Wk.box (b := 1) (cs' := [_, _]) rfl (by dsimp only [ClL]; (repeat' (first | exact True.intro | exact Cl.ice rfl rfl rfl (by first | assumption | decide | omega | (simp; (first | (all_goals fail) | fail)) | (simp <;> omega)) (by first | exact take_all _ | exact take_len (by first | (simp; (first | (all_goals fail) | fail)) | (simp <;> omega)) | exact rfl) | exact Cl.le (.refl _) | apply And.intro)); (first | (all_goals fail) | fail))) ?_; dsimp only [setO])
      exact RetOk.rs (vs := [_, _]) r_wheel_Set []
    | succ i =>
      have hlt : i < m.length := by omega
      have hE := tl_at m i hlt (j := i) rfl
      have hgd : m.getD i ⟨0, 0⟩ = m[i] := getD_lt m _ hlt
      unfold insGo at hgo
      rw [hgd] at hgo
      have hi1 : ((i + 1 : Nat) : Int) - 1 = (i : Int) := by omega
      by_cases hc : at_ < m[i].at_
      · rw [if_pos hc] at hgo
        generalize m[i] = x at hE hc
        (repeat (first | ((with_reducible show RG _ _ (_ :: _) _ _ _); refine RG.go1 (k := ?_)) | ((with_reducible show DG _ _ (_ :: _) _ _ _ _ _); refine DG.go1 (k := ?_)) | with_reducible apply RG.nil | with_reducible apply W.seq | with_reducible apply W.reg | with_reducible apply W.skip | with_reducible apply W.block | with_reducible apply W.drw | with_reducible apply DG.nil | (with_reducible refine W.done (QB.n ?_))))
        (first | ((with_reducible show RG _ _ (_ :: _) _ _ _); refine RG.ewg ((ix_of (show 0 + (((i + 1 : Nat) : Int) - 1).toNat = i by omega))) (k := ?_)) | ((with_reducible show DG _ _ (_ :: _) _ _ _ _ _); refine DG.ewg ((ix_of (show 0 + (((i + 1 : Nat) : Int) - 1).toNat = i by omega))) (k := ?_)))
        (repeat (first | ((with_reducible show RG _ _ (_ :: _) _ _ _); refine RG.go1 (k := ?_)) | ((with_reducible show DG _ _ (_ :: _) _ _ _ _ _); refine DG.go1 (k := ?_)) | with_reducible apply RG.nil | with_reducible apply W.seq | with_reducible apply W.reg | with_reducible apply W.skip | with_reducible apply W.block | with_reducible apply W.drw | with_reducible apply DG.nil | (with_reducible refine W.done (QB.n ?_))))
        (first | ((with_reducible show RG _ _ (_ :: _) _ _ _); refine RG.gld (hE) (k := ?_)) | ((with_reducible show DG _ _ (_ :: _) _ _ _ _ _); refine DG.gld (hE) (k := ?_)))
        (repeat (first | ((with_reducible show RG _ _ (_ :: _) _ _ _); refine RG.go1 (k := ?_)) | ((with_reducible show DG _ _ (_ :: _) _ _ _ _ _); refine DG.go1 (k := ?_)) | with_reducible apply RG.nil | with_reducible apply W.seq | with_reducible apply W.reg | with_reducible apply W.skip | with_reducible apply W.block | with_reducible apply W.drw | with_reducible apply DG.nil | (with_reducible refine W.done (QB.n ?_))))
        refine W.cndT ?_
        (repeat (first | ((with_reducible show RG _ _ (_ :: _) _ _ _); refine RG.go1 (k := ?_)) | ((with_reducible show DG _ _ (_ :: _) _ _ _ _ _); refine DG.go1 (k := ?_)) | with_reducible apply RG.nil | with_reducible apply W.seq | with_reducible apply W.reg | with_reducible apply W.skip | with_reducible apply W.block | with_reducible apply W.drw | with_reducible apply DG.nil | (with_reducible refine W.done (QB.n ?_))))
        rw [hi1]
        refine W.done (QL.n (⟨i, by omega, hgo⟩) ?_ ?_)
        · exact Wk.rn ([0, 1, 2] ) ( [0])
        · dsimp only; omega
      · rw [if_neg hc] at hgo
        subst hgo
        generalize m[i] = x at hE hc
        (repeat (first | ((with_reducible show RG _ _ (_ :: _) _ _ _); refine RG.go1 (k := ?_)) | ((with_reducible show DG _ _ (_ :: _) _ _ _ _ _); refine DG.go1 (k := ?_)) | with_reducible apply RG.nil | with_reducible apply W.seq | with_reducible apply W.reg | with_reducible apply W.skip | with_reducible apply W.block | with_reducible apply W.drw | with_reducible apply DG.nil | (with_reducible refine W.done (QB.n ?_))))
        (first | ((with_reducible show RG _ _ (_ :: _) _ _ _); refine RG.ewg ((ix_of (show 0 + (((i + 1 : Nat) : Int) - 1).toNat = i by omega))) (k := ?_)) | ((with_reducible show DG _ _ (_ :: _) _ _ _ _ _); refine DG.ewg ((ix_of (show 0 + (((i + 1 : Nat) : Int) - 1).toNat = i by omega))) (k := ?_)))
        (repeat (first | ((with_reducible show RG _ _ (_ :: _) _ _ _); refine RG.go1 (k := ?_)) | ((with_reducible show DG _ _ (_ :: _) _ _ _ _ _); refine DG.go1 (k := ?_)) | with_reducible apply RG.nil | with_reducible apply W.seq | with_reducible apply W.reg | with_reducible apply W.skip | with_reducible apply W.block | with_reducible apply W.drw | with_reducible apply DG.nil | (with_reducible refine W.done (QB.n ?_))))
        (first | ((with_reducible show RG _ _ (_ :: _) _ _ _); refine RG.gld (hE) (k := ?_)) | ((with_reducible show DG _ _ (_ :: _) _ _ _ _ _); refine DG.gld (hE) (k := ?_)))
        (repeat (first | ((with_reducible show RG _ _ (_ :: _) _ _ _); refine RG.go1 (k := ?_)) | ((with_reducible show DG _ _ (_ :: _) _ _ _ _ _); refine DG.go1 (k := ?_)) | with_reducible apply RG.nil | with_reducible apply W.seq | with_reducible apply W.reg | with_reducible apply W.skip | with_reducible apply W.block | with_reducible apply W.drw | with_reducible apply DG.nil | (with_reducible refine W.done (QB.n ?_))))
        refine W.cndF ?_
        (refine W.exit ?_; (repeat (first | (with_reducible first | refine QL.x ?_ | refine QC.x ?_ | refine QB.x ?_) | (with_reducible refine QB.o (by decide) ?_))))
        (repeat (first | ((with_reducible show RG _ _ (_ :: _) _ _ _); refine RG.go1 (k := ?_)) | ((with_reducible show DG _ _ (_ :: _) _ _ _ _ _); refine DG.go1 (k := ?_)) | with_reducible apply RG.nil | with_reducible apply W.seq | with_reducible apply W.reg | with_reducible apply W.skip | with_reducible apply W.block | with_reducible apply W.drw | with_reducible apply DG.nil | (with_reducible refine W.done (QB.n ?_))))
        (refine RG.mca ([]) ([0]) (ci) (k := ?_))
        (repeat (first | ((with_reducible show RG _ _ (_ :: _) _ _ _); refine RG.go1 (k := ?_)) | ((with_reducible show DG _ _ (_ :: _) _ _ _ _ _); refine DG.go1 (k := ?_)) | with_reducible apply RG.nil | with_reducible apply W.seq | with_reducible apply W.reg | with_reducible apply W.skip | with_reducible apply W.block | with_reducible apply W.drw | with_reducible apply DG.nil | (with_reducible refine W.done (QB.n ?_))))
        (refine W.ret ?_; (repeat (with_reducible first | refine QB.r ?_ | refine QL.r ?_ | refine QC.r ?_)); refine QF.r ?_)
        (refine RetOk.wk (Wk.frz (b := 2) rfl rfl) ?_; refine RetOk.wk (Wk.box (b := 1) (cs' := [_, _]) rfl (by dsimp only [ClL]; (repeat' (first | exact True.intro | exact Cl.ice rfl rfl rfl (by first | assumption | decide | omega | (simp; (first | (all_goals fail) | fail)) | (simp <;> omega)) (by first | exact take_all _ | exact take_len (by first | (simp; (first | (all_goals fail) | fail)) | (simp <;> omega)) | exact rfl) | exact Cl.le (.refl _) | apply And.intro)); (first | (all_goals fail) | fail))) ?_; dsimp only [setO])
        exact RetOk.rs (vs := [_, _]) r_wheel_Set []
end Go.Proofs.Ytbkekpecfgmelaa
