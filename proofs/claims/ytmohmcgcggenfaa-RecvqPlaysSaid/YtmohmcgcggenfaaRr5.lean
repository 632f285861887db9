/- What recvq.Right tells. -/
import Derived.Test.YtmohmcgcggenfaaRr4
namespace Go.Proofs.Ytmohmcgcggenfaa
open Go.RowKit
set_option linter.unusedVariables false
set_option linter.unusedSimpArgs false
set_option maxRecDepth 100000
set_option maxHeartbeats 4000000
theorem right_ok {s : RS} (h : s.Ok) (b : Int) (hb : 0 ≤ b ∧ b ≤ 4294967295) : ACall Try.prog 19 [rq true b s] (.bool true) [] := by
  obtain ⟨data, ps, kn, en, dn⟩ := s
  obtain ⟨hd, hsep, hbd0, hlen, hkn, hdn⟩ := h
  dsimp only at hd hsep hbd0 hlen hkn hdn
  have hbd : ∀ x ∈ ps, pEnd x ≤ 256 - data.length := hbd0
  have cw := qWindow_ok b data ps b kn (RS.ev ⟨data, ps, kn, en, dn⟩ b) dn (by omega)
  have el : (ps.map (pc b)).length = ps.length := by simp
  have eld : (data.map by8).length = data.length := by simp
  dsimp only [rq, qv] at cw ⊢
  unfold RS.ev at cw ⊢
  dsimp only at cw ⊢
  cases dn
  · cases kn
    · rw [if_neg Bool.false_ne_true] at cw ⊢
      have hend : false = true → false = false → ∀ x ∈ ps, (pEnd x : Int) ≤ en := fun h => absurd h (by decide)
      have hen0 : false = true → false = false → ((0 : Nat) : Int) ≤ en := fun h => absurd h (by decide)
      clear hkn hdn hbd0
      refine acall_walk (N := 113) Try.func19 (by kernel_rfl) p_recvq_Right rfl ?_; unfold c_recvq_Right; dsimp only [enum, Nat.reduceAdd]
      (repeat (first | ((with_reducible show RG _ _ (_ :: _) _ _ _); refine RG.go1 (k := ?_)) | ((with_reducible show DG _ _ (_ :: _) _ _ _ _ _); refine DG.go1 (k := ?_)) | with_reducible apply RG.nil | with_reducible apply W.seq | with_reducible apply W.reg | with_reducible apply W.skip | with_reducible apply W.block | with_reducible apply W.drw | with_reducible apply DG.nil | (with_reducible refine W.done (QB.n ?_))))
      refine W.cndF ?_
      (repeat (first | ((with_reducible show RG _ _ (_ :: _) _ _ _); refine RG.go1 (k := ?_)) | ((with_reducible show DG _ _ (_ :: _) _ _ _ _ _); refine DG.go1 (k := ?_)) | with_reducible apply RG.nil | with_reducible apply W.seq | with_reducible apply W.reg | with_reducible apply W.skip | with_reducible apply W.block | with_reducible apply W.drw | with_reducible apply DG.nil | (with_reducible refine W.done (QB.n ?_))))
      refine W.loop (ι := {q : Nat × Nat // q.1 ≤ ps.length ∧ Sep q.2 (ps.drop q.1) ∧ (false = true → false = false → (q.2 : Int) ≤ en)}) (fun q => ⟨[(54, .int .i64 q.1.1), (53, .int .i64 ps.length), (52, .sl true 2 (ps.map (pc b))), (3, .int .i64 q.1.2), (1, .bptr 0 0)], [some [.int .u32 b, .sl true 1 (data.map by8), .sl true 2 (ps.map (pc b)), .bool false, .int .u32 0, .bool false]], [], 1, 0⟩) (fun q => ps.length - q.1.1) ⟨(0, 0), Nat.zero_le _, hsep, hen0⟩ ?_ ?_
      · have q1 : ALe (.int .i64 0) (.int .i64 ((0 : Nat) : Int)) := ALe.int rfl
        dsimp only
        rw [← el]
        exact Wk.rn ([0] ) ( [])
      rintro ⟨⟨i, at_⟩, hi, hs, he⟩
      dsimp only at hi hs he ⊢
      (repeat (first | ((with_reducible show RG _ _ (_ :: _) _ _ _); refine RG.go1 (k := ?_)) | ((with_reducible show DG _ _ (_ :: _) _ _ _ _ _); refine DG.go1 (k := ?_)) | with_reducible apply RG.nil | with_reducible apply W.seq | with_reducible apply W.reg | with_reducible apply W.skip | with_reducible apply W.block | with_reducible apply W.drw | with_reducible apply DG.nil | (with_reducible refine W.done (QB.n ?_))))
      refine W.cnd (fun h1 => ?_) (fun h1 => ?_)
      · have hlt : i < ps.length := by simp at h1; omega
        have hE := pc_at b ps i hlt
        have hbx := hbd _ (List.getElem_mem hlt)
        have hex := fun h1 h2 => hend h1 h2 _ (List.getElem_mem hlt)
        rw [List.drop_eq_getElem_cons hlt] at hs
        generalize ps[i] = x at hE hbx hs hex
        obtain ⟨xd, xs⟩ := x
        obtain ⟨s1, s2, s3⟩ := hs
        have cd := seqDiff_ok (sAdd b xd) b
        rw [sDiff_self b _ hb (by unfold pEnd at hbx; dsimp only at hbx s1 ⊢; omega)] at cd
        unfold pEnd at hbx s3 hex
        dsimp only at hE hbx s1 s2 s3 cd hex
        have ex : (xs.map by8).length = xs.length := by simp
        clear h1
        (repeat (first | ((with_reducible show RG _ _ (_ :: _) _ _ _); refine RG.go1 (k := ?_)) | ((with_reducible show DG _ _ (_ :: _) _ _ _ _ _); refine DG.go1 (k := ?_)) | with_reducible apply RG.nil | with_reducible apply W.seq | with_reducible apply W.reg | with_reducible apply W.skip | with_reducible apply W.block | with_reducible apply W.drw | with_reducible apply DG.nil | (with_reducible refine W.done (QB.n ?_))))
        (first | ((with_reducible show RG _ _ (_ :: _) _ _ _); refine RG.ew (cptr_of (hE) (by (conv => lhs; whnf) <;> exact rfl)) (k := ?_)) | ((with_reducible show DG _ _ (_ :: _) _ _ _ _ _); refine DG.ew (cptr_of (hE) (by (conv => lhs; whnf) <;> exact rfl)) (k := ?_)))
        (repeat (first | ((with_reducible show RG _ _ (_ :: _) _ _ _); refine RG.go1 (k := ?_)) | ((with_reducible show DG _ _ (_ :: _) _ _ _ _ _); refine DG.go1 (k := ?_)) | with_reducible apply RG.nil | with_reducible apply W.seq | with_reducible apply W.reg | with_reducible apply W.skip | with_reducible apply W.block | with_reducible apply W.drw | with_reducible apply DG.nil | (with_reducible refine W.done (QB.n ?_))))
        (first | ((with_reducible show RG _ _ (_ :: _) _ _ _); refine RG.ca (cd) (k := ?_)) | ((with_reducible show DG _ _ (_ :: _) _ _ _ _ _); refine DG.ca (cd) (k := ?_)))
        (repeat (first | ((with_reducible show RG _ _ (_ :: _) _ _ _); refine RG.go1 (k := ?_)) | ((with_reducible show DG _ _ (_ :: _) _ _ _ _ _); refine DG.go1 (k := ?_)) | with_reducible apply RG.nil | with_reducible apply W.seq | with_reducible apply W.reg | with_reducible apply W.skip | with_reducible apply W.block | with_reducible apply W.drw | with_reducible apply DG.nil | (with_reducible refine W.done (QB.n ?_))))
        (first | ((with_reducible show RG _ _ (_ :: _) _ _ _); refine RG.gca (fun _ => cw) (k := ?_)) | ((with_reducible show DG _ _ (_ :: _) _ _ _ _ _); refine DG.gca (fun _ => cw) (k := ?_)))
        (repeat (first | ((with_reducible show RG _ _ (_ :: _) _ _ _); refine RG.go1 (k := ?_)) | ((with_reducible show DG _ _ (_ :: _) _ _ _ _ _); refine DG.go1 (k := ?_)) | with_reducible apply RG.nil | with_reducible apply W.seq | with_reducible apply W.reg | with_reducible apply W.skip | with_reducible apply W.block | with_reducible apply W.drw | with_reducible apply DG.nil | (with_reducible refine W.done (QB.n ?_))))
        refine W.cndF ?_
        (repeat (first | ((with_reducible show RG _ _ (_ :: _) _ _ _); refine RG.go1 (k := ?_)) | ((with_reducible show DG _ _ (_ :: _) _ _ _ _ _); refine DG.go1 (k := ?_)) | with_reducible apply RG.nil | with_reducible apply W.seq | with_reducible apply W.reg | with_reducible apply W.skip | with_reducible apply W.block | with_reducible apply W.drw | with_reducible apply DG.nil | (with_reducible refine W.done (QB.n ?_))))
        have hn : ((xd : Int) + ((xs.map by8).length : Int)) = ((xd + xs.length : Nat) : Int) := by rw [ex]; omega
        rw [hn]
        refine W.done (QL.n (⟨(i + 1, xd + xs.length), by dsimp only; omega, s3, fun h1 h2 => by have := hex h1 h2; dsimp only; omega⟩) ?_ ?_)
        · exact Wk.rn ([0] ) ( [])
        · dsimp only; omega
      (refine W.exit ?_; (repeat (first | (with_reducible first | refine QL.x ?_ | refine QC.x ?_ | refine QB.x ?_) | (with_reducible refine QB.o (by decide) ?_))))
      (repeat (first | ((with_reducible show RG _ _ (_ :: _) _ _ _); refine RG.go1 (k := ?_)) | ((with_reducible show DG _ _ (_ :: _) _ _ _ _ _); refine DG.go1 (k := ?_)) | with_reducible apply RG.nil | with_reducible apply W.seq | with_reducible apply W.reg | with_reducible apply W.skip | with_reducible apply W.block | with_reducible apply W.drw | with_reducible apply DG.nil | (with_reducible refine W.done (QB.n ?_))))
      refine W.cndT ?_
      (repeat (first | ((with_reducible show RG _ _ (_ :: _) _ _ _); refine RG.go1 (k := ?_)) | ((with_reducible show DG _ _ (_ :: _) _ _ _ _ _); refine DG.go1 (k := ?_)) | with_reducible apply RG.nil | with_reducible apply W.seq | with_reducible apply W.reg | with_reducible apply W.skip | with_reducible apply W.block | with_reducible apply W.drw | with_reducible apply DG.nil | (with_reducible refine W.done (QB.n ?_))))
      (refine W.ret ?_; (repeat (with_reducible first | refine QB.r ?_ | refine QL.r ?_ | refine QC.r ?_)); refine QF.r ?_)
      exact RetOk.rs (vs := [_]) r_recvq_Right []
    · obtain ⟨k1, k2, k3⟩ := hkn rfl rfl
      rw [if_pos rfl] at cw ⊢
      have hend : true = true → false = false → ∀ x ∈ ps, (pEnd x : Int) ≤ en := fun _ _ => k3
      have hen0 : true = true → false = false → ((0 : Nat) : Int) ≤ en := fun _ _ => by omega
      have ce := seqDiff_ok (sAdd b en) b
      rw [sDiff_self b _ hb (by omega)] at ce
      clear hkn hdn hbd0 k3
      generalize sAdd b en = ev at *
      refine acall_walk (N := 113) Try.func19 (by kernel_rfl) p_recvq_Right rfl ?_; unfold c_recvq_Right; dsimp only [enum, Nat.reduceAdd]
      (repeat (first | ((with_reducible show RG _ _ (_ :: _) _ _ _); refine RG.go1 (k := ?_)) | ((with_reducible show DG _ _ (_ :: _) _ _ _ _ _); refine DG.go1 (k := ?_)) | with_reducible apply RG.nil | with_reducible apply W.seq | with_reducible apply W.reg | with_reducible apply W.skip | with_reducible apply W.block | with_reducible apply W.drw | with_reducible apply DG.nil | (with_reducible refine W.done (QB.n ?_))))
      refine W.cndF ?_
      (repeat (first | ((with_reducible show RG _ _ (_ :: _) _ _ _); refine RG.go1 (k := ?_)) | ((with_reducible show DG _ _ (_ :: _) _ _ _ _ _); refine DG.go1 (k := ?_)) | with_reducible apply RG.nil | with_reducible apply W.seq | with_reducible apply W.reg | with_reducible apply W.skip | with_reducible apply W.block | with_reducible apply W.drw | with_reducible apply DG.nil | (with_reducible refine W.done (QB.n ?_))))
      refine W.loop (ι := {q : Nat × Nat // q.1 ≤ ps.length ∧ Sep q.2 (ps.drop q.1) ∧ (true = true → false = false → (q.2 : Int) ≤ en)}) (fun q => ⟨[(54, .int .i64 q.1.1), (53, .int .i64 ps.length), (52, .sl true 2 (ps.map (pc b))), (3, .int .i64 q.1.2), (1, .bptr 0 0)], [some [.int .u32 b, .sl true 1 (data.map by8), .sl true 2 (ps.map (pc b)), .bool true, .int .u32 ev, .bool false]], [], 1, 0⟩) (fun q => ps.length - q.1.1) ⟨(0, 0), Nat.zero_le _, hsep, hen0⟩ ?_ ?_
      · have q1 : ALe (.int .i64 0) (.int .i64 ((0 : Nat) : Int)) := ALe.int rfl
        dsimp only
        rw [← el]
        exact Wk.rn ([0] ) ( [])
      rintro ⟨⟨i, at_⟩, hi, hs, he⟩
      dsimp only at hi hs he ⊢
      (repeat (first | ((with_reducible show RG _ _ (_ :: _) _ _ _); refine RG.go1 (k := ?_)) | ((with_reducible show DG _ _ (_ :: _) _ _ _ _ _); refine DG.go1 (k := ?_)) | with_reducible apply RG.nil | with_reducible apply W.seq | with_reducible apply W.reg | with_reducible apply W.skip | with_reducible apply W.block | with_reducible apply W.drw | with_reducible apply DG.nil | (with_reducible refine W.done (QB.n ?_))))
      refine W.cnd (fun h1 => ?_) (fun h1 => ?_)
      · have hlt : i < ps.length := by simp at h1; omega
        have hE := pc_at b ps i hlt
        have hbx := hbd _ (List.getElem_mem hlt)
        have hex := fun h1 h2 => hend h1 h2 _ (List.getElem_mem hlt)
        rw [List.drop_eq_getElem_cons hlt] at hs
        generalize ps[i] = x at hE hbx hs hex
        obtain ⟨xd, xs⟩ := x
        obtain ⟨s1, s2, s3⟩ := hs
        have cd := seqDiff_ok (sAdd b xd) b
        rw [sDiff_self b _ hb (by unfold pEnd at hbx; dsimp only at hbx s1 ⊢; omega)] at cd
        unfold pEnd at hbx s3 hex
        dsimp only at hE hbx s1 s2 s3 cd hex
        have ex : (xs.map by8).length = xs.length := by simp
        clear h1
        (repeat (first | ((with_reducible show RG _ _ (_ :: _) _ _ _); refine RG.go1 (k := ?_)) | ((with_reducible show DG _ _ (_ :: _) _ _ _ _ _); refine DG.go1 (k := ?_)) | with_reducible apply RG.nil | with_reducible apply W.seq | with_reducible apply W.reg | with_reducible apply W.skip | with_reducible apply W.block | with_reducible apply W.drw | with_reducible apply DG.nil | (with_reducible refine W.done (QB.n ?_))))
        (first | ((with_reducible show RG _ _ (_ :: _) _ _ _); refine RG.ew (cptr_of (hE) (by (conv => lhs; whnf) <;> exact rfl)) (k := ?_)) | ((with_reducible show DG _ _ (_ :: _) _ _ _ _ _); refine DG.ew (cptr_of (hE) (by (conv => lhs; whnf) <;> exact rfl)) (k := ?_)))
        (repeat (first | ((with_reducible show RG _ _ (_ :: _) _ _ _); refine RG.go1 (k := ?_)) | ((with_reducible show DG _ _ (_ :: _) _ _ _ _ _); refine DG.go1 (k := ?_)) | with_reducible apply RG.nil | with_reducible apply W.seq | with_reducible apply W.reg | with_reducible apply W.skip | with_reducible apply W.block | with_reducible apply W.drw | with_reducible apply DG.nil | (with_reducible refine W.done (QB.n ?_))))
        (first | ((with_reducible show RG _ _ (_ :: _) _ _ _); refine RG.ca (cd) (k := ?_)) | ((with_reducible show DG _ _ (_ :: _) _ _ _ _ _); refine DG.ca (cd) (k := ?_)))
        (repeat (first | ((with_reducible show RG _ _ (_ :: _) _ _ _); refine RG.go1 (k := ?_)) | ((with_reducible show DG _ _ (_ :: _) _ _ _ _ _); refine DG.go1 (k := ?_)) | with_reducible apply RG.nil | with_reducible apply W.seq | with_reducible apply W.reg | with_reducible apply W.skip | with_reducible apply W.block | with_reducible apply W.drw | with_reducible apply DG.nil | (with_reducible refine W.done (QB.n ?_))))
        (first | ((with_reducible show RG _ _ (_ :: _) _ _ _); refine RG.gca (fun _ => cw) (k := ?_)) | ((with_reducible show DG _ _ (_ :: _) _ _ _ _ _); refine DG.gca (fun _ => cw) (k := ?_)))
        (repeat (first | ((with_reducible show RG _ _ (_ :: _) _ _ _); refine RG.go1 (k := ?_)) | ((with_reducible show DG _ _ (_ :: _) _ _ _ _ _); refine DG.go1 (k := ?_)) | with_reducible apply RG.nil | with_reducible apply W.seq | with_reducible apply W.reg | with_reducible apply W.skip | with_reducible apply W.block | with_reducible apply W.drw | with_reducible apply DG.nil | (with_reducible refine W.done (QB.n ?_))))
        refine W.cndF ?_
        (repeat (first | ((with_reducible show RG _ _ (_ :: _) _ _ _); refine RG.go1 (k := ?_)) | ((with_reducible show DG _ _ (_ :: _) _ _ _ _ _); refine DG.go1 (k := ?_)) | with_reducible apply RG.nil | with_reducible apply W.seq | with_reducible apply W.reg | with_reducible apply W.skip | with_reducible apply W.block | with_reducible apply W.drw | with_reducible apply DG.nil | (with_reducible refine W.done (QB.n ?_))))
        have hn : ((xd : Int) + ((xs.map by8).length : Int)) = ((xd + xs.length : Nat) : Int) := by rw [ex]; omega
        rw [hn]
        refine W.done (QL.n (⟨(i + 1, xd + xs.length), by dsimp only; omega, s3, fun h1 h2 => by have := hex h1 h2; dsimp only; omega⟩) ?_ ?_)
        · exact Wk.rn ([0] ) ( [])
        · dsimp only; omega
      (refine W.exit ?_; (repeat (first | (with_reducible first | refine QL.x ?_ | refine QC.x ?_ | refine QB.x ?_) | (with_reducible refine QB.o (by decide) ?_))))
      (repeat (first | ((with_reducible show RG _ _ (_ :: _) _ _ _); refine RG.go1 (k := ?_)) | ((with_reducible show DG _ _ (_ :: _) _ _ _ _ _); refine DG.go1 (k := ?_)) | with_reducible apply RG.nil | with_reducible apply W.seq | with_reducible apply W.reg | with_reducible apply W.skip | with_reducible apply W.block | with_reducible apply W.drw | with_reducible apply DG.nil | (with_reducible refine W.done (QB.n ?_))))
      refine W.cndF ?_
      (repeat (first | ((with_reducible show RG _ _ (_ :: _) _ _ _); refine RG.go1 (k := ?_)) | ((with_reducible show DG _ _ (_ :: _) _ _ _ _ _); refine DG.go1 (k := ?_)) | with_reducible apply RG.nil | with_reducible apply W.seq | with_reducible apply W.reg | with_reducible apply W.skip | with_reducible apply W.block | with_reducible apply W.drw | with_reducible apply DG.nil | (with_reducible refine W.done (QB.n ?_))))
      (first | ((with_reducible show RG _ _ (_ :: _) _ _ _); refine RG.ca (ce) (k := ?_)) | ((with_reducible show DG _ _ (_ :: _) _ _ _ _ _); refine DG.ca (ce) (k := ?_)))
      (repeat (first | ((with_reducible show RG _ _ (_ :: _) _ _ _); refine RG.go1 (k := ?_)) | ((with_reducible show DG _ _ (_ :: _) _ _ _ _ _); refine DG.go1 (k := ?_)) | with_reducible apply RG.nil | with_reducible apply W.seq | with_reducible apply W.reg | with_reducible apply W.skip | with_reducible apply W.block | with_reducible apply W.drw | with_reducible apply DG.nil | (with_reducible refine W.done (QB.n ?_))))
      have he := he rfl rfl
      (first | ((with_reducible show RG _ _ (_ :: _) _ _ _); refine RG.gca (fun _ => cw) (k := ?_)) | ((with_reducible show DG _ _ (_ :: _) _ _ _ _ _); refine DG.gca (fun _ => cw) (k := ?_)))
      (repeat (first | ((with_reducible show RG _ _ (_ :: _) _ _ _); refine RG.go1 (k := ?_)) | ((with_reducible show DG _ _ (_ :: _) _ _ _ _ _); refine DG.go1 (k := ?_)) | with_reducible apply RG.nil | with_reducible apply W.seq | with_reducible apply W.reg | with_reducible apply W.skip | with_reducible apply W.block | with_reducible apply W.drw | with_reducible apply DG.nil | (with_reducible refine W.done (QB.n ?_))))
      (refine W.ret ?_; (repeat (with_reducible first | refine QB.r ?_ | refine QL.r ?_ | refine QC.r ?_)); refine QF.r ?_)
      rw [show (decide ((at_ : Int) ≤ en) && true) = true by simp [he]]
      exact RetOk.rs (vs := [_]) r_recvq_Right []
  · obtain ⟨rfl, rfl, rfl⟩ := hdn rfl
    rw [if_pos rfl] at cw ⊢
    have ca := seqAdd_ok (sAdd b (-1)) 1
    rw [sAdd_add, show (-1 : Int) + 1 = 0 from rfl, sAdd_zero b hb] at ca
    generalize sAdd b (-1) = ev at *
    clear hkn hdn hbd0 hbd hsep hlen el
    try simp only [List.map_nil] at cw
    try simp only [List.map_nil]
    refine acall_walk (N := 113) Try.func19 (by kernel_rfl) p_recvq_Right rfl ?_; unfold c_recvq_Right; dsimp only [enum, Nat.reduceAdd]
    (repeat (first | ((with_reducible show RG _ _ (_ :: _) _ _ _); refine RG.go1 (k := ?_)) | ((with_reducible show DG _ _ (_ :: _) _ _ _ _ _); refine DG.go1 (k := ?_)) | with_reducible apply RG.nil | with_reducible apply W.seq | with_reducible apply W.reg | with_reducible apply W.skip | with_reducible apply W.block | with_reducible apply W.drw | with_reducible apply DG.nil | (with_reducible refine W.done (QB.n ?_))))
    (first | ((with_reducible show RG _ _ (_ :: _) _ _ _); refine RG.gca (fun _ => ca) (k := ?_)) | ((with_reducible show DG _ _ (_ :: _) _ _ _ _ _); refine DG.gca (fun _ => ca) (k := ?_)))
    (repeat (first | ((with_reducible show RG _ _ (_ :: _) _ _ _); refine RG.go1 (k := ?_)) | ((with_reducible show DG _ _ (_ :: _) _ _ _ _ _); refine DG.go1 (k := ?_)) | with_reducible apply RG.nil | with_reducible apply W.seq | with_reducible apply W.reg | with_reducible apply W.skip | with_reducible apply W.block | with_reducible apply W.drw | with_reducible apply DG.nil | (with_reducible refine W.done (QB.n ?_))))
    refine W.cndF ?_
    (repeat (first | ((with_reducible show RG _ _ (_ :: _) _ _ _); refine RG.go1 (k := ?_)) | ((with_reducible show DG _ _ (_ :: _) _ _ _ _ _); refine DG.go1 (k := ?_)) | with_reducible apply RG.nil | with_reducible apply W.seq | with_reducible apply W.reg | with_reducible apply W.skip | with_reducible apply W.block | with_reducible apply W.drw | with_reducible apply DG.nil | (with_reducible refine W.done (QB.n ?_))))
    refine W.loop (ι := Unit) (fun _ => ⟨[(54, .int .i64 0), (53, .int .i64 0), (52, .sl true 2 []), (3, .int .i64 0), (1, .bptr 0 0)], [some [.int .u32 b, .sl true 1 (data.map by8), .sl true 2 [], .bool true, .int .u32 ev, .bool true]], [], 1, 0⟩) (fun _ => 0) () ?_ ?_
    · exact Wk.rn ([0] ) ( [])
    rintro ⟨⟩
    (repeat (first | ((with_reducible show RG _ _ (_ :: _) _ _ _); refine RG.go1 (k := ?_)) | ((with_reducible show DG _ _ (_ :: _) _ _ _ _ _); refine DG.go1 (k := ?_)) | with_reducible apply RG.nil | with_reducible apply W.seq | with_reducible apply W.reg | with_reducible apply W.skip | with_reducible apply W.block | with_reducible apply W.drw | with_reducible apply DG.nil | (with_reducible refine W.done (QB.n ?_))))
    refine W.cndF ?_
    (refine W.exit ?_; (repeat (first | (with_reducible first | refine QL.x ?_ | refine QC.x ?_ | refine QB.x ?_) | (with_reducible refine QB.o (by decide) ?_))))
    (repeat (first | ((with_reducible show RG _ _ (_ :: _) _ _ _); refine RG.go1 (k := ?_)) | ((with_reducible show DG _ _ (_ :: _) _ _ _ _ _); refine DG.go1 (k := ?_)) | with_reducible apply RG.nil | with_reducible apply W.seq | with_reducible apply W.reg | with_reducible apply W.skip | with_reducible apply W.block | with_reducible apply W.drw | with_reducible apply DG.nil | (with_reducible refine W.done (QB.n ?_))))
    refine W.cndT ?_
    (repeat (first | ((with_reducible show RG _ _ (_ :: _) _ _ _); refine RG.go1 (k := ?_)) | ((with_reducible show DG _ _ (_ :: _) _ _ _ _ _); refine DG.go1 (k := ?_)) | with_reducible apply RG.nil | with_reducible apply W.seq | with_reducible apply W.reg | with_reducible apply W.skip | with_reducible apply W.block | with_reducible apply W.drw | with_reducible apply DG.nil | (with_reducible refine W.done (QB.n ?_))))
    (refine W.ret ?_; (repeat (with_reducible first | refine QB.r ?_ | refine QL.r ?_ | refine QC.r ?_)); refine QF.r ?_)
    exact RetOk.rs (vs := [_]) r_recvq_Right []
end Go.Proofs.Ytmohmcgcggenfaa
