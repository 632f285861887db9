/- What the ring's functions compute. -/
import Derived.Test.YtlmioolkofbboaaCode
namespace Go.Proofs.Ytlmioolkofbboaa
open Go.RowKit
set_option linter.unusedVariables false
set_option linter.unusedSimpArgs false
set_option maxRecDepth 100000
set_option maxHeartbeats 4000000
theorem at_ok (l : List AV) (a b c d : Int) (n : Int) (hn : 0 ≤ n ∧ n < 65536) (hl : 0 < l.length) : ACall Try.prog 21 [.agg [.sl true 1 l, .int .u16 a, .int .u16 b, .int .u16 c, .int .u16 d], .int .u16 n] (.int .i64 (n % l.length)) [] := by
  refine acall_walk (N := 11) Try.func21 (by kernel_rfl) p_ring_at rfl ?_; unfold c_ring_at; dsimp only [enum, Nat.reduceAdd]
  (repeat (first | ((with_reducible show RG _ _ (_ :: _) _ _ _); refine RG.go1 (k := ?_)) | ((with_reducible show DG _ _ (_ :: _) _ _ _ _ _); refine DG.go1 (k := ?_)) | with_reducible apply RG.nil | with_reducible apply W.seq | with_reducible apply W.reg | with_reducible apply W.skip | with_reducible apply W.block | with_reducible apply W.drw | with_reducible apply DG.nil | (with_reducible refine W.done (QB.n ?_))))
  (refine W.ret ?_; (repeat (with_reducible first | refine QB.r ?_ | refine QL.r ?_ | refine QC.r ?_)); refine QF.r ?_)
  exact RetOk.rs (vs := [_]) r_ring_at []
/-- slices.Clone of bytes. -/
theorem clone_ok (es : List AV) (hp : es.all pureV = true) (hl : es.length ≤ 1000000) : ACall Try.prog 22 [.sl true 1 es] (.ref 0 1 0 es.length) [⟨false, 1, es⟩] := by
  by_cases hne : es = []
  · subst hne
    refine acall_empty 0 rfl ?_ (fun a c hc => ?_)
    · dsimp only [List.set]
      refine acall_walk (N := 8) Try.func22 (by kernel_rfl) p_slices_Clone__byte_byte rfl ?_; unfold c_slices_Clone__byte_byte; dsimp only [enum, Nat.reduceAdd]
      (repeat (first | ((with_reducible show RG _ _ (_ :: _) _ _ _); refine RG.go1 (k := ?_)) | ((with_reducible show DG _ _ (_ :: _) _ _ _ _ _); refine DG.go1 (k := ?_)) | with_reducible apply RG.nil | with_reducible apply W.seq | with_reducible apply W.reg | with_reducible apply W.skip | with_reducible apply W.block | with_reducible apply W.drw | with_reducible apply DG.nil | (with_reducible refine W.done (QB.n ?_))))
      refine W.cndT ?_
      (repeat (first | ((with_reducible show RG _ _ (_ :: _) _ _ _); refine RG.go1 (k := ?_)) | ((with_reducible show DG _ _ (_ :: _) _ _ _ _ _); refine DG.go1 (k := ?_)) | with_reducible apply RG.nil | with_reducible apply W.seq | with_reducible apply W.reg | with_reducible apply W.skip | with_reducible apply W.block | with_reducible apply W.drw | with_reducible apply DG.nil | (with_reducible refine W.done (QB.n ?_))))
      (refine W.ret ?_; (repeat (with_reducible first | refine QB.r ?_ | refine QL.r ?_ | refine QC.r ?_)); refine QF.r ?_)
      refine RetOk.wk (Wk.nilT (t := 2) 1 rfl) ?_
      exact RetOk.rs (vs := [_]) r_slices_Clone__byte_byte [0]
    · dsimp only [List.set]
      refine acall_walk (N := 8) Try.func22 (by kernel_rfl) p_slices_Clone__byte_byte rfl ?_; unfold c_slices_Clone__byte_byte; dsimp only [enum, Nat.reduceAdd]
      (repeat (first | ((with_reducible show RG _ _ (_ :: _) _ _ _); refine RG.go1 (k := ?_)) | ((with_reducible show DG _ _ (_ :: _) _ _ _ _ _); refine DG.go1 (k := ?_)) | with_reducible apply RG.nil | with_reducible apply W.seq | with_reducible apply W.reg | with_reducible apply W.skip | with_reducible apply W.block | with_reducible apply W.drw | with_reducible apply DG.nil | (with_reducible refine W.done (QB.n ?_))))
      refine W.cndF ?_
      (repeat (first | ((with_reducible show RG _ _ (_ :: _) _ _ _); refine RG.go1 (k := ?_)) | ((with_reducible show DG _ _ (_ :: _) _ _ _ _ _); refine DG.go1 (k := ?_)) | with_reducible apply RG.nil | with_reducible apply W.seq | with_reducible apply W.reg | with_reducible apply W.skip | with_reducible apply W.block | with_reducible apply W.drw | with_reducible apply DG.nil | (with_reducible refine W.done (QB.n ?_))))
      (refine W.ret ?_; (repeat (with_reducible first | refine QB.r ?_ | refine QL.r ?_ | refine QC.r ?_)); refine QF.r ?_)
      exact RetOk.rs (vs := [_]) r_slices_Clone__byte_byte [1]
  · refine acall_walk (N := 8) Try.func22 (by kernel_rfl) p_slices_Clone__byte_byte rfl ?_; unfold c_slices_Clone__byte_byte; dsimp only [enum, Nat.reduceAdd]
    (repeat (first | ((with_reducible show RG _ _ (_ :: _) _ _ _); refine RG.go1 (k := ?_)) | ((with_reducible show DG _ _ (_ :: _) _ _ _ _ _); refine DG.go1 (k := ?_)) | with_reducible apply RG.nil | with_reducible apply W.seq | with_reducible apply W.reg | with_reducible apply W.skip | with_reducible apply W.block | with_reducible apply W.drw | with_reducible apply DG.nil | (with_reducible refine W.done (QB.n ?_))))
    refine W.cndF ?_
    (repeat (first | ((with_reducible show RG _ _ (_ :: _) _ _ _); refine RG.go1 (k := ?_)) | ((with_reducible show DG _ _ (_ :: _) _ _ _ _ _); refine DG.go1 (k := ?_)) | with_reducible apply RG.nil | with_reducible apply W.seq | with_reducible apply W.reg | with_reducible apply W.skip | with_reducible apply W.block | with_reducible apply W.drw | with_reducible apply DG.nil | (with_reducible refine W.done (QB.n ?_))))
    (refine W.ret ?_; (repeat (with_reducible first | refine QB.r ?_ | refine QL.r ?_ | refine QC.r ?_)); refine QF.r ?_)
    exact RetOk.rs (vs := [_]) r_slices_Clone__byte_byte [1]

structure Rg where
  s : List (List UInt8)
  p : Int
  t : Int
  d : Int
  r : Int
def Rg.ints (x : Rg) : List AV := [.int .u16 x.p, .int .u16 x.t, .int .u16 x.d, .int .u16 x.r]
def Rg.av (x : Rg) : AV := .agg [.sl true 1 (x.s.map bs), .int .u16 x.p, .int .u16 x.t, .int .u16 x.d, .int .u16 x.r]
theorem map_take_snoc {α β : Type} (f : α → β) (l : List α) (i : Nat) (h : i < l.length) : (l.take i).map f ++ [f l[i]] = (l.take (i + 1)).map f := by
  rw [List.take_succ_eq_append_getElem h, List.map_append]; rfl
theorem ringClone_ok (x : Rg) (h0 : x.s.length ≤ 1000000) (h1 : ∀ b ∈ x.s, b.length ≤ 1000000) :
    ACall Try.prog 19 [x.av] (.agg [.ref 0 1 0 x.s.length, .int .u16 x.p, .int .u16 x.t, .int .u16 x.d, .int .u16 x.r]) [⟨false, 1, x.s.map bs⟩] := by
  unfold Rg.av
  refine acall_walk (N := 24) Try.func19 (by kernel_rfl) p_ring_Clone rfl ?_; unfold c_ring_Clone; dsimp only [enum, Nat.reduceAdd]
  (repeat (first | ((with_reducible show RG _ _ (_ :: _) _ _ _); refine RG.go1 (k := ?_)) | ((with_reducible show DG _ _ (_ :: _) _ _ _ _ _); refine DG.go1 (k := ?_)) | with_reducible apply RG.nil | with_reducible apply W.seq | with_reducible apply W.reg | with_reducible apply W.skip | with_reducible apply W.block | with_reducible apply W.drw | with_reducible apply DG.nil | (with_reducible refine W.done (QB.n ?_))))
  refine W.wk (Wk.nilB (b := 2) (i := 0) 1 rfl rfl) ?_ (by simp)
  refine W.loop (ι := {i : Nat // i ≤ x.s.length}) (fun i => ⟨[(11, .int .i64 i.1), (10, .int .i64 x.s.length), (9, .sl true 1 (x.s.map bs)), (1, .bptr 0 0), (2, .bptr 1 0), (3, .bptr 2 0)], [some [.sl true 1 (x.s.map bs), .int .u16 x.p, .int .u16 x.t, .int .u16 x.d, .int .u16 x.r], some [.nil, .int .u16 0, .int .u16 0, .int .u16 0, .int .u16 0], some [.ref 0 1 0 i.1, .int .u16 x.p, .int .u16 x.t, .int .u16 x.d, .int .u16 x.r]], [some ⟨false, 1, (x.s.take i.1).map bs⟩], 3, 1⟩) (fun i => x.s.length - i.1) ⟨0, Nat.zero_le _⟩ ?_ ?_
  · have e : (x.s.map bs).length = x.s.length := by simp
    exact Wk.rn ([0, 1, 2] ) ( [0])
  rintro ⟨i, hi⟩
  dsimp only
  (repeat (first | ((with_reducible show RG _ _ (_ :: _) _ _ _); refine RG.go1 (k := ?_)) | ((with_reducible show DG _ _ (_ :: _) _ _ _ _ _); refine DG.go1 (k := ?_)) | with_reducible apply RG.nil | with_reducible apply W.seq | with_reducible apply W.reg | with_reducible apply W.skip | with_reducible apply W.block | with_reducible apply W.drw | with_reducible apply DG.nil | (with_reducible refine W.done (QB.n ?_))))
  refine W.cnd (fun hc => ?_) (fun hc => ?_)
  · have e : (x.s.map bs).length = x.s.length := by simp
    have hlt : i < x.s.length := by simpa using hc
    have hE : (x.s.map bs)[((i : Nat) : Int).toNat]?.getD .any = .sl false 1 (x.s[i].map by8) := at_map bs x.s i _ (List.getElem?_eq_getElem hlt) (by simp)
    have hb := h1 _ (List.getElem_mem hlt)
    have hsn : (x.s.take i).map bs ++ [.sl false 1 (x.s[i].map by8)] = (x.s.take (i + 1)).map bs := map_take_snoc bs x.s i hlt
    (repeat (first | ((with_reducible show RG _ _ (_ :: _) _ _ _); refine RG.go1 (k := ?_)) | ((with_reducible show DG _ _ (_ :: _) _ _ _ _ _); refine DG.go1 (k := ?_)) | with_reducible apply RG.nil | with_reducible apply W.seq | with_reducible apply W.reg | with_reducible apply W.skip | with_reducible apply W.block | with_reducible apply W.drw | with_reducible apply DG.nil | (with_reducible refine W.done (QB.n ?_))))
    (first | ((with_reducible show RG _ _ (_ :: _) _ _ _); refine RG.ew (cptr_of (hE) (by (conv => lhs; whnf) <;> exact rfl)) (k := ?_)) | ((with_reducible show DG _ _ (_ :: _) _ _ _ _ _); refine DG.ew (cptr_of (hE) (by (conv => lhs; whnf) <;> exact rfl)) (k := ?_)))
    (repeat (first | ((with_reducible show RG _ _ (_ :: _) _ _ _); refine RG.go1 (k := ?_)) | ((with_reducible show DG _ _ (_ :: _) _ _ _ _ _); refine DG.go1 (k := ?_)) | with_reducible apply RG.nil | with_reducible apply W.seq | with_reducible apply W.reg | with_reducible apply W.skip | with_reducible apply W.block | with_reducible apply W.drw | with_reducible apply DG.nil | (with_reducible refine W.done (QB.n ?_))))
    (first | ((with_reducible show RG _ _ (_ :: _) _ _ _); refine RG.ca (clone_ok (x.s[i].map by8) (by8_pure _) (by simpa using hb)) (k := ?_)) | ((with_reducible show DG _ _ (_ :: _) _ _ _ _ _); refine DG.ca (clone_ok (x.s[i].map by8) (by8_pure _) (by simpa using hb)) (k := ?_)))
    (repeat (first | ((with_reducible show RG _ _ (_ :: _) _ _ _); refine RG.go1 (k := ?_)) | ((with_reducible show DG _ _ (_ :: _) _ _ _ _ _); refine DG.go1 (k := ?_)) | with_reducible apply RG.nil | with_reducible apply W.seq | with_reducible apply W.reg | with_reducible apply W.skip | with_reducible apply W.block | with_reducible apply W.drw | with_reducible apply DG.nil | (with_reducible refine W.done (QB.n ?_))))
    rw [hsn]
    refine W.done (QL.n (⟨i + 1, hlt⟩) ?_ ?_)
    · exact Wk.rn ([0, 1, 2] ) ( [3])
    · dsimp only; omega
  · have hi' : i = x.s.length := by simp at hc; omega
    subst hi'
    (repeat (first | ((with_reducible show RG _ _ (_ :: _) _ _ _); refine RG.go1 (k := ?_)) | ((with_reducible show DG _ _ (_ :: _) _ _ _ _ _); refine DG.go1 (k := ?_)) | with_reducible apply RG.nil | with_reducible apply W.seq | with_reducible apply W.reg | with_reducible apply W.skip | with_reducible apply W.block | with_reducible apply W.drw | with_reducible apply DG.nil | (with_reducible refine W.done (QB.n ?_))))
    (refine W.exit ?_; (repeat (first | (with_reducible first | refine QL.x ?_ | refine QC.x ?_ | refine QB.x ?_) | (with_reducible refine QB.o (by decide) ?_))))
    (repeat (first | ((with_reducible show RG _ _ (_ :: _) _ _ _); refine RG.go1 (k := ?_)) | ((with_reducible show DG _ _ (_ :: _) _ _ _ _ _); refine DG.go1 (k := ?_)) | with_reducible apply RG.nil | with_reducible apply W.seq | with_reducible apply W.reg | with_reducible apply W.skip | with_reducible apply W.block | with_reducible apply W.drw | with_reducible apply DG.nil | (with_reducible refine W.done (QB.n ?_))))
    (refine W.ret ?_; (repeat (with_reducible first | refine QB.r ?_ | refine QL.r ?_ | refine QC.r ?_)); refine QF.r ?_)
    simp only [List.take_length]
    exact RetOk.rs (vs := [_]) r_ring_Clone [0]
end Go.Proofs.Ytlmioolkofbboaa
