/- clone and Age. -/
import Derived.Test.YtiejnmbpejfpgaaFs0
namespace Go.Proofs.Ytiejnmbpejfpgaa
open Go.RowKit
set_option linter.unusedVariables false
set_option linter.unusedSimpArgs false
set_option maxRecDepth 100000
set_option maxHeartbeats 4000000
structure Hl.Sm (h : Hl) : Prop where
  n : h.got.length ≤ 100
  d : ∀ g ∈ h.got, g.dt.length ≤ 1000
theorem fragClone_ok (l : List Hl) (hl : l.length ≤ 1000) (hs : ∀ h ∈ l, h.Sm) : ACall Try.prog 25 [.sl true 14 (l.map hol)] (.ref 0 14 0 l.length) [⟨false, 14, l.map hol⟩] := by
  have el := ho_len l
  refine acall_walk (N := 40) Try.func25 (by kernel_rfl) p_frag_clone rfl ?_; unfold c_frag_clone; dsimp only [enum, Nat.reduceAdd]
  (repeat (first | ((with_reducible show RG _ _ (_ :: _) _ _ _); refine RG.go1 (k := ?_)) | ((with_reducible show DG _ _ (_ :: _) _ _ _ _ _); refine DG.go1 (k := ?_)) | (with_reducible first | apply RG.nil | apply W.seq | apply W.reg | apply W.skip | apply W.block | apply W.drw | apply DG.nil | refine W.done (QB.n ?_))))
  refine W.wk (Wk.nilT (t := 3) 14 rfl) ?_ (by simp)
  refine W.loop (ι := {i : Nat // i ≤ l.length}) (fun i => ⟨[(11, .int .i64 i.1), (10, .int .i64 l.length), (9, .sl true 14 (l.map hol)), (3, .ref 0 14 0 i.1)], [], [some ⟨false, 14, (l.take i.1).map hol⟩], 0, 1⟩) (fun i => l.length - i.1) ⟨0, Nat.zero_le _⟩ ?_ ?_
  · dsimp only
    rw [List.take_zero, List.map_nil]
    exact Wk.rn ([] ) ( [0])
  rintro ⟨i, hi⟩
  dsimp only
  have etk : ((l.take i).map hol).length = i := by simp; omega
  have ptk := ho_pure (l.take i)
  by_cases hlt : i < l.length
  · have hE := ho_at l i hlt (j := ((i : Nat) : Int).toNat) (by simp)
    have hsn := map_take_snoc hol l i hlt
    obtain ⟨hn, hd⟩ := hs _ (List.getElem_mem hlt)
    rw [show hol l[i] = .agg [.int .u8 l[i].s0, .int .u8 l[i].s1, .int .u8 l[i].s2, .int .u8 l[i].s3, .int .u8 l[i].d0, .int .u8 l[i].d1, .int .u8 l[i].d2, .int .u8 l[i].d3, .int .u8 l[i].pr, .int .u16 l[i].i, .int .u8 l[i].tt, .int .u64 l[i].since, .int .i64 l[i].en, .sl false 2 (l[i].got.map prt)] from rfl] at hsn
    generalize l[i] = h at *
    obtain ⟨s0, s1, s2, s3, d0, d1, d2, d3, pr, id_, tt, since, en, got⟩ := h
    dsimp only at hE hn hd hsn
    have eg := pr_len got
    (repeat (first | ((with_reducible show RG _ _ (_ :: _) _ _ _); refine RG.go1 (k := ?_)) | ((with_reducible show DG _ _ (_ :: _) _ _ _ _ _); refine DG.go1 (k := ?_)) | (with_reducible first | apply RG.nil | apply W.seq | apply W.reg | apply W.skip | apply W.block | apply W.drw | apply DG.nil | refine W.done (QB.n ?_))))
    refine W.cnd (fun h1 => ?_) (fun h1 => ?_)
    · clear h1 hs
      (repeat (first | ((with_reducible show RG _ _ (_ :: _) _ _ _); refine RG.go1 (k := ?_)) | ((with_reducible show DG _ _ (_ :: _) _ _ _ _ _); refine DG.go1 (k := ?_)) | (with_reducible first | apply RG.nil | apply W.seq | apply W.reg | apply W.skip | apply W.block | apply W.drw | apply DG.nil | refine W.done (QB.n ?_))))
      (first | ((with_reducible show RG _ _ (_ :: _) _ _ _); refine RG.ew (cptr_of (hE) (by (conv => lhs; whnf) <;> exact rfl)) (k := ?_)) | ((with_reducible show DG _ _ (_ :: _) _ _ _ _ _); refine DG.ew (cptr_of (hE) (by (conv => lhs; whnf) <;> exact rfl)) (k := ?_)))
      (repeat (first | ((with_reducible show RG _ _ (_ :: _) _ _ _); refine RG.go1 (k := ?_)) | ((with_reducible show DG _ _ (_ :: _) _ _ _ _ _); refine DG.go1 (k := ?_)) | (with_reducible first | apply RG.nil | apply W.seq | apply W.reg | apply W.skip | apply W.block | apply W.drw | apply DG.nil | refine W.done (QB.n ?_))))
      rw [eg]
      refine W.wk (Wk.nilT (t := 6) 2 rfl) ?_ (by simp)
      refine W.loop (ι := {j : Nat // j ≤ got.length}) (fun j => ⟨[(18, .int .i64 j.1), (17, .int .i64 got.length), (16, .sl false 2 (got.map prt)), (6, .ref 1 2 0 j.1), (5, .bptr 0 0), (11, .int .i64 i), (10, .int .i64 l.length), (9, .sl true 14 (l.map hol)), (3, .ref 0 14 0 i)], [some [.int .u8 s0, .int .u8 s1, .int .u8 s2, .int .u8 s3, .int .u8 d0, .int .u8 d1, .int .u8 d2, .int .u8 d3, .int .u8 pr, .int .u16 id_, .int .u8 tt, .int .u64 since, .int .i64 en, .sl false 2 (got.map prt)]], [some ⟨false, 14, (l.take i).map hol⟩, some ⟨false, 2, (got.take j.1).map prt⟩], 1, 2⟩) (fun j => got.length - j.1) ⟨0, Nat.zero_le _⟩ ?_ ?_
      · dsimp only
        rw [List.take_zero, List.map_nil]
        exact Wk.rn ([0] ) ( [0, 1])
      rintro ⟨j, hj⟩
      dsimp only
      have etj : ((got.take j).map prt).length = j := by simp; omega
      have ptj := pr_pure (got.take j)
      by_cases hjl : j < got.length
      · have hG := pr_at got j hjl (j := ((j : Nat) : Int).toNat) (by simp)
        have hgn := map_take_snoc prt got j hjl
        have hgd := hd _ (List.getElem_mem hjl)
        rw [show prt got[j] = .agg [.int .i64 got[j].off, .sl false 1 (got[j].dt.map by8)] from rfl] at hgn
        generalize got[j] = g at *
        obtain ⟨go, gd⟩ := g
        dsimp only at hG hgn hgd
        have cc := ybClone_ok gd (by omega)
        have egd := by8_len gd
        clear hE hsn
        (repeat (first | ((with_reducible show RG _ _ (_ :: _) _ _ _); refine RG.go1 (k := ?_)) | ((with_reducible show DG _ _ (_ :: _) _ _ _ _ _); refine DG.go1 (k := ?_)) | (with_reducible first | apply RG.nil | apply W.seq | apply W.reg | apply W.skip | apply W.block | apply W.drw | apply DG.nil | refine W.done (QB.n ?_))))
        refine W.cnd (fun h2 => ?_) (fun h2 => ?_)
        · clear h2
          (repeat (first | ((with_reducible show RG _ _ (_ :: _) _ _ _); refine RG.go1 (k := ?_)) | ((with_reducible show DG _ _ (_ :: _) _ _ _ _ _); refine DG.go1 (k := ?_)) | (with_reducible first | apply RG.nil | apply W.seq | apply W.reg | apply W.skip | apply W.block | apply W.drw | apply DG.nil | refine W.done (QB.n ?_))))
          (first | ((with_reducible show RG _ _ (_ :: _) _ _ _); refine RG.ew (cptr_of (hG) (by (conv => lhs; whnf) <;> exact rfl)) (k := ?_)) | ((with_reducible show DG _ _ (_ :: _) _ _ _ _ _); refine DG.ew (cptr_of (hG) (by (conv => lhs; whnf) <;> exact rfl)) (k := ?_)))
          (repeat (first | ((with_reducible show RG _ _ (_ :: _) _ _ _); refine RG.go1 (k := ?_)) | ((with_reducible show DG _ _ (_ :: _) _ _ _ _ _); refine DG.go1 (k := ?_)) | (with_reducible first | apply RG.nil | apply W.seq | apply W.reg | apply W.skip | apply W.block | apply W.drw | apply DG.nil | refine W.done (QB.n ?_))))
          (first | ((with_reducible show RG _ _ (_ :: _) _ _ _); refine RG.ca (cc) (k := ?_)) | ((with_reducible show DG _ _ (_ :: _) _ _ _ _ _); refine DG.ca (cc) (k := ?_)))
          (repeat (first | ((with_reducible show RG _ _ (_ :: _) _ _ _); refine RG.go1 (k := ?_)) | ((with_reducible show DG _ _ (_ :: _) _ _ _ _ _); refine DG.go1 (k := ?_)) | (with_reducible first | apply RG.nil | apply W.seq | apply W.reg | apply W.skip | apply W.block | apply W.drw | apply DG.nil | refine W.done (QB.n ?_))))
          rw [hgn]
          refine W.done (QL.n (⟨j + 1, by omega⟩) ?_ ?_)
          · exact Wk.rn ([0] ) ( [0, 4])
          · dsimp only; omega
        · simp at h2
      · obtain rfl : j = got.length := by omega
        (repeat (first | ((with_reducible show RG _ _ (_ :: _) _ _ _); refine RG.go1 (k := ?_)) | ((with_reducible show DG _ _ (_ :: _) _ _ _ _ _); refine DG.go1 (k := ?_)) | (with_reducible first | apply RG.nil | apply W.seq | apply W.reg | apply W.skip | apply W.block | apply W.drw | apply DG.nil | refine W.done (QB.n ?_)) | refine W.cndT ?_ | refine W.cndF ?_))
        (refine W.exit ?_; (repeat (first | (with_reducible first | refine QL.x ?_ | refine QC.x ?_ | refine QB.x ?_) | (with_reducible refine QB.o (by decide) ?_))))
        rw [List.take_length]
        (refine W.wk (Wk.frz (b := 1) rfl rfl) ?_ (by simp); refine W.wk (Wk.tmp (t := 6) (Cl.ice rfl rfl rfl (by first | assumption | decide | omega | (simp; (first | (all_goals fail) | fail)) | (simp <;> omega)) (by first | exact take_all _ | exact take_len (by first | (simp; (first | (all_goals fail) | fail)) | (simp <;> omega)) | exact rfl))) ?_ (by simp); dsimp only [setO])
        (repeat (first | ((with_reducible show RG _ _ (_ :: _) _ _ _); refine RG.go1 (k := ?_)) | ((with_reducible show DG _ _ (_ :: _) _ _ _ _ _); refine DG.go1 (k := ?_)) | (with_reducible first | apply RG.nil | apply W.seq | apply W.reg | apply W.skip | apply W.block | apply W.drw | apply DG.nil | refine W.done (QB.n ?_))))
        rw [hsn]
        refine W.done (QL.n (⟨i + 1, by omega⟩) ?_ ?_)
        · exact Wk.rn ([] ) ( [3])
        · dsimp only; omega
    · simp at h1
  · obtain rfl : i = l.length := by omega
    rw [List.take_length]
    clear hs
    (repeat (first | ((with_reducible show RG _ _ (_ :: _) _ _ _); refine RG.go1 (k := ?_)) | ((with_reducible show DG _ _ (_ :: _) _ _ _ _ _); refine DG.go1 (k := ?_)) | (with_reducible first | apply RG.nil | apply W.seq | apply W.reg | apply W.skip | apply W.block | apply W.drw | apply DG.nil | refine W.done (QB.n ?_)) | refine W.cndT ?_ | refine W.cndF ?_))
    (refine W.exit ?_; (repeat (first | (with_reducible first | refine QL.x ?_ | refine QC.x ?_ | refine QB.x ?_) | (with_reducible refine QB.o (by decide) ?_))))
    (repeat (first | ((with_reducible show RG _ _ (_ :: _) _ _ _); refine RG.go1 (k := ?_)) | ((with_reducible show DG _ _ (_ :: _) _ _ _ _ _); refine DG.go1 (k := ?_)) | (with_reducible first | apply RG.nil | apply W.seq | apply W.reg | apply W.skip | apply W.block | apply W.drw | apply DG.nil | refine W.done (QB.n ?_))))
    (refine W.ret ?_; (repeat (with_reducible first | refine QB.r ?_ | refine QL.r ?_ | refine QC.r ?_)); refine QF.r ?_)
    exact RetOk.rs (vs := [_]) r_frag_clone [0]
def oldB (now : Int) (h : Hl) : Bool := decide (h.since ≤ now ∧ 30 ≤ now - h.since)
structure Hl.Tm (h : Hl) : Prop where
  lo : 0 ≤ h.since
  hi : h.since ≤ 18446744073709551615
theorem fragOld_ok (h : Hl) (ht : h.Tm) (now : Int) (h0 : 0 ≤ now) (h1 : now ≤ 18446744073709551615) : ACall Try.prog 26 [.agg [.int .u8 h.s0, .int .u8 h.s1, .int .u8 h.s2, .int .u8 h.s3, .int .u8 h.d0, .int .u8 h.d1, .int .u8 h.d2, .int .u8 h.d3, .int .u8 h.pr, .int .u16 h.i, .int .u8 h.tt, .int .u64 h.since, .int .i64 h.en, .sl false 2 (h.got.map prt)], .cptr true [.int .u64 now]] (.bool (oldB now h)) [] := by
  obtain ⟨s0, s1, s2, s3, d0, d1, d2, d3, pr, id_, tt, since, en, got⟩ := h
  obtain ⟨t0, t1⟩ := ht
  dsimp only at t0 t1 ⊢
  by_cases c1 : since ≤ now
  · by_cases c2 : 30 ≤ now - since
    · rw [show oldB now ⟨s0, s1, s2, s3, d0, d1, d2, d3, pr, id_, tt, since, en, got⟩ = true from decide_eq_true ⟨c1, c2⟩]
      refine acall_walk (N := 15) Try.func26 (by kernel_rfl) p_frag_Age_1 rfl ?_; unfold c_frag_Age_1; dsimp only [enum, Nat.reduceAdd]
      (repeat (first | ((with_reducible show RG _ _ (_ :: _) _ _ _); refine RG.go1 (k := ?_)) | ((with_reducible show DG _ _ (_ :: _) _ _ _ _ _); refine DG.go1 (k := ?_)) | (with_reducible first | apply RG.nil | apply W.seq | apply W.reg | apply W.skip | apply W.block | apply W.drw | apply DG.nil | refine W.done (QB.n ?_))))
      (refine W.ret ?_; (repeat (with_reducible first | refine QB.r ?_ | refine QL.r ?_ | refine QC.r ?_)); refine QF.r ?_)
      exact RetOk.rs (vs := [_]) r_frag_Age_1 []
    · rw [show oldB now ⟨s0, s1, s2, s3, d0, d1, d2, d3, pr, id_, tt, since, en, got⟩ = false from decide_eq_false fun h => c2 h.2]
      refine acall_walk (N := 15) Try.func26 (by kernel_rfl) p_frag_Age_1 rfl ?_; unfold c_frag_Age_1; dsimp only [enum, Nat.reduceAdd]
      (repeat (first | ((with_reducible show RG _ _ (_ :: _) _ _ _); refine RG.go1 (k := ?_)) | ((with_reducible show DG _ _ (_ :: _) _ _ _ _ _); refine DG.go1 (k := ?_)) | (with_reducible first | apply RG.nil | apply W.seq | apply W.reg | apply W.skip | apply W.block | apply W.drw | apply DG.nil | refine W.done (QB.n ?_))))
      (refine W.ret ?_; (repeat (with_reducible first | refine QB.r ?_ | refine QL.r ?_ | refine QC.r ?_)); refine QF.r ?_)
      exact RetOk.rs (vs := [_]) r_frag_Age_1 []
  · rw [show oldB now ⟨s0, s1, s2, s3, d0, d1, d2, d3, pr, id_, tt, since, en, got⟩ = false from decide_eq_false fun h => c1 h.1]
    refine acall_walk (N := 15) Try.func26 (by kernel_rfl) p_frag_Age_1 rfl ?_; unfold c_frag_Age_1; dsimp only [enum, Nat.reduceAdd]
    (repeat (first | ((with_reducible show RG _ _ (_ :: _) _ _ _); refine RG.go1 (k := ?_)) | ((with_reducible show DG _ _ (_ :: _) _ _ _ _ _); refine DG.go1 (k := ?_)) | (with_reducible first | apply RG.nil | apply W.seq | apply W.reg | apply W.skip | apply W.block | apply W.drw | apply DG.nil | refine W.done (QB.n ?_))))
    (refine W.ret ?_; (repeat (with_reducible first | refine QB.r ?_ | refine QL.r ?_ | refine QC.r ?_)); refine QF.r ?_)
    exact RetOk.rs (vs := [_]) r_frag_Age_1 []
def young (now : Int) (l : List Hl) : List Hl := l.filter fun h => !oldB now h
theorem fragAge_ok (l : List Hl) (hl : l.length ≤ 1000) (hs : ∀ h ∈ l, h.Sm) (ht : ∀ h ∈ l, h.Tm) (now : Int) (h0 : 0 ≤ now) (h1 : now ≤ 18446744073709551615) : ACall Try.prog 16 [.sl true 14 (l.map hol), .int .u64 now] (.ref 0 14 0 (young now l).length) [⟨false, 14, (young now l).map hol⟩] := by
  have cc := fragClone_ok l hl hs
  have cd := hoDelA_ok l (by omega) 26 now (oldB now) fun h hm => fragOld_ok h (ht h hm) now h0 h1
  rw [show (l.filter fun h => !oldB now h) = young now l from rfl] at cd
  refine acall_walk (N := 9) Try.func16 (by kernel_rfl) p_frag_Age rfl ?_; unfold c_frag_Age; dsimp only [enum, Nat.reduceAdd]
  (repeat (first | ((with_reducible show RG _ _ (_ :: _) _ _ _); refine RG.go1 (k := ?_)) | ((with_reducible show DG _ _ (_ :: _) _ _ _ _ _); refine DG.go1 (k := ?_)) | (with_reducible first | apply RG.nil | apply W.seq | apply W.reg | apply W.skip | apply W.block | apply W.drw | apply DG.nil | refine W.done (QB.n ?_))))
  (first | ((with_reducible show RG _ _ (_ :: _) _ _ _); refine RG.ca (cc) (k := ?_)) | ((with_reducible show DG _ _ (_ :: _) _ _ _ _ _); refine DG.ca (cc) (k := ?_)))
  (repeat (first | ((with_reducible show RG _ _ (_ :: _) _ _ _); refine RG.go1 (k := ?_)) | ((with_reducible show DG _ _ (_ :: _) _ _ _ _ _); refine DG.go1 (k := ?_)) | (with_reducible first | apply RG.nil | apply W.seq | apply W.reg | apply W.skip | apply W.block | apply W.drw | apply DG.nil | refine W.done (QB.n ?_))))
  (refine RG.mca ([]) ([0]) (cd) (k := ?_))
  (repeat (first | ((with_reducible show RG _ _ (_ :: _) _ _ _); refine RG.go1 (k := ?_)) | ((with_reducible show DG _ _ (_ :: _) _ _ _ _ _); refine DG.go1 (k := ?_)) | (with_reducible first | apply RG.nil | apply W.seq | apply W.reg | apply W.skip | apply W.block | apply W.drw | apply DG.nil | refine W.done (QB.n ?_))))
  (refine W.ret ?_; (repeat (with_reducible first | refine QB.r ?_ | refine QL.r ?_ | refine QC.r ?_)); refine QF.r ?_)
  exact RetOk.rs (vs := [_]) r_frag_Age [0]
end Go.Proofs.Ytiejnmbpejfpgaa

namespace Go.Proofs.Ytiejnmbpejfpgaa
open Go.RowKit
set_option linter.unusedVariables false
set_option linter.unusedSimpArgs false
set_option maxRecDepth 100000
set_option maxHeartbeats 4000000
theorem four_e (a b c d a2 b2 c2 d2 : Int) : eqTs [0, 0, 0, 0] [.int .u8 a, .int .u8 b, .int .u8 c, .int .u8 d] [.int .u8 a2, .int .u8 b2, .int .u8 c2, .int .u8 d2] = some (decide (a = a2 ∧ b = b2 ∧ c = c2 ∧ d = d2)) :=
  (eqts_i (eqts_i (eqts_i (eqts_i eqts_nil)))).trans (by simp)
structure Mat (h : Hl) (q : Pk) : Prop where
  s : h.s0 = q.s0 ∧ h.s1 = q.s1 ∧ h.s2 = q.s2 ∧ h.s3 = q.s3
  d : h.d0 = q.d0 ∧ h.d1 = q.d1 ∧ h.d2 = q.d2 ∧ h.d3 = q.d3
  p : h.pr = q.pr
  i : h.i = q.i
instance (h : Hl) (q : Pk) : Decidable (Mat h q) :=
  if c : ((h.s0 = q.s0 ∧ h.s1 = q.s1 ∧ h.s2 = q.s2 ∧ h.s3 = q.s3) ∧ (h.d0 = q.d0 ∧ h.d1 = q.d1 ∧ h.d2 = q.d2 ∧ h.d3 = q.d3)) ∧ h.pr = q.pr ∧ h.i = q.i then .isTrue ⟨c.1.1, c.1.2, c.2.1, c.2.2⟩ else .isFalse fun m => c ⟨⟨m.s, m.d⟩, m.p, m.i⟩
def matB (h : Hl) (q : Pk) : Bool := decide (Mat h q)
theorem fragOf_ok (h : Hl) (q : Pk) : ACall Try.prog 19 [hol h, pk false q] (.bool (matB h q)) [] := by
  have cm : matB h q = true ↔ Mat h q := by unfold matB; simp
  have e1 := four_e h.s0 h.s1 h.s2 h.s3 q.s0 q.s1 q.s2 q.s3
  have e2 := four_e h.d0 h.d1 h.d2 h.d3 q.d0 q.d1 q.d2 q.d3
  by_cases c1 : h.s0 = q.s0 ∧ h.s1 = q.s1 ∧ h.s2 = q.s2 ∧ h.s3 = q.s3
  · rw [decide_eq_true c1] at e1
    by_cases c2 : h.d0 = q.d0 ∧ h.d1 = q.d1 ∧ h.d2 = q.d2 ∧ h.d3 = q.d3
    · rw [decide_eq_true c2] at e2
      by_cases c3 : h.pr = q.pr
      · by_cases c4 : h.i = q.i
        · rw [cm.2 ⟨c1, c2, c3, c4⟩]
          clear c1 c2 cm
          unfold hol pk pkc
          refine acall_walk (N := 31) Try.func19 (by kernel_rfl) p_frag_of rfl ?_; unfold c_frag_of; dsimp only [enum, Nat.reduceAdd]
          (repeat (first | ((with_reducible show RG _ _ (_ :: _) _ _ _); refine RG.go1 (k := ?_)) | ((with_reducible show DG _ _ (_ :: _) _ _ _ _ _); refine DG.go1 (k := ?_)) | (with_reducible first | apply RG.nil | apply W.seq | apply W.reg | apply W.skip | apply W.block | apply W.drw | apply DG.nil | refine W.done (QB.n ?_))))
          (refine W.ret ?_; (repeat (with_reducible first | refine QB.r ?_ | refine QL.r ?_ | refine QC.r ?_)); refine QF.r ?_)
          exact RetOk.rs (vs := [_]) r_frag_of []
        · rw [Bool.eq_false_iff.2 (fun e => c4 (cm.1 e).i)]
          clear c1 c2 cm
          unfold hol pk pkc
          refine acall_walk (N := 31) Try.func19 (by kernel_rfl) p_frag_of rfl ?_; unfold c_frag_of; dsimp only [enum, Nat.reduceAdd]
          (repeat (first | ((with_reducible show RG _ _ (_ :: _) _ _ _); refine RG.go1 (k := ?_)) | ((with_reducible show DG _ _ (_ :: _) _ _ _ _ _); refine DG.go1 (k := ?_)) | (with_reducible first | apply RG.nil | apply W.seq | apply W.reg | apply W.skip | apply W.block | apply W.drw | apply DG.nil | refine W.done (QB.n ?_))))
          (refine W.ret ?_; (repeat (with_reducible first | refine QB.r ?_ | refine QL.r ?_ | refine QC.r ?_)); refine QF.r ?_)
          exact RetOk.rs (vs := [_]) r_frag_of []
      · rw [Bool.eq_false_iff.2 (fun e => c3 (cm.1 e).p)]
        clear c1 c2 cm
        unfold hol pk pkc
        refine acall_walk (N := 31) Try.func19 (by kernel_rfl) p_frag_of rfl ?_; unfold c_frag_of; dsimp only [enum, Nat.reduceAdd]
        (repeat (first | ((with_reducible show RG _ _ (_ :: _) _ _ _); refine RG.go1 (k := ?_)) | ((with_reducible show DG _ _ (_ :: _) _ _ _ _ _); refine DG.go1 (k := ?_)) | (with_reducible first | apply RG.nil | apply W.seq | apply W.reg | apply W.skip | apply W.block | apply W.drw | apply DG.nil | refine W.done (QB.n ?_))))
        (refine W.ret ?_; (repeat (with_reducible first | refine QB.r ?_ | refine QL.r ?_ | refine QC.r ?_)); refine QF.r ?_)
        exact RetOk.rs (vs := [_]) r_frag_of []
    · rw [decide_eq_false c2] at e2
      rw [Bool.eq_false_iff.2 (fun e => c2 (cm.1 e).d)]
      clear c1 c2 cm
      unfold hol pk pkc
      refine acall_walk (N := 31) Try.func19 (by kernel_rfl) p_frag_of rfl ?_; unfold c_frag_of; dsimp only [enum, Nat.reduceAdd]
      (repeat (first | ((with_reducible show RG _ _ (_ :: _) _ _ _); refine RG.go1 (k := ?_)) | ((with_reducible show DG _ _ (_ :: _) _ _ _ _ _); refine DG.go1 (k := ?_)) | (with_reducible first | apply RG.nil | apply W.seq | apply W.reg | apply W.skip | apply W.block | apply W.drw | apply DG.nil | refine W.done (QB.n ?_))))
      (refine W.ret ?_; (repeat (with_reducible first | refine QB.r ?_ | refine QL.r ?_ | refine QC.r ?_)); refine QF.r ?_)
      exact RetOk.rs (vs := [_]) r_frag_of []
  · rw [decide_eq_false c1] at e1
    rw [Bool.eq_false_iff.2 (fun e => c1 (cm.1 e).s)]
    clear c1 cm
    unfold hol pk pkc
    refine acall_walk (N := 31) Try.func19 (by kernel_rfl) p_frag_of rfl ?_; unfold c_frag_of; dsimp only [enum, Nat.reduceAdd]
    (repeat (first | ((with_reducible show RG _ _ (_ :: _) _ _ _); refine RG.go1 (k := ?_)) | ((with_reducible show DG _ _ (_ :: _) _ _ _ _ _); refine DG.go1 (k := ?_)) | (with_reducible first | apply RG.nil | apply W.seq | apply W.reg | apply W.skip | apply W.block | apply W.drw | apply DG.nil | refine W.done (QB.n ?_))))
    (refine W.ret ?_; (repeat (with_reducible first | refine QB.r ?_ | refine QL.r ?_ | refine QC.r ?_)); refine QF.r ?_)
    exact RetOk.rs (vs := [_]) r_frag_of []
theorem fragAdd1_ok (h : Hl) (q : Pk) : ACall Try.prog 18 [hol h, .cptr true (pkc false q)] (.bool (matB h q)) [] := by
  have co := fragOf_ok h q
  unfold hol pkc
  unfold hol pk pkc at co
  refine acall_walk (N := 7) Try.func18 (by kernel_rfl) p_frag_Add_1 rfl ?_; unfold c_frag_Add_1; dsimp only [enum, Nat.reduceAdd]
  (repeat (first | ((with_reducible show RG _ _ (_ :: _) _ _ _); refine RG.go1 (k := ?_)) | ((with_reducible show DG _ _ (_ :: _) _ _ _ _ _); refine DG.go1 (k := ?_)) | (with_reducible first | apply RG.nil | apply W.seq | apply W.reg | apply W.skip | apply W.block | apply W.drw | apply DG.nil | refine W.done (QB.n ?_))))
  (first | ((with_reducible show RG _ _ (_ :: _) _ _ _); refine RG.ca (co) (k := ?_)) | ((with_reducible show DG _ _ (_ :: _) _ _ _ _ _); refine DG.ca (co) (k := ?_)))
  (repeat (first | ((with_reducible show RG _ _ (_ :: _) _ _ _); refine RG.go1 (k := ?_)) | ((with_reducible show DG _ _ (_ :: _) _ _ _ _ _); refine DG.go1 (k := ?_)) | (with_reducible first | apply RG.nil | apply W.seq | apply W.reg | apply W.skip | apply W.block | apply W.drw | apply DG.nil | refine W.done (QB.n ?_))))
  (refine W.ret ?_; (repeat (with_reducible first | refine QB.r ?_ | refine QL.r ?_ | refine QC.r ?_)); refine QF.r ?_)
  exact RetOk.rs (vs := [_]) r_frag_Add_1 []
/-- A part's place. -/
structure Prt.Ok (g : Prt) : Prop where
  lo : 0 ≤ g.off
  hi : g.off + g.dt.length ≤ 1000
theorem fits1_ok (g : Prt) (hg : g.Ok) (e : Int) : ACall Try.prog 28 [prt g, .cptr true [.int .i64 e]] (.bool (decide (e < g.off + g.dt.length))) [] := by
  obtain ⟨go, gd⟩ := g
  obtain ⟨g0, g1⟩ := hg
  dsimp only at g0 g1 ⊢
  have el := by8_len gd
  unfold prt
  dsimp only
  refine acall_walk (N := 12) Try.func28 (by kernel_rfl) p_frag_fits_1 rfl ?_; unfold c_frag_fits_1; dsimp only [enum, Nat.reduceAdd]
  (repeat (first | ((with_reducible show RG _ _ (_ :: _) _ _ _); refine RG.go1 (k := ?_)) | ((with_reducible show DG _ _ (_ :: _) _ _ _ _ _); refine DG.go1 (k := ?_)) | (with_reducible first | apply RG.nil | apply W.seq | apply W.reg | apply W.skip | apply W.block | apply W.drw | apply DG.nil | refine W.done (QB.n ?_))))
  rw [el]
  (repeat (first | ((with_reducible show RG _ _ (_ :: _) _ _ _); refine RG.go1 (k := ?_)) | ((with_reducible show DG _ _ (_ :: _) _ _ _ _ _); refine DG.go1 (k := ?_)) | (with_reducible first | apply RG.nil | apply W.seq | apply W.reg | apply W.skip | apply W.block | apply W.drw | apply DG.nil | refine W.done (QB.n ?_))))
  (refine W.ret ?_; (repeat (with_reducible first | refine QB.r ?_ | refine QL.r ?_ | refine QC.r ?_)); refine QF.r ?_)
  exact RetOk.rs (vs := [_]) r_frag_fits_1 []
theorem fragFits_ok (h : Hl) (p : Pk) (e : Int) (hn : h.got.length ≤ 1000) (hg : ∀ g ∈ h.got, g.Ok) (hf : (0 ≤ h.en ∧ e ≤ h.en ∧ (p.mo = true ∨ e = h.en)) ∨ (h.en < 0 ∧ (p.mo = true ∨ ∀ g ∈ h.got, g.off + g.dt.length ≤ e))) :
    ACall Try.prog 20 [hol h, pk false p, .int .i64 e] (.bool true) [] := by
  by_cases c0 : 0 ≤ h.en
  · have hf : e ≤ h.en ∧ (p.mo = true ∨ e = h.en) := by
      rcases hf with hf | hf
      · exact hf.2
      · omega
    obtain ⟨f1, f2⟩ := hf
    cases hm : p.mo
    · have f3 : e = h.en := by rw [hm] at f2; simpa using f2
      clear f2 hg
      unfold hol pk pkc
      rw [hm]
      refine acall_walk (N := 33) Try.func20 (by kernel_rfl) p_frag_fits rfl ?_; unfold c_frag_fits; dsimp only [enum, Nat.reduceAdd]
      (repeat (first | ((with_reducible show RG _ _ (_ :: _) _ _ _); refine RG.go1 (k := ?_)) | ((with_reducible show DG _ _ (_ :: _) _ _ _ _ _); refine DG.go1 (k := ?_)) | (with_reducible first | apply RG.nil | apply W.seq | apply W.reg | apply W.skip | apply W.block | apply W.drw | apply DG.nil | refine W.done (QB.n ?_)) | refine W.cndT ?_ | refine W.cndF ?_))
      (refine W.ret ?_; (repeat (with_reducible first | refine QB.r ?_ | refine QL.r ?_ | refine QC.r ?_)); refine QF.r ?_)
      exact RetOk.rs (vs := [_]) r_frag_fits []
    · clear f2 hg
      unfold hol pk pkc
      rw [hm]
      refine acall_walk (N := 33) Try.func20 (by kernel_rfl) p_frag_fits rfl ?_; unfold c_frag_fits; dsimp only [enum, Nat.reduceAdd]
      (repeat (first | ((with_reducible show RG _ _ (_ :: _) _ _ _); refine RG.go1 (k := ?_)) | ((with_reducible show DG _ _ (_ :: _) _ _ _ _ _); refine DG.go1 (k := ?_)) | (with_reducible first | apply RG.nil | apply W.seq | apply W.reg | apply W.skip | apply W.block | apply W.drw | apply DG.nil | refine W.done (QB.n ?_)) | refine W.cndT ?_ | refine W.cndF ?_))
      (refine W.ret ?_; (repeat (with_reducible first | refine QB.r ?_ | refine QL.r ?_ | refine QC.r ?_)); refine QF.r ?_)
      exact RetOk.rs (vs := [_]) r_frag_fits []
  · have hf : p.mo = true ∨ ∀ g ∈ h.got, g.off + g.dt.length ≤ e := by
      rcases hf with hf | hf
      · omega
      · exact hf.2
    cases hm : p.mo
    · have f2 : ∀ g ∈ h.got, g.off + g.dt.length ≤ e := by rw [hm] at hf; simpa using hf
      have cc := prContains_ok h.got (by omega) 28 e (fun g => decide (e < g.off + g.dt.length)) (fun g hg' => fits1_ok g (hg g hg') e)
      rw [show (h.got.any fun g => decide (e < g.off + g.dt.length)) = false by
        rw [List.any_eq_false]
        intro g hg'
        have := f2 g hg'
        simp; omega] at cc
      clear f2 hf hg
      unfold hol pk pkc
      rw [hm]
      refine acall_walk (N := 33) Try.func20 (by kernel_rfl) p_frag_fits rfl ?_; unfold c_frag_fits; dsimp only [enum, Nat.reduceAdd]
      (repeat (first | ((with_reducible show RG _ _ (_ :: _) _ _ _); refine RG.go1 (k := ?_)) | ((with_reducible show DG _ _ (_ :: _) _ _ _ _ _); refine DG.go1 (k := ?_)) | (with_reducible first | apply RG.nil | apply W.seq | apply W.reg | apply W.skip | apply W.block | apply W.drw | apply DG.nil | refine W.done (QB.n ?_)) | refine W.cndT ?_ | refine W.cndF ?_))
      (first | ((with_reducible show RG _ _ (_ :: _) _ _ _); refine RG.gca (fun _ => cc) (k := ?_)) | ((with_reducible show DG _ _ (_ :: _) _ _ _ _ _); refine DG.gca (fun _ => cc) (k := ?_)))
      (repeat (first | ((with_reducible show RG _ _ (_ :: _) _ _ _); refine RG.go1 (k := ?_)) | ((with_reducible show DG _ _ (_ :: _) _ _ _ _ _); refine DG.go1 (k := ?_)) | (with_reducible first | apply RG.nil | apply W.seq | apply W.reg | apply W.skip | apply W.block | apply W.drw | apply DG.nil | refine W.done (QB.n ?_)) | refine W.cndT ?_ | refine W.cndF ?_))
      (refine W.ret ?_; (repeat (with_reducible first | refine QB.r ?_ | refine QL.r ?_ | refine QC.r ?_)); refine QF.r ?_)
      exact RetOk.rs (vs := [_]) r_frag_fits []
    · clear hf hg
      unfold hol pk pkc
      rw [hm]
      refine acall_walk (N := 33) Try.func20 (by kernel_rfl) p_frag_fits rfl ?_; unfold c_frag_fits; dsimp only [enum, Nat.reduceAdd]
      (repeat (first | ((with_reducible show RG _ _ (_ :: _) _ _ _); refine RG.go1 (k := ?_)) | ((with_reducible show DG _ _ (_ :: _) _ _ _ _ _); refine DG.go1 (k := ?_)) | (with_reducible first | apply RG.nil | apply W.seq | apply W.reg | apply W.skip | apply W.block | apply W.drw | apply DG.nil | refine W.done (QB.n ?_)) | refine W.cndT ?_ | refine W.cndF ?_))
      (refine W.ret ?_; (repeat (with_reducible first | refine QB.r ?_ | refine QL.r ?_ | refine QC.r ?_)); refine QF.r ?_)
      exact RetOk.rs (vs := [_]) r_frag_fits []
end Go.Proofs.Ytiejnmbpejfpgaa

namespace Go.Proofs.Ytiejnmbpejfpgaa
open Go.RowKit
set_option linter.unusedVariables false
set_option linter.unusedSimpArgs false
set_option maxRecDepth 100000
set_option maxHeartbeats 4000000
theorem rep_by8 (n : Nat) : List.replicate n (AV.int .u8 0) = (List.replicate n (0 : UInt8)).map by8 := by simp [by8]
theorem four_q (a b c d : Int) : eqTs [0, 0, 0, 0] [.int .u8 a, .int .u8 b, .int .u8 c, .int .u8 d] [.int .u8 a, .int .u8 b, .int .u8 c, .int .u8 d] = some true :=
  (eqts_i (eqts_i (eqts_i (eqts_i eqts_nil)))).trans (by simp)
theorem same_ok (p : Pk) (hl : p.dt.length ≤ 100000) : ACall Try.prog 12 [pk true p, pk true p] (.bool true) [] := by
  obtain ⟨i, mo, o, tt, pr, s0, s1, s2, s3, d0, d1, d2, d3, dt⟩ := p
  dsimp only at hl
  unfold pk pkc
  dsimp only
  have el := by8_len dt
  have q1 := four_q s0 s1 s2 s3
  have q2 := four_q d0 d1 d2 d3
  cases mo
  · refine acall_walk (N := 61) Try.func12 (by kernel_rfl) p_caravelref06_Same rfl ?_; unfold c_caravelref06_Same; dsimp only [enum, Nat.reduceAdd]
    (repeat (first | ((with_reducible show RG _ _ (_ :: _) _ _ _); refine RG.go1 (k := ?_)) | ((with_reducible show DG _ _ (_ :: _) _ _ _ _ _); refine DG.go1 (k := ?_)) | (with_reducible first | apply RG.nil | apply W.seq | apply W.reg | apply W.skip | apply W.block | apply W.drw | apply DG.nil | refine W.done (QB.n ?_)) | refine W.cndT ?_ | refine W.cndF ?_))
    (refine W.ret ?_; (repeat (with_reducible first | refine QB.r ?_ | refine QL.r ?_ | refine QC.r ?_)); refine QF.r ?_)
    exact RetOk.rs (vs := [_]) r_caravelref06_Same []
  · refine acall_walk (N := 61) Try.func12 (by kernel_rfl) p_caravelref06_Same rfl ?_; unfold c_caravelref06_Same; dsimp only [enum, Nat.reduceAdd]
    (repeat (first | ((with_reducible show RG _ _ (_ :: _) _ _ _); refine RG.go1 (k := ?_)) | ((with_reducible show DG _ _ (_ :: _) _ _ _ _ _); refine DG.go1 (k := ?_)) | (with_reducible first | apply RG.nil | apply W.seq | apply W.reg | apply W.skip | apply W.block | apply W.drw | apply DG.nil | refine W.done (QB.n ?_)) | refine W.cndT ?_ | refine W.cndF ?_))
    (refine W.ret ?_; (repeat (with_reducible first | refine QB.r ?_ | refine QL.r ?_ | refine QC.r ?_)); refine QF.r ?_)
    exact RetOk.rs (vs := [_]) r_caravelref06_Same []
theorem pk_le (p : Pk) : ALe (pk false p) (pk true p) := by
  unfold pk pkc
  refine .agg _ _ rfl fun i x y e1 e2 => ?_
  match i, e1, e2 with
  | 0, e1, e2 => simp at e1 e2; subst e1 e2; exact .refl _
  | 1, e1, e2 => simp at e1 e2; subst e1 e2; exact .refl _
  | 2, e1, e2 => simp at e1 e2; subst e1 e2; exact .refl _
  | 3, e1, e2 => simp at e1 e2; subst e1 e2; exact .refl _
  | 4, e1, e2 => simp at e1 e2; subst e1 e2; exact .refl _
  | 5, e1, e2 => simp at e1 e2; subst e1 e2; exact .refl _
  | 6, e1, e2 => simp at e1 e2; subst e1 e2; exact .refl _
  | 7, e1, e2 => simp at e1 e2; subst e1 e2; exact .refl _
  | 8, e1, e2 => simp at e1 e2; subst e1 e2; exact .refl _
  | 9, e1, e2 => simp at e1 e2; subst e1 e2; exact .refl _
  | 10, e1, e2 => simp at e1 e2; subst e1 e2; exact .refl _
  | 11, e1, e2 => simp at e1 e2; subst e1 e2; exact .refl _
  | 12, e1, e2 => simp at e1 e2; subst e1 e2; exact .refl _
  | 13, e1, e2 => simp at e1 e2; subst e1 e2; exact ALe.slv rfl
  | i + 14, e1, e2 => simp at e1
theorem lives_ok : ACall Try.prog 7 [] (.bool true) [] := by
  have cs := split_ok true ⟨0, false, 0, 0, 0, 0, 0, 0, 0, 0, 0, 0, 0, List.replicate 200 0⟩ rfl rfl (by simp) (by simp)
  have e : (pieces ⟨0, false, 0, 0, 0, 0, 0, 0, 0, 0, 0, 0, 0, List.replicate 200 0⟩ (cntP (List.replicate 200 (0 : UInt8)).length)).map (pk false) = [.agg [.int .u16 0, .bool true, .int .i64 0, .int .u8 0, .int .u8 0, .int .u8 0, .int .u8 0, .int .u8 0, .int .u8 0, .int .u8 0, .int .u8 0, .int .u8 0, .int .u8 0, .sl false 1 ((List.replicate 176 0).map by8)], .agg [.int .u16 0, .bool false, .int .i64 176, .int .u8 0, .int .u8 0, .int .u8 0, .int .u8 0, .int .u8 0, .int .u8 0, .int .u8 0, .int .u8 0, .int .u8 0, .int .u8 0, .sl false 1 ((List.replicate 24 0).map by8)]] := by
    simp [cntP, pieces, List.range_succ, piece, pk, pkc, List.take_replicate, List.drop_replicate]
  dsimp only at cs
  rw [e] at cs
  clear e
  unfold pk pkc at cs
  dsimp only at cs
  have e1 : ((List.replicate 24 0).map by8).length = 24 := by simp
  generalize (List.replicate 24 0).map by8 = u at *
  generalize (List.replicate 176 0).map by8 = v at *
  obtain ⟨L, hL⟩ : ∃ L, L = [AV.agg [.int .u16 0, .bool true, .int .i64 0, .int .u8 0, .int .u8 0, .int .u8 0, .int .u8 0, .int .u8 0, .int .u8 0, .int .u8 0, .int .u8 0, .int .u8 0, .int .u8 0, .sl false 1 v], AV.agg [.int .u16 0, .bool false, .int .i64 176, .int .u8 0, .int .u8 0, .int .u8 0, .int .u8 0, .int .u8 0, .int .u8 0, .int .u8 0, .int .u8 0, .int .u8 0, .int .u8 0, .sl false 1 u]] := ⟨_, rfl⟩
  rw [← hL] at cs
  have l1 : L.length = 2 := by rw [hL]; rfl
  have E0 : L[Int.toNat 0]?.getD .any = AV.agg [.int .u16 0, .bool true, .int .i64 0, .int .u8 0, .int .u8 0, .int .u8 0, .int .u8 0, .int .u8 0, .int .u8 0, .int .u8 0, .int .u8 0, .int .u8 0, .int .u8 0, .sl false 1 v] := by rw [hL]; rfl
  have E1 : L[Int.toNat 1]?.getD .any = AV.agg [.int .u16 0, .bool false, .int .i64 176, .int .u8 0, .int .u8 0, .int .u8 0, .int .u8 0, .int .u8 0, .int .u8 0, .int .u8 0, .int .u8 0, .int .u8 0, .int .u8 0, .sl false 1 u] := by rw [hL]; rfl
  clear hL
  refine acall_walk (N := 37) Try.func7 (by kernel_rfl) p_caravellaw07_lives rfl ?_; unfold c_caravellaw07_lives; dsimp only [enum, Nat.reduceAdd]
  (repeat (first | ((with_reducible show RG _ _ (_ :: _) _ _ _); refine RG.go1 (k := ?_)) | ((with_reducible show DG _ _ (_ :: _) _ _ _ _ _); refine DG.go1 (k := ?_)) | (with_reducible first | apply RG.nil | apply W.seq | apply W.reg | apply W.skip | apply W.block | apply W.drw | apply DG.nil | refine W.done (QB.n ?_)) | refine W.cndT ?_ | refine W.cndF ?_))
  rw [show Int.toNat 200 = 200 from rfl, rep_by8]
  (repeat (first | ((with_reducible show RG _ _ (_ :: _) _ _ _); refine RG.go1 (k := ?_)) | ((with_reducible show DG _ _ (_ :: _) _ _ _ _ _); refine DG.go1 (k := ?_)) | (with_reducible first | apply RG.nil | apply W.seq | apply W.reg | apply W.skip | apply W.block | apply W.drw | apply DG.nil | refine W.done (QB.n ?_))))
  (first | ((with_reducible show RG _ _ (_ :: _) _ _ _); refine RG.ca (cs) (k := ?_)) | ((with_reducible show DG _ _ (_ :: _) _ _ _ _ _); refine DG.ca (cs) (k := ?_)))
  (repeat (first | ((with_reducible show RG _ _ (_ :: _) _ _ _); refine RG.go1 (k := ?_)) | ((with_reducible show DG _ _ (_ :: _) _ _ _ _ _); refine DG.go1 (k := ?_)) | (with_reducible first | apply RG.nil | apply W.seq | apply W.reg | apply W.skip | apply W.block | apply W.drw | apply DG.nil | refine W.done (QB.n ?_)) | refine W.cndT ?_ | refine W.cndF ?_))
  (first | ((with_reducible show RG _ _ (_ :: _) _ _ _); refine RG.ewg (cptr_of (E0) (by (conv => lhs; whnf) <;> exact rfl)) (k := ?_)) | ((with_reducible show DG _ _ (_ :: _) _ _ _ _ _); refine DG.ewg (cptr_of (E0) (by (conv => lhs; whnf) <;> exact rfl)) (k := ?_)))
  (repeat (first | ((with_reducible show RG _ _ (_ :: _) _ _ _); refine RG.go1 (k := ?_)) | ((with_reducible show DG _ _ (_ :: _) _ _ _ _ _); refine DG.go1 (k := ?_)) | (with_reducible first | apply RG.nil | apply W.seq | apply W.reg | apply W.skip | apply W.block | apply W.drw | apply DG.nil | refine W.done (QB.n ?_)) | refine W.cndT ?_ | refine W.cndF ?_))
  (first | ((with_reducible show RG _ _ (_ :: _) _ _ _); refine RG.ewg (cptr_of (E1) (by (conv => lhs; whnf) <;> exact rfl)) (k := ?_)) | ((with_reducible show DG _ _ (_ :: _) _ _ _ _ _); refine DG.ewg (cptr_of (E1) (by (conv => lhs; whnf) <;> exact rfl)) (k := ?_)))
  (repeat (first | ((with_reducible show RG _ _ (_ :: _) _ _ _); refine RG.go1 (k := ?_)) | ((with_reducible show DG _ _ (_ :: _) _ _ _ _ _); refine DG.go1 (k := ?_)) | (with_reducible first | apply RG.nil | apply W.seq | apply W.reg | apply W.skip | apply W.block | apply W.drw | apply DG.nil | refine W.done (QB.n ?_)) | refine W.cndT ?_ | refine W.cndF ?_))
  (first | ((with_reducible show RG _ _ (_ :: _) _ _ _); refine RG.ewg (cptr_of (E1) (by (conv => lhs; whnf) <;> exact rfl)) (k := ?_)) | ((with_reducible show DG _ _ (_ :: _) _ _ _ _ _); refine DG.ewg (cptr_of (E1) (by (conv => lhs; whnf) <;> exact rfl)) (k := ?_)))
  (repeat (first | ((with_reducible show RG _ _ (_ :: _) _ _ _); refine RG.go1 (k := ?_)) | ((with_reducible show DG _ _ (_ :: _) _ _ _ _ _); refine DG.go1 (k := ?_)) | (with_reducible first | apply RG.nil | apply W.seq | apply W.reg | apply W.skip | apply W.block | apply W.drw | apply DG.nil | refine W.done (QB.n ?_)) | refine W.cndT ?_ | refine W.cndF ?_))
  (refine W.ret ?_; (repeat (with_reducible first | refine QB.r ?_ | refine QL.r ?_ | refine QC.r ?_)); refine QF.r ?_)
  exact RetOk.rs (vs := [_]) r_caravellaw07_lives []
end Go.Proofs.Ytiejnmbpejfpgaa

namespace Go.Proofs.Ytiejnmbpejfpgaa
open Go.RowKit
set_option linter.unusedVariables false
set_option linter.unusedSimpArgs false
set_option maxRecDepth 100000
set_option maxHeartbeats 4000000
def putS (s : List UInt8) (a : Nat) (v : List UInt8) : List UInt8 := s.take a ++ (v ++ s.drop (a + v.length))
theorem putS_len {s : List UInt8} {a : Nat} {v : List UInt8} (h : a + v.length ≤ s.length) : (putS s a v).length = s.length := by
  unfold putS; simp; omega
theorem putS_by8 (s : List UInt8) (a : Nat) (v : List UInt8) (m : Nat) (h : v.length ≤ m) : (s.map by8).take a ++ ((v.map by8).take m ++ (s.map by8).drop (a + v.length)) = (putS s a v).map by8 := by
  unfold putS
  rw [List.take_of_length_le (l := v.map by8) (by simpa using h)]
  simp
theorem take_pure (v : List UInt8) (m : Nat) : ((v.map by8).take m).all pureV = true := by rw [← List.map_take]; exact by8_pure _
/-- Where two parts begin and end. -/
def bFrom (g p : Prt) : Int := min g.off p.off
def bTo (g p : Prt) : Int := max (g.off + g.dt.length) (p.off + p.dt.length)
def bothS (g p : Prt) : Prt := ⟨bFrom g p, putS (putS (List.replicate (bTo g p - bFrom g p).toNat 0) (p.off - bFrom g p).toNat p.dt) (g.off - bFrom g p).toNat g.dt⟩
theorem bothS_len {g p : Prt} (hg : g.Ok) (hp : p.Ok) : ((bothS g p).dt.length : Int) = bTo g p - bFrom g p := by
  obtain ⟨go, gd⟩ := g
  obtain ⟨po, pd⟩ := p
  obtain ⟨g0, g1⟩ := hg
  obtain ⟨p0, p1⟩ := hp
  dsimp only at g0 g1 p0 p1
  unfold bothS bTo bFrom
  dsimp only
  have e1 : (putS (List.replicate (max (go + gd.length) (po + pd.length) - min go po).toNat (0 : UInt8)) (po - min go po).toNat pd).length = (max (go + gd.length) (po + pd.length) - min go po).toNat := by
    rw [putS_len (by rw [List.length_replicate]; omega), List.length_replicate]
  rw [putS_len (by rw [e1]; omega), e1]
  omega
theorem bothS_Ok {g p : Prt} (hg : g.Ok) (hp : p.Ok) : (bothS g p).Ok := by
  have h := bothS_len hg hp
  have : (bothS g p).off = bFrom g p := rfl
  obtain ⟨g0, g1⟩ := hg
  obtain ⟨p0, p1⟩ := hp
  unfold bTo bFrom at *
  constructor
  · rw [this]; omega
  · rw [this, h]; omega
theorem fragBoth_ok (g p : Prt) (hg : g.Ok) (hp : p.Ok) : ACall Try.prog 29 [prt g, prt p] (prt (bothS g p)) [] := by
  obtain ⟨F, hF⟩ : ∃ F, bFrom g p = F := ⟨_, rfl⟩
  obtain ⟨T, hT⟩ : ∃ T, bTo g p = T := ⟨_, rfl⟩
  unfold bothS
  rw [hF, hT]
  obtain ⟨go, gd⟩ := g
  obtain ⟨po, pd⟩ := p
  obtain ⟨g0, g1⟩ := hg
  obtain ⟨p0, p1⟩ := hp
  unfold bFrom at hF
  unfold bTo at hT
  dsimp only at g0 g1 p0 p1 hF hT ⊢
  have elg := by8_len gd
  have elp := by8_len pd
  obtain ⟨n, hn⟩ : ∃ n : Nat, T - F = n := ⟨(T - F).toNat, by omega⟩
  obtain ⟨a1, ha1⟩ : ∃ n : Nat, po - F = n := ⟨(po - F).toNat, by omega⟩
  obtain ⟨a2, ha2⟩ : ∃ n : Nat, go - F = n := ⟨(go - F).toNat, by omega⟩
  rw [hn, ha1, ha2, Int.toNat_natCast, Int.toNat_natCast, Int.toNat_natCast]
  obtain ⟨Z, hZ⟩ : ∃ Z, List.replicate n (0 : UInt8) = Z := ⟨_, rfl⟩
  have hzl : Z.length = n := by rw [← hZ]; simp
  have b1 : a1 + pd.length ≤ n := by omega
  have b2 : a2 + gd.length ≤ n := by omega
  have hn1 : n ≤ 1000 := by omega
  have h1 := putS_by8 Z a1 pd (n - a1) (by omega)
  have hz1 : (putS Z a1 pd).length = n := by rw [putS_len (by omega), hzl]
  have h2 := putS_by8 (putS Z a1 pd) a2 gd (n - a2) (by omega)
  have hz2 : (putS (putS Z a1 pd) a2 gd).length = n := by rw [putS_len (by omega), hz1]
  have by1 := by8_len Z
  have by2 := by8_len (putS Z a1 pd)
  have by3 := by8_len (putS (putS Z a1 pd) a2 gd)
  have pg := take_pure gd (n - a2)
  have pp := take_pure pd (n - a1)
  rw [hZ]
  unfold prt
  dsimp only
  refine acall_walk (N := 49) Try.func29 (by kernel_rfl) p_frag_both rfl ?_; unfold c_frag_both; dsimp only [enum, Nat.reduceAdd]
  (repeat (first | ((with_reducible show RG _ _ (_ :: _) _ _ _); refine RG.go1 (k := ?_)) | ((with_reducible show DG _ _ (_ :: _) _ _ _ _ _); refine DG.go1 (k := ?_)) | (with_reducible first | apply RG.nil | apply W.seq | apply W.reg | apply W.skip | apply W.block | apply W.drw | apply DG.nil | refine W.done (QB.n ?_))))
  rw [elg, elp, hF]
  (repeat (first | ((with_reducible show RG _ _ (_ :: _) _ _ _); refine RG.go1 (k := ?_)) | ((with_reducible show DG _ _ (_ :: _) _ _ _ _ _); refine DG.go1 (k := ?_)) | (with_reducible first | apply RG.nil | apply W.seq | apply W.reg | apply W.skip | apply W.block | apply W.drw | apply DG.nil | refine W.done (QB.n ?_))))
  rw [hT]
  (repeat (first | ((with_reducible show RG _ _ (_ :: _) _ _ _); refine RG.go1 (k := ?_)) | ((with_reducible show DG _ _ (_ :: _) _ _ _ _ _); refine DG.go1 (k := ?_)) | (with_reducible first | apply RG.nil | apply W.seq | apply W.reg | apply W.skip | apply W.block | apply W.drw | apply DG.nil | refine W.done (QB.n ?_))))
  rw [hn, ha1, Int.toNat_natCast, rep_by8, hZ]
  (first | ((with_reducible show RG _ _ (_ :: _) _ _ _); refine RG.ew ((show AV.ref 0 1 (0 + (a1 : Int).toNat) ((n : Int) - (a1 : Int)).toNat = AV.ref 0 1 a1 (n - a1) by congr 1 <;> omega)) (k := ?_)) | ((with_reducible show DG _ _ (_ :: _) _ _ _ _ _); refine DG.ew ((show AV.ref 0 1 (0 + (a1 : Int).toNat) ((n : Int) - (a1 : Int)).toNat = AV.ref 0 1 a1 (n - a1) by congr 1 <;> omega)) (k := ?_)))
  (repeat (first | ((with_reducible show RG _ _ (_ :: _) _ _ _); refine RG.go1 (k := ?_)) | ((with_reducible show DG _ _ (_ :: _) _ _ _ _ _); refine DG.go1 (k := ?_)) | (with_reducible first | apply RG.nil | apply W.seq | apply W.reg | apply W.skip | apply W.block | apply W.drw | apply DG.nil | refine W.done (QB.n ?_))))
  (refine RG.sm (A.cpy (m := pd.length) h1 (hp := pp) (hm := by omega)) (k := ?_))
  (repeat (first | ((with_reducible show RG _ _ (_ :: _) _ _ _); refine RG.go1 (k := ?_)) | ((with_reducible show DG _ _ (_ :: _) _ _ _ _ _); refine DG.go1 (k := ?_)) | (with_reducible first | apply RG.nil | apply W.seq | apply W.reg | apply W.skip | apply W.block | apply W.drw | apply DG.nil | refine W.done (QB.n ?_))))
  rw [ha2]
  (first | ((with_reducible show RG _ _ (_ :: _) _ _ _); refine RG.ew ((show AV.ref 0 1 (0 + (a2 : Int).toNat) ((n : Int) - (a2 : Int)).toNat = AV.ref 0 1 a2 (n - a2) by congr 1 <;> omega)) (k := ?_)) | ((with_reducible show DG _ _ (_ :: _) _ _ _ _ _); refine DG.ew ((show AV.ref 0 1 (0 + (a2 : Int).toNat) ((n : Int) - (a2 : Int)).toNat = AV.ref 0 1 a2 (n - a2) by congr 1 <;> omega)) (k := ?_)))
  (repeat (first | ((with_reducible show RG _ _ (_ :: _) _ _ _); refine RG.go1 (k := ?_)) | ((with_reducible show DG _ _ (_ :: _) _ _ _ _ _); refine DG.go1 (k := ?_)) | (with_reducible first | apply RG.nil | apply W.seq | apply W.reg | apply W.skip | apply W.block | apply W.drw | apply DG.nil | refine W.done (QB.n ?_))))
  (refine RG.sm (A.cpy (m := gd.length) h2 (hp := pg) (hm := by omega)) (k := ?_))
  (repeat (first | ((with_reducible show RG _ _ (_ :: _) _ _ _); refine RG.go1 (k := ?_)) | ((with_reducible show DG _ _ (_ :: _) _ _ _ _ _); refine DG.go1 (k := ?_)) | (with_reducible first | apply RG.nil | apply W.seq | apply W.reg | apply W.skip | apply W.block | apply W.drw | apply DG.nil | refine W.done (QB.n ?_))))
  (refine W.ret ?_; (repeat (with_reducible first | refine QB.r ?_ | refine QL.r ?_ | refine QC.r ?_)); refine QF.r ?_)
  (refine RetOk.wk (Wk.frz (b := 0) rfl rfl) ?_; refine RetOk.wk (Wk.box (b := 2) (cs' := [_, _]) rfl (by dsimp only [ClL]; (repeat' (first | exact True.intro | exact Cl.ice rfl rfl rfl (by first | assumption | decide | omega | (simp; (first | (all_goals fail) | fail)) | (simp <;> omega)) (by first | exact take_all _ | exact take_len (by first | (simp; (first | (all_goals fail) | fail)) | (simp <;> omega)) | exact rfl) | exact Cl.le (.refl _) | apply And.intro)); (first | (all_goals fail) | fail))) ?_; dsimp only [setO])
  exact RetOk.rs (vs := [_]) r_frag_both []
end Go.Proofs.Ytiejnmbpejfpgaa

namespace Go.Proofs.Ytiejnmbpejfpgaa
open Go.RowKit
set_option linter.unusedVariables false
set_option linter.unusedSimpArgs false
set_option maxRecDepth 100000
set_option maxHeartbeats 4000000
def layS : List Prt → Prt → List Prt
  | [], p => [p]
  | g :: l, p => if g.off + g.dt.length < p.off then g :: layS l p else if p.off + p.dt.length < g.off then p :: layS l g else layS l (bothS g p)
structure LI where
  i : Nat
  o : List Prt
  p : Prt
theorem fragLay_ok (l : List Prt) (hl : l.length ≤ 1000) (hg : ∀ g ∈ l, g.Ok) (p0 : Prt) (hp0 : p0.Ok) : ACall Try.prog 22 [.sl true 2 (l.map prt), prt p0] (.sl false 2 ((layS l p0).map prt)) [] := by
  have el := pr_len l
  show ACall Try.prog 22 [.sl true 2 (l.map prt), .agg [.int .i64 p0.off, .sl false 1 (p0.dt.map by8)]] (.sl false 2 ((layS l p0).map prt)) []
  refine acall_walk (N := 51) Try.func22 (by kernel_rfl) p_frag_lay rfl ?_; unfold c_frag_lay; dsimp only [enum, Nat.reduceAdd]
  (repeat (first | ((with_reducible show RG _ _ (_ :: _) _ _ _); refine RG.go1 (k := ?_)) | ((with_reducible show DG _ _ (_ :: _) _ _ _ _ _); refine DG.go1 (k := ?_)) | (with_reducible first | apply RG.nil | apply W.seq | apply W.reg | apply W.skip | apply W.block | apply W.drw | apply DG.nil | refine W.done (QB.n ?_))))
  rw [el]
  refine W.wk (Wk.nilT (t := 5) 2 rfl) ?_ (by simp)
  refine W.loop (ι := {q : LI // (q.i ≤ l.length ∧ q.o.length ≤ q.i) ∧ q.p.Ok ∧ q.o ++ layS (l.drop q.i) q.p = layS l p0}) (fun q => ⟨[(10, .int .i64 q.1.i), (9, .int .i64 l.length), (8, .sl true 2 (l.map prt)), (5, .ref 0 2 0 q.1.o.length), (3, .bptr 0 0)], [some [.int .i64 q.1.p.off, .sl false 1 (q.1.p.dt.map by8)]], [some ⟨false, 2, q.1.o.map prt⟩], 1, 1⟩) (fun q => l.length - q.1.i) ⟨⟨0, [], p0⟩, ⟨Nat.zero_le _, Nat.le_refl _⟩, hp0, rfl⟩ ?_ ?_
  · dsimp only
    rw [List.map_nil]
    exact Wk.rn ([0] ) ( [0])
  rintro ⟨⟨i, o, p⟩, ⟨hi, ho⟩, hp, he⟩
  dsimp only at hi ho hp he ⊢
  have eo := pr_len o
  have po := pr_pure o
  obtain ⟨pb0, pb1⟩ := id hp
  by_cases hlt : i < l.length
  · have hE := pr_at l i hlt (j := ((i : Nat) : Int).toNat) (by simp)
    rw [List.drop_eq_getElem_cons hlt] at he
    have hgk := hg _ (List.getElem_mem hlt)
    generalize l[i] = g at *
    obtain ⟨gb0, gb1⟩ := id hgk
    have egg := by8_len g.dt
    have epp := by8_len p.dt
    have s1 : o.map prt ++ [.agg [.int .i64 g.off, .sl false 1 (g.dt.map by8)]] = (o ++ [g]).map prt := by simp [prt]
    have s2 : o.map prt ++ [.agg [.int .i64 p.off, .sl false 1 (p.dt.map by8)]] = (o ++ [p]).map prt := by simp [prt]
    by_cases c1 : g.off + g.dt.length < p.off
    · have he : (o ++ [g]) ++ layS (l.drop (i + 1)) p = layS l p0 := by rw [← he, layS, if_pos c1]; simp
      clear hg
      (repeat (first | ((with_reducible show RG _ _ (_ :: _) _ _ _); refine RG.go1 (k := ?_)) | ((with_reducible show DG _ _ (_ :: _) _ _ _ _ _); refine DG.go1 (k := ?_)) | (with_reducible first | apply RG.nil | apply W.seq | apply W.reg | apply W.skip | apply W.block | apply W.drw | apply DG.nil | refine W.done (QB.n ?_))))
      refine W.cnd (fun h1 => ?_) (fun h1 => ?_)
      · clear h1
        (repeat (first | ((with_reducible show RG _ _ (_ :: _) _ _ _); refine RG.go1 (k := ?_)) | ((with_reducible show DG _ _ (_ :: _) _ _ _ _ _); refine DG.go1 (k := ?_)) | (with_reducible first | apply RG.nil | apply W.seq | apply W.reg | apply W.skip | apply W.block | apply W.drw | apply DG.nil | refine W.done (QB.n ?_))))
        (first | ((with_reducible show RG _ _ (_ :: _) _ _ _); refine RG.ew (cptr_of (hE) (by (conv => lhs; whnf) <;> exact rfl)) (k := ?_)) | ((with_reducible show DG _ _ (_ :: _) _ _ _ _ _); refine DG.ew (cptr_of (hE) (by (conv => lhs; whnf) <;> exact rfl)) (k := ?_)))
        (repeat (first | ((with_reducible show RG _ _ (_ :: _) _ _ _); refine RG.go1 (k := ?_)) | ((with_reducible show DG _ _ (_ :: _) _ _ _ _ _); refine DG.go1 (k := ?_)) | (with_reducible first | apply RG.nil | apply W.seq | apply W.reg | apply W.skip | apply W.block | apply W.drw | apply DG.nil | refine W.done (QB.n ?_)) | refine W.cndT ?_ | refine W.cndF ?_))
        rw [egg]
        (repeat (first | ((with_reducible show RG _ _ (_ :: _) _ _ _); refine RG.go1 (k := ?_)) | ((with_reducible show DG _ _ (_ :: _) _ _ _ _ _); refine DG.go1 (k := ?_)) | (with_reducible first | apply RG.nil | apply W.seq | apply W.reg | apply W.skip | apply W.block | apply W.drw | apply DG.nil | refine W.done (QB.n ?_)) | refine W.cndT ?_ | refine W.cndF ?_))
        rw [s1]
        refine W.done (QL.n (⟨⟨i + 1, o ++ [g], p⟩, ⟨by dsimp only; omega, by simp; omega⟩, hp, he⟩) ?_ ?_)
        · dsimp only
          rw [show (o ++ [g]).length = o.length + 1 by simp]
          exact Wk.rn ([0] ) ( [2])
        · dsimp only; omega
      · simp at h1
    · by_cases c2 : p.off + p.dt.length < g.off
      · have he : (o ++ [p]) ++ layS (l.drop (i + 1)) g = layS l p0 := by rw [← he, layS, if_neg c1, if_pos c2]; simp
        clear hg
        (repeat (first | ((with_reducible show RG _ _ (_ :: _) _ _ _); refine RG.go1 (k := ?_)) | ((with_reducible show DG _ _ (_ :: _) _ _ _ _ _); refine DG.go1 (k := ?_)) | (with_reducible first | apply RG.nil | apply W.seq | apply W.reg | apply W.skip | apply W.block | apply W.drw | apply DG.nil | refine W.done (QB.n ?_))))
        refine W.cnd (fun h1 => ?_) (fun h1 => ?_)
        · clear h1
          (repeat (first | ((with_reducible show RG _ _ (_ :: _) _ _ _); refine RG.go1 (k := ?_)) | ((with_reducible show DG _ _ (_ :: _) _ _ _ _ _); refine DG.go1 (k := ?_)) | (with_reducible first | apply RG.nil | apply W.seq | apply W.reg | apply W.skip | apply W.block | apply W.drw | apply DG.nil | refine W.done (QB.n ?_))))
          (first | ((with_reducible show RG _ _ (_ :: _) _ _ _); refine RG.ew (cptr_of (hE) (by (conv => lhs; whnf) <;> exact rfl)) (k := ?_)) | ((with_reducible show DG _ _ (_ :: _) _ _ _ _ _); refine DG.ew (cptr_of (hE) (by (conv => lhs; whnf) <;> exact rfl)) (k := ?_)))
          (repeat (first | ((with_reducible show RG _ _ (_ :: _) _ _ _); refine RG.go1 (k := ?_)) | ((with_reducible show DG _ _ (_ :: _) _ _ _ _ _); refine DG.go1 (k := ?_)) | (with_reducible first | apply RG.nil | apply W.seq | apply W.reg | apply W.skip | apply W.block | apply W.drw | apply DG.nil | refine W.done (QB.n ?_)) | refine W.cndT ?_ | refine W.cndF ?_))
          rw [egg]
          (repeat (first | ((with_reducible show RG _ _ (_ :: _) _ _ _); refine RG.go1 (k := ?_)) | ((with_reducible show DG _ _ (_ :: _) _ _ _ _ _); refine DG.go1 (k := ?_)) | (with_reducible first | apply RG.nil | apply W.seq | apply W.reg | apply W.skip | apply W.block | apply W.drw | apply DG.nil | refine W.done (QB.n ?_)) | refine W.cndT ?_ | refine W.cndF ?_))
          rw [s2]
          refine W.done (QL.n (⟨⟨i + 1, o ++ [p], g⟩, ⟨by dsimp only; omega, by simp; omega⟩, hgk, he⟩) ?_ ?_)
          · dsimp only
            rw [show (o ++ [p]).length = o.length + 1 by simp]
            exact Wk.rn ([0] ) ( [2])
          · dsimp only; omega
        · simp at h1
      · have he : o ++ layS (l.drop (i + 1)) (bothS g p) = layS l p0 := by rw [← he]; conv => rhs; rw [layS, if_neg c1, if_neg c2]
        have cb := fragBoth_ok g p hgk hp
        have hbk := bothS_Ok hgk hp
        generalize bothS g p = r at *
        unfold prt at cb
        clear hg
        (repeat (first | ((with_reducible show RG _ _ (_ :: _) _ _ _); refine RG.go1 (k := ?_)) | ((with_reducible show DG _ _ (_ :: _) _ _ _ _ _); refine DG.go1 (k := ?_)) | (with_reducible first | apply RG.nil | apply W.seq | apply W.reg | apply W.skip | apply W.block | apply W.drw | apply DG.nil | refine W.done (QB.n ?_))))
        refine W.cnd (fun h1 => ?_) (fun h1 => ?_)
        · clear h1
          (repeat (first | ((with_reducible show RG _ _ (_ :: _) _ _ _); refine RG.go1 (k := ?_)) | ((with_reducible show DG _ _ (_ :: _) _ _ _ _ _); refine DG.go1 (k := ?_)) | (with_reducible first | apply RG.nil | apply W.seq | apply W.reg | apply W.skip | apply W.block | apply W.drw | apply DG.nil | refine W.done (QB.n ?_))))
          (first | ((with_reducible show RG _ _ (_ :: _) _ _ _); refine RG.ew (cptr_of (hE) (by (conv => lhs; whnf) <;> exact rfl)) (k := ?_)) | ((with_reducible show DG _ _ (_ :: _) _ _ _ _ _); refine DG.ew (cptr_of (hE) (by (conv => lhs; whnf) <;> exact rfl)) (k := ?_)))
          (repeat (first | ((with_reducible show RG _ _ (_ :: _) _ _ _); refine RG.go1 (k := ?_)) | ((with_reducible show DG _ _ (_ :: _) _ _ _ _ _); refine DG.go1 (k := ?_)) | (with_reducible first | apply RG.nil | apply W.seq | apply W.reg | apply W.skip | apply W.block | apply W.drw | apply DG.nil | refine W.done (QB.n ?_)) | refine W.cndT ?_ | refine W.cndF ?_))
          rw [egg]
          (repeat (first | ((with_reducible show RG _ _ (_ :: _) _ _ _); refine RG.go1 (k := ?_)) | ((with_reducible show DG _ _ (_ :: _) _ _ _ _ _); refine DG.go1 (k := ?_)) | (with_reducible first | apply RG.nil | apply W.seq | apply W.reg | apply W.skip | apply W.block | apply W.drw | apply DG.nil | refine W.done (QB.n ?_)) | refine W.cndT ?_ | refine W.cndF ?_))
          (first | ((with_reducible show RG _ _ (_ :: _) _ _ _); refine RG.ca (cb) (k := ?_)) | ((with_reducible show DG _ _ (_ :: _) _ _ _ _ _); refine DG.ca (cb) (k := ?_)))
          (repeat (first | ((with_reducible show RG _ _ (_ :: _) _ _ _); refine RG.go1 (k := ?_)) | ((with_reducible show DG _ _ (_ :: _) _ _ _ _ _); refine DG.go1 (k := ?_)) | (with_reducible first | apply RG.nil | apply W.seq | apply W.reg | apply W.skip | apply W.block | apply W.drw | apply DG.nil | refine W.done (QB.n ?_)) | refine W.cndT ?_ | refine W.cndF ?_))
          refine W.done (QL.n (⟨⟨i + 1, o, r⟩, ⟨by dsimp only; omega, by dsimp only; omega⟩, hbk, he⟩) ?_ ?_)
          · exact Wk.rn ([0] ) ( [0])
          · dsimp only; omega
        · simp at h1
  · obtain rfl : i = l.length := by omega
    rw [List.drop_length] at he
    have s2 : o.map prt ++ [.agg [.int .i64 p.off, .sl false 1 (p.dt.map by8)]] = (layS l p0).map prt := by rw [← he]; simp [layS, prt]
    have hls : ((layS l p0).map prt).length = o.length + 1 := by rw [← s2]; simp
    have hls0 : (layS l p0).length = o.length + 1 := by rw [← pr_len]; exact hls
    clear hg
    (repeat (first | ((with_reducible show RG _ _ (_ :: _) _ _ _); refine RG.go1 (k := ?_)) | ((with_reducible show DG _ _ (_ :: _) _ _ _ _ _); refine DG.go1 (k := ?_)) | (with_reducible first | apply RG.nil | apply W.seq | apply W.reg | apply W.skip | apply W.block | apply W.drw | apply DG.nil | refine W.done (QB.n ?_)) | refine W.cndT ?_ | refine W.cndF ?_))
    (refine W.exit ?_; (repeat (first | (with_reducible first | refine QL.x ?_ | refine QC.x ?_ | refine QB.x ?_) | (with_reducible refine QB.o (by decide) ?_))))
    (repeat (first | ((with_reducible show RG _ _ (_ :: _) _ _ _); refine RG.go1 (k := ?_)) | ((with_reducible show DG _ _ (_ :: _) _ _ _ _ _); refine DG.go1 (k := ?_)) | (with_reducible first | apply RG.nil | apply W.seq | apply W.reg | apply W.skip | apply W.block | apply W.drw | apply DG.nil | refine W.done (QB.n ?_))))
    rw [s2]
    (refine W.ret ?_; (repeat (with_reducible first | refine QB.r ?_ | refine QL.r ?_ | refine QC.r ?_)); refine QF.r ?_)
    (refine RetOk.wk (Wk.frz (b := 2) rfl rfl) ?_; refine RetOk.wk (Wk.tmp (t := 4) (Cl.ice rfl rfl rfl (by first | assumption | decide | omega | (simp; (first | (all_goals fail) | fail)) | (simp <;> omega)) (by first | exact take_all _ | exact take_len (by first | (simp; (first | (all_goals fail) | fail)) | (simp <;> omega)) | exact rfl))) ?_; dsimp only [setO])
    exact RetOk.rs (vs := [_]) r_frag_lay []
end Go.Proofs.Ytiejnmbpejfpgaa

namespace Go.Proofs.Ytiejnmbpejfpgaa
open Go.RowKit
set_option linter.unusedVariables false
set_option linter.unusedSimpArgs false
set_option maxRecDepth 100000
set_option maxHeartbeats 4000000
section
variable {P : Program} {N : Nat} {tm : List (Nat × AV)} {bx : List (Option (List AV))} {rw : List (Option ARow)} {nb nr : Nat}
theorem ST.strF {n b k i off : Nat} {a z : Opd} {es : List AV} {x v v' : AV} {ids : List Nat} {es' : List AV} (ha : lookT (gT tm) a = .rptr b k i off) (hz : lookT (gT tm) z = v) (hzc : v.cond) (hr : gO rw b = some ⟨false, k, es⟩) (hi : i < es.length) (hw : okV v.val = true ∧ v.val.cells.length = n) (hnk : n ≠ k) (hoff : off + n ≤ k) (hn : 0 < n) (hz' : FzV rw v.val v' ids) (hb : b ∉ ids) (hx : es[i]?.getD .any = x) (he : es.set i (.agg (putCells x.cells off v'.cells)) = es') :
    ST tm bx rw nb nr (.store n a z) .any 0 0 (frzUp (gO rw) ids ++ [.R b (some ⟨false, k, es'⟩)]) := by
  obtain ⟨h1, h2⟩ := hz'.spec
  obtain ⟨h3, h4⟩ := hw
  subst he hx
  have e : (AV.rptr b k i off).val = .rptr b k i off := rfl
  refine ⟨rfl, ?_, ?_, ?_, ?_, ?_⟩ <;> simp only [aistep, ha, hz, hr, h1, h2, e, if_neg hnk]
  exact ⟨⟨trivial, hzc, h3, h4⟩, trivial, hi, hoff, trivial, hb, hn⟩
theorem A.strF {n b k i off : Nat} {a z : Opd} {es : List AV} {x y v v' : AV} {ids : List Nat} {es' : List AV} (hx : es[i]?.getD .any = x) (he : es.set i y = es') (ha : lookT (gT tm) a = .rptr b k i off := by exact (by (conv => lhs; whnf) <;> exact rfl)) (hz : lookT (gT tm) z = v := by exact (by (conv => lhs; whnf) <;> exact rfl)) (hzc : v.cond := by exact True.intro) (hr : gO rw b = some ⟨false, k, es⟩ := by exact (by (conv => lhs; whnf) <;> exact rfl)) (hi : i < es.length := by exact (by first | assumption | decide | omega | (simp; (first | (all_goals fail) | fail)) | (simp <;> omega))) (hw : okV v.val = true ∧ v.val.cells.length = n := by exact (by (repeat' (first | exact True.intro | exact rfl | apply And.intro | omega | (simp [okV, scal]; (first | (all_goals fail) | fail)))); (first | (all_goals fail) | fail))) (hnk : n ≠ k := by decide) (hoff : off + n ≤ k := by decide) (hn : 0 < n := by decide) (hz' : FzV rw v.val v' ids := by exact (by (repeat' (first | exact FzVs.nil | apply FzVs.cons | exact FzV.c (Fz.pure rfl) | exact FzV.c (Fz.ref rfl rfl (by first | assumption | decide | omega | (simp; (first | (all_goals fail) | fail)) | (simp <;> omega)) (by first | exact take_all _ | exact take_len (by first | (simp; (first | (all_goals fail) | fail)) | (simp <;> omega)) | exact rfl)) | apply FzV.agg | exact FzL.nil | apply FzL.cons | exact Fz.pure rfl | exact Fz.ref rfl rfl (by first | assumption | decide | omega | (simp; (first | (all_goals fail) | fail)) | (simp <;> omega)) (by first | exact take_all _ | exact take_len (by first | (simp; (first | (all_goals fail) | fail)) | (simp <;> omega)) | exact rfl) | exact rfl)); (first | (all_goals fail) | fail))) (hb : b ∉ ids := by decide) (hy : AV.agg (putCells x.cells off v'.cells) = y := by exact rfl) :
    ST tm bx rw nb nr (.store n a z) .any 0 0 (frzUp (gO rw) ids ++ [.R b (some ⟨false, k, es'⟩)]) := ST.strF ha hz hzc hr hi hw hnk hoff hn hz' hb hx (hy ▸ he)
end
end Go.Proofs.Ytiejnmbpejfpgaa

namespace Go.Proofs.Ytiejnmbpejfpgaa
open Go.RowKit
set_option linter.unusedVariables false
set_option linter.unusedSimpArgs false
set_option maxRecDepth 100000
set_option maxHeartbeats 4000000
structure Hl.Gd (h : Hl) : Prop where
  n : h.got.length ≤ 100
  o : ∀ g ∈ h.got, g.Ok
  t : h.Tm
theorem Hl.Gd.sm {h : Hl} (g : h.Gd) : h.Sm := ⟨g.n, fun x hx => by have h1 := (g.o x hx).lo; have h2 := (g.o x hx).hi; omega⟩
/-- What Add is given. -/
structure Been (l : List Hl) (now : Int) (Y : List Hl) : Prop where
  n : l.length ≤ 1000
  g : ∀ h ∈ l, h.Gd
  lo : 0 ≤ now
  hi : now ≤ 18446744073709551615
  y : young now l = Y
theorem Been.yn {l Y : List Hl} {now : Int} (b : Been l now Y) : Y.length ≤ 1000 := by
  have := List.length_filter_le (fun h => !oldB now h) l
  have h2 := b.n
  have h3 : l.filter (fun h => !oldB now h) = Y := b.y
  rw [h3] at this; omega
theorem Been.yg {l Y : List Hl} {now : Int} (b : Been l now Y) : ∀ h ∈ Y, h.Gd := fun h hh => b.g h (by have := b.y; rw [← this] at hh; exact (List.mem_filter.1 hh).1)
theorem Been.age {l Y : List Hl} {now : Int} (b : Been l now Y) : ACall Try.prog 16 [.sl true 14 (l.map hol), .int .u64 now] (.ref 0 14 0 Y.length) [⟨false, 14, Y.map hol⟩] := by
  have := fragAge_ok l b.n (fun h hh => (b.g h hh).sm) (fun h hh => (b.g h hh).t) now b.lo b.hi
  rw [b.y] at this
  exact this
theorem Been.index {l Y : List Hl} {now : Int} (b : Been l now Y) (p : Pk) : ACall Try.prog 17 [.sl true 14 (Y.map hol), .fn 18 [.cptr true (pkc false p)]] (.int .i64 (if Y.any (fun h => matB h p) then (Y.findIdx (fun h => matB h p) : Int) else -1)) [] :=
  hoIndex_ok Y (by have := b.yn; omega) 18 p (fun h => matB h p) fun h _ => fragAdd1_ok h p
/-- A packet of noughts. -/
def pkz : AV := .agg [.int .u16 0, .bool false, .int .i64 0, .int .u8 0, .int .u8 0, .int .u8 0, .int .u8 0, .int .u8 0, .int .u8 0, .int .u8 0, .int .u8 0, .int .u8 0, .int .u8 0, .nil]
/-- A piece, in form. -/
structure Pk.V (p : Pk) : Prop where
  lo : 0 ≤ p.o
  hi : p.o + p.dt.length ≤ 1000
  m8 : p.o % 8 = 0
  l8 : p.mo = true → p.dt.length % 8 = 0
  ne : 0 < p.dt.length
  pt : p.mo = true ∨ 0 < p.o
theorem Pk.V.cases {p : Pk} (v : p.V) : (p.mo = false ∧ 0 < p.o) ∨ (p.mo = true ∧ p.o = 0 ∧ p.dt.length % 8 = 0) ∨ (p.mo = true ∧ 0 < p.o ∧ p.dt.length % 8 = 0) := by
  cases h : p.mo
  · exact .inl ⟨rfl, by have := v.pt; rw [h] at this; simpa using this⟩
  · by_cases h0 : p.o = 0
    · exact .inr (.inl ⟨rfl, h0, v.l8 h⟩)
    · exact .inr (.inr ⟨rfl, by have := v.lo; omega, v.l8 h⟩)
theorem add_full {l Y : List Hl} {now : Int} (b : Been l now Y) (p : Pk) (v : p.V) (hY : Y.any (fun h => matB h p) = false) (h8 : 8 ≤ Y.length) :
    ACall Try.prog 11 [.sl true 14 (l.map hol), pk false p, .int .u64 now] (.tup [.sl false 14 (Y.map hol), pkz, .bool false, .int .i64 5]) [] := by
  have ca := b.age
  have ci := b.index p
  rw [hY, if_neg (by decide)] at ci
  have yl := ho_len Y
  have yn := b.yn
  have vc := v.cases
  obtain ⟨v1, v2, v3, -, v5, -⟩ := v
  clear hY b
  obtain ⟨i, mo, o, tt, pr, s0, s1, s2, s3, d0, d1, d2, d3, dt⟩ := p
  dsimp only at v1 v2 v3 v5 vc
  have el := by8_len dt
  unfold pkc at ci
  unfold pk pkc pkz
  dsimp only at ci ⊢
  rcases vc with ⟨rfl, w1⟩ | ⟨rfl, rfl, w2⟩ | ⟨rfl, w1, w2⟩
  all_goals
    refine acall_walk (N := 208) Try.func11 (by kernel_rfl) p_frag_Add rfl ?_; unfold c_frag_Add; dsimp only [enum, Nat.reduceAdd]
    (repeat (first | ((with_reducible show RG _ _ (_ :: _) _ _ _); refine RG.go1 (k := ?_)) | ((with_reducible show DG _ _ (_ :: _) _ _ _ _ _); refine DG.go1 (k := ?_)) | (with_reducible first | apply RG.nil | apply W.seq | apply W.reg | apply W.skip | apply W.block | apply W.drw | apply DG.nil | refine W.done (QB.n ?_)) | refine W.cndT ?_ | refine W.cndF ?_))
    (first | ((with_reducible show RG _ _ (_ :: _) _ _ _); refine RG.ca (ca) (k := ?_)) | ((with_reducible show DG _ _ (_ :: _) _ _ _ _ _); refine DG.ca (ca) (k := ?_)))
    (repeat (first | ((with_reducible show RG _ _ (_ :: _) _ _ _); refine RG.go1 (k := ?_)) | ((with_reducible show DG _ _ (_ :: _) _ _ _ _ _); refine DG.go1 (k := ?_)) | (with_reducible first | apply RG.nil | apply W.seq | apply W.reg | apply W.skip | apply W.block | apply W.drw | apply DG.nil | refine W.done (QB.n ?_)) | refine W.cndT ?_ | refine W.cndF ?_))
    (first | ((with_reducible show RG _ _ (_ :: _) _ _ _); refine RG.ca (ci) (k := ?_)) | ((with_reducible show DG _ _ (_ :: _) _ _ _ _ _); refine DG.ca (ci) (k := ?_)))
    (repeat (first | ((with_reducible show RG _ _ (_ :: _) _ _ _); refine RG.go1 (k := ?_)) | ((with_reducible show DG _ _ (_ :: _) _ _ _ _ _); refine DG.go1 (k := ?_)) | (with_reducible first | apply RG.nil | apply W.seq | apply W.reg | apply W.skip | apply W.block | apply W.drw | apply DG.nil | refine W.done (QB.n ?_)) | refine W.cndT ?_ | refine W.cndF ?_))
    (refine W.ret ?_; (repeat (with_reducible first | refine QB.r ?_ | refine QL.r ?_ | refine QC.r ?_)); refine QF.r ?_)
    (refine RetOk.wk (Wk.frz (b := 0) rfl rfl) ?_; refine RetOk.wk (Wk.tmp (t := 6) (Cl.ice rfl rfl rfl (by first | assumption | decide | omega | (simp; (first | (all_goals fail) | fail)) | (simp <;> omega)) (by first | exact take_all _ | exact take_len (by first | (simp; (first | (all_goals fail) | fail)) | (simp <;> omega)) | exact rfl))) ?_; dsimp only [setO])
    exact RetOk.rs (vs := [_, _, _, _]) r_frag_Add []
end Go.Proofs.Ytiejnmbpejfpgaa
