/- HeapTells. -/
import Derived.Test.YtjacmhaeemhinaaHsg
namespace Go.Proofs.Ytjacmhaeemhinaa
open Go.RowKit
set_option linter.unusedVariables false
set_option linter.unusedSimpArgs false
set_option maxRecDepth 100000
set_option maxHeartbeats 4000000
structure TI where
  p : Nat
  h : Hp
  c : Hp
theorem heapTells_ok (l t : List Op) (hL : (l.length : Int) ≤ 9223372036854775807) (hok : ∀ a ∈ l, a.Ok) (hT : (t.length : Int) ≤ 9223372036854775807) (htk : ∀ a ∈ t, a.Ok) :
    ACall Try.prog 6 [.sl false 5 (l.map opk), .sl false 5 (t.map opk)] (.bool true) [] := by
  have hl := lives_ok
  have cf := fits_ok l hL
  have cg := fits_ok t hT
  have el := opk_len l
  have et := opk_len t
  have cn := hNewC_ok (m := 6) (by decide) (by decide)
  have yn := xNew_ok (m := 6) (by decide)
  cases hfit : fitsB l
  · rw [hfit] at cf
    refine acall_walk (N := 143) Try.func6 (by kernel_rfl) p_caravellaw10_HeapTells rfl ?_; unfold c_caravellaw10_HeapTells; dsimp only [enum, Nat.reduceAdd]
    (repeat (first | ((with_reducible show RG _ _ (_ :: _) _ _ _); refine RG.go1 (k := ?_)) | ((with_reducible show DG _ _ (_ :: _) _ _ _ _ _); refine DG.go1 (k := ?_)) | (with_reducible first | apply RG.nil | apply W.seq | apply W.reg | apply W.skip | apply W.block | apply W.drw | apply DG.nil | refine W.done (QB.n ?_)) | refine W.cndT ?_ | refine W.cndF ?_))
    (first | ((with_reducible show RG _ _ (_ :: _) _ _ _); refine RG.ca (hl) (k := ?_)) | ((with_reducible show DG _ _ (_ :: _) _ _ _ _ _); refine DG.ca (hl) (k := ?_)))
    (repeat (first | ((with_reducible show RG _ _ (_ :: _) _ _ _); refine RG.go1 (k := ?_)) | ((with_reducible show DG _ _ (_ :: _) _ _ _ _ _); refine DG.go1 (k := ?_)) | (with_reducible first | apply RG.nil | apply W.seq | apply W.reg | apply W.skip | apply W.block | apply W.drw | apply DG.nil | refine W.done (QB.n ?_)) | refine W.cndT ?_ | refine W.cndF ?_))
    (first | ((with_reducible show RG _ _ (_ :: _) _ _ _); refine RG.gca (fun _ => cf) (k := ?_)) | ((with_reducible show DG _ _ (_ :: _) _ _ _ _ _); refine DG.gca (fun _ => cf) (k := ?_)))
    (repeat (first | ((with_reducible show RG _ _ (_ :: _) _ _ _); refine RG.go1 (k := ?_)) | ((with_reducible show DG _ _ (_ :: _) _ _ _ _ _); refine DG.go1 (k := ?_)) | (with_reducible first | apply RG.nil | apply W.seq | apply W.reg | apply W.skip | apply W.block | apply W.drw | apply DG.nil | refine W.done (QB.n ?_)) | refine W.cndT ?_ | refine W.cndF ?_))
    (first | ((with_reducible show RG _ _ (_ :: _) _ _ _); refine RG.ca (hl) (k := ?_)) | ((with_reducible show DG _ _ (_ :: _) _ _ _ _ _); refine DG.ca (hl) (k := ?_)))
    (repeat (first | ((with_reducible show RG _ _ (_ :: _) _ _ _); refine RG.go1 (k := ?_)) | ((with_reducible show DG _ _ (_ :: _) _ _ _ _ _); refine DG.go1 (k := ?_)) | (with_reducible first | apply RG.nil | apply W.seq | apply W.reg | apply W.skip | apply W.block | apply W.drw | apply DG.nil | refine W.done (QB.n ?_)) | refine W.cndT ?_ | refine W.cndF ?_))
    (refine W.ret ?_; (repeat (with_reducible first | refine QB.r ?_ | refine QL.r ?_ | refine QC.r ?_)); refine QF.r ?_)
    exact RetOk.rs (vs := [_]) r_caravellaw10_HeapTells []
  cases hfit2 : fitsB t
  · rw [hfit] at cf
    rw [hfit2] at cg
    refine acall_walk (N := 143) Try.func6 (by kernel_rfl) p_caravellaw10_HeapTells rfl ?_; unfold c_caravellaw10_HeapTells; dsimp only [enum, Nat.reduceAdd]
    (repeat (first | ((with_reducible show RG _ _ (_ :: _) _ _ _); refine RG.go1 (k := ?_)) | ((with_reducible show DG _ _ (_ :: _) _ _ _ _ _); refine DG.go1 (k := ?_)) | (with_reducible first | apply RG.nil | apply W.seq | apply W.reg | apply W.skip | apply W.block | apply W.drw | apply DG.nil | refine W.done (QB.n ?_)) | refine W.cndT ?_ | refine W.cndF ?_))
    (first | ((with_reducible show RG _ _ (_ :: _) _ _ _); refine RG.ca (hl) (k := ?_)) | ((with_reducible show DG _ _ (_ :: _) _ _ _ _ _); refine DG.ca (hl) (k := ?_)))
    (repeat (first | ((with_reducible show RG _ _ (_ :: _) _ _ _); refine RG.go1 (k := ?_)) | ((with_reducible show DG _ _ (_ :: _) _ _ _ _ _); refine DG.go1 (k := ?_)) | (with_reducible first | apply RG.nil | apply W.seq | apply W.reg | apply W.skip | apply W.block | apply W.drw | apply DG.nil | refine W.done (QB.n ?_)) | refine W.cndT ?_ | refine W.cndF ?_))
    (first | ((with_reducible show RG _ _ (_ :: _) _ _ _); refine RG.gca (fun _ => cf) (k := ?_)) | ((with_reducible show DG _ _ (_ :: _) _ _ _ _ _); refine DG.gca (fun _ => cf) (k := ?_)))
    (repeat (first | ((with_reducible show RG _ _ (_ :: _) _ _ _); refine RG.go1 (k := ?_)) | ((with_reducible show DG _ _ (_ :: _) _ _ _ _ _); refine DG.go1 (k := ?_)) | (with_reducible first | apply RG.nil | apply W.seq | apply W.reg | apply W.skip | apply W.block | apply W.drw | apply DG.nil | refine W.done (QB.n ?_)) | refine W.cndT ?_ | refine W.cndF ?_))
    (first | ((with_reducible show RG _ _ (_ :: _) _ _ _); refine RG.gca (fun _ => cg) (k := ?_)) | ((with_reducible show DG _ _ (_ :: _) _ _ _ _ _); refine DG.gca (fun _ => cg) (k := ?_)))
    (repeat (first | ((with_reducible show RG _ _ (_ :: _) _ _ _); refine RG.go1 (k := ?_)) | ((with_reducible show DG _ _ (_ :: _) _ _ _ _ _); refine DG.go1 (k := ?_)) | (with_reducible first | apply RG.nil | apply W.seq | apply W.reg | apply W.skip | apply W.block | apply W.drw | apply DG.nil | refine W.done (QB.n ?_)) | refine W.cndT ?_ | refine W.cndF ?_))
    (first | ((with_reducible show RG _ _ (_ :: _) _ _ _); refine RG.ca (hl) (k := ?_)) | ((with_reducible show DG _ _ (_ :: _) _ _ _ _ _); refine DG.ca (hl) (k := ?_)))
    (repeat (first | ((with_reducible show RG _ _ (_ :: _) _ _ _); refine RG.go1 (k := ?_)) | ((with_reducible show DG _ _ (_ :: _) _ _ _ _ _); refine DG.go1 (k := ?_)) | (with_reducible first | apply RG.nil | apply W.seq | apply W.reg | apply W.skip | apply W.block | apply W.drw | apply DG.nil | refine W.done (QB.n ?_)) | refine W.cndT ?_ | refine W.cndF ?_))
    (refine W.ret ?_; (repeat (with_reducible first | refine QB.r ?_ | refine QL.r ?_ | refine QC.r ?_)); refine QF.r ?_)
    exact RetOk.rs (vs := [_]) r_caravellaw10_HeapTells []
  rw [hfit] at cf
  rw [hfit2] at cg
  obtain ⟨hf1, hf2⟩ := fitsB_inv hfit
  obtain ⟨hg1, hg2⟩ := fitsB_inv hfit2
  have k0 : (hnew 6).Ok 6 := hnew_ok (by decide) (by decide)
  have stp : ∀ (h : Hp) (o : Op), h.Ok 6 → o.Ok → o.data.length ≤ 300 → ∃ x' b, ACall Try.prog 17 [hv false h, xv (hnew 6), opk o] (.tup [hv false (sH h o), xv x', .bool b]) [] := fun h o k ho hd => ⟨_, _, step_ok k k0 o ho hd⟩
  generalize hnew 6 = h0 at *
  unfold hv at cn
  unfold xv at yn
  refine acall_walk (N := 143) Try.func6 (by kernel_rfl) p_caravellaw10_HeapTells rfl ?_; unfold c_caravellaw10_HeapTells; dsimp only [enum, Nat.reduceAdd]
  (repeat (first | ((with_reducible show RG _ _ (_ :: _) _ _ _); refine RG.go1 (k := ?_)) | ((with_reducible show DG _ _ (_ :: _) _ _ _ _ _); refine DG.go1 (k := ?_)) | (with_reducible first | apply RG.nil | apply W.seq | apply W.reg | apply W.skip | apply W.block | apply W.drw | apply DG.nil | refine W.done (QB.n ?_)) | refine W.cndT ?_ | refine W.cndF ?_))
  (first | ((with_reducible show RG _ _ (_ :: _) _ _ _); refine RG.ca (hl) (k := ?_)) | ((with_reducible show DG _ _ (_ :: _) _ _ _ _ _); refine DG.ca (hl) (k := ?_)))
  (repeat (first | ((with_reducible show RG _ _ (_ :: _) _ _ _); refine RG.go1 (k := ?_)) | ((with_reducible show DG _ _ (_ :: _) _ _ _ _ _); refine DG.go1 (k := ?_)) | (with_reducible first | apply RG.nil | apply W.seq | apply W.reg | apply W.skip | apply W.block | apply W.drw | apply DG.nil | refine W.done (QB.n ?_)) | refine W.cndT ?_ | refine W.cndF ?_))
  (first | ((with_reducible show RG _ _ (_ :: _) _ _ _); refine RG.gca (fun _ => cf) (k := ?_)) | ((with_reducible show DG _ _ (_ :: _) _ _ _ _ _); refine DG.gca (fun _ => cf) (k := ?_)))
  (repeat (first | ((with_reducible show RG _ _ (_ :: _) _ _ _); refine RG.go1 (k := ?_)) | ((with_reducible show DG _ _ (_ :: _) _ _ _ _ _); refine DG.go1 (k := ?_)) | (with_reducible first | apply RG.nil | apply W.seq | apply W.reg | apply W.skip | apply W.block | apply W.drw | apply DG.nil | refine W.done (QB.n ?_)) | refine W.cndT ?_ | refine W.cndF ?_))
  (first | ((with_reducible show RG _ _ (_ :: _) _ _ _); refine RG.gca (fun _ => cg) (k := ?_)) | ((with_reducible show DG _ _ (_ :: _) _ _ _ _ _); refine DG.gca (fun _ => cg) (k := ?_)))
  (repeat (first | ((with_reducible show RG _ _ (_ :: _) _ _ _); refine RG.go1 (k := ?_)) | ((with_reducible show DG _ _ (_ :: _) _ _ _ _ _); refine DG.go1 (k := ?_)) | (with_reducible first | apply RG.nil | apply W.seq | apply W.reg | apply W.skip | apply W.block | apply W.drw | apply DG.nil | refine W.done (QB.n ?_)) | refine W.cndT ?_ | refine W.cndF ?_))
  (first | ((with_reducible show RG _ _ (_ :: _) _ _ _); refine RG.ca (cn) (k := ?_)) | ((with_reducible show DG _ _ (_ :: _) _ _ _ _ _); refine DG.ca (cn) (k := ?_)))
  (repeat (first | ((with_reducible show RG _ _ (_ :: _) _ _ _); refine RG.go1 (k := ?_)) | ((with_reducible show DG _ _ (_ :: _) _ _ _ _ _); refine DG.go1 (k := ?_)) | (with_reducible first | apply RG.nil | apply W.seq | apply W.reg | apply W.skip | apply W.block | apply W.drw | apply DG.nil | refine W.done (QB.n ?_)) | refine W.cndT ?_ | refine W.cndF ?_))
  (first | ((with_reducible show RG _ _ (_ :: _) _ _ _); refine RG.ca (cn) (k := ?_)) | ((with_reducible show DG _ _ (_ :: _) _ _ _ _ _); refine DG.ca (cn) (k := ?_)))
  (repeat (first | ((with_reducible show RG _ _ (_ :: _) _ _ _); refine RG.go1 (k := ?_)) | ((with_reducible show DG _ _ (_ :: _) _ _ _ _ _); refine DG.go1 (k := ?_)) | (with_reducible first | apply RG.nil | apply W.seq | apply W.reg | apply W.skip | apply W.block | apply W.drw | apply DG.nil | refine W.done (QB.n ?_)) | refine W.cndT ?_ | refine W.cndF ?_))
  refine W.loop (ι := {q : HI // q.i ≤ l.length ∧ q.h.Ok 6}) (fun q => ⟨[(42, .int .i64 q.1.i), (41, .int .i64 l.length), (40, .sl false 5 (l.map opk)), (1, .sl false 5 (t.map opk)), (5, .bptr 0 0), (7, .bptr 1 0)], [some [.sl false 1 (q.1.h.s.map by8), .sl false 2 (q.1.h.l.map bk), .sl false 1 (q.1.h.d.map bo)], some [.sl false 1 (h0.s.map by8), .sl false 2 (h0.l.map bk), .sl false 1 (h0.d.map bo)]], [], 2, 0⟩) (fun q => l.length - q.1.i) ⟨⟨0, h0⟩, Nat.zero_le _, k0⟩ ?_ ?_
  · dsimp only
    rw [el]
    exact Wk.rn ([0, 1] ) ( [])
  clear cn cf cg hl hfit hfit2
  rintro ⟨⟨i, h⟩, hi, k⟩
  dsimp only at hi k ⊢
  obtain ⟨l1, l2, l3⟩ := k.lens
  (repeat (first | ((with_reducible show RG _ _ (_ :: _) _ _ _); refine RG.go1 (k := ?_)) | ((with_reducible show DG _ _ (_ :: _) _ _ _ _ _); refine DG.go1 (k := ?_)) | (with_reducible first | apply RG.nil | apply W.seq | apply W.reg | apply W.skip | apply W.block | apply W.drw | apply DG.nil | refine W.done (QB.n ?_))))
  refine W.cnd (fun h1 => ?_) (fun h1 => ?_)
  · have hlt : i < l.length := by simp at h1; omega
    have hE := opk_at l i hlt (j := ((i : Nat) : Int).toNat) (by simp)
    have ho := hok _ (List.getElem_mem hlt)
    have hdl := hf1 _ (List.getElem_mem hlt)
    generalize l[i] = o at *
    obtain ⟨x', b, cs⟩ := stp h o k ho hdl
    have k2 := sH_ok k o
    clear stp h1 hok hf1 hdl htk hg1
    have hN : o.kd % 18446744073709551616 % 8 = opN o := rfl
    by_cases q : opN o < 5
    · generalize sH h o = h' at *
      generalize opN o = kn at *
      unfold hv xv opk at cs
      (repeat (first | ((with_reducible show RG _ _ (_ :: _) _ _ _); refine RG.go1 (k := ?_)) | ((with_reducible show DG _ _ (_ :: _) _ _ _ _ _); refine DG.go1 (k := ?_)) | (with_reducible first | apply RG.nil | apply W.seq | apply W.reg | apply W.skip | apply W.block | apply W.drw | apply DG.nil | refine W.done (QB.n ?_))))
      (first | ((with_reducible show RG _ _ (_ :: _) _ _ _); refine RG.ew (cptr_of (hE) (by (conv => lhs; whnf) <;> exact rfl)) (k := ?_)) | ((with_reducible show DG _ _ (_ :: _) _ _ _ _ _); refine DG.ew (cptr_of (hE) (by (conv => lhs; whnf) <;> exact rfl)) (k := ?_)))
      (repeat (first | ((with_reducible show RG _ _ (_ :: _) _ _ _); refine RG.go1 (k := ?_)) | ((with_reducible show DG _ _ (_ :: _) _ _ _ _ _); refine DG.go1 (k := ?_)) | (with_reducible first | apply RG.nil | apply W.seq | apply W.reg | apply W.skip | apply W.block | apply W.drw | apply DG.nil | refine W.done (QB.n ?_))))
      rw [hN]
      (repeat (first | ((with_reducible show RG _ _ (_ :: _) _ _ _); refine RG.go1 (k := ?_)) | ((with_reducible show DG _ _ (_ :: _) _ _ _ _ _); refine DG.go1 (k := ?_)) | (with_reducible first | apply RG.nil | apply W.seq | apply W.reg | apply W.skip | apply W.block | apply W.drw | apply DG.nil | refine W.done (QB.n ?_)) | refine W.cndT ?_ | refine W.cndF ?_))
      (first | ((with_reducible show RG _ _ (_ :: _) _ _ _); refine RG.ca (yn) (k := ?_)) | ((with_reducible show DG _ _ (_ :: _) _ _ _ _ _); refine DG.ca (yn) (k := ?_)))
      (repeat (first | ((with_reducible show RG _ _ (_ :: _) _ _ _); refine RG.go1 (k := ?_)) | ((with_reducible show DG _ _ (_ :: _) _ _ _ _ _); refine DG.go1 (k := ?_)) | (with_reducible first | apply RG.nil | apply W.seq | apply W.reg | apply W.skip | apply W.block | apply W.drw | apply DG.nil | refine W.done (QB.n ?_)) | refine W.cndT ?_ | refine W.cndF ?_))
      (first | ((with_reducible show RG _ _ (_ :: _) _ _ _); refine RG.ca (cs) (k := ?_)) | ((with_reducible show DG _ _ (_ :: _) _ _ _ _ _); refine DG.ca (cs) (k := ?_)))
      (repeat (first | ((with_reducible show RG _ _ (_ :: _) _ _ _); refine RG.go1 (k := ?_)) | ((with_reducible show DG _ _ (_ :: _) _ _ _ _ _); refine DG.go1 (k := ?_)) | (with_reducible first | apply RG.nil | apply W.seq | apply W.reg | apply W.skip | apply W.block | apply W.drw | apply DG.nil | refine W.done (QB.n ?_)) | refine W.cndT ?_ | refine W.cndF ?_))
      refine W.done (QL.n (⟨⟨i + 1, h'⟩, by show i + 1 ≤ l.length; omega, k2⟩) ?_ ?_)
      · exact Wk.rn ([0, 1] ) ( [])
      · dsimp only; omega
    · generalize opN o = kn at *
      clear cs
      (repeat (first | ((with_reducible show RG _ _ (_ :: _) _ _ _); refine RG.go1 (k := ?_)) | ((with_reducible show DG _ _ (_ :: _) _ _ _ _ _); refine DG.go1 (k := ?_)) | (with_reducible first | apply RG.nil | apply W.seq | apply W.reg | apply W.skip | apply W.block | apply W.drw | apply DG.nil | refine W.done (QB.n ?_))))
      (first | ((with_reducible show RG _ _ (_ :: _) _ _ _); refine RG.ew (cptr_of (hE) (by (conv => lhs; whnf) <;> exact rfl)) (k := ?_)) | ((with_reducible show DG _ _ (_ :: _) _ _ _ _ _); refine DG.ew (cptr_of (hE) (by (conv => lhs; whnf) <;> exact rfl)) (k := ?_)))
      (repeat (first | ((with_reducible show RG _ _ (_ :: _) _ _ _); refine RG.go1 (k := ?_)) | ((with_reducible show DG _ _ (_ :: _) _ _ _ _ _); refine DG.go1 (k := ?_)) | (with_reducible first | apply RG.nil | apply W.seq | apply W.reg | apply W.skip | apply W.block | apply W.drw | apply DG.nil | refine W.done (QB.n ?_))))
      rw [hN]
      (repeat (first | ((with_reducible show RG _ _ (_ :: _) _ _ _); refine RG.go1 (k := ?_)) | ((with_reducible show DG _ _ (_ :: _) _ _ _ _ _); refine DG.go1 (k := ?_)) | (with_reducible first | apply RG.nil | apply W.seq | apply W.reg | apply W.skip | apply W.block | apply W.drw | apply DG.nil | refine W.done (QB.n ?_)) | refine W.cndT ?_ | refine W.cndF ?_))
      refine W.done (QL.n (⟨⟨i + 1, h⟩, by show i + 1 ≤ l.length; omega, k⟩) ?_ ?_)
      · exact Wk.rn ([0, 1] ) ( [])
      · dsimp only; omega
  · clear h1 hok hf1
    (refine W.exit ?_; (repeat (first | (with_reducible first | refine QL.x ?_ | refine QC.x ?_ | refine QB.x ?_) | (with_reducible refine QB.o (by decide) ?_))))
    (repeat (first | ((with_reducible show RG _ _ (_ :: _) _ _ _); refine RG.go1 (k := ?_)) | ((with_reducible show DG _ _ (_ :: _) _ _ _ _ _); refine DG.go1 (k := ?_)) | (with_reducible first | apply RG.nil | apply W.seq | apply W.reg | apply W.skip | apply W.block | apply W.drw | apply DG.nil | refine W.done (QB.n ?_)) | refine W.cndT ?_ | refine W.cndF ?_))
    refine W.loop (ι := {q : TI // q.p ≤ 6 ∧ q.h.Ok 6 ∧ q.c.Ok 6 ∧ ∀ r, r < q.p → Sy q.h q.c r}) (fun q => ⟨[(61, .int .i64 q.1.p), (11, .fn 19 [.bptr 0 0, .bptr 1 0]), (1, .sl false 5 (t.map opk)), (5, .bptr 0 0), (7, .bptr 1 0)], [some [.sl false 1 (q.1.h.s.map by8), .sl false 2 (q.1.h.l.map bk), .sl false 1 (q.1.h.d.map bo)], some [.sl false 1 (q.1.c.s.map by8), .sl false 2 (q.1.c.l.map bk), .sl false 1 (q.1.c.d.map bo)]], [], 2, 0⟩) (fun q => 6 - q.1.p) ⟨⟨0, h, h0⟩, Nat.zero_le _, k, k0, fun r hr => absurd hr (Nat.not_lt_zero _)⟩ ?_ ?_
    · exact Wk.rn ([0, 1] ) ( [])
    clear k h l1 l2 l3 i hi k0
    rintro ⟨⟨p, h, c⟩, hp, k, kc, y⟩
    dsimp only at hp k kc y ⊢
    (repeat (first | ((with_reducible show RG _ _ (_ :: _) _ _ _); refine RG.go1 (k := ?_)) | ((with_reducible show DG _ _ (_ :: _) _ _ _ _ _); refine DG.go1 (k := ?_)) | (with_reducible first | apply RG.nil | apply W.seq | apply W.reg | apply W.skip | apply W.block | apply W.drw | apply DG.nil | refine W.done (QB.n ?_))))
    refine W.cnd (fun h1 => ?_) (fun h1 => ?_)
    · have hlt : p < 6 := by simp at h1; omega
      have ct := hTl_ok k kc hlt
      have k1 := tl1_ok k p
      have k2 := tl2_ok k kc hlt
      have y2 : ∀ r, r < p + 1 → Sy (tl1 h p) (tl2 h c p) r := fun r hr => tl_Sy k kc hlt fun e => y r (by omega)
      generalize tl1 h p = h' at *
      generalize tl2 h c p = c' at *
      clear h1
      (repeat (first | ((with_reducible show RG _ _ (_ :: _) _ _ _); refine RG.go1 (k := ?_)) | ((with_reducible show DG _ _ (_ :: _) _ _ _ _ _); refine DG.go1 (k := ?_)) | (with_reducible first | apply RG.nil | apply W.seq | apply W.reg | apply W.skip | apply W.block | apply W.drw | apply DG.nil | refine W.done (QB.n ?_))))
      (refine RG.mcv ([0, 1]) ([]) (ct) (k := ?_))
      clear ct
      by_cases hpt : p < t.length
      · have hE := opk_at t p hpt (j := ((p : Nat) : Int).toNat) (by simp)
        have ho := htk _ (List.getElem_mem hpt)
        have hdl := hg1 _ (List.getElem_mem hpt)
        generalize t[p] = o at *
        obtain ⟨x', b, cs⟩ := stp h' o k1 ho hdl
        have k3 := sH_ok k1 o
        have y3 : opN o < 5 → ∀ r, r < p + 1 → Sy (sH h' o) c' r := fun q r hr => (y2 r hr).step k1 (by omega) o q
        clear stp htk hg1
        have hN : o.kd % 18446744073709551616 % 8 = opN o := rfl
        by_cases q : opN o < 5
        · have y4 := y3 q
          generalize sH h' o = h2 at *
          generalize opN o = kn at *
          unfold hv xv opk at cs
          (repeat (first | ((with_reducible show RG _ _ (_ :: _) _ _ _); refine RG.go1 (k := ?_)) | ((with_reducible show DG _ _ (_ :: _) _ _ _ _ _); refine DG.go1 (k := ?_)) | (with_reducible first | apply RG.nil | apply W.seq | apply W.reg | apply W.skip | apply W.block | apply W.drw | apply DG.nil | refine W.done (QB.n ?_)) | refine W.cndT ?_ | refine W.cndF ?_))
          (first | ((with_reducible show RG _ _ (_ :: _) _ _ _); refine RG.ewg (cptr_of (hE) (by (conv => lhs; whnf) <;> exact rfl)) (k := ?_)) | ((with_reducible show DG _ _ (_ :: _) _ _ _ _ _); refine DG.ewg (cptr_of (hE) (by (conv => lhs; whnf) <;> exact rfl)) (k := ?_)))
          (repeat (first | ((with_reducible show RG _ _ (_ :: _) _ _ _); refine RG.go1 (k := ?_)) | ((with_reducible show DG _ _ (_ :: _) _ _ _ _ _); refine DG.go1 (k := ?_)) | (with_reducible first | apply RG.nil | apply W.seq | apply W.reg | apply W.skip | apply W.block | apply W.drw | apply DG.nil | refine W.done (QB.n ?_)) | refine W.cndT ?_ | refine W.cndF ?_))
          rw [hN]
          (repeat (first | ((with_reducible show RG _ _ (_ :: _) _ _ _); refine RG.go1 (k := ?_)) | ((with_reducible show DG _ _ (_ :: _) _ _ _ _ _); refine DG.go1 (k := ?_)) | (with_reducible first | apply RG.nil | apply W.seq | apply W.reg | apply W.skip | apply W.block | apply W.drw | apply DG.nil | refine W.done (QB.n ?_)) | refine W.cndT ?_ | refine W.cndF ?_))
          (first | ((with_reducible show RG _ _ (_ :: _) _ _ _); refine RG.ca (yn) (k := ?_)) | ((with_reducible show DG _ _ (_ :: _) _ _ _ _ _); refine DG.ca (yn) (k := ?_)))
          (repeat (first | ((with_reducible show RG _ _ (_ :: _) _ _ _); refine RG.go1 (k := ?_)) | ((with_reducible show DG _ _ (_ :: _) _ _ _ _ _); refine DG.go1 (k := ?_)) | (with_reducible first | apply RG.nil | apply W.seq | apply W.reg | apply W.skip | apply W.block | apply W.drw | apply DG.nil | refine W.done (QB.n ?_)) | refine W.cndT ?_ | refine W.cndF ?_))
          (first | ((with_reducible show RG _ _ (_ :: _) _ _ _); refine RG.ew (cptr_of (hE) (by (conv => lhs; whnf) <;> exact rfl)) (k := ?_)) | ((with_reducible show DG _ _ (_ :: _) _ _ _ _ _); refine DG.ew (cptr_of (hE) (by (conv => lhs; whnf) <;> exact rfl)) (k := ?_)))
          (repeat (first | ((with_reducible show RG _ _ (_ :: _) _ _ _); refine RG.go1 (k := ?_)) | ((with_reducible show DG _ _ (_ :: _) _ _ _ _ _); refine DG.go1 (k := ?_)) | (with_reducible first | apply RG.nil | apply W.seq | apply W.reg | apply W.skip | apply W.block | apply W.drw | apply DG.nil | refine W.done (QB.n ?_)) | refine W.cndT ?_ | refine W.cndF ?_))
          (first | ((with_reducible show RG _ _ (_ :: _) _ _ _); refine RG.ca (cs) (k := ?_)) | ((with_reducible show DG _ _ (_ :: _) _ _ _ _ _); refine DG.ca (cs) (k := ?_)))
          (repeat (first | ((with_reducible show RG _ _ (_ :: _) _ _ _); refine RG.go1 (k := ?_)) | ((with_reducible show DG _ _ (_ :: _) _ _ _ _ _); refine DG.go1 (k := ?_)) | (with_reducible first | apply RG.nil | apply W.seq | apply W.reg | apply W.skip | apply W.block | apply W.drw | apply DG.nil | refine W.done (QB.n ?_)) | refine W.cndT ?_ | refine W.cndF ?_))
          refine W.done (QL.n (⟨⟨p + 1, h2, c'⟩, by show p + 1 ≤ 6; omega, k3, k2, y4⟩) ?_ ?_)
          · exact Wk.rn ([0, 1] ) ( [])
          · dsimp only; omega
        · generalize opN o = kn at *
          clear cs
          (repeat (first | ((with_reducible show RG _ _ (_ :: _) _ _ _); refine RG.go1 (k := ?_)) | ((with_reducible show DG _ _ (_ :: _) _ _ _ _ _); refine DG.go1 (k := ?_)) | (with_reducible first | apply RG.nil | apply W.seq | apply W.reg | apply W.skip | apply W.block | apply W.drw | apply DG.nil | refine W.done (QB.n ?_)) | refine W.cndT ?_ | refine W.cndF ?_))
          (first | ((with_reducible show RG _ _ (_ :: _) _ _ _); refine RG.ewg (cptr_of (hE) (by (conv => lhs; whnf) <;> exact rfl)) (k := ?_)) | ((with_reducible show DG _ _ (_ :: _) _ _ _ _ _); refine DG.ewg (cptr_of (hE) (by (conv => lhs; whnf) <;> exact rfl)) (k := ?_)))
          (repeat (first | ((with_reducible show RG _ _ (_ :: _) _ _ _); refine RG.go1 (k := ?_)) | ((with_reducible show DG _ _ (_ :: _) _ _ _ _ _); refine DG.go1 (k := ?_)) | (with_reducible first | apply RG.nil | apply W.seq | apply W.reg | apply W.skip | apply W.block | apply W.drw | apply DG.nil | refine W.done (QB.n ?_)) | refine W.cndT ?_ | refine W.cndF ?_))
          rw [hN]
          (repeat (first | ((with_reducible show RG _ _ (_ :: _) _ _ _); refine RG.go1 (k := ?_)) | ((with_reducible show DG _ _ (_ :: _) _ _ _ _ _); refine DG.go1 (k := ?_)) | (with_reducible first | apply RG.nil | apply W.seq | apply W.reg | apply W.skip | apply W.block | apply W.drw | apply DG.nil | refine W.done (QB.n ?_)) | refine W.cndT ?_ | refine W.cndF ?_))
          refine W.done (QL.n (⟨⟨p + 1, h', c'⟩, by show p + 1 ≤ 6; omega, k1, k2, y2⟩) ?_ ?_)
          · exact Wk.rn ([0, 1] ) ( [])
          · dsimp only; omega
      · clear stp htk hg1
        (repeat (first | ((with_reducible show RG _ _ (_ :: _) _ _ _); refine RG.go1 (k := ?_)) | ((with_reducible show DG _ _ (_ :: _) _ _ _ _ _); refine DG.go1 (k := ?_)) | (with_reducible first | apply RG.nil | apply W.seq | apply W.reg | apply W.skip | apply W.block | apply W.drw | apply DG.nil | refine W.done (QB.n ?_)) | refine W.cndT ?_ | refine W.cndF ?_))
        refine W.done (QL.n (⟨⟨p + 1, h', c'⟩, by show p + 1 ≤ 6; omega, k1, k2, y2⟩) ?_ ?_)
        · exact Wk.rn ([0, 1] ) ( [])
        · dsimp only; omega
    · obtain rfl : p = 6 := by simp at h1; omega
      clear h1
      have hT2 : ∀ a ∈ t.drop (min t.length 6), a.Ok ∧ a.data.length ≤ 300 := fun a ha => ⟨htk _ (List.mem_of_mem_drop ha), hg1 _ (List.mem_of_mem_drop ha)⟩
      have hcut : ((t.map opk).take ((t.map opk).length : Int).toNat).drop (min ((t.map opk).length : Int) 6).toNat = (t.drop (min t.length 6)).map opk := by
        rw [List.take_of_length_le (by simp), et, show (min (t.length : Int) 6).toNat = min t.length 6 by omega, List.map_drop]
      have hl2 : (t.drop (min t.length 6)).length ≤ 60 := by simp; omega
      generalize t.drop (min t.length 6) = u at *
      have eu := opk_len u
      (refine W.exit ?_; (repeat (first | (with_reducible first | refine QL.x ?_ | refine QC.x ?_ | refine QB.x ?_) | (with_reducible refine QB.o (by decide) ?_))))
      (repeat (first | ((with_reducible show RG _ _ (_ :: _) _ _ _); refine RG.go1 (k := ?_)) | ((with_reducible show DG _ _ (_ :: _) _ _ _ _ _); refine DG.go1 (k := ?_)) | (with_reducible first | apply RG.nil | apply W.seq | apply W.reg | apply W.skip | apply W.block | apply W.drw | apply DG.nil | refine W.done (QB.n ?_)) | refine W.cndT ?_ | refine W.cndF ?_))
      (first | ((with_reducible show RG _ _ (_ :: _) _ _ _); refine RG.ew (sl_of (hcut)) (k := ?_)) | ((with_reducible show DG _ _ (_ :: _) _ _ _ _ _); refine DG.ew (sl_of (hcut)) (k := ?_)))
      (repeat (first | ((with_reducible show RG _ _ (_ :: _) _ _ _); refine RG.go1 (k := ?_)) | ((with_reducible show DG _ _ (_ :: _) _ _ _ _ _); refine DG.go1 (k := ?_)) | (with_reducible first | apply RG.nil | apply W.seq | apply W.reg | apply W.skip | apply W.block | apply W.drw | apply DG.nil | refine W.done (QB.n ?_)) | refine W.cndT ?_ | refine W.cndF ?_))
      rw [eu]
      refine W.loop (ι := {q : TI // q.p ≤ u.length ∧ q.h.Ok 6 ∧ q.c.Ok 6 ∧ ∀ r, r < 6 → Sy q.h q.c r}) (fun q => ⟨[(100, .int .i64 q.1.p), (99, .int .i64 u.length), (98, .sl false 5 (u.map opk)), (11, .fn 19 [.bptr 0 0, .bptr 1 0]), (5, .bptr 0 0), (7, .bptr 1 0)], [some [.sl false 1 (q.1.h.s.map by8), .sl false 2 (q.1.h.l.map bk), .sl false 1 (q.1.h.d.map bo)], some [.sl false 1 (q.1.c.s.map by8), .sl false 2 (q.1.c.l.map bk), .sl false 1 (q.1.c.d.map bo)]], [], 2, 0⟩) (fun q => u.length - q.1.p) ⟨⟨0, h, c⟩, Nat.zero_le _, k, kc, y⟩ ?_ ?_
      · exact Wk.rn ([0, 1] ) ( [])
      clear htk hg1 hcut
      rintro ⟨⟨p, h2, c2⟩, hp2, kk, kkc, yy⟩
      dsimp only at hp2 kk kkc yy ⊢
      (repeat (first | ((with_reducible show RG _ _ (_ :: _) _ _ _); refine RG.go1 (k := ?_)) | ((with_reducible show DG _ _ (_ :: _) _ _ _ _ _); refine DG.go1 (k := ?_)) | (with_reducible first | apply RG.nil | apply W.seq | apply W.reg | apply W.skip | apply W.block | apply W.drw | apply DG.nil | refine W.done (QB.n ?_))))
      refine W.cnd (fun h1 => ?_) (fun h1 => ?_)
      · have hlt : p < u.length := by simp at h1; omega
        have hE := opk_at u p hlt (j := ((p : Nat) : Int).toNat) (by simp)
        obtain ⟨ho, hdl⟩ := hT2 _ (List.getElem_mem hlt)
        generalize u[p] = o at *
        obtain ⟨x', b, cs⟩ := stp h2 o kk ho hdl
        have k3 := sH_ok kk o
        have y3 : opN o < 5 → ∀ r, r < 6 → Sy (sH h2 o) c2 r := fun q r hr => (yy r hr).step kk (by omega) o q
        clear stp hT2 h1
        have hN : o.kd % 18446744073709551616 % 8 = opN o := rfl
        by_cases q : opN o < 5
        · have y4 := y3 q
          generalize sH h2 o = h3 at *
          generalize opN o = kn at *
          unfold hv xv opk at cs
          (repeat (first | ((with_reducible show RG _ _ (_ :: _) _ _ _); refine RG.go1 (k := ?_)) | ((with_reducible show DG _ _ (_ :: _) _ _ _ _ _); refine DG.go1 (k := ?_)) | (with_reducible first | apply RG.nil | apply W.seq | apply W.reg | apply W.skip | apply W.block | apply W.drw | apply DG.nil | refine W.done (QB.n ?_))))
          (first | ((with_reducible show RG _ _ (_ :: _) _ _ _); refine RG.ew (cptr_of (hE) (by (conv => lhs; whnf) <;> exact rfl)) (k := ?_)) | ((with_reducible show DG _ _ (_ :: _) _ _ _ _ _); refine DG.ew (cptr_of (hE) (by (conv => lhs; whnf) <;> exact rfl)) (k := ?_)))
          (repeat (first | ((with_reducible show RG _ _ (_ :: _) _ _ _); refine RG.go1 (k := ?_)) | ((with_reducible show DG _ _ (_ :: _) _ _ _ _ _); refine DG.go1 (k := ?_)) | (with_reducible first | apply RG.nil | apply W.seq | apply W.reg | apply W.skip | apply W.block | apply W.drw | apply DG.nil | refine W.done (QB.n ?_))))
          rw [hN]
          (repeat (first | ((with_reducible show RG _ _ (_ :: _) _ _ _); refine RG.go1 (k := ?_)) | ((with_reducible show DG _ _ (_ :: _) _ _ _ _ _); refine DG.go1 (k := ?_)) | (with_reducible first | apply RG.nil | apply W.seq | apply W.reg | apply W.skip | apply W.block | apply W.drw | apply DG.nil | refine W.done (QB.n ?_)) | refine W.cndT ?_ | refine W.cndF ?_))
          (first | ((with_reducible show RG _ _ (_ :: _) _ _ _); refine RG.ca (yn) (k := ?_)) | ((with_reducible show DG _ _ (_ :: _) _ _ _ _ _); refine DG.ca (yn) (k := ?_)))
          (repeat (first | ((with_reducible show RG _ _ (_ :: _) _ _ _); refine RG.go1 (k := ?_)) | ((with_reducible show DG _ _ (_ :: _) _ _ _ _ _); refine DG.go1 (k := ?_)) | (with_reducible first | apply RG.nil | apply W.seq | apply W.reg | apply W.skip | apply W.block | apply W.drw | apply DG.nil | refine W.done (QB.n ?_)) | refine W.cndT ?_ | refine W.cndF ?_))
          (first | ((with_reducible show RG _ _ (_ :: _) _ _ _); refine RG.ca (cs) (k := ?_)) | ((with_reducible show DG _ _ (_ :: _) _ _ _ _ _); refine DG.ca (cs) (k := ?_)))
          (repeat (first | ((with_reducible show RG _ _ (_ :: _) _ _ _); refine RG.go1 (k := ?_)) | ((with_reducible show DG _ _ (_ :: _) _ _ _ _ _); refine DG.go1 (k := ?_)) | (with_reducible first | apply RG.nil | apply W.seq | apply W.reg | apply W.skip | apply W.block | apply W.drw | apply DG.nil | refine W.done (QB.n ?_)) | refine W.cndT ?_ | refine W.cndF ?_))
          refine W.done (QL.n (⟨⟨p + 1, h3, c2⟩, by show p + 1 ≤ u.length; omega, k3, kkc, y4⟩) ?_ ?_)
          · exact Wk.rn ([0, 1] ) ( [])
          · dsimp only; omega
        · generalize opN o = kn at *
          clear cs y3
          (repeat (first | ((with_reducible show RG _ _ (_ :: _) _ _ _); refine RG.go1 (k := ?_)) | ((with_reducible show DG _ _ (_ :: _) _ _ _ _ _); refine DG.go1 (k := ?_)) | (with_reducible first | apply RG.nil | apply W.seq | apply W.reg | apply W.skip | apply W.block | apply W.drw | apply DG.nil | refine W.done (QB.n ?_))))
          (first | ((with_reducible show RG _ _ (_ :: _) _ _ _); refine RG.ew (cptr_of (hE) (by (conv => lhs; whnf) <;> exact rfl)) (k := ?_)) | ((with_reducible show DG _ _ (_ :: _) _ _ _ _ _); refine DG.ew (cptr_of (hE) (by (conv => lhs; whnf) <;> exact rfl)) (k := ?_)))
          (repeat (first | ((with_reducible show RG _ _ (_ :: _) _ _ _); refine RG.go1 (k := ?_)) | ((with_reducible show DG _ _ (_ :: _) _ _ _ _ _); refine DG.go1 (k := ?_)) | (with_reducible first | apply RG.nil | apply W.seq | apply W.reg | apply W.skip | apply W.block | apply W.drw | apply DG.nil | refine W.done (QB.n ?_))))
          rw [hN]
          (repeat (first | ((with_reducible show RG _ _ (_ :: _) _ _ _); refine RG.go1 (k := ?_)) | ((with_reducible show DG _ _ (_ :: _) _ _ _ _ _); refine DG.go1 (k := ?_)) | (with_reducible first | apply RG.nil | apply W.seq | apply W.reg | apply W.skip | apply W.block | apply W.drw | apply DG.nil | refine W.done (QB.n ?_)) | refine W.cndT ?_ | refine W.cndF ?_))
          refine W.done (QL.n (⟨⟨p + 1, h2, c2⟩, by show p + 1 ≤ u.length; omega, kk, kkc, yy⟩) ?_ ?_)
          · exact Wk.rn ([0, 1] ) ( [])
          · dsimp only; omega
      · clear h1 stp hT2
        have cw := hWritten_ok h2 (by have := kk.d; omega)
        rw [kk.d] at cw
        obtain ⟨w, hwe⟩ : ∃ w, wr h2.d 6 = w := ⟨_, rfl⟩
        have hwl : w.length ≤ 6 := by rw [← hwe]; exact wr_len h2.d 6
        have hw6 : ∀ x ∈ w, x < 6 := fun x hx => wr_lt h2.d 6 x (by rw [hwe]; exact hx)
        have hwd : ∀ q, q < 6 → h2.d[q]?.getD false = true → q ∈ w.drop 0 := fun q hq hd => by
          rw [List.drop_zero, ← hwe]
          unfold wr
          exact List.mem_filter.2 ⟨List.mem_range.2 hq, hd⟩
        rw [hwe] at cw
        clear hwe
        have ew := it_len w
        unfold hv at cw
        (refine W.exit ?_; (repeat (first | (with_reducible first | refine QL.x ?_ | refine QC.x ?_ | refine QB.x ?_) | (with_reducible refine QB.o (by decide) ?_))))
        (repeat (first | ((with_reducible show RG _ _ (_ :: _) _ _ _); refine RG.go1 (k := ?_)) | ((with_reducible show DG _ _ (_ :: _) _ _ _ _ _); refine DG.go1 (k := ?_)) | (with_reducible first | apply RG.nil | apply W.seq | apply W.reg | apply W.skip | apply W.block | apply W.drw | apply DG.nil | refine W.done (QB.n ?_)) | refine W.cndT ?_ | refine W.cndF ?_))
        (first | ((with_reducible show RG _ _ (_ :: _) _ _ _); refine RG.ca (cw) (k := ?_)) | ((with_reducible show DG _ _ (_ :: _) _ _ _ _ _); refine DG.ca (cw) (k := ?_)))
        (repeat (first | ((with_reducible show RG _ _ (_ :: _) _ _ _); refine RG.go1 (k := ?_)) | ((with_reducible show DG _ _ (_ :: _) _ _ _ _ _); refine DG.go1 (k := ?_)) | (with_reducible first | apply RG.nil | apply W.seq | apply W.reg | apply W.skip | apply W.block | apply W.drw | apply DG.nil | refine W.done (QB.n ?_)) | refine W.cndT ?_ | refine W.cndF ?_))
        rw [ew]
        refine W.loop (ι := {q : TI // q.p ≤ w.length ∧ q.h.Ok 6 ∧ q.c.Ok 6 ∧ (∀ r, r < 6 → Sy q.h q.c r) ∧ ∀ r, r < 6 → q.h.d[r]?.getD false = true → r ∈ w.drop q.p}) (fun q => ⟨[(121, .int .i64 q.1.p), (120, .int .i64 w.length), (119, .sl false 1 (w.map it)), (11, .fn 19 [.bptr 0 0, .bptr 1 0]), (5, .bptr 0 0), (7, .bptr 1 0)], [some [.sl false 1 (q.1.h.s.map by8), .sl false 2 (q.1.h.l.map bk), .sl false 1 (q.1.h.d.map bo)], some [.sl false 1 (q.1.c.s.map by8), .sl false 2 (q.1.c.l.map bk), .sl false 1 (q.1.c.d.map bo)]], [], 2, 0⟩) (fun q => w.length - q.1.p) ⟨⟨0, h2, c2⟩, Nat.zero_le _, kk, kkc, yy, hwd⟩ ?_ ?_
        · exact Wk.rn ([0, 1] ) ( [])
        rintro ⟨⟨j, g, c3⟩, hj, gk, ck, gy, gd⟩
        dsimp only at hj gk ck gy gd ⊢
        (repeat (first | ((with_reducible show RG _ _ (_ :: _) _ _ _); refine RG.go1 (k := ?_)) | ((with_reducible show DG _ _ (_ :: _) _ _ _ _ _); refine DG.go1 (k := ?_)) | (with_reducible first | apply RG.nil | apply W.seq | apply W.reg | apply W.skip | apply W.block | apply W.drw | apply DG.nil | refine W.done (QB.n ?_))))
        refine W.cnd (fun h1 => ?_) (fun h1 => ?_)
        · have hlt : j < w.length := by simp at h1; omega
          have hE := it_at w j hlt (j := ((j : Nat) : Int).toNat) (by simp)
          have hx6 := hw6 _ (List.getElem_mem hlt)
          rw [List.drop_eq_getElem_cons hlt] at gd
          generalize w[j] = x at *
          have ct := hTl_ok gk ck hx6
          have k1 := tl1_ok gk x
          have k2 := tl2_ok gk ck hx6
          have y2 : ∀ r, r < 6 → Sy (tl1 g x) (tl2 g c3 x) r := fun r hr => tl_Sy gk ck hx6 fun e => gy r hr
          have d2 : ∀ r, r < 6 → (tl1 g x).d[r]?.getD false = true → r ∈ w.drop (j + 1) := fun r hr hd => by
            unfold tl1 at hd
            dsimp only at hd
            by_cases e : x = r
            · subst e
              rw [List.getElem?_set_self (by rw [gk.d]; exact hr)] at hd
              cases hd
            · rw [List.getElem?_set_ne e] at hd
              rcases List.mem_cons.1 (gd r hr hd) with q | q
              · exact absurd q.symm e
              · exact q
          generalize tl1 g x = g2 at *
          generalize tl2 g c3 x = c4 at *
          clear h1 hw6
          (repeat (first | ((with_reducible show RG _ _ (_ :: _) _ _ _); refine RG.go1 (k := ?_)) | ((with_reducible show DG _ _ (_ :: _) _ _ _ _ _); refine DG.go1 (k := ?_)) | (with_reducible first | apply RG.nil | apply W.seq | apply W.reg | apply W.skip | apply W.block | apply W.drw | apply DG.nil | refine W.done (QB.n ?_))))
          (first | ((with_reducible show RG _ _ (_ :: _) _ _ _); refine RG.ew (cptr_of (hE) (by (conv => lhs; whnf) <;> exact rfl)) (k := ?_)) | ((with_reducible show DG _ _ (_ :: _) _ _ _ _ _); refine DG.ew (cptr_of (hE) (by (conv => lhs; whnf) <;> exact rfl)) (k := ?_)))
          (repeat (first | ((with_reducible show RG _ _ (_ :: _) _ _ _); refine RG.go1 (k := ?_)) | ((with_reducible show DG _ _ (_ :: _) _ _ _ _ _); refine DG.go1 (k := ?_)) | (with_reducible first | apply RG.nil | apply W.seq | apply W.reg | apply W.skip | apply W.block | apply W.drw | apply DG.nil | refine W.done (QB.n ?_))))
          (refine RG.mcv ([0, 1]) ([]) (ct) (k := ?_))
          clear ct
          (repeat (first | ((with_reducible show RG _ _ (_ :: _) _ _ _); refine RG.go1 (k := ?_)) | ((with_reducible show DG _ _ (_ :: _) _ _ _ _ _); refine DG.go1 (k := ?_)) | (with_reducible first | apply RG.nil | apply W.seq | apply W.reg | apply W.skip | apply W.block | apply W.drw | apply DG.nil | refine W.done (QB.n ?_)) | refine W.cndT ?_ | refine W.cndF ?_))
          refine W.done (QL.n (⟨⟨j + 1, g2, c4⟩, by show j + 1 ≤ w.length; omega, k1, k2, y2, d2⟩) ?_ ?_)
          · exact Wk.rn ([0, 1] ) ( [])
          · dsimp only; omega
        · obtain rfl : j = w.length := by simp at h1; omega
          rw [List.drop_length] at gd
          have hd0 : ∀ r : Nat, r < 6 → g.d[r]?.getD false = false := fun r hr => by
            cases e : g.d[r]?.getD false
            · rfl
            · exact absurd (gd r hr e) (by simp)
          have hsc := sy_all gk ck gy hd0
          have cw2 := hWritten_ok g (by have := gk.d; omega)
          rw [gk.d, wr_nil hd0] at cw2
          have hsl := gk.lens
          unfold hv at cw2
          rw [List.map_nil] at cw2
          rw [← hsc]
          clear h1 hw6
          (refine W.exit ?_; (repeat (first | (with_reducible first | refine QL.x ?_ | refine QC.x ?_ | refine QB.x ?_) | (with_reducible refine QB.o (by decide) ?_))))
          (repeat (first | ((with_reducible show RG _ _ (_ :: _) _ _ _); refine RG.go1 (k := ?_)) | ((with_reducible show DG _ _ (_ :: _) _ _ _ _ _); refine DG.go1 (k := ?_)) | (with_reducible first | apply RG.nil | apply W.seq | apply W.reg | apply W.skip | apply W.block | apply W.drw | apply DG.nil | refine W.done (QB.n ?_)) | refine W.cndT ?_ | refine W.cndF ?_))
          (first | ((with_reducible show RG _ _ (_ :: _) _ _ _); refine RG.gca (fun _ => cw2) (k := ?_)) | ((with_reducible show DG _ _ (_ :: _) _ _ _ _ _); refine DG.gca (fun _ => cw2) (k := ?_)))
          (repeat (first | ((with_reducible show RG _ _ (_ :: _) _ _ _); refine RG.go1 (k := ?_)) | ((with_reducible show DG _ _ (_ :: _) _ _ _ _ _); refine DG.go1 (k := ?_)) | (with_reducible first | apply RG.nil | apply W.seq | apply W.reg | apply W.skip | apply W.block | apply W.drw | apply DG.nil | refine W.done (QB.n ?_)) | refine W.cndT ?_ | refine W.cndF ?_))
          (refine W.ret ?_; (repeat (with_reducible first | refine QB.r ?_ | refine QL.r ?_ | refine QC.r ?_)); refine QF.r ?_)
          exact RetOk.rs (vs := [_]) r_caravellaw10_HeapTells []
theorem HeapTells_walk {r : Reach} {b0 base : Nat} {H : Type} {enc : TypeId × Value → H} {spare : Nat → Bool} {held : Bool} {d1 d2 : DataW H} {p1 p2 : List MemPlace} (v u : Value) (W : World) (hv : Value.okWide Try.prog W r b0 45 v) (k : DataW.Trod enc Try.prog W base spare held 45 v d1 p1) (hu : Value.okWide Try.prog W r b0 45 u) (k2 : DataW.Trod enc Try.prog W base spare held 45 u d2 p2) :
    Calls Try.prog 6 #[v, u] W fun e W' => e = .returned (.bool true) ∧ Below W.heap.size W W' := by
  obtain ⟨l, hr, hl, hq⟩ := ops_arg hv k
  obtain ⟨t, hr2, hl2, hq2⟩ := ops_arg hu k2
  exact acall_lawF (heapTells_ok l t (len_le hl) hq (len_le hl2) hq2) W [_, _] ⟨.pure _ _ hr, .pure _ _ hr2, trivial⟩
end Go.Proofs.Ytjacmhaeemhinaa
