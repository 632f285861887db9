/- Heaps, plainly: where a block is put, what the functions answer. -/
import Derived.Test.YtjacmhaeemhinaaHs1
namespace Go.Proofs.Ytjacmhaeemhinaa
open Go.RowKit
set_option linter.unusedVariables false
set_option linter.unusedSimpArgs false
set_option maxRecDepth 100000
set_option maxHeartbeats 4000000
/-- Blocks in order. -/
def Ch (N : Int) : Int → List Blk → Prop
  | e, [] => e ≤ N
  | e, x :: l => e ≤ x.at_ ∧ x.at_ % 8 = 0 ∧ 8 ≤ x.ln ∧ x.ln % 8 = 0 ∧ x.at_ + x.ln ≤ N ∧ Ch N (x.at_ + x.ln) l
theorem Ch.few {N : Int} : ∀ {l : List Blk} {e : Int}, Ch N e l → e + 8 * l.length ≤ N
  | [], e, h => by simpa [Ch] using h
  | x :: l, e, ⟨h1, _, h3, _, _, h6⟩ => by
    have := h6.few
    simp only [List.length_cons]
    omega
theorem Ch.mem {N : Int} : ∀ {l : List Blk} {e : Int}, Ch N e l → 0 ≤ e → ∀ x ∈ l, e ≤ x.at_ ∧ BOk N x
  | [], e, _, _, x, hx => by simp at hx
  | y :: l, e, ⟨h1, h2, h3, h4, h5, h6⟩, h0, x, hx => by
    rcases List.mem_cons.1 hx with rfl | hx
    · exact ⟨h1, by omega, h2, h3, h4, h5⟩
    · have := h6.mem (by omega) x hx
      exact ⟨by omega, this.2⟩
theorem Ch.le {N : Int} : ∀ {l : List Blk} {e f : Int}, Ch N e l → f ≤ e → Ch N f l
  | [], e, f, h, g => by simp only [Ch] at *; omega
  | y :: l, e, f, ⟨h1, h2⟩, g => ⟨by omega, h2⟩
theorem Ch.tail {N : Int} : ∀ {l : List Blk} {e : Int} (i : Nat) (h : i < l.length), Ch N e l → Ch N (l[i].at_ + l[i].ln) (l.drop (i + 1))
  | [], e, i, h, _ => absurd h (Nat.not_lt_zero _)
  | y :: l, e, 0, _, h => h.2.2.2.2.2
  | y :: l, e, i + 1, h, hc => by
    have := Ch.tail (l := l) i (by simpa using h) hc.2.2.2.2.2
    simpa using this
theorem Ch.ext {N : Int} : ∀ {l : List Blk} {e : Int}, Ch N e l → e ≤ N
  | [], e, h => h
  | y :: l, e, ⟨h1, h2, h3, h4, h5, h6⟩ => by omega
theorem Ch.erase {N : Int} : ∀ {l : List Blk} {e : Int} (i : Nat), Ch N e l → Ch N e (l.eraseIdx i)
  | [], e, i, h => by simpa using h
  | y :: l, e, 0, ⟨h1, h2, h3, h4, h5, h6⟩ => by
    simp only [List.eraseIdx_cons_zero]
    exact h6.le (by omega)
  | y :: l, e, i + 1, ⟨h1, h2, h3, h4, h5, h6⟩ => by
    simp only [List.eraseIdx_cons_succ]
    exact ⟨h1, h2, h3, h4, h5, h6.erase i⟩
/-- Where there is room, and which block it is then. -/
def gapA (n : Int) : Int → List Blk → Int
  | e, [] => e
  | e, x :: l => if x.at_ - e < n then gapA n (x.at_ + x.ln) l else e
def gapI (n : Int) : Int → List Blk → Nat
  | _, [] => 0
  | e, x :: l => if x.at_ - e < n then gapI n (x.at_ + x.ln) l + 1 else 0
theorem gapI_le (n : Int) : ∀ (l : List Blk) (e : Int), gapI n e l ≤ l.length
  | [], e => Nat.le_refl _
  | x :: l, e => by
    unfold gapI
    have := gapI_le n l (x.at_ + x.ln)
    split <;> simp only [List.length_cons] <;> omega
theorem gapA_bd {N : Int} (n : Int) : ∀ {l : List Blk} {e : Int}, Ch N e l → 0 ≤ e → e % 8 = 0 → e ≤ gapA n e l ∧ gapA n e l ≤ N ∧ gapA n e l % 8 = 0
  | [], e, h, _, h8 => by unfold gapA; exact ⟨Int.le_refl _, h, h8⟩
  | x :: l, e, ⟨h1, h2, h3, h4, h5, h6⟩, h0, h8 => by
    unfold gapA
    have := gapA_bd n h6 (by omega) (by omega)
    split
    · omega
    · omega
theorem gap_ch {N : Int} {n : Int} (hn : 8 ≤ n) (hn8 : n % 8 = 0) : ∀ {l : List Blk} {e : Int}, Ch N e l → e % 8 = 0 → gapA n e l + n ≤ N → Ch N e (l.take (gapI n e l) ++ ⟨gapA n e l, n⟩ :: l.drop (gapI n e l))
  | [], e, h, h8, hg => by
    unfold gapA at *
    simp only [gapI, List.take_nil, List.drop_nil, List.nil_append]
    exact ⟨Int.le_refl _, h8, hn, hn8, hg, hg⟩
  | x :: l, e, ⟨h1, h2, h3, h4, h5, h6⟩, h8, hg => by
    unfold gapA gapI
    unfold gapA at hg
    split
    · rename_i q
      rw [if_pos q] at hg
      simp only [List.take_succ_cons, List.drop_succ_cons, List.cons_append]
      exact ⟨h1, h2, h3, h4, h5, gap_ch hn hn8 h6 (by omega) hg⟩
    · rename_i q
      rw [if_neg q] at hg
      simp only [List.take_zero, List.drop_zero, List.nil_append]
      exact ⟨Int.le_refl _, h8, hn, hn8, hg, by show e + n ≤ x.at_; omega, h2, h3, h4, h5, h6⟩
theorem gapA_ge {N : Int} (n : Int) : ∀ {l : List Blk} {e : Int}, Ch N e l → e ≤ gapA n e l
  | [], e, _ => Int.le_refl _
  | x :: l, e, ⟨h1, h2, h3, h4, h5, h6⟩ => by
    unfold gapA
    have := gapA_ge n h6
    split <;> omega
theorem Ch.ge {N : Int} : ∀ {l : List Blk} {e : Int}, Ch N e l → ∀ x ∈ l, e ≤ x.at_
  | [], e, _, x, hx => by simp at hx
  | y :: l, e, ⟨h1, h2, h3, h4, h5, h6⟩, x, hx => by
    rcases List.mem_cons.1 hx with rfl | hx
    · exact h1
    · have := Ch.ge h6 x hx
      omega
/-- No block is over a place. -/
def clear_ (n a : Int) (x : Blk) : Prop := ¬ (x.at_ < a + n ∧ a < x.at_ + x.ln)
theorem gap_room {N : Int} {n : Int} (hn : 8 ≤ n) : ∀ {l : List Blk} {e : Int}, Ch N e l → ∀ x ∈ l, clear_ n (gapA n e l) x
  | [], e, _, x, hx => by simp at hx
  | y :: l, e, ⟨h1, h2, h3, h4, h5, h6⟩, x, hx => by
    unfold gapA clear_
    split
    · rename_i q
      rcases List.mem_cons.1 hx with rfl | hx
      · have := gapA_ge n h6
        omega
      · exact gap_room hn h6 x hx
    · rename_i q
      rcases List.mem_cons.1 hx with rfl | hx
      · omega
      · have := Ch.ge h6 x hx
        omega
/-- A heap that is one, of m pages. -/
structure Hp.Ok (h : Hp) (m : Nat) : Prop where
  m1 : 1 ≤ m
  m2 : m ≤ 64
  s : h.s.length = 64 * m
  d : h.d.length = m
  l : Ch (64 * m) 0 h.l
theorem Hp.Ok.lens {h : Hp} {m : Nat} (k : h.Ok m) : h.s.length ≤ 4096 ∧ h.l.length ≤ 512 ∧ h.d.length ≤ 64 := by
  have := k.m2
  have := k.s
  have := k.d
  have := k.l.few
  omega
theorem Hp.Ok.few {h : Hp} {m : Nat} (k : h.Ok m) : h.Few := by
  have := k.lens
  exact ⟨by omega, by omega, by omega⟩
theorem Hp.Ok.bok {h : Hp} {m : Nat} (k : h.Ok m) : ∀ x ∈ h.l, BOk 4096 x := fun x hx => by
  have := k.m2
  obtain ⟨h0, h1, h2, h3, h4, h5⟩ := k.l.mem (Int.le_refl _) x hx
  exact ⟨h1, h2, h3, h4, by omega⟩
/-- Bytes from a place on. -/
def putS (s : List UInt8) (a : Nat) (v : List UInt8) : List UInt8 := s.take a ++ (v ++ s.drop (a + v.length))
theorem putS_len {s : List UInt8} {a : Nat} {v : List UInt8} (h : a + v.length ≤ s.length) : (putS s a v).length = s.length := by
  unfold putS; simp; omega
def up8 (n : Int) : Int := (n + 8 - 1) / 8 * 8
def hAlloc (h : Hp) (n : Int) : Hp × Int × Int :=
  if n < 1 then (h, 0, 1) else if h.s.length < n then (h, 0, 5) else
  if gapA (up8 n) 0 h.l + up8 n ≤ h.s.length then (⟨h.s, h.l.take (gapI (up8 n) 0 h.l) ++ ⟨gapA (up8 n) 0 h.l, up8 n⟩ :: h.l.drop (gapI (up8 n) 0 h.l), h.d⟩, gapA (up8 n) 0 h.l, 0) else (h, 0, 5)
def hPut (h : Hp) (a : Int) (v : List UInt8) : Hp := ⟨putS h.s a.toNat v, h.l, markP h.d a v.length⟩
def atP (a : Int) (x : Blk) : Bool := decide (x.at_ = a)
def hFree (h : Hp) (a : Int) : Hp × Int :=
  if h.l.any (atP a) then (hPut ⟨h.s, h.l.eraseIdx (h.l.findIdx (atP a)), h.d⟩ a (List.replicate ((h.l[h.l.findIdx (atP a)]?.getD ⟨0, 0⟩).ln.toNat) 0), 0) else (h, 2)
def hStore (h : Hp) (a : Int) (v : List UInt8) : Hp × Int := if h.l.any (insB a v.length) then (hPut h a v, 0) else (h, 2)
def hLoad (h : Hp) (a n : Int) : List UInt8 × Int := if n < 0 then ([], 1) else if h.l.any (insB a n) then ((h.s.drop a.toNat).take n.toNat, 0) else ([], 2)
theorem insB_bd {h : Hp} {m : Nat} (k : h.Ok m) {a n : Int} (hi : h.l.any (insB a n) = true) : 0 ≤ a ∧ a + n ≤ 64 * m := by
  obtain ⟨x, hx, hb⟩ := List.any_eq_true.1 hi
  obtain ⟨h0, h1, h2, h3, h4, h5⟩ := k.l.mem (Int.le_refl _) x hx
  unfold insB at hb
  simp at hb
  omega
theorem hPut_ok {h : Hp} {m : Nat} (k : h.Ok m) {a : Int} {v : List UInt8} (h0 : 0 ≤ a) (h1 : a + v.length ≤ 64 * m) : (hPut h a v).Ok m :=
  ⟨k.m1, k.m2, by unfold hPut; rw [putS_len (by have := k.s; omega)]; exact k.s, by unfold hPut; rw [markP_len]; exact k.d, k.l⟩
theorem up8_bd {n : Int} (h : 1 ≤ n) : 8 ≤ up8 n ∧ up8 n % 8 = 0 ∧ n ≤ up8 n ∧ up8 n < n + 8 := by unfold up8; omega
theorem hAlloc_ok {h : Hp} {m : Nat} (k : h.Ok m) (n : Int) : (hAlloc h n).1.Ok m := by
  unfold hAlloc
  split
  · exact k
  split
  · exact k
  split
  · rename_i q1 q2 q3
    obtain ⟨u1, u2, u3, u4⟩ := up8_bd (n := n) (by omega)
    exact ⟨k.m1, k.m2, k.s, k.d, gap_ch u1 u2 k.l rfl (by have := k.s; omega)⟩
  · exact k
theorem atP_idx {l : List Blk} {a : Int} (h : l.any (atP a) = true) : ∃ hi : l.findIdx (atP a) < l.length, (l[l.findIdx (atP a)]).at_ = a ∧ l[l.findIdx (atP a)]?.getD ⟨0, 0⟩ = l[l.findIdx (atP a)] := by
  have hi : l.findIdx (atP a) < l.length := List.findIdx_lt_length.2 (List.any_eq_true.1 h)
  have := List.findIdx_getElem (w := hi)
  exact ⟨hi, of_decide_eq_true this, by rw [List.getElem?_eq_getElem hi]; rfl⟩
theorem hFree_ok {h : Hp} {m : Nat} (k : h.Ok m) (a : Int) : (hFree h a).1.Ok m := by
  unfold hFree
  split
  · rename_i q
    obtain ⟨hi, h1, h2⟩ := atP_idx q
    rw [h2]
    obtain ⟨g0, g1, g2, g3, g4, g5⟩ := k.l.mem (Int.le_refl _) _ (List.getElem_mem hi)
    have ke : Hp.Ok ⟨h.s, h.l.eraseIdx (h.l.findIdx (atP a)), h.d⟩ m := ⟨k.m1, k.m2, k.s, k.d, k.l.erase _⟩
    exact hPut_ok ke (by omega) (by rw [List.length_replicate]; omega)
  · exact k
theorem hStore_ok {h : Hp} {m : Nat} (k : h.Ok m) (a : Int) (v : List UInt8) : (hStore h a v).1.Ok m := by
  unfold hStore
  split
  · rename_i q
    have := insB_bd k q
    exact hPut_ok k this.1 this.2
  · exact k
theorem hnew_ok {n : Nat} (h1 : 1 ≤ n) (h2 : n ≤ 64) : (hnew n).Ok n := ⟨h1, h2, by simp [hnew], by simp [hnew], by simp [hnew, Ch]; omega⟩
end Go.Proofs.Ytjacmhaeemhinaa

namespace Go.Proofs.Ytjacmhaeemhinaa
open Go.RowKit
set_option linter.unusedVariables false
set_option linter.unusedSimpArgs false
set_option maxRecDepth 100000
set_option maxHeartbeats 4000000
theorem hAllocC_ok {h : Hp} {m : Nat} (k : h.Ok m) (n : Int) : ACall Try.prog 12 [hv true h, .int .i64 n] (.tup [hv false (hAlloc h n).1, .int .i64 (hAlloc h n).2.1, .int .i64 (hAlloc h n).2.2]) [] := by
  obtain ⟨l1, l2, l3⟩ := k.lens
  have cc := hCloneF_ok h k.few
  have co := hClone_ok h k.few
  have es := by8_len h.s
  have el := bk_len h.l
  have ed := bo_len h.d
  unfold hAlloc
  unfold hv at cc co ⊢
  by_cases q1 : n < 1
  · rw [if_pos q1]
    dsimp only
    refine acall_walk (N := 80) Try.func12 (by kernel_rfl) p_heap_Alloc rfl ?_; unfold c_heap_Alloc; dsimp only [enum, Nat.reduceAdd]
    (repeat (first | ((with_reducible show RG _ _ (_ :: _) _ _ _); refine RG.go1 (k := ?_)) | ((with_reducible show DG _ _ (_ :: _) _ _ _ _ _); refine DG.go1 (k := ?_)) | (with_reducible first | apply RG.nil | apply W.seq | apply W.reg | apply W.skip | apply W.block | apply W.drw | apply DG.nil | refine W.done (QB.n ?_)) | refine W.cndT ?_ | refine W.cndF ?_))
    (first | ((with_reducible show RG _ _ (_ :: _) _ _ _); refine RG.ca (cc) (k := ?_)) | ((with_reducible show DG _ _ (_ :: _) _ _ _ _ _); refine DG.ca (cc) (k := ?_)))
    (repeat (first | ((with_reducible show RG _ _ (_ :: _) _ _ _); refine RG.go1 (k := ?_)) | ((with_reducible show DG _ _ (_ :: _) _ _ _ _ _); refine DG.go1 (k := ?_)) | (with_reducible first | apply RG.nil | apply W.seq | apply W.reg | apply W.skip | apply W.block | apply W.drw | apply DG.nil | refine W.done (QB.n ?_)) | refine W.cndT ?_ | refine W.cndF ?_))
    (refine W.ret ?_; (repeat (with_reducible first | refine QB.r ?_ | refine QL.r ?_ | refine QC.r ?_)); refine QF.r ?_)
    exact RetOk.rs (vs := [_, _, _]) r_heap_Alloc []
  rw [if_neg q1]
  by_cases q2 : h.s.length < n
  · rw [if_pos q2]
    dsimp only
    refine acall_walk (N := 80) Try.func12 (by kernel_rfl) p_heap_Alloc rfl ?_; unfold c_heap_Alloc; dsimp only [enum, Nat.reduceAdd]
    (repeat (first | ((with_reducible show RG _ _ (_ :: _) _ _ _); refine RG.go1 (k := ?_)) | ((with_reducible show DG _ _ (_ :: _) _ _ _ _ _); refine DG.go1 (k := ?_)) | (with_reducible first | apply RG.nil | apply W.seq | apply W.reg | apply W.skip | apply W.block | apply W.drw | apply DG.nil | refine W.done (QB.n ?_)) | refine W.cndT ?_ | refine W.cndF ?_))
    (first | ((with_reducible show RG _ _ (_ :: _) _ _ _); refine RG.ca (cc) (k := ?_)) | ((with_reducible show DG _ _ (_ :: _) _ _ _ _ _); refine DG.ca (cc) (k := ?_)))
    (repeat (first | ((with_reducible show RG _ _ (_ :: _) _ _ _); refine RG.go1 (k := ?_)) | ((with_reducible show DG _ _ (_ :: _) _ _ _ _ _); refine DG.go1 (k := ?_)) | (with_reducible first | apply RG.nil | apply W.seq | apply W.reg | apply W.skip | apply W.block | apply W.drw | apply DG.nil | refine W.done (QB.n ?_)) | refine W.cndT ?_ | refine W.cndF ?_))
    (refine W.ret ?_; (repeat (with_reducible first | refine QB.r ?_ | refine QL.r ?_ | refine QC.r ?_)); refine QF.r ?_)
    exact RetOk.rs (vs := [_, _, _]) r_heap_Alloc []
  rw [if_neg q2]
  obtain ⟨u, hu⟩ : ∃ u, up8 n = u := ⟨_, rfl⟩
  have hu2 : (n + 8 - 1) / 8 * 8 = u := hu
  obtain ⟨u1, u2, u3, u4⟩ := up8_bd (n := n) (by omega)
  rw [hu] at u1 u2 u3 u4 ⊢
  have gb := gapA_bd u k.l (Int.le_refl _) rfl
  have gi := gapI_le u h.l 0
  obtain ⟨g, hg⟩ : ∃ g, gapA u 0 h.l = g := ⟨_, rfl⟩
  obtain ⟨i0, hi⟩ : ∃ i, gapI u 0 h.l = i := ⟨_, rfl⟩
  rw [hg, hi]
  rw [hg] at gb
  rw [hi] at gi
  have hm := k.l.mem (Int.le_refl _)
  have km := k.m2
  have hsm := k.s
  clear u2 hu
  have ci := bkIns_ok h.l (by omega) i0 gi ⟨g, u⟩
  dsimp only at ci
  obtain ⟨lr, hlr⟩ : ∃ r, h.l.take i0 ++ ⟨g, u⟩ :: h.l.drop i0 = r := ⟨_, rfl⟩
  have elr2 : lr.length = h.l.length + 1 := by rw [← hlr]; simp; omega
  have elr : (lr.map bk).length = h.l.length + 1 := by rw [← hlr]; simp; omega
  rw [hlr] at ci ⊢
  refine acall_walk (N := 80) Try.func12 (by kernel_rfl) p_heap_Alloc rfl ?_; unfold c_heap_Alloc; dsimp only [enum, Nat.reduceAdd]
  (repeat (first | ((with_reducible show RG _ _ (_ :: _) _ _ _); refine RG.go1 (k := ?_)) | ((with_reducible show DG _ _ (_ :: _) _ _ _ _ _); refine DG.go1 (k := ?_)) | (with_reducible first | apply RG.nil | apply W.seq | apply W.reg | apply W.skip | apply W.block | apply W.drw | apply DG.nil | refine W.done (QB.n ?_)) | refine W.cndT ?_ | refine W.cndF ?_))
  rw [hu2]
  (repeat (first | ((with_reducible show RG _ _ (_ :: _) _ _ _); refine RG.go1 (k := ?_)) | ((with_reducible show DG _ _ (_ :: _) _ _ _ _ _); refine DG.go1 (k := ?_)) | (with_reducible first | apply RG.nil | apply W.seq | apply W.reg | apply W.skip | apply W.block | apply W.drw | apply DG.nil | refine W.done (QB.n ?_)) | refine W.cndT ?_ | refine W.cndF ?_))
  refine W.loop (ι := {p : Int × Nat // gapA u p.1 (h.l.drop p.2) = g ∧ p.2 + gapI u p.1 (h.l.drop p.2) = i0 ∧ 0 ≤ p.1 ∧ p.1 ≤ 4096 ∧ p.2 ≤ h.l.length}) (fun p => ⟨[(8, .int .i64 p.1.2), (7, .int .i64 p.1.1), (1, .int .i64 u), (6, .int .i64 0), (5, .int .i64 0), (4, .bptr 1 0), (2, .bptr 0 0)], [some [.sl true 1 (h.s.map by8), .sl true 2 (h.l.map bk), .sl true 1 (h.d.map bo)], some [.nil, .nil, .nil]], [], 2, 0⟩) (fun p => h.l.length - p.1.2) ⟨(0, 0), hg, by simpa using hi, by omega, by omega, by omega⟩ ?_ ?_
  · exact Wk.rn ([0, 1] ) ( [])
  rintro ⟨⟨e, i⟩, r1, r2, r3, r4, r5⟩
  dsimp only at r1 r2 r3 r4 r5 ⊢
  by_cases hlt : i < h.l.length
  · have hE := bk_at h.l i hlt (j := ((i : Nat) : Int).toNat) (by simp)
    obtain ⟨m0, m1, m2, m3, m4, m5⟩ := hm _ (List.getElem_mem hlt)
    rw [List.drop_eq_getElem_cons hlt] at r1 r2
    unfold gapA at r1
    unfold gapI at r2
    obtain ⟨xa, hxa⟩ : ∃ a, h.l[i].at_ = a := ⟨_, rfl⟩
    obtain ⟨xn, hxn⟩ : ∃ a, h.l[i].ln = a := ⟨_, rfl⟩
    rw [hxa] at r1 r2 hE m0 m1 m2 m5
    rw [hxn] at r1 r2 hE m3 m4 m5
    clear m2 m4 hxa hxn
    by_cases hq : xa - e < u
    · rw [if_pos hq] at r1 r2
      (repeat (first | ((with_reducible show RG _ _ (_ :: _) _ _ _); refine RG.go1 (k := ?_)) | ((with_reducible show DG _ _ (_ :: _) _ _ _ _ _); refine DG.go1 (k := ?_)) | (with_reducible first | apply RG.nil | apply W.seq | apply W.reg | apply W.skip | apply W.block | apply W.drw | apply DG.nil | refine W.done (QB.n ?_))))
      (first | ((with_reducible show RG _ _ (_ :: _) _ _ _); refine RG.ewg (cptr_of (hE) (by (conv => lhs; whnf) <;> exact rfl)) (k := ?_)) | ((with_reducible show DG _ _ (_ :: _) _ _ _ _ _); refine DG.ewg (cptr_of (hE) (by (conv => lhs; whnf) <;> exact rfl)) (k := ?_)))
      (repeat (first | ((with_reducible show RG _ _ (_ :: _) _ _ _); refine RG.go1 (k := ?_)) | ((with_reducible show DG _ _ (_ :: _) _ _ _ _ _); refine DG.go1 (k := ?_)) | (with_reducible first | apply RG.nil | apply W.seq | apply W.reg | apply W.skip | apply W.block | apply W.drw | apply DG.nil | refine W.done (QB.n ?_)) | refine W.cndT ?_ | refine W.cndF ?_))
      (first | ((with_reducible show RG _ _ (_ :: _) _ _ _); refine RG.ew (cptr_of (hE) (by (conv => lhs; whnf) <;> exact rfl)) (k := ?_)) | ((with_reducible show DG _ _ (_ :: _) _ _ _ _ _); refine DG.ew (cptr_of (hE) (by (conv => lhs; whnf) <;> exact rfl)) (k := ?_)))
      (repeat (first | ((with_reducible show RG _ _ (_ :: _) _ _ _); refine RG.go1 (k := ?_)) | ((with_reducible show DG _ _ (_ :: _) _ _ _ _ _); refine DG.go1 (k := ?_)) | (with_reducible first | apply RG.nil | apply W.seq | apply W.reg | apply W.skip | apply W.block | apply W.drw | apply DG.nil | refine W.done (QB.n ?_))))
      (first | ((with_reducible show RG _ _ (_ :: _) _ _ _); refine RG.ew (cptr_of (hE) (by (conv => lhs; whnf) <;> exact rfl)) (k := ?_)) | ((with_reducible show DG _ _ (_ :: _) _ _ _ _ _); refine DG.ew (cptr_of (hE) (by (conv => lhs; whnf) <;> exact rfl)) (k := ?_)))
      (repeat (first | ((with_reducible show RG _ _ (_ :: _) _ _ _); refine RG.go1 (k := ?_)) | ((with_reducible show DG _ _ (_ :: _) _ _ _ _ _); refine DG.go1 (k := ?_)) | (with_reducible first | apply RG.nil | apply W.seq | apply W.reg | apply W.skip | apply W.block | apply W.drw | apply DG.nil | refine W.done (QB.n ?_))))
      refine W.done (QL.n (⟨(xa + xn, i + 1), r1, by show i + 1 + gapI u (xa + xn) (h.l.drop (i + 1)) = i0; omega, by show 0 ≤ xa + xn; omega, by show xa + xn ≤ 4096; omega, by show i + 1 ≤ h.l.length; omega⟩) ?_ ?_)
      · exact Wk.rn ([0, 1] ) ( [])
      · dsimp only; omega
    · rw [if_neg hq] at r1 r2
      obtain rfl : g = e := r1.symm
      obtain rfl : i0 = i := by omega
      (repeat (first | ((with_reducible show RG _ _ (_ :: _) _ _ _); refine RG.go1 (k := ?_)) | ((with_reducible show DG _ _ (_ :: _) _ _ _ _ _); refine DG.go1 (k := ?_)) | (with_reducible first | apply RG.nil | apply W.seq | apply W.reg | apply W.skip | apply W.block | apply W.drw | apply DG.nil | refine W.done (QB.n ?_))))
      (first | ((with_reducible show RG _ _ (_ :: _) _ _ _); refine RG.ewg (cptr_of (hE) (by (conv => lhs; whnf) <;> exact rfl)) (k := ?_)) | ((with_reducible show DG _ _ (_ :: _) _ _ _ _ _); refine DG.ewg (cptr_of (hE) (by (conv => lhs; whnf) <;> exact rfl)) (k := ?_)))
      (repeat (first | ((with_reducible show RG _ _ (_ :: _) _ _ _); refine RG.go1 (k := ?_)) | ((with_reducible show DG _ _ (_ :: _) _ _ _ _ _); refine DG.go1 (k := ?_)) | (with_reducible first | apply RG.nil | apply W.seq | apply W.reg | apply W.skip | apply W.block | apply W.drw | apply DG.nil | refine W.done (QB.n ?_)) | refine W.cndT ?_ | refine W.cndF ?_))
      (refine W.exit ?_; (repeat (first | (with_reducible first | refine QL.x ?_ | refine QC.x ?_ | refine QB.x ?_) | (with_reducible refine QB.o (by decide) ?_))))
      by_cases q3 : g + u ≤ h.s.length
      · rw [if_pos q3]
        dsimp only
        (repeat (first | ((with_reducible show RG _ _ (_ :: _) _ _ _); refine RG.go1 (k := ?_)) | ((with_reducible show DG _ _ (_ :: _) _ _ _ _ _); refine DG.go1 (k := ?_)) | (with_reducible first | apply RG.nil | apply W.seq | apply W.reg | apply W.skip | apply W.block | apply W.drw | apply DG.nil | refine W.done (QB.n ?_)) | refine W.cndT ?_ | refine W.cndF ?_))
        (first | ((with_reducible show RG _ _ (_ :: _) _ _ _); refine RG.ca (co) (k := ?_)) | ((with_reducible show DG _ _ (_ :: _) _ _ _ _ _); refine DG.ca (co) (k := ?_)))
        (repeat (first | ((with_reducible show RG _ _ (_ :: _) _ _ _); refine RG.go1 (k := ?_)) | ((with_reducible show DG _ _ (_ :: _) _ _ _ _ _); refine DG.go1 (k := ?_)) | (with_reducible first | apply RG.nil | apply W.seq | apply W.reg | apply W.skip | apply W.block | apply W.drw | apply DG.nil | refine W.done (QB.n ?_)) | refine W.cndT ?_ | refine W.cndF ?_))
        (refine RG.mca ([]) ([1]) (ci) (k := ?_))
        (repeat (first | ((with_reducible show RG _ _ (_ :: _) _ _ _); refine RG.go1 (k := ?_)) | ((with_reducible show DG _ _ (_ :: _) _ _ _ _ _); refine DG.go1 (k := ?_)) | (with_reducible first | apply RG.nil | apply W.seq | apply W.reg | apply W.skip | apply W.block | apply W.drw | apply DG.nil | refine W.done (QB.n ?_)) | refine W.cndT ?_ | refine W.cndF ?_))
        (refine W.ret ?_; (repeat (with_reducible first | refine QB.r ?_ | refine QL.r ?_ | refine QC.r ?_)); refine QF.r ?_)
        (refine RetOk.wk (Wk.frz (b := 0) rfl rfl) ?_; dsimp only [setO])
        (refine RetOk.wk (Wk.frz (b := 2) rfl rfl) ?_; dsimp only [setO])
        (refine RetOk.wk (Wk.frz (b := 4) rfl rfl) ?_; refine RetOk.wk (Wk.box (b := 1) (cs' := [_, _, _]) rfl (by dsimp only [ClL]; (repeat' (first | exact True.intro | exact Cl.ice rfl rfl rfl (by first | assumption | decide | omega | (simp; (first | (all_goals fail) | fail)) | (simp <;> omega)) (by first | exact take_all _ | exact take_len (by first | (simp; (first | (all_goals fail) | fail)) | (simp <;> omega)) | exact rfl) | exact Cl.le (.refl _) | apply And.intro)); (first | (all_goals fail) | fail))) ?_; dsimp only [setO])
        exact RetOk.rs (vs := [_, _, _]) r_heap_Alloc []
      · rw [if_neg q3]
        dsimp only
        (repeat (first | ((with_reducible show RG _ _ (_ :: _) _ _ _); refine RG.go1 (k := ?_)) | ((with_reducible show DG _ _ (_ :: _) _ _ _ _ _); refine DG.go1 (k := ?_)) | (with_reducible first | apply RG.nil | apply W.seq | apply W.reg | apply W.skip | apply W.block | apply W.drw | apply DG.nil | refine W.done (QB.n ?_)) | refine W.cndT ?_ | refine W.cndF ?_))
        (first | ((with_reducible show RG _ _ (_ :: _) _ _ _); refine RG.ca (cc) (k := ?_)) | ((with_reducible show DG _ _ (_ :: _) _ _ _ _ _); refine DG.ca (cc) (k := ?_)))
        (repeat (first | ((with_reducible show RG _ _ (_ :: _) _ _ _); refine RG.go1 (k := ?_)) | ((with_reducible show DG _ _ (_ :: _) _ _ _ _ _); refine DG.go1 (k := ?_)) | (with_reducible first | apply RG.nil | apply W.seq | apply W.reg | apply W.skip | apply W.block | apply W.drw | apply DG.nil | refine W.done (QB.n ?_)) | refine W.cndT ?_ | refine W.cndF ?_))
        (refine W.ret ?_; (repeat (with_reducible first | refine QB.r ?_ | refine QL.r ?_ | refine QC.r ?_)); refine QF.r ?_)
        exact RetOk.rs (vs := [_, _, _]) r_heap_Alloc []
  · obtain rfl : i = h.l.length := by omega
    rw [List.drop_length] at r1 r2
    obtain rfl : g = e := r1.symm
    obtain rfl : h.l.length = i0 := r2
    (repeat (first | ((with_reducible show RG _ _ (_ :: _) _ _ _); refine RG.go1 (k := ?_)) | ((with_reducible show DG _ _ (_ :: _) _ _ _ _ _); refine DG.go1 (k := ?_)) | (with_reducible first | apply RG.nil | apply W.seq | apply W.reg | apply W.skip | apply W.block | apply W.drw | apply DG.nil | refine W.done (QB.n ?_)) | refine W.cndT ?_ | refine W.cndF ?_))
    (refine W.exit ?_; (repeat (first | (with_reducible first | refine QL.x ?_ | refine QC.x ?_ | refine QB.x ?_) | (with_reducible refine QB.o (by decide) ?_))))
    by_cases q3 : g + u ≤ h.s.length
    · rw [if_pos q3]
      dsimp only
      (repeat (first | ((with_reducible show RG _ _ (_ :: _) _ _ _); refine RG.go1 (k := ?_)) | ((with_reducible show DG _ _ (_ :: _) _ _ _ _ _); refine DG.go1 (k := ?_)) | (with_reducible first | apply RG.nil | apply W.seq | apply W.reg | apply W.skip | apply W.block | apply W.drw | apply DG.nil | refine W.done (QB.n ?_)) | refine W.cndT ?_ | refine W.cndF ?_))
      (first | ((with_reducible show RG _ _ (_ :: _) _ _ _); refine RG.ca (co) (k := ?_)) | ((with_reducible show DG _ _ (_ :: _) _ _ _ _ _); refine DG.ca (co) (k := ?_)))
      (repeat (first | ((with_reducible show RG _ _ (_ :: _) _ _ _); refine RG.go1 (k := ?_)) | ((with_reducible show DG _ _ (_ :: _) _ _ _ _ _); refine DG.go1 (k := ?_)) | (with_reducible first | apply RG.nil | apply W.seq | apply W.reg | apply W.skip | apply W.block | apply W.drw | apply DG.nil | refine W.done (QB.n ?_)) | refine W.cndT ?_ | refine W.cndF ?_))
      (refine RG.mca ([]) ([1]) (ci) (k := ?_))
      (repeat (first | ((with_reducible show RG _ _ (_ :: _) _ _ _); refine RG.go1 (k := ?_)) | ((with_reducible show DG _ _ (_ :: _) _ _ _ _ _); refine DG.go1 (k := ?_)) | (with_reducible first | apply RG.nil | apply W.seq | apply W.reg | apply W.skip | apply W.block | apply W.drw | apply DG.nil | refine W.done (QB.n ?_)) | refine W.cndT ?_ | refine W.cndF ?_))
      (refine W.ret ?_; (repeat (with_reducible first | refine QB.r ?_ | refine QL.r ?_ | refine QC.r ?_)); refine QF.r ?_)
      (refine RetOk.wk (Wk.frz (b := 0) rfl rfl) ?_; dsimp only [setO])
      (refine RetOk.wk (Wk.frz (b := 2) rfl rfl) ?_; dsimp only [setO])
      (refine RetOk.wk (Wk.frz (b := 4) rfl rfl) ?_; refine RetOk.wk (Wk.box (b := 1) (cs' := [_, _, _]) rfl (by dsimp only [ClL]; (repeat' (first | exact True.intro | exact Cl.ice rfl rfl rfl (by first | assumption | decide | omega | (simp; (first | (all_goals fail) | fail)) | (simp <;> omega)) (by first | exact take_all _ | exact take_len (by first | (simp; (first | (all_goals fail) | fail)) | (simp <;> omega)) | exact rfl) | exact Cl.le (.refl _) | apply And.intro)); (first | (all_goals fail) | fail))) ?_; dsimp only [setO])
      exact RetOk.rs (vs := [_, _, _]) r_heap_Alloc []
    · rw [if_neg q3]
      dsimp only
      (repeat (first | ((with_reducible show RG _ _ (_ :: _) _ _ _); refine RG.go1 (k := ?_)) | ((with_reducible show DG _ _ (_ :: _) _ _ _ _ _); refine DG.go1 (k := ?_)) | (with_reducible first | apply RG.nil | apply W.seq | apply W.reg | apply W.skip | apply W.block | apply W.drw | apply DG.nil | refine W.done (QB.n ?_)) | refine W.cndT ?_ | refine W.cndF ?_))
      (first | ((with_reducible show RG _ _ (_ :: _) _ _ _); refine RG.ca (cc) (k := ?_)) | ((with_reducible show DG _ _ (_ :: _) _ _ _ _ _); refine DG.ca (cc) (k := ?_)))
      (repeat (first | ((with_reducible show RG _ _ (_ :: _) _ _ _); refine RG.go1 (k := ?_)) | ((with_reducible show DG _ _ (_ :: _) _ _ _ _ _); refine DG.go1 (k := ?_)) | (with_reducible first | apply RG.nil | apply W.seq | apply W.reg | apply W.skip | apply W.block | apply W.drw | apply DG.nil | refine W.done (QB.n ?_)) | refine W.cndT ?_ | refine W.cndF ?_))
      (refine W.ret ?_; (repeat (with_reducible first | refine QB.r ?_ | refine QL.r ?_ | refine QC.r ?_)); refine QF.r ?_)
      exact RetOk.rs (vs := [_, _, _]) r_heap_Alloc []
theorem hInsideC_ok {h : Hp} {m : Nat} (k : h.Ok m) (a n : Int) (ha : 0 ≤ a ∧ a ≤ 9223372036854775807) : ACall Try.prog 26 [hv true h, .int .i64 a, .int .i64 n] (.bool (h.l.any (insB a n))) [] := hInside_ok h k.few (by decide) k.bok a n ha
theorem insB_neg {h : Hp} {m : Nat} (k : h.Ok m) {a n : Int} (ha : a < 0) : h.l.any (insB a n) = false := by
  rw [List.any_eq_false]
  intro x hx
  have := k.bok x hx
  unfold insB
  have : ¬ x.at_ ≤ a := by have := this.1; omega
  rw [decide_eq_false this]; simp
theorem putS_by8 (s v : List UInt8) (a : Nat) : (putS s a v).map by8 = (s.map by8).take a ++ ((v.map by8) ++ (s.map by8).drop (a + v.length)) := by
  unfold putS; simp
theorem hStoreC_ok {h : Hp} {m : Nat} (k : h.Ok m) (a : Int) (ha : a ≤ 9223372036854775807) (v : List UInt8) (hv1 : v.length ≤ 100000) : ACall Try.prog 13 [hv true h, .int .i64 a, .sl true 1 (v.map by8)] (.tup [hv false (hStore h a v).1, .int .i64 (hStore h a v).2]) [] := by
  obtain ⟨l1, l2, l3⟩ := k.lens
  have cc := hCloneF_ok h k.few
  have co := hClone_ok h k.few
  have es := by8_len h.s
  have ev := by8_len v
  have el := bk_len h.l
  have ed := bo_len h.d
  unfold hStore
  by_cases q1 : a < 0
  · rw [insB_neg k q1]
    unfold hv at cc ⊢
    rw [if_neg (by decide)]
    dsimp only
    refine acall_walk (N := 35) Try.func13 (by kernel_rfl) p_heap_Store rfl ?_; unfold c_heap_Store; dsimp only [enum, Nat.reduceAdd]
    (repeat (first | ((with_reducible show RG _ _ (_ :: _) _ _ _); refine RG.go1 (k := ?_)) | ((with_reducible show DG _ _ (_ :: _) _ _ _ _ _); refine DG.go1 (k := ?_)) | (with_reducible first | apply RG.nil | apply W.seq | apply W.reg | apply W.skip | apply W.block | apply W.drw | apply DG.nil | refine W.done (QB.n ?_)) | refine W.cndT ?_ | refine W.cndF ?_))
    (first | ((with_reducible show RG _ _ (_ :: _) _ _ _); refine RG.ca (cc) (k := ?_)) | ((with_reducible show DG _ _ (_ :: _) _ _ _ _ _); refine DG.ca (cc) (k := ?_)))
    (repeat (first | ((with_reducible show RG _ _ (_ :: _) _ _ _); refine RG.go1 (k := ?_)) | ((with_reducible show DG _ _ (_ :: _) _ _ _ _ _); refine DG.go1 (k := ?_)) | (with_reducible first | apply RG.nil | apply W.seq | apply W.reg | apply W.skip | apply W.block | apply W.drw | apply DG.nil | refine W.done (QB.n ?_)) | refine W.cndT ?_ | refine W.cndF ?_))
    (refine W.ret ?_; (repeat (with_reducible first | refine QB.r ?_ | refine QL.r ?_ | refine QC.r ?_)); refine QF.r ?_)
    exact RetOk.rs (vs := [_, _]) r_heap_Store []
  have ci := hInsideC_ok k a v.length ⟨by omega, ha⟩
  have hb := @insB_bd h m k a v.length
  cases hq : h.l.any (insB a v.length)
  · rw [hq] at ci
    unfold hv at cc ci ⊢
    rw [if_neg (by decide)]
    dsimp only
    refine acall_walk (N := 35) Try.func13 (by kernel_rfl) p_heap_Store rfl ?_; unfold c_heap_Store; dsimp only [enum, Nat.reduceAdd]
    (repeat (first | ((with_reducible show RG _ _ (_ :: _) _ _ _); refine RG.go1 (k := ?_)) | ((with_reducible show DG _ _ (_ :: _) _ _ _ _ _); refine DG.go1 (k := ?_)) | (with_reducible first | apply RG.nil | apply W.seq | apply W.reg | apply W.skip | apply W.block | apply W.drw | apply DG.nil | refine W.done (QB.n ?_)) | refine W.cndT ?_ | refine W.cndF ?_))
    rw [ev]
    (first | ((with_reducible show RG _ _ (_ :: _) _ _ _); refine RG.gca (fun _ => ci) (k := ?_)) | ((with_reducible show DG _ _ (_ :: _) _ _ _ _ _); refine DG.gca (fun _ => ci) (k := ?_)))
    (repeat (first | ((with_reducible show RG _ _ (_ :: _) _ _ _); refine RG.go1 (k := ?_)) | ((with_reducible show DG _ _ (_ :: _) _ _ _ _ _); refine DG.go1 (k := ?_)) | (with_reducible first | apply RG.nil | apply W.seq | apply W.reg | apply W.skip | apply W.block | apply W.drw | apply DG.nil | refine W.done (QB.n ?_)) | refine W.cndT ?_ | refine W.cndF ?_))
    (first | ((with_reducible show RG _ _ (_ :: _) _ _ _); refine RG.ca (cc) (k := ?_)) | ((with_reducible show DG _ _ (_ :: _) _ _ _ _ _); refine DG.ca (cc) (k := ?_)))
    (repeat (first | ((with_reducible show RG _ _ (_ :: _) _ _ _); refine RG.go1 (k := ?_)) | ((with_reducible show DG _ _ (_ :: _) _ _ _ _ _); refine DG.go1 (k := ?_)) | (with_reducible first | apply RG.nil | apply W.seq | apply W.reg | apply W.skip | apply W.block | apply W.drw | apply DG.nil | refine W.done (QB.n ?_)) | refine W.cndT ?_ | refine W.cndF ?_))
    (refine W.ret ?_; (repeat (with_reducible first | refine QB.r ?_ | refine QL.r ?_ | refine QC.r ?_)); refine QF.r ?_)
    exact RetOk.rs (vs := [_, _]) r_heap_Store []
  · rw [hq] at ci
    obtain ⟨b1, b2⟩ := hb hq
    have km := k.m2
    have hsm := k.s
    have hdm := k.d
    obtain ⟨b, rfl⟩ : ∃ b : Nat, a = b := ⟨a.toNat, by omega⟩
    have cm := hMark_ok (putS h.s b v) h.l h.d (by omega) b v.length ⟨by omega, by omega⟩ ⟨by omega, by omega⟩
    have hcp : (h.s.map by8).take b ++ ((v.map by8).take (h.s.length - b) ++ (h.s.map by8).drop (b + v.length)) = (putS h.s b v).map by8 := by rw [putS_by8, List.take_of_length_le (l := v.map by8) (by rw [ev]; omega)]
    have hpl := @putS_len h.s b v (by omega)
    unfold hv hPut at *
    rw [if_pos rfl]
    dsimp only
    rw [show ((b : Nat) : Int).toNat = b by omega]
    have hml := markP_len h.d b v.length
    obtain ⟨s2, hs2⟩ : ∃ s2, putS h.s b v = s2 := ⟨_, rfl⟩
    obtain ⟨d2, hd2⟩ : ∃ d2, markP h.d b v.length = d2 := ⟨_, rfl⟩
    rw [hs2] at cm hcp hpl ⊢
    rw [hd2] at cm hml ⊢
    clear hb hq hs2 hd2
    refine acall_walk (N := 35) Try.func13 (by kernel_rfl) p_heap_Store rfl ?_; unfold c_heap_Store; dsimp only [enum, Nat.reduceAdd]
    (repeat (first | ((with_reducible show RG _ _ (_ :: _) _ _ _); refine RG.go1 (k := ?_)) | ((with_reducible show DG _ _ (_ :: _) _ _ _ _ _); refine DG.go1 (k := ?_)) | (with_reducible first | apply RG.nil | apply W.seq | apply W.reg | apply W.skip | apply W.block | apply W.drw | apply DG.nil | refine W.done (QB.n ?_)) | refine W.cndT ?_ | refine W.cndF ?_))
    rw [ev]
    (first | ((with_reducible show RG _ _ (_ :: _) _ _ _); refine RG.gca (fun _ => ci) (k := ?_)) | ((with_reducible show DG _ _ (_ :: _) _ _ _ _ _); refine DG.gca (fun _ => ci) (k := ?_)))
    (repeat (first | ((with_reducible show RG _ _ (_ :: _) _ _ _); refine RG.go1 (k := ?_)) | ((with_reducible show DG _ _ (_ :: _) _ _ _ _ _); refine DG.go1 (k := ?_)) | (with_reducible first | apply RG.nil | apply W.seq | apply W.reg | apply W.skip | apply W.block | apply W.drw | apply DG.nil | refine W.done (QB.n ?_)) | refine W.cndT ?_ | refine W.cndF ?_))
    (first | ((with_reducible show RG _ _ (_ :: _) _ _ _); refine RG.ca (co) (k := ?_)) | ((with_reducible show DG _ _ (_ :: _) _ _ _ _ _); refine DG.ca (co) (k := ?_)))
    (repeat (first | ((with_reducible show RG _ _ (_ :: _) _ _ _); refine RG.go1 (k := ?_)) | ((with_reducible show DG _ _ (_ :: _) _ _ _ _ _); refine DG.go1 (k := ?_)) | (with_reducible first | apply RG.nil | apply W.seq | apply W.reg | apply W.skip | apply W.block | apply W.drw | apply DG.nil | refine W.done (QB.n ?_)) | refine W.cndT ?_ | refine W.cndF ?_))
    (first | ((with_reducible show RG _ _ (_ :: _) _ _ _); refine RG.ew ((show AV.ref 0 1 (0 + (b : Int).toNat) ((h.s.length : Int) - (b : Int)).toNat = AV.ref 0 1 b (h.s.length - b) by congr 1 <;> omega)) (k := ?_)) | ((with_reducible show DG _ _ (_ :: _) _ _ _ _ _); refine DG.ew ((show AV.ref 0 1 (0 + (b : Int).toNat) ((h.s.length : Int) - (b : Int)).toNat = AV.ref 0 1 b (h.s.length - b) by congr 1 <;> omega)) (k := ?_)))
    (repeat (first | ((with_reducible show RG _ _ (_ :: _) _ _ _); refine RG.go1 (k := ?_)) | ((with_reducible show DG _ _ (_ :: _) _ _ _ _ _); refine DG.go1 (k := ?_)) | (with_reducible first | apply RG.nil | apply W.seq | apply W.reg | apply W.skip | apply W.block | apply W.drw | apply DG.nil | refine W.done (QB.n ?_))))
    refine RG.sm (A.cpy (m := v.length) hcp) (k := ?_)
    (repeat (first | ((with_reducible show RG _ _ (_ :: _) _ _ _); refine RG.go1 (k := ?_)) | ((with_reducible show DG _ _ (_ :: _) _ _ _ _ _); refine DG.go1 (k := ?_)) | (with_reducible first | apply RG.nil | apply W.seq | apply W.reg | apply W.skip | apply W.block | apply W.drw | apply DG.nil | refine W.done (QB.n ?_))))
    rw [ev]
    (refine RG.mca ([]) ([2]) (cm) (k := ?_))
    (repeat (first | ((with_reducible show RG _ _ (_ :: _) _ _ _); refine RG.go1 (k := ?_)) | ((with_reducible show DG _ _ (_ :: _) _ _ _ _ _); refine DG.go1 (k := ?_)) | (with_reducible first | apply RG.nil | apply W.seq | apply W.reg | apply W.skip | apply W.block | apply W.drw | apply DG.nil | refine W.done (QB.n ?_))))
    (refine W.ret ?_; (repeat (with_reducible first | refine QB.r ?_ | refine QL.r ?_ | refine QC.r ?_)); refine QF.r ?_)
    (refine RetOk.wk (Wk.frz (b := 0) rfl rfl) ?_; dsimp only [setO])
    (refine RetOk.wk (Wk.frz (b := 1) rfl rfl) ?_; dsimp only [setO])
    (refine RetOk.wk (Wk.frz (b := 2) rfl rfl) ?_; refine RetOk.wk (Wk.box (b := 1) (cs' := [_, _, _]) rfl (by dsimp only [ClL]; (repeat' (first | exact True.intro | exact Cl.ice rfl rfl rfl (by first | assumption | decide | omega | (simp; (first | (all_goals fail) | fail)) | (simp <;> omega)) (by first | exact take_all _ | exact take_len (by first | (simp; (first | (all_goals fail) | fail)) | (simp <;> omega)) | exact rfl) | exact Cl.le (.refl _) | apply And.intro)); (first | (all_goals fail) | fail))) ?_; dsimp only [setO])
    exact RetOk.rs (vs := [_, _]) r_heap_Store []
theorem hLoadC_ok {h : Hp} {m : Nat} (k : h.Ok m) (a n : Int) (ha : a ≤ 9223372036854775807) : ACall Try.prog 15 [hv true h, .int .i64 a, .int .i64 n] (.tup [.ref 0 1 0 (hLoad h a n).1.length, .int .i64 (hLoad h a n).2]) [⟨false, 1, (hLoad h a n).1.map by8⟩] := by
  obtain ⟨l1, l2, l3⟩ := k.lens
  have es := by8_len h.s
  unfold hLoad
  by_cases q0 : n < 0
  · rw [if_pos q0]
    unfold hv
    dsimp only [List.length_nil, List.map_nil]
    refine acall_walk (N := 29) Try.func15 (by kernel_rfl) p_heap_Load rfl ?_; unfold c_heap_Load; dsimp only [enum, Nat.reduceAdd]
    (repeat (first | ((with_reducible show RG _ _ (_ :: _) _ _ _); refine RG.go1 (k := ?_)) | ((with_reducible show DG _ _ (_ :: _) _ _ _ _ _); refine DG.go1 (k := ?_)) | (with_reducible first | apply RG.nil | apply W.seq | apply W.reg | apply W.skip | apply W.block | apply W.drw | apply DG.nil | refine W.done (QB.n ?_)) | refine W.cndT ?_ | refine W.cndF ?_))
    (refine W.ret ?_; (repeat (with_reducible first | refine QB.r ?_ | refine QL.r ?_ | refine QC.r ?_)); refine QF.r ?_)
    refine RetOk.wk (Wk.nilT (t := 6) 1 rfl) ?_
    exact RetOk.rs (vs := [_, _]) r_heap_Load [0]
  rw [if_neg q0]
  by_cases q1 : a < 0
  · rw [insB_neg k q1, if_neg (by decide)]
    unfold hv
    dsimp only [List.length_nil, List.map_nil]
    refine acall_walk (N := 29) Try.func15 (by kernel_rfl) p_heap_Load rfl ?_; unfold c_heap_Load; dsimp only [enum, Nat.reduceAdd]
    (repeat (first | ((with_reducible show RG _ _ (_ :: _) _ _ _); refine RG.go1 (k := ?_)) | ((with_reducible show DG _ _ (_ :: _) _ _ _ _ _); refine DG.go1 (k := ?_)) | (with_reducible first | apply RG.nil | apply W.seq | apply W.reg | apply W.skip | apply W.block | apply W.drw | apply DG.nil | refine W.done (QB.n ?_)) | refine W.cndT ?_ | refine W.cndF ?_))
    (refine W.ret ?_; (repeat (with_reducible first | refine QB.r ?_ | refine QL.r ?_ | refine QC.r ?_)); refine QF.r ?_)
    refine RetOk.wk (Wk.nilT (t := 6) 1 rfl) ?_
    exact RetOk.rs (vs := [_, _]) r_heap_Load [0]
  have ci := hInsideC_ok k a n ⟨by omega, ha⟩
  have hb := @insB_bd h m k a n
  cases hq : h.l.any (insB a n)
  · rw [hq] at ci
    rw [if_neg (by decide)]
    unfold hv at ci ⊢
    dsimp only [List.length_nil, List.map_nil]
    refine acall_walk (N := 29) Try.func15 (by kernel_rfl) p_heap_Load rfl ?_; unfold c_heap_Load; dsimp only [enum, Nat.reduceAdd]
    (repeat (first | ((with_reducible show RG _ _ (_ :: _) _ _ _); refine RG.go1 (k := ?_)) | ((with_reducible show DG _ _ (_ :: _) _ _ _ _ _); refine DG.go1 (k := ?_)) | (with_reducible first | apply RG.nil | apply W.seq | apply W.reg | apply W.skip | apply W.block | apply W.drw | apply DG.nil | refine W.done (QB.n ?_)) | refine W.cndT ?_ | refine W.cndF ?_))
    (first | ((with_reducible show RG _ _ (_ :: _) _ _ _); refine RG.gca (fun _ => ci) (k := ?_)) | ((with_reducible show DG _ _ (_ :: _) _ _ _ _ _); refine DG.gca (fun _ => ci) (k := ?_)))
    (repeat (first | ((with_reducible show RG _ _ (_ :: _) _ _ _); refine RG.go1 (k := ?_)) | ((with_reducible show DG _ _ (_ :: _) _ _ _ _ _); refine DG.go1 (k := ?_)) | (with_reducible first | apply RG.nil | apply W.seq | apply W.reg | apply W.skip | apply W.block | apply W.drw | apply DG.nil | refine W.done (QB.n ?_)) | refine W.cndT ?_ | refine W.cndF ?_))
    (refine W.ret ?_; (repeat (with_reducible first | refine QB.r ?_ | refine QL.r ?_ | refine QC.r ?_)); refine QF.r ?_)
    refine RetOk.wk (Wk.nilT (t := 6) 1 rfl) ?_
    exact RetOk.rs (vs := [_, _]) r_heap_Load [0]
  · rw [hq] at ci
    obtain ⟨b1, b2⟩ := hb hq
    have km := k.m2
    have hsm := k.s
    obtain ⟨b, rfl⟩ : ∃ b : Nat, a = b := ⟨a.toNat, by omega⟩
    obtain ⟨w, rfl⟩ : ∃ w : Nat, n = w := ⟨n.toNat, by omega⟩
    rw [if_pos rfl]
    unfold hv at ci ⊢
    dsimp only
    rw [show ((b : Nat) : Int).toNat = b by omega, show ((w : Nat) : Int).toNat = w by omega]
    obtain ⟨r, hr⟩ : ∃ r, (h.s.drop b).take w = r := ⟨_, rfl⟩
    have hrl : r.length = w := by rw [← hr]; simp; omega
    have hrb : ((h.s.map by8).take ((b : Int) + (w : Int)).toNat).drop (b : Int).toNat = r.map by8 := by
      rw [show ((b : Int) + (w : Int)).toNat = b + w by omega, show (b : Int).toNat = b by omega]
      rw [← hr, List.drop_take, Nat.add_sub_cancel_left, ← List.map_drop, ← List.map_take]
    have cy := ybClone_ok r (by omega)
    rw [hr]
    clear hb hq hr
    refine acall_walk (N := 29) Try.func15 (by kernel_rfl) p_heap_Load rfl ?_; unfold c_heap_Load; dsimp only [enum, Nat.reduceAdd]
    (repeat (first | ((with_reducible show RG _ _ (_ :: _) _ _ _); refine RG.go1 (k := ?_)) | ((with_reducible show DG _ _ (_ :: _) _ _ _ _ _); refine DG.go1 (k := ?_)) | (with_reducible first | apply RG.nil | apply W.seq | apply W.reg | apply W.skip | apply W.block | apply W.drw | apply DG.nil | refine W.done (QB.n ?_)) | refine W.cndT ?_ | refine W.cndF ?_))
    (first | ((with_reducible show RG _ _ (_ :: _) _ _ _); refine RG.gca (fun _ => ci) (k := ?_)) | ((with_reducible show DG _ _ (_ :: _) _ _ _ _ _); refine DG.gca (fun _ => ci) (k := ?_)))
    (repeat (first | ((with_reducible show RG _ _ (_ :: _) _ _ _); refine RG.go1 (k := ?_)) | ((with_reducible show DG _ _ (_ :: _) _ _ _ _ _); refine DG.go1 (k := ?_)) | (with_reducible first | apply RG.nil | apply W.seq | apply W.reg | apply W.skip | apply W.block | apply W.drw | apply DG.nil | refine W.done (QB.n ?_)) | refine W.cndT ?_ | refine W.cndF ?_))
    (first | ((with_reducible show RG _ _ (_ :: _) _ _ _); refine RG.ew (sl_of (hrb)) (k := ?_)) | ((with_reducible show DG _ _ (_ :: _) _ _ _ _ _); refine DG.ew (sl_of (hrb)) (k := ?_)))
    (repeat (first | ((with_reducible show RG _ _ (_ :: _) _ _ _); refine RG.go1 (k := ?_)) | ((with_reducible show DG _ _ (_ :: _) _ _ _ _ _); refine DG.go1 (k := ?_)) | (with_reducible first | apply RG.nil | apply W.seq | apply W.reg | apply W.skip | apply W.block | apply W.drw | apply DG.nil | refine W.done (QB.n ?_))))
    (first | ((with_reducible show RG _ _ (_ :: _) _ _ _); refine RG.ca (cy) (k := ?_)) | ((with_reducible show DG _ _ (_ :: _) _ _ _ _ _); refine DG.ca (cy) (k := ?_)))
    (repeat (first | ((with_reducible show RG _ _ (_ :: _) _ _ _); refine RG.go1 (k := ?_)) | ((with_reducible show DG _ _ (_ :: _) _ _ _ _ _); refine DG.go1 (k := ?_)) | (with_reducible first | apply RG.nil | apply W.seq | apply W.reg | apply W.skip | apply W.block | apply W.drw | apply DG.nil | refine W.done (QB.n ?_))))
    (refine W.ret ?_; (repeat (with_reducible first | refine QB.r ?_ | refine QL.r ?_ | refine QC.r ?_)); refine QF.r ?_)
    exact RetOk.rs (vs := [_, _]) r_heap_Load [0]
theorem hFreeC_ok {h : Hp} {m : Nat} (k : h.Ok m) (a : Int) : ACall Try.prog 14 [hv true h, .int .i64 a] (.tup [hv false (hFree h a).1, .int .i64 (hFree h a).2]) [] := by
  obtain ⟨l1, l2, l3⟩ := k.lens
  have cc := hCloneF_ok h k.few
  have co := hClone_ok h k.few
  have es := by8_len h.s
  have el := bk_len h.l
  have ed := bo_len h.d
  have ci := hFind_ok h k.few a
  unfold hfind at ci
  rw [show (fun x : Blk => decide (x.at_ = a)) = atP a from rfl] at ci
  unfold hFree
  cases hq : h.l.any (atP a)
  · rw [hq, if_neg (by decide)] at ci
    rw [if_neg (by decide)]
    unfold hv at cc ci ⊢
    dsimp only
    refine acall_walk (N := 47) Try.func14 (by kernel_rfl) p_heap_Free rfl ?_; unfold c_heap_Free; dsimp only [enum, Nat.reduceAdd]
    (repeat (first | ((with_reducible show RG _ _ (_ :: _) _ _ _); refine RG.go1 (k := ?_)) | ((with_reducible show DG _ _ (_ :: _) _ _ _ _ _); refine DG.go1 (k := ?_)) | (with_reducible first | apply RG.nil | apply W.seq | apply W.reg | apply W.skip | apply W.block | apply W.drw | apply DG.nil | refine W.done (QB.n ?_)) | refine W.cndT ?_ | refine W.cndF ?_))
    (first | ((with_reducible show RG _ _ (_ :: _) _ _ _); refine RG.ca (ci) (k := ?_)) | ((with_reducible show DG _ _ (_ :: _) _ _ _ _ _); refine DG.ca (ci) (k := ?_)))
    (repeat (first | ((with_reducible show RG _ _ (_ :: _) _ _ _); refine RG.go1 (k := ?_)) | ((with_reducible show DG _ _ (_ :: _) _ _ _ _ _); refine DG.go1 (k := ?_)) | (with_reducible first | apply RG.nil | apply W.seq | apply W.reg | apply W.skip | apply W.block | apply W.drw | apply DG.nil | refine W.done (QB.n ?_)) | refine W.cndT ?_ | refine W.cndF ?_))
    (first | ((with_reducible show RG _ _ (_ :: _) _ _ _); refine RG.ca (cc) (k := ?_)) | ((with_reducible show DG _ _ (_ :: _) _ _ _ _ _); refine DG.ca (cc) (k := ?_)))
    (repeat (first | ((with_reducible show RG _ _ (_ :: _) _ _ _); refine RG.go1 (k := ?_)) | ((with_reducible show DG _ _ (_ :: _) _ _ _ _ _); refine DG.go1 (k := ?_)) | (with_reducible first | apply RG.nil | apply W.seq | apply W.reg | apply W.skip | apply W.block | apply W.drw | apply DG.nil | refine W.done (QB.n ?_)) | refine W.cndT ?_ | refine W.cndF ?_))
    (refine W.ret ?_; (repeat (with_reducible first | refine QB.r ?_ | refine QL.r ?_ | refine QC.r ?_)); refine QF.r ?_)
    exact RetOk.rs (vs := [_, _]) r_heap_Free []
  · rw [hq, if_pos rfl] at ci
    rw [if_pos rfl]
    obtain ⟨i, hid, hi, g1, g2⟩ : ∃ i, h.l.findIdx (atP a) = i ∧ ∃ hi : i < h.l.length, (h.l[i]).at_ = a ∧ h.l[i]?.getD ⟨0, 0⟩ = h.l[i] := by
      obtain ⟨hi, g1, g2⟩ := atP_idx hq
      exact ⟨_, rfl, hi, g1, g2⟩
    obtain ⟨_, k1, k2, k3, k4, k5⟩ := k.l.mem (Int.le_refl _) _ (List.getElem_mem hi)
    rw [hid] at ci ⊢
    rw [g2]
    have hE := bk_at h.l i hi (j := i) rfl
    rw [g1] at k1 k2 k5 hE
    obtain ⟨xn, hxn⟩ : ∃ xn, (h.l[i]).ln = xn := ⟨_, rfl⟩
    rw [hxn] at k3 k4 k5 hE ⊢
    obtain ⟨b, rfl⟩ : ∃ b : Nat, a = b := ⟨a.toNat, by omega⟩
    obtain ⟨w, rfl⟩ : ∃ w : Nat, xn = w := ⟨xn.toNat, by omega⟩
    have km := k.m2
    have hsm := k.s
    have hdm := k.d
    have cd := bkDel1_ok h.l (by omega) i hi
    unfold hPut
    dsimp only
    rw [List.length_replicate]
    rw [show ((b : Nat) : Int).toNat = b by omega, show ((w : Nat) : Int).toNat = w by omega]
    have hcl : (h.s.map by8).take b ++ (List.replicate w (.int .u8 0) ++ (h.s.map by8).drop (b + w)) = (putS h.s b (List.replicate w 0)).map by8 := by
      rw [putS_by8, List.length_replicate, List.map_replicate]; rfl
    have hpl := @putS_len h.s b (List.replicate w 0) (by rw [List.length_replicate]; omega)
    have hel : (h.l.eraseIdx i).length = h.l.length - 1 := List.length_eraseIdx_of_lt hi
    have hml := markP_len h.d b w
    obtain ⟨s2, hs2⟩ : ∃ s2, putS h.s b (List.replicate w 0) = s2 := ⟨_, rfl⟩
    obtain ⟨l2', hl2⟩ : ∃ l2, h.l.eraseIdx i = l2 := ⟨_, rfl⟩
    have cm := hMark_ok s2 l2' h.d (by omega) b w ⟨by omega, by omega⟩ ⟨by omega, by omega⟩
    obtain ⟨d2, hd2⟩ : ∃ d2, markP h.d b w = d2 := ⟨_, rfl⟩
    rw [hs2] at hcl hpl ⊢
    rw [hl2] at cd hel ⊢
    rw [hd2] at cm hml ⊢
    unfold hv at cc co ci ⊢
    dsimp only
    clear hq hs2 hl2 hd2 g2 hid hxn
    refine acall_walk (N := 47) Try.func14 (by kernel_rfl) p_heap_Free rfl ?_; unfold c_heap_Free; dsimp only [enum, Nat.reduceAdd]
    (repeat (first | ((with_reducible show RG _ _ (_ :: _) _ _ _); refine RG.go1 (k := ?_)) | ((with_reducible show DG _ _ (_ :: _) _ _ _ _ _); refine DG.go1 (k := ?_)) | (with_reducible first | apply RG.nil | apply W.seq | apply W.reg | apply W.skip | apply W.block | apply W.drw | apply DG.nil | refine W.done (QB.n ?_)) | refine W.cndT ?_ | refine W.cndF ?_))
    (first | ((with_reducible show RG _ _ (_ :: _) _ _ _); refine RG.ca (ci) (k := ?_)) | ((with_reducible show DG _ _ (_ :: _) _ _ _ _ _); refine DG.ca (ci) (k := ?_)))
    (repeat (first | ((with_reducible show RG _ _ (_ :: _) _ _ _); refine RG.go1 (k := ?_)) | ((with_reducible show DG _ _ (_ :: _) _ _ _ _ _); refine DG.go1 (k := ?_)) | (with_reducible first | apply RG.nil | apply W.seq | apply W.reg | apply W.skip | apply W.block | apply W.drw | apply DG.nil | refine W.done (QB.n ?_)) | refine W.cndT ?_ | refine W.cndF ?_))
    (first | ((with_reducible show RG _ _ (_ :: _) _ _ _); refine RG.ca (co) (k := ?_)) | ((with_reducible show DG _ _ (_ :: _) _ _ _ _ _); refine DG.ca (co) (k := ?_)))
    (repeat (first | ((with_reducible show RG _ _ (_ :: _) _ _ _); refine RG.go1 (k := ?_)) | ((with_reducible show DG _ _ (_ :: _) _ _ _ _ _); refine DG.go1 (k := ?_)) | (with_reducible first | apply RG.nil | apply W.seq | apply W.reg | apply W.skip | apply W.block | apply W.drw | apply DG.nil | refine W.done (QB.n ?_)) | refine W.cndT ?_ | refine W.cndF ?_))
    (first | ((with_reducible show RG _ _ (_ :: _) _ _ _); refine RG.ew (ix_of ((show 0 + ((i : Nat) : Int).toNat = i by omega))) (k := ?_)) | ((with_reducible show DG _ _ (_ :: _) _ _ _ _ _); refine DG.ew (ix_of ((show 0 + ((i : Nat) : Int).toNat = i by omega))) (k := ?_)))
    (repeat (first | ((with_reducible show RG _ _ (_ :: _) _ _ _); refine RG.go1 (k := ?_)) | ((with_reducible show DG _ _ (_ :: _) _ _ _ _ _); refine DG.go1 (k := ?_)) | (with_reducible first | apply RG.nil | apply W.seq | apply W.reg | apply W.skip | apply W.block | apply W.drw | apply DG.nil | refine W.done (QB.n ?_))))
    (first | ((with_reducible show RG _ _ (_ :: _) _ _ _); refine RG.sm (A.ldr (hE)) (k := ?_)) | ((with_reducible show DG _ _ (_ :: _) _ _ _ _ _); refine DG.sm (A.ldr (hE)) (k := ?_)))
    (repeat (first | ((with_reducible show RG _ _ (_ :: _) _ _ _); refine RG.go1 (k := ?_)) | ((with_reducible show DG _ _ (_ :: _) _ _ _ _ _); refine DG.go1 (k := ?_)) | (with_reducible first | apply RG.nil | apply W.seq | apply W.reg | apply W.skip | apply W.block | apply W.drw | apply DG.nil | refine W.done (QB.n ?_))))
    (refine RG.mca ([]) ([1]) (cd) (k := ?_))
    (repeat (first | ((with_reducible show RG _ _ (_ :: _) _ _ _); refine RG.go1 (k := ?_)) | ((with_reducible show DG _ _ (_ :: _) _ _ _ _ _); refine DG.go1 (k := ?_)) | (with_reducible first | apply RG.nil | apply W.seq | apply W.reg | apply W.skip | apply W.block | apply W.drw | apply DG.nil | refine W.done (QB.n ?_))))
    (first | ((with_reducible show RG _ _ (_ :: _) _ _ _); refine RG.ew ((show AV.ref 0 1 (0 + (b : Int).toNat) ((b : Int) + (w : Int) - (b : Int)).toNat = AV.ref 0 1 b w by congr 1 <;> omega)) (k := ?_)) | ((with_reducible show DG _ _ (_ :: _) _ _ _ _ _); refine DG.ew ((show AV.ref 0 1 (0 + (b : Int).toNat) ((b : Int) + (w : Int) - (b : Int)).toNat = AV.ref 0 1 b w by congr 1 <;> omega)) (k := ?_)))
    (repeat (first | ((with_reducible show RG _ _ (_ :: _) _ _ _); refine RG.go1 (k := ?_)) | ((with_reducible show DG _ _ (_ :: _) _ _ _ _ _); refine DG.go1 (k := ?_)) | (with_reducible first | apply RG.nil | apply W.seq | apply W.reg | apply W.skip | apply W.block | apply W.drw | apply DG.nil | refine W.done (QB.n ?_))))
    (first | ((with_reducible show RG _ _ (_ :: _) _ _ _); refine RG.sn (A.clr (hcl)) (k := ?_)) | ((with_reducible show DG _ _ (_ :: _) _ _ _ _ _); refine DG.sn (A.clr (hcl)) (k := ?_)))
    (repeat (first | ((with_reducible show RG _ _ (_ :: _) _ _ _); refine RG.go1 (k := ?_)) | ((with_reducible show DG _ _ (_ :: _) _ _ _ _ _); refine DG.go1 (k := ?_)) | (with_reducible first | apply RG.nil | apply W.seq | apply W.reg | apply W.skip | apply W.block | apply W.drw | apply DG.nil | refine W.done (QB.n ?_))))
    (refine RG.mca ([]) ([2]) (cm) (k := ?_))
    (repeat (first | ((with_reducible show RG _ _ (_ :: _) _ _ _); refine RG.go1 (k := ?_)) | ((with_reducible show DG _ _ (_ :: _) _ _ _ _ _); refine DG.go1 (k := ?_)) | (with_reducible first | apply RG.nil | apply W.seq | apply W.reg | apply W.skip | apply W.block | apply W.drw | apply DG.nil | refine W.done (QB.n ?_))))
    (refine W.ret ?_; (repeat (with_reducible first | refine QB.r ?_ | refine QL.r ?_ | refine QC.r ?_)); refine QF.r ?_)
    (refine RetOk.wk (Wk.frz (b := 0) rfl rfl) ?_; dsimp only [setO])
    (refine RetOk.wk (Wk.frz (b := 1) rfl rfl) ?_; dsimp only [setO])
    (refine RetOk.wk (Wk.frz (b := 2) rfl rfl) ?_; refine RetOk.wk (Wk.box (b := 1) (cs' := [_, _, _]) rfl (by dsimp only [ClL]; (repeat' (first | exact True.intro | exact Cl.ice rfl rfl rfl (by first | assumption | decide | omega | (simp; (first | (all_goals fail) | fail)) | (simp <;> omega)) (by first | exact take_all _ | exact take_len (by first | (simp; (first | (all_goals fail) | fail)) | (simp <;> omega)) | exact rfl) | exact Cl.le (.refl _) | apply And.intro)); (first | (all_goals fail) | fail))) ?_; dsimp only [setO])
    exact RetOk.rs (vs := [_, _]) r_heap_Free []
end Go.Proofs.Ytjacmhaeemhinaa

namespace Go.Proofs.Ytjacmhaeemhinaa
open Go.RowKit
set_option linter.unusedVariables false
set_option linter.unusedSimpArgs false
set_option maxRecDepth 100000
set_option maxHeartbeats 4000000
def okB (N e : Int) (x : Blk) : Bool := decide (e ≤ x.at_ ∧ x.at_ % 8 = 0 ∧ 8 ≤ x.ln ∧ x.ln % 8 = 0 ∧ x.at_ + x.ln ≤ N)
def chB (N : Int) : Int → List Blk → Bool
  | _, [] => true
  | e, x :: l => okB N e x && chB N (x.at_ + x.ln) l
def Hp.base (h : Hp) : Prop := h.s.length % 64 = 0 ∧ 1 ≤ h.s.length / 64 ∧ h.s.length / 64 ≤ 64 ∧ h.d.length = h.s.length / 64
instance (h : Hp) : Decidable h.base := by unfold Hp.base; infer_instance
theorem Ch.b {N : Int} : ∀ {l : List Blk} {e : Int}, Ch N e l → chB N e l = true
  | [], e, _ => rfl
  | x :: l, e, ⟨h1, h2, h3, h4, h5, h6⟩ => by
    unfold chB okB
    rw [h6.b, decide_eq_true ⟨h1, h2, h3, h4, h5⟩]; rfl
theorem hNewC_ok {m : Nat} (h1 : 1 ≤ m) (h2 : m ≤ 64) : ACall Try.prog 11 [.int .i64 m] (.tup [hv false (hnew m), .int .i64 0]) [] := by
  unfold hv hnew
  dsimp only [List.map_nil]
  rw [← rep_by8, ← rep_bo]
  have q2 : ALe .nil (.sl false 2 []) := ALe.nil _ _
  refine acall_walk (N := 17) Try.func11 (by kernel_rfl) p_heap_New rfl ?_; unfold c_heap_New; dsimp only [enum, Nat.reduceAdd]
  (repeat (first | ((with_reducible show RG _ _ (_ :: _) _ _ _); refine RG.go1 (k := ?_)) | ((with_reducible show DG _ _ (_ :: _) _ _ _ _ _); refine DG.go1 (k := ?_)) | (with_reducible first | apply RG.nil | apply W.seq | apply W.reg | apply W.skip | apply W.block | apply W.drw | apply DG.nil | refine W.done (QB.n ?_)) | refine W.cndT ?_ | refine W.cndF ?_))
  rw [show ((m : Int) * 64).toNat = 64 * m by omega, show ((m : Nat) : Int).toNat = m by omega]
  (refine W.ret ?_; (repeat (with_reducible first | refine QB.r ?_ | refine QL.r ?_ | refine QC.r ?_)); refine QF.r ?_)
  (refine RetOk.wk (Wk.frz (b := 0) rfl rfl) ?_; dsimp only [setO])
  (refine RetOk.wk (Wk.frz (b := 1) rfl rfl) ?_; refine RetOk.wk (Wk.box (b := 0) (cs' := [_, _, _]) rfl (by dsimp only [ClL]; (repeat' (first | exact True.intro | exact Cl.ice rfl rfl rfl (by first | assumption | decide | omega | (simp; (first | (all_goals fail) | fail)) | (simp <;> omega)) (by first | exact take_all _ | exact take_len (by first | (simp; (first | (all_goals fail) | fail)) | (simp <;> omega)) | exact rfl) | exact Cl.le (.refl _) | apply And.intro)); (first | (all_goals fail) | fail))) ?_; dsimp only [setO])
  exact RetOk.rs (vs := [_, _]) r_heap_New []
theorem lives_ok : ACall Try.prog 9 [] (.bool true) [] := by
  have k0 : (hnew 2).Ok 2 := hnew_ok (by decide) (by decide)
  have k1 := hAlloc_ok k0 3
  have k2 := hAlloc_ok k1 100
  have k3 := hFree_ok k2 0
  have e1 : (hAlloc (hnew 2) 3).2 = (0, 0) := by decide +kernel
  have e2 : (hAlloc (hAlloc (hnew 2) 3).1 100).2 = (8, 0) := by decide +kernel
  have e3 : (hFree (hAlloc (hAlloc (hnew 2) 3).1 100).1 0).2 = 0 := by decide +kernel
  have e4 : (hAlloc (hFree (hAlloc (hAlloc (hnew 2) 3).1 100).1 0).1 9).2 = (112, 0) := by decide +kernel
  have c0 := hNewC_ok (m := 2) (by decide) (by decide)
  have c1 := hAllocC_ok k0 3
  have c2 := hAllocC_ok k1 100
  have c3 := hFreeC_ok k2 0
  have c4 := hAllocC_ok k3 9
  rw [e1] at c1
  rw [e2] at c2
  rw [e3] at c3
  rw [e4] at c4
  generalize (hAlloc (hFree (hAlloc (hAlloc (hnew 2) 3).1 100).1 0).1 9).1 = h4 at *
  generalize (hFree (hAlloc (hAlloc (hnew 2) 3).1 100).1 0).1 = h3 at *
  generalize (hAlloc (hAlloc (hnew 2) 3).1 100).1 = h2 at *
  generalize (hAlloc (hnew 2) 3).1 = h1 at *
  generalize hnew 2 = h0 at *
  unfold hv at c0 c1 c2 c3 c4
  dsimp only at c1 c2 c3 c4
  clear e1 e2 e3 e4 k0 k1 k2 k3
  refine acall_walk (N := 70) Try.func9 (by kernel_rfl) p_caravellaw10_lives rfl ?_; unfold c_caravellaw10_lives; dsimp only [enum, Nat.reduceAdd]
  (repeat (first | ((with_reducible show RG _ _ (_ :: _) _ _ _); refine RG.go1 (k := ?_)) | ((with_reducible show DG _ _ (_ :: _) _ _ _ _ _); refine DG.go1 (k := ?_)) | (with_reducible first | apply RG.nil | apply W.seq | apply W.reg | apply W.skip | apply W.block | apply W.drw | apply DG.nil | refine W.done (QB.n ?_)) | refine W.cndT ?_ | refine W.cndF ?_))
  (first | ((with_reducible show RG _ _ (_ :: _) _ _ _); refine RG.ca (c0) (k := ?_)) | ((with_reducible show DG _ _ (_ :: _) _ _ _ _ _); refine DG.ca (c0) (k := ?_)))
  (repeat (first | ((with_reducible show RG _ _ (_ :: _) _ _ _); refine RG.go1 (k := ?_)) | ((with_reducible show DG _ _ (_ :: _) _ _ _ _ _); refine DG.go1 (k := ?_)) | (with_reducible first | apply RG.nil | apply W.seq | apply W.reg | apply W.skip | apply W.block | apply W.drw | apply DG.nil | refine W.done (QB.n ?_)) | refine W.cndT ?_ | refine W.cndF ?_))
  (first | ((with_reducible show RG _ _ (_ :: _) _ _ _); refine RG.ca (c1) (k := ?_)) | ((with_reducible show DG _ _ (_ :: _) _ _ _ _ _); refine DG.ca (c1) (k := ?_)))
  (repeat (first | ((with_reducible show RG _ _ (_ :: _) _ _ _); refine RG.go1 (k := ?_)) | ((with_reducible show DG _ _ (_ :: _) _ _ _ _ _); refine DG.go1 (k := ?_)) | (with_reducible first | apply RG.nil | apply W.seq | apply W.reg | apply W.skip | apply W.block | apply W.drw | apply DG.nil | refine W.done (QB.n ?_)) | refine W.cndT ?_ | refine W.cndF ?_))
  (first | ((with_reducible show RG _ _ (_ :: _) _ _ _); refine RG.ca (c2) (k := ?_)) | ((with_reducible show DG _ _ (_ :: _) _ _ _ _ _); refine DG.ca (c2) (k := ?_)))
  (repeat (first | ((with_reducible show RG _ _ (_ :: _) _ _ _); refine RG.go1 (k := ?_)) | ((with_reducible show DG _ _ (_ :: _) _ _ _ _ _); refine DG.go1 (k := ?_)) | (with_reducible first | apply RG.nil | apply W.seq | apply W.reg | apply W.skip | apply W.block | apply W.drw | apply DG.nil | refine W.done (QB.n ?_)) | refine W.cndT ?_ | refine W.cndF ?_))
  (first | ((with_reducible show RG _ _ (_ :: _) _ _ _); refine RG.ca (c3) (k := ?_)) | ((with_reducible show DG _ _ (_ :: _) _ _ _ _ _); refine DG.ca (c3) (k := ?_)))
  (repeat (first | ((with_reducible show RG _ _ (_ :: _) _ _ _); refine RG.go1 (k := ?_)) | ((with_reducible show DG _ _ (_ :: _) _ _ _ _ _); refine DG.go1 (k := ?_)) | (with_reducible first | apply RG.nil | apply W.seq | apply W.reg | apply W.skip | apply W.block | apply W.drw | apply DG.nil | refine W.done (QB.n ?_)) | refine W.cndT ?_ | refine W.cndF ?_))
  (first | ((with_reducible show RG _ _ (_ :: _) _ _ _); refine RG.ca (c4) (k := ?_)) | ((with_reducible show DG _ _ (_ :: _) _ _ _ _ _); refine DG.ca (c4) (k := ?_)))
  (repeat (first | ((with_reducible show RG _ _ (_ :: _) _ _ _); refine RG.go1 (k := ?_)) | ((with_reducible show DG _ _ (_ :: _) _ _ _ _ _); refine DG.go1 (k := ?_)) | (with_reducible first | apply RG.nil | apply W.seq | apply W.reg | apply W.skip | apply W.block | apply W.drw | apply DG.nil | refine W.done (QB.n ?_)) | refine W.cndT ?_ | refine W.cndF ?_))
  (refine W.ret ?_; (repeat (with_reducible first | refine QB.r ?_ | refine QL.r ?_ | refine QC.r ?_)); refine QF.r ?_)
  exact RetOk.rs (vs := [_]) r_caravellaw10_lives []
end Go.Proofs.Ytjacmhaeemhinaa
