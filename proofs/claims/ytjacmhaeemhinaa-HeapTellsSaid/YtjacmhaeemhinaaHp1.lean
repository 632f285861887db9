/- Heaps, plainly: where a block is put, what the functions answer. -/
import Derived.Test.YtjacmhaeemhinaaHs2
namespace Go.Proofs.Ytjacmhaeemhinaa
open Go.RowKit
set_option linter.unusedVariables false
set_option linter.unusedSimpArgs false
set_option maxRecDepth 100000
set_option maxHeartbeats 4000000
/-- Blocks in order. -/
def Ch (N : Int) : Int → List Blk → Prop
  | e, [] => e ≤ N
  | e, x :: l => e ≤ x.at_ ∧ x.at_ % 8 = 0 ∧ 8 ≤ x.ln ∧ x.ln % 8 = 0 ∧ x.at_ + x.ln ≤ N ∧ Ch N (x.at_ + x.ln) l
theorem Ch.few {N : Int} : ∀ {l : List Blk} {e : Int}, Ch N e l → e + 8 * l.length ≤ N
  | [], e, h => by simpa [Ch] using h
  | x :: l, e, ⟨h1, _, h3, _, _, h6⟩ => by
    have := h6.few
    simp only [List.length_cons]
    omega
theorem Ch.mem {N : Int} : ∀ {l : List Blk} {e : Int}, Ch N e l → 0 ≤ e → ∀ x ∈ l, e ≤ x.at_ ∧ BOk N x
  | [], e, _, _, x, hx => by simp at hx
  | y :: l, e, ⟨h1, h2, h3, h4, h5, h6⟩, h0, x, hx => by
    rcases List.mem_cons.1 hx with rfl | hx
    · exact ⟨h1, by omega, h2, h3, h4, h5⟩
    · have := h6.mem (by omega) x hx
      exact ⟨by omega, this.2⟩
theorem Ch.le {N : Int} : ∀ {l : List Blk} {e f : Int}, Ch N e l → f ≤ e → Ch N f l
  | [], e, f, h, g => by simp only [Ch] at *; omega
  | y :: l, e, f, ⟨h1, h2⟩, g => ⟨by omega, h2⟩
theorem Ch.tail {N : Int} : ∀ {l : List Blk} {e : Int} (i : Nat) (h : i < l.length), Ch N e l → Ch N (l[i].at_ + l[i].ln) (l.drop (i + 1))
  | [], e, i, h, _ => absurd h (Nat.not_lt_zero _)
  | y :: l, e, 0, _, h => h.2.2.2.2.2
  | y :: l, e, i + 1, h, hc => by
    have := Ch.tail (l := l) i (by simpa using h) hc.2.2.2.2.2
    simpa using this
theorem Ch.ext {N : Int} : ∀ {l : List Blk} {e : Int}, Ch N e l → e ≤ N
  | [], e, h => h
  | y :: l, e, ⟨h1, h2, h3, h4, h5, h6⟩ => by omega
theorem Ch.erase {N : Int} : ∀ {l : List Blk} {e : Int} (i : Nat), Ch N e l → Ch N e (l.eraseIdx i)
  | [], e, i, h => by simpa using h
  | y :: l, e, 0, ⟨h1, h2, h3, h4, h5, h6⟩ => by
    simp only [List.eraseIdx_cons_zero]
    exact h6.le (by omega)
  | y :: l, e, i + 1, ⟨h1, h2, h3, h4, h5, h6⟩ => by
    simp only [List.eraseIdx_cons_succ]
    exact ⟨h1, h2, h3, h4, h5, h6.erase i⟩
/-- Where there is room, and which block it is then. -/
def gapA (n : Int) : Int → List Blk → Int
  | e, [] => e
  | e, x :: l => if x.at_ - e < n then gapA n (x.at_ + x.ln) l else e
def gapI (n : Int) : Int → List Blk → Nat
  | _, [] => 0
  | e, x :: l => if x.at_ - e < n then gapI n (x.at_ + x.ln) l + 1 else 0
theorem gapI_le (n : Int) : ∀ (l : List Blk) (e : Int), gapI n e l ≤ l.length
  | [], e => Nat.le_refl _
  | x :: l, e => by
    unfold gapI
    have := gapI_le n l (x.at_ + x.ln)
    split <;> simp only [List.length_cons] <;> omega
theorem gapA_bd {N : Int} (n : Int) : ∀ {l : List Blk} {e : Int}, Ch N e l → 0 ≤ e → e % 8 = 0 → e ≤ gapA n e l ∧ gapA n e l ≤ N ∧ gapA n e l % 8 = 0
  | [], e, h, _, h8 => by unfold gapA; exact ⟨Int.le_refl _, h, h8⟩
  | x :: l, e, ⟨h1, h2, h3, h4, h5, h6⟩, h0, h8 => by
    unfold gapA
    have := gapA_bd n h6 (by omega) (by omega)
    split
    · omega
    · omega
theorem gap_ch {N : Int} {n : Int} (hn : 8 ≤ n) (hn8 : n % 8 = 0) : ∀ {l : List Blk} {e : Int}, Ch N e l → e % 8 = 0 → gapA n e l + n ≤ N → Ch N e (l.take (gapI n e l) ++ ⟨gapA n e l, n⟩ :: l.drop (gapI n e l))
  | [], e, h, h8, hg => by
    unfold gapA at *
    simp only [gapI, List.take_nil, List.drop_nil, List.nil_append]
    exact ⟨Int.le_refl _, h8, hn, hn8, hg, hg⟩
  | x :: l, e, ⟨h1, h2, h3, h4, h5, h6⟩, h8, hg => by
    unfold gapA gapI
    unfold gapA at hg
    split
    · rename_i q
      rw [if_pos q] at hg
      simp only [List.take_succ_cons, List.drop_succ_cons, List.cons_append]
      exact ⟨h1, h2, h3, h4, h5, gap_ch hn hn8 h6 (by omega) hg⟩
    · rename_i q
      rw [if_neg q] at hg
      simp only [List.take_zero, List.drop_zero, List.nil_append]
      exact ⟨Int.le_refl _, h8, hn, hn8, hg, by show e + n ≤ x.at_; omega, h2, h3, h4, h5, h6⟩
theorem gapA_ge {N : Int} (n : Int) : ∀ {l : List Blk} {e : Int}, Ch N e l → e ≤ gapA n e l
  | [], e, _ => Int.le_refl _
  | x :: l, e, ⟨h1, h2, h3, h4, h5, h6⟩ => by
    unfold gapA
    have := gapA_ge n h6
    split <;> omega
theorem Ch.ge {N : Int} : ∀ {l : List Blk} {e : Int}, Ch N e l → ∀ x ∈ l, e ≤ x.at_
  | [], e, _, x, hx => by simp at hx
  | y :: l, e, ⟨h1, h2, h3, h4, h5, h6⟩, x, hx => by
    rcases List.mem_cons.1 hx with rfl | hx
    · exact h1
    · have := Ch.ge h6 x hx
      omega
/-- No block is over a place. -/
def clear_ (n a : Int) (x : Blk) : Prop := ¬ (x.at_ < a + n ∧ a < x.at_ + x.ln)
theorem gap_room {N : Int} {n : Int} (hn : 8 ≤ n) : ∀ {l : List Blk} {e : Int}, Ch N e l → ∀ x ∈ l, clear_ n (gapA n e l) x
  | [], e, _, x, hx => by simp at hx
  | y :: l, e, ⟨h1, h2, h3, h4, h5, h6⟩, x, hx => by
    unfold gapA clear_
    split
    · rename_i q
      rcases List.mem_cons.1 hx with rfl | hx
      · have := gapA_ge n h6
        omega
      · exact gap_room hn h6 x hx
    · rename_i q
      rcases List.mem_cons.1 hx with rfl | hx
      · omega
      · have := Ch.ge h6 x hx
        omega
theorem gap_first {N : Int} {n : Int} (hn : 8 ≤ n) : ∀ {l : List Blk} {e : Int}, Ch N e l → ∀ a, e ≤ a → a < gapA n e l → ∃ x ∈ l, x.at_ < a + n ∧ a < x.at_ + x.ln
  | [], e, _, a, h1, h2 => by unfold gapA at h2; omega
  | y :: l, e, ⟨h1, h2, h3, h4, h5, h6⟩, a, g1, g2 => by
    unfold gapA at g2
    split at g2
    · rename_i q
      by_cases p : a < y.at_ + y.ln
      · exact ⟨y, List.mem_cons_self .., by omega, p⟩
      · obtain ⟨x, hx, p1⟩ := gap_first hn h6 a (by omega) g2
        exact ⟨x, List.mem_cons_of_mem _ hx, p1⟩
    · omega
theorem gap_lo {N : Int} {n : Int} (hn : 8 ≤ n) : ∀ {l : List Blk} {e : Int}, Ch N e l → ∀ (j : Nat) (h : j < l.length), if j < gapI n e l then l[j].at_ ≤ gapA n e l else gapA n e l < l[j].at_
  | [], e, _, j, h => absurd h (Nat.not_lt_zero _)
  | y :: l, e, ⟨h1, h2, h3, h4, h5, h6⟩, j, h => by
    unfold gapA gapI
    by_cases q : y.at_ - e < n
    · rw [if_pos q, if_pos q]
      cases j with
      | zero =>
        rw [if_pos (Nat.zero_lt_succ _)]
        have := gapA_ge n h6
        simp only [List.getElem_cons_zero]
        omega
      | succ j =>
        have := gap_lo hn h6 j (by simpa using h)
        simp only [List.getElem_cons_succ, Nat.add_lt_add_iff_right]
        exact this
    · rw [if_neg q, if_neg q, if_neg (Nat.not_lt_zero _)]
      cases j with
      | zero => simp only [List.getElem_cons_zero]; omega
      | succ j =>
        have := Ch.ge h6 _ (List.getElem_mem (show j < l.length by simpa using h))
        simp only [List.getElem_cons_succ]
        omega
/-- A heap that is one, of m pages. -/
structure Hp.Ok (h : Hp) (m : Nat) : Prop where
  m1 : 1 ≤ m
  m2 : m ≤ 64
  s : h.s.length = 64 * m
  d : h.d.length = m
  l : Ch (64 * m) 0 h.l
theorem Hp.Ok.lens {h : Hp} {m : Nat} (k : h.Ok m) : h.s.length ≤ 4096 ∧ h.l.length ≤ 512 ∧ h.d.length ≤ 64 := by
  have := k.m2
  have := k.s
  have := k.d
  have := k.l.few
  omega
theorem Hp.Ok.few {h : Hp} {m : Nat} (k : h.Ok m) : h.Few := by
  have := k.lens
  exact ⟨by omega, by omega, by omega⟩
theorem Hp.Ok.bok {h : Hp} {m : Nat} (k : h.Ok m) : ∀ x ∈ h.l, BOk 4096 x := fun x hx => by
  have := k.m2
  obtain ⟨h0, h1, h2, h3, h4, h5⟩ := k.l.mem (Int.le_refl _) x hx
  exact ⟨h1, h2, h3, h4, by omega⟩
/-- Bytes from a place on. -/
def putS (s : List UInt8) (a : Nat) (v : List UInt8) : List UInt8 := s.take a ++ (v ++ s.drop (a + v.length))
theorem putS_len {s : List UInt8} {a : Nat} {v : List UInt8} (h : a + v.length ≤ s.length) : (putS s a v).length = s.length := by
  unfold putS; simp; omega
def up8 (n : Int) : Int := (n + 8 - 1) / 8 * 8
def hAlloc (h : Hp) (n : Int) : Hp × Int × Int :=
  if n < 1 then (h, 0, 1) else if h.s.length < n then (h, 0, 5) else
  if gapA (up8 n) 0 h.l + up8 n ≤ h.s.length then (⟨h.s, h.l.take (gapI (up8 n) 0 h.l) ++ ⟨gapA (up8 n) 0 h.l, up8 n⟩ :: h.l.drop (gapI (up8 n) 0 h.l), h.d⟩, gapA (up8 n) 0 h.l, 0) else (h, 0, 5)
def hPut (h : Hp) (a : Int) (v : List UInt8) : Hp := ⟨putS h.s a.toNat v, h.l, markP h.d a v.length⟩
def atP (a : Int) (x : Blk) : Bool := decide (x.at_ = a)
def hFree (h : Hp) (a : Int) : Hp × Int :=
  if h.l.any (atP a) then (hPut ⟨h.s, h.l.eraseIdx (h.l.findIdx (atP a)), h.d⟩ a (List.replicate ((h.l[h.l.findIdx (atP a)]?.getD ⟨0, 0⟩).ln.toNat) 0), 0) else (h, 2)
def hStore (h : Hp) (a : Int) (v : List UInt8) : Hp × Int := if h.l.any (insB a v.length) then (hPut h a v, 0) else (h, 2)
def hLoad (h : Hp) (a n : Int) : List UInt8 × Int := if n < 0 then ([], 1) else if h.l.any (insB a n) then ((h.s.drop a.toNat).take n.toNat, 0) else ([], 2)
def hTell (h : Hp) (p : Int) : Hp × List UInt8 × Int := if 0 ≤ p ∧ p < h.d.length then (⟨h.s, h.l, h.d.set p.toNat false⟩, (h.s.drop (64 * p.toNat)).take 64, 0) else (h, [], 2)
def hHear (h : Hp) (p : Int) (v : List UInt8) : Hp × Int := if 0 ≤ p ∧ p < h.d.length then (if v.length = 64 then (⟨putS h.s (64 * p.toNat) v, h.l, h.d⟩, 0) else (h, 1)) else (h, 2)
theorem insB_bd {h : Hp} {m : Nat} (k : h.Ok m) {a n : Int} (hi : h.l.any (insB a n) = true) : 0 ≤ a ∧ a + n ≤ 64 * m := by
  obtain ⟨x, hx, hb⟩ := List.any_eq_true.1 hi
  obtain ⟨h0, h1, h2, h3, h4, h5⟩ := k.l.mem (Int.le_refl _) x hx
  unfold insB at hb
  simp at hb
  omega
theorem hPut_ok {h : Hp} {m : Nat} (k : h.Ok m) {a : Int} {v : List UInt8} (h0 : 0 ≤ a) (h1 : a + v.length ≤ 64 * m) : (hPut h a v).Ok m :=
  ⟨k.m1, k.m2, by unfold hPut; rw [putS_len (by have := k.s; omega)]; exact k.s, by unfold hPut; rw [markP_len]; exact k.d, k.l⟩
theorem up8_bd {n : Int} (h : 1 ≤ n) : 8 ≤ up8 n ∧ up8 n % 8 = 0 ∧ n ≤ up8 n ∧ up8 n < n + 8 := by unfold up8; omega
theorem hAlloc_ok {h : Hp} {m : Nat} (k : h.Ok m) (n : Int) : (hAlloc h n).1.Ok m := by
  unfold hAlloc
  split
  · exact k
  split
  · exact k
  split
  · rename_i q1 q2 q3
    obtain ⟨u1, u2, u3, u4⟩ := up8_bd (n := n) (by omega)
    exact ⟨k.m1, k.m2, k.s, k.d, gap_ch u1 u2 k.l rfl (by have := k.s; omega)⟩
  · exact k
theorem atP_idx {l : List Blk} {a : Int} (h : l.any (atP a) = true) : ∃ hi : l.findIdx (atP a) < l.length, (l[l.findIdx (atP a)]).at_ = a ∧ l[l.findIdx (atP a)]?.getD ⟨0, 0⟩ = l[l.findIdx (atP a)] := by
  have hi : l.findIdx (atP a) < l.length := List.findIdx_lt_length.2 (List.any_eq_true.1 h)
  have := List.findIdx_getElem (w := hi)
  exact ⟨hi, of_decide_eq_true this, by rw [List.getElem?_eq_getElem hi]; rfl⟩
theorem hFree_ok {h : Hp} {m : Nat} (k : h.Ok m) (a : Int) : (hFree h a).1.Ok m := by
  unfold hFree
  split
  · rename_i q
    obtain ⟨hi, h1, h2⟩ := atP_idx q
    rw [h2]
    obtain ⟨g0, g1, g2, g3, g4, g5⟩ := k.l.mem (Int.le_refl _) _ (List.getElem_mem hi)
    have ke : Hp.Ok ⟨h.s, h.l.eraseIdx (h.l.findIdx (atP a)), h.d⟩ m := ⟨k.m1, k.m2, k.s, k.d, k.l.erase _⟩
    exact hPut_ok ke (by omega) (by rw [List.length_replicate]; omega)
  · exact k
theorem hStore_ok {h : Hp} {m : Nat} (k : h.Ok m) (a : Int) (v : List UInt8) : (hStore h a v).1.Ok m := by
  unfold hStore
  split
  · rename_i q
    have := insB_bd k q
    exact hPut_ok k this.1 this.2
  · exact k
theorem hTell_ok {h : Hp} {m : Nat} (k : h.Ok m) (p : Int) : (hTell h p).1.Ok m := by
  unfold hTell
  split
  · exact ⟨k.m1, k.m2, k.s, by rw [List.length_set]; exact k.d, k.l⟩
  · exact k
theorem hHear_ok {h : Hp} {m : Nat} (k : h.Ok m) (p : Int) (v : List UInt8) : (hHear h p v).1.Ok m := by
  unfold hHear
  split
  · split
    · rename_i q1 q2
      exact ⟨k.m1, k.m2, by rw [putS_len (by have := k.s; have := k.d; omega)]; exact k.s, k.d, k.l⟩
    · exact k
  · exact k
theorem hnew_ok {n : Nat} (h1 : 1 ≤ n) (h2 : n ≤ 64) : (hnew n).Ok n := ⟨h1, h2, by simp [hnew], by simp [hnew], by simp [hnew, Ch]; omega⟩
end Go.Proofs.Ytjacmhaeemhinaa
