/- HeapBack, plainly: what lies in no block is nought. -/
import Derived.Test.YtjacmhaeemhinaaHs8
namespace Go.Proofs.Ytjacmhaeemhinaa
open Go.RowKit
set_option linter.unusedVariables false
set_option linter.unusedSimpArgs false
set_option maxRecDepth 100000
set_option maxHeartbeats 4000000
def out (x : Blk) (i : Nat) : Prop := ¬ (x.at_ ≤ i ∧ (i : Int) < x.at_ + x.ln)
def Zr (h : Hp) : Prop := ∀ i : Nat, i < h.s.length → (∀ x ∈ h.l, out x i) → h.s[i]?.getD 0 = 0
theorem putS_get (s v : List UInt8) (a i : Nat) (h : a + v.length ≤ s.length) : (putS s a v)[i]?.getD 0 = if i < a then s[i]?.getD 0 else if i < a + v.length then v[i - a]?.getD 0 else s[i]?.getD 0 := by
  unfold putS
  by_cases h1 : i < a
  · rw [if_pos h1, List.getElem?_append_left (by simp; omega), List.getElem?_take_of_lt h1]
  · rw [if_neg h1, List.getElem?_append_right (by simp; omega), show i - (s.take a).length = i - a by simp; omega]
    by_cases h2 : i < a + v.length
    · rw [if_pos h2, List.getElem?_append_left (by omega)]
    · rw [if_neg h2, List.getElem?_append_right (by omega), List.getElem?_drop, show a + v.length + (i - a - v.length) = i by omega]
theorem Zr.new (n : Nat) : Zr (hnew n) := by
  intro i h _
  unfold hnew at h ⊢
  dsimp only at h ⊢
  rw [List.length_replicate] at h
  rw [List.getElem?_replicate, if_pos h]; rfl
theorem mem_ins {α : Type} {l : List α} {k : Nat} {x y : α} (h : y ∈ l) : y ∈ l.take k ++ x :: l.drop k := by
  rw [← List.take_append_drop k l] at h
  rcases List.mem_append.1 h with h | h
  · exact List.mem_append_left _ h
  · exact List.mem_append_right _ (List.mem_cons_of_mem _ h)
theorem Zr.alloc {h : Hp} (z : Zr h) (n : Int) : Zr (hAlloc h n).1 := by
  unfold hAlloc
  split
  · exact z
  split
  · exact z
  split
  · intro i hi hx
    exact z i hi fun x hx2 => hx x (mem_ins hx2)
  · exact z
theorem Zr.store {h : Hp} {m : Nat} (k : h.Ok m) (z : Zr h) (a : Int) (v : List UInt8) : Zr (hStore h a v).1 := by
  unfold hStore
  split
  · rename_i q
    have hb := insB_bd k q
    have hs := k.s
    obtain ⟨x, hx, hxb⟩ := List.any_eq_true.1 q
    unfold insB at hxb
    simp at hxb
    intro i hi ho
    have hp := putS_len (s := h.s) (a := a.toNat) (v := v) (by omega)
    unfold hPut at hi ho ⊢
    dsimp only at hi ho ⊢
    rw [hp] at hi
    rw [putS_get _ _ _ _ (by omega)]
    have := ho x hx
    unfold out at this
    split
    · exact z i hi ho
    · split
      · omega
      · exact z i hi ho
  · exact z
theorem Zr.free {h : Hp} {m : Nat} (k : h.Ok m) (z : Zr h) (a : Int) : Zr (hFree h a).1 := by
  unfold hFree
  split
  · rename_i q
    obtain ⟨hi0, h1, h2⟩ := atP_idx q
    rw [h2]
    obtain ⟨g0, g1, g2, g3, g4, g5⟩ := k.l.mem (Int.le_refl _) _ (List.getElem_mem hi0)
    generalize hj : h.l.findIdx (atP a) = j at *
    have hs := k.s
    obtain ⟨w, hw⟩ : ∃ w : Nat, (h.l[j]).ln = w := ⟨(h.l[j]).ln.toNat, by omega⟩
    rw [hw, Int.toNat_natCast]
    have hp := putS_len (s := h.s) (a := a.toNat) (v := List.replicate w 0) (by rw [List.length_replicate]; omega)
    intro i hi ho
    unfold hPut at hi ho ⊢
    dsimp only at hi ho ⊢
    rw [hp] at hi
    rw [putS_get _ _ _ _ (by rw [List.length_replicate]; omega), List.length_replicate]
    have hor : ¬ (a.toNat ≤ i ∧ i < a.toNat + w) → h.s[i]?.getD 0 = 0 := fun hn => z i hi fun x hx => by
      obtain ⟨t, ht, rfl⟩ := List.getElem_of_mem hx
      by_cases e : t = j
      · subst e; unfold out; omega
      · exact ho _ (List.mem_eraseIdx_iff_getElem.2 ⟨t, ht, e, rfl⟩)
    split
    · exact hor (by omega)
    · split
      · rw [List.getElem?_replicate]; split <;> rfl
      · exact hor (by omega)
  · exact z
theorem gap_lt {N : Int} {n : Int} (hn : 8 ≤ n) : ∀ {l : List Blk} {e : Int}, Ch N e l → ∀ (j : Nat) (h : j < l.length), j < gapI n e l → l[j].at_ < gapA n e l
  | [], e, _, j, h, _ => absurd h (Nat.not_lt_zero _)
  | y :: l, e, ⟨h1, h2, h3, h4, h5, h6⟩, j, h, hj => by
    unfold gapA
    unfold gapI at hj
    by_cases q : y.at_ - e < n
    · rw [if_pos q]
      rw [if_pos q] at hj
      cases j with
      | zero =>
        have := gapA_ge n h6
        simp only [List.getElem_cons_zero]
        omega
      | succ j =>
        have := gap_lt hn h6 j (by simpa using h) (by omega)
        simpa using this
    · rw [if_neg q] at hj; omega
theorem any_ins (l : List Blk) (k : Nat) (g u : Int) (p : Blk → Bool) (h : p ⟨g, u⟩ = true) : (l.take k ++ ⟨g, u⟩ :: l.drop k).any p = true := by
  rw [List.any_eq_true]; exact ⟨⟨g, u⟩, by simp, h⟩
theorem find_ins {l : List Blk} {k : Nat} (hk : k ≤ l.length) {g u : Int} (h : ∀ (j : Nat) (hj : j < l.length), j < k → l[j].at_ < g) : (l.take k ++ ⟨g, u⟩ :: l.drop k).findIdx (atP g) = k := by
  have hlen : k < (l.take k ++ ⟨g, u⟩ :: l.drop k).length := by simp; omega
  have htk : (l.take k).length = k := by simp; omega
  rw [List.findIdx_eq hlen]
  refine ⟨?_, fun j hj => ?_⟩
  · rw [List.getElem_append_right (by omega)]
    simp [htk, atP]
  · rw [List.getElem_append_left (by omega), List.getElem_take]
    have := h j (by omega) hj
    unfold atP
    exact decide_eq_false (by omega)
theorem get_ins {l : List Blk} {k : Nat} (hk : k ≤ l.length) (x : Blk) : (l.take k ++ x :: l.drop k)[k]?.getD ⟨0, 0⟩ = x := by
  have htk : (l.take k).length = k := by simp; omega
  rw [List.getElem?_append_right (by omega), htk]; simp
theorem erase_ins {l : List Blk} {k : Nat} (hk : k ≤ l.length) (x : Blk) : (l.take k ++ x :: l.drop k).eraseIdx k = l := by
  have htk : (l.take k).length = k := by simp; omega
  rw [List.eraseIdx_append_of_length_le (by omega), htk]; simp
/-- A block given away, written and taken back. -/
theorem back {h : Hp} {m : Nat} (k : h.Ok m) (z : Zr h) {n : Int} (hn : 1 ≤ n) (v : List UInt8) (hv1 : (v.length : Int) ≤ n) :
    ((hAlloc h n).2.2 = 5 ∧ (hAlloc h n).1 = h) ∨ (∃ g : Int, (hAlloc h n).2 = (g, 0) ∧ 0 ≤ g ∧ g ≤ 4096 ∧ (hAlloc h n).1.s = h.s ∧ (hStore (hAlloc h n).1 g v).2 = 0 ∧ (hFree (hStore (hAlloc h n).1 g v).1 g).2 = 0 ∧ (hFree (hStore (hAlloc h n).1 g v).1 g).1.s = h.s ∧ (hFree (hStore (hAlloc h n).1 g v).1 g).1.l = h.l) := by
  obtain ⟨u1, u2, u3, u4⟩ := up8_bd hn
  have gb := gapA_bd (up8 n) k.l (Int.le_refl _) rfl
  have gi := gapI_le (up8 n) h.l 0
  have gl := gap_lt u1 k.l
  have gr := gap_room u1 k.l
  have km := k.m2
  have hs := k.s
  unfold hAlloc
  rw [if_neg (show ¬ n < 1 by omega)]
  by_cases q1 : (h.s.length : Int) < n
  · rw [if_pos q1]; exact .inl ⟨rfl, rfl⟩
  rw [if_neg q1]
  generalize gapA (up8 n) 0 h.l = g at *
  generalize gapI (up8 n) 0 h.l = i at *
  generalize up8 n = u at *
  by_cases q2 : g + u ≤ h.s.length
  · rw [if_pos q2]
    refine .inr ⟨g, rfl, gb.1, by omega, rfl, ?_⟩
    dsimp only
    have hin : (h.l.take i ++ ⟨g, u⟩ :: h.l.drop i).any (insB g v.length) = true := any_ins _ _ _ _ _ (by unfold insB; simp; omega)
    unfold hStore
    dsimp only
    rw [if_pos hin]
    unfold hPut hFree
    dsimp only
    have hat : (h.l.take i ++ ⟨g, u⟩ :: h.l.drop i).any (atP g) = true := any_ins _ _ _ _ _ (by unfold atP; simp)
    rw [if_pos hat, find_ins gi gl, get_ins gi, erase_ins gi]
    refine ⟨rfl, rfl, ?_, rfl⟩
    unfold hPut
    dsimp only
    obtain ⟨a, rfl⟩ : ∃ a : Nat, g = a := ⟨g.toNat, by omega⟩
    obtain ⟨w, rfl⟩ : ∃ w : Nat, u = w := ⟨u.toNat, by omega⟩
    rw [Int.toNat_natCast, Int.toNat_natCast]
    have p1 := putS_len (s := h.s) (a := a) (v := v) (by omega)
    have p2 := putS_len (s := putS h.s a v) (a := a) (v := List.replicate w 0) (by rw [List.length_replicate]; omega)
    apply List.ext_getElem (by omega)
    intro j j1 j2
    have e := putS_get (putS h.s a v) (List.replicate w 0) a j (by rw [List.length_replicate]; omega)
    have e1 := putS_get h.s v a j (by omega)
    rw [List.getElem?_eq_getElem j1, Option.getD_some, List.length_replicate] at e
    rw [e, e1]
    have ej : h.s[j]?.getD 0 = h.s[j] := by rw [List.getElem?_eq_getElem j2]; rfl
    rw [ej]
    split
    · rfl
    · split
      · rw [List.getElem?_replicate, if_pos (by omega), Option.getD_some, ← ej]
        symm
        refine z j (by omega) fun x hx => ?_
        have := gr x hx
        unfold clear_ at this
        unfold out
        omega
      · rw [if_neg (by omega)]
  · rw [if_neg q2]; exact .inl ⟨rfl, rfl⟩
end Go.Proofs.Ytjacmhaeemhinaa
