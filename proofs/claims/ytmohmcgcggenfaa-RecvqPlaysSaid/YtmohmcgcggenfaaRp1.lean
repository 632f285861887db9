/- RecvqPlays, plain: the bytes of a queue's pieces, one number at a time. -/
import Derived.Test.YtmohmcgcggenfaaRr3
namespace Go.Proofs.Ytmohmcgcggenfaa
open Go.RowKit
set_option linter.unusedVariables false
set_option linter.unusedSimpArgs false
def byteAt : List Pc → Nat → Int
  | [], _ => -1
  | p :: l, i => if p.1 ≤ i ∧ i < pEnd p then ((p.2.getD (i - p.1) 0).toNat : Int) else byteAt l i
theorem byteAt_bd : ∀ (l : List Pc) (i : Nat), -1 ≤ byteAt l i ∧ byteAt l i ≤ 255
  | [], i => by simp [byteAt]
  | p :: l, i => by
    unfold byteAt
    split
    · have := (p.2.getD (i - p.1) 0).toNat_lt; omega
    · exact byteAt_bd l i
theorem byteAt_neg {l : List Pc} {i : Nat} (h : byteAt l i < 0) : byteAt l i = -1 := by have := byteAt_bd l i; omega
theorem byteAt_in {p : Pc} {l : List Pc} {i : Nat} (h : p.1 ≤ i ∧ i < pEnd p) : byteAt (p :: l) i = ((p.2.getD (i - p.1) 0).toNat : Int) := by unfold byteAt; rw [if_pos h]
theorem byteAt_out {p : Pc} {l : List Pc} {i : Nat} (h : ¬ (p.1 ≤ i ∧ i < pEnd p)) : byteAt (p :: l) i = byteAt l i := by
  conv => lhs; unfold byteAt
  rw [if_neg h]
theorem byteAt_low : ∀ {l : List Pc} {a : Int} {i : Nat}, Sep a l → (i : Int) ≤ a → byteAt l i = -1
  | [], a, i, _, _ => rfl
  | p :: l, a, i, h, hi => by
    obtain ⟨h1, h2, h3⟩ := h
    rw [byteAt_out (by omega)]
    exact byteAt_low h3 (by unfold pEnd; omega)
theorem byteAt_high : ∀ {l : List Pc} {i : Nat}, (∀ x ∈ l, pEnd x ≤ i) → byteAt l i = -1
  | [], i, _ => rfl
  | p :: l, i, h => by
    have := h p (List.mem_cons_self ..)
    rw [byteAt_out (by omega)]
    exact byteAt_high fun x hx => h x (List.mem_cons_of_mem _ hx)
theorem byteAt_app : ∀ (l m : List Pc) (i : Nat), byteAt (l ++ m) i = if byteAt l i < 0 then byteAt m i else byteAt l i
  | [], m, i => by simp [byteAt]
  | p :: l, m, i => by
    by_cases h : p.1 ≤ i ∧ i < pEnd p
    · rw [List.cons_append, byteAt_in h, byteAt_in h, if_neg (by omega)]
    · rw [List.cons_append, byteAt_out h, byteAt_out h, byteAt_app l m i]
theorem byteAt_any {l : List Pc} {i : Nat} (h : 0 ≤ byteAt l i) : ∃ x ∈ l, x.1 ≤ i ∧ i < pEnd x := by
  induction l with
  | nil => simp [byteAt] at h
  | cons p l ih =>
    by_cases q : p.1 ≤ i ∧ i < pEnd p
    · exact ⟨p, List.mem_cons_self .., q⟩
    · rw [byteAt_out q] at h
      obtain ⟨x, hx, hq⟩ := ih h
      exact ⟨x, List.mem_cons_of_mem _ hx, hq⟩
theorem byteAt_some {l : List Pc} {i : Nat} {x : Pc} (hx : x ∈ l) (h : x.1 ≤ i ∧ i < pEnd x) : 0 ≤ byteAt l i := by
  induction l with
  | nil => cases hx
  | cons p l ih =>
    by_cases q : p.1 ≤ i ∧ i < pEnd p
    · rw [byteAt_in q]; omega
    · rw [byteAt_out q]
      rcases List.mem_cons.1 hx with rfl | hx
      · exact absurd h q
      · exact ih hx
theorem both_at (x p : Pc) (h1 : ¬ pEnd x < p.1) (h2 : ¬ pEnd p < x.1) (i : Nat) : byteAt [both x p] i = if x.1 ≤ i ∧ i < pEnd x then ((x.2.getD (i - x.1) 0).toNat : Int) else byteAt [p] i := by
  have he := both_end x p
  by_cases q : (both x p).1 ≤ i ∧ i < pEnd (both x p)
  · rw [byteAt_in q]
    obtain ⟨q1, q2⟩ := q
    rw [he] at q2
    unfold both at q1 ⊢
    dsimp only at q1 ⊢
    have hj : i - min x.1 p.1 < bothN x p := by unfold bothN; omega
    have hb : (bothD x p).getD (i - min x.1 p.1) 0 = if x.1 ≤ i ∧ i < pEnd x then x.2.getD (i - x.1) 0 else if p.1 ≤ i ∧ i < pEnd p then p.2.getD (i - p.1) 0 else 0 := by
      unfold bothD
      rw [List.getD_eq_getElem?_getD, List.getElem?_map, List.getElem?_range hj]
      simp only [Option.map_some, Option.getD_some]
      rw [show min x.1 p.1 + (i - min x.1 p.1) = i by omega]
    rw [hb]
    by_cases qx : x.1 ≤ i ∧ i < pEnd x
    · rw [if_pos qx, if_pos qx]
    · have qp : p.1 ≤ i ∧ i < pEnd p := by omega
      rw [if_neg qx, if_neg qx, if_pos qp, byteAt_in qp]
  · rw [byteAt_out q]
    have q' : ¬ (min x.1 p.1 ≤ i ∧ i < max (pEnd x) (pEnd p)) := by rw [he] at q; exact q
    rw [if_neg (by omega), byteAt_out (by omega)]
theorem layGo_at : ∀ (l : List Pc) (a : Int) (p : Pc), Sep a l → 0 < p.2.length → ∀ i, byteAt (layGo l p) i = if byteAt l i < 0 then byteAt [p] i else byteAt l i
  | [], a, p, _, _, i => by simp [layGo, byteAt]
  | x :: l, a, p, hs, hp, i => by
    obtain ⟨s1, s2, s3⟩ := hs
    unfold layGo
    by_cases c1 : pEnd x < p.1
    · rw [if_pos c1]
      by_cases q : x.1 ≤ i ∧ i < pEnd x
      · rw [byteAt_in q, byteAt_in q, if_neg (by omega)]
      · rw [byteAt_out q, byteAt_out q]; exact layGo_at l _ p s3 hp i
    rw [if_neg c1]
    by_cases c2 : pEnd p < x.1
    · rw [if_pos c2]
      by_cases q : p.1 ≤ i ∧ i < pEnd p
      · have hm : byteAt (x :: l) i = -1 := by
          rw [byteAt_out (by omega)]
          exact byteAt_low s3 (by unfold pEnd at *; omega)
        rw [byteAt_in q, hm, if_pos (by decide), byteAt_in q]
      · rw [byteAt_out q, layGo_at l _ x s3 s2 i, byteAt_out (p := p) (l := []) q]
        by_cases qx : x.1 ≤ i ∧ i < pEnd x
        · have hm : byteAt l i = -1 := byteAt_low s3 (by omega)
          rw [hm, if_pos (by decide), byteAt_in qx, byteAt_in qx, if_neg (by omega)]
        · rw [byteAt_out qx, byteAt_out qx]
    · rw [if_neg c2, layGo_at l _ (both x p) s3 (both_len x p s2) i, both_at x p c1 c2 i]
      by_cases qx : x.1 ≤ i ∧ i < pEnd x
      · have hm : byteAt l i = -1 := byteAt_low s3 (by omega)
        rw [hm, if_pos (by decide), if_pos qx, byteAt_in qx, if_neg (by omega)]
      · rw [if_neg qx, byteAt_out qx]
theorem byteAt_shift (k : Nat) : ∀ (l : List Pc), (∀ x ∈ l, k ≤ x.1) → ∀ i, byteAt (shift k l) i = byteAt l (i + k)
  | [], _, i => rfl
  | p :: l, h, i => by
    have hp := h p (List.mem_cons_self ..)
    have ih := byteAt_shift k l (fun x hx => h x (List.mem_cons_of_mem _ hx)) i
    have e : shift k (p :: l) = (p.1 - k, p.2) :: shift k l := rfl
    rw [e]
    by_cases q : p.1 ≤ i + k ∧ i + k < pEnd p
    · rw [byteAt_in q, byteAt_in (by unfold pEnd at *; dsimp only; omega)]
      dsimp only
      rw [show i - (p.1 - k) = i + k - p.1 by omega]
    · rw [byteAt_out q, byteAt_out (by unfold pEnd at *; dsimp only; omega), ih]
/-- The list of 256 numbers. -/
def gotOf (l : List Pc) : List Int := (List.range 256).map (byteAt l)
theorem gotOf_len (l : List Pc) : (gotOf l).length = 256 := by simp [gotOf]
theorem gotOf_at (l : List Pc) (i : Nat) (h : i < (gotOf l).length) : (gotOf l)[i] = byteAt l i := by simp [gotOf]
theorem gotOf_by (l : List Pc) : ByI (gotOf l) := by
  intro z hz
  obtain ⟨i, _, rfl⟩ := List.mem_map.1 hz
  exact byteAt_bd l i
theorem gotOf_nil : gotOf [] = List.replicate 256 (-1) := by
  apply List.ext_getElem
  · rw [gotOf_len, List.length_replicate]
  · intro i h1 h2; rw [gotOf_at, List.getElem_replicate]; rfl
/-- How many pieces begin at a number or ahead of it. -/
def cnt (l : List Pc) (i : Nat) : Nat := (l.filter fun p => decide (p.1 ≤ i)).length
theorem cnt_low {l : List Pc} {a : Int} {i : Nat} (hs : Sep a l) (h : (i : Int) ≤ a) : cnt l i = 0 := by
  unfold cnt
  rw [List.filter_eq_nil_iff.2]
  · rfl
  · intro x hx
    have := (sep_lt hs x hx).1
    simp; omega
theorem cnt_cons (p : Pc) (l : List Pc) (i : Nat) : cnt (p :: l) i = cnt l i + if p.1 ≤ i then 1 else 0 := by
  unfold cnt
  rw [List.filter_cons]
  by_cases h : p.1 ≤ i
  · rw [if_pos (by simpa using h), if_pos h]; rfl
  · rw [if_neg (by simpa using h), if_neg h]; rfl
theorem cnt_step : ∀ (l : List Pc) (a : Int), Sep a l → ∀ i : Nat, 1 ≤ i → cnt l i = cnt l (i - 1) + if 0 ≤ byteAt l i ∧ byteAt l (i - 1) < 0 then 1 else 0
  | [], a, _, i, _ => by simp [cnt, byteAt]
  | p :: l, a, hs, i, hi => by
    obtain ⟨s1, s2, s3⟩ := hs
    have hpe : pEnd p = p.1 + p.2.length := rfl
    rw [cnt_cons, cnt_cons]
    rcases Nat.lt_trichotomy p.1 i with q | q | q
    · rw [if_pos (show p.1 ≤ i by omega), if_pos (show p.1 ≤ i - 1 by omega)]
      rcases Nat.lt_trichotomy i (pEnd p) with r | r | r
      · rw [cnt_low s3 (i := i) (by omega), cnt_low s3 (i := i - 1) (by omega), byteAt_in (i := i) (by omega), byteAt_in (i := i - 1) (by omega), if_neg (by omega)]
      · have e : byteAt (p :: l) i = -1 := by rw [byteAt_out (by omega)]; exact byteAt_low s3 (by omega)
        rw [cnt_low s3 (i := i) (by omega), cnt_low s3 (i := i - 1) (by omega), e, if_neg (by omega)]
      · rw [cnt_step l _ s3 i hi, byteAt_out (i := i) (by omega), byteAt_out (i := i - 1) (by omega)]
        omega
    · have e : byteAt (p :: l) (i - 1) = -1 := by rw [byteAt_out (by omega)]; exact byteAt_low s3 (by omega)
      rw [if_pos (show p.1 ≤ i by omega), if_neg (show ¬ p.1 ≤ i - 1 by omega), cnt_low s3 (i := i) (by omega), cnt_low s3 (i := i - 1) (by omega), e, byteAt_in (i := i) (by omega), if_pos (by omega)]
    · have e : byteAt (p :: l) i = -1 := by rw [byteAt_out (by omega)]; exact byteAt_low s3 (by omega)
      rw [if_neg (show ¬ p.1 ≤ i by omega), if_neg (show ¬ p.1 ≤ i - 1 by omega), cnt_low s3 (i := i) (by omega), cnt_low s3 (i := i - 1) (by omega), e, if_neg (by omega)]
theorem runs_gotOf {l : List Pc} (hs : Sep 0 l) (hb : ∀ x ∈ l, pEnd x ≤ 256) : runsI (gotOf l) = l.length := by
  have hg := gotOf_len l
  have key : ∀ i : Nat, i < 256 → runsI ((gotOf l).take (i + 1)) = cnt l i := by
    intro i
    induction i with
    | zero =>
      intro _
      rw [cnt_low hs (by decide)]
      cases gotOf l with
      | nil => rfl
      | cons a l => simp [runsI]
    | succ i ih =>
      intro hi
      rw [runsI_snoc (gotOf l) (i + 1) (by omega) (by omega), ih (by omega), cnt_step l 0 hs (i + 1) (by omega), gotOf_at, gotOf_at]
      rfl
  have h2 := key 255 (by decide)
  rw [show gotOf l = (gotOf l).take (255 + 1) by rw [List.take_of_length_le (by omega)], h2]
  unfold cnt
  rw [List.filter_eq_self.2]
  intro x hx
  have h3 := hb x hx
  have h4 := (sep_lt hs x hx).2
  unfold pEnd at h3
  simp; omega
theorem front_none {l : List Pc} (hs : Sep 0 l) : frontI (gotOf l) = [] := by
  have h := front_stop (l := gotOf l) (i := 0) (Nat.zero_le _) (fun j _ h => absurd h (Nat.not_lt_zero _)) (fun hj => by rw [gotOf_at, byteAt_low hs (by decide)]; decide)
  unfold frontI; rw [h]; rfl
theorem front_some {x : Pc} {l : List Pc} (h0 : x.1 = 0) (hs : Sep (pEnd x) l) (hb : pEnd x ≤ 256) : frontI (gotOf (x :: l)) = x.2 := by
  have hpe : pEnd x = x.2.length := by unfold pEnd; omega
  have hg := gotOf_len (x :: l)
  have h := front_stop (l := gotOf (x :: l)) (i := x.2.length) (by omega) (fun j hj q => by rw [gotOf_at, byteAt_in (by omega)]; omega) (fun hj => by
    rw [gotOf_at, byteAt_out (by omega), byteAt_low hs (by omega)]; decide)
  unfold frontI
  rw [h]
  apply List.ext_getElem
  · simp; omega
  · intro i h1 h2
    rw [List.getElem_map, List.getElem_take, gotOf_at, byteAt_in (by omega)]
    rw [h0, Nat.sub_zero, getD_lt _ _ h2]
    simp
theorem gotOf_shift {x : Pc} {l : List Pc} (h0 : x.1 = 0) (hs : Sep (pEnd x) l) (hb : pEnd x ≤ 256) (hbl : ∀ y ∈ l, pEnd y ≤ 256) : (gotOf (x :: l)).drop x.2.length ++ List.replicate x.2.length (-1) = gotOf (shift x.2.length l) := by
  have hpe : pEnd x = x.2.length := by unfold pEnd; omega
  have hg := gotOf_len (x :: l)
  have hsh := byteAt_shift x.2.length l fun y hy => by have := (sep_lt hs y hy).1; omega
  apply List.ext_getElem
  · rw [gotOf_len]; simp; omega
  · intro i h1 h2
    rw [gotOf_len] at h2
    rw [gotOf_at, hsh]
    by_cases q : i < 256 - x.2.length
    · rw [List.getElem_append_left (by simp; omega), List.getElem_drop, gotOf_at, byteAt_out (by omega), Nat.add_comm]
    · rw [List.getElem_append_right (by simp; omega), List.getElem_replicate]
      symm
      exact byteAt_high fun y hy => by have := hbl y hy; omega
end Go.Proofs.Ytmohmcgcggenfaa
