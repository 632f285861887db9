/- What a ring holds: a log of all frames that were ever posted, and how far the four counts are. -/
import Derived.Test.YtlmioolkofbboaaRing4
namespace Go.Proofs.Ytlmioolkofbboaa
set_option linter.unusedVariables false
set_option linter.unusedSimpArgs false

/-- The ring x has n places, began at the count c, and ever posted were L; taken b, done e, reaped f. -/
structure Log (x : Rg) (n : Nat) (c : Int) (L : List (List UInt8)) (b e f : Nat) : Prop where
  n1 : 1 ≤ n ∧ n ≤ 16
  nd : (65536 : Int) % n = 0
  c0 : 0 ≤ c ∧ c < 65536
  sl : x.s.length = n
  sb : ∀ y ∈ x.s, y.length ≤ 1000000
  p : x.p = (c + L.length) % 65536
  t : x.t = (c + b) % 65536
  d : x.d = (c + e) % 65536
  r : x.r = (c + f) % 65536
  l1 : f ≤ e
  l2 : e ≤ b
  l3 : b ≤ L.length
  l4 : L.length ≤ f + n
  at' : ∀ j, f ≤ j → j < L.length → x.s.getD ((c + j) % n).toNat [] = L.getD j []
  fr : ∀ j, L.length ≤ j → j < f + n → x.s.getD ((c + j) % n).toNat [] = []

theorem mod_dvd {n : Nat} (h : (65536 : Int) % n = 0) (a : Int) : a % 65536 % n = a % n :=
  Int.emod_emod_of_dvd a (Int.dvd_of_emod_eq_zero h)
theorem slot_lt {n : Nat} (h : 1 ≤ n) (a : Int) : (a % n).toNat < n := by
  have := Int.emod_lt_of_pos a (show (0 : Int) < n by omega)
  have := Int.emod_nonneg a (show (n : Int) ≠ 0 by omega)
  omega
theorem slot_eq {n : Nat} (h : 1 ≤ n) {c : Int} {i j f : Nat} (hi : f ≤ i) (hi2 : i < f + n) (hj : f ≤ j) (hj2 : j < f + n) (e : ((c + i) % n).toNat = ((c + j) % n).toNat) : i = j := by
  have a1 := Int.emod_nonneg (c + i) (show (n : Int) ≠ 0 by omega)
  have a2 := Int.emod_nonneg (c + j) (show (n : Int) ≠ 0 by omega)
  have e' : (c + i) % n = (c + j) % n := by omega
  have h3 : ((c + i) - (c + j)) % (n : Int) = 0 := by
    rw [Int.sub_emod, e']; simp
  have h4 : ((i : Int) - j) % n = 0 := by rw [← h3]; congr 1; omega
  have h5 := Int.dvd_of_emod_eq_zero h4
  rcases Nat.lt_trichotomy i j with q | q | q
  · have h6 : (n : Int) ∣ (j : Int) - i := by have := Int.dvd_neg.2 h5; rw [Int.neg_sub] at this; exact this
    have := Int.le_of_dvd (by omega) h6; omega
  · exact q
  · have := Int.le_of_dvd (by omega) h5; omega
theorem slot_wrap {n : Nat} (c : Int) (f : Nat) : ((c + (f + n : Nat)) % n).toNat = ((c + f) % n).toNat := by
  congr 1
  rw [show c + ((f + n : Nat) : Int) = (c + f) + n by omega, Int.add_emod_right]
theorem getD_set {α : Type} (l : List α) (i j : Nat) (v d : α) (hi : i < l.length) : (l.set i v).getD j d = if j = i then v else l.getD j d := by
  by_cases h : j = i
  · subst h; simp [hi]
  · rw [if_neg h]; simp only [List.getD_eq_getElem?_getD, List.getElem?_set_ne (fun e => h e.symm)]
theorem getD_snoc {α : Type} (l : List α) (v d : α) (j : Nat) : (l ++ [v]).getD j d = if j = l.length then v else l.getD j d := by
  by_cases h : j = l.length
  · subst h; simp
  · rw [if_neg h]; simp only [List.getD_eq_getElem?_getD]
    rcases Nat.lt_or_ge j l.length with q | q
    · rw [List.getElem?_append_left q]
    · rw [List.getElem?_eq_none (by simp; omega), List.getElem?_eq_none (by omega)]
section
variable {x : Rg} {n : Nat} {c : Int} {L : List (List UInt8)} {b e f : Nat} (h : Log x n c L b e f)
include h
theorem Log.ok : x.Ok := by
  have := h.n1
  refine ⟨by rw [h.sl]; exact h.n1, h.sb, ?_, ?_, ?_, ?_⟩
  · rw [h.p]; omega
  · rw [h.t]; omega
  · rw [h.d]; omega
  · rw [h.r]; omega
theorem Log.len : (x.p - x.r) % 65536 = (L.length : Int) - f := by
  have := h.n1; have := h.l1; have := h.l2; have := h.l3; have := h.l4
  rw [h.p, h.r]; omega
omit h in
theorem Log.post_long {g : List UInt8} (hg : 214 < g.length) : x.post g = (x, 4) := by unfold Rg.post; rw [if_pos hg]
theorem Log.post_full {g : List UInt8} (hg : g.length ≤ 214) (hf : L.length = f + n) : x.post g = (x, 5) := by
  have := h.len; have := h.sl
  unfold Rg.post; rw [if_neg (by omega), if_pos (by omega)]
theorem Log.post_ok {g : List UInt8} (hg : g.length ≤ 214) (hf : L.length < f + n) : (x.post g).2 = 0 ∧ Log (x.post g).1 n c (L ++ [g]) b e f := by
  have h1 := h.len; have h2 := h.sl; have hn := h.n1
  have hlt := slot_lt hn.1 (c + L.length)
  have ei : x.p % (x.s.length : Int) = (c + L.length) % n := by rw [h.p, h2, mod_dvd h.nd]
  have es : x.post g = ({ x with s := x.s.set ((c + L.length) % n).toNat g, p := (x.p + 1) % 65536 }, 0) := by
    unfold Rg.post; rw [if_neg (by omega), if_neg (by omega), ei]
  rw [es]
  have hll : (L ++ [g]).length = L.length + 1 := by simp
  refine ⟨rfl, ⟨h.n1, h.nd, h.c0, by simp [h2], fun y hy => ?_, ?_, h.t, h.d, h.r, h.l1, h.l2, by have := h.l3; omega, by omega, fun j hj1 hj2 => ?_, fun j hj1 hj2 => ?_⟩⟩
  · rcases List.mem_or_eq_of_mem_set hy with q | q
    · exact h.sb y q
    · subst q; omega
  · dsimp only; rw [h.p, hll]; omega
  · dsimp only
    rw [getD_set _ _ _ _ _ (by omega), getD_snoc]
    have := h.l1; have := h.l2; have := h.l3
    by_cases q : j = L.length
    · subst q; rw [if_pos rfl, if_pos rfl]
    · rw [if_neg q, if_neg (fun e => q (slot_eq hn.1 (f := f) hj1 (by omega) (by omega) (by omega) e))]
      exact h.at' j hj1 (by omega)
  · dsimp only
    rw [getD_set _ _ _ _ _ (by omega)]
    have := h.l1; have := h.l2; have := h.l3
    rw [if_neg (fun e => by have := slot_eq hn.1 (f := f) (by omega) hj2 (by omega) (by omega) e; omega)]
    exact h.fr j (by omega) hj2
theorem Log.take_none (hb : b = L.length) : x.take = (x, [], 2) := by
  unfold Rg.take; rw [if_pos (by rw [h.t, h.p, hb])]
theorem Log.take_some (hb : b < L.length) : x.take = ({ x with t := (x.t + 1) % 65536 }, L.getD b [], 0) ∧ Log { x with t := (x.t + 1) % 65536 } n c L (b + 1) e f := by
  have hn := h.n1; have := h.l1; have := h.l2; have := h.l3; have := h.l4
  refine ⟨?_, ⟨h.n1, h.nd, h.c0, h.sl, h.sb, h.p, ?_, h.d, h.r, h.l1, by omega, by omega, h.l4, h.at', h.fr⟩⟩
  · unfold Rg.take
    rw [if_neg (by rw [h.t, h.p]; omega)]
    have ei : x.t % (x.s.length : Int) = (c + b) % n := by rw [h.t, h.sl, mod_dvd h.nd]
    rw [ei, h.at' b (by omega) hb]
  · dsimp only; rw [h.t]; omega
theorem Log.finish_none (hb : e = b) : x.finish = (x, 2) := by
  unfold Rg.finish; rw [if_pos (by rw [h.t, h.d, hb])]
theorem Log.finish_some (hb : e < b) : x.finish = ({ x with d := (x.d + 1) % 65536 }, 0) ∧ Log { x with d := (x.d + 1) % 65536 } n c L b (e + 1) f := by
  have hn := h.n1; have := h.l1; have := h.l2; have := h.l3; have := h.l4
  refine ⟨?_, ⟨h.n1, h.nd, h.c0, h.sl, h.sb, h.p, h.t, ?_, h.r, by omega, by omega, h.l3, h.l4, h.at', h.fr⟩⟩
  · unfold Rg.finish
    rw [if_neg (by rw [h.t, h.d]; omega)]
  · dsimp only; rw [h.d]; omega
theorem Log.reap_none (hb : f = e) : x.reap = (x, [], 2) := by
  unfold Rg.reap; rw [if_pos (by rw [h.r, h.d, hb])]
theorem Log.reap_some (hb : f < e) : x.reap = ({ x with s := x.s.set ((c + f) % n).toNat [], r := (x.r + 1) % 65536 }, L.getD f [], 0) ∧ Log { x with s := x.s.set ((c + f) % n).toNat [], r := (x.r + 1) % 65536 } n c L b e (f + 1) := by
  have hn := h.n1; have := h.l1; have := h.l2; have := h.l3; have := h.l4
  have hlt := slot_lt hn.1 (c + f)
  have h2 := h.sl
  have ei : x.r % (x.s.length : Int) = (c + f) % n := by rw [h.r, h.sl, mod_dvd h.nd]
  refine ⟨?_, ⟨h.n1, h.nd, h.c0, by simp [h.sl], fun y hy => ?_, h.p, h.t, h.d, ?_, by omega, h.l2, h.l3, by omega, fun j hj1 hj2 => ?_, fun j hj1 hj2 => ?_⟩⟩
  · unfold Rg.reap
    rw [if_neg (by rw [h.r, h.d]; omega), ei, h.at' f (by omega) (by omega)]
  · rcases List.mem_or_eq_of_mem_set hy with q | q
    · exact h.sb y q
    · subst q; simp
  · dsimp only; rw [h.r]; omega
  · dsimp only
    rw [getD_set _ _ _ _ _ (by omega), if_neg (fun e => by have := slot_eq hn.1 (f := f) (by omega) (by omega) (by omega) (by omega) e; omega)]
    exact h.at' j (by omega) hj2
  · dsimp only
    rw [getD_set _ _ _ _ _ (by omega)]
    by_cases q : j = f + n
    · rw [q, slot_wrap, if_pos rfl]
    · split
      · rfl
      · exact h.fr j hj1 (by omega)
end
/-- An empty ring. -/
def Rg.at (n : Nat) (c : Int) : Rg := ⟨List.replicate n [], c, c, c, c⟩
theorem getD_replicate {α : Type} (n j : Nat) (d : α) : (List.replicate n d).getD j d = d := by
  simp only [List.getD_eq_getElem?_getD, List.getElem?_replicate]; split <;> rfl
theorem log_at {n : Nat} {c : Int} (n1 : 1 ≤ n ∧ n ≤ 16) (nd : (65536 : Int) % n = 0) (c0 : 0 ≤ c ∧ c < 65536) : Log (Rg.at n c) n c [] 0 0 0 := by
  have e : c = (c + 0) % 65536 := by omega
  refine ⟨n1, nd, c0, by simp [Rg.at], fun y hy => ?_, e, e, e, e, Nat.le_refl _, Nat.le_refl _, Nat.le_refl _, by simp, fun j _ hj => by simp at hj, fun j _ _ => getD_replicate _ _ _⟩
  simp only [Rg.at, List.mem_replicate] at hy; rw [hy.2]; simp
/-- What was not taken is given back. -/
theorem log_quiet {x : Rg} {n : Nat} {c : Int} {L : List (List UInt8)} {b e f : Nat} (h : Log x n c L b e f) : Log (Rg.at n x.p) n c L L.length L.length L.length := by
  have := h.p
  refine ⟨h.n1, h.nd, h.c0, by simp [Rg.at], fun y hy => ?_, h.p, h.p, h.p, h.p, Nat.le_refl _, Nat.le_refl _, Nat.le_refl _, by omega, fun j h1 h2 => by omega, fun j _ _ => getD_replicate _ _ _⟩
  simp only [Rg.at, List.mem_replicate] at hy; rw [hy.2]; simp
/-- Places: one of five. -/
theorem places_ok (z : Int) (h : 0 ≤ z) : (1 ≤ (2 : Nat) ^ (z % 5).toNat ∧ (2 : Nat) ^ (z % 5).toNat ≤ 16) ∧ (65536 : Int) % (2 ^ (z % 5).toNat : Nat) = 0 := by
  have h1 : z % 5 = 0 ∨ z % 5 = 1 ∨ z % 5 = 2 ∨ z % 5 = 3 ∨ z % 5 = 4 := by omega
  rcases h1 with e | e | e | e | e <;> rw [e] <;> decide
end Go.Proofs.Ytlmioolkofbboaa
