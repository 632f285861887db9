/- Bridge, plain: what the document keeps is what the bridge learns. -/
import Derived.Test.YtfpgpeomcefkhaaLs1
namespace Go.Proofs.Ytfpgpeomcefkhaa
open Go.RowKit
set_option linter.unusedVariables false
set_option linter.unusedSimpArgs false
set_option maxRecDepth 100000
set_option maxHeartbeats 4000000
theorem is_iff {m : Mac} {x : Lrn} : m.is x = true ↔ x.mac = m := by
  obtain ⟨a0, a1, a2, a3, a4, a5⟩ := m
  unfold Mac.is Lrn.mac
  simp only [Bool.and_eq_true, decide_eq_true_eq, Bool.and_true, Mac.mk.injEq]
theorem kn_full (r out : List Lrn) (h : 16 ≤ out.length) : kn r out = out := by
  cases r with
  | nil => rfl
  | cons x r => unfold kn; rw [if_neg (by omega)]
theorem kn_step {x : Lrn} {r out : List Lrn} (h : out.length < 16) : kn (x :: r) out = kn r (if out.any x.mac.is then out else x :: out) := by
  rw [kn, if_pos h]
theorem kn_15 : ∀ (r out : List Lrn), out.length = 15 → kn r out = out ∨ ∃ y, kn r out = y :: out
  | [], out, _ => .inl rfl
  | x :: r, out, h => by
    unfold kn
    rw [if_pos (by omega)]
    split
    · exact kn_15 r out h
    · exact .inr ⟨x, kn_full r _ (by simp; omega)⟩
def noX (x : Lrn) (b : List Lrn) : List Lrn := b.filter fun z => !x.mac.is z
theorem noX_cons_y {x y : Lrn} (b : List Lrn) (h : x.mac.is y = true) : noX x (y :: b) = noX x b := by unfold noX; simp [h]
theorem noX_cons_n {x y : Lrn} (b : List Lrn) (h : x.mac.is y = false) : noX x (y :: b) = y :: noX x b := by unfold noX; simp [h]
theorem noX_any {x : Lrn} (m : Mac) (h : x.mac ≠ m) (b : List Lrn) : (noX x b ++ [x]).any m.is = b.any m.is := by
  rw [Bool.eq_iff_iff]
  simp only [List.any_eq_true, noX, List.mem_append, List.mem_filter, List.mem_singleton, Bool.not_eq_true']
  constructor
  · rintro ⟨z, (⟨h1, h2⟩ | rfl), h3⟩
    · exact ⟨z, h1, h3⟩
    · exact absurd (is_iff.1 h3) h
  · rintro ⟨z, h1, h3⟩
    refine ⟨z, .inl ⟨h1, ?_⟩, h3⟩
    rw [Bool.eq_false_iff]
    intro h2
    exact h ((is_iff.1 h2).symm.trans (is_iff.1 h3))
theorem noX_none {x : Lrn} {b : List Lrn} (h : b.any x.mac.is = false) : noX x b = b := by
  unfold noX
  rw [List.filter_eq_self]
  intro z hz
  rw [List.any_eq_false] at h
  have := h z hz
  simpa using this
theorem noX_cnt {x : Lrn} {b : List Lrn} : (noX x b).length + b.countP x.mac.is = b.length := by
  unfold noX
  induction b with
  | nil => rfl
  | cons y b ih =>
    cases h : x.mac.is y <;> simp [h] at ih ⊢ <;> omega
theorem cnt_any {x : Lrn} {b : List Lrn} (h : b.any x.mac.is = false) : b.countP x.mac.is = 0 := by
  rw [List.countP_eq_zero]
  rw [List.any_eq_false] at h
  exact h
theorem any_cnt {x : Lrn} {b : List Lrn} (h : b.countP x.mac.is = 0) : b.any x.mac.is = false := by
  rw [List.countP_eq_zero] at h
  rw [List.any_eq_false]
  exact h
theorem kn_rel (x : Lrn) : ∀ (r b : List Lrn), (noX x b).length ≤ 15 → b.countP x.mac.is ≤ 1 → kn r (noX x b ++ [x]) = btail (noX x (kn r b)) ++ [x]
  | [], b, h1, _ => by
    unfold kn btail
    rw [if_neg (by omega)]
  | y :: r, b, h1, h2 => by
    have hc := noX_cnt (x := x) (b := b)
    by_cases h15 : (noX x b).length = 15
    · rw [kn_full _ _ (by simp; omega)]
      by_cases hb : b.length = 16
      · rw [kn_full _ _ (by omega)]
        unfold btail
        rw [if_neg (by omega)]
      · have h0 : b.countP x.mac.is = 0 := by omega
        have hn := noX_none (any_cnt h0)
        rcases kn_15 (y :: r) b (by omega) with q | ⟨z, q⟩
        · rw [q]; unfold btail; rw [if_neg (by omega)]
        · rw [q]
          cases hz : x.mac.is z
          · rw [noX_cons_n b hz]
            unfold btail
            rw [if_pos (by rw [hn]; simp; omega)]; rfl
          · rw [noX_cons_y b hz]
            unfold btail
            rw [if_neg (by omega)]
    · have hl : (noX x b).length < 15 := by omega
      rw [kn_step (by simp; omega), kn_step (by omega)]
      by_cases hy : x.mac = y.mac
      · have e1 : (noX x b ++ [x]).any y.mac.is = true := by
          rw [List.any_append]
          have : y.mac.is x = true := is_iff.2 hy
          simp [this]
        rw [if_pos e1]
        split
        · exact kn_rel x r b h1 h2
        · rename_i q
          have q : b.any x.mac.is = false := by rw [hy]; simpa using q
          have e2 := noX_cons_y b (x := x) (y := y) (is_iff.2 hy.symm)
          have := kn_rel x r (y :: b) (by rw [e2]; exact h1) (by rw [List.countP_cons, cnt_any q]; split <;> omega)
          rw [e2] at this
          exact this
      · rw [noX_any y.mac hy b]
        split
        · exact kn_rel x r b h1 h2
        · have hyx : x.mac.is y = false := by
            rw [Bool.eq_false_iff]; intro q; exact hy (is_iff.1 q).symm
          have e2 := noX_cons_n b hyx
          have := kn_rel x r (y :: b) (by rw [e2]; simp; omega) (by rw [List.countP_cons, hyx]; simpa using h2)
          rw [e2] at this
          exact this
theorem known_snoc (l : List Lrn) (m : Mac) (p : Int) : known (l ++ [⟨m.a0, m.a1, m.a2, m.a3, m.a4, m.a5, p⟩]) = blearn (known l) m p := by
  have := kn_rel ⟨m.a0, m.a1, m.a2, m.a3, m.a4, m.a5, p⟩ l.reverse [] (Nat.zero_le _) (Nat.zero_le _)
  unfold known
  rw [List.reverse_append]
  exact this
end Go.Proofs.Ytfpgpeomcefkhaa

namespace Go.Proofs.Ytfpgpeomcefkhaa
open Go.RowKit
set_option linter.unusedVariables false
set_option linter.unusedSimpArgs false
set_option maxRecDepth 100000
set_option maxHeartbeats 4000000
structure KInv (np : Nat) (K : List Lrn) : Prop where
  p : ∀ x ∈ K, 0 ≤ x.p ∧ x.p < np
  n : K.length ≤ 16
theorem bfwd_ok {np : Nat} (K : List Lrn) {p : Int} (hp : 0 ≤ p ∧ p < np) {s : List UInt8} (hs : ¬ s.length < 14) : bfwd np K p s = ⟨fseen K p s, fout (fseen K p s) np p (mac6 (s.take 6)), 0⟩ := by
  unfold bfwd; rw [if_neg (by omega), if_neg hs]
end Go.Proofs.Ytfpgpeomcefkhaa
