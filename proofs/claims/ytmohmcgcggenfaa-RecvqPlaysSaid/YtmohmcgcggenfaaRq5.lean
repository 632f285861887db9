/- What recvq's functions compute: Accept. -/
import Derived.Test.YtmohmcgcggenfaaRq4
import Derived.Test.YtmohmcgcggenfaaRqP2
namespace Go.Proofs.Ytmohmcgcggenfaa
open Go.RowKit
set_option linter.unusedVariables false
set_option linter.unusedSimpArgs false
set_option maxRecDepth 100000
set_option maxHeartbeats 4000000
def RS.ev (s : RS) (b : Int) : Int := if s.kn then sAdd b s.en else 0
def rq (v : Bool) (b : Int) (s : RS) : AV := qv v b s.data s.ps b s.kn (s.ev b) s.dn
theorem shift_pc (b : Int) (k : Nat) (l : List Pc) (h : ∀ x ∈ l, k ≤ x.1) : (shift k l).map (pc (sAdd b k)) = l.map (pc b) := by
  unfold shift
  rw [List.map_map]
  apply List.map_congr_left
  intro x hx
  have := h x hx
  simp only [Function.comp, pc]
  rw [sAdd_add, show (k : Int) + ((x.1 - k : Nat) : Int) = x.1 by omega]
/-- A piece laid, told of the record. -/
theorem layQ_eq (b : Int) (hb : 0 ≤ b ∧ b ≤ 4294967295) {s : RS} (h : s.Ok1) (p : Pc) (hl : 0 < p.2.length) (ev : Int) :
    layQ b s.data s.ps s.kn ev s.dn (layGo s.ps p) = qv false (sAdd b (s.lay p).2) (s.lay p).1.data (s.lay p).1.ps (sAdd b (s.lay p).2) s.kn ev s.dn ∧ (s.lay p).1.kn = s.kn ∧ (s.lay p).1.dn = s.dn ∧ (s.lay p).1.en = s.en - (s.lay p).2 := by
  have hs := layGo_sep (a := -1) (h.sep.mono (by omega)) (show (-1 : Int) < p.1 by omega) hl
  unfold RS.lay
  cases hL : layGo s.ps p with
  | nil => exact absurd hL (layGo_ne _ _)
  | cons x l =>
    rw [hL] at hs
    dsimp only [layQ]
    by_cases h0 : x.1 = 0
    · rw [if_pos h0, if_pos h0]
      dsimp only
      refine ⟨?_, rfl, rfl, rfl⟩
      unfold qv
      rw [shift_pc]
      intro y hy
      have := (sep_lt hs.2.2 y hy).1
      unfold pEnd at this; omega
    · rw [if_neg h0, if_neg h0]
      by_cases h8 : l.length < 8
      · rw [if_pos h8, if_pos h8]
        dsimp only
        rw [Int.natCast_zero, sAdd_zero b hb]
        exact ⟨rfl, rfl, rfl, by omega⟩
      · rw [if_neg h8, if_neg h8]
        dsimp only
        rw [Int.natCast_zero, sAdd_zero b hb]
        exact ⟨rfl, rfl, rfl, by omega⟩
theorem end_eq (at_ b n : Int) : sDiff (sAdd at_ n) b = sDiff (sAdd 0 (sDiff at_ b + n)) 0 := by unfold sDiff sAdd; omega
theorem beyond_eq (b : Int) {s : RS} (h : s.Ok1) (e : Int) (at_ : Int) (n : Int) (he : sDiff (sAdd at_ n) b = e) (h0 : 0 ≤ e ∧ e ≤ 256) : (s.ps.any fun p => decide (0 < sDiff (sAdd b (pEnd p)) (sAdd at_ n))) = s.beyond e := by
  unfold RS.beyond
  have hen : sAdd at_ n = sAdd b e := by rw [← he, sAdd_diff _ _ (sAdd_bd _ _)]
  rw [hen]
  have key : ∀ x ∈ s.ps, decide (0 < sDiff (sAdd b (pEnd x)) (sAdd b e)) = decide (e < (pEnd x : Int)) := fun x hx => by
    have := h.bd x hx
    rw [sDiff_add _ _ _ (by omega)]
    congr 1; simp only [eq_iff_iff]; omega
  generalize s.ps = l at key
  induction l with
  | nil => rfl
  | cons x l ih =>
    simp only [List.any_cons]
    rw [key x (List.mem_cons_self ..), ih fun y hy => key y (List.mem_cons_of_mem _ hy)]
end Go.Proofs.Ytmohmcgcggenfaa
