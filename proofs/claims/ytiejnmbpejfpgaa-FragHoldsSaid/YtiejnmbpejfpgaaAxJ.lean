/- Rules for slices of the library: a capacity, told; room behind a slice. -/
import Derived.Test.YtiejnmbpejfpgaaAx30
namespace Go.Proofs.Ytiejnmbpejfpgaa
open Go.RowKit
set_option linter.unusedVariables false
section
variable {P : Program} {N : Nat} {Q : AX → AS → Prop} {tm : List (Nat × AV)} {bx : List (Option (List AV))} {rw : List (Option ARow)} {nb nr : Nat} {cd : ACode} {kk : List ACode}
theorem tm_cons {w0 : Base} {ρ : Env} {F : Nat → Prop} {a : Act} {w : World} {t : Nat} {v : AV} (hs : LSim w0 N ρ F ⟨tm, bx, rw, nb, nr⟩ a w) (hv : Rep ρ w0.V F w (a.tmps.getD t undef) v) : LSim w0 N ρ F ⟨(t, v) :: tm, bx, rw, nb, nr⟩ a w := by
  refine ⟨⟨hs.s.sz, hs.s.df, fun u => ?_, hs.s.bx, hs.s.rw, hs.s.ib, hs.s.ir, hs.s.ibr, hs.s.lb, hs.s.lr, hs.s.fl, hs.s.bel⟩, hs.b, hs.r, hs.wf⟩
  show Rep _ _ _ _ _ (if t = u then v else getT tm u)
  split
  · rename_i e; subst e; exact hv
  · exact hs.s.tm u
/-- A slice's capacity is some number. -/
theorem W.cap {t b k lo n : Nat} (ht : gT tm t = .ref b k lo n) (h : ∀ c, n ≤ c → c ≤ maxLen → WL P N (cd :: kk) Q ⟨(t, .refc b k lo n c) :: tm, bx, rw, nb, nr⟩) : WL P N (cd :: kk) Q ⟨tm, bx, rw, nb, nr⟩ := by
  refine ⟨fun c hc R w0 ρ F a w hs => ?_⟩
  rw [gT_eq] at ht
  have q := hs.s.tm t
  rw [show (AS.fs ⟨tm, bx, rw, nb, nr⟩).tm t = .ref b k lo n from ht] at q
  obtain ⟨ad, cc, p, e, hp, h1, h2, h3, h4, h5⟩ := q.ref_inv
  exact (h cc h1 h2).h c hc R w0 ρ F a w (tm_cons hs (by rw [e]; exact .refc ad b k lo n cc p hp h1 h2 h3 h4 h5))
/-- The last elements of a row, told no more. -/
theorem Wk.trim {σ : AS} {b : Nat} {r : ARow} (m : Nat) (hb : gO σ.rw b = some r) : Wk σ ⟨σ.tm, σ.bx, setO σ.rw b (some ⟨r.fro, r.k, r.es.take m⟩), σ.nb, σ.nr⟩ := by
  rw [gO_eq] at hb
  intro w0 N ρ F a w hs
  have q : ∀ x c, getO (setO σ.rw b (some ⟨r.fro, r.k, r.es.take m⟩)) x = some c → ∃ r0, getO σ.rw x = some r0 ∧ c.fro = r0.fro ∧ (∀ (V F : Nat → Prop) (w : World) (p : Pl), RowOk V F w p r0 → RowOk V F w p c) := fun x c e => by
    rw [getO_setO] at e
    split at e
    · rename_i hx; subst hx; cases e
      refine ⟨r, hb, rfl, fun V F w p ⟨o1, o2, o3⟩ => ?_⟩
      have hft := flat_take o1 m
      refine ⟨fun e he => o1 e (List.mem_of_mem_take he), by dsimp only; rw [hft, List.length_take]; omega, o3.imp id fun ⟨h3, h4, cs, T, fr, h5, h6, h7, h8⟩ => ⟨h3, h4, cs, T, fr, h5, h6, h7, fun i av hi => ?_⟩⟩
      dsimp only at hi
      rw [hft, List.getElem?_take] at hi
      split at hi
      · exact h8 i av hi
      · cases hi
    · exact ⟨c, e, rfl, fun _ _ _ _ h => h⟩
  refine ⟨ρ, F, ⟨⟨hs.s.sz, hs.s.df, hs.s.tm, hs.s.bx, fun x c p e1 e2 => ?_, hs.s.ib, fun x y p p' r1 r2 e1 e2 e3 e4 f1 f2 l1 l2 hq => ?_, hs.s.ibr, hs.s.lb, hs.s.lr, hs.s.fl, hs.s.bel⟩, hs.b, hs.r, hs.wf.1, fun x c e => ?_⟩, fun _ hx => hx, fun _ hx => .inl hx⟩
  · obtain ⟨r0, k1, _, k2⟩ := q x c e1
    exact k2 _ _ _ _ (hs.s.rw x r0 p k1 e2)
  · obtain ⟨r0, k1, k3, _⟩ := q x r1 e3
    obtain ⟨r0', k1', k3', _⟩ := q y r2 e4
    exact hs.s.ir x y p p' r0 r0' e1 e2 k1 k1' (by rw [← k3]; exact f1) (by rw [← k3']; exact f2) l1 l2 hq
  · obtain ⟨r0, k1, _⟩ := q x c e
    exact hs.wf.2 x r0 k1
end
end Go.Proofs.Ytiejnmbpejfpgaa
