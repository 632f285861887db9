/- Rules for slices of the library: a capacity, told; room behind a slice. -/
import Derived.Test.YtiejnmbpejfpgaaAx30
namespace Go.Proofs.Ytiejnmbpejfpgaa
open Go.RowKit
set_option linter.unusedVariables false
section
variable {P : Program} {N : Nat} {Q : AX → AS → Prop} {tm : List (Nat × AV)} {bx : List (Option (List AV))} {rw : List (Option ARow)} {nb nr : Nat} {cd : ACode} {kk : List ACode}
theorem tm_cons {w0 : Base} {ρ : Env} {F : Nat → Prop} {a : Act} {w : World} {t : Nat} {v : AV} (hs : LSim w0 N ρ F ⟨tm, bx, rw, nb, nr⟩ a w) (hv : Rep ρ w0.V F w (a.tmps.getD t undef) v) : LSim w0 N ρ F ⟨(t, v) :: tm, bx, rw, nb, nr⟩ a w := by
  refine ⟨⟨hs.s.sz, hs.s.df, fun u => ?_, hs.s.bx, hs.s.rw, hs.s.ib, hs.s.ir, hs.s.ibr, hs.s.lb, hs.s.lr, hs.s.fl, hs.s.bel⟩, hs.b, hs.r, hs.wf⟩
  show Rep _ _ _ _ _ (if t = u then v else getT tm u)
  split
  · rename_i e; subst e; exact hv
  · exact hs.s.tm u
/-- A slice's capacity is some number. -/
theorem W.cap {t b k lo n : Nat} (ht : gT tm t = .ref b k lo n) (h : ∀ c, n ≤ c → c ≤ maxLen → WL P N (cd :: kk) Q ⟨(t, .refc b k lo n c) :: tm, bx, rw, nb, nr⟩) : WL P N (cd :: kk) Q ⟨tm, bx, rw, nb, nr⟩ := by
  refine ⟨fun c hc R w0 ρ F a w hs => ?_⟩
  rw [gT_eq] at ht
  have q := hs.s.tm t
  rw [show (AS.fs ⟨tm, bx, rw, nb, nr⟩).tm t = .ref b k lo n from ht] at q
  obtain ⟨ad, cc, p, e, hp, h1, h2, h3, h4, h5⟩ := q.ref_inv
  exact (h cc h1 h2).h c hc R w0 ρ F a w (tm_cons hs (by rw [e]; exact .refc ad b k lo n cc p hp h1 h2 h3 h4 h5))
theorem flat_raw {k m : Nat} (f : Nat → Nat → Value) : ∀ (i : Nat), flat ((List.range' i m).map fun j => AV.agg ((List.range k).map fun x => .raw (f j x))) = (List.range' i m).flatMap fun j => (List.range k).map fun x => AV.raw (f j x) := fun i => by
  unfold flat
  rw [List.flatMap_map]
  rfl
/-- Where there is room, something stands. -/
theorem W.room {t b k lo n c : Nat} {es : List AV} (m : Nat) (ht : gT tm t = .refc b k lo n c) (hb : gO rw b = some ⟨false, k, es⟩) (hlo : lo + n = es.length) (hroom : n + m ≤ c) (hk : 0 < k)
    (h : ∀ us : List AV, us.length = m → WL P N (cd :: kk) Q ⟨tm, bx, setO rw b (some ⟨false, k, es ++ us⟩), nb, nr⟩) : WL P N (cd :: kk) Q ⟨tm, bx, rw, nb, nr⟩ := by
  refine ⟨fun cc hc R w0 ρ F a w hs => ?_⟩
  rw [gT_eq] at ht
  rw [gO_eq] at hb
  have q := hs.s.tm t
  rw [show (AS.fs ⟨tm, bx, rw, nb, nr⟩).tm t = .refc b k lo n c from ht] at q
  obtain ⟨ad, p, e, hp, h1, h2, h3, h4, h5⟩ := q.refc_inv
  have hfs : ∀ us : List AV, (AS.fs ⟨tm, bx, setO rw b (some ⟨false, k, es ++ us⟩), nb, nr⟩) = (AS.fs ⟨tm, bx, rw, nb, nr⟩).setR b (some ⟨false, k, es ++ us⟩) := fun us =>
    FS.ext' (fun _ => rfl) (fun _ => rfl) (fun x => by simp only [AS.fs, FS.setR, getO_setO])
  have hwf : ∀ us : List AV, WF ⟨tm, bx, setO rw b (some ⟨false, k, es ++ us⟩), nb, nr⟩ := fun us => ⟨hs.wf.1, fun x c hx => by
    simp only [AS.fs, getO_setO] at hx
    split at hx
    · rename_i hxb; subst hxb; exact hs.wf.2 x _ hb
    · exact hs.wf.2 x c hx⟩
  have hok := hs.s.rw b ⟨false, k, es⟩ p hb hp
  obtain ⟨o1, o2, o3⟩ := hok
  dsimp only at o1 o2 o3
  by_cases hm : m = 0
  · subst hm
    have := (h [] rfl).h cc hc R w0 ρ F a w ⟨by
      rw [hfs, List.append_nil]
      have e2 : (AS.fs ⟨tm, bx, rw, nb, nr⟩).setR b (some ⟨false, k, es⟩) = AS.fs ⟨tm, bx, rw, nb, nr⟩ := FS.ext' (fun _ => rfl) (fun _ => rfl) (fun x => by
        simp only [FS.setR, AS.fs]; split
        · rename_i q; subst q; exact hb.symm
        · rfl)
      rw [e2]; exact hs.s, hs.b, hs.r, hwf []⟩
    exact this
  · have hlim : 0 < p.lim := by
      have : 0 < (lo + c) * k := Nat.mul_pos (by omega) hk
      omega
    rcases o3 with o3 | ⟨o3, o4, cs, T, fr, o5, o6, o7, o8⟩
    · omega
    have hfit : (es.length + m) * k ≤ p.lim := by
      have : (es.length + m) * k ≤ (lo + c) * k := Nat.mul_le_mul_right _ (by omega)
      omega
    have hfe := width_flat o1
    obtain ⟨us, hus⟩ : ∃ us : List AV, us = (List.range' 0 m).map fun j => AV.agg ((List.range k).map fun x => .raw (cs.getD (p.off + (es.length * k + (j * k + x))) undef)) := ⟨_, rfl⟩
    have hul : us.length = m := by rw [hus]; simp
    have huw : ∀ e ∈ us, e.cells.length = k := fun e he => by
      rw [hus] at he
      obtain ⟨j, _, rfl⟩ := List.mem_map.1 he
      simp [AV.cells]
    have hget : ∀ (i : Nat) (av : AV), (flat us)[i]? = some av → ∃ u, cs[p.off + (es.length * k + i)]? = some u ∧ Rep0 F w u av := fun i av hi => by
      have hil := (List.getElem?_eq_some_iff.1 hi).1
      rw [width_flat huw, hul] at hil
      have hj : i / k < m := Nat.div_lt_of_lt_mul (by rw [Nat.mul_comm]; exact hil)
      have hx : i % k < k := Nat.mod_lt _ hk
      have hdm : i / k * k + i % k = i := by rw [Nat.mul_comm]; exact Nat.div_add_mod i k
      have e1 : us[i / k]? = some (AV.agg ((List.range k).map fun x => .raw (cs.getD (p.off + (es.length * k + (i / k * k + x))) undef))) := by
        rw [hus, List.getElem?_map, List.getElem?_range' hj]; simp
      have e2 := flat_get huw e1 hx
      rw [hdm, hi] at e2
      simp only [AV.cells, List.getElem?_map, List.getElem?_range hx, Option.map_some, Option.some.injEq] at e2
      subst e2
      rw [hdm]
      have hin : p.off + (es.length * k + i) < cs.size := by rw [Nat.add_mul] at hfit; omega
      refine ⟨cs[p.off + (es.length * k + i)], Array.getElem?_eq_getElem hin, ?_⟩
      rw [show cs.getD (p.off + (es.length * k + i)) undef = cs[p.off + (es.length * k + i)] by simp [Array.getD, hin]]
      exact .raw _
    have hsim := hs.s.writeRow (w' := w) (r' := ⟨false, k, es ++ us⟩) hb hp rfl rfl hlim rfl rfl rfl rfl (fun _ _ => rfl) fun _ => ⟨fun e he => (List.mem_append.1 he).elim (o1 e) (huw e), by
        dsimp only; rw [flat_append, List.length_append, hfe, width_flat huw, hul, ← Nat.add_mul]; exact hfit, .inr ⟨(fun e => by cases e), o4, cs, T, fr, o5, o6, o7, fun i av hi => by
        dsimp only at hi
        rw [flat_append] at hi
        by_cases hil : i < (flat es).length
        · rw [List.getElem?_append_left hil] at hi; exact o8 i av hi
        · rw [List.getElem?_append_right (by omega), hfe] at hi
          obtain ⟨u, u1, u2⟩ := hget _ av hi
          refine ⟨u, ?_, u2⟩
          rw [← u1]; congr 1; omega⟩⟩
    exact (h us hul).h cc hc R w0 ρ F a w ⟨by rw [hfs]; exact hsim, hs.b, hs.r, hwf us⟩
/-- The last elements of a row, told no more. -/
theorem Wk.trim {σ : AS} {b : Nat} {r : ARow} (m : Nat) (hb : gO σ.rw b = some r) : Wk σ ⟨σ.tm, σ.bx, setO σ.rw b (some ⟨r.fro, r.k, r.es.take m⟩), σ.nb, σ.nr⟩ := by
  rw [gO_eq] at hb
  intro w0 N ρ F a w hs
  have q : ∀ x c, getO (setO σ.rw b (some ⟨r.fro, r.k, r.es.take m⟩)) x = some c → ∃ r0, getO σ.rw x = some r0 ∧ c.fro = r0.fro ∧ (∀ (V F : Nat → Prop) (w : World) (p : Pl), RowOk V F w p r0 → RowOk V F w p c) := fun x c e => by
    rw [getO_setO] at e
    split at e
    · rename_i hx; subst hx; cases e
      refine ⟨r, hb, rfl, fun V F w p ⟨o1, o2, o3⟩ => ?_⟩
      have hft := flat_take o1 m
      refine ⟨fun e he => o1 e (List.mem_of_mem_take he), by dsimp only; rw [hft, List.length_take]; omega, o3.imp id fun ⟨h3, h4, cs, T, fr, h5, h6, h7, h8⟩ => ⟨h3, h4, cs, T, fr, h5, h6, h7, fun i av hi => ?_⟩⟩
      dsimp only at hi
      rw [hft, List.getElem?_take] at hi
      split at hi
      · exact h8 i av hi
      · cases hi
    · exact ⟨c, e, rfl, fun _ _ _ _ h => h⟩
  refine ⟨ρ, F, ⟨⟨hs.s.sz, hs.s.df, hs.s.tm, hs.s.bx, fun x c p e1 e2 => ?_, hs.s.ib, fun x y p p' r1 r2 e1 e2 e3 e4 f1 f2 l1 l2 hq => ?_, hs.s.ibr, hs.s.lb, hs.s.lr, hs.s.fl, hs.s.bel⟩, hs.b, hs.r, hs.wf.1, fun x c e => ?_⟩, fun _ hx => hx, fun _ hx => .inl hx⟩
  · obtain ⟨r0, k1, _, k2⟩ := q x c e1
    exact k2 _ _ _ _ (hs.s.rw x r0 p k1 e2)
  · obtain ⟨r0, k1, k3, _⟩ := q x r1 e3
    obtain ⟨r0', k1', k3', _⟩ := q y r2 e4
    exact hs.s.ir x y p p' r0 r0' e1 e2 k1 k1' (by rw [← k3]; exact f1) (by rw [← k3']; exact f2) l1 l2 hq
  · obtain ⟨r0, k1, _⟩ := q x c e
    exact hs.wf.2 x r0 k1
end
end Go.Proofs.Ytiejnmbpejfpgaa
