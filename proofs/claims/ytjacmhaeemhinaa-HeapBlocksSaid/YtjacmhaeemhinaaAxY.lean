/- Going over a map. -/
import Derived.Test.YtjacmhaeemhinaaAxX
import Derived.Maps.RangeRun
namespace Go.Proofs.Ytjacmhaeemhinaa
open Go.RowKit
set_option linter.unusedVariables false
set_option linter.unusedSimpArgs false
set_option linter.unusedSectionVars false
def itO (since : Nat) (seen : List Nat) (last : Nat) (n : Nat) : Obj := .mapIter (some (n - 1)) since seen.toArray last
/-- The row that stands for one that goes over a map. -/
def itR (since : Nat) (seen : List Nat) (last : Nat) : ARow := ⟨false, 0, [.obj (itO since seen last)]⟩
theorem compX_inv9 {P : Program} {o : Op} {t : Nat} {xs : List Opd} (h : compX P o = some (.callv (xc t 9) xs)) : ∃ x x', o = .entry x ∧ cO x = some x' ∧ xs = [x'] := by
  unfold compX at h
  split at h
  · have := (xc_inj (Option.some.inj h) (by omega) (by omega)).2.1; omega
  · obtain ⟨m', h1, h⟩ := Option.bind_eq_some_iff.1 h
    obtain ⟨q', h2, h⟩ := Option.bind_eq_some_iff.1 h
    obtain ⟨x', h3, h⟩ := Option.map_eq_some_iff.1 h
    have := (xc_inj h (by omega) (by omega)).2.1; omega
  · rename_i t' m q ok
    obtain ⟨m', h1, h⟩ := Option.bind_eq_some_iff.1 h
    obtain ⟨q', h2, h⟩ := Option.map_eq_some_iff.1 h
    cases ok
    · have := (xc_inj h (by omega) (by decide)).2.1; simp at this
    · have := (xc_inj h (by omega) (by decide)).2.1; simp at this
  · obtain ⟨x', h1, h⟩ := Option.map_eq_some_iff.1 h
    have := (xc_inj h (by omega) (by omega)).2.1; omega
  · obtain ⟨x', h1, h⟩ := Option.map_eq_some_iff.1 h
    have := (xc_inj h (by omega) (by omega)).2.1; omega
  · rename_i x
    obtain ⟨x', h1, h⟩ := Option.map_eq_some_iff.1 h
    obtain ⟨_, _, rfl⟩ := xc_inj h (by omega) (by omega)
    exact ⟨x, x', rfl, h1, rfl⟩
  · have := (xc_inj (Option.some.inj h) (by omega) (by omega)).2.1; omega
  · have := (xc_inj (Option.some.inj h) (by omega) (by omega)).2.1; omega
  · obtain ⟨t', h1, h⟩ := Option.bind_eq_some_iff.1 h
    obtain ⟨xs', h2, h⟩ := Option.map_eq_some_iff.1 h
    have := (xc_inj h (by omega) (by omega)).2.1; omega
  · obtain ⟨t', h1, h⟩ := Option.bind_eq_some_iff.1 h
    split at h
    · obtain ⟨xs', h2, h⟩ := Option.map_eq_some_iff.1 h
      have := (xc_inj h (by omega) (by omega)).2.1; omega
    · cases h
  · cases h
section
variable {P : Program} {w0 : Base} {N : Nat} {ρ : Env} {F : Nat → Prop} {σ : FS} {a : Act} {w : World}
theorem itR_ok {B F : Nat → Prop} {p : Pl} {s c : Nat} {sn : List Nat} (h0 : p.off = 0) (hB : ¬ B p.blk) (hF : ¬ F p.blk) (hh : w.heap[p.blk]? = some (itO s sn c p.lim)) : RowOk B F w p (itR s sn c) :=
  ⟨fun e he => by rw [List.mem_singleton.1 he]; rfl, Nat.zero_le _, .inr ⟨(fun e => by cases e), fun _ => ⟨hB, hF⟩, (List.replicate p.lim undef).toArray, 0, (0, 0), .inr ⟨_, rfl, rfl, h0, hh⟩, by simp [h0], fun _ => rfl, (fun i av e => by cases e)⟩⟩
theorem itR_at (h : Sim w0 N ρ F σ a w) {v : Value} {i b : Nat} {s c : Nat} {sn : List Nat} (hm : Rep ρ w0.V F w v (.itr i b)) (hr : σ.rw i = some (itR s sn c)) : ∃ p q, ρ.r i = some p ∧ ρ.r b = some q ∧ (p.lim = q.blk + 1 ∧ 0 < q.lim) ∧ v = .pointer (some ⟨p.blk, 0, none⟩) ∧ p.off = 0 ∧ w.heap[p.blk]? = some (.mapIter (some q.blk) s sn.toArray c) := by
  obtain ⟨p, q, hp, hq, hl, rfl⟩ := hm.itr_inv
  obtain ⟨_, _, h3⟩ := h.rw i _ p hr hp
  rcases h3 with h3 | ⟨_, _, cs, T, fr, ⟨_, h5⟩ | ⟨f, e1, _, e3, e4⟩, _⟩
  · have := hl.1; omega
  · exact absurd h5 (Nat.lt_irrefl 0)
  · injection e1 with e1 _
    injection e1 with e1
    subst e1
    refine ⟨p, q, hp, hq, hl, rfl, e3, e4.trans ?_⟩
    rw [hl.1]; rfl
theorem itR_wr (h : Sim w0 N ρ F σ a w) {i : Nat} {p : Pl} {s c s' c' : Nat} {sn sn' : List Nat} (hr : σ.rw i = some (itR s sn c)) (hp : ρ.r i = some p) (hl : 0 < p.lim) (h0 : p.off = 0) :
    Sim w0 N ρ F (σ.setR i (some (itR s' sn' c'))) a { w with heap := w.heap.setIfInBounds p.blk (itO s' sn' c' p.lim) } := by
  have hlt := h.lr i p hp hl
  have hok := (h.rw i _ p hr hp).2.2
  have hown : ¬ w0.V p.blk ∧ ¬ F p.blk := by
    rcases hok with h3 | ⟨_, h3, _⟩
    · omega
    · exact h3 rfl
  exact h.writeRow hr hp rfl rfl hl rfl rfl rfl (by simp) (fun x hx => by simp [Array.getElem?_setIfInBounds, Ne.symm hx]) fun _ => itR_ok h0 hown.1 hown.2 (by simp [Array.getElem?_setIfInBounds, hlt])
end
section
variable {P : Program} {σ : FS} {nb nr t : Nat} {kt et : TypeId} {kd : IntKind}
/-- The begin. -/
theorem x_range {x : Opd} {b : Nat} {l : List En} {ck : Nat} (ht : P.underlying t = some (.map kt et)) (hx : Vi (lookT σ.tm x) (.mptr b)) (hr : σ.rw b = some (mapR kd l ck)) : XCall P σ nb nr t 6 [x] ⟨True, .itr nr b, 0, 1, [.R nr (some (itR ck [] ck))]⟩ := by
  intro o ho w0 N ρ F a w h hb hrr
  obtain ⟨x0, hop, h1⟩ : ∃ x0, o.op = .range t x0 ∧ cO x0 = some x := by
    rcases compX_inv ho (by decide) with ⟨q, _⟩ | ⟨q, _⟩ | ⟨q | q, _⟩ | ⟨_, x0, x', e0, e1, e2⟩ | ⟨q, _⟩ | ⟨q, _⟩ | ⟨q, _⟩
    all_goals first | (cases q; done) | skip
    cases e2
    exact ⟨x0, e0, e1⟩
  obtain ⟨dst, op, ty, pos, after, guard⟩ := o
  dsimp only at hop
  subst hop
  have r1 := hx.rep (cO_rep h h1)
  obtain ⟨q, hq, hl, v1, h0, hh⟩ := mapR_at h r1 hr
  have hnr := hrr nr (Nat.le_refl _)
  have hne : b ≠ nr := by rintro rfl; rw [hq] at hnr; cases hnr
  have hbel : Below w.heap.size w (w.alloc (itO ck [] ck (q.blk + 1))) := (Below.refl _ _).alloc (Nat.le_refl _) _
  have hhp : (w.alloc (itO ck [] ck (q.blk + 1))).heap[w.heap.size]? = some (itO ck [] ck (q.blk + 1)) := heap_alloc_new w _
  refine ⟨.pointer (some ⟨w.heap.size, 0, none⟩), w.alloc (itO ck [] ck (q.blk + 1)), ρ.addR nr ⟨w.heap.size, 0, q.blk + 1⟩, F, .inl ?_, .newR hnr, h.newRow hnr hbel (fun _ => ⟨by simp, Nat.le_refl _⟩) (itR_ok rfl (h.bel.fresh (Nat.le_refl _)) (fun q => absurd (h.fl _ q) (Nat.lt_irrefl _)) hhp), .itr nr b ⟨w.heap.size, 0, q.blk + 1⟩ q (by simp [Env.addR]) (by simp [Env.addR, hne, hq]) ⟨rfl, hl⟩⟩
  unfold mapO at hh
  simp [execOp, v1, Instr.range, run_underlying ht, MapKept.run_getObj_map hh, Result.andThen, itO]
/-- A step. -/
theorem x_next {x : Opd} {i b : Nat} {l : List En} {ck : Nat} {sn : List Nat} (hx : Vi (lookT σ.tm x) (.itr i b)) (hi : σ.rw i = some (itR ck sn ck)) (hr : σ.rw b = some (mapR kd l ck)) (hbn : ∀ e ∈ l, e.b < ck) :
    XCallN P σ nb nr t 7 [x] fun r => (r = ⟨True, .tup [.bool false], 0, 0, []⟩ ∧ ∀ e ∈ l, e.b ∈ sn) ∨ ∃ e ∈ l, e.b ∉ sn ∧ r = ⟨True, .tup [.bool true, .int kd e.k, cst e.v], 0, 0, [.R i (some (itR ck (sn ++ [e.b]) ck))]⟩ := by
  intro o ho w0 N ρ F a w h hb hrr
  obtain ⟨x0, hop, h1⟩ : ∃ x0, o.op = .next x0 false ∧ cO x0 = some x := by
    rcases compX_inv ho (by decide) with ⟨q, _⟩ | ⟨q, _⟩ | ⟨q | q, _⟩ | ⟨q, _⟩ | ⟨_, _, x0, x', e0, e1, e2⟩ | ⟨q, _⟩ | ⟨q, _⟩
    all_goals first | (cases q; done) | skip
    cases e2
    exact ⟨x0, e0, e1⟩
  obtain ⟨dst, op, ty, pos, after, guard⟩ := o
  dsimp only at hop
  subst hop
  have r1 := hx.rep (cO_rep h h1)
  obtain ⟨p, q, hp, hq, hl, v1, h0, hh⟩ := itR_at h r1 hi
  have hmb := (Rep.mptr b q hq hl.2 : Rep ρ w0.V F w (.map (some q.blk)) (.mptr b))
  obtain ⟨q', hq', _, hv', _, hh'⟩ := mapR_at h hmb hr
  cases hq.symm.trans hq'
  unfold mapO at hh'
  have hgb := fun (s : List Nat) => itR_wr (s' := ck) (sn' := s) (c' := ck) h hi hp (by have := hl.1; omega) h0
  rcases run_next_at (P := P) w ty p.blk q.blk ck ck sn.toArray _ ck hh hh' (fun x hx => by
      obtain ⟨e, he, rfl⟩ := List.mem_map.1 (by simpa using hx)
      exact hbn e he) (Nat.le_refl _) with ⟨g1, g2⟩ | ⟨e, he, w1, hw1, g2⟩
  · refine ⟨_, .inl ⟨rfl, fun e he => ?_⟩, .tuple #[.bool false], w, ρ, F, .inl ?_, .refl _ _ _ _ _, h, .tup _ _ rfl ?_⟩
    · have : leftOf (l.map (En.m kd)).toArray sn.toArray = #[] := Array.eq_empty_of_size_eq_zero g1
      unfold leftOf at this
      rw [Array.filter_eq_empty_iff] at this
      have := this (e.m kd) (by simp; exact ⟨e, he, rfl⟩)
      simpa [En.m] using this
    · simp [execOp, v1, g2]
    · intro i u av g1 g2
      match i, g1, g2 with
      | 0, g1, g2 => cases g1; cases g2; exact rep_bool _
  · obtain ⟨he1, he2⟩ : e ∈ l.map (En.m kd) ∧ e.born ∉ sn := by
      unfold leftOf at he
      simpa using he
    obtain ⟨x1, hx1, rfl⟩ := List.mem_map.1 he1
    refine ⟨_, .inr ⟨x1, hx1, he2, rfl⟩, .tuple #[.bool true, .int kd x1.k, x1.v], ChangeMaps.setBlock w1 p.blk (.mapIter (some q.blk) ck (sn.toArray.push x1.b) ck), ρ, F, .inl ?_, .refl _ _ _ _ _, ?_, .tup _ _ rfl ?_⟩
    · simp only [execOp, v1, Sem.run_bind]
      rw [g2]
      rfl
    · have e0 : (sn.toArray.push x1.b) = (sn ++ [x1.b]).toArray := by simp
      have hs := hgb (sn ++ [x1.b])
      unfold itO at hs
      rw [hl.1, Nat.add_sub_cancel, ← e0] at hs
      rcases hw1 with rfl | rfl
      · exact hs
      · exact hs.grow (w' := ChangeMaps.setBlock w.drew p.blk _) ⟨rfl, rfl, Nat.le_refl _, fun _ _ => rfl⟩
    · intro i u av g1 g2
      match i, g1, g2 with
      | 0, g1, g2 => cases g1; cases g2; exact rep_bool _
      | 1, g1, g2 => cases g1; cases g2; exact rep_int _ _
      | 2, g1, g2 => cases g1; cases g2; exact .pure _ _ (cst_rep _ _ _)
/-- What the last step came upon. -/
theorem x_entry {x : Opd} {i b : Nat} {l : List En} {ck : Nat} {sn : List Nat} {e : En} (hx : Vi (lookT σ.tm x) (.itr i b)) (hi : σ.rw i = some (itR ck (sn ++ [e.b]) ck)) (hr : σ.rw b = some (mapR kd l ck)) (he : e ∈ l) (hn : (l.map (·.b)).Nodup) :
    XCall P σ nb nr t 9 [x] ⟨True, .tup [.int kd e.k, cst e.v], 0, 0, []⟩ := by
  intro o ho w0 N ρ F a w h hb hrr
  obtain ⟨x0, x', hop, h1, h2⟩ := compX_inv9 ho
  cases h2
  obtain ⟨dst, op, ty, pos, after, guard⟩ := o
  dsimp only at hop
  subst hop
  have r1 := hx.rep (cO_rep h h1)
  obtain ⟨p, q, hp, hq, hl, v1, h0, hh⟩ := itR_at h r1 hi
  have hmb := (Rep.mptr b q hq hl.2 : Rep ρ w0.V F w (.map (some q.blk)) (.mptr b))
  obtain ⟨q', hq', _, hv', _, hh'⟩ := mapR_at h hmb hr
  cases hq.symm.trans hq'
  unfold mapO at hh'
  have e0 : (sn ++ [e.b]).toArray = sn.toArray.push (e.m kd).born := by simp [En.m]
  rw [e0] at hh
  have g := run_entry_at (P := P) w p.blk q.blk ck sn.toArray _ ck (e.m kd) hh hh' (by simp; exact ⟨e, he, rfl⟩) (by
    have : ((l.map (En.m kd)).toArray.toList.map (·.born)) = l.map (·.b) := by simp [En.m]
    rw [this]; exact hn)
  refine ⟨.tuple #[.int kd e.k, e.v], w, ρ, F, .inl ?_, .refl _ _ _ _ _, h, .tup _ _ rfl ?_⟩
  · simp only [execOp, v1, Sem.run_bind]
    rw [g]
    rfl
  · intro i u av g1 g2
    match i, g1, g2 with
    | 0, g1, g2 => cases g1; cases g2; exact rep_int _ _
    | 1, g1, g2 => cases g1; cases g2; exact .pure _ _ (cst_rep _ _ _)
end
/-! ### For walks -/
section
variable {P : Program} {N : Nat} {l : List AO} {y : List ACode} {Q : AX → AS → Prop} {tm : List (Nat × AV)} {bx : List (Option (List AV))} {rw rw' : List (Option ARow)} {nb nr nr' : Nat}
theorem RG.itN {d t b : Nat} {z : Value} {et : TypeId} {kd : IntKind} {x m : Opd} {es : List En} {ck : Nat} (T : MapT P t kd et z) (hx : x = xc t 6 := by exact rfl) (hm : Vi (lookT (gT tm) m) (.mptr b) := by exact (by first | (refine Or.inl ?_; (conv => lhs; whnf) <;> exact rfl) | (refine Or.inr ?_; (conv => lhs; whnf) <;> exact rfl))) (hr : gO rw b = some (mapR kd es ck) := by exact (by (conv => lhs; whnf) <;> exact rfl)) (hrw : setO rw nr (some (itR ck [] ck)) = rw' := by exact (by dsimp only [setO, Nat.reduceAdd]; (first | (all_goals fail) | fail))) (hnr : nr + 1 = nr' := by exact rfl)
    (K : RG P N l y ⟨(d, .itr nr b) :: tm, bx, rw', nb, nr'⟩ Q) : RG P N (⟨some d, .callv x [m], none⟩ :: l) y ⟨tm, bx, rw, nb, nr⟩ Q := by
  subst hx
  obtain ⟨kt, h1, h2⟩ := T.ht
  refine RG.xop (x_range h1 hm hr) (fun u hu => by rw [List.mem_singleton.1 hu]; exact .inr ⟨Nat.le_refl _, Nat.lt_succ_self _⟩) ?_
  rw [app_U (upsB_R _ _ _) (hrw : upsR rw [.R nr (some (itR ck [] ck))] = rw') (Nat.add_zero nb) hnr]
  exact K
theorem RG.nxt {d i b : Nat} {kd : IntKind} {x m : Opd} {es : List En} {ck : Nat} {sn : List Nat} (hbn : ∀ e ∈ es, e.b < ck) (hx : x = xc 0 7 := by exact rfl) (hm : Vi (lookT (gT tm) m) (.itr i b) := by exact (by first | (refine Or.inl ?_; (conv => lhs; whnf) <;> exact rfl) | (refine Or.inr ?_; (conv => lhs; whnf) <;> exact rfl))) (hi : gO rw i = some (itR ck sn ck) := by exact (by (conv => lhs; whnf) <;> exact rfl)) (hr : gO rw b = some (mapR kd es ck) := by exact (by (conv => lhs; whnf) <;> exact rfl))
    (K0 : (∀ e ∈ es, e.b ∈ sn) → RG P N l y ⟨(d, .tup [.bool false]) :: tm, bx, rw, nb, nr⟩ Q) (K1 : ∀ e ∈ es, e.b ∉ sn → ∀ rw', setO rw i (some (itR ck (sn ++ [e.b]) ck)) = rw' → RG P N l y ⟨(d, .tup [.bool true, .int kd e.k, cst e.v]) :: tm, bx, rw', nb, nr⟩ Q) : RG P N (⟨some d, .callv x [m], none⟩ :: l) y ⟨tm, bx, rw, nb, nr⟩ Q := by
  subst hx
  have hx' := x_next (P := P) (σ := ⟨gT tm, gO bx, gO rw⟩) (nb := nb) (nr := nr) (t := 0) (kd := kd) hm hi hr hbn
  have hup := fun r => up_R (nb := nb) (bx := bx) (nr := nr) (nb' := 0) (nr'' := 0) (r := r) hi
  rw [gT_eq, gO_eq, gO_eq] at *
  refine ⟨Or.inr (Or.inr ⟨0, 7, [m], _, rfl, rfl, hx', fun r hr => ?_⟩)⟩
  rcases hr with ⟨rfl, h0⟩ | ⟨e, he, hne, rfl⟩
  · refine ⟨(fun u hu => by cases hu), ?_⟩
    show aopsM P l (AS.app ⟨tm, bx, rw, nb, nr⟩ (some d) _) _
    rw [app_U (upsB_0 _) (upsR_0 _) (Nat.add_zero nb) (Nat.add_zero nr)]
    exact (K0 h0).h
  · refine ⟨hup _, ?_⟩
    show aopsM P l (AS.app ⟨tm, bx, rw, nb, nr⟩ (some d) _) _
    rw [app_U (upsB_R _ _ _) rfl (Nat.add_zero nb) (Nat.add_zero nr)]
    exact (K1 e he hne _ rfl).h
theorem RG.ent {d i b : Nat} {kd : IntKind} {v : AV} {x m : Opd} {es : List En} {ck : Nat} {sn : List Nat} {e : En} (he : e ∈ es) (hn : (es.map (·.b)).Nodup) (hv : cst e.v = v) (hx : x = xc 0 9 := by exact rfl) (hm : Vi (lookT (gT tm) m) (.itr i b) := by exact (by first | (refine Or.inl ?_; (conv => lhs; whnf) <;> exact rfl) | (refine Or.inr ?_; (conv => lhs; whnf) <;> exact rfl))) (hi : gO rw i = some (itR ck (sn ++ [e.b]) ck) := by exact (by (conv => lhs; whnf) <;> exact rfl)) (hr : gO rw b = some (mapR kd es ck) := by exact (by (conv => lhs; whnf) <;> exact rfl))
    (K : RG P N l y ⟨(d, .tup [.int kd e.k, v]) :: tm, bx, rw, nb, nr⟩ Q) : RG P N (⟨some d, .callv x [m], none⟩ :: l) y ⟨tm, bx, rw, nb, nr⟩ Q := by
  subst hx hv
  refine RG.xop (x_entry hm hi hr he hn) (fun u hu => by cases hu) ?_
  rw [app_U (upsB_0 _) (upsR_0 _) (Nat.add_zero nb) (Nat.add_zero nr)]
  exact K
end
end Go.Proofs.Ytjacmhaeemhinaa

namespace Go.Proofs.Ytjacmhaeemhinaa
open Go.RowKit
set_option linter.unusedVariables false
set_option linter.unusedSimpArgs false
/-- A map whose entries stand apart. -/
structure MOk (es : List En) (ck : Nat) : Prop where
  k : (es.map (·.k)).Nodup
  b : (es.map (·.b)).Nodup
  c : ∀ e ∈ es, e.b < ck
theorem MOk.nil (ck : Nat) : MOk [] ck := ⟨by simp, by simp, fun e h => by cases h⟩
theorem set_ks (a : Int) (v : Value) : ∀ (l : List En), (setE a v l).map (·.k) = l.map (·.k) ∧ (setE a v l).map (·.b) = l.map (·.b)
  | [] => ⟨rfl, rfl⟩
  | e :: l => by
    unfold setE
    split
    · rename_i h
      exact ⟨by simp [h], by simp⟩
    · obtain ⟨h1, h2⟩ := set_ks a v l
      exact ⟨by simp [h1], by simp [h2]⟩
theorem has_iff {a : Int} {l : List En} : hasE a l = true ↔ ∃ e ∈ l, e.k = a := by
  unfold hasE
  rw [List.any_eq_true]
  constructor
  · rintro ⟨e, h1, h2⟩; exact ⟨e, h1, by simpa using (by simpa using h2 : a = e.k).symm⟩
  · rintro ⟨e, h1, h2⟩; exact ⟨e, h1, by simp [h2]⟩
theorem MOk.upd {es : List En} {ck : Nat} (h : MOk es ck) (a : Int) (v : Value) : MOk (updE a v ck es) (updC a ck es) := by
  unfold updE updC
  cases ha : hasE a es
  · rw [if_neg (by decide), if_neg (by decide)]
    refine ⟨?_, ?_, fun e he => ?_⟩
    · rw [List.map_append, List.nodup_append]
      refine ⟨h.k, by simp, fun x hx y hy => ?_⟩
      simp only [List.map_cons, List.map_nil, List.mem_singleton] at hy
      subst hy
      rintro rfl
      obtain ⟨e, he, e1⟩ := List.mem_map.1 hx
      have := has_iff.2 ⟨e, he, e1⟩
      rw [ha] at this; cases this
    · rw [List.map_append, List.nodup_append]
      refine ⟨h.b, by simp, fun x hx y hy => ?_⟩
      simp only [List.map_cons, List.map_nil, List.mem_singleton] at hy
      subst hy
      rintro rfl
      obtain ⟨e, he, e1⟩ := List.mem_map.1 hx
      have := h.c e he
      omega
    · rcases List.mem_append.1 he with he | he
      · have := h.c e he; omega
      · rw [List.mem_singleton.1 he]; exact Nat.lt_succ_self _
  · rw [if_pos rfl, if_pos rfl]
    obtain ⟨h1, h2⟩ := set_ks a v es
    refine ⟨by rw [h1]; exact h.k, by rw [h2]; exact h.b, fun e he => ?_⟩
    have : e.b ∈ (setE a v es).map (·.b) := List.mem_map.2 ⟨e, he, rfl⟩
    rw [h2] at this
    obtain ⟨e', h3, h4⟩ := List.mem_map.1 this
    rw [← h4]; exact h.c e' h3
theorem del_sub (a : Int) : ∀ (l : List En), (delE a l).Sublist l
  | [] => List.Sublist.slnil
  | e :: l => by
    unfold delE
    split
    · exact List.sublist_cons_self _ _
    · exact (del_sub a l).cons_cons _
theorem MOk.sub {es es' : List En} {ck : Nat} (h : MOk es ck) (hs : es'.Sublist es) : MOk es' ck :=
  ⟨h.k.sublist (hs.map _), h.b.sublist (hs.map _), fun e he => h.c e (hs.subset he)⟩
theorem unseen_lt {l : List En} {s : List Nat} {e : En} (he : e ∈ l) (hn : e.b ∉ s) : (l.filter fun x => !decide (x.b ∈ s ++ [e.b])).length < (l.filter fun x => !decide (x.b ∈ s)).length := by
  have : (l.filter fun x => !decide (x.b ∈ s ++ [e.b])) = (l.filter fun x => !decide (x.b ∈ s)).filter fun x => !decide (x.b = e.b) := by
    rw [List.filter_filter]
    congr 1
    funext x
    by_cases h1 : x.b ∈ s <;> by_cases h2 : x.b = e.b <;> simp [h1, h2]
  rw [this, List.length_filter_lt_length_iff_exists]
  exact ⟨e, List.mem_filter.2 ⟨he, by simp [hn]⟩, by simp⟩
end Go.Proofs.Ytjacmhaeemhinaa
