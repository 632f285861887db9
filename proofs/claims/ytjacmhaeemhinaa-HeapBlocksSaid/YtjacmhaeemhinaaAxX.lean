/- Maps whose keys are integers: what is made, written, looked up, struck, counted. -/
import Derived.Test.YtjacmhaeemhinaaAxR
import Derived.MapKept
namespace Go.Proofs.Ytjacmhaeemhinaa
open Go.RowKit
set_option linter.unusedVariables false
set_option linter.unusedSimpArgs false
set_option linter.unusedSectionVars false

/-- An entry of a map. -/
structure En where
  k : Int
  v : Value
  b : Nat
def En.m (kd : IntKind) (e : En) : MapEntry := ⟨.int kd e.k, e.v, e.b⟩
def mapO (kd : IntKind) (l : List En) (ck : Nat) : Obj := .map (l.map (En.m kd)).toArray ck
/-- The row that stands for a map. -/
def mapR (kd : IntKind) (l : List En) (ck : Nat) : ARow := ⟨false, 0, [.obj fun _ => mapO kd l ck]⟩
/-- Where a key stands. -/
def fnd (a : Int) : List En → Nat → Option (Nat × Value)
  | [], _ => none
  | e :: l, i => if a = e.k then some (i, e.v) else fnd a l (i + 1)
def setE (a : Int) (v : Value) : List En → List En
  | [] => []
  | e :: l => if a = e.k then ⟨a, v, e.b⟩ :: l else e :: setE a v l
def delE (a : Int) : List En → List En
  | [] => []
  | e :: l => if a = e.k then l else e :: delE a l
def hasE (a : Int) (l : List En) : Bool := l.any fun e => a == e.k
def updE (a : Int) (v : Value) (ck : Nat) (l : List En) : List En := if hasE a l then setE a v l else l ++ [⟨a, v, ck⟩]
def updC (a : Int) (ck : Nat) (l : List En) : Nat := if hasE a l then ck else ck + 1
def getE (a : Int) : List En → Option Value
  | [] => none
  | e :: l => if a = e.k then some e.v else getE a l
theorem fnd_get (a : Int) : ∀ (l : List En) (i : Nat), (fnd a l i).map (·.2) = getE a l
  | [], _ => rfl
  | e :: l, i => by
    unfold fnd getE
    split
    · rfl
    · exact fnd_get a l (i + 1)
theorem get_has (a : Int) : ∀ (l : List En), (getE a l).isSome = hasE a l
  | [] => rfl
  | e :: l => by
    unfold getE hasE
    by_cases h : a = e.k
    · simp [h]
    · rw [if_neg h, List.any_cons, beq_eq_false_iff_ne.2 h, Bool.false_or]; exact get_has a l
theorem fnd_now (kd : IntKind) (a : Int) : ∀ (l : List En) (i : Nat), Instr.findNow (.int kd) (.int kd a) (l.map (En.m kd)) i = some (fnd a l i)
  | [], _ => rfl
  | e :: l, i => by
    rw [List.map_cons]
    unfold fnd
    by_cases h : a = e.k
    · rw [if_pos h]
      simp [Instr.findNow, Instr.sameNow, En.m, h]
    · rw [if_neg h]
      simp only [Instr.findNow, Instr.sameNow, En.m, if_true, beq_eq_false_iff_ne.2 h]
      exact fnd_now kd a l (i + 1)
theorem fnd_lt (a : Int) : ∀ (l : List En) (i j : Nat) (v : Value), fnd a l i = some (j, v) → i ≤ j ∧ ∃ e, l[j - i]? = some e ∧ e.k = a ∧ e.v = v
  | [], _, _, _, h => by cases h
  | e :: l, i, j, v, h => by
    unfold fnd at h
    split at h
    · rename_i q
      cases h
      exact ⟨Nat.le_refl _, e, by simp, q.symm, rfl⟩
    · obtain ⟨h1, e', h2, h3⟩ := fnd_lt a l (i + 1) j v h
      refine ⟨by omega, e', ?_, h3⟩
      rw [show j - i = (j - (i + 1)) + 1 by omega, List.getElem?_cons_succ]; exact h2
theorem fnd_mod (kd : IntKind) (a : Int) (v : Value) : ∀ (l : List En) (i j : Nat) (u : Value), fnd a l i = some (j, u) → (l.map (En.m kd)).modify (j - i) (fun e => { e with key := .int kd a, val := v }) = (setE a v l).map (En.m kd)
  | [], _, _, _, h => by cases h
  | e :: l, i, j, u, h => by
    unfold fnd at h
    unfold setE
    split at h
    · rename_i q
      cases h
      rw [if_pos q, Nat.sub_self, List.map_cons, List.map_cons]
      simp [List.modify, List.modifyTailIdx, List.modifyTailIdx.go, List.modifyHead, En.m]
    · rename_i q
      obtain ⟨h1, _⟩ := fnd_lt a l (i + 1) j u h
      rw [if_neg q, List.map_cons, List.map_cons, show j - i = (j - (i + 1)) + 1 by omega, List.modify_succ_cons, fnd_mod kd a v l (i + 1) j u h]
theorem fnd_del (kd : IntKind) (a : Int) : ∀ (l : List En) (i j : Nat) (u : Value), fnd a l i = some (j, u) → (l.map (En.m kd)).eraseIdx (j - i) = (delE a l).map (En.m kd)
  | [], _, _, _, h => by cases h
  | e :: l, i, j, u, h => by
    unfold fnd at h
    unfold delE
    split at h
    · rename_i q
      cases h
      rw [if_pos q, Nat.sub_self]; rfl
    · rename_i q
      obtain ⟨h1, _⟩ := fnd_lt a l (i + 1) j u h
      rw [if_neg q, List.map_cons, List.map_cons, show j - i = (j - (i + 1)) + 1 by omega, List.eraseIdx_cons_succ, fnd_del kd a l (i + 1) j u h]
theorem fnd_none (a : Int) (l : List En) (i : Nat) : fnd a l i = none ↔ hasE a l = false := by
  rw [← get_has, ← fnd_get a l i]
  cases fnd a l i <;> simp
theorem del_none (a : Int) : ∀ (l : List En), hasE a l = false → delE a l = l
  | [], _ => rfl
  | e :: l, h => by
    unfold hasE at h
    rw [List.any_cons, Bool.or_eq_false_iff] at h
    unfold delE
    rw [if_neg (by simpa using h.1), del_none a l h.2]
/-! ### Which operation a told one is -/
theorem xc_inj {t k t' k' : Nat} {xs xs' : List Opd} (h : AI.callv (xc t' k') xs' = AI.callv (xc t k) xs) (hk : k < 16) (hk' : k' < 16) : t' = t ∧ k' = k ∧ xs' = xs := by
  injection h with h1 h2
  unfold xc at h1
  injection h1 with h1
  injection h1 with _ h1
  have := Int.ofNat.inj h1
  exact ⟨by omega, by omega, h2⟩
theorem compX_inv {P : Program} {o : Op} {t k : Nat} {xs : List Opd} (h : compX P o = some (.callv (xc t k) xs)) (hk : k < 8) :
    (k = 0 ∧ o = .makeMap t none ∧ xs = []) ∨ (k = 1 ∧ ∃ m q x m' q' x', o = .mapUpdate t m q x ∧ cO m = some m' ∧ cO q = some q' ∧ cO x = some x' ∧ xs = [m', q', x']) ∨ ((k = 2 ∨ k = 3) ∧ ∃ m q m' q', o = .lookup t m q (k == 3) ∧ cO m = some m' ∧ cO q = some q' ∧ xs = [m', q']) ∨
    (k = 6 ∧ ∃ x x', o = .range t x ∧ cO x = some x' ∧ xs = [x']) ∨ (k = 7 ∧ t = 0 ∧ ∃ x x', o = .next x false ∧ cO x = some x' ∧ xs = [x']) ∨
    (k = 4 ∧ ∃ args ts, o = .call ⟨.builtin .delete, args, ts⟩ ∧ ts[0]? = some t ∧ args.toList.mapM cO = some xs) ∨ (k = 5 ∧ ∃ args ts, o = .call ⟨.builtin .len, args, ts⟩ ∧ ts[0]? = some t ∧ isMap P t = true ∧ args.toList.mapM cO = some xs) := by
  unfold compX at h
  split at h
  · obtain ⟨rfl, rfl, rfl⟩ := xc_inj (Option.some.inj h) (by omega) (by omega)
    exact .inl ⟨rfl, rfl, rfl⟩
  · rename_i t' m q x
    obtain ⟨m', h1, h⟩ := Option.bind_eq_some_iff.1 h
    obtain ⟨q', h2, h⟩ := Option.bind_eq_some_iff.1 h
    obtain ⟨x', h3, h⟩ := Option.map_eq_some_iff.1 h
    obtain ⟨rfl, rfl, rfl⟩ := xc_inj h (by omega) (by omega)
    exact .inr (.inl ⟨rfl, m, q, x, m', q', x', rfl, h1, h2, h3, rfl⟩)
  · rename_i t' m q ok
    obtain ⟨m', h1, h⟩ := Option.bind_eq_some_iff.1 h
    obtain ⟨q', h2, h⟩ := Option.map_eq_some_iff.1 h
    cases ok
    · obtain ⟨rfl, rfl, rfl⟩ := xc_inj h (by omega) (by decide)
      exact .inr (.inr (.inl ⟨.inl rfl, m, q, m', q', rfl, h1, h2, rfl⟩))
    · obtain ⟨rfl, rfl, rfl⟩ := xc_inj h (by omega) (by decide)
      exact .inr (.inr (.inl ⟨.inr rfl, m, q, m', q', rfl, h1, h2, rfl⟩))
  · rename_i t' x
    obtain ⟨x', h1, h⟩ := Option.map_eq_some_iff.1 h
    obtain ⟨rfl, rfl, rfl⟩ := xc_inj h (by omega) (by omega)
    exact .inr (.inr (.inr (.inl ⟨rfl, x, x', rfl, h1, rfl⟩)))
  · rename_i x
    obtain ⟨x', h1, h⟩ := Option.map_eq_some_iff.1 h
    obtain ⟨rfl, rfl, rfl⟩ := xc_inj h (by omega) (by omega)
    exact .inr (.inr (.inr (.inr (.inl ⟨rfl, rfl, x, x', rfl, h1, rfl⟩))))
  · obtain ⟨x', h1, h⟩ := Option.map_eq_some_iff.1 h
    have := (xc_inj h (by omega) (by omega)).2.1; omega
  · have := (xc_inj (Option.some.inj h) (by omega) (by omega)).2.1; omega
  · have := (xc_inj (Option.some.inj h) (by omega) (by omega)).2.1; omega
  · rename_i args ts
    obtain ⟨t', h1, h⟩ := Option.bind_eq_some_iff.1 h
    obtain ⟨xs', h2, h⟩ := Option.map_eq_some_iff.1 h
    obtain ⟨rfl, rfl, rfl⟩ := xc_inj h (by omega) (by omega)
    exact .inr (.inr (.inr (.inr (.inr (.inl ⟨rfl, args, ts, rfl, h1, h2⟩)))))
  · rename_i args ts
    obtain ⟨t', h1, h⟩ := Option.bind_eq_some_iff.1 h
    split at h
    · rename_i hm
      obtain ⟨xs', h2, h⟩ := Option.map_eq_some_iff.1 h
      obtain ⟨rfl, rfl, rfl⟩ := xc_inj h (by omega) (by omega)
      exact .inr (.inr (.inr (.inr (.inr (.inr ⟨rfl, args, ts, rfl, h1, hm, h2⟩)))))
    · cases h
  · cases h
/-! ### A map in the state -/
section
variable {P : Program} {w0 : Base} {N : Nat} {ρ : Env} {F : Nat → Prop} {σ : FS} {a : Act} {w : World}
theorem mapR_ok {B F : Nat → Prop} {p : Pl} {kd : IntKind} {l : List En} {ck : Nat} (h0 : p.off = 0) (hB : ¬ B p.blk) (hF : ¬ F p.blk) (hh : w.heap[p.blk]? = some (mapO kd l ck)) : RowOk B F w p (mapR kd l ck) :=
  ⟨fun e he => by rw [List.mem_singleton.1 he]; rfl, Nat.zero_le _, .inr ⟨(fun e => by cases e), fun _ => ⟨hB, hF⟩, (List.replicate p.lim undef).toArray, 0, (0, 0), .inr ⟨_, rfl, rfl, h0, hh⟩, by simp [h0], fun _ => rfl, (fun i av e => by cases e)⟩⟩
theorem mapR_at (h : Sim w0 N ρ F σ a w) {v : Value} {b : Nat} {kd : IntKind} {l : List En} {ck : Nat} (hm : Rep ρ w0.V F w v (.mptr b)) (hr : σ.rw b = some (mapR kd l ck)) : ∃ p, ρ.r b = some p ∧ 0 < p.lim ∧ v = .map (some p.blk) ∧ p.off = 0 ∧ w.heap[p.blk]? = some (mapO kd l ck) := by
  obtain ⟨p, hp, hl, rfl⟩ := hm.mptr_inv
  obtain ⟨_, _, h3⟩ := h.rw b _ p hr hp
  rcases h3 with h3 | ⟨_, _, cs, T, fr, ⟨_, h5⟩ | ⟨f, e1, _, e3, e4⟩, _⟩
  · omega
  · exact absurd h5 (Nat.lt_irrefl 0)
  · injection e1 with e1 _
    injection e1 with e1
    subst e1
    exact ⟨p, hp, hl, rfl, e3, e4⟩
theorem mapR_wr (h : Sim w0 N ρ F σ a w) {b : Nat} {p : Pl} {kd : IntKind} {l l' : List En} {ck ck' : Nat} (hr : σ.rw b = some (mapR kd l ck)) (hp : ρ.r b = some p) (hl : 0 < p.lim) (h0 : p.off = 0) :
    Sim w0 N ρ F (σ.setR b (some (mapR kd l' ck'))) a { w with heap := w.heap.setIfInBounds p.blk (mapO kd l' ck') } := by
  have hlt := h.lr b p hp hl
  have hok := (h.rw b _ p hr hp).2.2
  have hown : ¬ w0.V p.blk ∧ ¬ F p.blk := by
    rcases hok with h3 | ⟨_, h3, _⟩
    · omega
    · exact h3 rfl
  exact h.writeRow hr hp rfl rfl hl rfl rfl rfl (by simp) (fun x hx => by simp [Array.getElem?_setIfInBounds, Ne.symm hx]) fun _ => mapR_ok h0 hown.1 hown.2 (by simp [Array.getElem?_setIfInBounds, hlt])
end
/-- A value, or one that is known by a guard that holds. -/
def Vi (x y : AV) : Prop := x = y ∨ x = .cnd true y
theorem Vi.rep {x y : AV} (h : Vi x y) {ρ : Env} {B F : Nat → Prop} {w : World} {v : Value} (r : Rep ρ B F w v x) : Rep ρ B F w v y := by
  rcases h with rfl | rfl
  · exact r
  · exact r.cnd_inv rfl
def cvOf : AV → Option Value
  | .int k n => some (.int k n)
  | .bool b => some (.bool b)
  | _ => none
theorem cvOf_rep {ρ : Env} {B F : Nat → Prop} {w : World} {v u : Value} {x : AV} (h : Rep ρ B F w v x) (hu : cvOf x = some u) : v = u := by
  unfold cvOf at hu
  split at hu
  · cases hu; exact h.int_inv
  · cases hu; exact h.bool_inv
  · cases hu
section
variable {P : Program} {σ : FS} {nb nr t : Nat} {kt et : TypeId} {kd : IntKind}
/-- A new map. -/
theorem x_make (kd : IntKind) : XCall P σ nb nr t 0 [] ⟨True, .mptr nr, 0, 1, [.R nr (some (mapR kd [] 0))]⟩ := by
  intro o ho w0 N ρ F a w h hb hr
  have hop : o.op = .makeMap t none := by
    rcases compX_inv ho (by decide) with ⟨_, q, _⟩ | ⟨q, _⟩ | ⟨q | q, _⟩ | ⟨q, _⟩ | ⟨q, _⟩ | ⟨q, _⟩ | ⟨q, _⟩
    · exact q
    all_goals cases q
  obtain ⟨dst, op, ty, pos, after, guard⟩ := o
  dsimp only at hop
  subst hop
  have hbel : Below w.heap.size w (w.alloc (mapO kd [] 0)) := (Below.refl _ _).alloc (Nat.le_refl _) _
  have hhp : (w.alloc (mapO kd [] 0)).heap[w.heap.size]? = some (mapO kd [] 0) := heap_alloc_new w _
  refine ⟨.map (some w.heap.size), w.alloc (mapO kd [] 0), ρ.addR nr ⟨w.heap.size, 0, 1⟩, F, .inl ?_, .newR (hr nr (Nat.le_refl _)), h.newRow (hr nr (Nat.le_refl _)) hbel (fun _ => ⟨by simp, Nat.le_refl _⟩) (mapR_ok rfl (h.bel.fresh (Nat.le_refl _)) (fun q => absurd (h.fl _ q) (Nat.lt_irrefl _)) hhp), .mptr nr ⟨w.heap.size, 0, 1⟩ (by simp [Env.addR]) (Nat.lt_succ_self 0)⟩
  simp [execOp, Instr.makeMap, mapO]
/-- How many entries. -/
theorem x_len {x : Opd} {b : Nat} {l : List En} {ck : Nat} (ht : P.underlying t = some (.map kt et)) (hx : Vi (lookT σ.tm x) (.mptr b)) (hr : σ.rw b = some (mapR kd l ck)) : XCall P σ nb nr t 5 [x] ⟨True, .int .i64 l.length, 0, 0, []⟩ := by
  intro o ho w0 N ρ F a w h hb hrr
  obtain ⟨args, ts, hop, h1, h2⟩ : ∃ args ts, o.op = .call ⟨.builtin .len, args, ts⟩ ∧ ts[0]? = some t ∧ args.toList.mapM cO = some [x] := by
    rcases compX_inv ho (by decide) with ⟨q, _⟩ | ⟨q, _⟩ | ⟨q | q, _⟩ | ⟨q, _⟩ | ⟨q, _⟩ | ⟨q, _⟩ | ⟨_, args, ts, q1, q2, _, q3⟩
    all_goals first | (cases q; done) | skip
    exact ⟨args, ts, q1, q2, q3⟩
  obtain ⟨dst, op, ty, pos, after, guard⟩ := o
  dsimp only at hop
  subst hop
  obtain ⟨g1, g2⟩ := reps_list h h2
  have hs : args.size = 1 := by simpa using g1.symm
  obtain ⟨y, hy⟩ : ∃ y, args = #[y] := by
    match args, hs with
    | ⟨[y]⟩, _ => exact ⟨y, rfl⟩
  subst hy
  have hrep : Rep ρ w0.V F w (a.eval y) (lookT σ.tm x) := g2 0 _ _ rfl rfl
  replace hrep := hx.rep hrep
  obtain ⟨p, hp, hl, hv, h0, hh⟩ := mapR_at h hrep hr
  refine ⟨.int .i64 l.length, w, ρ, F, .inl ?_, .refl _ _ _ _ _, h, rep_int _ _⟩
  simp [execOp, resolve, invoke, Go.builtin, hv, h1, Builtin.len_, run_underlying ht, MapKept.run_getObj_map hh, goInt]
theorem fnd_some {a : Int} {l : List En} (h : hasE a l = true) : ∃ j u e, fnd a l 0 = some (j, u) ∧ getE a l = some u ∧ l[j]? = some e ∧ e.k = a := by
  cases hf : fnd a l 0 with
  | none => rw [(fnd_none a l 0).1 hf] at h; cases h
  | some q =>
    obtain ⟨j, u⟩ := q
    obtain ⟨_, e, h2, h3, _⟩ := fnd_lt a l 0 j u hf
    exact ⟨j, u, e, rfl, by rw [← fnd_get a l 0, hf]; rfl, by simpa using h2, h3⟩
/-- An entry written. -/
theorem x_upd {m q x : Opd} {b : Nat} {l : List En} {ck : Nat} {c : Int} {xv : AV} {u : Value} (ht : P.underlying t = some (.map kt et)) (hd : P.underlying kt = some (.int kd)) (hm : Vi (lookT σ.tm m) (.mptr b)) (hq : Vi (lookT σ.tm q) (.int kd c)) (hx : Vi (lookT σ.tm x) xv) (hu : cvOf xv = some u) (hr : σ.rw b = some (mapR kd l ck)) :
    XCall P σ nb nr t 1 [m, q, x] ⟨True, .any, 0, 0, [.R b (some (mapR kd (updE c u ck l) (updC c ck l)))]⟩ := by
  intro o ho w0 N ρ F a w h hb hrr
  obtain ⟨m0, q0, x0, hop, h1, h2, h3⟩ : ∃ m0 q0 x0, o.op = .mapUpdate t m0 q0 x0 ∧ cO m0 = some m ∧ cO q0 = some q ∧ cO x0 = some x := by
    rcases compX_inv ho (by decide) with ⟨q, _⟩ | ⟨_, m0, q0, x0, m', q', x', e0, e1, e2, e3, e4⟩ | ⟨q | q, _⟩ | ⟨q, _⟩ | ⟨q, _⟩ | ⟨q, _⟩ | ⟨q, _⟩
    all_goals first | (cases q; done) | skip
    cases e4
    exact ⟨m0, q0, x0, e0, e1, e2, e3⟩
  obtain ⟨dst, op, ty, pos, after, guard⟩ := o
  dsimp only at hop
  subst hop
  have r1 := cO_rep h h1
  have r2 := cO_rep h h2
  have r3 := cO_rep h h3
  replace r1 := hm.rep r1
  replace r2 := hq.rep r2
  replace r3 := hx.rep r3
  have v2 := r2.int_inv
  have v3 := cvOf_rep r3 hu
  obtain ⟨p, hp, hl, v1, h0, hh⟩ := mapR_at h r1 hr
  have hk : MapKept.IsKey (.int kd) (.int kd c) := rfl
  refine ⟨undef, _, ρ, F, .inr ⟨?_, rfl⟩, .refl _ _ _ _ _, mapR_wr (l' := updE c u ck l) (ck' := updC c ck l) h hr hp hl h0, .any _⟩
  unfold mapO at hh
  cases hc : hasE c l
  · have hf := fnd_now kd c l 0
    rw [(fnd_none c l 0).2 hc] at hf
    simp [execOp, v1, v2, v3, Instr.mapUpdate, run_underlying ht, MapKept.run_getObj_map hh, MapKept.run_checkKey hd hk, MapKept.run_findKey hd hf, MapKept.run_setObj_map _ hh, Result.andThen, updE, updC, hc, mapO, En.m]
  · obtain ⟨j, u0, e, f1, _, f3, f4⟩ := fnd_some hc
    have hf := fnd_now kd c l 0
    rw [f1] at hf
    have hj : (List.map (En.m kd) l).toArray[j]? = some (En.m kd e) := by simp [f3]
    have hmod := fnd_mod kd c u l 0 j u0 f1
    simp [execOp, v1, v2, v3, Instr.mapUpdate, run_underlying ht, MapKept.run_getObj_map hh, MapKept.run_checkKey hd hk, MapKept.run_findKey hd hf, f3, En.m, f4, MapKept.run_keyThatStays hk, MapKept.run_setObj_map _ hh, Result.andThen, updE, updC, hc, mapO]
    exact congrArg (fun z : List MapEntry => w.heap.setIfInBounds p.blk (Obj.map z.toArray ck)) hmod
/-- .. and whether something stands there. -/
theorem x_look3 {m q : Opd} {b : Nat} {l : List En} {ck : Nat} {c : Int} {z : Value} (ht : P.underlying t = some (.map kt et)) (hd : P.underlying kt = some (.int kd)) (hz : zeroOf P et = some z) (hm : Vi (lookT σ.tm m) (.mptr b)) (hq : Vi (lookT σ.tm q) (.int kd c)) (hr : σ.rw b = some (mapR kd l ck)) :
    XCall P σ nb nr t 3 [m, q] ⟨True, .tup [cst ((getE c l).getD z), .bool (getE c l).isSome], 0, 0, []⟩ := by
  intro o ho w0 N ρ F a w h hb hrr
  obtain ⟨m0, q0, hop, h1, h2⟩ : ∃ m0 q0, o.op = .lookup t m0 q0 true ∧ cO m0 = some m ∧ cO q0 = some q := by
    rcases compX_inv ho (by decide) with ⟨q, _⟩ | ⟨q, _⟩ | ⟨_, m0, q0, m', q', e0, e1, e2, e4⟩ | ⟨q, _⟩ | ⟨q, _⟩ | ⟨q, _⟩ | ⟨q, _⟩
    all_goals first | (cases q; done) | skip
    cases e4
    exact ⟨m0, q0, e0, e1, e2⟩
  obtain ⟨dst, op, ty, pos, after, guard⟩ := o
  dsimp only at hop
  subst hop
  have r1 := cO_rep h h1
  have r2 := cO_rep h h2
  replace r1 := hm.rep r1
  replace r2 := hq.rep r2
  have v2 := r2.int_inv
  obtain ⟨p, hp, hl, v1, h0, hh⟩ := mapR_at h r1 hr
  have hk : MapKept.IsKey (.int kd) (.int kd c) := rfl
  refine ⟨.tuple #[(getE c l).getD z, .bool (getE c l).isSome], w, ρ, F, .inl ?_, .refl _ _ _ _ _, h, .tup _ _ rfl ?_⟩
  · unfold mapO at hh
    have hf := fnd_now kd c l 0
    unfold zeroOf at hz
    obtain ⟨i, hi, hz⟩ := Option.bind_eq_some_iff.1 hz
    rw [← fnd_get c l 0]
    cases hx : fnd c l 0 with
    | none =>
      rw [hx] at hf
      simp [execOp, v1, v2, Instr.lookup, run_underlying ht, MapKept.run_getObj_map hh, MapKept.run_checkKey hd hk, MapKept.run_findKey hd hf, Result.andThen, zeroValue, typeInfo, hi, hz]
    | some y =>
      obtain ⟨j, u⟩ := y
      rw [hx] at hf
      simp [execOp, v1, v2, Instr.lookup, run_underlying ht, MapKept.run_getObj_map hh, MapKept.run_checkKey hd hk, MapKept.run_findKey hd hf, Result.andThen]
  · intro i u av g1 g2
    match i, g1, g2 with
    | 0, g1, g2 => cases g1; cases g2; exact .pure _ _ (cst_rep _ _ _)
    | 1, g1, g2 => cases g1; cases g2; exact rep_bool _
/-- An entry struck. -/
theorem x_del {m q : Opd} {b : Nat} {l : List En} {ck : Nat} {c : Int} (ht : P.underlying t = some (.map kt et)) (hd : P.underlying kt = some (.int kd)) (hm : Vi (lookT σ.tm m) (.mptr b)) (hq : Vi (lookT σ.tm q) (.int kd c)) (hr : σ.rw b = some (mapR kd l ck)) :
    XCall P σ nb nr t 4 [m, q] ⟨True, .any, 0, 0, [.R b (some (mapR kd (delE c l) ck))]⟩ := by
  intro o ho w0 N ρ F a w h hb hrr
  obtain ⟨args, ts, hop, h1, h2⟩ : ∃ args ts, o.op = .call ⟨.builtin .delete, args, ts⟩ ∧ ts[0]? = some t ∧ args.toList.mapM cO = some [m, q] := by
    rcases compX_inv ho (by decide) with ⟨q, _⟩ | ⟨q, _⟩ | ⟨q | q, _⟩ | ⟨q, _⟩ | ⟨q, _⟩ | ⟨_, args, ts, q1, q2, q3⟩ | ⟨q, _⟩
    all_goals first | (cases q; done) | skip
    exact ⟨args, ts, q1, q2, q3⟩
  obtain ⟨dst, op, ty, pos, after, guard⟩ := o
  dsimp only at hop
  subst hop
  obtain ⟨g1, g2⟩ := reps_list h h2
  have hs : args.size = 2 := by simpa using g1.symm
  obtain ⟨y, y2, hy⟩ : ∃ y y2, args = #[y, y2] := by
    match args, hs with
    | ⟨[y, y2]⟩, _ => exact ⟨y, y2, rfl⟩
  subst hy
  have r1 : Rep ρ w0.V F w (a.eval y) (lookT σ.tm m) := g2 0 _ _ rfl rfl
  have r2 : Rep ρ w0.V F w (a.eval y2) (lookT σ.tm q) := g2 1 _ _ rfl rfl
  replace r1 := hm.rep r1
  replace r2 := hq.rep r2
  have v2 := r2.int_inv
  obtain ⟨p, hp, hl, v1, h0, hh⟩ := mapR_at h r1 hr
  have hk : MapKept.IsKey (.int kd) (.int kd c) := rfl
  refine ⟨.tuple #[], _, ρ, F, .inl ?_, .refl _ _ _ _ _, mapR_wr (l' := delE c l) (ck' := ck) h hr hp hl h0, .any _⟩
  unfold mapO at hh
  have hf := fnd_now kd c l 0
  cases hx : fnd c l 0 with
  | none =>
    rw [hx] at hf
    have := del_none c l ((fnd_none c l 0).1 hx)
    simp [execOp, resolve, invoke, Go.builtin, v1, v2, h1, Builtin.delete_, run_underlying ht, MapKept.run_getObj_map hh, MapKept.run_checkKey hd hk, MapKept.run_findKey hd hf, MapKept.run_setObj_map _ hh, Result.andThen, mapO, this]
  | some z =>
    obtain ⟨j, u⟩ := z
    rw [hx] at hf
    have hj : j < l.length := by
      obtain ⟨_, e, h2, _⟩ := fnd_lt c l 0 j u hx
      have := (List.getElem?_eq_some_iff.1 h2).1; omega
    have hdel := fnd_del kd c l 0 j u hx
    simp [execOp, resolve, invoke, Go.builtin, v1, v2, h1, Builtin.delete_, run_underlying ht, MapKept.run_getObj_map hh, MapKept.run_checkKey hd hk, MapKept.run_findKey hd hf, MapKept.run_setObj_map _ hh, Result.andThen, mapO, Array.eraseIdxIfInBounds, hj]
    exact congrArg (fun z : List MapEntry => w.heap.setIfInBounds p.blk (Obj.map z.toArray ck)) hdel
end
/-! ### For walks -/
/-- A map's type. -/
structure MapT (P : Program) (t : Nat) (kd : IntKind) (et : TypeId) (z : Value) : Prop where
  ht : ∃ kt, P.underlying t = some (.map kt et) ∧ P.underlying kt = some (.int kd)
  hz : zeroOf P et = some z
section
variable {P : Program} {N : Nat} {l : List AO} {y : List ACode} {Q : AX → AS → Prop} {tm : List (Nat × AV)} {bx : List (Option (List AV))} {rw rw' : List (Option ARow)} {nb nr nr' : Nat}
theorem RG.xop {d : Option Nat} {t k dr : Nat} {xs : List Opd} {av : AV} {up : List Upd} (c : XCall P ⟨gT tm, gO bx, gO rw⟩ nb nr t k xs ⟨True, av, 0, dr, up⟩) (hu : ∀ u ∈ up, UpIn (gO bx) (gO rw) nb 0 nr dr true true u)
    (K : RG P N l y (AS.app ⟨tm, bx, rw, nb, nr⟩ d ⟨True, av, 0, dr, up⟩) Q) : RG P N (⟨d, .callv (xc t k) xs, none⟩ :: l) y ⟨tm, bx, rw, nb, nr⟩ Q := by
  rw [gT_eq, gO_eq, gO_eq] at *
  exact ⟨Or.inr (Or.inl ⟨_, .inr (.inr ⟨_, .inr ⟨t, k, xs, rfl, c, hu⟩, rfl⟩), K.h⟩)⟩
theorem up_R {b nb' nr'' : Nat} {r r0 : ARow} (hr : gO rw b = some r0) : ∀ u ∈ [Upd.R b (some r)], UpIn (gO bx) (gO rw) nb nb' nr nr'' true true u := by
  intro u hu
  rw [List.mem_singleton.1 hu]
  exact .inl ⟨rfl, r0, hr⟩
/-- A new map. -/
theorem RG.mpN {d t : Nat} {z : Value} {et : TypeId} {kd : IntKind} {x : Opd} (T : MapT P t kd et z) (hx : x = xc t 0 := by exact rfl) (hrw : setO rw nr (some (mapR kd [] 0)) = rw' := by exact (by dsimp only [setO, Nat.reduceAdd]; (first | (all_goals fail) | fail))) (hnr : nr + 1 = nr' := by exact rfl)
    (K : RG P N l y ⟨(d, .mptr nr) :: tm, bx, rw', nb, nr'⟩ Q) : RG P N (⟨some d, .callv x [], none⟩ :: l) y ⟨tm, bx, rw, nb, nr⟩ Q := by
  subst hx
  refine RG.xop (x_make kd) (fun u hu => by rw [List.mem_singleton.1 hu]; exact .inr ⟨Nat.le_refl _, Nat.lt_succ_self _⟩) ?_
  rw [app_U (upsB_R _ _ _) (hrw : upsR rw [.R nr (some (mapR kd [] 0))] = rw') (Nat.add_zero nb) hnr]
  exact K
/-- An entry written. -/
theorem RG.mpU {t b : Nat} {z u : Value} {et : TypeId} {kd : IntKind} {x m q e : Opd} {es : List En} {ck : Nat} {c : Int} {ev : AV} (T : MapT P t kd et z) (hx : x = xc t 1 := by exact rfl) (hm : Vi (lookT (gT tm) m) (.mptr b) := by exact (by first | (refine Or.inl ?_; (conv => lhs; whnf) <;> exact rfl) | (refine Or.inr ?_; (conv => lhs; whnf) <;> exact rfl))) (hq : Vi (lookT (gT tm) q) (.int kd c) := by exact (by first | (refine Or.inl ?_; (conv => lhs; whnf) <;> exact rfl) | (refine Or.inr ?_; (conv => lhs; whnf) <;> exact rfl))) (he : Vi (lookT (gT tm) e) ev := by exact (by first | (refine Or.inl ?_; (conv => lhs; whnf) <;> exact rfl) | (refine Or.inr ?_; (conv => lhs; whnf) <;> exact rfl))) (hu : cvOf ev = some u := by exact rfl) (hr : gO rw b = some (mapR kd es ck) := by exact (by (conv => lhs; whnf) <;> exact rfl))
    (hrw : setO rw b (some (mapR kd (updE c u ck es) (updC c ck es))) = rw' := by exact (by dsimp only [setO, Nat.reduceAdd]; (first | (all_goals fail) | fail))) (K : RG P N l y ⟨tm, bx, rw', nb, nr⟩ Q) : RG P N (⟨none, .callv x [m, q, e], none⟩ :: l) y ⟨tm, bx, rw, nb, nr⟩ Q := by
  subst hx
  obtain ⟨kt, h1, h2⟩ := T.ht
  refine RG.xop (x_upd h1 h2 hm hq he hu hr) (up_R hr) ?_
  rw [app_M (upsB_R _ _ _) (hrw : upsR rw [.R b (some (mapR kd (updE c u ck es) (updC c ck es)))] = rw') (Nat.add_zero nb) (Nat.add_zero nr)]
  exact K
theorem RG.mpD0 {t b : Nat} {z : Value} {et : TypeId} {kd : IntKind} {x m q : Opd} {es : List En} {ck : Nat} {c : Int} (T : MapT P t kd et z) (hx : x = xc t 4 := by exact rfl) (hm : Vi (lookT (gT tm) m) (.mptr b) := by exact (by first | (refine Or.inl ?_; (conv => lhs; whnf) <;> exact rfl) | (refine Or.inr ?_; (conv => lhs; whnf) <;> exact rfl))) (hq : Vi (lookT (gT tm) q) (.int kd c) := by exact (by first | (refine Or.inl ?_; (conv => lhs; whnf) <;> exact rfl) | (refine Or.inr ?_; (conv => lhs; whnf) <;> exact rfl))) (hr : gO rw b = some (mapR kd es ck) := by exact (by (conv => lhs; whnf) <;> exact rfl))
    (hrw : setO rw b (some (mapR kd (delE c es) ck)) = rw' := by exact (by dsimp only [setO, Nat.reduceAdd]; (first | (all_goals fail) | fail))) (K : RG P N l y ⟨tm, bx, rw', nb, nr⟩ Q) : RG P N (⟨none, .callv x [m, q], none⟩ :: l) y ⟨tm, bx, rw, nb, nr⟩ Q := by
  subst hx
  obtain ⟨kt, h1, h2⟩ := T.ht
  refine RG.xop (x_del h1 h2 hm hq hr) (up_R hr) ?_
  rw [app_M (upsB_R _ _ _) (hrw : upsR rw [.R b (some (mapR kd (delE c es) ck))] = rw') (Nat.add_zero nb) (Nat.add_zero nr)]
  exact K
theorem RG.mpL3 {d t b : Nat} {z : Value} {v : AV} {o : Bool} {et : TypeId} {kd : IntKind} {x m q : Opd} {es : List En} {ck : Nat} {c : Int} (T : MapT P t kd et z) (hv : cst ((getE c es).getD z) = v) (ho : (getE c es).isSome = o) (hx : x = xc t 3 := by exact rfl) (hm : Vi (lookT (gT tm) m) (.mptr b) := by exact (by first | (refine Or.inl ?_; (conv => lhs; whnf) <;> exact rfl) | (refine Or.inr ?_; (conv => lhs; whnf) <;> exact rfl))) (hq : Vi (lookT (gT tm) q) (.int kd c) := by exact (by first | (refine Or.inl ?_; (conv => lhs; whnf) <;> exact rfl) | (refine Or.inr ?_; (conv => lhs; whnf) <;> exact rfl))) (hr : gO rw b = some (mapR kd es ck) := by exact (by (conv => lhs; whnf) <;> exact rfl))
    (K : RG P N l y ⟨(d, .tup [v, .bool o]) :: tm, bx, rw, nb, nr⟩ Q) : RG P N (⟨some d, .callv x [m, q], none⟩ :: l) y ⟨tm, bx, rw, nb, nr⟩ Q := by
  subst hx hv ho
  obtain ⟨kt, h1, h2⟩ := T.ht
  refine RG.xop (x_look3 h1 h2 T.hz hm hq hr) (fun u hu => by cases hu) ?_
  rw [app_U (upsB_0 _) (upsR_0 _) (Nat.add_zero nb) (Nat.add_zero nr)]
  exact K
/-- How many entries: hn tells it. -/
theorem RG.mpC {d t b n : Nat} {z : Value} {et : TypeId} {kd : IntKind} {x m : Opd} {es : List En} {ck : Nat} (T : MapT P t kd et z) (hn : es.length = n) (hx : x = xc t 5 := by exact rfl) (hm : Vi (lookT (gT tm) m) (.mptr b) := by exact (by first | (refine Or.inl ?_; (conv => lhs; whnf) <;> exact rfl) | (refine Or.inr ?_; (conv => lhs; whnf) <;> exact rfl))) (hr : gO rw b = some (mapR kd es ck) := by exact (by (conv => lhs; whnf) <;> exact rfl))
    (K : RG P N l y ⟨(d, .int .i64 n) :: tm, bx, rw, nb, nr⟩ Q) : RG P N (⟨some d, .callv x [m], none⟩ :: l) y ⟨tm, bx, rw, nb, nr⟩ Q := by
  subst hx hn
  obtain ⟨kt, h1, h2⟩ := T.ht
  refine RG.xop (x_len h1 hm hr) (fun u hu => by cases hu) ?_
  rw [app_U (upsB_0 _) (upsR_0 _) (Nat.add_zero nb) (Nat.add_zero nr)]
  exact K
end
end Go.Proofs.Ytjacmhaeemhinaa
