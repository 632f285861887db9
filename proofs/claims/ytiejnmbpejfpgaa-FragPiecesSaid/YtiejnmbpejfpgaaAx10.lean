/- That the operations on abstract values are the program's: append, copy, clear, make, stores into rows. -/
import Derived.Test.YtiejnmbpejfpgaaAx9
namespace Go.Proofs.Ytiejnmbpejfpgaa
open Go.RowKit
set_option linter.unusedVariables false

theorem flat_set {es : List AV} {k : Nat} (hw : ∀ e ∈ es, e.cells.length = k) {i : Nat} (hi : i < es.length) {x : AV} (hx : x.cells.length = k) : flat (es.set i x) = putCells (flat es) (i * k) x.cells := by
  rw [List.set_eq_take_append_cons_drop, if_pos hi, flat_append, flat_take hw]
  show _ ++ flat (x :: es.drop (i + 1)) = _
  have e1 : flat (x :: es.drop (i + 1)) = x.cells ++ flat (es.drop (i + 1)) := by simp [flat]
  rw [e1, flat_drop hw, putCells, hx, Nat.add_mul, Nat.one_mul]
theorem put_put {l a b : List AV} {i off : Nat} (h1 : i + a.length ≤ l.length) (h2 : off + b.length ≤ a.length) (h3 : ∀ j, j < a.length → l[i + j]? = a[j]?) : putCells l i (putCells a off b) = putCells l (i + off) b := by
  have e1 := put_length h2
  apply List.ext_getElem?
  intro j
  rw [put_get (l := l) (new := putCells a off b) (off := i) (by omega), put_get (l := l) (new := b) (off := i + off) (by omega), e1]
  by_cases hj : i ≤ j ∧ j < i + a.length
  · rw [if_pos hj, put_get h2]
    by_cases hj2 : off ≤ j - i ∧ j - i < off + b.length
    · rw [if_pos hj2, if_pos (by omega)]; congr 1; omega
    · rw [if_neg hj2, if_neg (by omega), ← h3 _ (by omega)]; congr 1; omega
  · rw [if_neg hj, if_neg (by omega)]

section
variable {P : Program} {w0 : Base} {N : Nat} {ρ : Env} {F : Nat → Prop} {σ : FS} {a : Act} {w : World}

theorem frz_ids {v : Value} {x x' : AV} (hr : Rep ρ w0.V F w v x) (he : frzV σ.rw x = some x') : ∀ b ∈ frzIds x, ∃ r p, σ.rw b = some r ∧ ρ.r b = some p := by
  intro b hb
  have one : ∀ (u : Value) (y y' : AV), Rep ρ w0.V F w u y → frzC σ.rw y = some y' → (∃ k lo n, y = .ref b k lo n) → ∃ r p, σ.rw b = some r ∧ ρ.r b = some p := by
    rintro u y y' h1 h2 ⟨k, lo, n, rfl⟩
    simp only [frzC] at h2
    split at h2
    · rename_i r hrr
      obtain ⟨_, _, p, _, hp, _⟩ := h1.ref_inv
      exact ⟨r, p, hrr, hp⟩
    · cases h2
  by_cases ha : ∃ l, x = .agg l
  · obtain ⟨l, rfl⟩ := ha
    simp only [frzIds, List.mem_flatMap] at hb
    obtain ⟨y, hy, hby⟩ := hb
    obtain ⟨cs, hcs, hl2, hc⟩ := hr.agg_inv
    simp only [frzV, Option.map_eq_some_iff] at he
    obtain ⟨l', he, _⟩ := he
    obtain ⟨hlen', hget'⟩ := mapM_get he
    obtain ⟨j, hj, e5⟩ := List.getElem_of_mem hy
    have e6 : l[j]? = some y := by rw [List.getElem?_eq_getElem hj, e5]
    have e7 : cs[j]? = some (cs[j]'(by omega)) := Array.getElem?_eq_getElem (by omega)
    have e8 : l'[j]? = some (l'[j]'(by omega)) := List.getElem?_eq_getElem (by omega)
    refine one _ y _ (hc j _ _ e7 e6) (hget' j _ _ e6 e8) ?_
    cases y <;> simp at hby
    subst hby; exact ⟨_, _, _, rfl⟩
  · refine one _ x _ hr (by cases x <;> first | exact he | exact absurd ⟨_, rfl⟩ ha) ?_
    cases x <;> simp [frzIds] at hb
    · subst hb; exact ⟨_, _, _, rfl⟩
    · exact absurd ⟨_, rfl⟩ ha

/-- A store into an own row's element. -/
theorem store_r {t : TypeId} {n : Nat} (hsz : szOf P t = some n) (h : Sim w0 N ρ F σ a w) {pv v : Value} {b k i off : Nat} {r : ARow} {av v' : AV} (hp : Rep ρ w0.V F w pv (.rptr b k i off)) (hb : σ.rw b = some r) (hv : Rep ρ w0.V F w v av) (hz : frzV σ.rw av = some v') (hok : okV av = true) (hn : av.cells.length = n)
    (hk : r.k = k) (hi : i < r.es.length) (hoff : off + n ≤ k) (hf : r.fro = false) (hnb : b ∉ frzIds av) (hpos : 0 < n) :
    ∃ w' F', (Instr.storeAt t pv v).run P w = .ok () w' ∧ (∀ x, F x → F' x) ∧ (∀ x, F' x → F x ∨ ¬ w0.V x) ∧ Sim w0 N ρ F' (σ.ups (frzUp σ.rw (frzIds av) ++ [.R b (some { r with es := r.es.set i (if n = k then v' else .agg (putCells (r.es[i]?.getD .any).cells off v'.cells)) })])) a w' := by
  obtain ⟨p, hq, rfl⟩ := hp.rptr_inv
  clear hp
  have hp := hq
  obtain ⟨F', f1, f2, f3, f4, f5, f6⟩ := freeze_all σ.rw (frzIds av) F σ h (fun b r e => .inl e) (frz_ids hv hz)
  obtain ⟨z1, z2, z3⟩ := frzV_ok hok hz
  have hrep0 := frzV_rep h hv hz f1 f3
  obtain ⟨c1, c2, c3⟩ := okV_cells hv hok
  obtain ⟨d1, d2⟩ := okV_cells0 hrep0 z1
  have hrow := (h.rw b r p hb hp).1
  have he : r.es[i]? = some r.es[i] := List.getElem?_eq_getElem hi
  have hwi := hrow _ (List.getElem_mem hi)
  rw [he, Option.getD_some]
  have hwf := width_flat hrow
  have hfit : i * k + k ≤ r.es.length * r.k := by
    have : (i + 1) * k ≤ r.es.length * k := Nat.mul_le_mul_right k hi
    rw [Nat.add_mul] at this; rw [hk]; omega
  have hx : (if n = k then v' else AV.agg (putCells r.es[i].cells off v'.cells)).cells.length = r.k := by
    split
    · omega
    · show (putCells r.es[i].cells off v'.cells).length = _
      rw [put_length (by omega), hwi]
  have hflat : flat (r.es.set i (if n = k then v' else .agg (putCells r.es[i].cells off v'.cells))) = putCells (flat r.es) (i * k + off) v'.cells := by
    rw [flat_set hrow hi hx, hk]
    split
    · rw [show off = 0 by omega]; rfl
    · show putCells _ _ (putCells r.es[i].cells off v'.cells) = _
      refine put_put (by rw [hwi, hk, hwf]; exact hfit) (by omega) fun j hj => ?_
      rw [← hk]; exact flat_get hrow he (by omega)
  have hl : v.cells.toList.length = v'.cells.length := by simpa using d1
  obtain ⟨w', e1, e2⟩ := write_row (P := P) f4 (by rw [f6 b hnb]; exact hb) hp hf (o := i * k + off) (news := v.cells.toList) (avs := v'.cells) hl (by intro e; rw [e] at z2; simp at z2; omega) (by rw [hwf]; omega) (fun j u x g1 g2 => d2 j u x (by simpa using g1) g2) c3 (es' := r.es.set i (if n = k then v' else .agg (putCells r.es[i].cells off v'.cells))) (fun e he => by
    rcases List.mem_or_eq_of_mem_set he with he | rfl
    · exact hrow e he
    · exact hx) hflat
  refine ⟨w', F', by rw [run_storeAt hsz (by omega)]; exact e1, f1, f2, ?_⟩
  rw [ups_app]; exact e2
/-- A store of a whole array. -/
theorem store_a {t : TypeId} {n : Nat} (hsz : szOf P t = some n) (h : Sim w0 N ρ F σ a w) {pv v : Value} {b m : Nat} {r : ARow} {l : List AV} (hp : Rep ρ w0.V F w pv (.aptr b m)) (hb : σ.rw b = some r) (hv : Rep ρ w0.V F w v (.agg l)) (hok : okV (.agg l) = true) (hn : l.length = n)
    (hk : r.k = 1) (hl : r.es.length = n) (hf : r.fro = false) (hpu : l.all pureC = true) (hpos : 0 < n) :
    ∃ w', (Instr.storeAt t pv v).run P w = .ok () w' ∧ Sim w0 N ρ F (σ.setR b (some { r with es := l })) a w' := by
  obtain ⟨p, hq, hlim, rfl⟩ := hp.aptr_inv
  clear hp
  have hp := hq
  obtain ⟨c1, c2, c3⟩ := okV_cells hv hok
  obtain ⟨g1, g2⟩ := flat_ones (show l.all scal = true from hok)
  have hrow := (h.rw b r p hb hp).1
  have hwf := width_flat hrow
  have c1' : v.cells.size = l.length := c1
  have c2' : ∀ (i : Nat) (u : Value) (x : AV), v.cells[i]? = some u → l[i]? = some x → Rep ρ w0.V F w u x := c2
  simp only [List.all_eq_true] at hpu
  obtain ⟨w', e1, e2⟩ := write_row (P := P) h hb hp hf (o := 0) (news := v.cells.toList) (avs := l) (by simpa using c1') (by intro e; subst e; simp at hn; omega) (by rw [hwf, hk]; omega) (fun j u x q1 q2 => (c2' j u x (by simpa using q1) q2).pureC (hpu x (List.mem_of_getElem? q2))) c3 (es' := l) (by rw [hk]; exact g2) (by
    rw [g1]; unfold putCells
    rw [List.take_zero, List.nil_append, List.drop_eq_nil_of_le (by rw [hwf, hk]; omega), List.append_nil])
  exact ⟨w', by rw [run_storeAt hsz (by omega)]; exact e1, e2⟩

theorem pureV_cells {es : List AV} (h : es.all pureV = true) : ∀ x ∈ flat es, pureC x = true := by
  intro x hx
  simp only [flat, List.mem_flatMap] at hx
  obtain ⟨e, he, hxe⟩ := hx
  simp only [List.all_eq_true] at h
  have := h e he
  cases e with
  | agg l => simp only [pureV, List.all_eq_true] at this; exact this x hxe
  | _ => simp only [AV.cells, List.mem_singleton] at hxe; subst hxe; exact this
/-- A row of cells, as a source. -/
theorem src_of {tx e' : TypeId} {k size : Nat} (ht : P.underlying tx = some (.slice e')) {ad : Option Addr} {c : Nat} {f : Nat → Value} {es : List AV} (hr : RowAt w (fun _ => True) ad es.length c (es.length * k) f) (hw : ∀ e ∈ es, e.cells.length = k) (hc : ∀ (i : Nat) (av : AV), (flat es)[i]? = some av → Rep0 F w (f i) av) (hp : es.all pureV = true) (hk : k = size ∨ es = []) :
    Src P size tx (.slice ad es.length c) es.length ((List.range (es.length * k)).map f) w := by
  have hwf := width_flat hw
  have h1 : ∀ u ∈ (List.range (es.length * k)).map f, u.oneCell' = true := fun u hu => by
    obtain ⟨i, hi, rfl⟩ := List.mem_map.1 hu
    simp at hi
    have e1 : (flat es)[i]? = some ((flat es)[i]'(by omega)) := List.getElem?_eq_getElem (by omega)
    exact (scal_one (ρ := Env.none) (B := V0) (.pure _ _ (hc i _ e1)) (pureC_scal (pureV_cells hp _ (List.getElem_mem _)))).1
  cases ad with
  | none =>
    have h0 : es = [] := List.eq_nil_of_length_eq_zero (by have := hr.nil rfl; have := hr.cap; omega)
    subst h0
    simpa using Src.ofNil (P := P) (w := w) (size := size) ht c
  | some ad =>
    refine Src.ofSlice w ht ad es.length c _ ?_ (fun j u hu => ?_) h1
    · rcases hk with rfl | rfl <;> simp
    · rw [List.getElem?_map] at hu
      by_cases hj : j < es.length * k
      · rw [List.getElem?_range hj] at hu
        cases hu
        exact hr.cell ad rfl j hj
      · rw [List.getElem?_eq_none (by simpa using hj)] at hu; cases hu
theorem range_reps {k : Nat} {f : Nat → Value} {es : List AV} (hw : ∀ e ∈ es, e.cells.length = k) (hc : ∀ (i : Nat) (av : AV), (flat es)[i]? = some av → Rep0 F w (f i) av) : ∀ (i : Nat) (av : AV), (flat es)[i]? = some av → ∃ u, ((List.range (es.length * k)).map f)[i]? = some u ∧ Rep0 F w u av := fun i av e => by
  have hi := (List.getElem?_eq_some_iff.1 e).1
  rw [width_flat hw] at hi
  exact ⟨f i, by rw [List.getElem?_map, List.getElem?_range hi]; rfl, hc i av e⟩

theorem run_app_room {t tx ty e : TypeId} {i : TypeInfo} (ht : P.underlying t = some (.slice e)) (hi : P.info? e = some i) (base : Option Addr) (sLen sCap : Nat) (x : Value) (n : Nat) (news : List Value) (hs : Src P i.size tx x n news w) (hroom : sLen + n ≤ sCap) :
    (Builtin.append_ #[t, tx] ty #[.slice base sLen sCap, x]).run P w = match base with
      | some ad => ((storeCells (ad.add (sLen * i.size)) news).run P w).andThen fun _ w' => .ok (.slice base (sLen + n) sCap) w'
      | none => .ok (.slice base (sLen + n) sCap) w := by
  cases base <;> rcases hs.kind with ⟨e', hk⟩ | hk <;> simp [Builtin.append_, run_underlying ht, run_underlying hk, sizeOf, typeInfo, hi, hs.len, hroom, hs.cells]

/-- A new row that is made of two. -/
theorem new_row2 (h : Sim w0 N ρ F σ a w) {br k e : Nat} (hb : ρ.r br = none) {z : Value} (hzs : z.cells.size = k) {olds news : List Value} {es1 es2 : List AV} (hw1 : ∀ e ∈ es1, e.cells.length = k) (hw2 : ∀ e ∈ es2, e.cells.length = k) (hl1 : olds.length = es1.length * k) (hl2 : news.length = es2.length * k)
    (hr1 : ∀ (i : Nat) (av : AV), (flat es1)[i]? = some av → ∃ u, olds[i]? = some u ∧ Rep0 F w u av) (hr2 : ∀ (i : Nat) (av : AV), (flat es2)[i]? = some av → ∃ u, news[i]? = some u ∧ Rep0 F w u av) (c : Nat) (hc : es1.length + es2.length ≤ c) (hcm : c ≤ maxLen) :
    Sim w0 N (ρ.addR br ⟨w.heap.size, 0, c * k⟩) F (σ.setR br (some ⟨false, k, es1 ++ es2⟩)) a (w.drew.alloc (.cells ((olds ++ news).toArray ++ Builtin.zeroCells z.cells (c - (es1.length + es2.length))) e)) ∧
    Rep (ρ.addR br ⟨w.heap.size, 0, c * k⟩) w0.V F (w.drew.alloc (.cells ((olds ++ news).toArray ++ Builtin.zeroCells z.cells (c - (es1.length + es2.length))) e)) (.slice (some ⟨w.heap.size, 0, none⟩) (es1.length + es2.length) c) (.ref br k 0 (es1.length + es2.length)) ∧
    RowOk w0.V F (w.drew.alloc (.cells ((olds ++ news).toArray ++ Builtin.zeroCells z.cells (c - (es1.length + es2.length))) e)) ⟨w.heap.size, 0, c * k⟩ ⟨false, k, es1 ++ es2⟩ := by
  have hbel : Below w.heap.size w (w.drew.alloc (.cells ((olds ++ news).toArray ++ Builtin.zeroCells z.cells (c - (es1.length + es2.length))) e)) := ((Below.refl _ _).drew).alloc (Nat.le_refl _) _
  have hws : ∀ e ∈ es1 ++ es2, e.cells.length = k := fun e he => (List.mem_append.1 he).elim (hw1 e) (hw2 e)
  have hsz : ((olds ++ news).toArray ++ Builtin.zeroCells z.cells (c - (es1.length + es2.length))).size = c * k := by
    simp only [Array.size_append, List.size_toArray, List.length_append, size_zeroCells, hzs, hl1, hl2]
    rw [← Nat.add_mul, ← Nat.add_mul]; congr 1; omega
  have hrow := rowOk_new (k := k) (c := c) (es := es1 ++ es2) h hbel (heap_alloc_new w.drew _) hws (by rw [hsz]; exact Nat.le_refl _) (by simp; omega) (fun i av g => by
    rw [flat_append] at g
    have hf1 := width_flat hw1
    have hf2 := width_flat hw2
    by_cases hi : i < (flat es1).length
    · rw [List.getElem?_append_left hi] at g
      obtain ⟨u, q1, q2⟩ := hr1 i av g
      refine ⟨u, ?_, q2⟩
      rw [Array.getElem?_append_left (by simp; omega)]
      simp only [List.getElem?_toArray]
      rw [List.getElem?_append_left (by omega)]; exact q1
    · rw [List.getElem?_append_right (by omega)] at g
      obtain ⟨u, q1, q2⟩ := hr2 _ av g
      have := (List.getElem?_eq_some_iff.1 g).1
      refine ⟨u, ?_, q2⟩
      rw [Array.getElem?_append_left (by simp; omega)]
      simp only [List.getElem?_toArray]
      rw [List.getElem?_append_right (by omega)]
      rw [hl1, ← hf1]; exact q1)
  refine ⟨h.newRow hb hbel (fun _ => ⟨by simp, Nat.le_refl _⟩) hrow, ?_, hrow⟩
  exact .ref _ _ _ _ _ _ ⟨w.heap.size, 0, c * k⟩ (by simp [Env.addR]) hc hcm (by simp) (by simp) (fun _ => by simp)

/-- Memory that is new is given to those that nobody writes. -/
theorem Sim.addF (h : Sim w0 N ρ F σ a w) {w' : World} (hbel : Below w.heap.size w w') {g : Nat} (h1 : w.heap.size ≤ g) (h2 : g < w'.heap.size) : Sim w0 N ρ (fun x => F x ∨ x = g) σ a w' := by
  have h' := h.grow hbel
  have refl (S : Nat → Prop) := Agree.refl S w'
  refine ⟨h'.sz, h'.df, fun t => (h'.tm t).mono ρ.le_refl (refl _) (fun _ hx => .inl hx) (fun _ hx => .inl hx), fun b c x e1 e2 => ?_, fun b r p e1 e2 => ?_, h'.ib, h'.ir, h'.ibr, h'.lb, h'.lr, fun x hx => ?_, h'.bel⟩
  · refine (h'.bx b c x e1 e2).mono ρ.le_refl (refl _) rfl (fun _ hx => .inl hx) ?_
    rintro (hx | rfl)
    · exact (h'.bx b c x e1 e2).2.1 hx
    · have := h.lb b _ e2; omega
  · refine (h'.rw b r p e1 e2).mono (refl _) (fun _ => rfl) (fun _ hx => .inl hx) (fun e hl => ?_)
    rintro (hx | hx)
    · rcases (h'.rw b r p e1 e2).2.2 with q | ⟨_, q, _⟩
      · omega
      · exact (q e).2 hx
    · have := h.lr b p e2 hl; omega
  · rcases hx with hx | rfl
    · exact h'.fl x hx
    · exact h2
end
end Go.Proofs.Ytiejnmbpejfpgaa
