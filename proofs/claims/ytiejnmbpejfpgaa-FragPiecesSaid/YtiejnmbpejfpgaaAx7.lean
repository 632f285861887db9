/- That the operations on abstract values are the program's: new boxes and rows, what is loaded and stored. -/
import Derived.Test.YtiejnmbpejfpgaaAx6
import Derived.Laws.CopyRow
namespace Go.Proofs.Ytiejnmbpejfpgaa
open Go.RowKit
set_option linter.unusedVariables false

structure Grown (B : Nat → Prop) (ρ ρ' : Env) (F F' : Nat → Prop) (bb nb br nr : Nat) : Prop where
  le : ρ.le ρ'
  b : ∀ x, ρ'.b x ≠ none → ρ.b x ≠ none ∨ (bb ≤ x ∧ x < bb + nb)
  r : ∀ x, ρ'.r x ≠ none → ρ.r x ≠ none ∨ (br ≤ x ∧ x < br + nr)
  sub : ∀ x, F x → F' x
  new : ∀ x, F' x → F x ∨ ¬ B x
theorem Grown.refl (B : Nat → Prop) (ρ : Env) (F : Nat → Prop) (bb br : Nat) : Grown B ρ ρ F F bb 0 br 0 := ⟨ρ.le_refl, fun _ h => .inl h, fun _ h => .inl h, fun _ h => h, fun _ h => .inl h⟩
theorem Grown.newB {B : Nat → Prop} {ρ : Env} {F : Nat → Prop} {bb br g : Nat} (h : ρ.b bb = none) : Grown B ρ (ρ.addB bb g) F F bb 1 br 0 :=
  ⟨Env.le_addB h, fun x hx => by
    simp only [Env.addB] at hx; split at hx
    · right; omega
    · exact .inl hx, fun _ h => .inl h, fun _ h => h, fun _ h => .inl h⟩
theorem Grown.newR {B : Nat → Prop} {ρ : Env} {F : Nat → Prop} {bb br : Nat} {p : Pl} (h : ρ.r br = none) : Grown B ρ (ρ.addR br p) F F bb 0 br 1 :=
  ⟨Env.le_addR h, fun _ h => .inl h, fun x hx => by
    simp only [Env.addR] at hx; split at hx
    · right; omega
    · exact .inl hx, fun _ h => h, fun _ h => .inl h⟩
theorem Grown.trans {B : Nat → Prop} {ρ ρ1 ρ2 : Env} {F F1 F2 : Nat → Prop} {bb nb br nr : Nat} (h : Grown B ρ ρ1 F F1 bb 0 br 0) (k : Grown B ρ1 ρ2 F1 F2 bb nb br nr) : Grown B ρ ρ2 F F2 bb nb br nr :=
  ⟨Env.le_trans h.le k.le, fun x hx => (k.b x hx).elim (fun e => (h.b x e).elim .inl fun e => by omega) .inr, fun x hx => (k.r x hx).elim (fun e => (h.r x e).elim .inl fun e => by omega) .inr, fun x hx => k.sub x (h.sub x hx), fun x hx => (k.new x hx).elim (h.new x) .inr⟩

theorem Grown.one {B : Nat → Prop} {ρ ρ' : Env} {F F' : Nat → Prop} {bb br : Nat} (h : Grown B ρ ρ' F F' bb 0 br 0) : Grown B ρ ρ' F F' bb 0 br 1 := ⟨h.le, h.b, fun x hx => (h.r x hx).elim .inl (fun e => by omega), h.sub, h.new⟩
/-- The steps s give a value that av stands for; behind them the state is σ'. -/
def Good (P : Program) (w0 : Base) (N : Nat) (ρ : Env) (F : Nat → Prop) (a : Act) (w : World) (s : Sem Value) (bb nb br nr : Nat) (σ' : FS) (av : AV) : Prop :=
  ∃ v w' ρ' F', s.run P w = .ok v w' ∧ Grown w0.V ρ ρ' F F' bb nb br nr ∧ Sim w0 N ρ' F' σ' a w' ∧ Rep ρ' w0.V F' w' v av

theorem Good.one {P : Program} {w0 : Base} {N : Nat} {ρ : Env} {F : Nat → Prop} {a : Act} {w : World} {s : Sem Value} {bb br : Nat} {σ' : FS} {av : AV} (h : Good P w0 N ρ F a w s bb 0 br 0 σ' av) : Good P w0 N ρ F a w s bb 0 br 1 σ' av :=
  let ⟨v, w', ρ', F', h1, h2, h3⟩ := h; ⟨v, w', ρ', F', h1, h2.one, h3⟩
section
variable {P : Program} {w0 : Base} {N : Nat} {ρ : Env} {F : Nat → Prop} {σ : FS} {a : Act} {w : World}

theorem GV.good {s : Sem Value} {av : AV} {bb br : Nat} (h : Sim w0 N ρ F σ a w) (hv : GV P ρ w0.V F w s av) : Good P w0 N ρ F a w s bb 0 br 0 σ av :=
  let ⟨v, e, r⟩ := hv; ⟨v, w, ρ, F, e, .refl _ _ _ _ _, h, r⟩

theorem newVar_run (t : TypeId) (v : Value) : (do pure (.pointer (some (← newVar t v))) : Sem Value).run P w = .ok (.pointer (some ⟨w.heap.size, 0, none⟩)) (w.alloc (.cells v.cells t)) := by
  simp [newVar, Go.newRow]
theorem g_box {t : TypeId} {v : Value} {av : AV} {bb br : Nat} (h : Sim w0 N ρ F σ a w) (hb : ρ.b bb = none) (hv : Rep ρ w0.V F w v av) (hok : okV av = true) :
    Good P w0 N ρ F a w (Instr.box t v) bb 1 br 0 (σ.setB bb av.cells) (.bptr bb 0) := by
  obtain ⟨h1, h2, h3⟩ := okV_cells hv hok
  exact ⟨_, _, ρ.addB bb w.heap.size, F, newVar_run t v, .newB hb, h.newBox hb h1 h2, .bptr _ _ _ (by simp [Env.addB])⟩
theorem g_alloc {t : TypeId} {z : Value} {bb br : Nat} {i : TypeInfo} (hi : P.info? t = some i) (hz : i.zero = some z) (h : Sim w0 N ρ F σ a w) (hb : ρ.b bb = none) (hok : (cst z).cells.all scal = true) :
    Good P w0 N ρ F a w (Instr.alloc t true (.tuple #[])) bb 1 br 0 (σ.setB bb (cst z).cells) (.bptr bb 0) := by
  have e : (Instr.alloc t true (.tuple #[])).run P w = (Instr.box t z).run P w := by
    simp [Instr.alloc, Instr.box, zeroValue, typeInfo, hi, hz]
  have hok' : okV (cst z) = true := by
    cases hc : cst z with
    | agg l => rw [hc] at hok; exact hok
    | _ => rw [hc] at hok; simpa [AV.cells, okV] using hok
  have := g_box (P := P) (t := t) (br := br) h hb (.pure _ _ (cst_rep F w z)) hok'
  unfold Good at *
  rw [e]; exact this

theorem flat_ones {cells : List AV} (h : cells.all scal = true) : flat cells = cells ∧ ∀ e ∈ cells, e.cells.length = 1 := by
  simp only [List.all_eq_true] at h
  refine ⟨?_, fun e he => by rw [scal_cells (h e he)]; rfl⟩
  induction cells with
  | nil => rfl
  | cons c cs ih =>
    simp only [flat, List.flatMap_cons] at ih ⊢
    rw [scal_cells (h c (List.mem_cons_self ..)), ih (fun x hx => h x (List.mem_cons_of_mem _ hx))]; rfl
/-- A row of one-cell elements in a new block. -/
theorem rowOk_new {cs : Array Value} {T : TypeId} {es : List AV} {k c : Nat} (h : Sim w0 N ρ F σ a w) {w' : World} (hbel : Below w.heap.size w w') (hh : w'.heap[w.heap.size]? = some (.cells cs T (0, 0))) (hk : ∀ e ∈ es, e.cells.length = k) (hc : c * k ≤ cs.size) (hl : es.length ≤ c)
    (hr : ∀ (i : Nat) (av : AV), (flat es)[i]? = some av → ∃ u, cs[i]? = some u ∧ Rep0 F w u av) : RowOk w0.V F w' ⟨w.heap.size, 0, c * k⟩ ⟨false, k, es⟩ := by
  refine ⟨hk, by rw [width_flat hk]; exact Nat.mul_le_mul_right _ hl, .inr ⟨(fun e => by cases e), (fun _ => ⟨h.bel.fresh (Nat.le_refl _), fun e => absurd (h.fl _ e) (Nat.lt_irrefl _)⟩), cs, T, (0, 0), hh, by simpa using hc, fun _ => rfl, fun i av e => ?_⟩⟩
  obtain ⟨u, e1, e2⟩ := hr i av e
  exact ⟨u, by simpa using e1, e2.mono (fun x hx => hbel.block x (h.fl x hx)) fun _ hx => hx⟩
theorem g_boxa {t : TypeId} {v : Value} {l : List AV} {bb br : Nat} (h : Sim w0 N ρ F σ a w) (hb : ρ.r br = none) (hv : Rep ρ w0.V F w v (.agg l)) (hp : l.all pureC = true) (hs : l.all scal = true) (hne : l ≠ []) :
    Good P w0 N ρ F a w (Instr.box t v) bb 0 br 1 (σ.setR br (some ⟨false, 1, l⟩)) (.aptr br l.length) := by
  obtain ⟨cs, rfl, hl, hc⟩ := hv.agg_inv
  obtain ⟨f1, f2⟩ := flat_ones hs
  have hbel : Below w.heap.size w (w.alloc (.cells cs t)) := (Below.refl _ _).alloc (Nat.le_refl _) _
  have hpos : 0 < l.length := List.length_pos_iff.2 hne
  have hrow : RowOk w0.V F (w.alloc (.cells cs t)) ⟨w.heap.size, 0, l.length * 1⟩ ⟨false, 1, l⟩ := rowOk_new (c := l.length) h hbel (heap_alloc_new w _) f2 (by omega) (Nat.le_refl _) fun i av e => by
    rw [f1] at e
    have hi := (List.getElem?_eq_some_iff.1 e).1
    have e1 : cs[i]? = some (cs[i]'(by omega)) := Array.getElem?_eq_getElem (by omega)
    simp only [List.all_eq_true] at hp
    exact ⟨_, e1, (hc i _ _ e1 e).pureC (hp av (List.mem_of_getElem? e))⟩
  refine ⟨_, _, ρ.addR br ⟨w.heap.size, 0, l.length * 1⟩, F, newVar_run t (.agg cs), .newR hb, h.newRow hb hbel (fun _ => ⟨by simp, Nat.le_refl _⟩) hrow, .aptr br l.length ⟨w.heap.size, 0, l.length * 1⟩ (by simp [Env.addR]) (by simp)⟩
theorem g_alloca {t : TypeId} {z : Value} {bb br : Nat} {i : TypeInfo} {l : List AV} (hi : P.info? t = some i) (hz : i.zero = some z) (hl : cst z = .agg l) (h : Sim w0 N ρ F σ a w) (hb : ρ.r br = none) (hp : l.all pureC = true) (hs : l.all scal = true) (hne : l ≠ []) :
    Good P w0 N ρ F a w (Instr.alloc t true (.tuple #[])) bb 0 br 1 (σ.setR br (some ⟨false, 1, l⟩)) (.aptr br l.length) := by
  have e : (Instr.alloc t true (.tuple #[])).run P w = (Instr.box t z).run P w := by
    simp [Instr.alloc, Instr.box, zeroValue, typeInfo, hi, hz]
  have := g_boxa (P := P) (t := t) (bb := bb) h hb (v := z) (l := l) (hl ▸ .pure _ _ (cst_rep F w z)) hp hs hne
  unfold Good at *
  rw [e]; exact this

/-! ### Loads -/
theorem cell_lit {w : World} {g : Nat} {cs : Array Value} {T : TypeId} {fr : Nat × Nat} (h : w.heap[g]? = some (.cells cs T fr)) (o i : Nat) : w.cell? ((⟨g, o, none⟩ : Addr).add i) = cs[o + i]? := by
  rw [add_lit]; exact cell_of_row w g (o + i) cs T fr h
theorem v_load_b {agg : Bool} {n : Nat} {t : TypeId} (hagg : aggOf P t = some agg) (hsz : szOf P t = some n) (h : Sim w0 N ρ F σ a w) {v : Value} {b off : Nat} {cells : List AV} (hv : Rep ρ w0.V F w v (.bptr b off)) (hb : σ.bx b = some cells) (hok : (loadC agg n (cells.drop off)).ok) :
    GV P ρ w0.V F w (Instr.loadAt t v) (loadC agg n (cells.drop off)).av := by
  obtain ⟨g, hg, rfl⟩ := hv.bptr_inv
  obtain ⟨h1, h2, cs, T, h3, h4, h5⟩ := h.bx b cells g hb hg
  refine load_cells hagg hsz _ (cells.drop off) (fun i => cs.getD (off + i) undef) rfl (fun i hi => ?_) (fun i av e => ?_) hok
  · simp at hi
    rw [cell_lit h3]; simp [Array.getD, show off + i < cs.size by omega]
  · rw [List.getElem?_drop] at e
    have hi := (List.getElem?_eq_some_iff.1 e).1
    have e1 : cs[off + i]? = some (cs[off + i]'(by omega)) := Array.getElem?_eq_getElem (by omega)
    rw [show cs.getD (off + i) undef = cs[off + i]'(by omega) by simp [Array.getD, show off + i < cs.size by omega]]
    exact h5 _ _ _ e1 e
theorem v_load_c {agg : Bool} {n : Nat} {t : TypeId} (hagg : aggOf P t = some agg) (hsz : szOf P t = some n) {v : Value} {vol : Bool} {cs : List AV} (hv : Rep ρ w0.V F w v (.cptr vol cs)) (hok : (loadC agg n cs).ok) :
    GV P ρ w0.V F w (Instr.loadAt t v) (loadC agg n cs).av := by
  obtain ⟨ad, f, rfl, hsp, hloc, hcell, hr⟩ := hv.cptr_inv
  exact load_cells hagg hsz ad cs f hsp hcell hr hok
/-- The cells of an own row. -/
theorem row_cells (h : Sim w0 N ρ F σ a w) {b : Nat} {r : ARow} {p : Pl} (hb : σ.rw b = some r) (hp : ρ.r b = some p) : (∀ e ∈ r.es, e.cells.length = r.k) ∧ r.es.length * r.k ≤ p.lim ∧ ∃ f : Nat → Value, (∀ i, i < r.es.length * r.k → w.cell? ⟨p.blk, p.off + i, none⟩ = some (f i)) ∧ ∀ (i : Nat) (av : AV), (flat r.es)[i]? = some av → Rep0 F w (f i) av := by
  obtain ⟨h1, h2, h3⟩ := h.rw b r p hb hp
  have hw := width_flat h1
  refine ⟨h1, by omega, ?_⟩
  rcases h3 with h3 | ⟨h3, h4, cs, T, fr, h5, h6, h7, h8⟩
  · refine ⟨fun _ => undef, fun i hi => by omega, fun i av e => ?_⟩
    have := (List.getElem?_eq_some_iff.1 e).1
    omega
  · refine ⟨fun i => cs.getD (p.off + i) undef, fun i hi => ?_, fun i av e => ?_⟩
    · rw [cell_of_row w _ _ cs T fr h5]; simp [Array.getD, show p.off + i < cs.size by omega]
    · obtain ⟨u, e1, e2⟩ := h8 i av e
      have hi := (List.getElem?_eq_some_iff.1 e).1
      dsimp only
      rw [show cs.getD (p.off + i) undef = u by
        have := (Array.getElem?_eq_some_iff.1 e1).2
        simp [Array.getD, show p.off + i < cs.size by omega, this]]
      exact e2
theorem v_load_r {agg : Bool} {n : Nat} {t : TypeId} (hagg : aggOf P t = some agg) (hsz : szOf P t = some n) (h : Sim w0 N ρ F σ a w) {v : Value} {b k i off : Nat} {r : ARow} (hv : Rep ρ w0.V F w v (.rptr b k i off)) (hb : σ.rw b = some r) (hk : r.k = k) (hi : i < r.es.length) (hok : (loadC agg n ((r.es[i]?.getD .any).cells.drop off)).ok) :
    GV P ρ w0.V F w (Instr.loadAt t v) (loadC agg n ((r.es[i]?.getD .any).cells.drop off)).av := by
  obtain ⟨p, hp, rfl⟩ := hv.rptr_inv
  obtain ⟨h1, h2, f, h3, h4⟩ := row_cells h hb hp
  have he : r.es[i]? = some r.es[i] := List.getElem?_eq_getElem hi
  have hwi := h1 _ (List.getElem_mem hi)
  have hfit : i * k + k ≤ r.es.length * r.k := by
    have : (i + 1) * k ≤ r.es.length * k := Nat.mul_le_mul_right k hi
    rw [Nat.add_mul] at this; rw [hk]; omega
  rw [he, Option.getD_some] at hok ⊢
  refine load_cells hagg hsz _ _ (fun j => f (i * k + (off + j))) rfl (fun j hj => ?_) (fun j av e => .pure _ _ (h4 _ _ ?_)) hok
  · simp at hj
    rw [add_lit, show p.off + (i * k + off) + j = p.off + (i * k + (off + j)) by omega]
    exact h3 _ (by omega)
  · rw [List.getElem?_drop] at e
    have hj := (List.getElem?_eq_some_iff.1 e).1
    rw [← hk, flat_get h1 he (by omega)]; exact e
theorem v_load_a {t : TypeId} {n : Nat} (hagg : aggOf P t = some true) (hsz : szOf P t = some n) (h : Sim w0 N ρ F σ a w) {v : Value} {b m : Nat} {r : ARow} (hv : Rep ρ w0.V F w v (.aptr b m)) (hb : σ.rw b = some r) (hk : r.k = 1) (hl : r.es.length = n) (hs : r.es.all scal = true) :
    GV P ρ w0.V F w (Instr.loadAt t v) (.agg r.es) := by
  obtain ⟨p, hp, hlim, rfl⟩ := hv.aptr_inv
  obtain ⟨h1, h2, f, h3, h4⟩ := row_cells h hb hp
  obtain ⟨f1, f2⟩ := flat_ones hs
  have := load_cells (P := P) (ρ := ρ) (B := w0.V) (F := F) (w := w) hagg hsz (⟨p.blk, p.off, none⟩ : Addr) r.es f rfl (fun i hi => by rw [add_lit]; exact h3 i (by rw [hk]; omega)) (fun i av e => .pure _ _ (h4 i av (by rw [f1]; exact e))) (by simp [loadC, hl])
  rw [show (loadC true n r.es).av = .agg r.es by simp [loadC, ← hl]] at this
  exact this

/-- A slice of an own row, as a row of cells. -/
theorem ref_row (h : Sim w0 N ρ F σ a w) {v : Value} {b k lo n : Nat} {r : ARow} (hv : Rep ρ w0.V F w v (.ref b k lo n)) (hb : σ.rw b = some r) (hk : r.k = k) (hl : lo + n ≤ r.es.length) :
    ∃ (ad : Option Addr) (c : Nat) (p : Pl) (f : Nat → Value), v = .slice ad n c ∧ ρ.r b = some p ∧ RowAt w (fun x => x = p.blk ∧ 0 < p.lim) ad n c (n * k) f ∧ (∀ e ∈ (r.es.drop lo).take n, e.cells.length = k) ∧ ((r.es.drop lo).take n).length = n ∧ ∀ (i : Nat) (av : AV), (flat ((r.es.drop lo).take n))[i]? = some av → Rep0 F w (f i) av := by
  obtain ⟨ad, c, p, rfl, hp, hc, hm, hlim, hn, ha⟩ := hv.ref_inv
  obtain ⟨h1, h2, f, h3, h4⟩ := row_cells h hb hp
  have hw : ∀ e ∈ (r.es.drop lo).take n, e.cells.length = k := fun e he => hk ▸ h1 e (List.mem_of_mem_drop (List.mem_of_mem_take he))
  have hlim2 : (lo + n) * k ≤ r.es.length * r.k := by rw [hk]; exact Nat.mul_le_mul_right _ hl
  have hwd : ∀ e ∈ r.es.drop lo, e.cells.length = k := fun e he => hk ▸ h1 e (List.mem_of_mem_drop he)
  refine ⟨ad, c, p, fun i => f (lo * k + i), rfl, hp, ⟨hc, hm, hn, fun x e hpos => ?_, fun x e i hi => ?_⟩, hw, by simp; omega, fun i av e => ?_⟩
  · have hne : c ≠ 0 := by rintro rfl; simp [show n = 0 by omega] at hpos
    rw [ha hne] at e; cases e
    refine ⟨rfl, ?_⟩
    have : 0 < n * k := hpos
    rw [Nat.add_mul] at hlim2
    omega
  · have hne : c ≠ 0 := by rintro rfl; simp [show n = 0 by omega] at hi
    rw [ha hne] at e; cases e
    rw [add_lit, Nat.add_assoc]
    rw [Nat.add_mul] at hlim2
    exact h3 _ (by omega)
  · rw [flat_take hwd, flat_drop (k := k) (fun e he => hk ▸ h1 e he), List.getElem?_take] at e
    split at e
    · rw [List.getElem?_drop] at e; exact h4 _ _ e
    · cases e
/-- What els gives, as a row of cells. -/
theorem els_row (h : Sim w0 N ρ F σ a w) {v : Value} {y : AV} {k : Nat} {es : List AV} (hv : Rep ρ w0.V F w v y) (he : els σ.rw y = some (k, es)) :
    ∃ (ad : Option Addr) (c : Nat) (f : Nat → Value), v = .slice ad es.length c ∧ RowAt w (fun _ => True) ad es.length c (es.length * k) f ∧ (∀ e ∈ es, e.cells.length = k) ∧ ∀ (i : Nat) (av : AV), (flat es)[i]? = some av → Rep0 F w (f i) av := by
  cases y with
  | sl vol k' es' =>
    simp [els] at he; obtain ⟨rfl, rfl⟩ := he
    obtain ⟨ad, c, f, rfl, hw, hr, hc⟩ := hv.sl_inv
    exact ⟨ad, c, f, rfl, hr.mono (Agree.refl _ _) (fun _ _ => trivial), hw, hc⟩
  | csl vol k' es' =>
    simp [els] at he; obtain ⟨rfl, rfl⟩ := he
    obtain ⟨ad, f, rfl, hw, hr, hc⟩ := hv.csl_inv
    exact ⟨ad, _, f, rfl, hr.mono (Agree.refl _ _) (fun _ _ => trivial), hw, hc⟩
  | nil =>
    simp [els] at he; obtain ⟨rfl, rfl⟩ := he
    obtain ⟨ad, c, f, e, hw, hr, hc⟩ := (Rep.nil_sl (k := 0) (vol := false) hv).sl_inv
    exact ⟨ad, c, f, e, hr.mono (Agree.refl _ _) (fun _ _ => trivial), hw, hc⟩
  | ref b k' lo n =>
    simp only [els] at he
    split at he
    · rename_i r hr
      split at he
      · rename_i hcnd
        simp at he; obtain ⟨rfl, rfl⟩ := he
        obtain ⟨ad, c, p, f, rfl, hp, hra, hw, hlen, hc⟩ := ref_row h hv hr hcnd.1 hcnd.2
        refine ⟨ad, c, f, by rw [hlen], ?_, hw, hc⟩
        rw [hlen]; exact hra.mono (Agree.refl _ _) (fun _ _ => trivial)
      · cases he
    · cases he
  | refc b k' lo n c9 =>
    simp only [els] at he
    split at he
    · rename_i r hr
      split at he
      · rename_i hcnd
        simp at he; obtain ⟨rfl, rfl⟩ := he
        obtain ⟨ad, c, p, f, rfl, hp, hra, hw, hlen, hc⟩ := ref_row h hv.rf hr hcnd.1 hcnd.2
        refine ⟨ad, c, f, by rw [hlen], ?_, hw, hc⟩
        rw [hlen]; exact hra.mono (Agree.refl _ _) (fun _ _ => trivial)
      · cases he
    · cases he
  | raw u =>
    rw [hv.raw_inv]
    cases u with
    | slice ad n c =>
      cases ad with
      | none => simp [els] at he
      | some ad =>
        cases n with
        | zero =>
          simp only [els] at he
          split at he
          · rename_i hc
            cases he
            exact ⟨_, _, fun _ => undef, rfl, ⟨Nat.zero_le _, hc, (fun e => by cases e), (fun ad _ h => by simp at h), (fun ad _ i hi => by simp at hi)⟩, (by simp), (by simp [flat])⟩
          · cases he
        | succ n => simp [els] at he
    | _ => simp [els] at he
  | _ => simp [els] at he

theorem isBy_get {es : List AV} (h : isBy es = true) : flat es = es ∧ ∀ e ∈ es, ∃ n : Int, e = .int .u8 n ∧ 0 ≤ n ∧ n < 256 := by
  simp only [isBy, List.all_eq_true] at h
  have h2 : ∀ e ∈ es, ∃ n : Int, e = .int .u8 n ∧ 0 ≤ n ∧ n < 256 := fun e he => by
    have := h e he
    split at this
    · exact ⟨_, rfl, by simpa using this⟩
    · cases this
  refine ⟨(flat_ones (by simp only [List.all_eq_true]; intro e he; obtain ⟨n, rfl, _⟩ := h2 e he; rfl)).1, h2⟩
theorem push_fold (ns : List Int) (r : ByteArray) : (ns.foldl (fun r n => r.push (UInt8.ofNat n.toNat)) r).data.toList = r.data.toList ++ ns.map fun n => UInt8.ofNat n.toNat := by
  induction ns generalizing r with
  | nil => simp
  | cons n ns ih => simp [ih]
theorem v_b2s (h : Sim w0 N ρ F σ a w) {v : Value} {y : AV} {k : Nat} {es : List AV} (hv : Rep ρ w0.V F w v y) (he : els σ.rw y = some (k, es)) (hby : isBy es = true) :
    GV P ρ w0.V F w (Conv.bytesToString v) (.str (unby es)) := by
  obtain ⟨ad, c, f, rfl, hr, hw, hc⟩ := els_row h hv he
  obtain ⟨b1, b2⟩ := isBy_get hby
  rw [b1] at hc
  cases ad with
  | none =>
    have h0 : es = [] := List.eq_nil_of_length_eq_zero (by have := hr.nil rfl; have := hr.cap; omega)
    subst h0
    exact ⟨.string .empty, rfl, rep_str _ _ rfl⟩
  | some ad =>
    have hcell : ∀ i, i < es.length → w.cell? (ad.add i) = some (f i) := fun i hi => by
      have : k = 1 := by
        obtain ⟨n, e, _⟩ := b2 es[i] (List.getElem_mem hi)
        have := hw es[i] (List.getElem_mem hi)
        rw [e] at this; simpa [AV.cells] using this.symm
      exact hr.cell ad rfl i (by subst this; omega)
    have hl := run_loadCells (P := P) w ad es.length f hcell
    have e2 : ((List.range es.length).map f) = (es.map fun | .int _ n => n | _ => 0).map (Value.int .u8) := by
      apply List.ext_getElem?
      intro i
      simp only [List.getElem?_map]
      by_cases hi : i < es.length
      · obtain ⟨n, e, _⟩ := b2 es[i] (List.getElem_mem hi)
        have e3 : es[i]? = some (.int .u8 n) := by rw [List.getElem?_eq_getElem hi, e]
        have hf := hc i _ e3
        rw [List.getElem?_range hi, e3]
        cases hfi : f i <;> rw [hfi] at hf <;> first | (cases hf; simp [hfi]) | cases hf
      · rw [List.getElem?_eq_none (by simpa using hi), List.getElem?_eq_none (by simpa using hi)]; rfl
    rw [e2] at hl
    refine ⟨_, run_bytesToString w ad es.length c _ hl, rep_str _ _ ?_⟩
    rw [push_fold]
    simp only [ByteArray.data_empty, List.map_map, unby]
    show [] ++ _ = _
    rw [List.nil_append]
    refine List.map_congr_left fun e he => ?_
    obtain ⟨n, rfl, _⟩ := b2 e he
    rfl
end
end Go.Proofs.Ytiejnmbpejfpgaa
