/- A frame's state, abstractly, and how a world fits it. -/
import Derived.Test.YtiejnmbpejfpgaaAx1
namespace Go.Proofs.Ytiejnmbpejfpgaa
open Go.RowKit
set_option linter.unusedVariables false

structure ARow where
  fro : Bool
  k : Nat
  es : List AV
structure FS where
  tm : Nat → AV
  bx : Nat → Option (List AV)
  rw : Nat → Option ARow

def BoxOk (ρ : Env) (B : Nat → Prop) (F : Nat → Prop) (w : World) (g : Nat) (cells : List AV) : Prop :=
  ¬ B g ∧ ¬ F g ∧ ∃ cs T, w.heap[g]? = some (.cells cs T (0, 0)) ∧ cs.size = cells.length ∧ ∀ (i : Nat) (u : Value) (av : AV), cs[i]? = some u → cells[i]? = some av → Rep ρ B F w u av
def RowOk (B : Nat → Prop) (F : Nat → Prop) (w : World) (p : Pl) (r : ARow) : Prop :=
  (∀ e ∈ r.es, e.cells.length = r.k) ∧ (flat r.es).length ≤ p.lim ∧ (p.lim = 0 ∨ ((r.fro = true → F p.blk) ∧ (r.fro = false → ¬ B p.blk ∧ ¬ F p.blk) ∧ ∃ cs T fr, w.heap[p.blk]? = some (.cells cs T fr) ∧ p.off + p.lim ≤ cs.size ∧ (r.fro = false → fr = (0, 0)) ∧ ∀ (i : Nat) (av : AV), (flat r.es)[i]? = some av → ∃ u, cs[p.off + i]? = some u ∧ Rep0 F w u av))

def LtF (B : Nat → Prop) (F : Nat → Prop) : Nat → Prop := fun x => B x ∨ F x

theorem frozen_of_block {w w' : World} {g i : Nat} (h : w'.heap[g]? = w.heap[g]?) : w'.frozen? ⟨g, i, none⟩ = w.frozen? ⟨g, i, none⟩ := World.frozen?_of_block h

theorem BoxOk.mono {ρ ρ' : Env} {B : Nat → Prop} {F F' : Nat → Prop} {w w' : World} {g : Nat} {cells : List AV} (h : BoxOk ρ B F w g cells) (hρ : ρ.le ρ') (hA : Agree (fun x => B x ∨ F x) w w') (hg : w'.heap[g]? = w.heap[g]?) (hF : ∀ x, F x → F' x) (hn : ¬ F' g) : BoxOk ρ' B F' w' g cells := by
  obtain ⟨h1, h2, cs, T, h3, h4, h6⟩ := h
  exact ⟨h1, hn, cs, T, hg.trans h3, h4, fun i u av e1 e2 => (h6 i u av e1 e2).mono hρ hA (fun _ hx => .inl hx) hF⟩
theorem RowOk.mono {B : Nat → Prop} {F F' : Nat → Prop} {w w' : World} {p : Pl} {r : ARow} (h : RowOk B F w p r) (hA : Agree F w w') (hg : 0 < p.lim → w'.heap[p.blk]? = w.heap[p.blk]?) (hF : ∀ x, F x → F' x) (hn : r.fro = false → 0 < p.lim → ¬ F' p.blk) : RowOk B F' w' p r := by
  obtain ⟨h1, h2, h3⟩ := h
  refine ⟨h1, h2, ?_⟩
  rcases h3 with h3 | ⟨h3, h4, cs, T, fr, h5, h6, h7, h8⟩
  · exact .inl h3
  · by_cases hz : p.lim = 0
    · exact .inl hz
    · refine .inr ⟨fun e => hF _ (h3 e), fun e => ⟨(h4 e).1, hn e (by omega)⟩, cs, T, fr, (hg (by omega)).trans h5, h6, h7, fun i av e => ?_⟩
      obtain ⟨u, e1, e2⟩ := h8 i av e
      exact ⟨u, e1, e2.mono hA hF⟩

/-- Where a frame stands: V: memory that is not its own, and stays as it is (V); the world at its beginning. -/
structure Base where
  V : Nat → Prop
  w : World
  ds : List Deferred
/-- Memory below stays as it was. -/
structure Base.Bel (b : Base) (w : World) : Prop where
  os : w.os = b.w.os
  output : w.output = b.w.output
  grow : b.w.heap.size ≤ w.heap.size
  size : ∀ x, b.V x → x < w.heap.size
  block : ∀ k, b.V k → w.heap[k]? = b.w.heap[k]?
theorem Base.Bel.step {b : Base} {w w' : World} (h : b.Bel w) (hos : w'.os = w.os) (hout : w'.output = w.output) (hsz : w.heap.size ≤ w'.heap.size) (hb : ∀ k, b.V k → w'.heap[k]? = w.heap[k]?) : b.Bel w' :=
  ⟨hos.trans h.os, hout.trans h.output, Nat.le_trans h.grow hsz, fun x hx => Nat.lt_of_lt_of_le (h.size x hx) hsz, fun k hk => (hb k hk).trans (h.block k hk)⟩
theorem Base.Bel.below {b : Base} {w w' : World} (h : b.Bel w) (k : Below w.heap.size w w') : b.Bel w' := h.step k.os k.output k.size fun x hx => k.block x (h.size x hx)
theorem Base.Bel.fresh {b : Base} {w : World} (h : b.Bel w) {g : Nat} (hg : w.heap.size ≤ g) : ¬ b.V g := fun hv => absurd (h.size g hv) (by omega)
/-- The world w and the activation a fit the state σ. -/
structure Sim (w0 : Base) (N : Nat) (ρ : Env) (F : Nat → Prop) (σ : FS) (a : Act) (w : World) : Prop where
  sz : a.tmps.size = N
  df : a.defers = w0.ds
  tm : ∀ t, Rep ρ w0.V F w (a.tmps.getD t undef) (σ.tm t)
  bx : ∀ b cells g, σ.bx b = some cells → ρ.b b = some g → BoxOk ρ w0.V F w g cells
  rw : ∀ b r p, σ.rw b = some r → ρ.r b = some p → RowOk w0.V F w p r
  ib : ∀ b b' g, ρ.b b = some g → ρ.b b' = some g → b = b'
  ir : ∀ b b' p p' r r', ρ.r b = some p → ρ.r b' = some p' → σ.rw b = some r → σ.rw b' = some r' → r.fro = false → r'.fro = false → 0 < p.lim → 0 < p'.lim → p.blk = p'.blk → b = b'
  ibr : ∀ b b' g p, ρ.b b = some g → ρ.r b' = some p → 0 < p.lim → p.blk ≠ g
  lb : ∀ b g, ρ.b b = some g → g < w.heap.size
  lr : ∀ b p, ρ.r b = some p → 0 < p.lim → p.blk < w.heap.size
  fl : ∀ x, F x → x < w.heap.size
  bel : w0.Bel w

section
variable {w0 : Base} {N : Nat} {ρ : Env} {F : Nat → Prop} {σ : FS} {a : Act} {w : World}
theorem block_some_lt {w : World} {g : Nat} {o : Obj} (h : w.heap[g]? = some o) : g < w.heap.size := by
  rcases Nat.lt_or_ge g w.heap.size with h' | h'
  · exact h'
  · rw [Array.getElem?_eq_none h'] at h; cases h

/-- New blocks alone. -/
theorem Sim.grow (h : Sim w0 N ρ F σ a w) {w' : World} (hb : Below w.heap.size w w') : Sim w0 N ρ F σ a w' := by
  have hA : Agree (fun x => w0.V x ∨ F x) w w' := fun x hx => hb.block x (by rcases hx with hx | hx; exact h.bel.size x hx; exact h.fl x hx)
  have hA0 : Agree F w w' := fun x hx => hA x (.inr hx)
  refine ⟨h.sz, h.df, fun t => (h.tm t).mono ρ.le_refl hA (fun _ hx => .inl hx) (fun _ hx => hx), fun b cells g e1 e2 => ?_, fun b r p e1 e2 => ?_, h.ib, h.ir, h.ibr, fun b g e => Nat.lt_of_lt_of_le (h.lb b g e) hb.size, fun b p e e2 => Nat.lt_of_lt_of_le (h.lr b p e e2) hb.size, fun x hx => Nat.lt_of_lt_of_le (h.fl x hx) hb.size, h.bel.below hb⟩
  · exact (h.bx b cells g e1 e2).mono ρ.le_refl hA (hb.block g (h.lb b g e2)) (fun _ hx => hx) (h.bx b cells g e1 e2).2.1
  · refine (h.rw b r p e1 e2).mono hA0 (fun hl => hb.block _ (h.lr b p e2 hl)) (fun _ hx => hx) (fun e hl => ?_)
    rcases (h.rw b r p e1 e2).2.2 with h3 | ⟨_, h3, _⟩
    · omega
    · exact (h3 e).2

def FS.put (σ : FS) (d : Option Nat) (v : AV) : FS := match d with
  | none => σ
  | some t => { σ with tm := fun u => if u = t then v else σ.tm u }
theorem Sim.put (h : Sim w0 N ρ F σ a w) {d : Option Nat} {v : Value} {av : AV} (hv : Rep ρ w0.V F w v av) (hd : ∀ t, d = some t → t < N) : Sim w0 N ρ F (σ.put d av) (a.put d v) w := by
  cases d with
  | none => exact h
  | some t =>
    have ht := hd t rfl
    refine ⟨by simp [Act.put, h.sz], h.df, fun u => ?_, h.bx, h.rw, h.ib, h.ir, h.ibr, h.lb, h.lr, h.fl, h.bel⟩
    simp only [FS.put, Act.put]
    by_cases hu : u = t
    · subst hu
      simp only [if_true]
      rw [show (a.tmps.setIfInBounds u v).getD u undef = v by simp [Array.getD, h.sz, ht]]
      exact hv
    · rw [if_neg hu, show (a.tmps.setIfInBounds t v).getD u undef = a.tmps.getD u undef by
        simp only [Array.getD_eq_getD_getElem?]; rw [Array.getElem?_setIfInBounds_ne (fun e => hu e.symm)]]
      exact h.tm u
theorem Act.put_defers' (a : Act) (d : Option Nat) (v : Value) : (a.put d v).defers = a.defers := by cases d <;> rfl

/-! ### The environment, made longer -/
def Env.addB (ρ : Env) (b g : Nat) : Env := { ρ with b := fun x => if x = b then some g else ρ.b x }
def Env.addR (ρ : Env) (b : Nat) (p : Pl) : Env := { ρ with r := fun x => if x = b then some p else ρ.r x }
theorem Env.le_addB {ρ : Env} {b g : Nat} (h : ρ.b b = .none) : ρ.le (ρ.addB b g) := ⟨fun x y e => by
  simp only [addB]; split
  · subst_vars; rw [h] at e; cases e
  · exact e, fun _ _ e => e⟩
theorem Env.le_addR {ρ : Env} {b : Nat} {p : Pl} (h : ρ.r b = .none) : ρ.le (ρ.addR b p) := ⟨fun _ _ e => e, fun x y e => by
  simp only [addR]; split
  · subst_vars; rw [h] at e; cases e
  · exact e⟩

def FS.setB (σ : FS) (b : Nat) (c : List AV) : FS := { σ with bx := fun x => if x = b then some c else σ.bx x }
def FS.setR (σ : FS) (b : Nat) (r : Option ARow) : FS := { σ with rw := fun x => if x = b then r else σ.rw x }

/-- A box that is new: block w.heap.size. -/
theorem Sim.newBox (h : Sim w0 N ρ F σ a w) {b : Nat} (hb : ρ.b b = .none) {cs : Array Value} {T : TypeId} {cells : List AV} (hl : cs.size = cells.length) (hr : ∀ (i : Nat) (u : Value) (av : AV), cs[i]? = some u → cells[i]? = some av → Rep ρ w0.V F w u av) :
    Sim w0 N (ρ.addB b w.heap.size) F (σ.setB b cells) a (w.alloc (.cells cs T)) := by
  have hbel : Below w.heap.size w (w.alloc (.cells cs T)) := (Below.refl _ _).alloc (Nat.le_refl _) _
  have h' := h.grow hbel
  have hle := Env.le_addB (g := w.heap.size) hb
  have hA : Agree (fun x => w0.V x ∨ F x) w (w.alloc (.cells cs T)) := fun x hx => hbel.block x (by rcases hx with hx | hx; exact h.bel.size x hx; exact h.fl x hx)
  have refl (S : Nat → Prop) := Agree.refl S (w.alloc (.cells cs T))
  refine ⟨h'.sz, h'.df, fun t => (h'.tm t).mono hle (refl _) (fun _ hx => .inl hx) (fun _ hx => hx), fun x c g e1 e2 => ?_, h'.rw, fun x y g e1 e2 => ?_, h'.ir, fun x y g p e1 e2 hl => ?_, fun x g e => ?_, h'.lr, h'.fl, h'.bel⟩
  · simp only [FS.setB, Env.addB] at e1 e2
    by_cases hx : x = b
    · rw [if_pos hx] at e1 e2
      cases e1; cases e2
      refine ⟨h.bel.fresh (Nat.le_refl _), fun hF => absurd (h.fl _ hF) (Nat.lt_irrefl _), cs, T, heap_alloc_new _ _, hl, fun i u av e1 e2 => (hr i u av e1 e2).mono hle hA (fun _ hx => .inl hx) (fun _ hx => hx)⟩
    · rw [if_neg hx] at e1 e2
      exact (h'.bx x c g e1 e2).mono hle (refl _) rfl (fun _ hx => hx) (h'.bx x c g e1 e2).2.1
  · simp only [Env.addB] at e1 e2
    split at e1 <;> split at e2
    · subst_vars; rfl
    · cases e1; have := h.lb _ _ e2; omega
    · cases e2; have := h.lb _ _ e1; omega
    · exact h.ib _ _ _ e1 e2
  · simp only [Env.addB] at e1
    split at e1
    · cases e1; have := h.lr _ _ e2 hl; omega
    · exact h.ibr _ _ _ _ e1 e2 hl
  · simp only [Env.addB] at e
    split at e
    · cases e; simp
    · exact h'.lb _ _ e

/-- A row that is new, in a block that is new, or nowhere. -/
theorem Sim.newRow (h : Sim w0 N ρ F σ a w) {b : Nat} (hb : ρ.r b = .none) {w' : World} {p : Pl} {r : ARow} (hbel : Below w.heap.size w w') (hp : 0 < p.lim → p.blk < w'.heap.size ∧ w.heap.size ≤ p.blk) (hr : RowOk w0.V F w' p r) :
    Sim w0 N (ρ.addR b p) F (σ.setR b (some r)) a w' := by
  have h' := h.grow hbel
  have hle := Env.le_addR (p := p) hb
  have refl (S : Nat → Prop) := Agree.refl S w'
  refine ⟨h'.sz, h'.df, fun t => (h'.tm t).mono hle (refl _) (fun _ hx => .inl hx) (fun _ hx => hx), fun x c g e1 e2 => ?_, fun x r2 p2 e1 e2 => ?_, h'.ib, fun x y p1 p2 r1 r2 e1 e2 e3 e4 f1 f2 l1 l2 hq => ?_, fun x y g p2 e1 e2 hl => ?_, h'.lb, fun x p2 e hl => ?_, h'.fl, h'.bel⟩
  · exact (h'.bx x c g e1 e2).mono hle (refl _) rfl (fun _ hx => hx) (h'.bx x c g e1 e2).2.1
  · simp only [FS.setR, Env.addR] at e1 e2
    by_cases hx : x = b
    · rw [if_pos hx] at e1 e2
      cases e1; cases e2; exact hr
    · rw [if_neg hx] at e1 e2
      exact h'.rw x r2 p2 e1 e2
  · simp only [FS.setR, Env.addR] at e1 e2 e3 e4
    by_cases hx : x = b <;> by_cases hy : y = b
    · rw [hx, hy]
    · rw [if_pos hx] at e1 e3; rw [if_neg hy] at e2 e4; cases e1
      have := h.lr _ _ e2 l2; have := hp l1; omega
    · rw [if_neg hx] at e1 e3; rw [if_pos hy] at e2 e4; cases e2
      have := h.lr _ _ e1 l1; have := hp l2; omega
    · rw [if_neg hx] at e1 e3; rw [if_neg hy] at e2 e4
      exact h.ir _ _ _ _ _ _ e1 e2 e3 e4 f1 f2 l1 l2 hq
  · simp only [Env.addR] at e2
    split at e2
    · cases e2; have := h.lb _ _ e1; have := hp hl; omega
    · exact h.ibr _ _ _ _ e1 e2 hl
  · simp only [Env.addR] at e
    split at e
    · cases e; exact (hp hl).1
    · exact h'.lr _ _ e hl

/-- A box is written: its block alone has changed. -/
theorem Sim.writeBox (h : Sim w0 N ρ F σ a w) {b g : Nat} {cells cells' : List AV} (hb : σ.bx b = some cells) (hg : ρ.b b = some g) {w' : World} (hos : w'.os = w.os) (htp : w'.tape = w.tape) (hout : w'.output = w.output) (hsz : w'.heap.size = w.heap.size)
    (hne : ∀ x, x ≠ g → w'.heap[x]? = w.heap[x]?) (hr : Agree (fun x => w0.V x ∨ F x) w w' → BoxOk ρ w0.V F w' g cells') : Sim w0 N ρ F (σ.setB b cells') a w' := by
  have hok := h.bx b cells g hb hg
  have hA : Agree (fun x => w0.V x ∨ F x) w w' := fun x hx => hne x (by rintro rfl; rcases hx with hx | hx; exact hok.1 hx; exact hok.2.1 hx)
  have hA0 : Agree F w w' := fun x hx => hA x (.inr hx)
  refine ⟨h.sz, h.df, fun t => (h.tm t).mono ρ.le_refl hA (fun _ hx => .inl hx) (fun _ hx => hx), fun x c g2 e1 e2 => ?_, fun x r p e1 e2 => ?_, h.ib, h.ir, h.ibr, fun x g e => hsz ▸ h.lb x g e, fun x p e hl => hsz ▸ h.lr x p e hl, fun x hx => hsz ▸ h.fl x hx, ?_⟩
  · simp only [FS.setB] at e1
    by_cases hx : x = b
    · rw [if_pos hx] at e1; cases e1
      rw [hx, hg] at e2; cases e2
      exact hr hA
    · rw [if_neg hx] at e1
      refine (h.bx x c g2 e1 e2).mono ρ.le_refl hA (hne _ ?_) (fun _ hx => hx) (h.bx x c g2 e1 e2).2.1
      rintro rfl; exact hx (h.ib _ _ _ e2 hg)
  · refine (h.rw x r p e1 e2).mono hA0 (fun hl => hne _ (h.ibr _ _ _ _ hg e2 hl)) (fun _ hx => hx) (fun e hl => ?_)
    rcases (h.rw x r p e1 e2).2.2 with h3 | ⟨_, h3, _⟩
    · omega
    · exact (h3 e).2
  · exact h.bel.step hos hout (by omega) fun k hk => hne k (by rintro rfl; exact hok.1 hk)

/-- An own row is written: its block alone has changed; it may become another row of the same block. -/
theorem Sim.writeRow (h : Sim w0 N ρ F σ a w) {b : Nat} {p : Pl} {r r' : ARow} (hb : σ.rw b = some r) (hp : ρ.r b = some p) (hfro : r.fro = false) (hfro' : r'.fro = false) (hlim : 0 < p.lim) {w' : World} (hos : w'.os = w.os) (htp : w'.tape = w.tape) (hout : w'.output = w.output) (hsz : w'.heap.size = w.heap.size)
    (hne : ∀ x, x ≠ p.blk → w'.heap[x]? = w.heap[x]?) (hr : Agree F w w' → RowOk w0.V F w' p r') : Sim w0 N ρ F (σ.setR b (some r')) a w' := by
  have hok := h.rw b r p hb hp
  have hown : ¬ w0.V p.blk ∧ ¬ F p.blk := by
    rcases hok.2.2 with h3 | ⟨_, h3, _⟩
    · omega
    · exact h3 hfro
  have hA : Agree (fun x => w0.V x ∨ F x) w w' := fun x hx => hne x (by rintro rfl; rcases hx with hx | hx; exact hown.1 hx; exact hown.2 hx)
  have hA0 : Agree F w w' := fun x hx => hA x (.inr hx)
  refine ⟨h.sz, h.df, fun t => (h.tm t).mono ρ.le_refl hA (fun _ hx => .inl hx) (fun _ hx => hx), fun x c g2 e1 e2 => ?_, fun x r2 p2 e1 e2 => ?_, h.ib, fun x y p1 p2 r1 r2 e1 e2 e3 e4 f1 f2 l1 l2 hq => ?_, h.ibr, fun x g e => hsz ▸ h.lb x g e, fun x p e hl => hsz ▸ h.lr x p e hl, fun x hx => hsz ▸ h.fl x hx, ?_⟩
  · exact (h.bx x c g2 e1 e2).mono ρ.le_refl hA (hne _ (fun e => h.ibr _ _ _ _ e2 hp hlim e.symm)) (fun _ hx => hx) (h.bx x c g2 e1 e2).2.1
  · simp only [FS.setR] at e1
    by_cases hx : x = b
    · rw [if_pos hx] at e1; cases e1
      rw [hx, hp] at e2; cases e2
      exact hr hA0
    · rw [if_neg hx] at e1
      cases hf : r2.fro
      · refine (h.rw x r2 p2 e1 e2).mono hA0 (fun hl => hne _ (fun e => hx (h.ir _ _ _ _ _ _ e2 hp e1 hb hf hfro hl hlim e))) (fun _ hx => hx) (fun e hl => ?_)
        rcases (h.rw x r2 p2 e1 e2).2.2 with h3 | ⟨_, h3, _⟩
        · omega
        · exact (h3 e).2
      · refine (h.rw x r2 p2 e1 e2).mono hA0 (fun hl => ?_) (fun _ hx => hx) (fun e hl => by rw [hf] at e; cases e)
        rcases (h.rw x r2 p2 e1 e2).2.2 with h3 | ⟨h3, _, _⟩
        · omega
        · exact hA0 _ (h3 hf)
  · simp only [FS.setR] at e3 e4
    have t1 : ∃ q, σ.rw x = some q ∧ q.fro = false := by
      by_cases hx : x = b
      · rw [hx]; exact ⟨r, hb, hfro⟩
      · rw [if_neg hx] at e3; exact ⟨r1, e3, f1⟩
    have t2 : ∃ q, σ.rw y = some q ∧ q.fro = false := by
      by_cases hx : y = b
      · rw [hx]; exact ⟨r, hb, hfro⟩
      · rw [if_neg hx] at e4; exact ⟨r2, e4, f2⟩
    obtain ⟨q1, t1, t1'⟩ := t1
    obtain ⟨q2, t2, t2'⟩ := t2
    exact h.ir _ _ _ _ _ _ e1 e2 t1 t2 t1' t2' l1 l2 hq
  · exact h.bel.step hos hout (by omega) fun k hk => hne k (by rintro rfl; exact hown.1 hk)

/-- A row is no more. -/
theorem Sim.dropRow (h : Sim w0 N ρ F σ a w) (b : Nat) : Sim w0 N ρ F (σ.setR b .none) a w := by
  refine ⟨h.sz, h.df, h.tm, h.bx, fun x r p e1 e2 => ?_, h.ib, fun x y p1 p2 r1 r2 e1 e2 e3 e4 => ?_, h.ibr, h.lb, h.lr, h.fl, h.bel⟩
  · simp only [FS.setR] at e1; split at e1
    · cases e1
    · exact h.rw x r p e1 e2
  · simp only [FS.setR] at e3 e4
    split at e3
    · cases e3
    · split at e4
      · cases e4
      · exact h.ir _ _ _ _ _ _ e1 e2 e3 e4

/-- A row that is dropped goes on under another number: the same block, from a place on. -/
theorem Sim.moveRow (h : Sim w0 N ρ F σ a w) {b b' : Nat} (hne : b ≠ b') (hb' : ρ.r b' = .none) {r r' : ARow} {p p' : Pl} (hb : σ.rw b = some r) (hp : ρ.r b = some p) (hf : r.fro = false) (hl : 0 < p'.lim → 0 < p.lim ∧ p'.blk = p.blk) (hr : RowOk w0.V F w p' r') :
    Sim w0 N (ρ.addR b' p') F ((σ.setR b .none).setR b' (some r')) a w := by
  have hle := Env.le_addR (p := p') hb'
  have refl (S : Nat → Prop) := Agree.refl S w
  refine ⟨h.sz, h.df, fun t => (h.tm t).mono hle (refl _) (fun _ hx => .inl hx) (fun _ hx => hx), fun x c g e1 e2 => ?_, fun x r2 p2 e1 e2 => ?_, h.ib, fun x y p1 p2 r1 r2 e1 e2 e3 e4 f1 f2 l1 l2 hq => ?_, fun x y g p2 e1 e2 hlm => ?_, h.lb, fun x p2 e hlm => ?_, h.fl, h.bel⟩
  · exact (h.bx x c g e1 e2).mono hle (refl _) rfl (fun _ hx => hx) (h.bx x c g e1 e2).2.1
  · simp only [FS.setR, Env.addR] at e1 e2
    by_cases hx : x = b'
    · rw [if_pos hx] at e1 e2; cases e1; cases e2; exact hr
    · rw [if_neg hx] at e1 e2
      split at e1
      · cases e1
      · exact h.rw x r2 p2 e1 e2
  · simp only [FS.setR, Env.addR] at e1 e2 e3 e4
    by_cases hx : x = b' <;> by_cases hy : y = b'
    · rw [hx, hy]
    · rw [if_pos hx] at e1 e3; rw [if_neg hy] at e2 e4; cases e1
      split at e4
      · cases e4
      · rename_i hyb
        have := hl l1
        exact absurd (h.ir _ _ _ _ _ _ e2 hp e4 hb f2 hf l2 this.1 (by rw [← hq, this.2])) hyb
    · rw [if_neg hx] at e1 e3; rw [if_pos hy] at e2 e4; cases e2
      split at e3
      · cases e3
      · rename_i hyb
        have := hl l2
        exact absurd (h.ir _ _ _ _ _ _ e1 hp e3 hb f1 hf l1 this.1 (by rw [hq, this.2])) hyb
    · rw [if_neg hx] at e1 e3; rw [if_neg hy] at e2 e4
      split at e3
      · cases e3
      · split at e4
        · cases e4
        · exact h.ir _ _ _ _ _ _ e1 e2 e3 e4 f1 f2 l1 l2 hq
  · simp only [Env.addR] at e2
    split at e2
    · cases e2; have := hl hlm; rw [this.2]; exact h.ibr _ _ _ _ e1 hp this.1
    · exact h.ibr _ _ _ _ e1 e2 hlm
  · simp only [Env.addR] at e
    split at e
    · cases e; have := hl hlm; rw [this.2]; exact h.lr _ _ hp this.1
    · exact h.lr _ _ e hlm

/-- An own row that nobody writes any more. -/
theorem Sim.freeze (h : Sim w0 N ρ F σ a w) {b : Nat} {r : ARow} {p : Pl} (hb : σ.rw b = some r) (hp : ρ.r b = some p) (hf : r.fro = false) :
    ∃ F' : Nat → Prop, (∀ x, F x → F' x) ∧ (∀ x, F' x → F x ∨ ¬ w0.V x) ∧ (0 < p.lim → F' p.blk) ∧ Sim w0 N ρ F' (σ.setR b (some { r with fro := true })) a w := by
  have hok := h.rw b r p hb hp
  refine ⟨fun x => F x ∨ (0 < p.lim ∧ x = p.blk), fun x hx => .inl hx, fun x hx => ?_, fun hl => .inr ⟨hl, rfl⟩, ?_⟩
  · rcases hx with hx | ⟨h1, rfl⟩
    · exact .inl hx
    · rcases hok.2.2 with h3 | ⟨_, h3, _⟩
      · omega
      · exact .inr (h3 hf).1
  have refl (S : Nat → Prop) := Agree.refl S w
  refine ⟨h.sz, h.df, fun t => (h.tm t).mono ρ.le_refl (refl _) (fun _ hx => .inl hx) (fun _ hx => .inl hx), fun x c g e1 e2 => ?_, fun x r2 p2 e1 e2 => ?_, h.ib, fun x y p1 p2 r1 r2 e1 e2 e3 e4 f1 f2 l1 l2 hq => ?_, h.ibr, h.lb, h.lr, fun x hx => ?_, h.bel⟩
  · refine (h.bx x c g e1 e2).mono ρ.le_refl (refl _) rfl (fun _ hx => .inl hx) ?_
    rintro (hx | ⟨h1, h2⟩)
    · exact (h.bx x c g e1 e2).2.1 hx
    · exact h.ibr _ _ _ _ e2 hp h1 h2.symm
  · simp only [FS.setR] at e1
    by_cases hx : x = b
    · rw [if_pos hx] at e1; cases e1
      rw [hx, hp] at e2; cases e2
      obtain ⟨h1, h2, h3⟩ := hok
      refine ⟨h1, h2, ?_⟩
      rcases h3 with h3 | ⟨h3, h4, cs, T, fr, h5, h6, h7, h8⟩
      · exact .inl h3
      · by_cases hz : p.lim = 0
        · exact .inl hz
        · exact .inr ⟨fun _ => .inr ⟨by omega, rfl⟩, (fun e => absurd e (by simp)), cs, T, fr, h5, h6, (fun e => absurd e (by simp)), fun i av e => let ⟨u, e1, e2⟩ := h8 i av e; ⟨u, e1, e2.mono (refl _) fun _ hx => .inl hx⟩⟩
    · rw [if_neg hx] at e1
      refine (h.rw x r2 p2 e1 e2).mono (refl _) (fun _ => rfl) (fun _ hx => .inl hx) (fun e hl => ?_)
      rintro (hF | ⟨h1, h2⟩)
      · rcases (h.rw x r2 p2 e1 e2).2.2 with h3 | ⟨_, h3, _⟩
        · omega
        · exact (h3 e).2 hF
      · exact hx (h.ir _ _ _ _ _ _ e2 hp e1 hb e hf hl h1 h2)
  · simp only [FS.setR] at e3 e4
    split at e3
    · cases e3; cases f1
    · split at e4
      · cases e4; cases f2
      · exact h.ir _ _ _ _ _ _ e1 e2 e3 e4 f1 f2 l1 l2 hq
  · rcases hx with hx | ⟨h1, rfl⟩
    · exact h.fl x hx
    · exact h.lr _ _ hp h1
end
end Go.Proofs.Ytiejnmbpejfpgaa
