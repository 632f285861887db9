/- Ranges over a function: the rounds are walked as code in a round, the function by a contract. -/
import Derived.Test.YtiejnmbpejfpgaaAxJ
import Derived.RangeFuncRecord
import Derived.RangeFuncSeq
namespace Go.Proofs.Ytiejnmbpejfpgaa
open Go.RowKit
set_option linter.unusedVariables false

/-! ### Values, where no cell is another one -/
theorem RowAt.cells {w w' : World} {L : Nat → Prop} {a : Option Addr} {n c m : Nat} {f : Nat → Value} (h : RowAt w L a n c m f) (hc : ∀ ad, w'.cell? ad = w.cell? ad) : RowAt w' L a n c m f :=
  ⟨h.cap, h.max, h.nil, h.loc, fun ad e i hi => (hc _).trans (h.cell ad e i hi)⟩
theorem Rep0.cells {F : Nat → Prop} {w w' : World} {v : Value} {av : AV} (h : Rep0 F w v av) (hc : ∀ ad, w'.cell? ad = w.cell? ad) : Rep0 F w' v av := by
  induction h with
  | int k n => exact .int k n
  | bool b => exact .bool b
  | str s l h => exact .str s l h
  | raw v => exact .raw v
  | nil => exact .nil
  | agg cs l hl h ih => exact .agg cs l hl ih
  | sl a n c k es f hn hw hr h ih => exact .sl a n c k es f hn hw (hr.cells hc) ih
  | csl a n k es f hn hw hr h ih => exact .csl a n k es f hn hw (hr.cells hc) ih
theorem Rep.cells {ρ : Env} {B F : Nat → Prop} {w w' : World} {v : Value} {av : AV} (h : Rep ρ B F w v av) (hc : ∀ ad, w'.cell? ad = w.cell? ad) : Rep ρ B F w' v av := by
  induction h with
  | pure v av h => exact .pure v av (h.cells hc)
  | any v => exact .any v
  | vsl a n c k es f hn hw hr h => exact .vsl a n c k es f hn hw (hr.cells hc) fun i av e => (h i av e).cells hc
  | vcsl a n k es f hn hw hr h => exact .vcsl a n k es f hn hw (hr.cells hc) fun i av e => (h i av e).cells hc
  | ref a c b k lo n p hp hc hm hl hn ha => exact .ref a c b k lo n p hp hc hm hl hn ha
  | refc a b k lo n c p hp hc hm hl hn ha => exact .refc a b k lo n c p hp hc hm hl hn ha
  | bptr b off g hg => exact .bptr b off g hg
  | rptr b k i off p hp => exact .rptr b k i off p hp
  | aptr b n p hp hl => exact .aptr b n p hp hl
  | cptr vol ad cs f hsp hloc hcell h ih => exact .cptr vol ad cs f hsp hloc (fun i hi => (hc _).trans (hcell i hi)) ih
  | agg cs l hl h ih => exact .agg cs l hl ih
  | tup cs l hl h ih => exact .tup cs l hl ih
  | fn f cs l hl h ih => exact .fn f cs l hl ih
  | batt v b g hg => exact .batt v b g hg
  | ratt v b p hp => exact .ratt v b p hp
  | cnd g v av h h0 ih => exact .cnd g v av ih h0
def isCells : Obj → Bool
  | .cells .. => true
  | _ => false
/-- A block that holds no cells holds something else that is no cells. -/
theorem putObj_cell {w : World} {l : Nat} {o o' : Obj} (h : w.heap[l]? = some o) (ho : isCells o = false) (ho' : isCells o' = false) (ad : Addr) : (w.putObj l o').cell? ad = w.cell? ad := by
  by_cases e : ad.block = l
  · have hl := (Array.getElem?_eq_some_iff.1 h).1
    have h2 := World.putObj_heap_same (w := w) (o := o') hl
    unfold World.cell?
    rw [e, h2, h]
    cases o <;> cases o' <;> first | rfl | (cases ho; done) | (cases ho'; done)
  · exact World.cell?_of_block (World.putObj_heap_other e)

section
variable {P : Program} {w0 w1 : Base} {N : Nat} {ρ : Env} {F : Nat → Prop} {σ : FS} {a a' : Act} {w w' : World}
/-- The same state, seen from another base; blocks that hold no cells may have turned. -/
theorem Sim.chg (h : Sim w0 N ρ F σ a w) (ht : a'.tmps = a.tmps) (hd : a'.defers = w1.ds) (hcell : ∀ ad, w'.cell? ad = w.cell? ad) (hsz : w.heap.size ≤ w'.heap.size) (hblk : ∀ (x : Nat) c T fr, w.heap[x]? = some (Obj.cells c T fr) → w'.heap[x]? = some (Obj.cells c T fr))
    (hV : ∀ x, w0.V x → w1.V x ∨ F x) (hn : ∀ x, w1.V x → w0.V x ∨ F x ∨ ∀ c T fr, w.heap[x]? ≠ some (Obj.cells c T fr)) (hb : w1.Bel w') : Sim w1 N ρ F σ a' w' := by
  have mono : ∀ {v : Value} {av : AV}, Rep ρ w0.V F w v av → Rep ρ w1.V F w' v av := fun hr => (hr.cells hcell).mono ρ.le_refl (Agree.refl _ _) hV fun _ hx => hx
  refine ⟨by rw [ht]; exact h.sz, hd, fun t => by rw [ht]; exact mono (h.tm t), fun b c g e1 e2 => ?_, fun b r p e1 e2 => ?_, h.ib, h.ir, h.ibr, fun b g e => Nat.lt_of_lt_of_le (h.lb b g e) hsz, fun b p e hl => Nat.lt_of_lt_of_le (h.lr b p e hl) hsz, fun x hx => Nat.lt_of_lt_of_le (h.fl x hx) hsz, hb⟩
  · obtain ⟨k1, k2, cs, T, k3, k4, k5⟩ := h.bx b c g e1 e2
    refine ⟨fun hv => ?_, k2, cs, T, hblk _ _ _ _ k3, k4, fun i u av g1 g2 => mono (k5 i u av g1 g2)⟩
    rcases hn g hv with q | q | q
    · exact k1 q
    · exact k2 q
    · exact q _ _ _ k3
  · obtain ⟨k1, k2, k3⟩ := h.rw b r p e1 e2
    refine ⟨k1, k2, ?_⟩
    rcases k3 with k3 | ⟨k3, k4, cs, T, fr, k5, k6, k7, k8⟩
    · exact .inl k3
    · refine .inr ⟨k3, fun e => ⟨fun hv => ?_, (k4 e).2⟩, cs, T, fr, hblk _ _ _ _ k5, k6, k7, fun i av g => ?_⟩
      · rcases hn _ hv with q | q | q
        · exact (k4 e).1 q
        · exact (k4 e).2 q
        · exact q _ _ _ k5
      · obtain ⟨u, u1, u2⟩ := k8 i av g
        exact ⟨u, u1, u2.cells hcell⟩
end
theorem LSim.chg {w0 w1 : Base} {N : Nat} {ρ : Env} {F : Nat → Prop} {σ : AS} {a a' : Act} {w w' : World} (h : LSim w0 N ρ F σ a w) (ht : a'.tmps = a.tmps) (hd : a'.defers = w1.ds) (hcell : ∀ ad, w'.cell? ad = w.cell? ad) (hsz : w.heap.size ≤ w'.heap.size) (hblk : ∀ (x : Nat) c T fr, w.heap[x]? = some (Obj.cells c T fr) → w'.heap[x]? = some (Obj.cells c T fr))
    (hV : ∀ x, w0.V x → w1.V x ∨ F x) (hn : ∀ x, w1.V x → w0.V x ∨ F x ∨ ∀ c T fr, w.heap[x]? ≠ some (Obj.cells c T fr)) (hb : w1.Bel w') : LSim w1 N ρ F σ a' w' :=
  ⟨h.s.chg ht hd hcell hsz hblk hV hn hb, h.b, h.r, h.wf⟩

/-! ### An activation that bears marks -/
def mk (D : Nat) : Deferred := { target := .collected D, args := #[] }
structure Ext (w0 w1 : Base) (F' : Nat → Prop) : Prop where
  V : ∀ x, w0.V x → w1.V x
  os : w1.w.os = w0.w.os
  output : w1.w.output = w0.w.output
  size : w0.w.heap.size ≤ w1.w.heap.size
  block : ∀ k, w0.V k → w1.w.heap[k]? = w0.w.heap[k]?
  ds : ∃ l : List Nat, l.length ≤ 1 ∧ w1.ds = l.map mk ++ w0.ds ∧ ∀ D ∈ l, w1.V D ∧ ¬ w0.V D ∧ w0.w.heap.size ≤ D ∧ w1.w.heap[D]? = some (.deferred (some [])) ∧ ¬ F' D
theorem Ext.refl (w0 : Base) (F' : Nat → Prop) : Ext w0 w0 F' := ⟨fun _ h => h, rfl, rfl, Nat.le_refl _, fun _ _ => rfl, [], Nat.zero_le _, rfl, fun _ h => by cases h⟩
theorem Ext.mono {w0 w1 : Base} {F' F2 : Nat → Prop} (h : Ext w0 w1 F') (h2 : ∀ x, F2 x → F' x ∨ ¬ w1.V x) : Ext w0 w1 F2 := by
  obtain ⟨l, l0, l1, l2⟩ := h.ds
  exact ⟨h.V, h.os, h.output, h.size, h.block, l, l0, l1, fun D hD => by
    obtain ⟨d1, d2, d3, d4, d5⟩ := l2 D hD
    exact ⟨d1, d2, d3, d4, fun hf => (h2 D hf).elim d5 fun q => q d1⟩⟩
def XPost (w0 : Base) (N : Nat) (F : Nat → Prop) (Q : AX → AS → Prop) : Exit → Act → World → Prop := fun e a' w' =>
  ∃ x σ' ρ' F' w1, Ext w0 w1 F' ∧ AX.exit x = e ∧ Q x σ' ∧ LSim w1 N ρ' F' σ' a' w' ∧ (∀ x, F x → F' x) ∧ (∀ x, F' x → F x ∨ ¬ w0.V x)
/-- As AWP, for code of a function's own activation that may range over functions. -/
def AWX (P : Program) (N : Nat) (ac : ACode) (σ : AS) (Q : AX → AS → Prop) : Prop :=
  ∀ c, CompC P N c ac → ∀ w0 ρ F a w, w0.ds = [] → LSim w0 N ρ F σ a w → c.wpIn (Fe none) 0 P (XPost w0 N F Q) a w
theorem xpost_of {w0 : Base} {N : Nat} {F F' : Nat → Prop} {Q : AX → AS → Prop} (h1 : ∀ x, F x → F' x) (h2 : ∀ x, F' x → F x ∨ ¬ w0.V x) {e : Exit} {a : Act} {w : World} (h : XPost w0 N F' Q e a w) : XPost w0 N F Q e a w := by
  obtain ⟨x, σ', ρ', F2, w1, g0, g1, g2, g3, g4, g5⟩ := h
  exact ⟨x, σ', ρ', F2, w1, g0, g1, g2, g3, fun x hx => g4 x (h1 x hx), fun x hx => (g5 x hx).elim (h2 x) .inr⟩
section
variable {P : Program} {N : Nat} {σ : AS} {Q : AX → AS → Prop}
theorem AWX.wk {ac : ACode} {τ : AS} (hw : Wk σ τ) (h : AWX P N ac τ Q) : AWX P N ac σ Q := fun c hc w0 ρ F a w hds hs => by
  obtain ⟨ρ', F', h1, h2, h3⟩ := hw w0 N ρ F a w hs
  exact wpIn_mono (h c hc w0 ρ' F' a w hds h1) fun e a' w' hq => xpost_of h2 h3 hq
theorem AWX.seqL {x y : ACode} (h : AWP P N x σ (fun e τ => match e with | .n => AWX P N y τ Q | e => Q e τ)) : AWX P N (.seq x y) σ Q := fun c hc w0 ρ F a w hds hs => by
  cases hc with
  | seq c1 c2 _ _ h1 h2 =>
    refine wpIn_seq (wpIn_mono (h c1 h1 none w0 ρ F a w hs) fun e a' w' hq => ?_)
    obtain ⟨e', τ, ρ', F', rfl, g2, g3, g4, g5⟩ := hq
    cases e' with
    | n => exact wpIn_mono (g2 c2 h2 w0 ρ' F' a' w' hds g3) fun e a' w' hq => xpost_of g4 g5 hq
    | x id => exact ⟨.x id, τ, ρ', F', w0, .refl _ _, rfl, g2, g3, g4, g5⟩
    | r => exact ⟨.r, τ, ρ', F', w0, .refl _ _, rfl, g2, g3, g4, g5⟩
theorem AWX.seqR {x y : ACode} (h : AWX P N x σ (fun e τ => match e with | .n => AWP P N y τ Q | e => Q e τ)) : AWX P N (.seq x y) σ Q := fun c hc w0 ρ F a w hds hs => by
  cases hc with
  | seq c1 c2 _ _ h1 h2 =>
    refine wpIn_seq (wpIn_mono (h c1 h1 w0 ρ F a w hds hs) fun e a' w' hq => ?_)
    obtain ⟨e', τ, ρ', F', w1, g0, rfl, g2, g3, g4, g5⟩ := hq
    cases e' with
    | n =>
      refine wpIn_mono (g2 c2 h2 none w1 ρ' F' a' w' g3) fun e a2 w2 hq => ?_
      obtain ⟨e', τ2, ρ2, F2, rfl, k2, k3, k4, k5⟩ := hq
      exact ⟨e', τ2, ρ2, F2, w1, g0.mono k5, rfl, k2, k3, fun x hx => k4 x (g4 x hx), fun x hx => (k5 x hx).elim (g5 x) fun q => .inr fun hv => q (g0.V x hv)⟩
    | x id => exact ⟨.x id, τ, ρ', F', w1, g0, rfl, g2, g3, g4, g5⟩
    | r => exact ⟨.r, τ, ρ', F', w1, g0, rfl, g2, g3, g4, g5⟩
theorem AWX.block {id : Nat} {x : ACode} (h : AWX P N x σ (fun e τ => match e with | .x j => if j = id then Q .n τ else Q (.x j) τ | e => Q e τ)) : AWX P N (.block id x) σ Q := fun c hc w0 ρ F a w hds hs => by
  cases hc with
  | block _ c1 _ h1 =>
    refine wpIn_block (wpIn_mono (h c1 h1 w0 ρ F a w hds hs) fun e a' w' hq => ?_)
    obtain ⟨e', τ, ρ', F', w1, g0, rfl, g2, g3, g4, g5⟩ := hq
    cases e' with
    | n => exact ⟨.n, τ, ρ', F', w1, g0, rfl, g2, g3, g4, g5⟩
    | r => exact ⟨.r, τ, ρ', F', w1, g0, rfl, g2, g3, g4, g5⟩
    | x j =>
      show (if j = id then _ else _)
      dsimp only at g2
      split at g2
      · rename_i hj; rw [if_pos hj]; exact ⟨.n, τ, ρ', F', w1, g0, rfl, g2, g3, g4, g5⟩
      · rename_i hj; rw [if_neg hj]; exact ⟨.x j, τ, ρ', F', w1, g0, rfl, g2, g3, g4, g5⟩
end

/-! ### The statement itself -/
/-- A value that stands for an iterator: handed a yield, it calls it with what el tells, cnt times, if each round keeps what it looks at. -/
def IterA (P : Program) (it : AV) (cnt : Nat) (el : Nat → AV) : Prop :=
  ∀ (V F : Nat → Prop) (w : World) (v : Value), Rep Env.none V F w v it → ∃ (fc : Nat) (caps : Array Value) (vals : Nat → Value), v = .func (.func fc) #[] caps ∧ plainFn P fc = true ∧ (∀ j, j < cnt → Rep Env.none V F w (vals j) (el j)) ∧
    ∀ (l : Nat) (J : Nat → World → Prop), (∀ j W, J j W → Agree (fun x => V x ∨ F x) w W) → (∀ j W, J j W → J j W.drew) → (∀ j W, j < cnt → J j W → YieldAt (Fe none) 0 P l #[vals j] W fun e W' => e = .returned (.bool true) ∧ J (j + 1) W') →
      ∀ W, J 0 W → CallsIn (Fe none) 0 P fc (#[.func (.yield l) #[] #[]] ++ caps) W fun e W' => (∃ u, e = .returned u) ∧ J cnt W'
/-- Without own memory, or the address of an own box. -/
def stab (nB : Nat) : AV → Bool
  | .bptr b _ => decide (b < nB)
  | .any => true
  | v => plainR v
structure QR (gb : Nat → Nat) (nB : Nat) (τ0 : AS) (x : AX) (τ : AS) : Prop where
  n : x = .n
  h : ∃ tm', Wk τ ⟨tm', τ0.bx, τ0.rw, τ0.nb, τ0.nr⟩ ∧ ∀ b, b < nB → gT tm' (1000000 + b) = .batt b (gb b)
theorem LSim.tm' {w0 : Base} {N : Nat} {ρ : Env} {F : Nat → Prop} {tm tm2 : List (Nat × AV)} {bx : List (Option (List AV))} {rw : List (Option ARow)} {nb nr : Nat} {a a2 : Act} {w : World} (h : LSim w0 N ρ F ⟨tm, bx, rw, nb, nr⟩ a w) (hsz : a2.tmps.size = N) (hd : a2.defers = w0.ds)
    (ht : ∀ t, Rep ρ w0.V F w (a2.tmps.getD t undef) (gT tm2 t)) : LSim w0 N ρ F ⟨tm2, bx, rw, nb, nr⟩ a2 w :=
  ⟨⟨hsz, hd, fun t => by have := ht t; rw [gT_eq] at this; exact this, h.s.bx, h.s.rw, h.s.ib, h.s.ir, h.s.ibr, h.s.lb, h.s.lr, h.s.fl, h.s.bel⟩, h.b, h.r, h.wf⟩
theorem gT_ghB (gb : Nat → Nat) (tmK : List (Nat × AV)) : ∀ (m i t : Nat), gT (ghB gb i m ++ tmK) t = if 1000000 + i ≤ t ∧ t < 1000000 + i + m then .batt (t - 1000000) (gb (t - 1000000)) else gT tmK t
  | 0, i, t => by rw [if_neg (by omega)]; rfl
  | m + 1, i, t => by
    have ih := gT_ghB gb tmK m (i + 1) t
    simp only [ghB, List.cons_append, gT]
    by_cases e : 1000000 + i = t
    · subst e
      rw [show (1000000 + i == 1000000 + i) = true by simp, cond_true, if_pos (by omega)]
      rw [show 1000000 + i - 1000000 = i by omega]
    · rw [show (1000000 + i == t) = false by simpa using e, cond_false, ih]
      by_cases q : 1000000 + (i + 1) ≤ t ∧ t < 1000000 + (i + 1) + m
      · rw [if_pos q, if_pos (by omega)]
      · rw [if_neg q, if_neg (by omega)]
theorem AWX.rf {P : Program} {N p cnt nB nb nr nb0 nr0 : Nat} {aA aB : ACode} {g : Opd} {it : AV} {el : Nat → AV} {tm : List (Nat × AV)} {bx : List (Option (List AV))} {rw : List (Option ARow)} {tmK : List (Nat × AV)} {bxs : Nat → List (Option (List AV))} {rws : Nat → List (Option ARow)} {Q : AX → AS → Prop}
    (hg : lookT (gT tm) g = it) (hfree : ∀ (ρ : Env) (V F : Nat → Prop) (w : World) (v : Value), Rep ρ V F w v it → Rep Env.none V F w v it) (hit : IterA P it cnt el) (hp : p < N) (hN : N ≤ 1000000)
    (h0 : Wk ⟨tm, bx, rw, nb0, nr0⟩ ⟨tmK, bxs 0, rws 0, nb, nr⟩) (hst : ∀ t, stab nB (gT tmK t) = true) (hbp : ∀ b, b < nB → ∃ t off, gT tmK t = .bptr b off)
    (hbody : ∀ gb j, j < cnt → WL P N [aA, aB] (QR gb nB ⟨[], bxs (j + 1), rws (j + 1), nb, nr⟩) ⟨(p, el j) :: (ghB gb 0 nB ++ tmK), bxs j, rws j, nb, nr⟩)
    (hK : Q .n ⟨tmK, bxs cnt, rws cnt, nb, nr⟩) : AWX P N (.rf g [p] aA aB) ⟨tm, bx, rw, nb0, nr0⟩ Q := fun c hc w0 ρ F a w hds hs => by
  cases hc with
  | rf g' _ ps _ ca cb _ _ hg' hl hA hB =>
  subst hl
  have rv := cO_rep hs.s hg'
  rw [show lookT (AS.fs ⟨tm, bx, rw, nb0, nr0⟩).tm g = it by rw [← hg, gT_eq]; rfl] at rv
  obtain ⟨ρ1, F1, hs1, f1, f2⟩ := h0 w0 N ρ F a w hs
  have hsz0 := hs1.s.bel.size
  have hfl := hs1.s.fl
  refine wpIn_rangeFunc fun fn _ => ?_
  obtain ⟨rec, hrec⟩ : ∃ rec : LoopState → Loop, rec = fun st => { state := st, pending := none, fn, tmps := a.tmps, params := [p].toArray, assign := ca, body := cb, defers := w.heap.size } := ⟨_, rfl⟩
  obtain ⟨W1, hW1⟩ : ∃ W1, (w.alloc (.deferred (some []))).alloc (.loop (rec .ready)) = W1 := ⟨_, rfl⟩
  have hL1 : W1.heap[w.heap.size + 1]? = some (.loop (rec .ready)) := by
    rw [← hW1]; have := World.alloc_heap_new (w.alloc (.deferred (some []))) (.loop (rec .ready)); rwa [World.size_alloc] at this
  have hD1 : W1.heap[w.heap.size]? = some (.deferred (some [])) := by
    rw [← hW1]; exact (Go.RowKit.Below.heap_alloc _ _ _ (by simp)).trans (World.alloc_heap_new w _)
  have hsz1 : W1.heap.size = w.heap.size + 2 := by rw [← hW1]; simp
  have hbel : Below w.heap.size w W1 := by
    rw [← hW1]; exact ((Below.refl _ w).alloc (Nat.le_refl _) _).alloc (by simp) _
  have hlt1 : ∀ x, w0.V x ∨ F1 x → x < w.heap.size := fun x hx => hx.elim (hsz0 x) (hfl x)
  have hag : Agree (fun x => w0.V x ∨ F1 x) w W1 := fun x hx => hbel.block x (hlt1 x hx)
  have rv1 : Rep Env.none (fun x => w0.V x ∨ F1 x) F1 W1 (a.eval g') it :=
    (hfree _ _ _ _ _ rv).mono (Env.le_refl _) (fun x hx => hag x (hx.imp id (f1 x))) (fun x hx => .inl (.inl hx)) f1
  obtain ⟨fc, caps, vals, hv, hpl, hvals, hcall⟩ := hit (fun x => w0.V x ∨ F1 x) F1 W1 _ rv1
  obtain ⟨gb, hgb⟩ : ∃ gb : Nat → Nat, ∀ b, b < nB → ρ1.b b = some (gb b) := ⟨fun b => (ρ1.b b).getD 0, fun b hb => by
    obtain ⟨t, off, ht⟩ := hbp b hb
    have := hs1.s.tm t
    rw [show (AS.fs ⟨tmK, bxs 0, rws 0, nb, nr⟩).tm t = .bptr b off by rw [← ht, gT_eq]; rfl] at this
    obtain ⟨g, hg, _⟩ := this.bptr_inv
    simp only [hg, Option.getD_some]⟩
  obtain ⟨VB, hVB⟩ : ∃ VB : Nat → Prop, VB = fun x => (w0.V x ∨ F1 x) ∨ x = w.heap.size ∨ x = w.heap.size + 1 := ⟨_, rfl⟩
  have hdf : a.defers = [] := hs1.s.df.trans hds
  have hVBn : ∀ x, VB x → w0.V x ∨ F1 x ∨ w.heap.size ≤ x := fun x hx => by
    rw [hVB] at hx
    rcases hx with (q | q) | q | q
    · exact .inl q
    · exact .inr (.inl q)
    · exact .inr (.inr (by omega))
    · exact .inr (.inr (by omega))
  have hVB0 : ∀ x, w0.V x ∨ F1 x → VB x := fun x hx => by rw [hVB]; exact .inl hx
  have hVBl : VB (w.heap.size + 1) := by rw [hVB]; exact .inr (.inr rfl)
  have hVBd : VB w.heap.size := by rw [hVB]; exact .inr (.inl rfl)
  have hVBs : ∀ x, VB x → x < W1.heap.size := fun x hx => by
    rw [hVB] at hx
    rcases hx with q | q | q
    · have := hlt1 x q; omega
    · omega
    · omega
  clear hVB
  have hbl0 := hs1.s.bel
  -- the bases
  have bel1 : ∀ ds, Base.Bel ⟨VB, W1, ds⟩ W1 := fun ds => ⟨rfl, rfl, Nat.le_refl _, hVBs, fun _ _ => rfl⟩
  have hsB : LSim ⟨VB, W1, [mk w.heap.size]⟩ N ρ1 F1 ⟨tmK, bxs 0, rws 0, nb, nr⟩ { a with defers := [mk w.heap.size] ++ a.defers } W1 :=
    LSim.chg (w0 := w0) (a := a) (w := W1) ⟨hs1.s.grow hbel, hs1.b, hs1.r, hs1.wf⟩ rfl (by rw [hdf]; rfl) (fun _ => rfl) (Nat.le_refl _) (fun _ _ _ _ h => h) (fun x hx => .inl (hVB0 x (.inl hx)))
      (fun x hx => by
        rcases hVBn x hx with q | q | q
        · exact .inl q
        · exact .inr (.inl q)
        · refine .inr (.inr fun c T fr e => ?_)
          have hx1 := hVBs x hx
          rcases (show x = w.heap.size ∨ x = w.heap.size + 1 by omega) with rfl | rfl
          · rw [hD1] at e; cases e
          · rw [hL1] at e; cases e) (bel1 _)
  have bel2 : ∀ {ds : List Deferred} {o : Obj} {W : World}, Base.Bel ⟨VB, W1, ds⟩ W → Base.Bel ⟨VB, W1.putObj (w.heap.size + 1) o, ds⟩ (W.putObj (w.heap.size + 1) o) := fun {ds o W} hb => by
    refine ⟨hb.os, hb.output, by simp only [World.putObj_size]; exact hb.grow, fun x hx => by simp only [World.putObj_size]; exact hb.size x hx, fun x hx => ?_⟩
    by_cases e : x = w.heap.size + 1
    · subst e
      rw [World.putObj_heap_same (hb.size _ hx), World.putObj_heap_same (hVBs _ hx)]
    · rw [World.putObj_heap_other e, World.putObj_heap_other e]; exact hb.block x hx
  have bel3 : ∀ {ds : List Deferred} {o o' : Obj} {W : World}, Base.Bel ⟨VB, W1.putObj (w.heap.size + 1) o, ds⟩ W → W1.heap[w.heap.size + 1]? = some o' → Base.Bel ⟨VB, W1, ds⟩ (W.putObj (w.heap.size + 1) o') := fun {ds o o' W} hb ho => by
    refine ⟨hb.os, hb.output, by have := hb.grow; simp only [World.putObj_size] at this ⊢; exact this, fun x hx => by simp only [World.putObj_size]; exact hb.size x hx, fun x hx => ?_⟩
    by_cases e : x = w.heap.size + 1
    · subst e
      rw [World.putObj_heap_same (hb.size _ hx)]; exact ho.symm
    · have := hb.block x hx
      rw [World.putObj_heap_other e, this]
      exact World.putObj_heap_other e
  refine ⟨w.heap.size + 1, [mk w.heap.size], W1, { target := .fn (.func fc) caps, args := #[.func (.yield (w.heap.size + 1)) #[] #[]] }, W1, fc, #[.func (.yield (w.heap.size + 1)) #[] #[]] ++ caps, W1, ?_, ?_, fun _ _ => trivial, ?_, fun e => (by cases e), ?_⟩
  · rw [← hW1, hrec]; exact run_enterLoop_outer _ _ _ _ _
  · simp only [resolve, hv]
    simp [go_sem]
  · simpa [invoke] using callFunc_run hpl (#[.func (.yield (w.heap.size + 1)) #[] #[]] ++ caps) W1
  refine (hcall (w.heap.size + 1) (fun j W => ∃ ρ' F', LSim ⟨VB, W1, [mk w.heap.size]⟩ N ρ' F' ⟨tmK, bxs j, rws j, nb, nr⟩ { a with defers := [mk w.heap.size] ++ a.defers } W ∧ (∀ x, F1 x → F' x) ∧ (∀ x, F' x → F1 x ∨ ¬ VB x) ∧ ∀ b, b < nB → ρ'.b b = some (gb b)) ?_ ?_ ?_ W1 ⟨ρ1, F1, hsB, fun _ h => h, fun _ h => .inl h, hgb⟩).mono ?_
  · rintro j W ⟨ρ', F', hs', _⟩ x hx
    exact hs'.s.bel.block x (hVB0 x (hx.elim id .inr))
  · rintro j W ⟨ρ', F', hs', k1, k2, k3⟩
    exact ⟨ρ', F', ⟨hs'.s.grow ((Below.refl _ _).drew), hs'.b, hs'.r, hs'.wf⟩, k1, k2, k3⟩
  · rintro j W hj ⟨ρ', F', hs', k1, k2, k3⟩
    have hl : W.heap[w.heap.size + 1]? = some (.loop (rec .ready)) := (hs'.s.bel.block _ hVBl).trans hL1
    have hy := run_yield (P := P) (args := #[vals j]) hl (by rw [hrec]; rfl)
    rw [hrec] at hy
    refine ⟨fn, _, ca, cb, hy, roundIn_of_wpIn trivial ?_⟩
    clear hy
    obtain ⟨tp, htp⟩ : ∃ tp, ([p].toArray.zip #[vals j]).foldl (fun tmps (x : Tmp × Value) => tmps.setIfInBounds x.1 x.2) a.tmps = tp := ⟨_, rfl⟩
    have htp2 : tp = a.tmps.setIfInBounds p (vals j) := by rw [← htp]; simp
    have haz : a.tmps.size = N := hs.s.sz
    have agW : Agree (fun x => w0.V x ∨ F1 x) w W := fun x hx => (hs'.s.bel.block x (hVB0 x hx)).trans (hag x hx)
    -- what is kept for the round, and behind it
    have keep : ∀ {ρ2 : Env} {F2 : Nat → Prop} {W2 : World} {ds : List Deferred}, Base.Bel ⟨VB, W1, ds⟩ W2 → (∀ x, F1 x → F2 x) → (∀ b, b < nB → ρ2.b b = some (gb b)) → ∀ t, Rep ρ2 VB F2 W2 (a.tmps.getD t undef) (gT tmK t) := fun {ρ2 F2 W2 ds} hb hF hg t => by
      have h1 := hs1.s.tm t
      rw [show (AS.fs ⟨tmK, bxs 0, rws 0, nb, nr⟩).tm t = gT tmK t by rw [gT_eq]; rfl] at h1
      have h2 := hst t
      have pl : plainR (gT tmK t) = true → Rep ρ2 VB F2 W2 (a.tmps.getD t undef) (gT tmK t) := fun hpl =>
        (plainR_rep hpl h1).mono (Env.none_le _) (fun x hx => (hb.block x (hVB0 x hx)).trans (hag x hx)) (fun x hx => .inl (hVB0 x (.inl hx))) hF
      generalize gT tmK t = av at *
      cases av with
      | bptr b off =>
        obtain ⟨g, e1, e2⟩ := h1.bptr_inv
        have hb : b < nB := by simpa [stab] using h2
        rw [hgb b hb] at e1
        cases e1
        rw [e2]
        exact .bptr b off _ (hg b hb)
      | any => exact .any _
      | _ => exact pl h2
    have hround : LSim ⟨VB, W1, []⟩ N ρ' F' ⟨(p, el j) :: (ghB gb 0 nB ++ tmK), bxs j, rws j, nb, nr⟩ { tmps := tp, defers := [] } W := by
      have h1 : LSim ⟨VB, W1, []⟩ N ρ' F' ⟨tmK, bxs j, rws j, nb, nr⟩ { a with defers := [] } W :=
        hs'.chg rfl rfl (fun _ => rfl) (Nat.le_refl _) (fun _ _ _ _ h => h) (fun x hx => .inl hx) (fun x hx => .inl hx) ⟨hs'.s.bel.os, hs'.s.bel.output, hs'.s.bel.grow, hs'.s.bel.size, hs'.s.bel.block⟩
      refine h1.tm' (by rw [htp2]; simpa using haz) rfl fun t => ?_
      simp only [gT]
      by_cases e : p = t
      · subst e
        rw [show (p == p) = true by simp, cond_true, htp2]
        have hget : (a.tmps.setIfInBounds p (vals j)).getD p undef = vals j := by simp [Array.getD, haz, hp]
        rw [hget]
        exact (hvals j hj).mono (Env.none_le _) (fun x hx => hs'.s.bel.block x (hVB0 x (hx.elim id .inr))) (fun x hx => .inl (hVB0 x hx)) k1
      · rw [show (p == t) = false by simpa using e, cond_false, gT_ghB]
        have hget : tp.getD t undef = a.tmps.getD t undef := by
          rw [htp2]
          simp only [Array.getD_eq_getD_getElem?, Array.getElem?_setIfInBounds_ne e]
        split
        · rename_i q
          exact .batt _ _ _ (k3 _ (by omega))
        · rw [hget]
          exact keep hs'.s.bel k1 k3 t
    have hwl : AWP P N aA ⟨(p, el j) :: (ghB gb 0 nB ++ tmK), bxs j, rws j, nb, nr⟩ (fun e τ => match e with | .n => WL0 P N [aB] (QR gb nB ⟨[], bxs (j + 1), rws (j + 1), nb, nr⟩) τ | e => QR gb nB ⟨[], bxs (j + 1), rws (j + 1), nb, nr⟩ e τ) := (hbody gb j hj).h
    have hx : ca.wpIn ((Fe none).inRound (w.heap.size + 1)) 0 P (APost ⟨VB, W1, []⟩ N F' (fun e τ => match e with | .n => WL0 P N [aB] (QR gb nB ⟨[], bxs (j + 1), rws (j + 1), nb, nr⟩) τ | e => QR gb nB ⟨[], bxs (j + 1), rws (j + 1), nb, nr⟩ e τ)) { tmps := tp, defers := [] } W :=
      hwl ca hA (some (w.heap.size + 1)) _ ρ' F' _ W hround
    rw [htp]
    refine wpIn_mono hx fun e a1 w1 hq => ?_
    obtain ⟨x, τ, ρ2, F2, rfl, g2, g3, g4, g5⟩ := hq
    cases x with
    | x id => cases g2.n
    | r => cases g2.n
    | n =>
      have hl1 : w1.heap[w.heap.size + 1]? = some (.loop (rec .ready)) := (g3.s.bel.block _ hVBl).trans hL1
      refine ⟨_, run_beginRound hl1 (by rw [hrec]), ?_⟩
      have hbusy : ({ rec .ready with state := .busy } : Loop) = rec .busy := by rw [hrec]
      rw [hbusy]
      have g3' : LSim ⟨VB, W1.putObj (w.heap.size + 1) (.loop (rec .busy)), []⟩ N ρ2 F2 τ a1 (w1.putObj (w.heap.size + 1) (.loop (rec .busy))) :=
        g3.chg rfl g3.s.df (putObj_cell hl1 rfl rfl) (by simp) (fun x c T fr h => by
          rw [World.putObj_heap_other (fun e => by subst e; rw [hl1] at h; cases h)]; exact h) (fun x hx => .inl hx) (fun x hx => .inl hx) (bel2 g3.s.bel)
      have hy2 : cb.wpIn ((Fe none).inRound (w.heap.size + 1)) 0 P (APost ⟨VB, W1.putObj (w.heap.size + 1) (.loop (rec .busy)), []⟩ N F2 (fun e τ => match e with | .n => WL0 P N [] (QR gb nB ⟨[], bxs (j + 1), rws (j + 1), nb, nr⟩) τ | e => QR gb nB ⟨[], bxs (j + 1), rws (j + 1), nb, nr⟩ e τ)) a1 (w1.putObj (w.heap.size + 1) (.loop (rec .busy))) :=
        g2 cb hB (some (w.heap.size + 1)) _ ρ2 F2 _ _ g3'
      refine wpIn_mono hy2 fun e a3 w3 hq => ?_
      obtain ⟨x, τ3, ρ3, F3, rfl, j2, j3, j4, j5⟩ := hq
      cases x with
      | x id => cases j2.n
      | r => cases j2.n
      | n =>
        obtain ⟨tm', hw, hgt⟩ := QR.h j2
        obtain ⟨ρ4, F4, m1, m2, m3⟩ := hw _ _ _ _ _ _ j3
        have hg4 : ∀ b, b < nB → ρ4.b b = some (gb b) := fun b hb => by
          have h5 := m1.s.tm (1000000 + b)
          rw [show (AS.fs ⟨tm', bxs (j + 1), rws (j + 1), nb, nr⟩).tm (1000000 + b) = .batt b (gb b) by rw [← hgt b hb, gT_eq]; rfl] at h5
          exact h5.batt_inv
        have hl3 : w3.heap[w.heap.size + 1]? = some (.loop (rec .busy)) := (j3.s.bel.block _ hVBl).trans (World.putObj_heap_same (hVBs _ hVBl))
        have hend : (Instr.endRound (w.heap.size + 1) none).run P w3 = .ok (.bool true) (w3.putObj (w.heap.size + 1) (.loop (rec .ready))) := by
          rw [run_endRound (P := P) none hl3, hrec]; rfl
        refine ⟨_, _, hend, rfl, ρ4, F4, ?_, fun x hx => m2 x (j4 x (g4 x (k1 x hx))), fun x hx => ?_, fun b hb => ?_⟩
        · have hb3 : Base.Bel ⟨VB, W1, []⟩ (w3.putObj (w.heap.size + 1) (.loop (rec .ready))) := bel3 j3.s.bel hL1
          have m1' : LSim ⟨VB, W1, []⟩ N ρ4 F4 ⟨tm', bxs (j + 1), rws (j + 1), nb, nr⟩ a3 (w3.putObj (w.heap.size + 1) (.loop (rec .ready))) :=
            m1.chg rfl m1.s.df (putObj_cell hl3 rfl rfl) (by simp) (fun x c T fr h => by
              rw [World.putObj_heap_other (fun e => by subst e; rw [hl3] at h; cases h)]; exact h) (fun x hx => .inl hx) (fun x hx => .inl hx) hb3
          have m1'' : LSim ⟨VB, W1, [mk w.heap.size]⟩ N ρ4 F4 ⟨tm', bxs (j + 1), rws (j + 1), nb, nr⟩ { a3 with defers := [mk w.heap.size] } (w3.putObj (w.heap.size + 1) (.loop (rec .ready))) :=
            m1'.chg rfl rfl (fun _ => rfl) (Nat.le_refl _) (fun _ _ _ _ h => h) (fun x hx => .inl hx) (fun x hx => .inl hx) ⟨hb3.os, hb3.output, hb3.grow, hb3.size, hb3.block⟩
          exact m1''.tm' (a2 := { a with defers := [mk w.heap.size] ++ a.defers }) (tm2 := tmK) haz (by rw [hdf]; rfl) fun t => keep hb3 (fun x hx => m2 x (j4 x (g4 x (k1 x hx)))) hg4 t
        · rcases m3 x hx with q | q
          · rcases j5 x q with q | q
            · rcases g5 x q with q | q
              · exact k2 x q
              · exact .inr q
            · exact .inr q
          · exact .inr q
        · exact hg4 b hb
  · rintro e W' ⟨⟨u, rfl⟩, ρ', F', hs', k1, k2, k3⟩
    have hl : W'.heap[w.heap.size + 1]? = some (.loop (rec .ready)) := (hs'.s.bel.block _ hVBl).trans hL1
    have hend : (Instr.endLoop (w.heap.size + 1)).run P W' = .ok none (W'.putObj (w.heap.size + 1) (.loop (rec .exhausted))) := by
      rw [run_endLoop hl (by rw [hrec]; simp), hrec]
    refine ⟨_, _, hend, ?_⟩
    refine ⟨.n, _, ρ', F', ⟨VB, W1.putObj (w.heap.size + 1) (.loop (rec .exhausted)), [mk w.heap.size]⟩, ?_, rfl, hK, ?_, fun x hx => k1 x (f1 x hx), fun x hx => ?_⟩
    · refine ⟨fun x hx => hVB0 x (.inl hx), ?_, ?_, ?_, fun x hx => ?_, [w.heap.size], Nat.le_refl _, by rw [hds]; rfl, fun D hD => ?_⟩
      · exact hbel.os.trans hbl0.os
      · exact hbel.output.trans hbl0.output
      · have := hbl0.grow; simp only [World.putObj_size]; omega
      · have hx0 := hsz0 x hx
        rw [World.putObj_heap_other (by omega)]
        exact (hag x (.inl hx)).trans (hbl0.block x hx)
      · obtain rfl : D = w.heap.size := by simpa using hD
        refine ⟨hVBd, fun hv => absurd (hsz0 _ hv) (by omega), hbl0.grow, ?_, fun hf => ?_⟩
        · exact (World.putObj_heap_other (by omega)).trans hD1
        · rcases k2 _ hf with q | q
          · exact absurd (hfl _ q) (by omega)
          · exact q hVBd
    · exact hs'.chg rfl (by rw [hdf]; rfl) (putObj_cell hl rfl rfl) (by simp) (fun x c T fr h => by
        rw [World.putObj_heap_other (fun e => by subst e; rw [hl] at h; cases h)]; exact h) (fun x hx => .inl hx) (fun x hx => .inl hx) (bel2 hs'.s.bel)
    · rcases k2 x hx with q | q
      · exact f2 x q
      · exact .inr fun hv => q (hVB0 x (.inl hv))
theorem rowOk_down {B B' : Nat → Prop} {F : Nat → Prop} {w : World} {p : Pl} {r : ARow} (hB : ∀ x, B' x → B x) (h : RowOk B F w p r) : RowOk B' F w p r := by
  obtain ⟨h1, h2, h3⟩ := h
  refine ⟨h1, h2, h3.imp id ?_⟩
  rintro ⟨k1, k2, k3⟩
  exact ⟨k1, fun e => ⟨fun hb => (k2 e).1 (hB _ hb), (k2 e).2⟩, k3⟩
/-- What a function that ends owes. -/
theorem fin_of {P : Program} {fn : Func} {N : Nat} {r : AV} {H : List ARow} {w w' : World} {F F' F2 : Nat → Prop} {wz : Base} {ρ2 : Env} {τ : AS} {vs' : List AV} {mr : List Nat} {a' : Act} (hF : ∀ x, F x → x < w.heap.size) (f1 : ∀ x, F x → F' x) (f2 : ∀ x, F' x → F x ∨ ¬ Vw w x) (hbel : Below w.heap.size w w') (hVz : ∀ x, Vw w x → wz.V x)
    (hs2 : LSim wz N ρ2 F2 τ a' w') (g1 : ∀ x, F' x → F2 x) (g2 : ∀ x, F2 x → F' x ∨ ¬ wz.V x) (hres : resOf P τ fn.results.toList = some vs') (hle : ALe (one vs') (renT [] mr τ.nb τ.nr r)) (hrt : renOkT r = true) (hrs : resT r = true) (hml : mr.length = H.length) (hmn : mr.Nodup)
    (hrow : ∀ (i : Nat) (row : ARow) (m : Nat), H[i]? = some row → mr[i]? = some m → row.fro = false ∧ getO τ.rw m = some row) :
    ∃ v, (results fn a'.tmps).run P w' = .ok v w' ∧ ∃ u ρ F', Ending.returned v = .returned u ∧ Below w.heap.size w w' ∧ (∀ x, F x → F' x) ∧ (∀ x, F' x → F x ∨ w.heap.size ≤ x) ∧ (∀ x, F' x → x < w'.heap.size) ∧
      (∀ b r, H[b]? = some r → r.fro = false ∧ ∀ p, ρ.r b = some p → RowOk (Vw w) F' w' p r) ∧ (∀ b p, ρ.r b = some p → b < H.length ∧ (0 < p.lim → p.blk < w'.heap.size ∧ w.heap.size ≤ p.blk)) ∧
      (∀ b b' p p', ρ.r b = some p → ρ.r b' = some p' → 0 < p.lim → 0 < p'.lim → p.blk = p'.blk → b = b') ∧ (∀ b, ρ.b b = none) ∧ Rep ρ V0 F' w' u r := by
  obtain ⟨us, q1, q2, q3⟩ := resOf_run (P := P) hs2.s fn.results.toList vs' hres
  have hrun : ∃ v, (results fn a'.tmps).run P w' = .ok v w' ∧ Rep ρ2 wz.V F2 w' v (one vs') := by
    have q1' : (fn.results.mapM (resStep a')).run P w' = .ok us.toArray w' := by
      rw [Array.mapM_eq_mapM_toList, Sem.run_map, q1]; rfl
    have hres : results fn a'.tmps = (do let vs ← fn.results.mapM (resStep a'); pure (if h : vs.size = 1 then vs[0] else .tuple vs)) := rfl
    rw [hres, Sem.run_bind, q1', Result.andThen_ok, Sem.run_pure]
    match us, vs', q2, q3 with
    | [u], [x], _, q3 => exact ⟨u, by simp, q3 0 u x rfl rfl⟩
    | [], [], _, q3 => exact ⟨.tuple #[], by simp, .tup #[] [] rfl (by simp)⟩
    | u :: u2 :: us, x :: x2 :: xs, q2, q3 => exact ⟨.tuple (u :: u2 :: us).toArray, by simp, .tup _ _ (by simpa using q2) (fun i a b e1 e2 => q3 i a b (by simpa using e1) e2)⟩
    | [], _ :: _, q2, _ => simp at q2
    | _ :: _, [], q2, _ => simp at q2
    | [_], _ :: _ :: _, q2, _ => simp at q2
    | _ :: _ :: _, [_], q2, _ => simp at q2
  obtain ⟨v, hv1, hv2⟩ := hrun
  have hren := resT_pure hrs (renT_rep hrt (hle.rep hv2))
  have hget : ∀ b p, (ρ2.ren [] mr τ.nb τ.nr).r b = some p → ∃ (hb : b < mr.length), ρ2.r (mr[b]) = some p := fun b p e => by
    simp only [Env.ren, List.getD_eq_getElem?_getD] at e
    by_cases hb : b < mr.length
    · rw [List.getElem?_eq_getElem hb, Option.getD_some] at e; exact ⟨hb, e⟩
    · rw [List.getElem?_eq_none (by omega), Option.getD_none, hs2.r _ (Nat.le_refl _)] at e; cases e
  have hfin : ∃ u ρ F', Ending.returned v = .returned u ∧ Below w.heap.size w w' ∧ (∀ x, F x → F' x) ∧ (∀ x, F' x → F x ∨ w.heap.size ≤ x) ∧ (∀ x, F' x → x < w'.heap.size) ∧
    (∀ b r, H[b]? = some r → r.fro = false ∧ ∀ p, ρ.r b = some p → RowOk (Vw w) F' w' p r) ∧ (∀ b p, ρ.r b = some p → b < H.length ∧ (0 < p.lim → p.blk < w'.heap.size ∧ w.heap.size ≤ p.blk)) ∧
    (∀ b b' p p', ρ.r b = some p → ρ.r b' = some p' → 0 < p.lim → 0 < p'.lim → p.blk = p'.blk → b = b') ∧ (∀ b, ρ.b b = none) ∧ Rep ρ V0 F' w' u r := by
    refine ⟨v, ρ2.ren [] mr τ.nb τ.nr, F2, rfl, hbel, fun x hx => g1 x (f1 x hx), fun x hx => (g2 x hx).elim (fun hx => (f2 x hx).imp id Nat.le_of_not_lt) (fun e => .inr (Nat.le_of_not_lt fun q => e (hVz x q))), hs2.s.fl, fun b r e => ?_, fun b p e => ?_, fun b b' p p' e e' l l' hq => ?_, fun b => ?_, hren⟩
    · have hb : b < H.length := (List.getElem?_eq_some_iff.1 e).1
      have hrw := hrow b r (mr[b]'(by omega)) e (List.getElem?_eq_getElem (by omega))
      refine ⟨hrw.1, fun p ep => ?_⟩
      obtain ⟨_, k⟩ := hget b p ep
      exact rowOk_down hVz (hs2.s.rw _ r p hrw.2 k)
    · obtain ⟨hb, k⟩ := hget b p e
      refine ⟨by omega, fun hl => ⟨hs2.s.lr _ p k hl, ?_⟩⟩
      have hrw := hrow b _ (mr[b]) (List.getElem?_eq_getElem (by omega)) (List.getElem?_eq_getElem hb)
      rcases (hs2.s.rw _ _ p hrw.2 k).2.2 with q | ⟨_, q, _⟩
      · omega
      · exact Nat.le_of_not_lt fun q2 => (q hrw.1).1 (hVz _ q2)
    · obtain ⟨hb, k⟩ := hget b p e
      obtain ⟨hb', k'⟩ := hget b' p' e'
      have hrw := hrow b _ (mr[b]) (List.getElem?_eq_getElem (by omega)) (List.getElem?_eq_getElem hb)
      have hrw' := hrow b' _ (mr[b']) (List.getElem?_eq_getElem (by omega)) (List.getElem?_eq_getElem hb')
      exact nodup_get hmn hb hb' (hs2.s.ir _ _ p p' _ _ k k' hrw.2 hrw'.2 hrw.1 hrw'.1 l l' hq)
    · exact hs2.b _ (Nat.le_refl _)
  exact ⟨v, hv1, hfin⟩
theorem acallx_walk {P : Program} {f : Nat} {fn : Func} {ac : ACode} {N : Nat} {args : List AV} {r : AV} {H : List ARow} (hf : P.funcs[f]? = some fn) (hp : plainFn P f = true) (hc : fn.body.bind (compC P N) = some ac) (hN : N = max args.length fn.ntmps)
    (h : AWX P N ac ⟨enum 0 args, [], [], 0, 0⟩ (QF P fn.results.toList r H)) : ACall P f args r H := by
  obtain ⟨c, hb, hc⟩ := Option.bind_eq_some_iff.1 hc
  refine ⟨hp, fun w F vs hF hl hr => (callsIn_wide (n := 0)).1 (callsIn_of_wp_marks hf hb trivial (wpIn_mono (h c (compC_told c ac hc) ⟨Vw w, w, []⟩ Env.none F _ w rfl ?_) ?_))⟩
  · refine ⟨⟨by simp [hl]; omega, rfl, fun t => ?_, (fun b c g e => by simp [AS.fs, getO] at e), (fun b r p e => by simp [AS.fs, getO] at e), (fun b b' g e => by cases e), (fun b b' p p' r r' e => by cases e), (fun b b' g p e => by cases e), (fun b g e => by cases e), (fun b p e => by cases e), hF, ⟨rfl, rfl, Nat.le_refl _, fun _ hx => hx, fun _ _ => rfl⟩⟩, fun _ _ => rfl, fun _ _ => rfl, (fun b c e => by simp [AS.fs, getO] at e), (fun b c e => by simp [AS.fs, getO] at e)⟩
    show Rep Env.none (Vw w) F w _ (getT (enum 0 args) t)
    rw [getT_enum, if_pos (Nat.zero_le _), Nat.sub_zero]
    by_cases ht : t < args.length
    · rw [List.getElem?_eq_getElem ht, Option.getD_some]
      have e1 : vs[t]? = some (vs[t]'(by omega)) := Array.getElem?_eq_getElem (by omega)
      have : (vs ++ Array.replicate (fn.ntmps - vs.size) undef).getD t undef = vs[t]'(by omega) := by
        simp only [Array.getD_eq_getD_getElem?]
        rw [Array.getElem?_append_left (by omega), e1]; rfl
      rw [this]
      exact hr t _ _ e1 (List.getElem?_eq_getElem ht)
    · rw [List.getElem?_eq_none (by omega)]; exact .any _
  · rintro e a' w' ⟨x, σ, ρ, F', w1, hext, rfl, ⟨hx, ⟨τ, vs', mr, hw, hres, hle, hrt, hrs, hml, hmn, hrow⟩⟩, hs, f1, f2⟩
    obtain ⟨ρ2, F2, hs2, g1, g2⟩ := hw _ N ρ F' a' w' hs
    obtain ⟨l, l0, l1, l2⟩ := hext.ds
    have hbel : ∀ {wz : Base} {w2 : World}, wz.Bel w2 → wz.w.os = w1.w.os → wz.w.output = w1.w.output → w1.w.heap.size ≤ wz.w.heap.size → (∀ x, w1.V x → wz.V x) → (∀ k, k < w.heap.size → wz.w.heap[k]? = w1.w.heap[k]?) → Below w.heap.size w w2 := fun {wz w2} hb h1 h2 h3 h4 h5 =>
      ⟨hb.os.trans (h1.trans hext.os), hb.output.trans (h2.trans hext.output), Nat.le_trans hext.size (Nat.le_trans h3 hb.grow), fun k hk => (hb.block k (h4 k (hext.V k hk))).trans ((h5 k hk).trans (hext.block k hk))⟩
    have hd : a'.defers = l.map mk := by rw [hs2.s.df, l1]; simp
    have key : LeavesInM (Fe none) 0 P fn a'.tmps (fun e w' => ∃ v ρ F', e = .returned v ∧ Below w.heap.size w w' ∧ (∀ x, F x → F' x) ∧ (∀ x, F' x → F x ∨ w.heap.size ≤ x) ∧ (∀ x, F' x → x < w'.heap.size) ∧
      (∀ b r, H[b]? = some r → r.fro = false ∧ ∀ p, ρ.r b = some p → RowOk (Vw w) F' w' p r) ∧ (∀ b p, ρ.r b = some p → b < H.length ∧ (0 < p.lim → p.blk < w'.heap.size ∧ w.heap.size ≤ p.blk)) ∧
      (∀ b b' p p', ρ.r b = some p → ρ.r b' = some p' → 0 < p.lim → 0 < p'.lim → p.blk = p'.blk → b = b') ∧ (∀ b, ρ.b b = none) ∧ Rep ρ V0 F' w' v r) a'.defers .returning w' := by
      rw [hd]
      match l, l0, l1, l2 with
      | [], _, l1, _ => exact fin_of hF f1 f2 (hbel hs2.s.bel rfl rfl (Nat.le_refl _) (fun _ h => h) fun _ _ => rfl) hext.V hs2 g1 g2 hres hle hrt hrs hml hmn hrow
      | [D], _, l1, l2 =>
        obtain ⟨d1, d2, d3, d4, d5⟩ := l2 D (by simp)
        have hD : w'.heap[D]? = some (.deferred (some [])) := (hs2.s.bel.block D d1).trans d4
        have hDs : D < w'.heap.size := (Array.getElem?_eq_some_iff.1 hD).1
        have hD1 : D < w1.w.heap.size := (Array.getElem?_eq_some_iff.1 d4).1
        have hb2 : Base.Bel ⟨w1.V, w1.w.putObj D (.deferred none), w1.ds⟩ (w'.putObj D (.deferred none)) := by
          refine ⟨hs2.s.bel.os, hs2.s.bel.output, by have := hs2.s.bel.grow; simpa using this, fun x hx => by have := hs2.s.bel.size x hx; simpa using this, fun x hx => ?_⟩
          by_cases e : x = D
          · subst e; rw [World.putObj_heap_same hDs, World.putObj_heap_same hD1]
          · rw [World.putObj_heap_other e, World.putObj_heap_other e]; exact hs2.s.bel.block x hx
        have hs3 : LSim ⟨w1.V, w1.w.putObj D (.deferred none), w1.ds⟩ N ρ2 F2 τ a' (w'.putObj D (.deferred none)) :=
          hs2.chg rfl hs2.s.df (putObj_cell hD rfl rfl) (by simp) (fun x c T fr h => by
            rw [World.putObj_heap_other (fun e => by subst e; rw [hD] at h; cases h)]; exact h) (fun x hx => .inl hx) (fun x hx => .inl hx) hb2
        refine ⟨by simp, .inl ⟨D, _, rfl, run_takeDeferred hD, ?_⟩⟩
        exact fin_of (wz := ⟨w1.V, w1.w.putObj D (.deferred none), w1.ds⟩) hF f1 f2 (hbel hb2 rfl rfl (by simp) (fun _ h => h) fun k hk => World.putObj_heap_other (by have d3 : w.heap.size ≤ D := d3; omega)) hext.V hs3 g1 g2 hres hle hrt hrs hml hmn hrow
      | _ :: _ :: _, l0, _, _ => simp at l0
    rcases hx with rfl | rfl
    · exact key
    · exact key

/-! ### For walks -/
theorem RG.vcall {P : Program} {N t f : Nat} {xs : List Opd} {vs : List AV} {v : AV} {l : List AO} {y : List ACode} {tm : List (Nat × AV)} {bx : List (Option (List AV))} {rw : List (Option ARow)} {nb nr : Nat} {Q : AX → AS → Prop}
    (c : VCall P f vs v) (hv : (xs.map fun x => (lookT (gT tm) x).val) = vs) (hc : ∀ x ∈ xs, (lookT (gT tm) x).cond ∧ plainR (lookT (gT tm) x).val = true) (k : RG P N l y ⟨(t, v) :: tm, bx, rw, nb, nr⟩ Q) : RG P N (⟨some t, .call f xs, none⟩ :: l) y ⟨tm, bx, rw, nb, nr⟩ Q := by
  subst hv
  rw [gT_eq] at c hc
  exact ⟨Or.inr ⟨⟨True, v, 0, 0, []⟩, .inr (.inr ⟨⟨True, v, 0, 0, []⟩, .inl ⟨f, xs, rfl, c, hc, rfl, rfl, rfl⟩, rfl⟩), k.h⟩⟩
structure QX (P : Program) (N : Nat) (y : ACode) (Q : AX → AS → Prop) (x : AX) (σ : AS) : Prop where
  h : match x with | .n => AWX P N y σ Q | e => Q e σ
theorem QX.n {P : Program} {N : Nat} {y : ACode} {Q : AX → AS → Prop} {σ : AS} (h : AWX P N y σ Q) : QX P N y Q .n σ := ⟨h⟩
theorem QX.r {P : Program} {N : Nat} {y : ACode} {Q : AX → AS → Prop} {σ : AS} (h : Q .r σ) : QX P N y Q .r σ := ⟨h⟩
theorem AWX.w {P : Program} {N : Nat} {x y : ACode} {Q : AX → AS → Prop} {σ : AS} (h : WL P N [x] (QX P N y Q) σ) : AWX P N (.seq x y) σ Q :=
  AWX.seqL (AWP.mono (W.of h) fun e τ hq => by cases e <;> exact hq.h)
structure QY (P : Program) (N : Nat) (y : ACode) (Q : AX → AS → Prop) (x : AX) (σ : AS) : Prop where
  h : match x with | .n => WL P N [y] Q σ | e => Q e σ
theorem QY.n {P : Program} {N : Nat} {y : ACode} {Q : AX → AS → Prop} {σ : AS} (h : WL P N [y] Q σ) : QY P N y Q .n σ := ⟨h⟩
theorem AWX.mono {P : Program} {N : Nat} {ac : ACode} {Q Q' : AX → AS → Prop} {σ : AS} (h : AWX P N ac σ Q) (hq : ∀ x τ, Q x τ → Q' x τ) : AWX P N ac σ Q' := fun c hc w0 ρ F a w hds hs =>
  wpIn_mono (h c hc w0 ρ F a w hds hs) fun e a' w' ⟨x, σ', ρ', F', w1, g0, g1, g2, g3⟩ => ⟨x, σ', ρ', F', w1, g0, g1, hq x σ' g2, g3⟩
theorem AWX.v {P : Program} {N : Nat} {x y : ACode} {Q : AX → AS → Prop} {σ : AS} (h : AWX P N x σ (QY P N y Q)) : AWX P N (.seq x y) σ Q :=
  AWX.seqR (h.mono fun e τ hq => by
    cases e with
    | n => exact W.of hq.h
    | x id => exact hq.h
    | r => exact hq.h)
/-- A block around the statement. -/
theorem AWX.blk {P : Program} {N id : Nat} {x : ACode} {Q : AX → AS → Prop} {σ : AS} (h : AWX P N x σ (fun e τ => e = .n ∧ Q .n τ)) : AWX P N (.block id x) σ Q :=
  AWX.block (h.mono fun e τ hq => by obtain ⟨rfl, h⟩ := hq; exact h)
/-- An iterator that has captured boxes of plain values. -/
theorem fn_free {f : Nat} {caps : List AV} (hc : ∀ x ∈ caps, ∃ cs, x = .cptr false cs ∧ ∀ y ∈ cs, plainR y = true) (ρ : Env) (V F : Nat → Prop) (w : World) (v : Value) (h : Rep ρ V F w v (.fn f caps)) : Rep Env.none V F w v (.fn f caps) := by
  obtain ⟨cs, rfl, hl, hr⟩ := h.fn_inv
  refine .fn _ _ _ hl fun i u av e1 e2 => ?_
  obtain ⟨l, rfl, hp⟩ := hc av (List.mem_of_getElem? e2)
  obtain ⟨ad, g, rfl, p2, p3, p4, p5⟩ := (hr i u _ e1 e2).cptr_inv
  exact .cptr false ad l g p2 p3 p4 fun j y e => plainR_rep (hp y (List.mem_of_getElem? e)) (p5 j y e)
end Go.Proofs.Ytiejnmbpejfpgaa
