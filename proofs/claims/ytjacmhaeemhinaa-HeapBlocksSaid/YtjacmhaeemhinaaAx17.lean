/- Contracts of functions, on abstract values. -/
import Derived.Test.YtjacmhaeemhinaaAxE
namespace Go.Proofs.Ytjacmhaeemhinaa
open Go.RowKit
set_option linter.unusedVariables false

/-- What may be told less of. -/
inductive ALe : AV → AV → Prop
  | refl (v : AV) : ALe v v
  | any (v : AV) : ALe v .any
  | nil (vol : Bool) (k : Nat) : ALe .nil (.sl vol k [])
  | csl (vol : Bool) (k : Nat) (es : List AV) : ALe (.csl vol k es) (.sl vol k es)
  | vol (k : Nat) (es : List AV) : ALe (.sl false k es) (.sl true k es)
  | cnd (v : AV) : ALe (.cnd true v) v
  | refc (b k lo n c : Nat) : ALe (.refc b k lo n c) (.ref b k lo n)
  | agg (l l' : List AV) (hl : l.length = l'.length) (h : ∀ (i : Nat) (x y : AV), l[i]? = some x → l'[i]? = some y → ALe x y) : ALe (.agg l) (.agg l')
  | tup (l l' : List AV) (hl : l.length = l'.length) (h : ∀ (i : Nat) (x y : AV), l[i]? = some x → l'[i]? = some y → ALe x y) : ALe (.tup l) (.tup l')
  | cptr (vol : Bool) (l l' : List AV) (hl : l.length = l'.length) (h : ∀ (i : Nat) (x y : AV), l[i]? = some x → l'[i]? = some y → ALe x y) : ALe (.cptr vol l) (.cptr vol l')
  | fn (f : Nat) (l l' : List AV) (hl : l.length = l'.length) (h : ∀ (i : Nat) (x y : AV), l[i]? = some x → l'[i]? = some y → ALe x y) : ALe (.fn f l) (.fn f l')
  | sle (vol : Bool) (k : Nat) (l l' : List AV) (hl : l.length = l'.length) (hw : ∀ y ∈ l', y.cells.length = k) (h : ∀ (i : Nat) (x y : AV), (flat l)[i]? = some x → (flat l')[i]? = some y → ALe x y) (hp : ∀ y ∈ flat l', pureC y = true) : ALe (.sl vol k l) (.sl vol k l')
  | trans (x y z : AV) (h : ALe x y) (k : ALe y z) : ALe x z

theorem ALe.rep {ρ : Env} {B : Nat → Prop} {F : Nat → Prop} {w : World} {x y : AV} (h : ALe x y) : ∀ {v : Value}, Rep ρ B F w v x → Rep ρ B F w v y := by
  induction h with
  | refl v => exact id
  | any v => exact fun _ => .any _
  | nil vol k => exact fun h => h.nil_sl
  | csl vol k es => exact fun h => h.csl_sl
  | vol k es =>
    intro v h
    obtain ⟨a, c, f, rfl, hw, hr, hc⟩ := h.sl_inv
    exact .vsl _ _ _ _ _ _ rfl hw (hr.mono (Agree.refl _ _) (fun x hx => by rcases hx with ⟨h, _⟩ | h; cases h; exact .inr h)) hc
  | cnd v => exact fun h => h.cnd_inv rfl
  | refc b k lo n c => exact fun h => h.rf
  | agg l l' hl h ih =>
    intro v hv
    obtain ⟨cs, rfl, hs, hc⟩ := hv.agg_inv
    refine .agg cs l' (by omega) fun i u av e1 e2 => ?_
    have hi := (List.getElem?_eq_some_iff.1 e2).1
    have e3 : l[i]? = some (l[i]'(by omega)) := List.getElem?_eq_getElem (by omega)
    exact ih i _ _ e3 e2 (hc i u _ e1 e3)
  | tup l l' hl h ih =>
    intro v hv
    obtain ⟨cs, rfl, hs, hc⟩ := hv.tup_inv
    refine .tup cs l' (by omega) fun i u av e1 e2 => ?_
    have hi := (List.getElem?_eq_some_iff.1 e2).1
    have e3 : l[i]? = some (l[i]'(by omega)) := List.getElem?_eq_getElem (by omega)
    exact ih i _ _ e3 e2 (hc i u _ e1 e3)
  | cptr vol l l' hl h ih =>
    intro v hv
    obtain ⟨ad, f, rfl, hsp, hloc, hcell, hc⟩ := hv.cptr_inv
    refine .cptr vol ad l' f hsp hloc (fun i hi => hcell i (by omega)) fun i av e2 => ?_
    have hi := (List.getElem?_eq_some_iff.1 e2).1
    have e3 : l[i]? = some (l[i]'(by omega)) := List.getElem?_eq_getElem (by omega)
    exact ih i _ _ e3 e2 (hc i _ e3)
  | fn f l l' hl h ih =>
    intro v hv
    obtain ⟨cs, rfl, hs, hc⟩ := hv.fn_inv
    refine .fn f cs l' (by omega) fun i u av e1 e2 => ?_
    have hi := (List.getElem?_eq_some_iff.1 e2).1
    have e3 : l[i]? = some (l[i]'(by omega)) := List.getElem?_eq_getElem (by omega)
    exact ih i _ _ e3 e2 (hc i u _ e1 e3)
  | sle vol k l l' hl hw h hp ih =>
    intro v hv
    obtain ⟨a, c, f, rfl, h1, h2, h3⟩ := hv.sl_inv
    have key : ∀ (i : Nat) (y : AV), (flat l')[i]? = some y → Rep0 F w (f i) y := fun i y e => by
      have hi := (List.getElem?_eq_some_iff.1 e).1
      rw [width_flat hw] at hi
      have hj : i < (flat l).length := by rw [width_flat h1, hl]; exact hi
      have ex := List.getElem?_eq_getElem hj
      exact (ih i _ y ex e (.pure _ _ (h3 i _ ex))).pureC (hp y (List.mem_of_getElem? e))
    rw [hl] at h2 ⊢
    cases vol
    · exact .pure _ _ (.sl a _ c k l' f rfl hw (h2.mono (Agree.refl _ _) (by simp)) key)
    · exact .vsl a _ c k l' f rfl hw (h2.mono (Agree.refl _ _) (by simp)) key
  | trans x y z h k ih1 ih2 => exact fun hv => ih2 (ih1 hv)

/-! ### Arguments: what is own is handed in as memory that nobody writes meanwhile -/
def argR : AV → AV
  | .int k n => .int k n
  | .bool b => .bool b
  | .str s => .str s
  | .raw v => .raw v
  | .nil => .nil
  | .sl v k es => .sl v k es
  | .csl v k es => .csl v k es
  | _ => .any
def argC (rw : Nat → Option ARow) : AV → AV
  | .ref b k lo n => match rw b with
    | some r => if r.k = k ∧ lo + n ≤ r.es.length then .sl true k ((r.es.drop lo).take n) else .any
    | none => .any
  | v => argR v
def argV (bx : Nat → Option (List AV)) (rw : Nat → Option ARow) : AV → AV
  | .agg l => .agg (l.map (argC rw))
  | .cptr vol cs => .cptr vol (cs.map argR)
  | .bptr b off => match bx b with
    | some cells => if off < cells.length then .cptr true ((cells.drop off).map (argC rw)) else .any
    | none => .any
  | .aptr b n => match rw b with
    | some r => if 0 < n ∧ n ≤ (flat r.es).length ∧ (flat r.es).length = r.es.length * r.k then .cptr true ((flat r.es).take n) else .any
    | none => .any
  | v => argC rw v
def argF (bx : Nat → Option (List AV)) (rw : Nat → Option ARow) : AV → AV
  | .fn f caps => .fn f (caps.map (argV bx rw))
  | v => argV bx rw v

section
variable {P : Program} {w0 : Base} {N : Nat} {ρ : Env} {F : Nat → Prop} {σ : FS} {a : Act} {w : World}

/-- What may be looked at: memory V, among it the boxes bx', the rows rw'. -/
structure Looks (w0 : Base) (ρ : Env) (σ : FS) (V : Nat → Prop) (bx' : Nat → Option (List AV)) (rw' : Nat → Option ARow) : Prop where
  v : ∀ x, w0.V x → V x
  b : ∀ b c, bx' b = some c → σ.bx b = some c ∧ ∀ g, ρ.b b = some g → V g
  r : ∀ b r, rw' b = some r → σ.rw b = some r ∧ ∀ p, ρ.r b = some p → 0 < p.lim → V p.blk
variable {V : Nat → Prop} {bx' : Nat → Option (List AV)} {rw' : Nat → Option ARow}
theorem argR_rep {ρ' : Env} (hV : ∀ x, w0.V x → V x) {v : Value} {av : AV} (hv : Rep ρ w0.V F w v av) : Rep ρ' V F w v (argR av) := by
  cases hv with
  | pure v av h0 => cases h0 <;> first | exact .any _ | exact .pure _ _ (by constructor <;> assumption)
  | vsl a n c k es f hn hw hr hc => exact .vsl a n c k es f hn hw (hr.mono (Agree.refl _ _) fun x hx => hx.imp (hV x) id) hc
  | vcsl a n k es f hn hw hr hc => exact .vcsl a n k es f hn hw (hr.mono (Agree.refl _ _) fun x hx => hx.imp (hV x) id) hc
  | _ => exact .any _
theorem argC_rep {ρ' : Env} (h : Sim w0 N ρ F σ a w) (hk : Looks w0 ρ σ V bx' rw') {v : Value} {av : AV} (hv : Rep ρ w0.V F w v av) : Rep ρ' V F w v (argC rw' av) := by
  by_cases hr : ∃ b k lo n, av = .ref b k lo n
  · obtain ⟨b, k, lo, n, rfl⟩ := hr
    simp only [argC]
    split
    · rename_i r hr
      split
      · rename_i hcnd
        obtain ⟨hr1, hr2⟩ := hk.r b r hr
        obtain ⟨ad, c, p, f, rfl, hp, hra, hw, hlen, hc⟩ := ref_row h hv hr1 hcnd.1 hcnd.2
        exact .vsl ad n c k _ f hlen hw (hra.mono (Agree.refl _ _) fun x hx => .inl (by rw [hx.1]; exact hr2 p hp hx.2)) hc
      · exact .any _
    · exact .any _
  · have : argC rw' av = argR av := by cases av <;> first | rfl | exact absurd ⟨_, _, _, _, rfl⟩ hr
    rw [this]; exact argR_rep hk.v hv
theorem argV_rep {ρ' : Env} (h : Sim w0 N ρ F σ a w) (hk : Looks w0 ρ σ V bx' rw') {v : Value} {av : AV} (hv : Rep ρ w0.V F w v av) : Rep ρ' V F w v (argV bx' rw' av) := by
  cases av with
  | agg l =>
    obtain ⟨cs, rfl, hl, hc⟩ := hv.agg_inv
    refine .agg cs _ (by simp [hl]) fun i u x e1 e2 => ?_
    rw [List.getElem?_map] at e2
    cases hy : l[i]? with
    | none => rw [hy] at e2; cases e2
    | some y => rw [hy] at e2; cases e2; exact argC_rep h hk (hc i u y e1 hy)
  | cptr vol cs =>
    obtain ⟨ad, f, rfl, hsp, hloc, hcell, hr⟩ := hv.cptr_inv
    refine .cptr vol ad _ f hsp (hloc.imp (fun q => ⟨q.1, hk.v _ q.2⟩) id) (fun i hi => hcell i (by simpa using hi)) fun i x e2 => ?_
    rw [List.getElem?_map] at e2
    cases hy : cs[i]? with
    | none => rw [hy] at e2; cases e2
    | some y => rw [hy] at e2; cases e2; exact argR_rep hk.v (hr i y hy)
  | bptr b off =>
    simp only [argV]
    split
    · rename_i cells hb
      split
      · rename_i hoff
        obtain ⟨g, hg, rfl⟩ := hv.bptr_inv
        obtain ⟨hb1, hb2⟩ := hk.b b cells hb
        obtain ⟨h1, h2, cs, T, h3, h4, h5⟩ := h.bx b cells g hb1 hg
        refine .cptr true _ _ (fun i => cs.getD (off + i) undef) rfl (.inl ⟨rfl, hb2 g hg⟩) (fun i hi => ?_) fun i x e2 => ?_
        · simp at hi
          rw [cell_lit h3]; simp [Array.getD, show off + i < cs.size by omega]
        · rw [List.getElem?_map, List.getElem?_drop] at e2
          cases hy : cells[off + i]? with
          | none => rw [hy] at e2; cases e2
          | some y =>
            rw [hy] at e2; cases e2
            have hi := (List.getElem?_eq_some_iff.1 hy).1
            have e1 : cs[off + i]? = some (cs[off + i]'(by omega)) := Array.getElem?_eq_getElem (by omega)
            rw [show cs.getD (off + i) undef = cs[off + i]'(by omega) by simp [Array.getD, show off + i < cs.size by omega]]
            exact argC_rep h hk (h5 _ _ _ e1 hy)
      · exact .any _
    · exact .any _
  | aptr b n =>
    simp only [argV]
    split
    · rename_i r hr
      split
      · rename_i hcnd
        obtain ⟨hr1, hr2⟩ := hk.r b r hr
        obtain ⟨p, hp, hl, rfl⟩ := hv.aptr_inv
        obtain ⟨h1, h2, f, h3, h4⟩ := row_cells h hr1 hp
        refine .cptr true _ _ f rfl (.inl ⟨rfl, hr2 p hp (by omega)⟩) (fun i hi => ?_) fun i x e2 => ?_
        · simp at hi
          have e : (⟨p.blk, p.off, none⟩ : Addr).add i = ⟨p.blk, p.off + i, none⟩ := by
            unfold Addr.add
            split
            · rename_i q; subst q; rfl
            · rfl
          rw [e]
          exact h3 i (by omega)
        · rw [List.getElem?_take] at e2
          split at e2
          · exact .pure _ _ (h4 i x e2)
          · cases e2
      · exact .any _
    · exact .any _
  | _ => exact argC_rep h hk hv
theorem argF_rep {ρ' : Env} (h : Sim w0 N ρ F σ a w) (hk : Looks w0 ρ σ V bx' rw') {v : Value} {av : AV} (hv : Rep ρ w0.V F w v av) : Rep ρ' V F w v (argF bx' rw' av) := by
  cases av with
  | fn f caps =>
    obtain ⟨cs, rfl, hl, hc⟩ := hv.fn_inv
    refine .fn f cs _ (by simp [hl]) fun i u x e1 e2 => ?_
    rw [List.getElem?_map] at e2
    cases hy : caps[i]? with
    | none => rw [hy] at e2; cases e2
    | some y => rw [hy] at e2; cases e2; exact argV_rep h hk (hc i u y e1 hy)
  | _ => exact argV_rep h hk hv
/-- All memory that there is. -/
def Vw (w : World) : Nat → Prop := fun x => x < w.heap.size
theorem Sim.looks (h : Sim w0 N ρ F σ a w) : Looks w0 ρ σ (Vw w) σ.bx σ.rw := ⟨h.bel.size, fun b c e => ⟨e, fun g hg => h.lb b g hg⟩, fun b r e => ⟨e, fun p hp hl => h.lr b p hp hl⟩⟩
end

/-! ### Results -/
def shC (m : Nat) : AV → AV
  | .ref b k lo n => .ref (m + b) k lo n
  | v => argR v
def shV (m : Nat) : AV → AV
  | .agg l => .agg (l.map (shC m))
  | v => shC m v
def shT (m : Nat) : AV → AV
  | .tup l => .tup (l.map (shV m))
  | v => shV m v
def plainFn (P : Program) (f : Nat) : Bool := match P.funcs[f]? with
  | some fn => fn.name != "runtime.NumGoroutine" && fn.body.isSome
  | none => false

/-- Function f, called with values that args stand for, returns what r stands for, and the own rows H. -/
def ACall (P : Program) (f : Nat) (args : List AV) (r : AV) (H : List ARow) : Prop :=
  plainFn P f = true ∧ ∀ (w : World) (F : Nat → Prop) (vs : Array Value), (∀ x, F x → x < w.heap.size) → vs.size = args.length → (∀ (i : Nat) (u : Value) (av : AV), vs[i]? = some u → args[i]? = some av → Rep Env.none (Vw w) F w u av) →
    Calls P f vs w fun e w' => ∃ v ρ F', e = .returned v ∧ Below w.heap.size w w' ∧ (∀ x, F x → F' x) ∧ (∀ x, F' x → F x ∨ w.heap.size ≤ x) ∧ (∀ x, F' x → x < w'.heap.size) ∧
      (∀ b r, H[b]? = some r → r.fro = false ∧ ∀ p, ρ.r b = some p → RowOk (Vw w) F' w' p r) ∧ (∀ b p, ρ.r b = some p → b < H.length ∧ (0 < p.lim → p.blk < w'.heap.size ∧ w.heap.size ≤ p.blk)) ∧
      (∀ b b' p p', ρ.r b = some p → ρ.r b' = some p' → 0 < p.lim → 0 < p'.lim → p.blk = p'.blk → b = b') ∧ (∀ b, ρ.b b = none) ∧ Rep ρ V0 F' w' v r

def rowsUp (m : Nat) : List ARow → List Upd
  | [] => []
  | r :: H => .R m (some r) :: rowsUp (m + 1) H
theorem rowsUp_rw : ∀ (H : List ARow) (m : Nat) (σ : FS), (σ.ups (rowsUp m H)).tm = σ.tm ∧ (σ.ups (rowsUp m H)).bx = σ.bx ∧ ∀ x, (σ.ups (rowsUp m H)).rw x = if m ≤ x ∧ x < m + H.length then H[x - m]? else σ.rw x
  | [], m, σ => ⟨rfl, rfl, fun x => by rw [if_neg (by simp only [List.length_nil]; omega)]; rfl⟩
  | r :: H, m, σ => by
    obtain ⟨h1, h2, h3⟩ := rowsUp_rw H (m + 1) (σ.setR m (some r))
    refine ⟨h1, h2, fun x => ?_⟩
    show ((σ.setR m (some r)).ups (rowsUp (m + 1) H)).rw x = _
    rw [h3]
    simp only [List.length_cons]
    by_cases hx : x = m
    · subst hx
      rw [if_neg (by omega), if_pos (by omega)]; simp [FS.setR]
    · by_cases h4 : m + 1 ≤ x ∧ x < m + 1 + H.length
      · rw [if_pos h4, if_pos (by omega), show x - m = (x - (m + 1)) + 1 by omega]; rfl
      · rw [if_neg h4, if_neg (by omega)]; simp [FS.setR, hx]

section
variable {P : Program} {w0 : Base} {N : Nat} {ρ : Env} {F : Nat → Prop} {σ : FS} {a : Act} {w : World}

theorem argR_mono {ρc ρ' : Env} {B : Nat → Prop} {F' : Nat → Prop} {w' : World} {v : Value} {av : AV} (h : Rep ρc V0 F' w' v av) : Rep ρ' B F' w' v (argR av) := by
  cases h with
  | pure v av h0 => cases h0 <;> first | exact .any _ | exact .pure _ _ (by constructor <;> assumption)
  | vsl a n c k es f hn hw hr hc => exact .vsl a n c k es f hn hw (hr.mono (Agree.refl _ _) fun x hx => hx.imp (fun h => h.elim) id) hc
  | vcsl a n k es f hn hw hr hc => exact .vcsl a n k es f hn hw (hr.mono (Agree.refl _ _) fun x hx => hx.imp (fun h => h.elim) id) hc
  | _ => exact .any _
theorem shC_rep {ρc ρ' : Env} {m : Nat} {B : Nat → Prop} (hρ : ∀ b p, ρc.r b = some p → ρ'.r (m + b) = some p) {F' : Nat → Prop} {w' : World} {v : Value} {av : AV} (h : Rep ρc V0 F' w' v av) : Rep ρ' B F' w' v (shC m av) := by
  by_cases hr : ∃ b k lo n, av = .ref b k lo n
  · obtain ⟨b, k, lo, n, rfl⟩ := hr
    obtain ⟨ad, c, p, rfl, hp, h1, h2, h3, h4, h5⟩ := h.ref_inv
    exact .ref ad c (m + b) k lo n p (hρ b p hp) h1 h2 h3 h4 h5
  · have : shC m av = argR av := by cases av <;> first | rfl | exact absurd ⟨_, _, _, _, rfl⟩ hr
    rw [this]; exact argR_mono h
theorem shV_rep {ρc ρ' : Env} {m : Nat} {B : Nat → Prop} (hρ : ∀ b p, ρc.r b = some p → ρ'.r (m + b) = some p) {F' : Nat → Prop} {w' : World} {v : Value} {av : AV} (h : Rep ρc V0 F' w' v av) : Rep ρ' B F' w' v (shV m av) := by
  cases av with
  | agg l =>
    obtain ⟨cs, rfl, hl, hc⟩ := h.agg_inv
    refine .agg cs _ (by simp [hl]) fun i u x e1 e2 => ?_
    rw [List.getElem?_map] at e2
    cases hy : l[i]? with
    | none => rw [hy] at e2; cases e2
    | some y => rw [hy] at e2; cases e2; exact shC_rep hρ (hc i u y e1 hy)
  | _ => exact shC_rep hρ h
theorem shT_rep {ρc ρ' : Env} {m : Nat} {B : Nat → Prop} (hρ : ∀ b p, ρc.r b = some p → ρ'.r (m + b) = some p) {F' : Nat → Prop} {w' : World} {v : Value} {av : AV} (h : Rep ρc V0 F' w' v av) : Rep ρ' B F' w' v (shT m av) := by
  cases av with
  | tup l =>
    obtain ⟨cs, rfl, hl, hc⟩ := h.tup_inv
    refine .tup cs _ (by simp [hl]) fun i u x e1 e2 => ?_
    rw [List.getElem?_map] at e2
    cases hy : l[i]? with
    | none => rw [hy] at e2; cases e2
    | some y => rw [hy] at e2; cases e2; exact shV_rep hρ (hc i u y e1 hy)
  | _ => exact shV_rep hρ h

/-- A call: behind it the caller has the rows, too. -/
theorem call_sim (h : Sim w0 N ρ F σ a w) {f : Nat} {vs : Array Value} {args args' : List AV} {r : AV} {H : List ARow} (hc : ACall P f args' r H) (hl : vs.size = args.length) (hle : args.length = args'.length ∧ ∀ (i : Nat) (x y : AV), args[i]? = some x → args'[i]? = some y → ALe (argF σ.bx σ.rw x) y)
    (hr : ∀ (i : Nat) (u : Value) (av : AV), vs[i]? = some u → args[i]? = some av → Rep ρ w0.V F w u av) {bb br : Nat} (hbr : ∀ b, br ≤ b → b < br + H.length → ρ.r b = none) :
    Calls P f vs w fun e w' => ∃ v ρ' F', e = .returned v ∧ Grown w0.V ρ ρ' F F' bb 0 br H.length ∧ Sim w0 N ρ' F' (σ.ups (rowsUp br H)) a w' ∧ Rep ρ' w0.V F' w' v (shT br r) := by
  refine (hc.2 w F vs h.fl (by omega) fun i u av e1 e2 => ?_).mono ?_
  · have hi := (List.getElem?_eq_some_iff.1 e2).1
    have e3 : args[i]? = some (args[i]'(by omega)) := List.getElem?_eq_getElem (by omega)
    exact (hle.2 i _ _ e3 e2).rep (argF_rep h h.looks (hr i u _ e1 e3))
  · rintro e w' ⟨v, ρc, F', rfl, hbel, f1, f2, f3, hH, hρ, hinj, hbn, hrep⟩
    have h' := h.grow hbel
    refine ⟨v, ⟨ρ.b, fun x => if br ≤ x ∧ x < br + H.length then ρc.r (x - br) else ρ.r x⟩, F', rfl, ⟨⟨fun _ _ e => e, fun b p e => ?_⟩, fun x hx => .inl hx, fun x hx => ?_, f1, fun x hx => (f2 x hx).imp id fun e => h.bel.fresh e⟩, ?_, ?_⟩
    · dsimp only; rw [if_neg]; exact e
      intro hb; rw [hbr b hb.1 hb.2] at e; cases e
    · dsimp only at hx; split at hx
      · rename_i hb; exact .inr hb
      · exact .inl hx
    · have hle : ρ.le ⟨ρ.b, fun x => if br ≤ x ∧ x < br + H.length then ρc.r (x - br) else ρ.r x⟩ := ⟨fun _ _ e => e, fun b p e => by
        dsimp only; rw [if_neg]; exact e
        intro hb; rw [hbr b hb.1 hb.2] at e; cases e⟩
      have refl (S : Nat → Prop) := Agree.refl S w'
      obtain ⟨q1, q2, q3⟩ := rowsUp_rw H br σ
      have hnF : ∀ x, x < w.heap.size → ¬ F x → ¬ F' x := fun x hx hn hF => (f2 x hF).elim hn (fun e => by omega)
      refine ⟨h'.sz, h'.df, fun t => ?_, fun b c g e1 e2 => ?_, fun b r2 p e1 e2 => ?_, h'.ib, fun b b' p p' r2 r3 e1 e2 e3 e4 g1 g2 l1 l2 hq => ?_, fun b b' g p e1 e2 hlm => ?_, h'.lb, fun b p e hlm => ?_, f3, h'.bel⟩
      · rw [q1]; exact (h'.tm t).mono hle (refl _) (fun _ hx => .inl hx) f1
      · rw [q2] at e1
        exact (h'.bx b c g e1 e2).mono hle (refl _) rfl f1 (hnF g (h.lb b g e2) (h.bx b c g e1 e2).2.1)
      · rw [q3] at e1
        dsimp only at e2
        split at e1
        · rename_i hb
          rw [if_pos hb] at e2
          obtain ⟨k1, k3⟩ := hH _ _ e1
          obtain ⟨m1, m2, m3⟩ := k3 _ e2
          exact ⟨m1, m2, m3.imp id fun ⟨n1, n2, n3⟩ => ⟨n1, fun e => ⟨fun hv => (n2 e).1 (h.bel.size _ hv), (n2 e).2⟩, n3⟩⟩
        · rename_i hb
          rw [if_neg hb] at e2
          refine (h'.rw b r2 p e1 e2).mono (refl _) (fun _ => rfl) f1 (fun e hl => hnF _ (h.lr b p e2 hl) ?_)
          rcases (h.rw b r2 p e1 e2).2.2 with q | ⟨_, q, _⟩
          · omega
          · exact (q e).2
      · rw [q3] at e3 e4
        dsimp only at e1 e2
        by_cases hb : br ≤ b ∧ b < br + H.length <;> by_cases hb' : br ≤ b' ∧ b' < br + H.length
        · rw [if_pos hb] at e1; rw [if_pos hb'] at e2
          have := hinj _ _ _ _ e1 e2 l1 l2 hq; omega
        · rw [if_pos hb] at e1; rw [if_neg hb'] at e2
          have := (hρ _ _ e1).2 l1; have := h.lr _ _ e2 l2; omega
        · rw [if_neg hb] at e1; rw [if_pos hb'] at e2
          have := (hρ _ _ e2).2 l2; have := h.lr _ _ e1 l1; omega
        · rw [if_neg hb] at e1 e3; rw [if_neg hb'] at e2 e4
          exact h.ir _ _ _ _ _ _ e1 e2 e3 e4 g1 g2 l1 l2 hq
      · dsimp only at e1 e2
        split at e2
        · have := (hρ _ _ e2).2 hlm; have := h.lb _ _ e1; omega
        · exact h.ibr _ _ _ _ e1 e2 hlm
      · dsimp only at e
        split at e
        · exact ((hρ _ _ e).2 hlm).1
        · exact h'.lr _ _ e hlm
    · refine shT_rep (fun b p e => ?_) hrep
      have := (hρ b p e).1
      dsimp only; rw [if_pos (by omega), Nat.add_sub_cancel_left]; exact e
end
end Go.Proofs.Ytjacmhaeemhinaa
