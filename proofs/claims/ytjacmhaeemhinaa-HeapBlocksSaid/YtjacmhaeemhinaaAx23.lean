/- The walk over abstract states. -/
import Derived.Test.YtjacmhaeemhinaaAxM
import Derived.LoopN
namespace Go.Proofs.Ytjacmhaeemhinaa
open Go.RowKit
set_option linter.unusedVariables false

/-- A frame's state, in lists: what was put last stands first; nb, nr: the numbers of the next box, row. -/
structure AS where
  tm : List (Nat × AV)
  bx : List (Option (List AV))
  rw : List (Option ARow)
  nb : Nat
  nr : Nat
def getT : List (Nat × AV) → Nat → AV
  | [], _ => .any
  | (t, v) :: l, u => if t = u then v else getT l u
def getO {α : Type} (l : List (Option α)) (b : Nat) : Option α := l.getD b none
def setO {α : Type} : List (Option α) → Nat → Option α → List (Option α)
  | [], 0, x => [x]
  | [], n + 1, x => none :: setO [] n x
  | _ :: l, 0, x => x :: l
  | y :: l, n + 1, x => y :: setO l n x
theorem getO_setO {α : Type} : ∀ (l : List (Option α)) (b : Nat) (x : Option α) (c : Nat), getO (setO l b x) c = if c = b then x else getO l c
  | [], 0, x, c => by cases c <;> simp [setO, getO]
  | [], n + 1, x, c => by
    cases c with
    | zero => simp [setO, getO]
    | succ c => have := getO_setO ([] : List (Option α)) n x c; simpa [setO, getO] using this
  | y :: l, 0, x, c => by cases c <;> simp [setO, getO]
  | y :: l, n + 1, x, c => by
    cases c with
    | zero => simp [setO, getO]
    | succ c => have := getO_setO l n x c; simpa [setO, getO] using this
def AS.fs (σ : AS) : FS := ⟨getT σ.tm, getO σ.bx, getO σ.rw⟩
def AS.upd (σ : AS) : Upd → AS
  | .B b c => { σ with bx := setO σ.bx b (some c) }
  | .R b r => { σ with rw := setO σ.rw b r }
def AS.ups (σ : AS) : List Upd → AS
  | [] => σ
  | u :: l => (σ.upd u).ups l
def AS.put (σ : AS) : Option Nat → AV → AS
  | none, _ => σ
  | some t, v => { σ with tm := (t, v) :: σ.tm }
def AS.app (σ : AS) (d : Option Nat) (r : Res) : AS :=
  let τ := (σ.ups r.up).put d r.av
  { τ with nb := σ.nb + r.nb, nr := σ.nr + r.nr }
theorem upd_fs (σ : AS) (u : Upd) : (σ.upd u).fs = σ.fs.upd u := by
  cases u with
  | B b c => refine FS.ext' (fun _ => rfl) (fun x => ?_) (fun _ => rfl); simp only [AS.upd, AS.fs, FS.upd, FS.setB, getO_setO]
  | R b c => refine FS.ext' (fun _ => rfl) (fun _ => rfl) (fun x => ?_); simp only [AS.upd, AS.fs, FS.upd, FS.setR, getO_setO]
theorem ups_fs (l : List Upd) (σ : AS) : (σ.ups l).fs = σ.fs.ups l := by
  induction l generalizing σ with
  | nil => rfl
  | cons u l ih => show ((σ.upd u).ups l).fs = (σ.fs.upd u).ups l; rw [ih, upd_fs]
theorem put_fs (σ : AS) (d : Option Nat) (v : AV) : (σ.put d v).fs = σ.fs.put d v := by
  cases d with
  | none => rfl
  | some t => refine FS.ext' (fun x => ?_) (fun _ => rfl) (fun _ => rfl); simp only [AS.put, AS.fs, FS.put, getT, eq_comm]
theorem app_fs (σ : AS) (d : Option Nat) (r : Res) : (σ.app d r).fs = (σ.fs.ups r.up).put d r.av := by
  rw [← ups_fs, ← put_fs]; rfl

/-! ### A step, and what follows -/
def ALes (bx : Nat → Option (List AV)) (rw : Nat → Option ARow) : List AV → List AV → Prop
  | [], [] => True
  | x :: xs, y :: ys => ALe (argF bx rw x) y ∧ ALes bx rw xs ys
  | _, _ => False
theorem ales_get {bx : Nat → Option (List AV)} {rw : Nat → Option ARow} : ∀ {xs ys : List AV}, ALes bx rw xs ys → xs.length = ys.length ∧ ∀ (i : Nat) (x y : AV), xs[i]? = some x → ys[i]? = some y → ALe (argF bx rw x) y
  | [], [], _ => ⟨rfl, fun i x y e => by cases e⟩
  | [], _ :: _, h => h.elim
  | _ :: _, [], h => h.elim
  | x :: xs, y :: ys, h => by
    obtain ⟨h1, h2⟩ := h
    obtain ⟨g1, g2⟩ := ales_get h2
    refine ⟨by simp [g1], fun i a b e1 e2 => ?_⟩
    cases i with
    | zero => simp at e1 e2; subst e1 e2; exact h1
    | succ i => exact g2 i a b (by simpa using e1) (by simpa using e2)
def conds (look : Opd → AV) : List Opd → Prop
  | [] => True
  | x :: l => (look x).cond ∧ conds look l
theorem conds_all {look : Opd → AV} : ∀ {l : List Opd}, conds look l → ∀ x ∈ l, (look x).cond
  | [], _, x, hx => by cases hx
  | y :: l, h, x, hx => (List.mem_cons.1 hx).elim (fun e => e ▸ h.1) (fun hx => conds_all h.2 x hx)

def OpK (P : Program) (bo : Bool) (σ : FS) (bb br : Nat) (ai : AI) (K : Res → Prop) : Prop :=
  match ai with
  | .call f xs => conds (lookT σ.tm) xs ∧ ∃ args' v H, ALes σ.bx σ.rw (xs.map fun x => (lookT σ.tm x).val) args' ∧ ACall P f args' v H ∧ K ⟨True, shT br v, 0, H.length, rowsUp br H⟩
  | .callv x xs => match (lookT σ.tm x).val with
    | .fn f caps => (lookT σ.tm x).cond ∧ conds (lookT σ.tm) xs ∧ ∃ args' v H, ALes σ.bx σ.rw ((xs.map fun x => (lookT σ.tm x).val) ++ caps) args' ∧ ACall P f args' v H ∧ K ⟨True, shT br v, 0, H.length, rowsUp br H⟩
    | _ => False
  | ai => (aistep bo (lookT σ.tm) σ.bx σ.rw bb br ai).ok ∧ K (aistep bo (lookT σ.tm) σ.bx σ.rw bb br ai)
def OpG (P : Program) (bo : Bool) (σ : FS) (bb br : Nat) (G : Bool) (ai : AI) (K : Res → Prop) : Prop :=
  match ai with
  | .call f xs => ∃ args' v, (G = true → conds (lookT σ.tm) xs ∧ ALes σ.bx σ.rw (xs.map fun x => (lookT σ.tm x).val) args' ∧ ACall P f args' v []) ∧ K ⟨True, mkCnd G (shT br v), 0, 0, []⟩
  | .callv x xs => ∃ f caps args' v, (G = true → ((lookT σ.tm x).cond ∧ (lookT σ.tm x).val = .fn f caps) ∧ conds (lookT σ.tm) xs ∧ ALes σ.bx σ.rw ((xs.map fun x => (lookT σ.tm x).val) ++ caps) args' ∧ ACall P f args' v []) ∧ K ⟨True, mkCnd G (shT br v), 0, 0, []⟩
  | ai => (G = true → (aistep bo (lookT σ.tm) σ.bx σ.rw bb br ai).ok) ∧ ((aistep bo (lookT σ.tm) σ.bx σ.rw bb br ai).up = [] ∧ (aistep bo (lookT σ.tm) σ.bx σ.rw bb br ai).nb = 0 ∧ (aistep bo (lookT σ.tm) σ.bx σ.rw bb br ai).nr = 0) ∧ K ⟨True, mkCnd G (aistep bo (lookT σ.tm) σ.bx σ.rw bb br ai).av, 0, 0, []⟩
def StepK (P : Program) (bo : Bool) (σ : FS) (bb br : Nat) (o : AO) (K : Res → Prop) : Prop :=
  match o.g with
  | none => OpK P bo σ bb br o.ai K
  | some (t, want) => match gval (σ.tm t) want with
    | some G => OpG P bo σ bb br G o.ai K ∨ (G = false ∧ ∃ v, K ⟨True, mkCnd G v, 0, 0, []⟩)
    | none => False
theorem opK_R {P : Program} {bo : Bool} {σ : FS} {bb br : Nat} {ai : AI} {K : Res → Prop} (h : OpK P bo σ bb br ai K) : ∃ r, OpR P bo σ bb br ai r ∧ K r := by
  by_cases hc : isCall ai = true
  · cases ai <;> simp [isCall] at hc
    case call f xs =>
      obtain ⟨h1, args', v, H, h2, h3, h4⟩ := h
      exact ⟨_, ⟨conds_all h1, args', v, H, ales_get h2, h3, rfl⟩, h4⟩
    case callv x xs =>
      simp only [OpK] at h
      split at h
      · rename_i f caps hf
        obtain ⟨h0, h1, args', v, H, h2, h3, h4⟩ := h
        obtain ⟨g1, g2⟩ := ales_get h2
        exact ⟨_, ⟨h0, conds_all h1, f, caps, hf, args', v, H, g1, g2, h3, rfl⟩, h4⟩
      · exact h.elim
  · have h' : (aistep bo (lookT σ.tm) σ.bx σ.rw bb br ai).ok ∧ K (aistep bo (lookT σ.tm) σ.bx σ.rw bb br ai) := by
      cases ai <;> first | exact h | exact absurd rfl hc
    refine ⟨_, ?_, h'.2⟩
    cases ai <;> first | exact ⟨rfl, h'.1⟩ | exact absurd rfl hc
theorem stepK_R {P : Program} {bo : Bool} {σ : FS} {bb br : Nat} {o : AO} {K : Res → Prop} (h : StepK P bo σ bb br o K) : ∃ r, StepR P bo σ bb br o r ∧ K r := by
  unfold StepK at h
  split at h
  · rename_i hg
    obtain ⟨r, h1, h2⟩ := opK_R h
    exact ⟨r, by simp only [StepR, hg]; exact h1, h2⟩
  · rename_i t want hg
    simp only [StepR, hg]
    split at h
    · rename_i G hG
      rcases h with h | ⟨hGf, v, hv⟩
      case inr => exact ⟨_, ⟨G, hG, ⟨True, v, 0, 0, []⟩, (fun e => by rw [hGf] at e; cases e), rfl, rfl, rfl, rfl⟩, hv⟩
      by_cases hc : isCall o.ai = true
      · cases hai : o.ai <;> rw [hai] at h <;> simp [hai, isCall] at hc
        case call f xs =>
          obtain ⟨args', v, h1, h2⟩ := h
          refine ⟨_, ⟨G, hG, ⟨True, shT br v, 0, 0, []⟩, fun e => ?_, rfl, rfl, rfl, rfl⟩, h2⟩
          obtain ⟨g1, g2, g3⟩ := h1 e
          exact ⟨conds_all g1, args', v, [], ales_get g2, g3, rfl⟩
        case callv x xs =>
          obtain ⟨f, caps, args', v, h1, h2⟩ := h
          refine ⟨_, ⟨G, hG, ⟨True, shT br v, 0, 0, []⟩, fun e => ?_, rfl, rfl, rfl, rfl⟩, h2⟩
          obtain ⟨⟨g0, gf⟩, g1, g2, g3⟩ := h1 e
          obtain ⟨k1, k2⟩ := ales_get g2
          exact ⟨g0, conds_all g1, f, caps, gf, args', v, [], k1, k2, g3, rfl⟩
      · have h' : (G = true → (aistep bo (lookT σ.tm) σ.bx σ.rw bb br o.ai).ok) ∧ ((aistep bo (lookT σ.tm) σ.bx σ.rw bb br o.ai).up = [] ∧ (aistep bo (lookT σ.tm) σ.bx σ.rw bb br o.ai).nb = 0 ∧ (aistep bo (lookT σ.tm) σ.bx σ.rw bb br o.ai).nr = 0) ∧ K ⟨True, mkCnd G (aistep bo (lookT σ.tm) σ.bx σ.rw bb br o.ai).av, 0, 0, []⟩ := by
          cases hai : o.ai <;> rw [hai] at h hc <;> first | exact h | exact absurd rfl hc
        obtain ⟨h1, ⟨h2, h3, h4⟩, h5⟩ := h'
        refine ⟨_, ⟨G, hG, aistep bo (lookT σ.tm) σ.bx σ.rw bb br o.ai, fun e => ?_, h2, h3, h4, rfl⟩, h5⟩
        have h6 := h1 e
        cases hai : o.ai <;> rw [hai] at h6 hc <;> first | exact ⟨rfl, h6⟩ | exact absurd rfl hc
    · exact h.elim

def aops (P : Program) (bo : Bool) : List AO → AS → (AS → Prop) → Prop
  | [], σ, K => K σ
  | o :: l, σ, K => StepK P bo σ.fs σ.nb σ.nr o fun r => aops P bo l (σ.app o.dst r) K

def WF (σ : AS) : Prop := (∀ b c, σ.fs.bx b = some c → b < σ.nb) ∧ (∀ b c, σ.fs.rw b = some c → b < σ.nr)
theorem aops_trace {P : Program} {bo : Bool} : ∀ {l : List AO} {σ : AS} {K : AS → Prop}, aops P bo l σ K → WF σ → ∃ T r bb br τ, Trace P bo l T r bb br ∧ T 0 = σ.fs ∧ bb 0 = σ.nb ∧ br 0 = σ.nr ∧ T l.length = τ.fs ∧ bb l.length = τ.nb ∧ br l.length = τ.nr ∧ WF τ ∧ K τ
  | [], σ, K, h, hw => ⟨fun _ => σ.fs, fun _ => .fail, fun _ => σ.nb, fun _ => σ.nr, σ, ⟨(fun i o e => by cases e), hw.1, hw.2⟩, rfl, rfl, rfl, rfl, rfl, rfl, hw, h⟩
  | o :: l, σ, K, h, hw => by
    obtain ⟨r0, h1, h2⟩ := stepK_R h
    have hw' : WF (σ.app o.dst r0) := by
      have hup := stepR_up h1
      refine ⟨fun b c e => ?_, fun b c e => ?_⟩
      · rw [app_fs, (put_bx _ _ _).1] at e
        show b < σ.nb + r0.nb
        by_cases hb : b < σ.nb + r0.nb
        · exact hb
        · rw [ups_bx_ne (fun u hu b' c' he hq => ?_)] at e
          · have := hw.1 b c e; omega
          · subst he hq
            rcases hup _ hu with ⟨_, c2, h⟩ | h
            · have := hw.1 _ _ h; omega
            · omega
      · rw [app_fs, (put_bx _ _ _).2] at e
        show b < σ.nr + r0.nr
        by_cases hb : b < σ.nr + r0.nr
        · exact hb
        · rw [ups_rw_ne (fun u hu b' c' he hq => ?_)] at e
          · have := hw.2 b c e; omega
          · subst he hq
            rcases hup _ hu with ⟨_, c2, h⟩ | h
            · have := hw.2 _ _ h; omega
            · omega
    obtain ⟨T, r, bb, br, τ, tr, t0, b0, r00, tn, bn, rn, hwn, hK⟩ := aops_trace h2 hw'
    refine ⟨fun i => match i with | 0 => σ.fs | i + 1 => T i, fun i => match i with | 0 => r0 | i + 1 => r i, fun i => match i with | 0 => σ.nb | i + 1 => bb i, fun i => match i with | 0 => σ.nr | i + 1 => br i, τ, ⟨fun i o' e => ?_, hw.1, hw.2⟩, rfl, rfl, rfl, tn, bn, rn, hwn, hK⟩
    cases i with
    | zero =>
      simp at e; subst e
      exact ⟨h1, by dsimp only; rw [t0, app_fs], by dsimp only; rw [b0]; rfl, by dsimp only; rw [r00]; rfl⟩
    | succ i => exact tr.step i o' (by simpa using e)

/-! ### A region whose order is drawn -/
/-- A step that was taken. -/
structure HE where
  o : AO
  σ : FS
  r : Res
  bb : Nat
  br : Nat
def noRd (o : AO) (σ : FS) (bb br : Nat) : List Upd → Prop
  | [] => True
  | u :: l => (isNew bb br u = true ∨ ¬ Rd false o σ u) ∧ noRd o σ bb br l
def noMt (v : Upd) : List Upd → Prop
  | [] => True
  | u :: l => ¬ meet u v ∧ noMt v l
def noHit (o : AO) (σ : FS) (us : List Upd) (bb br : Nat) : List Upd → Prop
  | [] => True
  | v :: l => (isNew bb br v = true ∨ (¬ Rd false o σ v ∧ noMt v us)) ∧ noHit o σ us bb br l
def FreeE (h e : HE) : Prop := dapart h.o e.o = true ∧ noRd e.o e.σ h.bb h.br h.r.up ∧ noHit h.o h.σ h.r.up e.bb e.br e.r.up
theorem noRd_all {o : AO} {σ : FS} {bb br : Nat} : ∀ {l : List Upd}, noRd o σ bb br l → ∀ u ∈ l, isNew bb br u = true ∨ ¬ Rd false o σ u
  | [], _, u, hu => by cases hu
  | v :: l, h, u, hu => (List.mem_cons.1 hu).elim (fun e => e ▸ h.1) (fun hu => noRd_all h.2 u hu)
theorem noMt_all {v : Upd} : ∀ {l : List Upd}, noMt v l → ∀ u ∈ l, ¬ meet u v
  | [], _, u, hu => by cases hu
  | x :: l, h, u, hu => (List.mem_cons.1 hu).elim (fun e => e ▸ h.1) (fun hu => noMt_all h.2 u hu)
theorem noHit_all {o : AO} {σ : FS} {us : List Upd} {bb br : Nat} : ∀ {l : List Upd}, noHit o σ us bb br l → ∀ v ∈ l, isNew bb br v = true ∨ (¬ Rd false o σ v ∧ ∀ u ∈ us, ¬ meet u v)
  | [], _, u, hu => by cases hu
  | x :: l, h, u, hu => (List.mem_cons.1 hu).elim (fun e => e ▸ h.1.imp id fun q => ⟨q.1, noMt_all q.2⟩) (fun hu => noHit_all h.2 u hu)
def frees (hs : List HE) (e : HE) : List Nat → Prop
  | [] => True
  | i :: l => (match hs[i]? with | some h => FreeE h e | none => True) ∧ frees hs e l
theorem frees_all {hs : List HE} {e : HE} : ∀ {l : List Nat}, frees hs e l → ∀ i ∈ l, ∀ h, hs[i]? = some h → FreeE h e
  | [], _, i, hi => by cases hi
  | x :: l, h, i, hi => fun g hg => (List.mem_cons.1 hi).elim (fun e => by subst e; have := h.1; rw [hg] at this; exact this) (fun hi => frees_all h.2 i hi g hg)
def dops (P : Program) : List AO → List (List Nat) → AS → List HE → (AS → Prop) → Prop
  | [], _, σ, _, K => K σ
  | o :: l, need, σ, hs, K => StepK P false σ.fs σ.nb σ.nr o fun r => frees hs ⟨o, σ.fs, r, σ.nb, σ.nr⟩ (need.headD []) ∧ dops P l need.tail (σ.app o.dst r) (hs ++ [⟨o, σ.fs, r, σ.nb, σ.nr⟩]) K
def ents : List AO → (Nat → FS) → (Nat → Res) → (Nat → Nat) → (Nat → Nat) → List HE
  | [], _, _, _, _ => []
  | o :: l, T, r, bb, br => ⟨o, T 0, r 0, bb 0, br 0⟩ :: ents l (fun i => T (i + 1)) (fun i => r (i + 1)) (fun i => bb (i + 1)) (fun i => br (i + 1))
theorem ents_get : ∀ {l : List AO} {T : Nat → FS} {r : Nat → Res} {bb br : Nat → Nat} {i : Nat} {x : AO}, l[i]? = some x → (ents l T r bb br)[i]? = some ⟨x, T i, r i, bb i, br i⟩
  | [], _, _, _, _, i, x, h => by cases h
  | o :: l, T, r, bb, br, 0, x, h => by simp at h; subst h; rfl
  | o :: l, T, r, bb, br, i + 1, x, h => by
    simp only [ents, List.getElem?_cons_succ] at h ⊢
    exact ents_get h
theorem wf_up {σ : AS} {d : Option Nat} {r0 : Res} {e1 e2 : Bool} (hup : ∀ u ∈ r0.up, UpIn σ.fs.bx σ.fs.rw σ.nb r0.nb σ.nr r0.nr e1 e2 u) (hw : WF σ) : WF (σ.app d r0) := by
  refine ⟨fun b c e => ?_, fun b c e => ?_⟩
  · rw [app_fs, (put_bx _ _ _).1] at e
    show b < σ.nb + r0.nb
    by_cases hb : b < σ.nb + r0.nb
    · exact hb
    · rw [ups_bx_ne (fun u hu b' c' he hq => ?_)] at e
      · have := hw.1 b c e; omega
      · subst he hq
        rcases hup _ hu with ⟨_, c2, h⟩ | h
        · have := hw.1 _ _ h; omega
        · omega
  · rw [app_fs, (put_bx _ _ _).2] at e
    show b < σ.nr + r0.nr
    by_cases hb : b < σ.nr + r0.nr
    · exact hb
    · rw [ups_rw_ne (fun u hu b' c' he hq => ?_)] at e
      · have := hw.2 b c e; omega
      · subst he hq
        rcases hup _ hu with ⟨_, c2, h⟩ | h
        · have := hw.2 _ _ h; omega
        · omega
theorem wf_app {P : Program} {bo : Bool} {σ : AS} {o : AO} {r0 : Res} (h1 : StepR P bo σ.fs σ.nb σ.nr o r0) (hw : WF σ) : WF (σ.app o.dst r0) := wf_up (stepR_up h1) hw
theorem dops_trace {P : Program} : ∀ {l : List AO} {need : List (List Nat)} {σ : AS} {hs : List HE} {K : AS → Prop}, dops P l need σ hs K → WF σ → ∃ T r bb br τ, Trace P false l T r bb br ∧ T 0 = σ.fs ∧ bb 0 = σ.nb ∧ br 0 = σ.nr ∧ T l.length = τ.fs ∧ bb l.length = τ.nb ∧ br l.length = τ.nr ∧ WF τ ∧ K τ ∧
    ∀ k y, l[k]? = some y → ∀ i ∈ need.getD k [], ∀ h, (hs ++ (ents l T r bb br).take k)[i]? = some h → FreeE h ⟨y, T k, r k, bb k, br k⟩
  | [], _, σ, hs, K, h, hw => ⟨fun _ => σ.fs, fun _ => .fail, fun _ => σ.nb, fun _ => σ.nr, σ, ⟨(fun i o e => by cases e), hw.1, hw.2⟩, rfl, rfl, rfl, rfl, rfl, rfl, hw, h, fun k y e => by cases e⟩
  | o :: l, need, σ, hs, K, h, hw => by
    obtain ⟨r0, h1, hfr, h2⟩ := stepK_R h
    obtain ⟨T, r, bb, br, τ, tr, t0, b0, r00, tn, bn, rn, hwn, hK, hall⟩ := dops_trace h2 (wf_app h1 hw)
    refine ⟨fun i => match i with | 0 => σ.fs | i + 1 => T i, fun i => match i with | 0 => r0 | i + 1 => r i, fun i => match i with | 0 => σ.nb | i + 1 => bb i, fun i => match i with | 0 => σ.nr | i + 1 => br i, τ, ⟨fun i o' e => ?_, hw.1, hw.2⟩, rfl, rfl, rfl, tn, bn, rn, hwn, hK, fun k y e i hi g hg => ?_⟩
    · cases i with
      | zero =>
        simp at e; subst e
        exact ⟨h1, by dsimp only; rw [t0, app_fs], by dsimp only; rw [b0]; rfl, by dsimp only; rw [r00]; rfl⟩
      | succ i => exact tr.step i o' (by simpa using e)
    · cases k with
      | zero =>
        simp at e; subst e
        rw [List.take_zero, List.append_nil] at hg
        have hn : need.headD [] = need.getD 0 [] := by cases need <;> rfl
        exact frees_all hfr i (by rw [hn]; exact hi) g hg
      | succ k =>
        refine hall k y (by simpa using e) i ?_ g ?_
        · cases need with
          | nil => simp at hi
          | cons a need => simpa using hi
        · rw [List.append_assoc]
          exact hg

/-! ### A region in the order of the text, in which own memory may be handed over -/
def StepS (P : Program) (σ : FS) (bb br : Nat) (o : AO) (K : Res → Prop) : Prop := StepK P false σ bb br o K ∨ (∃ r, (StepM P σ br o r ∨ StepE P σ o r ∨ StepX P σ bb br o r) ∧ K r) ∨ StepN P σ bb br o K
def aopsM (P : Program) : List AO → AS → (AS → Prop) → Prop
  | [], σ, K => K σ
  | o :: l, σ, K => StepS P σ.fs σ.nb σ.nr o fun r => aopsM P l (σ.app o.dst r) K
theorem aopsM_aops {P : Program} : ∀ {l : List AO} {σ : AS} {K : AS → Prop}, l.all (fun o => !isCall o.ai) = true → aopsM P l σ K → aops P false l σ K
  | [], σ, K, _, h => h
  | o :: l, σ, K, hl, h => by
    simp only [List.all_cons, Bool.and_eq_true, Bool.not_eq_true'] at hl
    have mono : ∀ {bo : Bool} {τ : FS} {bb br : Nat} {K K' : Res → Prop}, (∀ r, K r → K' r) → StepK P bo τ bb br o K → StepK P bo τ bb br o K' := fun {bo τ bb br K K'} hk h => by
      unfold StepK at h ⊢
      split
      · rename_i hg
        rw [hg] at h
        dsimp only at h
        have hc := hl.1
        cases hai : o.ai <;> rw [hai] at h hc <;> first | exact ⟨h.1, hk _ h.2⟩ | (simp [isCall] at hc)
      · rename_i t want hg
        rw [hg] at h
        dsimp only at h
        split
        · rename_i G hG
          rw [hG] at h
          dsimp only at h
          rcases h with h | ⟨h1, v, h2⟩
          · refine .inl ?_
            have hc := hl.1
            cases hai : o.ai <;> rw [hai] at h hc <;> first | exact ⟨h.1, h.2.1, hk _ h.2.2⟩ | (simp [isCall] at hc)
          · exact .inr ⟨h1, v, hk _ h2⟩
        · rename_i hG
          rw [hG] at h; exact h
    rcases h with h | ⟨r, ⟨_, _, f, xs, hx, _⟩ | ⟨_, f, x, z, vol, k, es, b, lo, n, row, hai, _⟩ | ⟨r0, ⟨f, xs, hai, _⟩ | ⟨tt, kk, xs, hai, _⟩, _⟩, _⟩ | ⟨_, _, _, _, _, hai, _⟩
    rotate_right
    · have hc := hl.1
      rw [hai] at hc
      simp [isCall] at hc
    · exact mono (fun r hr => aopsM_aops (by simpa using hl.2) hr) h
    · have hc := hl.1
      cases hai : o.ai <;> rw [hai] at hx hc <;> first | (cases hx; done) | (simp [isCall] at hc)
    · have hc := hl.1
      rw [hai] at hc
      simp [isCall] at hc
    · have hc := hl.1
      rw [hai] at hc
      simp [isCall] at hc
    · have hc := hl.1
      rw [hai] at hc
      simp [isCall] at hc

/-! ### Code -/
inductive ACode where
  | skip
  | reg (l : List AO)
  | drw (l : List AO) (need : List (List Nat))
  | seq (a b : ACode)
  | cond (c : Opd) (a b : ACode)
  | block (id : Nat) (b : ACode)
  | loop (b : ACode)
  | exit (id : Nat)
  | ret
  | rf (g : Opd) (ps : List Nat) (a b : ACode)
def compC (P : Program) (N : Nat) : Code → Option ACode
  | .skip => some .skip
  | .region _ ops false => (compR P N ops).map .reg
  | .region _ ops true => (compR P N ops).bind fun l => if P.follows .mixedOrders = true ∧ drawOk ops = true then
      (if (pairs false l (befs ops)).all List.isEmpty = true ∧ l.all (fun o => !isCall o.ai) = true then some (.reg l) else some (.drw l (pairs false l (befs ops)))) else none
  | .seq a b => (compC P N a).bind fun a => (compC P N b).map fun b => .seq a b
  | .cond c a b => (cO c).bind fun c => (compC P N a).bind fun a => (compC P N b).map fun b => .cond c a b
  | .block id b => (compC P N b).map (.block id)
  | .loop b => (compC P N b).map .loop
  | .exit id => some (.exit id)
  | .ret => some .ret
  | .rangeFunc g ps a b => (cO g).bind fun g => (compC P N a).bind fun a => (compC P N b).map fun b => .rf g ps.toList a b
  | _ => none

/-- The same, told. -/
inductive CompC (P : Program) (N : Nat) : Code → ACode → Prop
  | skip : CompC P N .skip .skip
  | reg0 (id : Nat) (ops : Array Oper) (l : List AO) (h : compR P N ops = some l) : CompC P N (.region id ops false) (.reg l)
  | reg1 (id : Nat) (ops : Array Oper) (l : List AO) (h : compR P N ops = some l) (hm : P.follows .mixedOrders = true) (hd : drawOk ops = true) (hn : (pairs false l (befs ops)).all List.isEmpty = true) (hcl : l.all (fun o => !isCall o.ai) = true) : CompC P N (.region id ops true) (.reg l)
  | drw (id : Nat) (ops : Array Oper) (l : List AO) (h : compR P N ops = some l) (hm : P.follows .mixedOrders = true) (hd : drawOk ops = true) : CompC P N (.region id ops true) (.drw l (pairs false l (befs ops)))
  | seq (a b : Code) (a' b' : ACode) (ha : CompC P N a a') (hb : CompC P N b b') : CompC P N (.seq a b) (.seq a' b')
  | cond (c : Operand) (c' : Opd) (a b : Code) (a' b' : ACode) (hc : cO c = some c') (ha : CompC P N a a') (hb : CompC P N b b') : CompC P N (.cond c a b) (.cond c' a' b')
  | block (id : Nat) (b : Code) (b' : ACode) (hb : CompC P N b b') : CompC P N (.block id b) (.block id b')
  | loop (b : Code) (b' : ACode) (hb : CompC P N b b') : CompC P N (.loop b) (.loop b')
  | exit (id : Nat) : CompC P N (.exit id) (.exit id)
  | ret : CompC P N .ret .ret
  | rf (g : Operand) (g' : Opd) (ps : Array Tmp) (l : List Nat) (a b : Code) (a' b' : ACode) (hg : cO g = some g') (hl : ps = l.toArray) (ha : CompC P N a a') (hb : CompC P N b b') : CompC P N (.rangeFunc g ps a b) (.rf g' l a' b')
theorem compC_told {P : Program} {N : Nat} : ∀ (c : Code) (ac : ACode), compC P N c = some ac → CompC P N c ac := by
  intro c
  induction c with
  | skip => intro ac h; cases h; exact .skip
  | region id ops d =>
    intro ac h
    cases d
    · obtain ⟨l, h1, rfl⟩ := Option.map_eq_some_iff.1 h; exact .reg0 id ops l h1
    · obtain ⟨l, h1, h2⟩ := Option.bind_eq_some_iff.1 h
      split at h2
      · rename_i hd
        split at h2
        · rename_i hn; cases h2; exact .reg1 id ops l h1 hd.1 hd.2 hn.1 hn.2
        · cases h2; exact .drw id ops l h1 hd.1 hd.2
      · cases h2
  | seq a b iha ihb =>
    intro ac h
    obtain ⟨a', h1, h⟩ := Option.bind_eq_some_iff.1 h
    obtain ⟨b', h2, rfl⟩ := Option.map_eq_some_iff.1 h
    exact .seq a b a' b' (iha _ h1) (ihb _ h2)
  | cond c a b iha ihb =>
    intro ac h
    obtain ⟨c', h0, h⟩ := Option.bind_eq_some_iff.1 h
    obtain ⟨a', h1, h⟩ := Option.bind_eq_some_iff.1 h
    obtain ⟨b', h2, rfl⟩ := Option.map_eq_some_iff.1 h
    exact .cond c c' a b a' b' h0 (iha _ h1) (ihb _ h2)
  | block id b ih => intro ac h; obtain ⟨b', h1, rfl⟩ := Option.map_eq_some_iff.1 h; exact .block id b b' (ih _ h1)
  | loop b ih => intro ac h; obtain ⟨b', h1, rfl⟩ := Option.map_eq_some_iff.1 h; exact .loop b b' (ih _ h1)
  | exit id => intro ac h; cases h; exact .exit id
  | ret => intro ac h; cases h; exact .ret
  | rangeFunc g ps a b iha ihb =>
    intro ac h
    obtain ⟨g', h0, h⟩ := Option.bind_eq_some_iff.1 h
    obtain ⟨a', h1, h⟩ := Option.bind_eq_some_iff.1 h
    obtain ⟨b', h2, rfl⟩ := Option.map_eq_some_iff.1 h
    exact .rf g g' ps _ a b a' b' h0 (by simp) (iha _ h1) (ihb _ h2)
  | _ => intro ac h; cases h

inductive AX where
  | n
  | x (id : Nat)
  | r
def AX.exit : AX → Exit
  | .n => .normal
  | .x id => .exit id
  | .r => .ret

structure LSim (w0 : Base) (N : Nat) (ρ : Env) (F : Nat → Prop) (σ : AS) (a : Act) (w : World) : Prop where
  s : Sim w0 N ρ F σ.fs a w
  b : ∀ b, σ.nb ≤ b → ρ.b b = none
  r : ∀ b, σ.nr ≤ b → ρ.r b = none
  wf : WF σ
def APost (w0 : Base) (N : Nat) (F : Nat → Prop) (Q : AX → AS → Prop) : Exit → Act → World → Prop := fun e a' w' =>
  ∃ x σ' ρ' F', AX.exit x = e ∧ Q x σ' ∧ LSim w0 N ρ' F' σ' a' w' ∧ (∀ x, F x → F' x) ∧ (∀ x, F' x → F x ∨ ¬ w0.V x)
def AWP (P : Program) (N : Nat) (ac : ACode) (σ : AS) (Q : AX → AS → Prop) : Prop :=
  ∀ c, CompC P N c ac → ∀ R w0 ρ F a w, LSim w0 N ρ F σ a w → c.wpIn (Fe R) 0 P (APost w0 N F Q) a w
/-- τ says less than σ. -/
def Wk (σ τ : AS) : Prop := ∀ w0 N ρ F a w, LSim w0 N ρ F σ a w → ∃ ρ' F', LSim w0 N ρ' F' τ a w ∧ (∀ x, F x → F' x) ∧ (∀ x, F' x → F x ∨ ¬ w0.V x)
theorem Wk.refl (σ : AS) : Wk σ σ := fun w0 N ρ F a w h => ⟨ρ, F, h, fun _ hx => hx, fun _ hx => .inl hx⟩
theorem Wk.trans {σ τ υ : AS} (h : Wk σ τ) (k : Wk τ υ) : Wk σ υ := fun w0 N ρ F a w hs =>
  let ⟨ρ1, F1, h1, h2, h3⟩ := h w0 N ρ F a w hs
  let ⟨ρ2, F2, k1, k2, k3⟩ := k w0 N ρ1 F1 a w h1
  ⟨ρ2, F2, k1, fun x hx => k2 x (h2 x hx), fun x hx => (k3 x hx).elim (h3 x) .inr⟩

theorem apost_from {w0 : Base} {N : Nat} {F F' : Nat → Prop} {Q : AX → AS → Prop} (h1 : ∀ x, F x → F' x) (h2 : ∀ x, F' x → F x ∨ ¬ w0.V x) {e : Exit} {a : Act} {w : World} (h : APost w0 N F' Q e a w) : APost w0 N F Q e a w := by
  obtain ⟨x, σ', ρ', F2, g1, g2, g3, g4, g5⟩ := h
  exact ⟨x, σ', ρ', F2, g1, g2, g3, fun x hx => g4 x (h1 x hx), fun x hx => (g5 x hx).elim (h2 x) .inr⟩

section
variable {P : Program} {N : Nat} {σ : AS} {Q : AX → AS → Prop}
theorem AWP.wk {ac : ACode} {τ : AS} (hw : Wk σ τ) (h : AWP P N ac τ Q) : AWP P N ac σ Q := fun c hc R w0 ρ F a w hs => by
  obtain ⟨ρ', F', h1, h2, h3⟩ := hw w0 N ρ F a w hs
  exact wpIn_mono (h c hc R w0 ρ' F' a w h1) fun e a' w' hq => apost_from h2 h3 hq
theorem AWP.mono {ac : ACode} {Q' : AX → AS → Prop} (h : AWP P N ac σ Q) (hq : ∀ x τ, Q x τ → Q' x τ) : AWP P N ac σ Q' := fun c hc R w0 ρ F a w hs =>
  wpIn_mono (h c hc R w0 ρ F a w hs) fun e a' w' ⟨x, σ', ρ', F', g1, g2, g3⟩ => ⟨x, σ', ρ', F', g1, hq x σ' g2, g3⟩
theorem AWP.skip (h : Q .n σ) : AWP P N .skip σ Q := fun c hc R w0 ρ F a w hs => by
  cases hc
  exact wpIn_skip ⟨.n, σ, ρ, F, rfl, h, hs, fun _ hx => hx, fun _ hx => .inl hx⟩
theorem AWP.exit {id : Nat} (h : Q (.x id) σ) : AWP P N (.exit id) σ Q := fun c hc R w0 ρ F a w hs => by
  cases hc
  exact wpIn_exit ⟨.x id, σ, ρ, F, rfl, h, hs, fun _ hx => hx, fun _ hx => .inl hx⟩
theorem AWP.ret (h : Q .r σ) : AWP P N .ret σ Q := fun c hc R w0 ρ F a w hs => by
  cases hc
  exact wpIn_ret ⟨.r, σ, ρ, F, rfl, h, hs, fun _ hx => hx, fun _ hx => .inl hx⟩
theorem plainM_sound {w0 : Base} {F : Nat → Prop} {id : Nat} {ops : Array Oper} {l : List AO} (hl : compR P N ops = some l) (h : aopsM P l σ (Q .n)) {ρ : Env} {a : Act} {w : World} {R : Option Nat} (hs : LSim w0 N ρ F σ a w) : (Code.region id ops false).wpIn (Fe R) 0 P (APost w0 N F Q) a w := by
  refine wpIn_region ?_
  obtain ⟨hlen, hcomp⟩ := compR_get hl
  have key : ∀ (m i : Nat) (a : Act) (w : World) (ρ1 : Env) (F1 : Nat → Prop) (τ : AS), i + m = l.length → (∀ x, F x → F1 x) → (∀ x, F1 x → F x ∨ ¬ w0.V x) → LSim w0 N ρ1 F1 τ a w → aopsM P (l.drop i) τ (Q .n) → wpOpsIn (Fe R) 0 P ops (APost w0 N F Q) (List.range' i m) a w := fun m => by
    induction m with
    | zero =>
      intro i a w ρ1 F1 τ hi f1 f2 hs hq
      rw [List.drop_eq_nil_of_le (by omega)] at hq
      exact ⟨.n, τ, ρ1, F1, rfl, hq, hs, f1, f2⟩
    | succ m ih =>
      intro i a w ρ1 F1 τ hi f1 f2 hs hq
      have hil : i < l.length := by omega
      have hx := List.getElem?_eq_getElem hil
      have ho : ops[i]? = some (ops[i]'(by omega)) := Array.getElem?_eq_getElem (by omega)
      rw [List.drop_eq_getElem_cons hil] at hq
      rw [List.range'_succ, wpOpsIn_cons]
      have go : ∀ r, (∀ u ∈ r.up, UpIn τ.fs.bx τ.fs.rw τ.nb r.nb τ.nr r.nr true true u) → aopsM P (l.drop (i + 1)) (τ.app l[i].dst r) (Q .n) → ∀ a' w' ρ' F', Grown w0.V ρ1 ρ' F1 F' τ.nb r.nb τ.nr r.nr → Sim w0 N ρ' F' ((τ.fs.ups r.up).put l[i].dst r.av) a' w' → wpOpsIn (Fe R) 0 P ops (APost w0 N F Q) (List.range' (i + 1) m) a' w' := fun r hup hk a' w' ρ' F' hg hs' => by
        refine ih (i + 1) a' w' ρ' F' (τ.app l[i].dst r) (by omega) (fun x hx => hg.sub x (f1 x hx)) (fun x hx => (hg.new x hx).elim (f2 x) .inr) ⟨by rw [app_fs]; exact hs', fun b h1 => ?_, fun b h1 => ?_, wf_up hup hs.wf⟩ hk
        · have h1 : τ.nb + r.nb ≤ b := h1
          cases hq : ρ'.b b with
          | none => rfl
          | some g =>
            rcases hg.b b (by rw [hq]; simp) with h | h
            · exact absurd (hs.b b (by omega)) h
            · omega
        · have h1 : τ.nr + r.nr ≤ b := h1
          cases hq : ρ'.r b with
          | none => rfl
          | some g =>
            rcases hg.r b (by rw [hq]; simp) with h | h
            · exact absurd (hs.r b (by omega)) h
            · omega
      rcases hq with hq | ⟨r, hr, hk⟩ | hq
      rotate_right
      · exact stepN_sound hs.s ho (hcomp i _ _ ho hx) hq hs.b hs.r fun r hr => go r hr.1 hr.2
      · obtain ⟨r, s1, hk⟩ := stepK_R hq
        refine stepR_sound false hs.s ho (hcomp i _ _ ho hx) s1 (fun b h1 _ => hs.b b h1) (fun b h1 _ => hs.r b h1) (go r (fun u hu => ?_) hk)
        have := stepR_up s1 u hu
        cases u with
        | B b c =>
          rcases this with q | q
          · exact .inl ⟨rfl, q.2⟩
          · exact .inr q
        | R b c =>
          rcases this with q | q
          · exact .inl ⟨rfl, q.2⟩
          · exact .inr q
      · rcases hr with hr | hr | hr
        · exact stepM_sound hs.s ho (hcomp i _ _ ho hx) hr (fun b h1 _ => hs.r b h1) (go r (stepM_up τ.nb hr) hk)
        · have hup : r.up = [] := by obtain ⟨_, f, x, z, vol, k, es, b, lo, n, row, _, _, _, _, _, _, _, _, _, rfl⟩ := hr; rfl
          exact stepE_sound hs.s ho (hcomp i _ _ ho hx) hr (go r (fun u hu => by rw [hup] at hu; cases hu) hk)
        · exact stepX_sound hs.s ho (hcomp i _ _ ho hx) hr hs.b hs.r (go r (stepX_up hr) hk)
  have := key l.length 0 a w ρ F σ (by omega) (fun _ hx => hx) (fun _ hx => .inl hx) hs h
  rw [hlen] at this
  rw [List.range_eq_range']; exact this
theorem AWP.reg {l : List AO} (h : aopsM P l σ (Q .n)) : AWP P N (.reg l) σ Q := fun c hc R w0 ρ F a w hs => by
  cases hc with
  | reg0 id ops _ hl => exact plainM_sound hl h hs
  | reg1 id ops _ hl hm hd hn hcl =>
    obtain ⟨T, r, bb, br, τ, tr, t0, b0, r0, tn, bn, rn, hwf, hK⟩ := aops_trace (aopsM_aops hcl h) hs.wf
    have hQ : ∀ ρ' F' a' w', (∀ x, F x → F' x) → (∀ x, F' x → F x ∨ ¬ w0.V x) → Sim w0 N ρ' F' (T l.length) a' w' → (∀ b, bb l.length ≤ b → ρ'.b b = none) → (∀ b, br l.length ≤ b → ρ'.r b = none) → APost w0 N F Q .normal a' w' := fun ρ' F' a' w' f1 f2 hs' hb hr =>
      ⟨.n, τ, ρ', F', rfl, hK, ⟨by rw [← tn]; exact hs', fun b h => hb b (by rw [bn]; exact h), fun b h => hr b (by rw [rn]; exact h), hwf⟩, f1, f2⟩
    have h0 : Sim w0 N ρ F (T 0) a w := by rw [t0]; exact hs.s
    exact draw_sound hm hl hd tr (fun i j x y _ _ _ hi => by
      rw [List.all_eq_true] at hn
      by_cases hj : j < (pairs false l (befs ops)).length
      · rw [List.getD_eq_getElem?_getD, List.getElem?_eq_getElem hj, Option.getD_some] at hi
        have := hn _ (List.getElem_mem hj)
        rw [List.isEmpty_iff.1 this] at hi; cases hi
      · rw [List.getD_eq_getElem?_getD, List.getElem?_eq_none (by omega)] at hi; cases hi) h0 (fun b h => hs.b b (by rw [← b0]; exact h)) (fun b h => hs.r b (by rw [← r0]; exact h)) hQ
theorem AWP.drw {l : List AO} {need : List (List Nat)} (h : dops P l need σ [] (Q .n)) : AWP P N (.drw l need) σ Q := fun c hc R w0 ρ F a w hs => by
  obtain ⟨T, r, bb, br, τ, tr, t0, b0, r0, tn, bn, rn, hwf, hK, hfree⟩ := dops_trace h hs.wf
  have hQ : ∀ ρ' F' a' w', (∀ x, F x → F' x) → (∀ x, F' x → F x ∨ ¬ w0.V x) → Sim w0 N ρ' F' (T l.length) a' w' → (∀ b, bb l.length ≤ b → ρ'.b b = none) → (∀ b, br l.length ≤ b → ρ'.r b = none) → APost w0 N F Q .normal a' w' := fun ρ' F' a' w' f1 f2 hs' hb hr =>
    ⟨.n, τ, ρ', F', rfl, hK, ⟨by rw [← tn]; exact hs', fun b h => hb b (by rw [bn]; exact h), fun b h => hr b (by rw [rn]; exact h), hwf⟩, f1, f2⟩
  have h0 : Sim w0 N ρ F (T 0) a w := by rw [t0]; exact hs.s
  cases hc with
  | drw id ops _ hl hm hd => exact draw_sound hm hl hd tr (fun i j x y hij hx hy hi => by
      obtain ⟨q1, q2, q3⟩ := hfree j y hy i hi ⟨x, T i, r i, bb i, br i⟩ (by
        rw [List.nil_append, List.getElem?_take, if_pos hij]; exact ents_get hx)
      exact ⟨q1, noRd_all q2, noHit_all q3⟩) h0 (fun b h => hs.b b (by rw [← b0]; exact h)) (fun b h => hs.r b (by rw [← r0]; exact h)) hQ
theorem AWP.seq {x y : ACode} (h : AWP P N x σ (fun e τ => match e with | .n => AWP P N y τ Q | e => Q e τ)) : AWP P N (.seq x y) σ Q := fun c hc R w0 ρ F a w hs => by
  cases hc with
  | seq c1 c2 _ _ h1 h2 =>
    refine wpIn_seq (wpIn_mono (h c1 h1 R w0 ρ F a w hs) fun e a' w' hq => ?_)
    obtain ⟨e', τ, ρ', F', rfl, g2, g3, g4, g5⟩ := hq
    cases e' with
    | n => exact wpIn_mono (g2 c2 h2 R w0 ρ' F' a' w' g3) fun e a' w' hq => apost_from g4 g5 hq
    | x id => exact ⟨.x id, τ, ρ', F', rfl, g2, g3, g4, g5⟩
    | r => exact ⟨.r, τ, ρ', F', rfl, g2, g3, g4, g5⟩
theorem AWP.cond {c : Opd} {x y : ACode} {t : Bool} (hv : (lookT σ.fs.tm c).val = .bool t) (hc0 : (lookT σ.fs.tm c).cond) (ht : t = true → AWP P N x σ Q) (hf : t = false → AWP P N y σ Q) : AWP P N (.cond c x y) σ Q := fun c hc R w0 ρ F a w hs => by
  cases hc with
  | cond c1 _ a1 b1 _ _ h0 h1 h2 =>
    have r := (cO_rep hs.s h0).val hc0
    rw [hv] at r
    exact wpIn_cond_split r.bool_inv (fun e => ht e a1 h1 R w0 ρ F a w hs) (fun e => hf e b1 h2 R w0 ρ F a w hs)
theorem AWP.block {id : Nat} {x : ACode} (h : AWP P N x σ (fun e τ => match e with | .x j => if j = id then Q .n τ else Q (.x j) τ | e => Q e τ)) : AWP P N (.block id x) σ Q := fun c hc R w0 ρ F a w hs => by
  cases hc with
  | block _ c1 _ h1 =>
    refine wpIn_block (wpIn_mono (h c1 h1 R w0 ρ F a w hs) fun e a' w' hq => ?_)
    obtain ⟨e', τ, ρ', F', rfl, g2, g3, g4, g5⟩ := hq
    cases e' with
    | n => exact ⟨.n, τ, ρ', F', rfl, g2, g3, g4, g5⟩
    | r => exact ⟨.r, τ, ρ', F', rfl, g2, g3, g4, g5⟩
    | x j =>
      show (if j = id then _ else _)
      dsimp only at g2
      split at g2
      · rename_i hj; rw [if_pos hj]; exact ⟨.n, τ, ρ', F', rfl, g2, g3, g4, g5⟩
      · rename_i hj; rw [if_neg hj]; exact ⟨.x j, τ, ρ', F', rfl, g2, g3, g4, g5⟩
theorem AWP.loop {x : ACode} {ι : Type} (St : ι → AS) (μ : ι → Nat) (i0 : ι) (h0 : Wk σ (St i0)) (h : ∀ i, AWP P N x (St i) (fun e τ => match e with | .n => ∃ j, Wk τ (St j) ∧ μ j < μ i | e => Q e τ)) : AWP P N (.loop x) σ Q := fun c hc R w0 ρ F a w hs => by
  cases hc with
  | loop c1 _ h1 =>
    have key : ∀ n i F' ρ' a w, μ i < n → LSim w0 N ρ' F' (St i) a w → (∀ x, F x → F' x) → (∀ x, F' x → F x ∨ ¬ w0.V x) → Code.roundsIn (Fe R) 0 P c1 (APost w0 N F Q) n a w := fun n => by
      induction n with
      | zero => intro i F' ρ' a w hi; omega
      | succ n ih =>
        intro i F' ρ' a w hi hs' f1 f2
        rw [roundsIn_succ]
        refine wpIn_mono (h i c1 h1 R w0 ρ' F' a w hs') fun e a' w' hq => ?_
        obtain ⟨e', τ, ρ2, F2, rfl, g2, g3, g4, g5⟩ := hq
        have k1 : ∀ x, F x → F2 x := fun x hx => g4 x (f1 x hx)
        have k2 : ∀ x, F2 x → F x ∨ ¬ w0.V x := fun x hx => (g5 x hx).elim (f2 x) .inr
        cases e' with
        | n =>
          obtain ⟨j, hw, hlt⟩ := g2
          obtain ⟨ρ3, F3, q1, q2, q3⟩ := hw w0 N ρ2 F2 a' w' g3
          exact ih j F3 ρ3 a' w' (by omega) q1 (fun x hx => q2 x (k1 x hx)) (fun x hx => (q3 x hx).elim (k2 x) .inr)
        | x id => exact ⟨.x id, τ, ρ2, F2, rfl, g2, g3, k1, k2⟩
        | r => exact ⟨.r, τ, ρ2, F2, rfl, g2, g3, k1, k2⟩
    obtain ⟨ρ1, F1, q1, q2, q3⟩ := h0 w0 N ρ F a w hs
    exact wpIn_loop_rounds (μ i0 + 1) (key _ i0 F1 ρ1 a w (by omega) q1 q2 q3)
/-- A cut behind x: the state is one of St. -/
theorem AWP.cut {x y : ACode} {ι : Sort 1} (St : ι → AS) (h1 : AWP P N x σ (fun e τ => match e with | .n => ∃ i, Wk τ (St i) | e => Q e τ)) (h2 : ∀ i, AWP P N y (St i) Q) : AWP P N (.seq x y) σ Q :=
  AWP.seq (h1.mono fun e τ h => by
    cases e with
    | n => obtain ⟨i, hi⟩ := h; exact (h2 i).wk hi
    | x id => exact h
    | r => exact h)
end
end Go.Proofs.Ytjacmhaeemhinaa

namespace Go.Proofs.Ytjacmhaeemhinaa
open Go.RowKit
set_option linter.unusedVariables false

/-! ### Renaming of own memory -/
def renC (mb mr : List Nat) (nb nr : Nat) : AV → AV
  | .ref b k lo n => .ref (mr.getD b nr) k lo n
  | .refc b k lo n c => .refc (mr.getD b nr) k lo n c
  | .bptr b off => .bptr (mb.getD b nb) off
  | .rptr b k i off => .rptr (mr.getD b nr) k i off
  | .aptr b n => .aptr (mr.getD b nr) n
  | .batt b g => .batt (mb.getD b nb) g
  | .ratt b p => .ratt (mr.getD b nr) p
  | .mptr b => .mptr (mr.getD b nr)
  | .itr b m => .itr (mr.getD b nr) (mr.getD m nr)
  | v => argR v
def renV (mb mr : List Nat) (nb nr : Nat) : AV → AV
  | .agg l => .agg (l.map (renC mb mr nb nr))
  | v => renC mb mr nb nr v
def renF (mb mr : List Nat) (nb nr : Nat) : AV → AV
  | .cptr vol l => .cptr vol (l.map argR)
  | v => renV mb mr nb nr v
def renT (mb mr : List Nat) (nb nr : Nat) : AV → AV
  | .tup l => .tup (l.map (renV mb mr nb nr))
  | .fn f l => .fn f (l.map (renF mb mr nb nr))
  | v => renF mb mr nb nr v
/-- Is there anything in it that renaming does not take? -/
def renOk : AV → Bool
  | .cptr .. | .fn .. | .tup .. | .cnd .. | .agg .. | .obj .. => false
  | _ => true
def renOkV : AV → Bool
  | .agg l => l.all renOk
  | v => renOk v
def renOkF : AV → Bool
  | .cptr _ l => l.all fun x => match x with | .ref .. | .refc .. | .bptr .. | .rptr .. | .aptr .. | .batt .. | .ratt .. | .mptr .. | .itr .. => false | x => renOk x
  | v => renOkV v
def renOkT : AV → Bool
  | .tup l => l.all renOkV
  | .fn _ l => l.all renOkF
  | v => renOkF v

def Env.ren (ρ : Env) (mb mr : List Nat) (nb nr : Nat) : Env := ⟨fun b => ρ.b (mb.getD b nb), fun b => ρ.r (mr.getD b nr)⟩
section
variable {ρ : Env} {B : Nat → Prop} {F : Nat → Prop} {w : World} {mb mr : List Nat} {nb nr : Nat}
theorem argR_rep' {ρ' : Env} {v : Value} {x : AV} (hx : renOk x = true) (hn : ∀ b k lo n, x ≠ .ref b k lo n) (hn2 : ∀ b o, x ≠ .bptr b o) (hn3 : ∀ b k i o, x ≠ .rptr b k i o) (hn4 : ∀ b n, x ≠ .aptr b n) (hn5 : ∀ b g, x ≠ .batt b g) (hn6 : ∀ b p, x ≠ .ratt b p) (hn7 : ∀ b k lo n c, x ≠ .refc b k lo n c) (hn8 : ∀ b, x ≠ .mptr b) (hn9 : ∀ b m, x ≠ .itr b m) (h : Rep ρ B F w v (argR x)) : Rep ρ' B F w v x := by
  cases x with
  | any => exact .any _
  | int k n => cases h.int_inv; exact rep_int _ _
  | bool b => cases h.bool_inv; exact rep_bool _
  | str s => obtain ⟨bs, rfl, e⟩ := h.str_inv; exact rep_str _ _ e
  | raw u => cases h.raw_inv; exact .pure _ _ (.raw _)
  | nil => cases h.nil_inv; exact .pure _ _ .nil
  | sl vol k es =>
    cases h with
    | pure _ _ h => exact .pure _ _ h
    | vsl a n c k es f hn hw hr hc => exact .vsl a n c k es f hn hw hr hc
  | csl vol k es =>
    cases h with
    | pure _ _ h => exact .pure _ _ h
    | vcsl a n k es f hn hw hr hc => exact .vcsl a n k es f hn hw hr hc
  | ref b k lo n => exact absurd rfl (hn b k lo n)
  | bptr b o => exact absurd rfl (hn2 b o)
  | rptr b k i o => exact absurd rfl (hn3 b k i o)
  | aptr b n => exact absurd rfl (hn4 b n)
  | batt b g => exact absurd rfl (hn5 b g)
  | refc b k lo n c => exact absurd rfl (hn7 b k lo n c)
  | ratt b p => exact absurd rfl (hn6 b p)
  | mptr b => exact absurd rfl (hn8 b)
  | itr b m => exact absurd rfl (hn9 b m)
  | _ => simp [renOk] at hx
theorem renC_rep {v : Value} {x : AV} (hx : renOk x = true) (h : Rep ρ B F w v (renC mb mr nb nr x)) : Rep (ρ.ren mb mr nb nr) B F w v x := by
  cases x with
  | ref b k lo n => obtain ⟨a, c, p, rfl, hp, h1, h2, h3, h4, h5⟩ := h.ref_inv; exact .ref a c b k lo n p hp h1 h2 h3 h4 h5
  | refc b k lo n c => obtain ⟨a, p, rfl, hp, h1, h2, h3, h4, h5⟩ := h.refc_inv; exact .refc a b k lo n c p hp h1 h2 h3 h4 h5
  | bptr b off => obtain ⟨g, hg, rfl⟩ := h.bptr_inv; exact .bptr b off g hg
  | rptr b k i off => obtain ⟨p, hp, rfl⟩ := h.rptr_inv; exact .rptr b k i off p hp
  | aptr b n => obtain ⟨p, hp, hl, rfl⟩ := h.aptr_inv; exact .aptr b n p hp hl
  | batt b g => cases h with | pure _ _ h => cases h | batt _ _ _ hg => exact .batt _ b g hg
  | ratt b p => cases h with | pure _ _ h => cases h | ratt _ _ _ hp => exact .ratt _ b p hp
  | mptr b => obtain ⟨p, hp, hl, rfl⟩ := h.mptr_inv; exact .mptr b p hp hl
  | itr b m => obtain ⟨p, q, hp, hq, hl, rfl⟩ := h.itr_inv; exact .itr b m p q hp hq hl
  | _ => exact argR_rep' hx (by simp) (by simp) (by simp) (by simp) (by simp) (by simp) (by simp) (by simp) (by simp) h
theorem renV_rep {v : Value} {x : AV} (hx : renOkV x = true) (h : Rep ρ B F w v (renV mb mr nb nr x)) : Rep (ρ.ren mb mr nb nr) B F w v x := by
  cases x with
  | agg l =>
    obtain ⟨cs, rfl, hl, hc⟩ := h.agg_inv
    simp only [renOkV, List.all_eq_true] at hx
    refine .agg cs l (by simpa using hl) fun i u y e1 e2 => ?_
    exact renC_rep (hx y (List.mem_of_getElem? e2)) (hc i u _ e1 (by rw [List.getElem?_map, e2]; rfl))
  | _ => simp only [renOkV] at hx; simp only [renV] at h; exact renC_rep hx h
theorem renF_rep {v : Value} {x : AV} (hx : renOkF x = true) (h : Rep ρ B F w v (renF mb mr nb nr x)) : Rep (ρ.ren mb mr nb nr) B F w v x := by
  cases x with
  | cptr vol l =>
    obtain ⟨ad, f, rfl, hsp, hloc, hcell, hc⟩ := h.cptr_inv
    simp only [renOkF, List.all_eq_true] at hx
    refine .cptr vol ad l f hsp hloc (fun i hi => hcell i (by simpa using hi)) fun i y e2 => ?_
    have hy := hx y (List.mem_of_getElem? e2)
    have := hc i _ (by rw [List.getElem?_map, e2]; rfl)
    cases y <;> first | (simp at hy; done) | exact argR_rep' (by simpa using hy) (by simp) (by simp) (by simp) (by simp) (by simp) (by simp) (by simp) (by simp) (by simp) this
  | _ => simp only [renOkF] at hx; simp only [renF] at h; exact renV_rep hx h
theorem renT_rep {v : Value} {x : AV} (hx : renOkT x = true) (h : Rep ρ B F w v (renT mb mr nb nr x)) : Rep (ρ.ren mb mr nb nr) B F w v x := by
  cases x with
  | tup l =>
    obtain ⟨cs, rfl, hl, hc⟩ := h.tup_inv
    simp only [renOkT, List.all_eq_true] at hx
    refine .tup cs l (by simpa using hl) fun i u y e1 e2 => ?_
    exact renV_rep (hx y (List.mem_of_getElem? e2)) (hc i u _ e1 (by rw [List.getElem?_map, e2]; rfl))
  | fn f l =>
    obtain ⟨cs, rfl, hl, hc⟩ := h.fn_inv
    simp only [renOkT, List.all_eq_true] at hx
    refine .fn f cs l (by simpa using hl) fun i u y e1 e2 => ?_
    exact renF_rep (hx y (List.mem_of_getElem? e2)) (hc i u _ e1 (by rw [List.getElem?_map, e2]; rfl))
  | _ => simp only [renOkT] at hx; simp only [renT] at h; exact renF_rep hx h
end

/-- τ says less than σ: its boxes and rows are σ's mb, mr. -/
def TmLe (σ : List (Nat × AV)) (mb mr : List Nat) (nb nr : Nat) : List (Nat × AV) → Prop
  | [] => True
  | (t, v) :: l => (renOkT v = true ∧ ALe (getT σ t) (renT mb mr nb nr v)) ∧ TmLe σ mb mr nb nr l
def CsLe (mb mr : List Nat) (nb nr : Nat) : List AV → List AV → Prop
  | [], [] => True
  | x :: xs, y :: ys => (renOk y = true ∧ ALe x (renC mb mr nb nr y)) ∧ CsLe mb mr nb nr xs ys
  | _, _ => False
def BxLe (σb : List (Option (List AV))) (mb' mr : List Nat) (nb nr : Nat) : List Nat → List (Option (List AV)) → Prop
  | _, [] => True
  | [], _ :: _ => False
  | m :: mb, none :: l => BxLe σb mb' mr nb nr mb l
  | m :: mb, some cs :: l => (match getO σb m with | some cs' => CsLe mb' mr nb nr cs' cs | none => False) ∧ BxLe σb mb' mr nb nr mb l
def RwLe (σr : List (Option ARow)) : List Nat → List (Option ARow) → Prop
  | _, [] => True
  | [], _ :: _ => False
  | m :: mr, none :: l => RwLe σr mr l
  | m :: mr, some r :: l => getO σr m = some r ∧ RwLe σr mr l
theorem csLe_get {mb mr : List Nat} {nb nr : Nat} : ∀ {xs ys : List AV}, CsLe mb mr nb nr xs ys → xs.length = ys.length ∧ ∀ (i : Nat) (x y : AV), xs[i]? = some x → ys[i]? = some y → renOk y = true ∧ ALe x (renC mb mr nb nr y)
  | [], [], _ => ⟨rfl, fun i x y e => by cases e⟩
  | [], _ :: _, h => h.elim
  | _ :: _, [], h => h.elim
  | x :: xs, y :: ys, h => by
    obtain ⟨h1, h2⟩ := h
    obtain ⟨g1, g2⟩ := csLe_get h2
    refine ⟨by simp [g1], fun i a b e1 e2 => ?_⟩
    cases i with
    | zero => simp at e1 e2; subst e1 e2; exact h1
    | succ i => exact g2 i a b (by simpa using e1) (by simpa using e2)
theorem tmLe_get {σ : List (Nat × AV)} {mb mr : List Nat} {nb nr : Nat} : ∀ {l : List (Nat × AV)}, TmLe σ mb mr nb nr l → ∀ t, renOkT (getT l t) = true ∧ ALe (getT σ t) (renT mb mr nb nr (getT l t))
  | [], _, t => ⟨rfl, .any _⟩
  | (t', v) :: l, h, t => by
    simp only [getT]
    split
    · rename_i e; subst e; exact h.1
    · exact tmLe_get h.2 t
theorem bxLe_get {σb : List (Option (List AV))} {mb' mr : List Nat} {nb nr : Nat} : ∀ {mb : List Nat} {l : List (Option (List AV))}, BxLe σb mb' mr nb nr mb l → ∀ b cs, getO l b = some cs → ∃ m cs', mb[b]? = some m ∧ getO σb m = some cs' ∧ CsLe mb' mr nb nr cs' cs
  | mb, [], _, b, cs, e => by simp [getO] at e
  | [], _ :: _, h, _, _, _ => h.elim
  | m :: mb, x :: l, h, b, cs, e => by
    cases b with
    | zero =>
      cases x with
      | none => simp [getO] at e
      | some c =>
        simp [getO] at e; subst e
        obtain ⟨h1, _⟩ := h
        split at h1
        · rename_i cs' hc; exact ⟨m, cs', rfl, hc, h1⟩
        · exact h1.elim
    | succ b =>
      have h2 : BxLe σb mb' mr nb nr mb l := by cases x <;> first | exact h | exact h.2
      obtain ⟨m', cs', g1, g2, g3⟩ := bxLe_get h2 b cs (by simpa [getO] using e)
      exact ⟨m', cs', by simpa using g1, g2, g3⟩
theorem rwLe_get {σr : List (Option ARow)} : ∀ {mr : List Nat} {l : List (Option ARow)}, RwLe σr mr l → ∀ b r, getO l b = some r → ∃ m, mr[b]? = some m ∧ getO σr m = some r
  | mr, [], _, b, cs, e => by simp [getO] at e
  | [], _ :: _, h, _, _, _ => h.elim
  | m :: mr, x :: l, h, b, r, e => by
    cases b with
    | zero =>
      cases x with
      | none => simp [getO] at e
      | some c => simp [getO] at e; subst e; exact ⟨m, rfl, h.1⟩
    | succ b =>
      have h2 : RwLe σr mr l := by cases x <;> first | exact h | exact h.2
      obtain ⟨m', g1, g2⟩ := rwLe_get h2 b r (by simpa [getO] using e)
      exact ⟨m', by simpa using g1, g2⟩

theorem nodup_get {l : List Nat} (h : l.Nodup) {i j : Nat} (hi : i < l.length) (hj : j < l.length) (e : l[i] = l[j]) : i = j := by
  have h' := List.pairwise_iff_getElem.1 h
  rcases Nat.lt_trichotomy i j with q | q | q
  · exact absurd e (h' i j hi hj q)
  · exact q
  · exact absurd e.symm (h' j i hj hi q)
/-- A state told anew. -/
theorem Wk.ren {σ τ : AS} (mb mr : List Nat) (h1 : TmLe σ.tm mb mr σ.nb σ.nr τ.tm) (h2 : BxLe σ.bx mb mr σ.nb σ.nr mb τ.bx) (h3 : RwLe σ.rw mr τ.rw) (hb : mb.Nodup) (hr : mr.Nodup) (hbl : mb.length ≤ τ.nb) (hrl : mr.length ≤ τ.nr) : Wk σ τ := by
  intro w0 N ρ F a w hs
  refine ⟨ρ.ren mb mr σ.nb σ.nr, F, ⟨⟨hs.s.sz, hs.s.df, fun t => ?_, fun b cs g e1 e2 => ?_, fun b r p e1 e2 => ?_, fun b b' g e1 e2 => ?_, fun b b' p p' r r' e1 e2 e3 e4 f1 f2 l1 l2 hq => ?_, fun b b' g p e1 e2 hl => ?_, fun b g e => hs.s.lb _ g e, fun b p e hl => hs.s.lr _ p e hl, hs.s.fl, hs.s.bel⟩, fun b hle => ?_, fun b hle => ?_, fun b c e => ?_, fun b c e => ?_⟩, fun _ hx => hx, fun _ hx => .inl hx⟩
  · obtain ⟨g1, g2⟩ := tmLe_get h1 t
    exact renT_rep g1 (g2.rep (hs.s.tm t))
  · obtain ⟨m, cs', g1, g2, g3⟩ := bxLe_get h2 b cs e1
    have e2' : ρ.b m = some g := by
      have : mb.getD b σ.nb = m := by simp [List.getD_eq_getElem?_getD, g1]
      simp only [Env.ren, this] at e2; exact e2
    obtain ⟨k1, k2, arr, T, k3, k4, k5⟩ := hs.s.bx m cs' g g2 e2'
    obtain ⟨q1, q2⟩ := csLe_get g3
    refine ⟨k1, k2, arr, T, k3, by omega, fun i u y a1 a2 => ?_⟩
    have hi := (List.getElem?_eq_some_iff.1 a2).1
    obtain ⟨x, a3⟩ : ∃ x, cs'[i]? = some x := ⟨_, List.getElem?_eq_getElem (by omega)⟩
    obtain ⟨q3, q4⟩ := q2 i x y a3 a2
    exact renC_rep q3 (q4.rep (k5 i u x a1 a3))
  · obtain ⟨m, g1, g2⟩ := rwLe_get h3 b r e1
    have : mr.getD b σ.nr = m := by simp [List.getD_eq_getElem?_getD, g1]
    simp only [Env.ren, this] at e2
    exact hs.s.rw m r p g2 e2
  · have := hs.s.ib _ _ g e1 e2
    have hin : ∀ x, ρ.b (mb.getD x σ.nb) = some g → x < mb.length := fun x hx => by
      rcases Nat.lt_or_ge x mb.length with h | h
      · exact h
      · simp only [List.getD_eq_getElem?_getD] at hx; rw [List.getElem?_eq_none h] at hx
        simp only [Option.getD_none] at hx; rw [hs.b σ.nb (Nat.le_refl _)] at hx; cases hx
    have i1 := hin b e1; have i2 := hin b' e2
    simp only [List.getD_eq_getElem?_getD] at this
    rw [List.getElem?_eq_getElem i1, List.getElem?_eq_getElem i2] at this
    exact nodup_get hb i1 i2 this
  · obtain ⟨m, g1, g2⟩ := rwLe_get h3 b r e3
    obtain ⟨m', g1', g2'⟩ := rwLe_get h3 b' r' e4
    have t1 : mr.getD b σ.nr = m := by simp [List.getD_eq_getElem?_getD, g1]
    have t2 : mr.getD b' σ.nr = m' := by simp [List.getD_eq_getElem?_getD, g1']
    simp only [Env.ren, t1] at e1
    simp only [Env.ren, t2] at e2
    have := hs.s.ir m m' p p' r r' e1 e2 g2 g2' f1 f2 l1 l2 hq
    subst this
    obtain ⟨i1, j1⟩ := List.getElem?_eq_some_iff.1 g1
    obtain ⟨i2, j2⟩ := List.getElem?_eq_some_iff.1 g1'
    exact nodup_get hr i1 i2 (j1.trans j2.symm)
  · exact hs.s.ibr _ _ g p e1 e2 hl
  · simp only [Env.ren, List.getD_eq_getElem?_getD]
    rw [List.getElem?_eq_none (by omega), Option.getD_none]; exact hs.b _ (Nat.le_refl _)
  · simp only [Env.ren, List.getD_eq_getElem?_getD]
    rw [List.getElem?_eq_none (by omega), Option.getD_none]; exact hs.r _ (Nat.le_refl _)
  · obtain ⟨m, cs', g1, _⟩ := bxLe_get h2 b c e
    have := (List.getElem?_eq_some_iff.1 g1).1; omega
  · obtain ⟨m, g1, _⟩ := rwLe_get h3 b c e
    have := (List.getElem?_eq_some_iff.1 g1).1; omega

/-! ### A contract out of a walk -/
def enum : Nat → List AV → List (Nat × AV)
  | _, [] => []
  | i, v :: l => (i, v) :: enum (i + 1) l
theorem getT_enum : ∀ (l : List AV) (i t : Nat), getT (enum i l) t = if i ≤ t then (l[t - i]?).getD .any else .any
  | [], i, t => by simp [enum, getT]
  | v :: l, i, t => by
    simp only [enum, getT, getT_enum l (i + 1) t]
    by_cases h : i = t
    · subst h; simp
    · rw [if_neg h]
      by_cases h2 : i + 1 ≤ t
      · rw [if_pos h2, if_pos (by omega), show t - i = (t - (i + 1)) + 1 by omega]; simp
      · rw [if_neg h2, if_neg (by omega)]
def resC : AV → Bool
  | .any | .int .. | .bool .. | .str .. | .raw .. | .nil | .sl false .. | .csl false .. | .ref .. => true
  | _ => false
def resV : AV → Bool
  | .agg l => l.all resC
  | v => resC v
def resT : AV → Bool
  | .tup l => l.all resV
  | v => resV v
def loadOk (g : Bool) (n : Nat) (l : List AV) : Bool := if g then decide (n ≤ l.length) else decide (1 ≤ l.length)
/-- The results, read out of the state. -/
def resOf (P : Program) (σ : AS) : List ResultVar → Option (List AV)
  | [] => some []
  | .tmp t :: l => (resOf P σ l).map fun vs => getT σ.tm t :: vs
  | .cell t ty :: l => match getT σ.tm t, aggOf P ty, szOf P ty with
    | .bptr b off, some g, some n => match getO σ.bx b with
      | some cs => if loadOk g n (cs.drop off) = true then (resOf P σ l).map fun vs => (loadC g n (cs.drop off)).av :: vs else none
      | none => none
    | .aptr b m, some true, some n => match getO σ.rw b with
      | some r => if n = m ∧ r.k = 1 ∧ r.es.length = n ∧ r.es.all scal = true then (resOf P σ l).map fun vs => .agg r.es :: vs else none
      | none => none
    | _, _, _ => none
def one : List AV → AV
  | [v] => v
  | vs => .tup vs
/-- The walk has ended, and this is what is returned. -/
structure RetOk (P : Program) (rs : List ResultVar) (σ : AS) (r : AV) (H : List ARow) : Prop where
  ok : ∃ τ vs mr, Wk σ τ ∧ resOf P τ rs = some vs ∧ ALe (one vs) (renT [] mr τ.nb τ.nr r) ∧ renOkT r = true ∧ resT r = true ∧ mr.length = H.length ∧ mr.Nodup ∧ (∀ (i : Nat) (row : ARow) (m : Nat), H[i]? = some row → mr[i]? = some m → row.fro = false ∧ getO τ.rw m = some row)

theorem resT_pure {ρ : Env} {B : Nat → Prop} {F : Nat → Prop} {w : World} {v : Value} {x : AV} (hx : resT x = true) (h : Rep ρ B F w v x) : Rep ρ V0 F w v x := by
  have hC : ∀ {u : Value} {y : AV}, resC y = true → Rep ρ B F w u y → Rep ρ V0 F w u y := fun {u y} hy h => by
    cases h with
    | pure _ _ h => exact .pure _ _ h
    | any => exact .any _
    | ref a c b k lo n p hp h1 h2 h3 h4 h5 => exact .ref a c b k lo n p hp h1 h2 h3 h4 h5
    | _ => simp [resC] at hy
  have hV : ∀ {u : Value} {y : AV}, resV y = true → Rep ρ B F w u y → Rep ρ V0 F w u y := fun {u y} hy h => by
    cases y with
    | agg l =>
      obtain ⟨cs, rfl, hl, hc⟩ := h.agg_inv
      simp only [resV, List.all_eq_true] at hy
      exact .agg cs l hl fun i u z e1 e2 => hC (hy z (List.mem_of_getElem? e2)) (hc i u z e1 e2)
    | _ => simp only [resV] at hy; exact hC hy h
  cases x with
  | tup l =>
    obtain ⟨cs, rfl, hl, hc⟩ := h.tup_inv
    simp only [resT, List.all_eq_true] at hx
    exact .tup cs l hl fun i u z e1 e2 => hV (hx z (List.mem_of_getElem? e2)) (hc i u z e1 e2)
  | _ => simp only [resT] at hx; exact hV hx h

section
variable {P : Program} {w0 : Base} {N : Nat} {ρ : Env} {F : Nat → Prop} {σ : AS} {a : Act} {w : World}
def resStep (a : Act) : ResultVar → Sem Value
  | .tmp t => pure (a.tmps.getD t undef)
  | .cell x t => do loadVar t (← asAddr (a.tmps.getD x undef))
theorem resOf_run (h : Sim w0 N ρ F σ.fs a w) : ∀ (rs : List ResultVar) (vs : List AV), resOf P σ rs = some vs → ∃ us : List Value, (rs.mapM (resStep a)).run P w = Result.ok us w ∧ us.length = vs.length ∧ ∀ (i : Nat) (u : Value) (x : AV), us[i]? = some u → vs[i]? = some x → Rep ρ w0.V F w u x
  | [], vs, e => by cases e; exact ⟨[], rfl, rfl, fun i u x e => by cases e⟩
  | .tmp t :: l, vs, e => by
    simp only [resOf, Option.map_eq_some_iff] at e
    obtain ⟨vs', e1, rfl⟩ := e
    obtain ⟨us, h1, h2, h3⟩ := resOf_run h l vs' e1
    refine ⟨a.tmps.getD t undef :: us, ?_, by simp [h2], fun i u x e1 e2 => ?_⟩
    · simp only [List.mapM_cons, Sem.run_bind, Sem.run_pure, Result.andThen_ok, h1, resStep]
    · cases i with
      | zero => cases e1; cases e2; exact h.tm t
      | succ i => exact h3 i u x (by simpa using e1) (by simpa using e2)
  | .cell t ty :: l, vs, e => by
    have key : ∀ v x, Rep ρ w0.V F w v x → ∀ vs', resOf P σ l = some vs' → (Instr.loadAt ty (a.tmps.getD t undef)).run P w = Result.ok v w → (∃ ad, a.tmps.getD t undef = .pointer (some ad)) → ∃ us : List Value, ((ResultVar.cell t ty :: l).mapM (resStep a)).run P w = Result.ok us w ∧ us.length = (x :: vs').length ∧ ∀ (i : Nat) (u : Value) (y : AV), us[i]? = some u → (x :: vs')[i]? = some y → Rep ρ w0.V F w u y := fun v x hv vs' e1 hrun ⟨ad, had⟩ => by
      obtain ⟨us, h1, h2, h3⟩ := resOf_run h l vs' e1
      refine ⟨v :: us, ?_, by simp [h2], fun i u y e1 e2 => ?_⟩
      · have hrun' : (loadVar ty ad).run P w = .ok v w := by
          rw [had] at hrun
          simpa [Instr.loadAt, Instr.sureAddr] using hrun
        simp only [List.mapM_cons, Sem.run_bind, Sem.run_pure, Result.andThen_ok, resStep, had, asAddr, hrun', h1]
      · cases i with
        | zero => simp at e1 e2; subst e1 e2; exact hv
        | succ i => exact h3 i u y (by simpa using e1) (by simpa using e2)
    simp only [resOf] at e
    have ht := h.tm t
    split at e
    · rename_i b off g n hv hg hn
      split at e
      · rename_i cs hb
        split at e
        · rename_i hok
          obtain ⟨vs', e1, rfl⟩ := Option.map_eq_some_iff.1 e
          have hv' : σ.fs.tm t = .bptr b off := hv
          rw [hv'] at ht
          have hok' : (loadC g n (cs.drop off)).ok := by cases g <;> simpa [loadC, loadOk] using hok
          obtain ⟨v, r1, r2⟩ := v_load_b (P := P) hg hn h ht hb hok'
          obtain ⟨gg, _, r3⟩ := ht.bptr_inv
          exact key v _ r2 vs' e1 r1 ⟨_, r3⟩
        · cases e
      · cases e
    · rename_i b m n hv hg hn
      split at e
      · rename_i r hb
        split at e
        · rename_i hok
          obtain ⟨vs', e1, rfl⟩ := Option.map_eq_some_iff.1 e
          have hv' : σ.fs.tm t = .aptr b m := hv
          rw [hv'] at ht
          obtain ⟨v, r1, r2⟩ := v_load_a (P := P) hg hn h ht hb hok.2.1 hok.2.2.1 hok.2.2.2
          obtain ⟨p, _, _, r3⟩ := ht.aptr_inv
          exact key v _ r2 vs' e1 r1 ⟨_, r3⟩
        · cases e
      · cases e
    · cases e
end

/-- A contract out of a walk. -/
theorem acall_of {P : Program} {f : Nat} {fn : Func} {ac : ACode} {c : Code} {N : Nat} {args : List AV} {r : AV} {H : List ARow} (hf : P.funcs[f]? = some fn) (hp : plainFn P f = true) (hb : fn.body = some c) (hc : compC P N c = some ac) (hN : N = max args.length fn.ntmps)
    (h : AWP P N ac ⟨enum 0 args, [], [], 0, 0⟩ fun x σ => (x = .n ∨ x = .r) ∧ RetOk P fn.results.toList σ r H) : ACall P f args r H := by
  refine ⟨hp, fun w F vs hF hl hr => calls_of_wp hf hb (wp_mono (wpIn_wide.1 (h c (compC_told c ac hc) none ⟨Vw w, w, []⟩ Env.none F _ w ?_)) ?_)⟩
  · refine ⟨⟨by simp [hl]; omega, rfl, fun t => ?_, (fun b c g e => by simp [AS.fs, getO] at e), (fun b r p e => by simp [AS.fs, getO] at e), (fun b b' g e => by cases e), (fun b b' p p' r r' e => by cases e), (fun b b' g p e => by cases e), (fun b g e => by cases e), (fun b p e => by cases e), hF, ⟨rfl, rfl, Nat.le_refl _, fun _ hx => hx, fun _ _ => rfl⟩⟩, fun _ _ => rfl, fun _ _ => rfl, (fun b c e => by simp [AS.fs, getO] at e), (fun b c e => by simp [AS.fs, getO] at e)⟩
    show Rep Env.none (Vw w) F w _ (getT (enum 0 args) t)
    rw [getT_enum, if_pos (Nat.zero_le _), Nat.sub_zero]
    by_cases ht : t < args.length
    · rw [List.getElem?_eq_getElem ht, Option.getD_some]
      have e1 : vs[t]? = some (vs[t]'(by omega)) := Array.getElem?_eq_getElem (by omega)
      have : (vs ++ Array.replicate (fn.ntmps - vs.size) undef).getD t undef = vs[t]'(by omega) := by
        simp only [Array.getD_eq_getD_getElem?]
        rw [Array.getElem?_append_left (by omega), e1]; rfl
      rw [this]
      exact hr t _ _ e1 (List.getElem?_eq_getElem ht)
    · rw [List.getElem?_eq_none (by omega)]; exact .any _
  · rintro e a' w' ⟨x, σ, ρ, F', rfl, ⟨hx, ⟨τ, vs', mr, hw, hres, hle, hrt, hrs, hml, hmn, hrow⟩⟩, hs, f1, f2⟩
    obtain ⟨ρ2, F2, hs2, g1, g2⟩ := hw ⟨Vw w, w, []⟩ N ρ F' a' w' hs
    obtain ⟨us, q1, q2, q3⟩ := resOf_run (P := P) hs2.s fn.results.toList vs' hres
    have hrun : ∃ v, (results fn a'.tmps).run P w' = .ok v w' ∧ Rep ρ2 (Vw w) F2 w' v (one vs') := by
      have q1' : (fn.results.mapM (resStep a')).run P w' = .ok us.toArray w' := by
        rw [Array.mapM_eq_mapM_toList, Sem.run_map, q1]; rfl
      have hres : results fn a'.tmps = (do let vs ← fn.results.mapM (resStep a'); pure (if h : vs.size = 1 then vs[0] else .tuple vs)) := rfl
      rw [hres, Sem.run_bind, q1', Result.andThen_ok, Sem.run_pure]
      match us, vs', q2, q3 with
      | [u], [x], _, q3 => exact ⟨u, by simp, q3 0 u x rfl rfl⟩
      | [], [], _, q3 => exact ⟨.tuple #[], by simp, .tup #[] [] rfl (by simp)⟩
      | u :: u2 :: us, x :: x2 :: xs, q2, q3 => exact ⟨.tuple (u :: u2 :: us).toArray, by simp, .tup _ _ (by simpa using q2) (fun i a b e1 e2 => q3 i a b (by simpa using e1) e2)⟩
      | [], _ :: _, q2, _ => simp at q2
      | _ :: _, [], q2, _ => simp at q2
      | [_], _ :: _ :: _, q2, _ => simp at q2
      | _ :: _ :: _, [_], q2, _ => simp at q2
    obtain ⟨v, hv1, hv2⟩ := hrun
    have hren := resT_pure hrs (renT_rep hrt (hle.rep hv2))
    have hget : ∀ b p, (ρ2.ren [] mr τ.nb τ.nr).r b = some p → ∃ (hb : b < mr.length), ρ2.r (mr[b]) = some p := fun b p e => by
      simp only [Env.ren, List.getD_eq_getElem?_getD] at e
      by_cases hb : b < mr.length
      · rw [List.getElem?_eq_getElem hb, Option.getD_some] at e; exact ⟨hb, e⟩
      · rw [List.getElem?_eq_none (by omega), Option.getD_none, hs2.r _ (Nat.le_refl _)] at e; cases e
    have hfin : ∃ u ρ F', Ending.returned v = .returned u ∧ Below w.heap.size w w' ∧ (∀ x, F x → F' x) ∧ (∀ x, F' x → F x ∨ w.heap.size ≤ x) ∧ (∀ x, F' x → x < w'.heap.size) ∧
      (∀ b r, H[b]? = some r → r.fro = false ∧ ∀ p, ρ.r b = some p → RowOk (Vw w) F' w' p r) ∧ (∀ b p, ρ.r b = some p → b < H.length ∧ (0 < p.lim → p.blk < w'.heap.size ∧ w.heap.size ≤ p.blk)) ∧
      (∀ b b' p p', ρ.r b = some p → ρ.r b' = some p' → 0 < p.lim → 0 < p'.lim → p.blk = p'.blk → b = b') ∧ (∀ b, ρ.b b = none) ∧ Rep ρ V0 F' w' u r := by
      refine ⟨v, ρ2.ren [] mr τ.nb τ.nr, F2, rfl, ⟨hs2.s.bel.os, hs2.s.bel.output, hs2.s.bel.grow, fun k hk => hs2.s.bel.block k hk⟩, fun x hx => g1 x (f1 x hx), fun x hx => (g2 x hx).elim (fun hx => (f2 x hx).imp id Nat.le_of_not_lt) (fun e => .inr (Nat.le_of_not_lt e)), hs2.s.fl, fun b r e => ?_, fun b p e => ?_, fun b b' p p' e e' l l' hq => ?_, fun b => ?_, hren⟩
      · have hb : b < H.length := (List.getElem?_eq_some_iff.1 e).1
        have hrw := hrow b r (mr[b]'(by omega)) e (List.getElem?_eq_getElem (by omega))
        refine ⟨hrw.1, fun p ep => ?_⟩
        obtain ⟨_, k⟩ := hget b p ep
        exact hs2.s.rw _ r p hrw.2 k
      · obtain ⟨hb, k⟩ := hget b p e
        refine ⟨by omega, fun hl => ⟨hs2.s.lr _ p k hl, ?_⟩⟩
        have hrw := hrow b _ (mr[b]) (List.getElem?_eq_getElem (by omega)) (List.getElem?_eq_getElem hb)
        rcases (hs2.s.rw _ _ p hrw.2 k).2.2 with q | ⟨_, q, _⟩
        · omega
        · exact Nat.le_of_not_lt (q hrw.1).1
      · obtain ⟨hb, k⟩ := hget b p e
        obtain ⟨hb', k'⟩ := hget b' p' e'
        have hrw := hrow b _ (mr[b]) (List.getElem?_eq_getElem (by omega)) (List.getElem?_eq_getElem hb)
        have hrw' := hrow b' _ (mr[b']) (List.getElem?_eq_getElem (by omega)) (List.getElem?_eq_getElem hb')
        exact nodup_get hmn hb hb' (hs2.s.ir _ _ p p' _ _ k k' hrw.2 hrw'.2 hrw.1 hrw'.1 l l' hq)
      · exact hs2.b _ (Nat.le_refl _)
    have hd := hs2.s.df
    rcases hx with rfl | rfl
    · exact ⟨hd, v, hv1, hfin⟩
    · exact ⟨hd, v, hv1, hfin⟩

/-! ### .. with own memory handed over -/
/-- What a temporary holds, in a form that is computed easily. -/
def gT : List (Nat × AV) → Nat → AV
  | [], _ => .any
  | (t, v) :: l, u => bif t == u then v else gT l u
theorem gT_eq : gT = getT := funext fun l => funext fun u => by
  induction l with
  | nil => rfl
  | cons x l ih =>
    obtain ⟨t, v⟩ := x
    simp only [gT, getT, ih]
    by_cases h : t = u
    · subst h; simp
    · rw [if_neg h, show (t == u) = false by simpa using h]; rfl
def gO {α : Type} : List (Option α) → Nat → Option α
  | [], _ => none
  | x :: _, 0 => x
  | _ :: l, n + 1 => gO l n
theorem gO_eq {α : Type} : @gO α = @getO α := funext fun l => funext fun u => by
  induction l generalizing u with
  | nil => simp [gO, getO]
  | cons x l ih => cases u <;> simp_all [gO, getO]

theorem Rep.batt_inv {ρ : Env} {V F : Nat → Prop} {w : World} {v : Value} {b g : Nat} (h : Rep ρ V F w v (.batt b g)) : ρ.b b = some g := by
  cases h with
  | pure _ _ h => cases h
  | batt _ _ _ hg => exact hg
theorem Rep.ratt_inv {ρ : Env} {V F : Nat → Prop} {w : World} {v : Value} {b : Nat} {p : Pl} (h : Rep ρ V F w v (.ratt b p)) : ρ.r b = some p := by
  cases h with
  | pure _ _ h => cases h
  | ratt _ _ _ hp => exact hp
def ghB (gb : Nat → Nat) : Nat → Nat → List (Nat × AV)
  | _, 0 => []
  | i, n + 1 => (1000000 + i, .batt i (gb i)) :: ghB gb (i + 1) n
def ghR (pr : Nat → Pl) : Nat → Nat → List (Nat × AV)
  | _, 0 => []
  | i, n + 1 => (1100000 + i, .ratt i (pr i)) :: ghR pr (i + 1) n
theorem ghR_rep {ρ : Env} {B F : Nat → Prop} {w : World} {v : Value} {pr : Nat → Pl} : ∀ (n i : Nat), (∀ k, i ≤ k → k < i + n → ρ.r k = some (pr k)) → ∀ t, Rep ρ B F w v (getT (ghR pr i n) t)
  | 0, i, _, t => .any _
  | n + 1, i, h, t => by
    simp only [ghR, getT]
    split
    · exact .ratt _ _ _ (h i (Nat.le_refl _) (by omega))
    · exact ghR_rep n (i + 1) (fun k h1 h2 => h k (by omega) (by omega)) t
theorem gh_rep {ρ : Env} {B F : Nat → Prop} {w : World} {v : Value} {gb : Nat → Nat} {pr : Nat → Pl} {m : Nat} (hr : ∀ k, k < m → ρ.r k = some (pr k)) : ∀ (n i : Nat), (∀ k, i ≤ k → k < i + n → ρ.b k = some (gb k)) → ∀ t, Rep ρ B F w v (getT (ghB gb i n ++ ghR pr 0 m) t)
  | 0, i, _, t => ghR_rep m 0 (fun k _ h => hr k (by omega)) t
  | n + 1, i, h, t => by
    simp only [ghB, List.cons_append, getT]
    split
    · exact .batt _ _ _ (h i (Nat.le_refl _) (by omega))
    · exact gh_rep hr n (i + 1) (fun k h1 h2 => h k (by omega) (by omega)) t
theorem getT_enumA : ∀ (l : List AV) (g : List (Nat × AV)) (i t : Nat), getT (enum i l ++ g) t = if i ≤ t ∧ t < i + l.length then (l[t - i]?).getD .any else getT g t
  | [], g, i, t => by simp only [enum, List.nil_append, List.length_nil]; rw [if_neg (by omega)]
  | v :: l, g, i, t => by
    simp only [enum, List.cons_append, getT, getT_enumA l g (i + 1) t]
    by_cases h : i = t
    · subst h; simp
    · rw [if_neg h]
      by_cases h2 : i + 1 ≤ t ∧ t < i + 1 + l.length
      · rw [if_pos h2, if_pos (by simp only [List.length_cons]; omega), show t - i = (t - (i + 1)) + 1 by omega]; simp
      · rw [if_neg h2, if_neg (by simp only [List.length_cons]; omega)]
def mcC (nb : Nat) (rows : List (Option ARow)) : AV → Bool
  | .any | .int .. | .bool .. | .str .. | .raw .. | .nil | .sl false .. | .csl false .. => true
  | .ref b _ _ _ => (gO rows b).isSome
  | .rptr b _ _ _ => (gO rows b).isSome
  | .aptr b _ => (gO rows b).isSome
  | .mptr b => (gO rows b).isSome
  | .bptr b _ => decide (b < nb)
  | _ => false
def mcV (nb : Nat) (rows : List (Option ARow)) : AV → Bool
  | .agg l => l.all (mcC nb rows)
  | v => mcC nb rows v
def mcT (nb : Nat) (rows : List (Option ARow)) : AV → Bool
  | .tup l => l.all (mcV nb rows)
  | v => mcV nb rows v
theorem gO_get {α : Type} : @gO α = @getO α := gO_eq
theorem gT_get : gT = getT := gT_eq
def Env.cut (ρ : Env) (nb : Nat) (rows : List (Option ARow)) : Env := ⟨fun b => if b < nb then ρ.b b else .none, fun b => if (gO rows b).isSome then ρ.r b else .none⟩
section
variable {ρ : Env} {V F : Nat → Prop} {w : World} {nb : Nat} {rows : List (Option ARow)}
theorem mcC_rep {v : Value} {x : AV} (hx : mcC nb rows x = true) (h : Rep ρ V F w v x) : Rep (ρ.cut nb rows) V0 F w v x := by
  cases h with
  | pure _ _ h => exact .pure _ _ h
  | any => exact .any _
  | ref a c b k lo n p hp h1 h2 h3 h4 h5 => exact .ref a c b k lo n p (by simp only [mcC] at hx; simp only [Env.cut]; rw [if_pos hx]; exact hp) h1 h2 h3 h4 h5
  | rptr b k i off p hp => exact .rptr b k i off p (by simp only [mcC] at hx; simp only [Env.cut]; rw [if_pos hx]; exact hp)
  | aptr b n p hp hl => exact .aptr b n p (by simp only [mcC] at hx; simp only [Env.cut]; rw [if_pos hx]; exact hp) hl
  | mptr b p hp hl => exact .mptr b p (by simp only [mcC] at hx; simp only [Env.cut]; rw [if_pos hx]; exact hp) hl
  | bptr b off g hg => exact .bptr b off g (by simp only [mcC, decide_eq_true_eq] at hx; simp only [Env.cut]; rw [if_pos hx]; exact hg)
  | _ => simp [mcC] at hx
theorem mcV_rep {v : Value} {x : AV} (hx : mcV nb rows x = true) (h : Rep ρ V F w v x) : Rep (ρ.cut nb rows) V0 F w v x := by
  cases x with
  | agg l =>
    obtain ⟨cs, rfl, hl, hc⟩ := h.agg_inv
    simp only [mcV, List.all_eq_true] at hx
    exact .agg cs l hl fun i u y e1 e2 => mcC_rep (hx y (List.mem_of_getElem? e2)) (hc i u y e1 e2)
  | _ => simp only [mcV] at hx; exact mcC_rep hx h
theorem mcT_rep {v : Value} {x : AV} (hx : mcT nb rows x = true) (h : Rep ρ V F w v x) : Rep (ρ.cut nb rows) V0 F w v x := by
  cases x with
  | tup l =>
    obtain ⟨cs, rfl, hl, hc⟩ := h.tup_inv
    simp only [mcT, List.all_eq_true] at hx
    exact .tup cs l hl fun i u y e1 e2 => mcV_rep (hx y (List.mem_of_getElem? e2)) (hc i u y e1 e2)
  | _ => simp only [mcT] at hx; exact mcV_rep hx h
end
def idBs (tm : List (Nat × AV)) (gb : Nat → Nat) : Nat → List (List AV) → Prop
  | _, [] => True
  | i, _ :: B => gT tm (1000000 + i) = .batt i (gb i) ∧ idBs tm gb (i + 1) B
def idRs (tm : List (Nat × AV)) (pr : Nat → Pl) : Nat → List (Option ARow) → Prop
  | _, [] => True
  | i, none :: K => idRs tm pr (i + 1) K
  | i, some _ :: K => gT tm (1100000 + i) = .ratt i (pr i) ∧ idRs tm pr (i + 1) K
theorem idBs_get {tm : List (Nat × AV)} {gb : Nat → Nat} : ∀ {B : List (List AV)} {i : Nat}, idBs tm gb i B → ∀ k, k < B.length → gT tm (1000000 + (i + k)) = .batt (i + k) (gb (i + k))
  | [], i, _, k, hk => by simp at hk
  | c :: B, i, h, k, hk => by
    cases k with
    | zero => exact h.1
    | succ k =>
      have := idBs_get h.2 k (by simpa using hk)
      rw [show i + (k + 1) = i + 1 + k by omega]; exact this
theorem idRs_get {tm : List (Nat × AV)} {pr : Nat → Pl} : ∀ {K : List (Option ARow)} {i : Nat}, idRs tm pr i K → ∀ (k : Nat) (r : ARow), K[k]? = some (some r) → gT tm (1100000 + (i + k)) = .ratt (i + k) (pr (i + k))
  | [], i, _, k, r, hk => by simp at hk
  | x :: K, i, h, k, r, hk => by
    cases k with
    | zero => simp at hk; subst hk; exact h.1
    | succ k =>
      have h2 : idRs tm pr (i + 1) K := by cases x <;> first | exact h | exact h.2
      have := idRs_get h2 k r (by simpa using hk)
      rw [show i + (k + 1) = i + 1 + k by omega]; exact this
def noFro (rows : List (Option ARow)) : Prop := ∀ (i : Nat) (r : ARow), rows[i]? = some (some r) → r.fro = false
/-- The walk has ended, and this is what is returned, and given back. -/
structure RetM (P : Program) (rs : List ResultVar) (σ : AS) (v : AV) (B' : List (List AV)) (K : List (Option ARow)) (H' : List ARow) (gb : Nat → Nat) (pr : Nat → Pl) : Prop where
  ok : ∃ tm nb nr vs X, Wk σ ⟨tm, B'.map some ++ X, K ++ H'.map some, nb, nr⟩ ∧ resOf P ⟨tm, B'.map some ++ X, K ++ H'.map some, nb, nr⟩ rs = some vs ∧ ALe (one vs) v ∧ idBs tm gb 0 B' ∧ idRs tm pr 0 K
  mt : mcT B'.length (K ++ H'.map some) v = true
  mb : ∀ c ∈ B', ∀ x ∈ c, mcC B'.length (K ++ H'.map some) x = true
  nf : noFro (K ++ H'.map some)
theorem getO_map {α : Type} (l : List α) (i : Nat) : getO (l.map some) i = l[i]? := by
  simp only [getO, List.getD_eq_getElem?_getD, List.getElem?_map]
  cases l[i]? <;> rfl
theorem getO_app {α : Type} {l m : List (Option α)} {i : Nat} (h : i < l.length) : getO (l ++ m) i = getO l i := by
  simp only [getO, List.getD_eq_getElem?_getD, List.getElem?_append_left h]
theorem getO_get {α : Type} {l : List (Option α)} {i : Nat} {x : α} : getO l i = some x ↔ l[i]? = some (some x) := by
  simp only [getO, List.getD_eq_getElem?_getD]
  cases h : l[i]? <;> simp
theorem mcall_of {P : Program} {f : Nat} {fn : Func} {ac : ACode} {c : Code} {N : Nat} {args : List AV} {B : List (List AV)} {H : List ARow} {v : AV} {B' : List (List AV)} {K : List (Option ARow)} {H' : List ARow} (hf : P.funcs[f]? = some fn) (hp : plainFn P f = true) (hb : fn.body = some c) (hc : compC P N c = some ac) (hN : N = max args.length fn.ntmps)
    (hBl : B'.length = B.length) (hKl : K.length = H.length)
    (h : ∀ gb pr, AWP P N ac ⟨enum 0 args ++ (ghB gb 0 B.length ++ ghR pr 0 H.length), B.map some, H.map some, B.length, H.length⟩ fun x σ => (x = .n ∨ x = .r) ∧ RetM P fn.results.toList σ v B' K H' gb pr) : MCall P f args B H v B' K H' := by
  refine ⟨hp, hBl, hKl, fun w V F ρ vs hin hl hr => ?_⟩
  have hgb : ∀ i, i < B.length → ρ.b i = some ((ρ.b i).getD 0) := fun i hi => by
    obtain ⟨g, hg, _⟩ := hin.bx i _ (List.getElem?_eq_getElem hi); rw [hg]; rfl
  have hpr : ∀ i, i < H.length → ρ.r i = some ((ρ.r i).getD ⟨0, 0, 0⟩) := fun i hi => by
    obtain ⟨_, p, hp, _⟩ := hin.rw i _ (List.getElem?_eq_getElem hi); rw [hp]; rfl
  have hB1 : ∀ b g, ρ.b b = some g → b < B.length := fun b g e => by
    rcases Nat.lt_or_ge b B.length with q | q
    · exact q
    · rw [hin.bn b q] at e; cases e
  have hR1 : ∀ b p, ρ.r b = some p → b < H.length := fun b p e => by
    rcases Nat.lt_or_ge b H.length with q | q
    · exact q
    · rw [hin.rn b q] at e; cases e
  refine calls_of_wp hf hb (wp_mono (wpIn_wide.1 (h (fun i => (ρ.b i).getD 0) (fun i => (ρ.r i).getD ⟨0, 0, 0⟩) c (compC_told c ac hc) none ⟨V, w, []⟩ ρ F _ w ?_)) ?_)
  · refine ⟨⟨by simp [hl]; omega, rfl, fun t => ?_, fun b c g e1 e2 => ?_, fun b r p e1 e2 => ?_, hin.ib, fun b b' p p' r r' e1 e2 e3 e4 f1 f2 l1 l2 hq => hin.ir b b' p p' e1 e2 l1 l2 hq, hin.ibr, fun b g e => ?_, fun b p e hlm => ?_, hin.fl, ⟨rfl, rfl, Nat.le_refl _, hin.vl, fun _ _ => rfl⟩⟩, hin.bn, hin.rn, fun b c e => ?_, fun b c e => ?_⟩
    · show Rep ρ V F w _ (getT (enum 0 args ++ _) t)
      rw [getT_enumA]
      split
      · rename_i ht
        have ht : t < args.length := by omega
        rw [Nat.sub_zero, List.getElem?_eq_getElem ht, Option.getD_some]
        have e1 : vs[t]? = some (vs[t]'(by omega)) := Array.getElem?_eq_getElem (by omega)
        have : (vs ++ Array.replicate (fn.ntmps - vs.size) undef).getD t undef = vs[t]'(by omega) := by
          simp only [Array.getD_eq_getD_getElem?]
          rw [Array.getElem?_append_left (by omega), e1]; rfl
        rw [this]
        exact hr t _ _ e1 (List.getElem?_eq_getElem ht)
      · exact gh_rep hpr B.length 0 (fun k _ hk => hgb k (by omega)) t
    · have e1 : getO (B.map some) b = some c := e1
      rw [getO_map] at e1
      obtain ⟨g', k1, _, k2⟩ := hin.bx b c e1
      rw [e2] at k1; cases k1; exact k2
    · have e1 : getO (H.map some) b = some r := e1
      rw [getO_map] at e1
      obtain ⟨_, p', k1, _, k2⟩ := hin.rw b r e1
      rw [e2] at k1; cases k1; exact k2
    · obtain ⟨g', k1, k2, _⟩ := hin.bx b _ (List.getElem?_eq_getElem (hB1 b g e))
      rw [e] at k1; cases k1; exact k2
    · obtain ⟨_, p', k1, k2, _⟩ := hin.rw b _ (List.getElem?_eq_getElem (hR1 b p e))
      rw [e] at k1; cases k1; exact k2 hlm
    · have e : getO (B.map some) b = some c := e
      rw [getO_map] at e; exact (List.getElem?_eq_some_iff.1 e).1
    · have e : getO (H.map some) b = some c := e
      rw [getO_map] at e; exact (List.getElem?_eq_some_iff.1 e).1
  · rintro e a' w' ⟨x, σ, ρ', F', rfl, ⟨hx, ⟨⟨tm, nb, nr, vs', X, hw, hres, hle, hib, hir⟩, mt, mb, nf⟩⟩, hs, f1, f2⟩
    obtain ⟨ρ2, F2, hs2, g1, g2⟩ := hw ⟨V, w, []⟩ N ρ' F' a' w' hs
    obtain ⟨us, q1, q2, q3⟩ := resOf_run (P := P) hs2.s fn.results.toList vs' hres
    have hrun : ∃ v, (results fn a'.tmps).run P w' = .ok v w' ∧ Rep ρ2 V F2 w' v (one vs') := by
      have q1' : (fn.results.mapM (resStep a')).run P w' = .ok us.toArray w' := by
        rw [Array.mapM_eq_mapM_toList, Sem.run_map, q1]; rfl
      have hres : results fn a'.tmps = (do let vs ← fn.results.mapM (resStep a'); pure (if h : vs.size = 1 then vs[0] else .tuple vs)) := rfl
      rw [hres, Sem.run_bind, q1', Result.andThen_ok, Sem.run_pure]
      match us, vs', q2, q3 with
      | [u], [x], _, q3 => exact ⟨u, by simp, q3 0 u x rfl rfl⟩
      | [], [], _, q3 => exact ⟨.tuple #[], by simp, .tup #[] [] rfl (by simp)⟩
      | u :: u2 :: us, x :: x2 :: xs, q2, q3 => exact ⟨.tuple (u :: u2 :: us).toArray, by simp, .tup _ _ (by simpa using q2) (fun i a b e1 e2 => q3 i a b (by simpa using e1) e2)⟩
      | [], _ :: _, q2, _ => simp at q2
      | _ :: _, [], q2, _ => simp at q2
      | [_], _ :: _ :: _, q2, _ => simp at q2
      | _ :: _ :: _, [_], q2, _ => simp at q2
    obtain ⟨u, hv1, hv2⟩ := hrun
    have hrow : ∀ b r, (K ++ H'.map some)[b]? = some (some r) → getO (K ++ H'.map some) b = some r := fun b r e => getO_get.2 e
    have hsome : ∀ b r, (K ++ H'.map some)[b]? = some (some r) → (gO (K ++ H'.map some) b).isSome = true := fun b r e => by rw [gO_get, hrow b r e]; rfl
    have hcr : ∀ b p, (ρ2.cut B'.length (K ++ H'.map some)).r b = some p → ∃ r, (K ++ H'.map some)[b]? = some (some r) ∧ ρ2.r b = some p := fun b p e => by
      simp only [Env.cut] at e
      split at e
      · rename_i hsm
        rw [gO_get] at hsm
        obtain ⟨r, hr⟩ := Option.isSome_iff_exists.1 hsm
        exact ⟨r, getO_get.1 hr, e⟩
      · cases e
    have hcb : ∀ b g, (ρ2.cut B'.length (K ++ H'.map some)).b b = some g → b < B'.length ∧ ρ2.b b = some g := fun b g e => by
      simp only [Env.cut] at e
      split at e
      · exact ⟨by assumption, e⟩
      · cases e
    have hout : ∃ u' ρo Fo, Ending.returned u = .returned u' ∧ MOut w w' V F Fo ρ ρo B' K H' ∧ Rep ρo V0 Fo w' u' v := by
      refine ⟨u, ρ2.cut B'.length (K ++ H'.map some), F2, rfl, ⟨hs2.s.bel.os, hs2.s.bel.output, hs2.s.bel.grow, hs2.s.bel.block, fun x hx => g1 x (f1 x hx), fun x hx => (g2 x hx).elim (f2 x) .inr, hs2.s.fl, fun b c g e1 e2 => ?_, fun b r p e1 e2 => ?_, fun b r e => ?_, fun b hb => ?_, fun b p e => ?_, fun b b' p p' e1 e2 l1 l2 hq => ?_, fun b b' g p e1 e2 hlm => ?_⟩, mcT_rep mt (hle.rep hv2)⟩
      · have hb := (List.getElem?_eq_some_iff.1 e1).1
        have hid := idBs_get hib b hb
        rw [gT_get, Nat.zero_add] at hid
        have htm : Rep ρ2 V F2 w' _ (getT tm (1000000 + b)) := hs2.s.tm (1000000 + b)
        rw [hid] at htm
        have e3 : ρ2.b b = some g := by
          rw [htm.batt_inv, e2]; rfl
        have e4 : (ρ2.cut B'.length (K ++ H'.map some)).b b = some g := by simp only [Env.cut]; rw [if_pos hb]; exact e3
        obtain ⟨k1, k2, cs, T, k3, k4, k5⟩ := hs2.s.bx b c g (show getO (B'.map some ++ X) b = some c by rw [getO_app (by simpa using hb), getO_map]; exact e1) e3
        exact ⟨e4, k1, fun h => h, k2, cs, T, k3, k4, fun i y av a1 a2 => mcC_rep (mb c (List.mem_of_getElem? e1) av (List.mem_of_getElem? a2)) (k5 i y av a1 a2)⟩
      · obtain ⟨r2, k1, k2⟩ := hcr b p e2
        exact ⟨nf b r e1, hs2.s.rw b r p (hrow b r e1) k2, hs2.s.lr b p k2⟩
      · have hb := (List.getElem?_eq_some_iff.1 e).1
        have hid := idRs_get hir b r e
        rw [gT_get, Nat.zero_add] at hid
        have htm : Rep ρ2 V F2 w' _ (getT tm (1100000 + b)) := hs2.s.tm (1100000 + b)
        rw [hid] at htm
        have e3 : ρ2.r b = ρ.r b := by
          rw [htm.ratt_inv]; exact (hpr b (by omega)).symm
        have e4 : (K ++ H'.map some)[b]? = some (some r) := by rw [List.getElem?_append_left hb]; exact e
        simp only [Env.cut]; rw [if_pos (hsome b r e4)]; exact e3
      · simp only [Env.cut]; rw [if_neg (by omega)]
      · obtain ⟨r, k1, _⟩ := hcr b p e; exact ⟨r, k1⟩
      · obtain ⟨r, k1, k2⟩ := hcr b p e1
        obtain ⟨r', j1, j2⟩ := hcr b' p' e2
        exact hs2.s.ir b b' p p' r r' k2 j2 (hrow b r k1) (hrow b' r' j1) (nf b r k1) (nf b' r' j1) l1 l2 hq
      · obtain ⟨r, k1, k2⟩ := hcr b' p e2
        exact hs2.s.ibr b b' g p (hcb b g e1).2 k2 hlm
    have hd := hs2.s.df
    rcases hx with rfl | rfl
    · exact ⟨hd, u, hv1, hout⟩
    · exact ⟨hd, u, hv1, hout⟩
end Go.Proofs.Ytjacmhaeemhinaa
