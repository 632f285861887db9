/- The walk over abstract states. -/
import Derived.Test.YtiejnmbpejfpgaaAxM
import Derived.LoopN
namespace Go.Proofs.Ytiejnmbpejfpgaa
open Go.RowKit
set_option linter.unusedVariables false

/-- A frame's state, in lists: what was put last stands first; nb, nr: the numbers of the next box, row. -/
structure AS where
  tm : List (Nat × AV)
  bx : List (Option (List AV))
  rw : List (Option ARow)
  nb : Nat
  nr : Nat
def getT : List (Nat × AV) → Nat → AV
  | [], _ => .any
  | (t, v) :: l, u => if t = u then v else getT l u
def getO {α : Type} (l : List (Option α)) (b : Nat) : Option α := l.getD b none
def setO {α : Type} : List (Option α) → Nat → Option α → List (Option α)
  | [], 0, x => [x]
  | [], n + 1, x => none :: setO [] n x
  | _ :: l, 0, x => x :: l
  | y :: l, n + 1, x => y :: setO l n x
theorem getO_setO {α : Type} : ∀ (l : List (Option α)) (b : Nat) (x : Option α) (c : Nat), getO (setO l b x) c = if c = b then x else getO l c
  | [], 0, x, c => by cases c <;> simp [setO, getO]
  | [], n + 1, x, c => by
    cases c with
    | zero => simp [setO, getO]
    | succ c => have := getO_setO ([] : List (Option α)) n x c; simpa [setO, getO] using this
  | y :: l, 0, x, c => by cases c <;> simp [setO, getO]
  | y :: l, n + 1, x, c => by
    cases c with
    | zero => simp [setO, getO]
    | succ c => have := getO_setO l n x c; simpa [setO, getO] using this
def AS.fs (σ : AS) : FS := ⟨getT σ.tm, getO σ.bx, getO σ.rw⟩
def AS.upd (σ : AS) : Upd → AS
  | .B b c => { σ with bx := setO σ.bx b (some c) }
  | .R b r => { σ with rw := setO σ.rw b r }
def AS.ups (σ : AS) : List Upd → AS
  | [] => σ
  | u :: l => (σ.upd u).ups l
def AS.put (σ : AS) : Option Nat → AV → AS
  | none, _ => σ
  | some t, v => { σ with tm := (t, v) :: σ.tm }
def AS.app (σ : AS) (d : Option Nat) (r : Res) : AS :=
  let τ := (σ.ups r.up).put d r.av
  { τ with nb := σ.nb + r.nb, nr := σ.nr + r.nr }
theorem upd_fs (σ : AS) (u : Upd) : (σ.upd u).fs = σ.fs.upd u := by
  cases u with
  | B b c => refine FS.ext' (fun _ => rfl) (fun x => ?_) (fun _ => rfl); simp only [AS.upd, AS.fs, FS.upd, FS.setB, getO_setO]
  | R b c => refine FS.ext' (fun _ => rfl) (fun _ => rfl) (fun x => ?_); simp only [AS.upd, AS.fs, FS.upd, FS.setR, getO_setO]
theorem ups_fs (l : List Upd) (σ : AS) : (σ.ups l).fs = σ.fs.ups l := by
  induction l generalizing σ with
  | nil => rfl
  | cons u l ih => show ((σ.upd u).ups l).fs = (σ.fs.upd u).ups l; rw [ih, upd_fs]
theorem put_fs (σ : AS) (d : Option Nat) (v : AV) : (σ.put d v).fs = σ.fs.put d v := by
  cases d with
  | none => rfl
  | some t => refine FS.ext' (fun x => ?_) (fun _ => rfl) (fun _ => rfl); simp only [AS.put, AS.fs, FS.put, getT, eq_comm]
theorem app_fs (σ : AS) (d : Option Nat) (r : Res) : (σ.app d r).fs = (σ.fs.ups r.up).put d r.av := by
  rw [← ups_fs, ← put_fs]; rfl

/-! ### A step, and what follows -/
def ALes (bx : Nat → Option (List AV)) (rw : Nat → Option ARow) : List AV → List AV → Prop
  | [], [] => True
  | x :: xs, y :: ys => ALe (argF bx rw x) y ∧ ALes bx rw xs ys
  | _, _ => False
theorem ales_get {bx : Nat → Option (List AV)} {rw : Nat → Option ARow} : ∀ {xs ys : List AV}, ALes bx rw xs ys → xs.length = ys.length ∧ ∀ (i : Nat) (x y : AV), xs[i]? = some x → ys[i]? = some y → ALe (argF bx rw x) y
  | [], [], _ => ⟨rfl, fun i x y e => by cases e⟩
  | [], _ :: _, h => h.elim
  | _ :: _, [], h => h.elim
  | x :: xs, y :: ys, h => by
    obtain ⟨h1, h2⟩ := h
    obtain ⟨g1, g2⟩ := ales_get h2
    refine ⟨by simp [g1], fun i a b e1 e2 => ?_⟩
    cases i with
    | zero => simp at e1 e2; subst e1 e2; exact h1
    | succ i => exact g2 i a b (by simpa using e1) (by simpa using e2)
def conds (look : Opd → AV) : List Opd → Prop
  | [] => True
  | x :: l => (look x).cond ∧ conds look l
theorem conds_all {look : Opd → AV} : ∀ {l : List Opd}, conds look l → ∀ x ∈ l, (look x).cond
  | [], _, x, hx => by cases hx
  | y :: l, h, x, hx => (List.mem_cons.1 hx).elim (fun e => e ▸ h.1) (fun hx => conds_all h.2 x hx)

def OpK (P : Program) (bo : Bool) (σ : FS) (bb br : Nat) (ai : AI) (K : Res → Prop) : Prop :=
  match ai with
  | .call f xs => conds (lookT σ.tm) xs ∧ ∃ args' v H, ALes σ.bx σ.rw (xs.map fun x => (lookT σ.tm x).val) args' ∧ ACall P f args' v H ∧ K ⟨True, shT br v, 0, H.length, rowsUp br H⟩
  | .callv x xs => match (lookT σ.tm x).val with
    | .fn f caps => (lookT σ.tm x).cond ∧ conds (lookT σ.tm) xs ∧ ∃ args' v H, ALes σ.bx σ.rw ((xs.map fun x => (lookT σ.tm x).val) ++ caps) args' ∧ ACall P f args' v H ∧ K ⟨True, shT br v, 0, H.length, rowsUp br H⟩
    | _ => False
  | ai => (aistep bo (lookT σ.tm) σ.bx σ.rw bb br ai).ok ∧ K (aistep bo (lookT σ.tm) σ.bx σ.rw bb br ai)
def OpG (P : Program) (bo : Bool) (σ : FS) (bb br : Nat) (G : Bool) (ai : AI) (K : Res → Prop) : Prop :=
  match ai with
  | .call f xs => ∃ args' v, (G = true → conds (lookT σ.tm) xs ∧ ALes σ.bx σ.rw (xs.map fun x => (lookT σ.tm x).val) args' ∧ ACall P f args' v []) ∧ K ⟨True, mkCnd G (shT br v), 0, 0, []⟩
  | .callv x xs => ∃ f caps args' v, (G = true → ((lookT σ.tm x).cond ∧ (lookT σ.tm x).val = .fn f caps) ∧ conds (lookT σ.tm) xs ∧ ALes σ.bx σ.rw ((xs.map fun x => (lookT σ.tm x).val) ++ caps) args' ∧ ACall P f args' v []) ∧ K ⟨True, mkCnd G (shT br v), 0, 0, []⟩
  | ai => (G = true → (aistep bo (lookT σ.tm) σ.bx σ.rw bb br ai).ok) ∧ ((aistep bo (lookT σ.tm) σ.bx σ.rw bb br ai).up = [] ∧ (aistep bo (lookT σ.tm) σ.bx σ.rw bb br ai).nb = 0 ∧ (aistep bo (lookT σ.tm) σ.bx σ.rw bb br ai).nr = 0) ∧ K ⟨True, mkCnd G (aistep bo (lookT σ.tm) σ.bx σ.rw bb br ai).av, 0, 0, []⟩
def StepK (P : Program) (bo : Bool) (σ : FS) (bb br : Nat) (o : AO) (K : Res → Prop) : Prop :=
  match o.g with
  | none => OpK P bo σ bb br o.ai K
  | some (t, want) => match gval (σ.tm t) want with
    | some G => OpG P bo σ bb br G o.ai K ∨ (G = false ∧ ∃ v, K ⟨True, mkCnd G v, 0, 0, []⟩)
    | none => False
theorem opK_R {P : Program} {bo : Bool} {σ : FS} {bb br : Nat} {ai : AI} {K : Res → Prop} (h : OpK P bo σ bb br ai K) : ∃ r, OpR P bo σ bb br ai r ∧ K r := by
  by_cases hc : isCall ai = true
  · cases ai <;> simp [isCall] at hc
    case call f xs =>
      obtain ⟨h1, args', v, H, h2, h3, h4⟩ := h
      exact ⟨_, ⟨conds_all h1, args', v, H, ales_get h2, h3, rfl⟩, h4⟩
    case callv x xs =>
      simp only [OpK] at h
      split at h
      · rename_i f caps hf
        obtain ⟨h0, h1, args', v, H, h2, h3, h4⟩ := h
        obtain ⟨g1, g2⟩ := ales_get h2
        exact ⟨_, ⟨h0, conds_all h1, f, caps, hf, args', v, H, g1, g2, h3, rfl⟩, h4⟩
      · exact h.elim
  · have h' : (aistep bo (lookT σ.tm) σ.bx σ.rw bb br ai).ok ∧ K (aistep bo (lookT σ.tm) σ.bx σ.rw bb br ai) := by
      cases ai <;> first | exact h | exact absurd rfl hc
    refine ⟨_, ?_, h'.2⟩
    cases ai <;> first | exact ⟨rfl, h'.1⟩ | exact absurd rfl hc
theorem stepK_R {P : Program} {bo : Bool} {σ : FS} {bb br : Nat} {o : AO} {K : Res → Prop} (h : StepK P bo σ bb br o K) : ∃ r, StepR P bo σ bb br o r ∧ K r := by
  unfold StepK at h
  split at h
  · rename_i hg
    obtain ⟨r, h1, h2⟩ := opK_R h
    exact ⟨r, by simp only [StepR, hg]; exact h1, h2⟩
  · rename_i t want hg
    simp only [StepR, hg]
    split at h
    · rename_i G hG
      rcases h with h | ⟨hGf, v, hv⟩
      case inr => exact ⟨_, ⟨G, hG, ⟨True, v, 0, 0, []⟩, (fun e => by rw [hGf] at e; cases e), rfl, rfl, rfl, rfl⟩, hv⟩
      by_cases hc : isCall o.ai = true
      · cases hai : o.ai <;> rw [hai] at h <;> simp [hai, isCall] at hc
        case call f xs =>
          obtain ⟨args', v, h1, h2⟩ := h
          refine ⟨_, ⟨G, hG, ⟨True, shT br v, 0, 0, []⟩, fun e => ?_, rfl, rfl, rfl, rfl⟩, h2⟩
          obtain ⟨g1, g2, g3⟩ := h1 e
          exact ⟨conds_all g1, args', v, [], ales_get g2, g3, rfl⟩
        case callv x xs =>
          obtain ⟨f, caps, args', v, h1, h2⟩ := h
          refine ⟨_, ⟨G, hG, ⟨True, shT br v, 0, 0, []⟩, fun e => ?_, rfl, rfl, rfl, rfl⟩, h2⟩
          obtain ⟨⟨g0, gf⟩, g1, g2, g3⟩ := h1 e
          obtain ⟨k1, k2⟩ := ales_get g2
          exact ⟨g0, conds_all g1, f, caps, gf, args', v, [], k1, k2, g3, rfl⟩
      · have h' : (G = true → (aistep bo (lookT σ.tm) σ.bx σ.rw bb br o.ai).ok) ∧ ((aistep bo (lookT σ.tm) σ.bx σ.rw bb br o.ai).up = [] ∧ (aistep bo (lookT σ.tm) σ.bx σ.rw bb br o.ai).nb = 0 ∧ (aistep bo (lookT σ.tm) σ.bx σ.rw bb br o.ai).nr = 0) ∧ K ⟨True, mkCnd G (aistep bo (lookT σ.tm) σ.bx σ.rw bb br o.ai).av, 0, 0, []⟩ := by
          cases hai : o.ai <;> rw [hai] at h hc <;> first | exact h | exact absurd rfl hc
        obtain ⟨h1, ⟨h2, h3, h4⟩, h5⟩ := h'
        refine ⟨_, ⟨G, hG, aistep bo (lookT σ.tm) σ.bx σ.rw bb br o.ai, fun e => ?_, h2, h3, h4, rfl⟩, h5⟩
        have h6 := h1 e
        cases hai : o.ai <;> rw [hai] at h6 hc <;> first | exact ⟨rfl, h6⟩ | exact absurd rfl hc
    · exact h.elim

def aops (P : Program) (bo : Bool) : List AO → AS → (AS → Prop) → Prop
  | [], σ, K => K σ
  | o :: l, σ, K => StepK P bo σ.fs σ.nb σ.nr o fun r => aops P bo l (σ.app o.dst r) K

def WF (σ : AS) : Prop := (∀ b c, σ.fs.bx b = some c → b < σ.nb) ∧ (∀ b c, σ.fs.rw b = some c → b < σ.nr)
theorem aops_trace {P : Program} {bo : Bool} : ∀ {l : List AO} {σ : AS} {K : AS → Prop}, aops P bo l σ K → WF σ → ∃ T r bb br τ, Trace P bo l T r bb br ∧ T 0 = σ.fs ∧ bb 0 = σ.nb ∧ br 0 = σ.nr ∧ T l.length = τ.fs ∧ bb l.length = τ.nb ∧ br l.length = τ.nr ∧ WF τ ∧ K τ
  | [], σ, K, h, hw => ⟨fun _ => σ.fs, fun _ => .fail, fun _ => σ.nb, fun _ => σ.nr, σ, ⟨(fun i o e => by cases e), hw.1, hw.2⟩, rfl, rfl, rfl, rfl, rfl, rfl, hw, h⟩
  | o :: l, σ, K, h, hw => by
    obtain ⟨r0, h1, h2⟩ := stepK_R h
    have hw' : WF (σ.app o.dst r0) := by
      have hup := stepR_up h1
      refine ⟨fun b c e => ?_, fun b c e => ?_⟩
      · rw [app_fs, (put_bx _ _ _).1] at e
        show b < σ.nb + r0.nb
        by_cases hb : b < σ.nb + r0.nb
        · exact hb
        · rw [ups_bx_ne (fun u hu b' c' he hq => ?_)] at e
          · have := hw.1 b c e; omega
          · subst he hq
            rcases hup _ hu with ⟨_, c2, h⟩ | h
            · have := hw.1 _ _ h; omega
            · omega
      · rw [app_fs, (put_bx _ _ _).2] at e
        show b < σ.nr + r0.nr
        by_cases hb : b < σ.nr + r0.nr
        · exact hb
        · rw [ups_rw_ne (fun u hu b' c' he hq => ?_)] at e
          · have := hw.2 b c e; omega
          · subst he hq
            rcases hup _ hu with ⟨_, c2, h⟩ | h
            · have := hw.2 _ _ h; omega
            · omega
    obtain ⟨T, r, bb, br, τ, tr, t0, b0, r00, tn, bn, rn, hwn, hK⟩ := aops_trace h2 hw'
    refine ⟨fun i => match i with | 0 => σ.fs | i + 1 => T i, fun i => match i with | 0 => r0 | i + 1 => r i, fun i => match i with | 0 => σ.nb | i + 1 => bb i, fun i => match i with | 0 => σ.nr | i + 1 => br i, τ, ⟨fun i o' e => ?_, hw.1, hw.2⟩, rfl, rfl, rfl, tn, bn, rn, hwn, hK⟩
    cases i with
    | zero =>
      simp at e; subst e
      exact ⟨h1, by dsimp only; rw [t0, app_fs], by dsimp only; rw [b0]; rfl, by dsimp only; rw [r00]; rfl⟩
    | succ i => exact tr.step i o' (by simpa using e)

/-! ### A region whose order is drawn -/
/-- A step that was taken. -/
structure HE where
  o : AO
  σ : FS
  r : Res
  bb : Nat
  br : Nat
def noRd (o : AO) (σ : FS) (bb br : Nat) : List Upd → Prop
  | [] => True
  | u :: l => (isNew bb br u = true ∨ ¬ Rd false o σ u) ∧ noRd o σ bb br l
def noMt (v : Upd) : List Upd → Prop
  | [] => True
  | u :: l => ¬ meet u v ∧ noMt v l
def noHit (o : AO) (σ : FS) (us : List Upd) (bb br : Nat) : List Upd → Prop
  | [] => True
  | v :: l => (isNew bb br v = true ∨ (¬ Rd false o σ v ∧ noMt v us)) ∧ noHit o σ us bb br l
def FreeE (h e : HE) : Prop := dapart h.o e.o = true ∧ noRd e.o e.σ h.bb h.br h.r.up ∧ noHit h.o h.σ h.r.up e.bb e.br e.r.up
theorem noRd_all {o : AO} {σ : FS} {bb br : Nat} : ∀ {l : List Upd}, noRd o σ bb br l → ∀ u ∈ l, isNew bb br u = true ∨ ¬ Rd false o σ u
  | [], _, u, hu => by cases hu
  | v :: l, h, u, hu => (List.mem_cons.1 hu).elim (fun e => e ▸ h.1) (fun hu => noRd_all h.2 u hu)
theorem noMt_all {v : Upd} : ∀ {l : List Upd}, noMt v l → ∀ u ∈ l, ¬ meet u v
  | [], _, u, hu => by cases hu
  | x :: l, h, u, hu => (List.mem_cons.1 hu).elim (fun e => e ▸ h.1) (fun hu => noMt_all h.2 u hu)
theorem noHit_all {o : AO} {σ : FS} {us : List Upd} {bb br : Nat} : ∀ {l : List Upd}, noHit o σ us bb br l → ∀ v ∈ l, isNew bb br v = true ∨ (¬ Rd false o σ v ∧ ∀ u ∈ us, ¬ meet u v)
  | [], _, u, hu => by cases hu
  | x :: l, h, u, hu => (List.mem_cons.1 hu).elim (fun e => e ▸ h.1.imp id fun q => ⟨q.1, noMt_all q.2⟩) (fun hu => noHit_all h.2 u hu)
def frees (hs : List HE) (e : HE) : List Nat → Prop
  | [] => True
  | i :: l => (match hs[i]? with | some h => FreeE h e | none => True) ∧ frees hs e l
theorem frees_all {hs : List HE} {e : HE} : ∀ {l : List Nat}, frees hs e l → ∀ i ∈ l, ∀ h, hs[i]? = some h → FreeE h e
  | [], _, i, hi => by cases hi
  | x :: l, h, i, hi => fun g hg => (List.mem_cons.1 hi).elim (fun e => by subst e; have := h.1; rw [hg] at this; exact this) (fun hi => frees_all h.2 i hi g hg)
def dops (P : Program) : List AO → List (List Nat) → AS → List HE → (AS → Prop) → Prop
  | [], _, σ, _, K => K σ
  | o :: l, need, σ, hs, K => StepK P false σ.fs σ.nb σ.nr o fun r => frees hs ⟨o, σ.fs, r, σ.nb, σ.nr⟩ (need.headD []) ∧ dops P l need.tail (σ.app o.dst r) (hs ++ [⟨o, σ.fs, r, σ.nb, σ.nr⟩]) K
def ents : List AO → (Nat → FS) → (Nat → Res) → (Nat → Nat) → (Nat → Nat) → List HE
  | [], _, _, _, _ => []
  | o :: l, T, r, bb, br => ⟨o, T 0, r 0, bb 0, br 0⟩ :: ents l (fun i => T (i + 1)) (fun i => r (i + 1)) (fun i => bb (i + 1)) (fun i => br (i + 1))
theorem ents_get : ∀ {l : List AO} {T : Nat → FS} {r : Nat → Res} {bb br : Nat → Nat} {i : Nat} {x : AO}, l[i]? = some x → (ents l T r bb br)[i]? = some ⟨x, T i, r i, bb i, br i⟩
  | [], _, _, _, _, i, x, h => by cases h
  | o :: l, T, r, bb, br, 0, x, h => by simp at h; subst h; rfl
  | o :: l, T, r, bb, br, i + 1, x, h => by
    simp only [ents, List.getElem?_cons_succ] at h ⊢
    exact ents_get h
theorem wf_up {σ : AS} {d : Option Nat} {r0 : Res} {e1 e2 : Bool} (hup : ∀ u ∈ r0.up, UpIn σ.fs.bx σ.fs.rw σ.nb r0.nb σ.nr r0.nr e1 e2 u) (hw : WF σ) : WF (σ.app d r0) := by
  refine ⟨fun b c e => ?_, fun b c e => ?_⟩
  · rw [app_fs, (put_bx _ _ _).1] at e
    show b < σ.nb + r0.nb
    by_cases hb : b < σ.nb + r0.nb
    · exact hb
    · rw [ups_bx_ne (fun u hu b' c' he hq => ?_)] at e
      · have := hw.1 b c e; omega
      · subst he hq
        rcases hup _ hu with ⟨_, c2, h⟩ | h
        · have := hw.1 _ _ h; omega
        · omega
  · rw [app_fs, (put_bx _ _ _).2] at e
    show b < σ.nr + r0.nr
    by_cases hb : b < σ.nr + r0.nr
    · exact hb
    · rw [ups_rw_ne (fun u hu b' c' he hq => ?_)] at e
      · have := hw.2 b c e; omega
      · subst he hq
        rcases hup _ hu with ⟨_, c2, h⟩ | h
        · have := hw.2 _ _ h; omega
        · omega
theorem wf_app {P : Program} {bo : Bool} {σ : AS} {o : AO} {r0 : Res} (h1 : StepR P bo σ.fs σ.nb σ.nr o r0) (hw : WF σ) : WF (σ.app o.dst r0) := wf_up (stepR_up h1) hw
theorem dops_trace {P : Program} : ∀ {l : List AO} {need : List (List Nat)} {σ : AS} {hs : List HE} {K : AS → Prop}, dops P l need σ hs K → WF σ → ∃ T r bb br τ, Trace P false l T r bb br ∧ T 0 = σ.fs ∧ bb 0 = σ.nb ∧ br 0 = σ.nr ∧ T l.length = τ.fs ∧ bb l.length = τ.nb ∧ br l.length = τ.nr ∧ WF τ ∧ K τ ∧
    ∀ k y, l[k]? = some y → ∀ i ∈ need.getD k [], ∀ h, (hs ++ (ents l T r bb br).take k)[i]? = some h → FreeE h ⟨y, T k, r k, bb k, br k⟩
  | [], _, σ, hs, K, h, hw => ⟨fun _ => σ.fs, fun _ => .fail, fun _ => σ.nb, fun _ => σ.nr, σ, ⟨(fun i o e => by cases e), hw.1, hw.2⟩, rfl, rfl, rfl, rfl, rfl, rfl, hw, h, fun k y e => by cases e⟩
  | o :: l, need, σ, hs, K, h, hw => by
    obtain ⟨r0, h1, hfr, h2⟩ := stepK_R h
    obtain ⟨T, r, bb, br, τ, tr, t0, b0, r00, tn, bn, rn, hwn, hK, hall⟩ := dops_trace h2 (wf_app h1 hw)
    refine ⟨fun i => match i with | 0 => σ.fs | i + 1 => T i, fun i => match i with | 0 => r0 | i + 1 => r i, fun i => match i with | 0 => σ.nb | i + 1 => bb i, fun i => match i with | 0 => σ.nr | i + 1 => br i, τ, ⟨fun i o' e => ?_, hw.1, hw.2⟩, rfl, rfl, rfl, tn, bn, rn, hwn, hK, fun k y e i hi g hg => ?_⟩
    · cases i with
      | zero =>
        simp at e; subst e
        exact ⟨h1, by dsimp only; rw [t0, app_fs], by dsimp only; rw [b0]; rfl, by dsimp only; rw [r00]; rfl⟩
      | succ i => exact tr.step i o' (by simpa using e)
    · cases k with
      | zero =>
        simp at e; subst e
        rw [List.take_zero, List.append_nil] at hg
        have hn : need.headD [] = need.getD 0 [] := by cases need <;> rfl
        exact frees_all hfr i (by rw [hn]; exact hi) g hg
      | succ k =>
        refine hall k y (by simpa using e) i ?_ g ?_
        · cases need with
          | nil => simp at hi
          | cons a need => simpa using hi
        · rw [List.append_assoc]
          exact hg

/-! ### A region in the order of the text, in which own memory may be handed over -/
def StepS (P : Program) (σ : FS) (bb br : Nat) (o : AO) (K : Res → Prop) : Prop := StepK P false σ bb br o K ∨ ∃ r, (StepM P σ br o r ∨ StepE P σ o r ∨ StepX P σ bb br o r) ∧ K r
def aopsM (P : Program) : List AO → AS → (AS → Prop) → Prop
  | [], σ, K => K σ
  | o :: l, σ, K => StepS P σ.fs σ.nb σ.nr o fun r => aopsM P l (σ.app o.dst r) K
theorem aopsM_aops {P : Program} : ∀ {l : List AO} {σ : AS} {K : AS → Prop}, l.all (fun o => !isCall o.ai) = true → aopsM P l σ K → aops P false l σ K
  | [], σ, K, _, h => h
  | o :: l, σ, K, hl, h => by
    simp only [List.all_cons, Bool.and_eq_true, Bool.not_eq_true'] at hl
    have mono : ∀ {bo : Bool} {τ : FS} {bb br : Nat} {K K' : Res → Prop}, (∀ r, K r → K' r) → StepK P bo τ bb br o K → StepK P bo τ bb br o K' := fun {bo τ bb br K K'} hk h => by
      unfold StepK at h ⊢
      split
      · rename_i hg
        rw [hg] at h
        dsimp only at h
        have hc := hl.1
        cases hai : o.ai <;> rw [hai] at h hc <;> first | exact ⟨h.1, hk _ h.2⟩ | (simp [isCall] at hc)
      · rename_i t want hg
        rw [hg] at h
        dsimp only at h
        split
        · rename_i G hG
          rw [hG] at h
          dsimp only at h
          rcases h with h | ⟨h1, v, h2⟩
          · refine .inl ?_
            have hc := hl.1
            cases hai : o.ai <;> rw [hai] at h hc <;> first | exact ⟨h.1, h.2.1, hk _ h.2.2⟩ | (simp [isCall] at hc)
          · exact .inr ⟨h1, v, hk _ h2⟩
        · rename_i hG
          rw [hG] at h; exact h
    rcases h with h | ⟨r, ⟨_, _, f, xs, hx, _⟩ | ⟨_, f, x, z, vol, k, es, b, lo, n, row, hai, _⟩ | ⟨r0, ⟨f, xs, hai, _⟩ | ⟨tt, kk, xs, hai, _⟩, _⟩, _⟩
    · exact mono (fun r hr => aopsM_aops (by simpa using hl.2) hr) h
    · have hc := hl.1
      cases hai : o.ai <;> rw [hai] at hx hc <;> first | (cases hx; done) | (simp [isCall] at hc)
    · have hc := hl.1
      rw [hai] at hc
      simp [isCall] at hc
    · have hc := hl.1
      rw [hai] at hc
      simp [isCall] at hc
    · have hc := hl.1
      rw [hai] at hc
      simp [isCall] at hc

/-! ### Code -/
inductive ACode where
  | skip
  | reg (l : List AO)
  | drw (l : List AO) (need : List (List Nat))
  | seq (a b : ACode)
  | cond (c : Opd) (a b : ACode)
  | block (id : Nat) (b : ACode)
  | loop (b : ACode)
  | exit (id : Nat)
  | ret
  | rf (g : Opd) (ps : List Nat) (a b : ACode)
def compC (P : Program) (N : Nat) : Code → Option ACode
  | .skip => some .skip
  | .region _ ops false => (compR P N ops).map .reg
  | .region _ ops true => (compR P N ops).bind fun l => if P.follows .mixedOrders = true ∧ drawOk ops = true then
      (if (pairs false l (befs ops)).all List.isEmpty = true ∧ l.all (fun o => !isCall o.ai) = true then some (.reg l) else some (.drw l (pairs false l (befs ops)))) else none
  | .seq a b => (compC P N a).bind fun a => (compC P N b).map fun b => .seq a b
  | .cond c a b => (cO c).bind fun c => (compC P N a).bind fun a => (compC P N b).map fun b => .cond c a b
  | .block id b => (compC P N b).map (.block id)
  | .loop b => (compC P N b).map .loop
  | .exit id => some (.exit id)
  | .ret => some .ret
  | .rangeFunc g ps a b => (cO g).bind fun g => (compC P N a).bind fun a => (compC P N b).map fun b => .rf g ps.toList a b
  | _ => none

/-- The same, told. -/
inductive CompC (P : Program) (N : Nat) : Code → ACode → Prop
  | skip : CompC P N .skip .skip
  | reg0 (id : Nat) (ops : Array Oper) (l : List AO) (h : compR P N ops = some l) : CompC P N (.region id ops false) (.reg l)
  | reg1 (id : Nat) (ops : Array Oper) (l : List AO) (h : compR P N ops = some l) (hm : P.follows .mixedOrders = true) (hd : drawOk ops = true) (hn : (pairs false l (befs ops)).all List.isEmpty = true) (hcl : l.all (fun o => !isCall o.ai) = true) : CompC P N (.region id ops true) (.reg l)
  | drw (id : Nat) (ops : Array Oper) (l : List AO) (h : compR P N ops = some l) (hm : P.follows .mixedOrders = true) (hd : drawOk ops = true) : CompC P N (.region id ops true) (.drw l (pairs false l (befs ops)))
  | seq (a b : Code) (a' b' : ACode) (ha : CompC P N a a') (hb : CompC P N b b') : CompC P N (.seq a b) (.seq a' b')
  | cond (c : Operand) (c' : Opd) (a b : Code) (a' b' : ACode) (hc : cO c = some c') (ha : CompC P N a a') (hb : CompC P N b b') : CompC P N (.cond c a b) (.cond c' a' b')
  | block (id : Nat) (b : Code) (b' : ACode) (hb : CompC P N b b') : CompC P N (.block id b) (.block id b')
  | loop (b : Code) (b' : ACode) (hb : CompC P N b b') : CompC P N (.loop b) (.loop b')
  | exit (id : Nat) : CompC P N (.exit id) (.exit id)
  | ret : CompC P N .ret .ret
  | rf (g : Operand) (g' : Opd) (ps : Array Tmp) (l : List Nat) (a b : Code) (a' b' : ACode) (hg : cO g = some g') (hl : ps = l.toArray) (ha : CompC P N a a') (hb : CompC P N b b') : CompC P N (.rangeFunc g ps a b) (.rf g' l a' b')
theorem compC_told {P : Program} {N : Nat} : ∀ (c : Code) (ac : ACode), compC P N c = some ac → CompC P N c ac := by
  intro c
  induction c with
  | skip => intro ac h; cases h; exact .skip
  | region id ops d =>
    intro ac h
    cases d
    · obtain ⟨l, h1, rfl⟩ := Option.map_eq_some_iff.1 h; exact .reg0 id ops l h1
    · obtain ⟨l, h1, h2⟩ := Option.bind_eq_some_iff.1 h
      split at h2
      · rename_i hd
        split at h2
        · rename_i hn; cases h2; exact .reg1 id ops l h1 hd.1 hd.2 hn.1 hn.2
        · cases h2; exact .drw id ops l h1 hd.1 hd.2
      · cases h2
  | seq a b iha ihb =>
    intro ac h
    obtain ⟨a', h1, h⟩ := Option.bind_eq_some_iff.1 h
    obtain ⟨b', h2, rfl⟩ := Option.map_eq_some_iff.1 h
    exact .seq a b a' b' (iha _ h1) (ihb _ h2)
  | cond c a b iha ihb =>
    intro ac h
    obtain ⟨c', h0, h⟩ := Option.bind_eq_some_iff.1 h
    obtain ⟨a', h1, h⟩ := Option.bind_eq_some_iff.1 h
    obtain ⟨b', h2, rfl⟩ := Option.map_eq_some_iff.1 h
    exact .cond c c' a b a' b' h0 (iha _ h1) (ihb _ h2)
  | block id b ih => intro ac h; obtain ⟨b', h1, rfl⟩ := Option.map_eq_some_iff.1 h; exact .block id b b' (ih _ h1)
  | loop b ih => intro ac h; obtain ⟨b', h1, rfl⟩ := Option.map_eq_some_iff.1 h; exact .loop b b' (ih _ h1)
  | exit id => intro ac h; cases h; exact .exit id
  | ret => intro ac h; cases h; exact .ret
  | rangeFunc g ps a b iha ihb =>
    intro ac h
    obtain ⟨g', h0, h⟩ := Option.bind_eq_some_iff.1 h
    obtain ⟨a', h1, h⟩ := Option.bind_eq_some_iff.1 h
    obtain ⟨b', h2, rfl⟩ := Option.map_eq_some_iff.1 h
    exact .rf g g' ps _ a b a' b' h0 (by simp) (iha _ h1) (ihb _ h2)
  | _ => intro ac h; cases h

inductive AX where
  | n
  | x (id : Nat)
  | r
def AX.exit : AX → Exit
  | .n => .normal
  | .x id => .exit id
  | .r => .ret

structure LSim (w0 : Base) (N : Nat) (ρ : Env) (F : Nat → Prop) (σ : AS) (a : Act) (w : World) : Prop where
  s : Sim w0 N ρ F σ.fs a w
  b : ∀ b, σ.nb ≤ b → ρ.b b = none
  r : ∀ b, σ.nr ≤ b → ρ.r b = none
  wf : WF σ
def APost (w0 : Base) (N : Nat) (F : Nat → Prop) (Q : AX → AS → Prop) : Exit → Act → World → Prop := fun e a' w' =>
  ∃ x σ' ρ' F', AX.exit x = e ∧ Q x σ' ∧ LSim w0 N ρ' F' σ' a' w' ∧ (∀ x, F x → F' x) ∧ (∀ x, F' x → F x ∨ ¬ w0.V x)
def AWP (P : Program) (N : Nat) (ac : ACode) (σ : AS) (Q : AX → AS → Prop) : Prop :=
  ∀ c, CompC P N c ac → ∀ R w0 ρ F a w, LSim w0 N ρ F σ a w → c.wpIn (Fe R) 0 P (APost w0 N F Q) a w
/-- τ says less than σ. -/
def Wk (σ τ : AS) : Prop := ∀ w0 N ρ F a w, LSim w0 N ρ F σ a w → ∃ ρ' F', LSim w0 N ρ' F' τ a w ∧ (∀ x, F x → F' x) ∧ (∀ x, F' x → F x ∨ ¬ w0.V x)
theorem Wk.refl (σ : AS) : Wk σ σ := fun w0 N ρ F a w h => ⟨ρ, F, h, fun _ hx => hx, fun _ hx => .inl hx⟩
theorem Wk.trans {σ τ υ : AS} (h : Wk σ τ) (k : Wk τ υ) : Wk σ υ := fun w0 N ρ F a w hs =>
  let ⟨ρ1, F1, h1, h2, h3⟩ := h w0 N ρ F a w hs
  let ⟨ρ2, F2, k1, k2, k3⟩ := k w0 N ρ1 F1 a w h1
  ⟨ρ2, F2, k1, fun x hx => k2 x (h2 x hx), fun x hx => (k3 x hx).elim (h3 x) .inr⟩

theorem apost_from {w0 : Base} {N : Nat} {F F' : Nat → Prop} {Q : AX → AS → Prop} (h1 : ∀ x, F x → F' x) (h2 : ∀ x, F' x → F x ∨ ¬ w0.V x) {e : Exit} {a : Act} {w : World} (h : APost w0 N F' Q e a w) : APost w0 N F Q e a w := by
  obtain ⟨x, σ', ρ', F2, g1, g2, g3, g4, g5⟩ := h
  exact ⟨x, σ', ρ', F2, g1, g2, g3, fun x hx => g4 x (h1 x hx), fun x hx => (g5 x hx).elim (h2 x) .inr⟩

section
variable {P : Program} {N : Nat} {σ : AS} {Q : AX → AS → Prop}
theorem AWP.wk {ac : ACode} {τ : AS} (hw : Wk σ τ) (h : AWP P N ac τ Q) : AWP P N ac σ Q := fun c hc R w0 ρ F a w hs => by
  obtain ⟨ρ', F', h1, h2, h3⟩ := hw w0 N ρ F a w hs
  exact wpIn_mono (h c hc R w0 ρ' F' a w h1) fun e a' w' hq => apost_from h2 h3 hq
theorem AWP.mono {ac : ACode} {Q' : AX → AS → Prop} (h : AWP P N ac σ Q) (hq : ∀ x τ, Q x τ → Q' x τ) : AWP P N ac σ Q' := fun c hc R w0 ρ F a w hs =>
  wpIn_mono (h c hc R w0 ρ F a w hs) fun e a' w' ⟨x, σ', ρ', F', g1, g2, g3⟩ => ⟨x, σ', ρ', F', g1, hq x σ' g2, g3⟩
theorem AWP.skip (h : Q .n σ) : AWP P N .skip σ Q := fun c hc R w0 ρ F a w hs => by
  cases hc
  exact wpIn_skip ⟨.n, σ, ρ, F, rfl, h, hs, fun _ hx => hx, fun _ hx => .inl hx⟩
theorem AWP.exit {id : Nat} (h : Q (.x id) σ) : AWP P N (.exit id) σ Q := fun c hc R w0 ρ F a w hs => by
  cases hc
  exact wpIn_exit ⟨.x id, σ, ρ, F, rfl, h, hs, fun _ hx => hx, fun _ hx => .inl hx⟩
theorem AWP.ret (h : Q .r σ) : AWP P N .ret σ Q := fun c hc R w0 ρ F a w hs => by
  cases hc
  exact wpIn_ret ⟨.r, σ, ρ, F, rfl, h, hs, fun _ hx => hx, fun _ hx => .inl hx⟩
theorem plainM_sound {w0 : Base} {F : Nat → Prop} {id : Nat} {ops : Array Oper} {l : List AO} (hl : compR P N ops = some l) (h : aopsM P l σ (Q .n)) {ρ : Env} {a : Act} {w : World} {R : Option Nat} (hs : LSim w0 N ρ F σ a w) : (Code.region id ops false).wpIn (Fe R) 0 P (APost w0 N F Q) a w := by
  refine wpIn_region ?_
  obtain ⟨hlen, hcomp⟩ := compR_get hl
  have key : ∀ (m i : Nat) (a : Act) (w : World) (ρ1 : Env) (F1 : Nat → Prop) (τ : AS), i + m = l.length → (∀ x, F x → F1 x) → (∀ x, F1 x → F x ∨ ¬ w0.V x) → LSim w0 N ρ1 F1 τ a w → aopsM P (l.drop i) τ (Q .n) → wpOpsIn (Fe R) 0 P ops (APost w0 N F Q) (List.range' i m) a w := fun m => by
    induction m with
    | zero =>
      intro i a w ρ1 F1 τ hi f1 f2 hs hq
      rw [List.drop_eq_nil_of_le (by omega)] at hq
      exact ⟨.n, τ, ρ1, F1, rfl, hq, hs, f1, f2⟩
    | succ m ih =>
      intro i a w ρ1 F1 τ hi f1 f2 hs hq
      have hil : i < l.length := by omega
      have hx := List.getElem?_eq_getElem hil
      have ho : ops[i]? = some (ops[i]'(by omega)) := Array.getElem?_eq_getElem (by omega)
      rw [List.drop_eq_getElem_cons hil] at hq
      rw [List.range'_succ, wpOpsIn_cons]
      have go : ∀ r, (∀ u ∈ r.up, UpIn τ.fs.bx τ.fs.rw τ.nb r.nb τ.nr r.nr true true u) → aopsM P (l.drop (i + 1)) (τ.app l[i].dst r) (Q .n) → ∀ a' w' ρ' F', Grown w0.V ρ1 ρ' F1 F' τ.nb r.nb τ.nr r.nr → Sim w0 N ρ' F' ((τ.fs.ups r.up).put l[i].dst r.av) a' w' → wpOpsIn (Fe R) 0 P ops (APost w0 N F Q) (List.range' (i + 1) m) a' w' := fun r hup hk a' w' ρ' F' hg hs' => by
        refine ih (i + 1) a' w' ρ' F' (τ.app l[i].dst r) (by omega) (fun x hx => hg.sub x (f1 x hx)) (fun x hx => (hg.new x hx).elim (f2 x) .inr) ⟨by rw [app_fs]; exact hs', fun b h1 => ?_, fun b h1 => ?_, wf_up hup hs.wf⟩ hk
        · have h1 : τ.nb + r.nb ≤ b := h1
          cases hq : ρ'.b b with
          | none => rfl
          | some g =>
            rcases hg.b b (by rw [hq]; simp) with h | h
            · exact absurd (hs.b b (by omega)) h
            · omega
        · have h1 : τ.nr + r.nr ≤ b := h1
          cases hq : ρ'.r b with
          | none => rfl
          | some g =>
            rcases hg.r b (by rw [hq]; simp) with h | h
            · exact absurd (hs.r b (by omega)) h
            · omega
      rcases hq with hq | ⟨r, hr, hk⟩
      · obtain ⟨r, s1, hk⟩ := stepK_R hq
        refine stepR_sound false hs.s ho (hcomp i _ _ ho hx) s1 (fun b h1 _ => hs.b b h1) (fun b h1 _ => hs.r b h1) (go r (fun u hu => ?_) hk)
        have := stepR_up s1 u hu
        cases u with
        | B b c =>
          rcases this with q | q
          · exact .inl ⟨rfl, q.2⟩
          · exact .inr q
        | R b c =>
          rcases this with q | q
          · exact .inl ⟨rfl, q.2⟩
          · exact .inr q
      · rcases hr with hr | hr | hr
        · exact stepM_sound hs.s ho (hcomp i _ _ ho hx) hr (fun b h1 _ => hs.r b h1) (go r (stepM_up τ.nb hr) hk)
        · have hup : r.up = [] := by obtain ⟨_, f, x, z, vol, k, es, b, lo, n, row, _, _, _, _, _, _, _, _, _, rfl⟩ := hr; rfl
          exact stepE_sound hs.s ho (hcomp i _ _ ho hx) hr (go r (fun u hu => by rw [hup] at hu; cases hu) hk)
        · exact stepX_sound hs.s ho (hcomp i _ _ ho hx) hr hs.b hs.r (go r (stepX_up hr) hk)
  have := key l.length 0 a w ρ F σ (by omega) (fun _ hx => hx) (fun _ hx => .inl hx) hs h
  rw [hlen] at this
  rw [List.range_eq_range']; exact this
theorem AWP.reg {l : List AO} (h : aopsM P l σ (Q .n)) : AWP P N (.reg l) σ Q := fun c hc R w0 ρ F a w hs => by
  cases hc with
  | reg0 id ops _ hl => exact plainM_sound hl h hs
  | reg1 id ops _ hl hm hd hn hcl =>
    obtain ⟨T, r, bb, br, τ, tr, t0, b0, r0, tn, bn, rn, hwf, hK⟩ := aops_trace (aopsM_aops hcl h) hs.wf
    have hQ : ∀ ρ' F' a' w', (∀ x, F x → F' x) → (∀ x, F' x → F x ∨ ¬ w0.V x) → Sim w0 N ρ' F' (T l.length) a' w' → (∀ b, bb l.length ≤ b → ρ'.b b = none) → (∀ b, br l.length ≤ b → ρ'.r b = none) → APost w0 N F Q .normal a' w' := fun ρ' F' a' w' f1 f2 hs' hb hr =>
      ⟨.n, τ, ρ', F', rfl, hK, ⟨by rw [← tn]; exact hs', fun b h => hb b (by rw [bn]; exact h), fun b h => hr b (by rw [rn]; exact h), hwf⟩, f1, f2⟩
    have h0 : Sim w0 N ρ F (T 0) a w := by rw [t0]; exact hs.s
    exact draw_sound hm hl hd tr (fun i j x y _ _ _ hi => by
      rw [List.all_eq_true] at hn
      by_cases hj : j < (pairs false l (befs ops)).length
      · rw [List.getD_eq_getElem?_getD, List.getElem?_eq_getElem hj, Option.getD_some] at hi
        have := hn _ (List.getElem_mem hj)
        rw [List.isEmpty_iff.1 this] at hi; cases hi
      · rw [List.getD_eq_getElem?_getD, List.getElem?_eq_none (by omega)] at hi; cases hi) h0 (fun b h => hs.b b (by rw [← b0]; exact h)) (fun b h => hs.r b (by rw [← r0]; exact h)) hQ
theorem AWP.drw {l : List AO} {need : List (List Nat)} (h : dops P l need σ [] (Q .n)) : AWP P N (.drw l need) σ Q := fun c hc R w0 ρ F a w hs => by
  obtain ⟨T, r, bb, br, τ, tr, t0, b0, r0, tn, bn, rn, hwf, hK, hfree⟩ := dops_trace h hs.wf
  have hQ : ∀ ρ' F' a' w', (∀ x, F x → F' x) → (∀ x, F' x → F x ∨ ¬ w0.V x) → Sim w0 N ρ' F' (T l.length) a' w' → (∀ b, bb l.length ≤ b → ρ'.b b = none) → (∀ b, br l.length ≤ b → ρ'.r b = none) → APost w0 N F Q .normal a' w' := fun ρ' F' a' w' f1 f2 hs' hb hr =>
    ⟨.n, τ, ρ', F', rfl, hK, ⟨by rw [← tn]; exact hs', fun b h => hb b (by rw [bn]; exact h), fun b h => hr b (by rw [rn]; exact h), hwf⟩, f1, f2⟩
  have h0 : Sim w0 N ρ F (T 0) a w := by rw [t0]; exact hs.s
  cases hc with
  | drw id ops _ hl hm hd => exact draw_sound hm hl hd tr (fun i j x y hij hx hy hi => by
      obtain ⟨q1, q2, q3⟩ := hfree j y hy i hi ⟨x, T i, r i, bb i, br i⟩ (by
        rw [List.nil_append, List.getElem?_take, if_pos hij]; exact ents_get hx)
      exact ⟨q1, noRd_all q2, noHit_all q3⟩) h0 (fun b h => hs.b b (by rw [← b0]; exact h)) (fun b h => hs.r b (by rw [← r0]; exact h)) hQ
theorem AWP.seq {x y : ACode} (h : AWP P N x σ (fun e τ => match e with | .n => AWP P N y τ Q | e => Q e τ)) : AWP P N (.seq x y) σ Q := fun c hc R w0 ρ F a w hs => by
  cases hc with
  | seq c1 c2 _ _ h1 h2 =>
    refine wpIn_seq (wpIn_mono (h c1 h1 R w0 ρ F a w hs) fun e a' w' hq => ?_)
    obtain ⟨e', τ, ρ', F', rfl, g2, g3, g4, g5⟩ := hq
    cases e' with
    | n => exact wpIn_mono (g2 c2 h2 R w0 ρ' F' a' w' g3) fun e a' w' hq => apost_from g4 g5 hq
    | x id => exact ⟨.x id, τ, ρ', F', rfl, g2, g3, g4, g5⟩
    | r => exact ⟨.r, τ, ρ', F', rfl, g2, g3, g4, g5⟩
theorem AWP.cond {c : Opd} {x y : ACode} {t : Bool} (hv : (lookT σ.fs.tm c).val = .bool t) (hc0 : (lookT σ.fs.tm c).cond) (ht : t = true → AWP P N x σ Q) (hf : t = false → AWP P N y σ Q) : AWP P N (.cond c x y) σ Q := fun c hc R w0 ρ F a w hs => by
  cases hc with
  | cond c1 _ a1 b1 _ _ h0 h1 h2 =>
    have r := (cO_rep hs.s h0).val hc0
    rw [hv] at r
    exact wpIn_cond_split r.bool_inv (fun e => ht e a1 h1 R w0 ρ F a w hs) (fun e => hf e b1 h2 R w0 ρ F a w hs)
theorem AWP.block {id : Nat} {x : ACode} (h : AWP P N x σ (fun e τ => match e with | .x j => if j = id then Q .n τ else Q (.x j) τ | e => Q e τ)) : AWP P N (.block id x) σ Q := fun c hc R w0 ρ F a w hs => by
  cases hc with
  | block _ c1 _ h1 =>
    refine wpIn_block (wpIn_mono (h c1 h1 R w0 ρ F a w hs) fun e a' w' hq => ?_)
    obtain ⟨e', τ, ρ', F', rfl, g2, g3, g4, g5⟩ := hq
    cases e' with
    | n => exact ⟨.n, τ, ρ', F', rfl, g2, g3, g4, g5⟩
    | r => exact ⟨.r, τ, ρ', F', rfl, g2, g3, g4, g5⟩
    | x j =>
      show (if j = id then _ else _)
      dsimp only at g2
      split at g2
      · rename_i hj; rw [if_pos hj]; exact ⟨.n, τ, ρ', F', rfl, g2, g3, g4, g5⟩
      · rename_i hj; rw [if_neg hj]; exact ⟨.x j, τ, ρ', F', rfl, g2, g3, g4, g5⟩
theorem AWP.loop {x : ACode} {ι : Type} (St : ι → AS) (μ : ι → Nat) (i0 : ι) (h0 : Wk σ (St i0)) (h : ∀ i, AWP P N x (St i) (fun e τ => match e with | .n => ∃ j, Wk τ (St j) ∧ μ j < μ i | e => Q e τ)) : AWP P N (.loop x) σ Q := fun c hc R w0 ρ F a w hs => by
  cases hc with
  | loop c1 _ h1 =>
    have key : ∀ n i F' ρ' a w, μ i < n → LSim w0 N ρ' F' (St i) a w → (∀ x, F x → F' x) → (∀ x, F' x → F x ∨ ¬ w0.V x) → Code.roundsIn (Fe R) 0 P c1 (APost w0 N F Q) n a w := fun n => by
      induction n with
      | zero => intro i F' ρ' a w hi; omega
      | succ n ih =>
        intro i F' ρ' a w hi hs' f1 f2
        rw [roundsIn_succ]
        refine wpIn_mono (h i c1 h1 R w0 ρ' F' a w hs') fun e a' w' hq => ?_
        obtain ⟨e', τ, ρ2, F2, rfl, g2, g3, g4, g5⟩ := hq
        have k1 : ∀ x, F x → F2 x := fun x hx => g4 x (f1 x hx)
        have k2 : ∀ x, F2 x → F x ∨ ¬ w0.V x := fun x hx => (g5 x hx).elim (f2 x) .inr
        cases e' with
        | n =>
          obtain ⟨j, hw, hlt⟩ := g2
          obtain ⟨ρ3, F3, q1, q2, q3⟩ := hw w0 N ρ2 F2 a' w' g3
          exact ih j F3 ρ3 a' w' (by omega) q1 (fun x hx => q2 x (k1 x hx)) (fun x hx => (q3 x hx).elim (k2 x) .inr)
        | x id => exact ⟨.x id, τ, ρ2, F2, rfl, g2, g3, k1, k2⟩
        | r => exact ⟨.r, τ, ρ2, F2, rfl, g2, g3, k1, k2⟩
    obtain ⟨ρ1, F1, q1, q2, q3⟩ := h0 w0 N ρ F a w hs
    exact wpIn_loop_rounds (μ i0 + 1) (key _ i0 F1 ρ1 a w (by omega) q1 q2 q3)
/-- A cut behind x: the state is one of St. -/
theorem AWP.cut {x y : ACode} {ι : Sort 1} (St : ι → AS) (h1 : AWP P N x σ (fun e τ => match e with | .n => ∃ i, Wk τ (St i) | e => Q e τ)) (h2 : ∀ i, AWP P N y (St i) Q) : AWP P N (.seq x y) σ Q :=
  AWP.seq (h1.mono fun e τ h => by
    cases e with
    | n => obtain ⟨i, hi⟩ := h; exact (h2 i).wk hi
    | x id => exact h
    | r => exact h)
end
end Go.Proofs.Ytiejnmbpejfpgaa
