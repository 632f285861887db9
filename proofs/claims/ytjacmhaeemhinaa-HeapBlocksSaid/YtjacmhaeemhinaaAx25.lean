/- Steps of the walk over abstract states, one operation at a time. -/
import Derived.Test.YtjacmhaeemhinaaAx23
namespace Go.Proofs.Ytjacmhaeemhinaa
open Go.RowKit
set_option linter.unusedVariables false

theorem k_tt {α : Type} (a b : α) : (if true = true then a else b) = a := rfl
theorem k_ff {α : Type} (a b : α) : (if false = true then a else b) = b := rfl
theorem k_d0 {α : Type} (l : List α) : l.drop 0 = l := rfl
theorem k_ds {α : Type} (n : Nat) (a : α) (l : List α) : (a :: l).drop (n + 1) = l.drop n := rfl
theorem k_dn {α : Type} (n : Nat) : ([] : List α).drop (n + 1) = [] := rfl
theorem k_t0 {α : Type} (l : List α) : l.take 0 = [] := rfl
theorem k_ts {α : Type} (n : Nat) (a : α) (l : List α) : (a :: l).take (n + 1) = a :: l.take n := rfl
theorem k_tn {α : Type} (n : Nat) : ([] : List α).take (n + 1) = [] := rfl
theorem k_hd {α : Type} (a d : α) (l : List α) : (a :: l).headD d = a := rfl
theorem k_ap {α : Type} (a : α) (l m : List α) : (a :: l) ++ m = a :: (l ++ m) := rfl
theorem k_an {α : Type} (m : List α) : [] ++ m = m := rfl
theorem k_lc {α : Type} (a : α) (l : List α) : (a :: l).length = l.length + 1 := rfl
theorem k_ln {α : Type} : ([] : List α).length = 0 := rfl
theorem k_m0 {α β : Type} (f : α → β) : [].map f = [] := rfl
theorem k_mc {α β : Type} (f : α → β) (a : α) (l : List α) : (a :: l).map f = f a :: l.map f := rfl
theorem k_i0 {α : Type} (a : α) (l : List α) : (a :: l)[0]? = some a := rfl
theorem k_is {α : Type} (n : Nat) (a : α) (l : List α) : (a :: l)[n + 1]? = l[n]? := rfl
theorem k_gd0 {α : Type} (a d : α) (l : List α) : (a :: l).getD 0 d = a := rfl
theorem k_gds {α : Type} (n : Nat) (a d : α) (l : List α) : (a :: l).getD (n + 1) d = l.getD n d := rfl
theorem k_gdn {α : Type} (n : Nat) (d : α) : ([] : List α).getD n d = d := rfl
theorem k_om {α β : Type} (f : α → β) (a : α) : (some a).map f = some (f a) := rfl
theorem k_fl0 {α β : Type} (f : β → α → β) (a : β) : [].foldl f a = a := rfl
theorem k_flc {α β : Type} (f : β → α → β) (a : β) (x : α) (l : List α) : (x :: l).foldl f a = l.foldl f (f a x) := rfl
theorem k_b1 : (true == true) = true := rfl
theorem k_b2 : (true == false) = false := rfl
theorem k_b3 : (false == true) = false := rfl
theorem k_b4 : (false == false) = true := rfl
theorem k_gs {α : Type} (a d : α) : (some a).getD d = a := rfl
/-- Pieces of code, one behind the other. -/
def WL0 (P : Program) (N : Nat) : List ACode → (AX → AS → Prop) → AS → Prop
  | [], Q, σ => Q .n σ
  | c :: k, Q, σ => AWP P N c σ fun e τ => match e with | .n => WL0 P N k Q τ | e => Q e τ
structure WL (P : Program) (N : Nat) (k : List ACode) (Q : AX → AS → Prop) (σ : AS) : Prop where
  h : WL0 P N k Q σ
/-- A region that is under way, and the code behind it. -/
def RG0 (P : Program) (N : Nat) (l : List AO) (y : List ACode) (σ : AS) (Q : AX → AS → Prop) : Prop := aopsM P l σ fun τ => WL0 P N y Q τ
def DG0 (P : Program) (N : Nat) (l : List AO) (need : List (List Nat)) (hs : List HE) (y : List ACode) (σ : AS) (Q : AX → AS → Prop) : Prop := dops P l need σ hs fun τ => WL0 P N y Q τ
structure RG (P : Program) (N : Nat) (l : List AO) (y : List ACode) (σ : AS) (Q : AX → AS → Prop) : Prop where
  h : RG0 P N l y σ Q
structure DG (P : Program) (N : Nat) (l : List AO) (need : List (List Nat)) (hs : List HE) (y : List ACode) (σ : AS) (Q : AX → AS → Prop) : Prop where
  h : DG0 P N l need hs y σ Q
/-- An operation that only gives a value. -/
def quiet : AI → Bool
  | .newb .. | .newa .. | .box .. | .boxa .. | .bsl .. | .store .. | .mks .. | .app .. | .cpy .. | .clr .. | .mvL .. | .call .. | .callv .. => false
  | _ => true
/-- .. and whose value needs no help to be told. -/
def plainA : AI → Bool
  | .iadS .. | .idxT .. | .slS .. | .slT .. | .b2s .. => false
  | ai => quiet ai
theorem plain_q {ai : AI} (h : plainA ai = true) : quiet ai = true := by cases ai <;> first | exact h | cases h
section
variable {P : Program} {N : Nat} {l : List AO} {y : List ACode} {Q : AX → AS → Prop} {tm : List (Nat × AV)} {bx : List (Option (List AV))} {rw : List (Option ARow)} {nb nr : Nat}
theorem RG0.nil (h : WL0 P N y Q ⟨tm, bx, rw, nb, nr⟩) : RG0 P N [] y ⟨tm, bx, rw, nb, nr⟩ Q := h
theorem RG.go {o : AO} {σ : AS} (h : RG P N (o :: l) y σ Q) : RG P N (o :: l) y σ Q := h
theorem RG.nil (h : WL P N y Q ⟨tm, bx, rw, nb, nr⟩) : RG P N [] y ⟨tm, bx, rw, nb, nr⟩ Q := ⟨RG0.nil h.h⟩
/-- A value. -/
theorem RG0.v {t : Nat} {ai : AI} {c : Prop} {v : AV} (hq : quiet ai = true) (h : aistep false (lookT (gT tm)) (gO bx) (gO rw) nb nr ai = ⟨c, v, 0, 0, []⟩) (hok : c)
    (k : RG0 P N l y ⟨(t, v) :: tm, bx, rw, nb, nr⟩ Q) : RG0 P N (⟨some t, ai, none⟩ :: l) y ⟨tm, bx, rw, nb, nr⟩ Q := by
  rw [gT_eq, gO_eq, gO_eq] at *
  have e : isCall ai = false := by cases ai <;> first | rfl | cases hq
  have h' : aistep false (lookT (AS.fs ⟨tm, bx, rw, nb, nr⟩).tm) (AS.fs ⟨tm, bx, rw, nb, nr⟩).bx (AS.fs ⟨tm, bx, rw, nb, nr⟩).rw nb nr ai = ⟨c, v, 0, 0, []⟩ := h
  have key : (aistep false (lookT (AS.fs ⟨tm, bx, rw, nb, nr⟩).tm) (AS.fs ⟨tm, bx, rw, nb, nr⟩).bx (AS.fs ⟨tm, bx, rw, nb, nr⟩).rw nb nr ai).ok ∧ (fun r => aopsM P l (AS.app ⟨tm, bx, rw, nb, nr⟩ (some t) r) fun τ => WL0 P N y Q τ) (aistep false (lookT (AS.fs ⟨tm, bx, rw, nb, nr⟩).tm) (AS.fs ⟨tm, bx, rw, nb, nr⟩).bx (AS.fs ⟨tm, bx, rw, nb, nr⟩).rw nb nr ai) := by
    rw [h']; exact ⟨hok, k⟩
  refine Or.inl ?_
  cases ai <;> first | exact key | cases hq
theorem RG.v {t : Nat} {ai : AI} {c : Prop} {v : AV} (hq : quiet ai = true) (h : aistep false (lookT (gT tm)) (gO bx) (gO rw) nb nr ai = ⟨c, v, 0, 0, []⟩) (hok : c)
    (k : RG P N l y ⟨(t, v) :: tm, bx, rw, nb, nr⟩ Q) : RG P N (⟨some t, ai, none⟩ :: l) y ⟨tm, bx, rw, nb, nr⟩ Q := ⟨RG0.v hq h hok k.h⟩
/-- A value, under a guard. -/
theorem RG0.g {t u : Nat} {want G : Bool} {ai : AI} {c : Prop} {v : AV} (hq : quiet ai = true) (hg : gval (gT tm u) want = some G) (h : aistep false (lookT (gT tm)) (gO bx) (gO rw) nb nr ai = ⟨c, v, 0, 0, []⟩) (hok : G = true → c)
    (k : RG0 P N l y ⟨(t, mkCnd G v) :: tm, bx, rw, nb, nr⟩ Q) : RG0 P N (⟨some t, ai, some (u, want)⟩ :: l) y ⟨tm, bx, rw, nb, nr⟩ Q := by
  rw [gT_eq, gO_eq, gO_eq] at *
  have e : isCall ai = false := by cases ai <;> first | rfl | cases hq
  have h' : aistep false (lookT (AS.fs ⟨tm, bx, rw, nb, nr⟩).tm) (AS.fs ⟨tm, bx, rw, nb, nr⟩).bx (AS.fs ⟨tm, bx, rw, nb, nr⟩).rw nb nr ai = ⟨c, v, 0, 0, []⟩ := h
  have hg' : gval ((AS.fs ⟨tm, bx, rw, nb, nr⟩).tm u) want = some G := hg
  refine Or.inl ?_
  show StepK P false _ nb nr ⟨some t, ai, some (u, want)⟩ _
  unfold StepK
  dsimp only
  rw [hg']
  dsimp only
  refine .inl ?_
  have key : (G = true → (aistep false (lookT (AS.fs ⟨tm, bx, rw, nb, nr⟩).tm) (AS.fs ⟨tm, bx, rw, nb, nr⟩).bx (AS.fs ⟨tm, bx, rw, nb, nr⟩).rw nb nr ai).ok) ∧ ((aistep false (lookT (AS.fs ⟨tm, bx, rw, nb, nr⟩).tm) (AS.fs ⟨tm, bx, rw, nb, nr⟩).bx (AS.fs ⟨tm, bx, rw, nb, nr⟩).rw nb nr ai).up = [] ∧ (aistep false (lookT (AS.fs ⟨tm, bx, rw, nb, nr⟩).tm) (AS.fs ⟨tm, bx, rw, nb, nr⟩).bx (AS.fs ⟨tm, bx, rw, nb, nr⟩).rw nb nr ai).nb = 0 ∧ (aistep false (lookT (AS.fs ⟨tm, bx, rw, nb, nr⟩).tm) (AS.fs ⟨tm, bx, rw, nb, nr⟩).bx (AS.fs ⟨tm, bx, rw, nb, nr⟩).rw nb nr ai).nr = 0) ∧ (fun r => aopsM P l (AS.app ⟨tm, bx, rw, nb, nr⟩ (some t) r) fun τ => WL0 P N y Q τ) ⟨True, mkCnd G (aistep false (lookT (AS.fs ⟨tm, bx, rw, nb, nr⟩).tm) (AS.fs ⟨tm, bx, rw, nb, nr⟩).bx (AS.fs ⟨tm, bx, rw, nb, nr⟩).rw nb nr ai).av, 0, 0, []⟩ := by
    rw [h']; exact ⟨hok, ⟨rfl, rfl, rfl⟩, k⟩
  cases ai <;> first | exact key | cases hq
theorem RG.g {t u : Nat} {want G : Bool} {ai : AI} {c : Prop} {v : AV} (hq : quiet ai = true) (hg : gval (gT tm u) want = some G) (h : aistep false (lookT (gT tm)) (gO bx) (gO rw) nb nr ai = ⟨c, v, 0, 0, []⟩) (hok : G = true → c)
    (k : RG P N l y ⟨(t, mkCnd G v) :: tm, bx, rw, nb, nr⟩ Q) : RG P N (⟨some t, ai, some (u, want)⟩ :: l) y ⟨tm, bx, rw, nb, nr⟩ Q := ⟨RG0.g hq hg h hok k.h⟩
/-- Memory: what it gives, and what becomes of the state. -/
theorem RG0.u {d : Option Nat} {ai : AI} {r : Res} {σ' : AS} (hq : isCall ai = false) (h : aistep false (lookT (gT tm)) (gO bx) (gO rw) nb nr ai = r) (hok : r.ok) (hs : AS.app ⟨tm, bx, rw, nb, nr⟩ d r = σ')
    (k : RG0 P N l y σ' Q) : RG0 P N (⟨d, ai, none⟩ :: l) y ⟨tm, bx, rw, nb, nr⟩ Q := by
  rw [gT_eq, gO_eq, gO_eq] at *
  subst hs
  have h' : aistep false (lookT (AS.fs ⟨tm, bx, rw, nb, nr⟩).tm) (AS.fs ⟨tm, bx, rw, nb, nr⟩).bx (AS.fs ⟨tm, bx, rw, nb, nr⟩).rw nb nr ai = r := h
  have key : (aistep false (lookT (AS.fs ⟨tm, bx, rw, nb, nr⟩).tm) (AS.fs ⟨tm, bx, rw, nb, nr⟩).bx (AS.fs ⟨tm, bx, rw, nb, nr⟩).rw nb nr ai).ok ∧ (fun r => aopsM P l (AS.app ⟨tm, bx, rw, nb, nr⟩ d r) fun τ => WL0 P N y Q τ) (aistep false (lookT (AS.fs ⟨tm, bx, rw, nb, nr⟩).tm) (AS.fs ⟨tm, bx, rw, nb, nr⟩).bx (AS.fs ⟨tm, bx, rw, nb, nr⟩).rw nb nr ai) := by
    rw [h']; exact ⟨hok, k⟩
  refine Or.inl ?_
  cases ai <;> first | exact key | cases hq
theorem RG.u {d : Option Nat} {ai : AI} {r : Res} {σ' : AS} (hq : isCall ai = false) (h : aistep false (lookT (gT tm)) (gO bx) (gO rw) nb nr ai = r) (hok : r.ok) (hs : AS.app ⟨tm, bx, rw, nb, nr⟩ d r = σ')
    (k : RG P N l y σ' Q) : RG P N (⟨d, ai, none⟩ :: l) y ⟨tm, bx, rw, nb, nr⟩ Q := ⟨RG0.u hq h hok hs k.h⟩
/-- A call. -/
theorem RG0.call {d : Option Nat} {f : Nat} {xs : List Opd} {vs args' : List AV} {v : AV} {H : List ARow} {σ' : AS} (c : ACall P f args' v H) (hv : (xs.map fun x => (lookT (gT tm) x).val) = vs) (hc : conds (lookT (gT tm)) xs) (hle : ALes (gO bx) (gO rw) vs args')
    (hs : AS.app ⟨tm, bx, rw, nb, nr⟩ d ⟨True, shT nr v, 0, H.length, rowsUp nr H⟩ = σ') (k : RG0 P N l y σ' Q) : RG0 P N (⟨d, .call f xs, none⟩ :: l) y ⟨tm, bx, rw, nb, nr⟩ Q := by
  rw [gT_eq, gO_eq, gO_eq] at *
  subst hs hv
  exact Or.inl ⟨hc, args', v, H, hle, c, k⟩
/-- A call, under a guard: it makes nothing that is own. -/
theorem RG0.gcall {t u : Nat} {want G : Bool} {f : Nat} {xs : List Opd} {vs args' : List AV} {v : AV} (c : G = true → ACall P f args' v []) (hg : gval (gT tm u) want = some G) (hv : (xs.map fun x => (lookT (gT tm) x).val) = vs) (hc : G = true → conds (lookT (gT tm)) xs) (hle : G = true → ALes (gO bx) (gO rw) vs args')
    (k : RG0 P N l y ⟨(t, mkCnd G (shT nr v)) :: tm, bx, rw, nb, nr⟩ Q) : RG0 P N (⟨some t, .call f xs, some (u, want)⟩ :: l) y ⟨tm, bx, rw, nb, nr⟩ Q := by
  rw [gT_eq, gO_eq, gO_eq] at *
  subst hv
  refine Or.inl ?_
  show StepK P false _ nb nr ⟨some t, .call f xs, some (u, want)⟩ _
  unfold StepK
  dsimp only
  have hg' : gval ((AS.fs ⟨tm, bx, rw, nb, nr⟩).tm u) want = some G := hg
  rw [hg']
  refine .inl ?_
  exact ⟨args', v, fun e => ⟨hc e, hle e, c e⟩, k⟩
/-- A call of a value. -/
theorem RG0.callv {d : Option Nat} {x : Opd} {f : Nat} {caps : List AV} {xs : List Opd} {vs args' : List AV} {v : AV} {H : List ARow} {σ' : AS} (c : ACall P f args' v H) (hf : lookT (gT tm) x = .fn f caps) (hv : (xs.map fun x => (lookT (gT tm) x).val) ++ caps = vs) (hc : conds (lookT (gT tm)) xs) (hle : ALes (gO bx) (gO rw) vs args')
    (hs : AS.app ⟨tm, bx, rw, nb, nr⟩ d ⟨True, shT nr v, 0, H.length, rowsUp nr H⟩ = σ') (k : RG0 P N l y σ' Q) : RG0 P N (⟨d, .callv x xs, none⟩ :: l) y ⟨tm, bx, rw, nb, nr⟩ Q := by
  rw [gT_eq, gO_eq, gO_eq] at *
  subst hs hv
  refine Or.inl ?_
  unfold StepK
  dsimp only
  have hf' : lookT (AS.fs ⟨tm, bx, rw, nb, nr⟩).tm x = .fn f caps := hf
  have hf2 : (lookT (AS.fs ⟨tm, bx, rw, nb, nr⟩).tm x).cond := by rw [hf']; trivial
  unfold OpK
  dsimp only
  rw [show (lookT (AS.fs ⟨tm, bx, rw, nb, nr⟩).tm x).val = .fn f caps by rw [hf']; rfl]
  exact ⟨hf2, hc, args', v, H, hle, c, k⟩
/-! The same in a region whose order is drawn -/
variable {need : List (List Nat)} {hs : List HE}
theorem DG0.nil (h : WL0 P N y Q ⟨tm, bx, rw, nb, nr⟩) : DG0 P N [] need hs y ⟨tm, bx, rw, nb, nr⟩ Q := h
theorem DG.go {o : AO} {σ : AS} (h : DG P N (o :: l) need hs y σ Q) : DG P N (o :: l) need hs y σ Q := h
theorem DG.nil (h : WL P N y Q ⟨tm, bx, rw, nb, nr⟩) : DG P N [] need hs y ⟨tm, bx, rw, nb, nr⟩ Q := ⟨DG0.nil h.h⟩
theorem DG0.v {t : Nat} {ai : AI} {c : Prop} {v : AV} {nd : List Nat} (hq : quiet ai = true) (h : aistep false (lookT (gT tm)) (gO bx) (gO rw) nb nr ai = ⟨c, v, 0, 0, []⟩) (hok : c)
    (hfr : frees hs ⟨⟨some t, ai, none⟩, ⟨gT tm, gO bx, gO rw⟩, ⟨c, v, 0, 0, []⟩, nb, nr⟩ nd)
    (k : DG0 P N l need (hs ++ [⟨⟨some t, ai, none⟩, ⟨gT tm, gO bx, gO rw⟩, ⟨c, v, 0, 0, []⟩, nb, nr⟩]) y ⟨(t, v) :: tm, bx, rw, nb, nr⟩ Q) : DG0 P N (⟨some t, ai, none⟩ :: l) (nd :: need) hs y ⟨tm, bx, rw, nb, nr⟩ Q := by
  rw [gT_eq, gO_eq, gO_eq] at *
  have h' : aistep false (lookT (AS.fs ⟨tm, bx, rw, nb, nr⟩).tm) (AS.fs ⟨tm, bx, rw, nb, nr⟩).bx (AS.fs ⟨tm, bx, rw, nb, nr⟩).rw nb nr ai = ⟨c, v, 0, 0, []⟩ := h
  have key : (aistep false (lookT (AS.fs ⟨tm, bx, rw, nb, nr⟩).tm) (AS.fs ⟨tm, bx, rw, nb, nr⟩).bx (AS.fs ⟨tm, bx, rw, nb, nr⟩).rw nb nr ai).ok ∧ (fun r => frees hs ⟨⟨some t, ai, none⟩, AS.fs ⟨tm, bx, rw, nb, nr⟩, r, nb, nr⟩ nd ∧ dops P l need (AS.app ⟨tm, bx, rw, nb, nr⟩ (some t) r) (hs ++ [⟨⟨some t, ai, none⟩, AS.fs ⟨tm, bx, rw, nb, nr⟩, r, nb, nr⟩]) fun τ => WL0 P N y Q τ) (aistep false (lookT (AS.fs ⟨tm, bx, rw, nb, nr⟩).tm) (AS.fs ⟨tm, bx, rw, nb, nr⟩).bx (AS.fs ⟨tm, bx, rw, nb, nr⟩).rw nb nr ai) := by
    rw [h']; exact ⟨hok, hfr, k⟩
  cases ai <;> first | exact key | cases hq
theorem DG.v {t : Nat} {ai : AI} {c : Prop} {v : AV} {nd : List Nat} (hq : quiet ai = true) (h : aistep false (lookT (gT tm)) (gO bx) (gO rw) nb nr ai = ⟨c, v, 0, 0, []⟩) (hok : c)
    (hfr : frees hs ⟨⟨some t, ai, none⟩, ⟨gT tm, gO bx, gO rw⟩, ⟨c, v, 0, 0, []⟩, nb, nr⟩ nd)
    (k : DG P N l need (hs ++ [⟨⟨some t, ai, none⟩, ⟨gT tm, gO bx, gO rw⟩, ⟨c, v, 0, 0, []⟩, nb, nr⟩]) y ⟨(t, v) :: tm, bx, rw, nb, nr⟩ Q) : DG P N (⟨some t, ai, none⟩ :: l) (nd :: need) hs y ⟨tm, bx, rw, nb, nr⟩ Q := ⟨DG0.v hq h hok hfr k.h⟩
theorem DG0.g {t u : Nat} {want G : Bool} {ai : AI} {c : Prop} {v : AV} {nd : List Nat} (hq : quiet ai = true) (hg : gval (gT tm u) want = some G) (h : aistep false (lookT (gT tm)) (gO bx) (gO rw) nb nr ai = ⟨c, v, 0, 0, []⟩) (hok : G = true → c)
    (hfr : frees hs ⟨⟨some t, ai, some (u, want)⟩, ⟨gT tm, gO bx, gO rw⟩, ⟨True, mkCnd G v, 0, 0, []⟩, nb, nr⟩ nd)
    (k : DG0 P N l need (hs ++ [⟨⟨some t, ai, some (u, want)⟩, ⟨gT tm, gO bx, gO rw⟩, ⟨True, mkCnd G v, 0, 0, []⟩, nb, nr⟩]) y ⟨(t, mkCnd G v) :: tm, bx, rw, nb, nr⟩ Q) : DG0 P N (⟨some t, ai, some (u, want)⟩ :: l) (nd :: need) hs y ⟨tm, bx, rw, nb, nr⟩ Q := by
  rw [gT_eq, gO_eq, gO_eq] at *
  have h' : aistep false (lookT (AS.fs ⟨tm, bx, rw, nb, nr⟩).tm) (AS.fs ⟨tm, bx, rw, nb, nr⟩).bx (AS.fs ⟨tm, bx, rw, nb, nr⟩).rw nb nr ai = ⟨c, v, 0, 0, []⟩ := h
  have hg' : gval ((AS.fs ⟨tm, bx, rw, nb, nr⟩).tm u) want = some G := hg
  show StepK P false _ nb nr ⟨some t, ai, some (u, want)⟩ _
  unfold StepK
  dsimp only
  rw [hg']
  dsimp only
  refine .inl ?_
  have key : (G = true → (aistep false (lookT (AS.fs ⟨tm, bx, rw, nb, nr⟩).tm) (AS.fs ⟨tm, bx, rw, nb, nr⟩).bx (AS.fs ⟨tm, bx, rw, nb, nr⟩).rw nb nr ai).ok) ∧ ((aistep false (lookT (AS.fs ⟨tm, bx, rw, nb, nr⟩).tm) (AS.fs ⟨tm, bx, rw, nb, nr⟩).bx (AS.fs ⟨tm, bx, rw, nb, nr⟩).rw nb nr ai).up = [] ∧ (aistep false (lookT (AS.fs ⟨tm, bx, rw, nb, nr⟩).tm) (AS.fs ⟨tm, bx, rw, nb, nr⟩).bx (AS.fs ⟨tm, bx, rw, nb, nr⟩).rw nb nr ai).nb = 0 ∧ (aistep false (lookT (AS.fs ⟨tm, bx, rw, nb, nr⟩).tm) (AS.fs ⟨tm, bx, rw, nb, nr⟩).bx (AS.fs ⟨tm, bx, rw, nb, nr⟩).rw nb nr ai).nr = 0) ∧ (fun r => frees hs ⟨⟨some t, ai, some (u, want)⟩, AS.fs ⟨tm, bx, rw, nb, nr⟩, r, nb, nr⟩ nd ∧ dops P l need (AS.app ⟨tm, bx, rw, nb, nr⟩ (some t) r) (hs ++ [⟨⟨some t, ai, some (u, want)⟩, AS.fs ⟨tm, bx, rw, nb, nr⟩, r, nb, nr⟩]) fun τ => WL0 P N y Q τ) ⟨True, mkCnd G (aistep false (lookT (AS.fs ⟨tm, bx, rw, nb, nr⟩).tm) (AS.fs ⟨tm, bx, rw, nb, nr⟩).bx (AS.fs ⟨tm, bx, rw, nb, nr⟩).rw nb nr ai).av, 0, 0, []⟩ := by
    rw [h']; exact ⟨hok, ⟨rfl, rfl, rfl⟩, hfr, k⟩
  cases ai <;> first | exact key | cases hq
theorem DG.g {t u : Nat} {want G : Bool} {ai : AI} {c : Prop} {v : AV} {nd : List Nat} (hq : quiet ai = true) (hg : gval (gT tm u) want = some G) (h : aistep false (lookT (gT tm)) (gO bx) (gO rw) nb nr ai = ⟨c, v, 0, 0, []⟩) (hok : G = true → c)
    (hfr : frees hs ⟨⟨some t, ai, some (u, want)⟩, ⟨gT tm, gO bx, gO rw⟩, ⟨True, mkCnd G v, 0, 0, []⟩, nb, nr⟩ nd)
    (k : DG P N l need (hs ++ [⟨⟨some t, ai, some (u, want)⟩, ⟨gT tm, gO bx, gO rw⟩, ⟨True, mkCnd G v, 0, 0, []⟩, nb, nr⟩]) y ⟨(t, mkCnd G v) :: tm, bx, rw, nb, nr⟩ Q) : DG P N (⟨some t, ai, some (u, want)⟩ :: l) (nd :: need) hs y ⟨tm, bx, rw, nb, nr⟩ Q := ⟨DG0.g hq hg h hok hfr k.h⟩
theorem DG0.u {d : Option Nat} {ai : AI} {r : Res} {σ' : AS} {nd : List Nat} (hq : isCall ai = false) (h : aistep false (lookT (gT tm)) (gO bx) (gO rw) nb nr ai = r) (hok : r.ok) (hst : AS.app ⟨tm, bx, rw, nb, nr⟩ d r = σ')
    (hfr : frees hs ⟨⟨d, ai, none⟩, ⟨gT tm, gO bx, gO rw⟩, r, nb, nr⟩ nd)
    (k : DG0 P N l need (hs ++ [⟨⟨d, ai, none⟩, ⟨gT tm, gO bx, gO rw⟩, r, nb, nr⟩]) y σ' Q) : DG0 P N (⟨d, ai, none⟩ :: l) (nd :: need) hs y ⟨tm, bx, rw, nb, nr⟩ Q := by
  rw [gT_eq, gO_eq, gO_eq] at *
  subst hst
  have h' : aistep false (lookT (AS.fs ⟨tm, bx, rw, nb, nr⟩).tm) (AS.fs ⟨tm, bx, rw, nb, nr⟩).bx (AS.fs ⟨tm, bx, rw, nb, nr⟩).rw nb nr ai = r := h
  have key : (aistep false (lookT (AS.fs ⟨tm, bx, rw, nb, nr⟩).tm) (AS.fs ⟨tm, bx, rw, nb, nr⟩).bx (AS.fs ⟨tm, bx, rw, nb, nr⟩).rw nb nr ai).ok ∧ (fun r => frees hs ⟨⟨d, ai, none⟩, AS.fs ⟨tm, bx, rw, nb, nr⟩, r, nb, nr⟩ nd ∧ dops P l need (AS.app ⟨tm, bx, rw, nb, nr⟩ d r) (hs ++ [⟨⟨d, ai, none⟩, AS.fs ⟨tm, bx, rw, nb, nr⟩, r, nb, nr⟩]) fun τ => WL0 P N y Q τ) (aistep false (lookT (AS.fs ⟨tm, bx, rw, nb, nr⟩).tm) (AS.fs ⟨tm, bx, rw, nb, nr⟩).bx (AS.fs ⟨tm, bx, rw, nb, nr⟩).rw nb nr ai) := by
    rw [h']; exact ⟨hok, hfr, k⟩
  cases ai <;> first | exact key | cases hq
theorem DG.u {d : Option Nat} {ai : AI} {r : Res} {σ' : AS} {nd : List Nat} (hq : isCall ai = false) (h : aistep false (lookT (gT tm)) (gO bx) (gO rw) nb nr ai = r) (hok : r.ok) (hst : AS.app ⟨tm, bx, rw, nb, nr⟩ d r = σ')
    (hfr : frees hs ⟨⟨d, ai, none⟩, ⟨gT tm, gO bx, gO rw⟩, r, nb, nr⟩ nd)
    (k : DG P N l need (hs ++ [⟨⟨d, ai, none⟩, ⟨gT tm, gO bx, gO rw⟩, r, nb, nr⟩]) y σ' Q) : DG P N (⟨d, ai, none⟩ :: l) (nd :: need) hs y ⟨tm, bx, rw, nb, nr⟩ Q := ⟨DG0.u hq h hok hst hfr k.h⟩
theorem DG0.call {d : Option Nat} {f : Nat} {xs : List Opd} {vs args' : List AV} {v : AV} {H : List ARow} {σ' : AS} {nd : List Nat} (c : ACall P f args' v H) (hv : (xs.map fun x => (lookT (gT tm) x).val) = vs) (hc : conds (lookT (gT tm)) xs) (hle : ALes (gO bx) (gO rw) vs args')
    (hst : AS.app ⟨tm, bx, rw, nb, nr⟩ d ⟨True, shT nr v, 0, H.length, rowsUp nr H⟩ = σ')
    (hfr : frees hs ⟨⟨d, .call f xs, none⟩, ⟨gT tm, gO bx, gO rw⟩, ⟨True, shT nr v, 0, H.length, rowsUp nr H⟩, nb, nr⟩ nd)
    (k : DG0 P N l need (hs ++ [⟨⟨d, .call f xs, none⟩, ⟨gT tm, gO bx, gO rw⟩, ⟨True, shT nr v, 0, H.length, rowsUp nr H⟩, nb, nr⟩]) y σ' Q) : DG0 P N (⟨d, .call f xs, none⟩ :: l) (nd :: need) hs y ⟨tm, bx, rw, nb, nr⟩ Q := by
  rw [gT_eq, gO_eq, gO_eq] at *
  subst hst hv
  exact ⟨hc, args', v, H, hle, c, hfr, k⟩
end

/-! ### Code, and what stands behind it -/
def QB (P : Program) (N i : Nat) (k : List ACode) (Q : AX → AS → Prop) : AX → AS → Prop
  | .n, τ => WL P N k Q τ
  | .x j, τ => if j = i then WL P N k Q τ else Q (.x j) τ
  | .r, τ => Q .r τ
def QL {ι : Type} (P : Program) (N : Nat) (k : List ACode) (St : ι → AS) (μ : ι → Nat) (i : ι) (Q : AX → AS → Prop) : AX → AS → Prop
  | .n, τ => ∃ j, Wk τ (St j) ∧ μ j < μ i
  | .x j, τ => Q (.x j) τ
  | .r, τ => Q .r τ
section
variable {P : Program} {N : Nat} {σ : AS} {Q : AX → AS → Prop} {k : List ACode}
theorem W.of {c : ACode} (h : WL P N [c] Q σ) : AWP P N c σ Q := AWP.mono h.h fun e τ hq => by cases e <;> exact hq
theorem W.done (h : Q .n σ) : WL P N [] Q σ := ⟨h⟩
theorem W.reg {l : List AO} (h : RG P N l k σ Q) : WL P N (.reg l :: k) Q σ := ⟨AWP.reg h.h⟩
theorem W.drw {l : List AO} {need : List (List Nat)} (h : DG P N l need [] k σ Q) : WL P N (.drw l need :: k) Q σ := ⟨AWP.drw h.h⟩
theorem W.seq {a b : ACode} (h : WL P N (a :: b :: k) Q σ) : WL P N (.seq a b :: k) Q σ := ⟨AWP.seq (AWP.mono h.h fun e τ hq => by cases e <;> exact hq)⟩
theorem W.skip (h : WL P N k Q σ) : WL P N (.skip :: k) Q σ := ⟨AWP.skip h.h⟩
theorem W.ret (h : Q .r σ) : WL P N (.ret :: k) Q σ := ⟨AWP.ret h⟩
theorem W.exit {i : Nat} (h : Q (.x i) σ) : WL P N (.exit i :: k) Q σ := ⟨AWP.exit h⟩
theorem W.cond {c : Opd} {a b : ACode} {t : Bool} (hv : (lookT (gT σ.tm) c).val = .bool t) (hc : (lookT (gT σ.tm) c).cond) (ht : t = true → WL P N (a :: k) Q σ) (hf : t = false → WL P N (b :: k) Q σ) : WL P N (.cond c a b :: k) Q σ :=
  ⟨AWP.cond (by rw [gT_eq] at hv; exact hv) (by rw [gT_eq] at hc; exact hc) (fun e => (ht e).h) fun e => (hf e).h⟩
theorem W.block {i : Nat} {b : ACode} (h : WL P N [b] (QB P N i k Q) σ) : WL P N (.block i b :: k) Q σ := ⟨AWP.block (AWP.mono h.h fun e τ hq => by
  cases e with
  | n => exact WL.h hq
  | r => exact hq
  | x j =>
    change QB P N i k Q (.x j) τ at hq
    simp only [QB] at hq
    dsimp only
    split
    · rename_i e; rw [if_pos e] at hq; exact hq.h
    · rename_i e; rw [if_neg e] at hq; exact hq)⟩
theorem QB.n {i : Nat} (h : WL P N k Q σ) : QB P N i k Q .n σ := h
theorem QB.x {i : Nat} (h : WL P N k Q σ) : QB P N i k Q (.x i) σ := by simp only [QB, if_true]; exact h
theorem QB.o {i j : Nat} (hj : (j == i) = false) (h : Q (.x j) σ) : QB P N i k Q (.x j) σ := by simp only [QB]; rw [if_neg (by simpa using hj)]; exact h
theorem QB.r {i : Nat} (h : Q .r σ) : QB P N i k Q .r σ := h
theorem W.loop {b : ACode} {ι : Type} (St : ι → AS) (μ : ι → Nat) (i0 : ι) (h0 : Wk σ (St i0)) (h : ∀ i, WL P N [b] (QL P N k St μ i Q) (St i)) : WL P N (.loop b :: k) Q σ :=
  ⟨AWP.loop St μ i0 h0 fun i => AWP.mono (h i).h fun e τ hq => by cases e <;> exact hq⟩
theorem QL.n {ι : Type} {St : ι → AS} {μ : ι → Nat} {i : ι} (j : ι) (h : Wk σ (St j)) (hm : μ j < μ i) : QL P N k St μ i Q .n σ := ⟨j, h, hm⟩
theorem QL.x {ι : Type} {St : ι → AS} {μ : ι → Nat} {i : ι} {j : Nat} (h : Q (.x j) σ) : QL P N k St μ i Q (.x j) σ := h
theorem QL.r {ι : Type} {St : ι → AS} {μ : ι → Nat} {i : ι} (h : Q .r σ) : QL P N k St μ i Q .r σ := h
/-- What is told less of. -/
theorem W.wk {τ : AS} (hw : Wk σ τ) (h : WL P N k Q τ) (hk : k ≠ []) : WL P N k Q σ := by
  cases k with
  | nil => exact absurd rfl hk
  | cons c k => exact ⟨AWP.wk hw h.h⟩
/-- A cut: the state is one of St. -/
def QC {ι : Sort 1} (St : ι → AS) (Q : AX → AS → Prop) : AX → AS → Prop
  | .n, τ => ∃ i, Wk τ (St i)
  | .x j, τ => Q (.x j) τ
  | .r, τ => Q .r τ
theorem W.cut {a : ACode} {ι : Sort 1} (St : ι → AS) (h1 : WL P N [a] (QC St Q) σ) (hk : k ≠ []) (h2 : ∀ i, WL P N k Q (St i)) : WL P N (a :: k) Q σ := ⟨AWP.mono h1.h fun e τ hq => by
  cases e with
  | n => obtain ⟨i, hi⟩ := hq; exact (W.wk hi (h2 i) hk).h
  | x id => exact hq
  | r => exact hq⟩
theorem QC.n {ι : Sort 1} {St : ι → AS} (i : ι) (h : Wk σ (St i)) : QC St Q .n σ := ⟨i, h⟩
theorem QC.x {ι : Sort 1} {St : ι → AS} {j : Nat} (h : Q (.x j) σ) : QC St Q (.x j) σ := h
theorem QC.r {ι : Sort 1} {St : ι → AS} (h : Q .r σ) : QC St Q .r σ := h
end
/-! ### Numbers -/
theorem w_i64 {n : Int} (h : -9223372036854775808 ≤ n ∧ n ≤ 9223372036854775807) : IntKind.i64.wrap n = n := by unfold IntKind.wrap; simp only [IntKind.bits, IntKind.signed]; simp; omega
theorem w_u8 {n : Int} (h : 0 ≤ n ∧ n ≤ 255) : IntKind.u8.wrap n = n := by unfold IntKind.wrap; simp only [IntKind.bits, IntKind.signed]; simp; omega
theorem m_u64 (n : Int) : IntKind.u64.wrap n = n % 18446744073709551616 := by unfold IntKind.wrap; simp only [IntKind.bits, IntKind.signed]; simp
theorem r_mod {n m : Int} (h : 0 ≤ n) : n.tmod m = n % m := Int.tmod_eq_emod_of_nonneg h
theorem r_div {n m : Int} (h : 0 ≤ n) : n.tdiv m = n / m := Int.tdiv_eq_ediv_of_nonneg h
section
variable {P : Program} {N : Nat} {l : List AO} {y : List ACode} {Q : AX → AS → Prop} {tm : List (Nat × AV)} {bx : List (Option (List AV))} {rw : List (Option ARow)} {nb nr : Nat}
/-- A truth, told anew. -/
theorem RG.b {t : Nat} {ai : AI} {c : Prop} {n n' : Bool} (hq : quiet ai = true) (h : aistep false (lookT (gT tm)) (gO bx) (gO rw) nb nr ai = ⟨c, .bool n, 0, 0, []⟩) (hok : c) (hn : n = n')
    (k : RG P N l y ⟨(t, .bool n') :: tm, bx, rw, nb, nr⟩ Q) : RG P N (⟨some t, ai, none⟩ :: l) y ⟨tm, bx, rw, nb, nr⟩ Q := RG.v hq h hok (hn ▸ k)
/-- A number, told anew. -/
theorem RG0.i {t : Nat} {ai : AI} {c : Prop} {kd : IntKind} {n n' : Int} (hq : quiet ai = true) (h : aistep false (lookT (gT tm)) (gO bx) (gO rw) nb nr ai = ⟨c, .int kd n, 0, 0, []⟩) (hok : c) (hn : n = n')
    (k : RG0 P N l y ⟨(t, .int kd n') :: tm, bx, rw, nb, nr⟩ Q) : RG0 P N (⟨some t, ai, none⟩ :: l) y ⟨tm, bx, rw, nb, nr⟩ Q := RG0.v hq h hok (hn ▸ k)
theorem RG.i {t : Nat} {ai : AI} {c : Prop} {kd : IntKind} {n n' : Int} (hq : quiet ai = true) (h : aistep false (lookT (gT tm)) (gO bx) (gO rw) nb nr ai = ⟨c, .int kd n, 0, 0, []⟩) (hok : c) (hn : n = n')
    (k : RG P N l y ⟨(t, .int kd n') :: tm, bx, rw, nb, nr⟩ Q) : RG P N (⟨some t, ai, none⟩ :: l) y ⟨tm, bx, rw, nb, nr⟩ Q := ⟨RG0.i hq h hok hn k.h⟩
end
end Go.Proofs.Ytjacmhaeemhinaa

namespace Go.Proofs.Ytjacmhaeemhinaa
open Go.RowKit
set_option linter.unusedVariables false

/-! ### Told less, part by part -/
def ALeL : List AV → List AV → Prop
  | [], [] => True
  | x :: xs, y :: ys => ALe x y ∧ ALeL xs ys
  | _, _ => False
theorem aleL_get : ∀ {xs ys : List AV}, ALeL xs ys → xs.length = ys.length ∧ ∀ (i : Nat) (x y : AV), xs[i]? = some x → ys[i]? = some y → ALe x y
  | [], [], _ => ⟨rfl, fun i x y e => by cases e⟩
  | [], _ :: _, h => h.elim
  | _ :: _, [], h => h.elim
  | x :: xs, y :: ys, h => by
    obtain ⟨g1, g2⟩ := aleL_get h.2
    refine ⟨by simp [g1], fun i a b e1 e2 => ?_⟩
    cases i with
    | zero => simp at e1 e2; subst e1 e2; exact h.1
    | succ i => exact g2 i a b (by simpa using e1) (by simpa using e2)
theorem ALe.aggL {l l' : List AV} (h : ALeL l l') : ALe (.agg l) (.agg l') := .agg l l' (aleL_get h).1 (aleL_get h).2
theorem ALe.tupL {l l' : List AV} (h : ALeL l l') : ALe (.tup l) (.tup l') := .tup l l' (aleL_get h).1 (aleL_get h).2
theorem ALe.int {k : IntKind} {n m : Int} (h : n = m) : ALe (.int k n) (.int k m) := h ▸ .refl _
theorem ALe.bool {a b : Bool} (h : a = b) : ALe (.bool a) (.bool b) := h ▸ .refl _
theorem ALe.slv {v : Bool} {k : Nat} {a b : List AV} (h : a = b) : ALe (.sl v k a) (.sl true k b) := by
  subst h; cases v
  · exact .vol _ _
  · exact .refl _
/-! ### Own rows, told as rows that nobody writes -/
inductive Cl (rw : List (Option ARow)) : AV → AV → Prop
  | le {x y : AV} (h : ALe x y) : Cl rw x y
  | ice {b k lo n : Nat} {r : ARow} {es : List AV} (h : getO rw b = some r) (hf : r.fro = true) (hk : r.k = k) (hl : lo + n ≤ r.es.length) (he : (r.es.drop lo).take n = es) : Cl rw (.ref b k lo n) (.sl false k es)
  | agg {l l' : List AV} (hl : l.length = l'.length) (h : ∀ (i : Nat) (x y : AV), l[i]? = some x → l'[i]? = some y → Cl rw x y) : Cl rw (.agg l) (.agg l')
  | tup {l l' : List AV} (hl : l.length = l'.length) (h : ∀ (i : Nat) (x y : AV), l[i]? = some x → l'[i]? = some y → Cl rw x y) : Cl rw (.tup l) (.tup l')
def ClL (rw : List (Option ARow)) : List AV → List AV → Prop
  | [], [] => True
  | x :: xs, y :: ys => Cl rw x y ∧ ClL rw xs ys
  | _, _ => False
theorem clL_get {rw : List (Option ARow)} : ∀ {xs ys : List AV}, ClL rw xs ys → xs.length = ys.length ∧ ∀ (i : Nat) (x y : AV), xs[i]? = some x → ys[i]? = some y → Cl rw x y
  | [], [], _ => ⟨rfl, fun i x y e => by cases e⟩
  | [], _ :: _, h => h.elim
  | _ :: _, [], h => h.elim
  | x :: xs, y :: ys, h => by
    obtain ⟨g1, g2⟩ := clL_get h.2
    refine ⟨by simp [g1], fun i a b e1 e2 => ?_⟩
    cases i with
    | zero => simp at e1 e2; subst e1 e2; exact h.1
    | succ i => exact g2 i a b (by simpa using e1) (by simpa using e2)
section
variable {w0 : Base} {N : Nat} {ρ : Env} {F : Nat → Prop} {a : Act} {w : World}
theorem Cl.rep {σ : FS} (h : Sim w0 N ρ F σ a w) {rw : List (Option ARow)} (hrw : σ.rw = getO rw) {x y : AV} (hc : Cl rw x y) : ∀ {v : Value}, Rep ρ w0.V F w v x → Rep ρ w0.V F w v y := by
  induction hc with
  | le hle => exact fun hv => hle.rep hv
  | ice h1 hf hk hl he =>
    intro v hv
    rename_i b k lo n r es
    obtain ⟨ad, c, p, f, rfl, hp, hra, hw, hlen, hcc⟩ := ref_row h hv (show σ.rw b = some r by rw [hrw]; exact h1) hk hl
    rw [he] at hw hlen hcc
    refine .pure _ _ (.sl ad n c k _ f hlen hw ?_ hcc)
    refine hra.mono (Agree.refl _ _) fun x hx => ?_
    obtain ⟨_, _, q⟩ := h.rw b r p (by rw [hrw]; exact h1) hp
    rcases q with q | ⟨q, _⟩
    · have := hx.2; omega
    · rw [hx.1]; exact q hf
  | agg hl _ ih =>
    intro v hv
    obtain ⟨cs, rfl, h1, h2⟩ := hv.agg_inv
    refine .agg cs _ (by omega) fun i u y e1 e2 => ?_
    have hi := (List.getElem?_eq_some_iff.1 e2).1
    exact ih i _ y (List.getElem?_eq_getElem (by omega)) e2 (h2 i u _ e1 (List.getElem?_eq_getElem (by omega)))
  | tup hl _ ih =>
    intro v hv
    obtain ⟨cs, rfl, h1, h2⟩ := hv.tup_inv
    refine .tup cs _ (by omega) fun i u y e1 e2 => ?_
    have hi := (List.getElem?_eq_some_iff.1 e2).1
    exact ih i _ y (List.getElem?_eq_getElem (by omega)) e2 (h2 i u _ e1 (List.getElem?_eq_getElem (by omega)))
end

/-- A row that nobody writes any more. -/
theorem Wk.frz {σ : AS} {b : Nat} {r : ARow} (hb : getO σ.rw b = some r) (hf : r.fro = false) : Wk σ ⟨σ.tm, σ.bx, setO σ.rw b (some ⟨true, r.k, r.es⟩), σ.nb, σ.nr⟩ := by
  intro w0 N ρ F a w hs
  have e : (AS.fs ⟨σ.tm, σ.bx, setO σ.rw b (some ⟨true, r.k, r.es⟩), σ.nb, σ.nr⟩) = σ.fs.setR b (some { r with fro := true }) :=
    FS.ext' (fun _ => rfl) (fun _ => rfl) (fun x => by simp only [AS.fs, FS.setR, getO_setO])
  have hwf : WF ⟨σ.tm, σ.bx, setO σ.rw b (some ⟨true, r.k, r.es⟩), σ.nb, σ.nr⟩ := ⟨hs.wf.1, fun x c hx => by
    simp only [AS.fs, getO_setO] at hx
    split at hx
    · rename_i hxb; subst hxb; exact hs.wf.2 x r hb
    · exact hs.wf.2 x c hx⟩
  cases hp : ρ.r b with
  | none => exact ⟨ρ, F, ⟨by
      rw [e]
      refine hs.s.phantom rfl (fun _ _ _ => rfl) (fun x p hx => ?_)
      simp only [FS.setR]
      split
      · rename_i hxb; subst hxb; rw [hp] at hx; cases hx
      · rfl, hs.b, hs.r, hwf⟩, fun _ hx => hx, fun _ hx => .inl hx⟩
  | some p =>
    obtain ⟨F', h1, h2, h3, h4⟩ := hs.s.freeze (b := b) (r := r) (p := p) hb hp hf
    exact ⟨ρ, F', ⟨by rw [e]; exact h4, hs.b, hs.r, hwf⟩, h1, h2⟩
/-- A temporary, told anew. -/
theorem Wk.tmp {σ : AS} {t : Nat} {y : AV} (h : Cl σ.rw (gT σ.tm t) y) : Wk σ ⟨(t, y) :: σ.tm, σ.bx, σ.rw, σ.nb, σ.nr⟩ := by
  rw [gT_eq] at h
  intro w0 N ρ F a w hs
  refine ⟨ρ, F, ⟨⟨hs.s.sz, hs.s.df, fun u => ?_, hs.s.bx, hs.s.rw, hs.s.ib, hs.s.ir, hs.s.ibr, hs.s.lb, hs.s.lr, hs.s.fl, hs.s.bel⟩, hs.b, hs.r, hs.wf⟩, fun _ hx => hx, fun _ hx => .inl hx⟩
  show Rep _ _ _ _ _ (if t = u then y else getT σ.tm u)
  split
  · rename_i e; subst e; exact Cl.rep hs.s rfl h (hs.s.tm t)
  · exact hs.s.tm u
/-- A box, told anew. -/
theorem Wk.box {σ : AS} {b : Nat} {cs cs' : List AV} (hb : getO σ.bx b = some cs) (h : ClL σ.rw cs cs') : Wk σ ⟨σ.tm, setO σ.bx b (some cs'), σ.rw, σ.nb, σ.nr⟩ := by
  intro w0 N ρ F a w hs
  obtain ⟨h1, h2⟩ := clL_get h
  refine ⟨ρ, F, ⟨⟨hs.s.sz, hs.s.df, hs.s.tm, fun x c g e1 e2 => ?_, hs.s.rw, hs.s.ib, hs.s.ir, hs.s.ibr, hs.s.lb, hs.s.lr, hs.s.fl, hs.s.bel⟩, hs.b, hs.r, ⟨fun x c e => ?_, hs.wf.2⟩⟩, fun _ hx => hx, fun _ hx => .inl hx⟩
  · simp only [AS.fs, getO_setO] at e1
    split at e1
    · rename_i e; subst e; cases e1
      obtain ⟨k1, k2, arr, T, k3, k4, k5⟩ := hs.s.bx x cs g hb e2
      refine ⟨k1, k2, arr, T, k3, by omega, fun i u y a1 a2 => ?_⟩
      have hi := (List.getElem?_eq_some_iff.1 a2).1
      exact Cl.rep hs.s rfl (h2 i _ y (List.getElem?_eq_getElem (by omega)) a2) (k5 i u _ a1 (List.getElem?_eq_getElem (by omega)))
    · exact hs.s.bx x c g e1 e2
  · simp only [AS.fs, getO_setO] at e
    split at e
    · rename_i q; subst q; exact hs.wf.1 x cs hb
    · exact hs.wf.1 x c e
/-- A nil slice, told as an own row without elements. -/
theorem Wk.nilT {σ : AS} {t : Nat} (k : Nat) (h : gT σ.tm t = .nil) : Wk σ ⟨(t, .ref σ.nr k 0 0) :: σ.tm, σ.bx, setO σ.rw σ.nr (some ⟨false, k, []⟩), σ.nb, σ.nr + 1⟩ := by
  rw [gT_eq] at h
  intro w0 N ρ F a w hs
  have hn := hs.r σ.nr (Nat.le_refl _)
  have q := hs.s.newRow (p := ⟨0, 0, 0⟩) (r := ⟨false, k, []⟩) hn (Below.refl _ _) (fun e => absurd e (Nat.lt_irrefl _)) ⟨by simp, by simp [flat], .inl rfl⟩
  refine ⟨ρ.addR σ.nr ⟨0, 0, 0⟩, F, ⟨⟨q.sz, q.df, fun u => ?_, q.bx, fun b r p e1 e2 => q.rw b r p ?_ e2, q.ib, fun b b' p p' r r' e1 e2 e3 e4 => q.ir b b' p p' r r' e1 e2 ?_ ?_, q.ibr, q.lb, q.lr, q.fl, q.bel⟩, hs.b, fun b hb => ?_, ⟨hs.wf.1, fun b c e => ?_⟩⟩, fun _ hx => hx, fun _ hx => .inl hx⟩
  · show Rep _ _ _ _ _ (if t = u then _ else getT σ.tm u)
    split
    · rename_i e; subst e
      have := hs.s.tm t
      rw [show σ.fs.tm t = .nil from h] at this
      rw [this.nil_inv]
      exact .ref none 0 σ.nr k 0 0 ⟨0, 0, 0⟩ (by simp [Env.addR]) (Nat.le_refl _) (Nat.zero_le _) (by simp) (fun _ => rfl) (fun e => absurd rfl e)
    · exact q.tm u
  · rw [← e1]; simp only [AS.fs, FS.setR, getO_setO]
  · rw [← e3]; simp only [AS.fs, FS.setR, getO_setO]
  · rw [← e4]; simp only [AS.fs, FS.setR, getO_setO]
  · show (if b = σ.nr then _ else ρ.r b) = none
    rw [if_neg (by have : σ.nr + 1 ≤ b := hb; omega)]; exact hs.r b (by have : σ.nr + 1 ≤ b := hb; omega)
  · simp only [AS.fs, getO_setO] at e
    show b < σ.nr + 1
    split at e
    · omega
    · have := hs.wf.2 b c e; omega

/-- A state told anew, in a form that is computed easily. -/
def TmL (σ : List (Nat × AV)) (mb mr : List Nat) (nb nr : Nat) : List (Nat × AV) → Prop
  | [] => True
  | (t, v) :: l => (renOkT v = true ∧ ALe (gT σ t) (renT mb mr nb nr v)) ∧ TmL σ mb mr nb nr l
def BxL (σb : List (Option (List AV))) (mb' mr : List Nat) (nb nr : Nat) : List Nat → List (Option (List AV)) → Prop
  | _, [] => True
  | [], _ :: _ => False
  | m :: mb, none :: l => BxL σb mb' mr nb nr mb l
  | m :: mb, some cs :: l => (match gO σb m with | some cs' => CsLe mb' mr nb nr cs' cs | none => False) ∧ BxL σb mb' mr nb nr mb l
def RwL (σr : List (Option ARow)) : List Nat → List (Option ARow) → Prop
  | _, [] => True
  | [], _ :: _ => False
  | m :: mr, none :: l => RwL σr mr l
  | m :: mr, some r :: l => gO σr m = some r ∧ RwL σr mr l
theorem tmL_le {σ : List (Nat × AV)} {mb mr : List Nat} {nb nr : Nat} : ∀ {l : List (Nat × AV)}, TmL σ mb mr nb nr l → TmLe σ mb mr nb nr l
  | [], _ => trivial
  | (t, v) :: l, h => by
    have h1 := h.1; rw [gT_eq] at h1
    exact ⟨h1, tmL_le h.2⟩
theorem bxL_le {σb : List (Option (List AV))} {mb' mr : List Nat} {nb nr : Nat} : ∀ {mb : List Nat} {l : List (Option (List AV))}, BxL σb mb' mr nb nr mb l → BxLe σb mb' mr nb nr mb l
  | mb, [], _ => by cases mb <;> trivial
  | [], _ :: _, h => h.elim
  | m :: mb, none :: l, h => bxL_le (mb := mb) (l := l) h
  | m :: mb, some cs :: l, h => by
    have h1 := h.1; rw [gO_eq] at h1
    exact ⟨h1, bxL_le h.2⟩
theorem rwL_le {σr : List (Option ARow)} : ∀ {mr : List Nat} {l : List (Option ARow)}, RwL σr mr l → RwLe σr mr l
  | mr, [], _ => by cases mr <;> trivial
  | [], _ :: _, h => h.elim
  | m :: mr, none :: l, h => rwL_le (mr := mr) (l := l) h
  | m :: mr, some r :: l, h => by
    have h1 := h.1; rw [gO_eq] at h1
    exact ⟨h1, rwL_le h.2⟩
theorem Wk.re {tm tm' : List (Nat × AV)} {bx bx' : List (Option (List AV))} {rw rw' : List (Option ARow)} {nb nr nb' nr' : Nat} (mb mr : List Nat) (h1 : TmL tm mb mr nb nr tm') (h2 : BxL bx mb mr nb nr mb bx') (h3 : RwL rw mr rw') (hb : mb.Nodup) (hr : mr.Nodup) (hbl : mb.length ≤ nb') (hrl : mr.length ≤ nr') : Wk ⟨tm, bx, rw, nb, nr⟩ ⟨tm', bx', rw', nb', nr'⟩ :=
  Wk.ren mb mr (tmL_le h1) (bxL_le h2) (rwL_le h3) hb hr hbl hrl

/-! ### Results -/
inductive RV where
  | t (n : Nat)
  | c (n : Nat) (agg : Bool) (sz : Nat)
def tellR (P : Program) : List ResultVar → Option (List RV)
  | [] => some []
  | .tmp t :: l => (tellR P l).map (RV.t t :: ·)
  | .cell t ty :: l => match aggOf P ty, szOf P ty with
    | some g, some n => (tellR P l).map (RV.c t g n :: ·)
    | _, _ => none
def resR (tm : List (Nat × AV)) (bx : List (Option (List AV))) (rw : List (Option ARow)) : List RV → List AV → Prop
  | [], [] => True
  | .t t :: l, v :: vs => gT tm t = v ∧ resR tm bx rw l vs
  | .c t g n :: l, v :: vs => (match gT tm t with
    | .bptr b off => match gO bx b with
      | some cs => loadOk g n (cs.drop off) = true ∧ (loadC g n (cs.drop off)).av = v
      | none => False
    | .aptr b m => match gO rw b with
      | some r => g = true ∧ n = m ∧ r.k = 1 ∧ r.es.length = n ∧ r.es.all scal = true ∧ .agg r.es = v
      | none => False
    | _ => False) ∧ resR tm bx rw l vs
  | _, _ => False
theorem resR_of {P : Program} {σ : AS} : ∀ {rs : List ResultVar} {l : List RV} {vs : List AV}, tellR P rs = some l → resR σ.tm σ.bx σ.rw l vs → resOf P σ rs = some vs
  | [], l, vs, h, hr => by
    cases h
    cases vs with
    | nil => rfl
    | cons => exact hr.elim
  | .tmp t :: rs, l, vs, h, hr => by
    simp only [tellR, Option.map_eq_some_iff] at h
    obtain ⟨l', h, rfl⟩ := h
    cases vs with
    | nil => exact hr.elim
    | cons v vs =>
      obtain ⟨h1, h2⟩ := hr
      rw [gT_eq] at h1
      simp only [resOf, resR_of h h2, h1, Option.map_some]
  | .cell t ty :: rs, l, vs, h, hr => by
    simp only [tellR] at h
    split at h
    · rename_i g n hg hn
      obtain ⟨l', h9, rfl⟩ := Option.map_eq_some_iff.1 h
      cases vs with
      | nil => exact hr.elim
      | cons v vs =>
        obtain ⟨h1, h2⟩ := hr
        rw [gT_eq, gO_eq, gO_eq] at h1
        simp only [resOf, hg, hn]
        split at h1
        · rename_i b off ht
          split at h1
          · rename_i cs hb
            obtain ⟨k1, k2⟩ := h1
            simp only [ht, hb, k1, if_true, resR_of h9 h2, k2, Option.map_some]
          · exact h1.elim
        · rename_i b m ht
          split at h1
          · rename_i r hb
            obtain ⟨rfl, k1, k2, k3, k4, k5⟩ := h1
            simp only [ht, hb]
            rw [if_pos ⟨k1, k2, k3, k4⟩, resR_of h9 h2, k5]; rfl
          · exact h1.elim
        · exact h1.elim
    · cases h
def rowsAre (rw : List (Option ARow)) : List Nat → List ARow → Prop
  | [], [] => True
  | m :: mr, r :: H => (r.fro = false ∧ gO rw m = some r) ∧ rowsAre rw mr H
  | _, _ => False
theorem rowsAre_get {rw : List (Option ARow)} : ∀ {mr : List Nat} {H : List ARow}, rowsAre rw mr H → mr.length = H.length ∧ ∀ (i : Nat) (row : ARow) (m : Nat), H[i]? = some row → mr[i]? = some m → row.fro = false ∧ getO rw m = some row
  | [], [], _ => ⟨rfl, fun i r m e => by cases e⟩
  | [], _ :: _, h => h.elim
  | _ :: _, [], h => h.elim
  | m :: mr, r :: H, h => by
    obtain ⟨g1, g2⟩ := rowsAre_get h.2
    refine ⟨by simp [g1], fun i row x e1 e2 => ?_⟩
    cases i with
    | zero =>
      simp at e1 e2; subst e1 e2
      have := h.1; rw [gO_eq] at this; exact this
    | succ i => exact g2 i row x (by simpa using e1) (by simpa using e2)
/-- The walk has ended: the results are told. -/
theorem RetOk.of {P : Program} {rs : List ResultVar} {σ : AS} {r : AV} {H : List ARow} {l : List RV} {vs : List AV} (hr : tellR P rs = some l) (mr : List Nat) (h1 : resR σ.tm σ.bx σ.rw l vs) (h2 : ALe (one vs) (renT [] mr σ.nb σ.nr r)) (h3 : renOkT r = true) (h4 : resT r = true) (h5 : rowsAre σ.rw mr H) (h6 : mr.Nodup) : RetOk P rs σ r H :=
  ⟨σ, vs, mr, Wk.refl σ, resR_of hr h1, h2, h3, h4, (rowsAre_get h5).1, h6, (rowsAre_get h5).2⟩
theorem RetOk.wk {P : Program} {rs : List ResultVar} {σ τ : AS} {r : AV} {H : List ARow} (hw : Wk σ τ) (h : RetOk P rs τ r H) : RetOk P rs σ r H := by
  obtain ⟨υ, vs, mr, h1, h2⟩ := h.ok
  exact ⟨υ, vs, mr, hw.trans h1, h2⟩
/-- What is to be shown of a walk's end. -/
structure QF (P : Program) (rs : List ResultVar) (r : AV) (H : List ARow) (x : AX) (σ : AS) : Prop where
  hx : x = .n ∨ x = .r
  h : RetOk P rs σ r H
theorem QF.r {P : Program} {rs : List ResultVar} {σ : AS} {r : AV} {H : List ARow} (h : RetOk P rs σ r H) : QF P rs r H .r σ := ⟨.inr rfl, h⟩
theorem QF.n {P : Program} {rs : List ResultVar} {σ : AS} {r : AV} {H : List ARow} (h : RetOk P rs σ r H) : QF P rs r H .n σ := ⟨.inl rfl, h⟩
/-- A contract out of a walk of pieces. -/
theorem acall_walk {P : Program} {f : Nat} {fn : Func} {ac : ACode} {N : Nat} {args : List AV} {r : AV} {H : List ARow} (hf : P.funcs[f]? = some fn) (hp : plainFn P f = true) (hc : fn.body.bind (compC P N) = some ac) (hN : N = max args.length fn.ntmps)
    (h : WL P N [ac] (QF P fn.results.toList r H) ⟨enum 0 args, [], [], 0, 0⟩) : ACall P f args r H := by
  obtain ⟨c, hb, hc⟩ := Option.bind_eq_some_iff.1 hc
  exact acall_of hf hp hb hc hN ((W.of h).mono fun x σ hq => ⟨hq.hx, hq.h⟩)

/-- The same, of a walk that own memory is handed to. -/
structure QM (P : Program) (rs : List ResultVar) (v : AV) (B' : List (List AV)) (K : List (Option ARow)) (H' : List ARow) (gb : Nat → Nat) (pr : Nat → Pl) (x : AX) (σ : AS) : Prop where
  hx : x = .n ∨ x = .r
  h : RetM P rs σ v B' K H' gb pr
theorem QM.r {P : Program} {rs : List ResultVar} {σ : AS} {v : AV} {B' : List (List AV)} {K : List (Option ARow)} {H' : List ARow} {gb : Nat → Nat} {pr : Nat → Pl} (h : RetM P rs σ v B' K H' gb pr) : QM P rs v B' K H' gb pr .r σ := ⟨.inr rfl, h⟩
theorem QM.n {P : Program} {rs : List ResultVar} {σ : AS} {v : AV} {B' : List (List AV)} {K : List (Option ARow)} {H' : List ARow} {gb : Nat → Nat} {pr : Nat → Pl} (h : RetM P rs σ v B' K H' gb pr) : QM P rs v B' K H' gb pr .n σ := ⟨.inl rfl, h⟩
theorem mcall_walk {P : Program} {f : Nat} {fn : Func} {ac : ACode} {N : Nat} {args : List AV} {B : List (List AV)} {H : List ARow} {v : AV} {B' : List (List AV)} {K : List (Option ARow)} {H' : List ARow} (hf : P.funcs[f]? = some fn) (hp : plainFn P f = true) (hc : fn.body.bind (compC P N) = some ac) (hN : N = max args.length fn.ntmps)
    (hBl : B'.length = B.length) (hKl : K.length = H.length)
    (h : ∀ gb pr, WL P N [ac] (QM P fn.results.toList v B' K H' gb pr) ⟨enum 0 args ++ (ghB gb 0 B.length ++ ghR pr 0 H.length), B.map some, H.map some, B.length, H.length⟩) : MCall P f args B H v B' K H' := by
  obtain ⟨c, hb, hc⟩ := Option.bind_eq_some_iff.1 hc
  exact mcall_of hf hp hb hc hN hBl hKl fun gb pr => (W.of (h gb pr)).mono fun x σ hq => ⟨hq.hx, hq.h⟩
theorem RetM.wk {P : Program} {rs : List ResultVar} {σ τ : AS} {v : AV} {B' : List (List AV)} {K : List (Option ARow)} {H' : List ARow} {gb : Nat → Nat} {pr : Nat → Pl} (hw : Wk σ τ) (h : RetM P rs τ v B' K H' gb pr) : RetM P rs σ v B' K H' gb pr := by
  obtain ⟨tm, nb, nr, vs, X, h1, h2⟩ := h.ok
  exact ⟨⟨tm, nb, nr, vs, X, hw.trans h1, h2⟩, h.mt, h.mb, h.nf⟩
def nfL : List (Option ARow) → Prop
  | [] => True
  | some r :: l => r.fro = false ∧ nfL l
  | none :: l => nfL l
theorem nfL_get : ∀ {l : List (Option ARow)}, nfL l → noFro l
  | [], _, i, r, e => by cases e
  | x :: l, h, i, r, e => by
    cases i with
    | zero => simp at e; subst e; exact h.1
    | succ i =>
      have h2 : nfL l := by cases x <;> first | exact h | exact h.2
      exact nfL_get h2 i r (by simpa using e)
theorem RetM.finX {P : Program} {rs : List ResultVar} {v : AV} {B' : List (List AV)} {K : List (Option ARow)} {H' : List ARow} {gb : Nat → Nat} {pr : Nat → Pl} {l : List RV} {vs : List AV} {tm : List (Nat × AV)} {nb nr : Nat} (X : List (Option (List AV))) (hr : tellR P rs = some l) (h1 : resR tm (B'.map some ++ X) (K ++ H'.map some) l vs) (h2 : ALe (one vs) v) (hib : idBs tm gb 0 B') (hir : idRs tm pr 0 K)
    (mt : mcT B'.length (K ++ H'.map some) v = true) (mb : (B'.all fun c => c.all (mcC B'.length (K ++ H'.map some))) = true) (nf : nfL (K ++ H'.map some)) : RetM P rs ⟨tm, B'.map some ++ X, K ++ H'.map some, nb, nr⟩ v B' K H' gb pr := by
  refine ⟨⟨tm, nb, nr, vs, X, Wk.refl _, resR_of (σ := ⟨tm, B'.map some ++ X, K ++ H'.map some, nb, nr⟩) hr h1, h2, hib, hir⟩, mt, fun c hc x hx => ?_, nfL_get nf⟩
  rw [List.all_eq_true] at mb
  exact List.all_eq_true.1 (mb c hc) x hx

theorem RetM.fin {P : Program} {rs : List ResultVar} {v : AV} {B' : List (List AV)} {K : List (Option ARow)} {H' : List ARow} {gb : Nat → Nat} {pr : Nat → Pl} {l : List RV} {vs : List AV} {tm : List (Nat × AV)} {nb nr : Nat} (hr : tellR P rs = some l) (h1 : resR tm (B'.map some) (K ++ H'.map some) l vs) (h2 : ALe (one vs) v) (hib : idBs tm gb 0 B') (hir : idRs tm pr 0 K)
    (mt : mcT B'.length (K ++ H'.map some) v = true) (mb : (B'.all fun c => c.all (mcC B'.length (K ++ H'.map some))) = true) (nf : nfL (K ++ H'.map some)) : RetM P rs ⟨tm, B'.map some, K ++ H'.map some, nb, nr⟩ v B' K H' gb pr := by
  have e := List.append_nil (B'.map some)
  have := RetM.finX (P := P) (nb := nb) (nr := nr) [] hr (by rw [e]; exact h1) h2 hib hir mt mb nf
  rw [e] at this
  exact this

/-- A slice without elements: it is nil, or it isn't. -/
theorem acall_empty {P : Program} {f : Nat} {args : List AV} {r : AV} {H : List ARow} (i : Nat) {vol : Bool} {k : Nat} (hi : args[i]? = some (.sl vol k [])) (h1 : ACall P f (args.set i .nil) r H) (h2 : ∀ a c, c ≤ maxLen → ACall P f (args.set i (.raw (.slice (some a) 0 c))) r H) : ACall P f args r H := by
  refine ⟨h1.1, fun w F vs hF hl hr => ?_⟩
  have hil := (List.getElem?_eq_some_iff.1 hi).1
  have hu : vs[i]? = some (vs[i]'(by omega)) := Array.getElem?_eq_getElem (by omega)
  obtain ⟨a, c, g, hv, _, hra, _⟩ := (hr i _ _ hu hi).sl_inv
  cases a with
  | none =>
    have hc := hra.nil rfl
    subst hc
    refine h1.2 w F vs hF (by simpa using hl) fun j u av e1 e2 => ?_
    by_cases hj : j = i
    · subst hj
      rw [hu] at e1; cases e1
      rw [List.getElem?_set_self (by omega)] at e2; cases e2
      rw [hv]; exact .pure _ _ .nil
    · rw [List.getElem?_set_ne (by omega)] at e2; exact hr j u av e1 e2
  | some ad =>
    refine (h2 ad c hra.max).2 w F vs hF (by simpa using hl) fun j u av e1 e2 => ?_
    by_cases hj : j = i
    · subst hj
      rw [hu] at e1; cases e1
      rw [List.getElem?_set_self (by omega)] at e2; cases e2
      rw [hv]; exact .pure _ _ (.raw _)
    · rw [List.getElem?_set_ne (by omega)] at e2; exact hr j u av e1 e2
section
variable {P : Program} {N : Nat} {l : List AO} {y : List ACode} {Q : AX → AS → Prop} {tm : List (Nat × AV)} {bx : List (Option (List AV))} {rw : List (Option ARow)} {nb nr : Nat} {need : List (List Nat)} {hs : List HE}
/-- A value, told anew. -/
theorem RG.e {t : Nat} {ai : AI} {c : Prop} {v v' : AV} (hq : quiet ai = true) (h : aistep false (lookT (gT tm)) (gO bx) (gO rw) nb nr ai = ⟨c, v, 0, 0, []⟩) (hok : c) (hv : v = v')
    (k : RG P N l y ⟨(t, v') :: tm, bx, rw, nb, nr⟩ Q) : RG P N (⟨some t, ai, none⟩ :: l) y ⟨tm, bx, rw, nb, nr⟩ Q := RG.v hq h hok (hv ▸ k)
theorem DG.e {t : Nat} {ai : AI} {c : Prop} {v v' : AV} {nd : List Nat} (hq : quiet ai = true) (h : aistep false (lookT (gT tm)) (gO bx) (gO rw) nb nr ai = ⟨c, v, 0, 0, []⟩) (hok : c) (hv : v = v')
    (hfr : frees hs ⟨⟨some t, ai, none⟩, ⟨gT tm, gO bx, gO rw⟩, ⟨c, v', 0, 0, []⟩, nb, nr⟩ nd)
    (k : DG P N l need (hs ++ [⟨⟨some t, ai, none⟩, ⟨gT tm, gO bx, gO rw⟩, ⟨c, v', 0, 0, []⟩, nb, nr⟩]) y ⟨(t, v') :: tm, bx, rw, nb, nr⟩ Q) : DG P N (⟨some t, ai, none⟩ :: l) (nd :: need) hs y ⟨tm, bx, rw, nb, nr⟩ Q := by
  subst hv; exact DG.v hq h hok hfr k
theorem cptr_of {vol : Bool} {e x : AV} {l : List AV} (h : e = x) (hl : x.cells = l) : AV.cptr vol e.cells = .cptr vol l := by rw [h, hl]
theorem sl_of {v : Bool} {k : Nat} {a b : List AV} (h : a = b) : AV.sl v k a = .sl v k b := by rw [h]
theorem ix_of {b k i j o : Nat} (h : i = j) : AV.rptr b k i o = .rptr b k j o := by rw [h]
theorem at_map {α : Type} (f : α → AV) (l : List α) (i : Nat) (x : α) (h : l[i]? = some x) {j : Nat} (hj : j = i) : (l.map f)[j]?.getD .any = f x := by subst hj; simp [h]
end
end Go.Proofs.Ytjacmhaeemhinaa

namespace Go.Proofs.Ytjacmhaeemhinaa
open Go.RowKit
set_option linter.unusedVariables false
set_option linter.unusedSimpArgs false

theorem take_len {α : Type} {l : List α} {n : Nat} (h : l.length = n) : (l.drop 0).take n = l := by subst h; simp
def by8 (c : UInt8) : AV := .int .u8 c.toNat
def bs (l : List UInt8) : AV := .sl false 1 (l.map by8)
theorem by8_pure (l : List UInt8) : (l.map by8).all pureV = true := by simp [by8, pureV, pureC]
theorem k_nf : (!false) = true := rfl
theorem k_nt : (!true) = false := rfl

theorem val_refc (b k lo n c : Nat) : (AV.refc b k lo n c).val = .refc b k lo n c := rfl
section
variable {P : Program} {N : Nat} {l : List AO} {y : List ACode} {Q : AX → AS → Prop} {tm : List (Nat × AV)} {bx : List (Option (List AV))} {rw : List (Option ARow)} {nb nr : Nat} {need : List (List Nat)} {hs : List HE}
/-- A step: what it gives, what it makes, what it changes. -/
structure ST (tm : List (Nat × AV)) (bx : List (Option (List AV))) (rw : List (Option ARow)) (nb nr : Nat) (ai : AI) (v : AV) (db dr : Nat) (up : List Upd) : Prop where
  nc : isCall ai = false
  ok : (aistep false (lookT (gT tm)) (gO bx) (gO rw) nb nr ai).ok
  av : (aistep false (lookT (gT tm)) (gO bx) (gO rw) nb nr ai).av = v
  b : (aistep false (lookT (gT tm)) (gO bx) (gO rw) nb nr ai).nb = db
  r : (aistep false (lookT (gT tm)) (gO bx) (gO rw) nb nr ai).nr = dr
  u : (aistep false (lookT (gT tm)) (gO bx) (gO rw) nb nr ai).up = up
theorem ST.eq {ai : AI} {v : AV} {db dr : Nat} {up : List Upd} (h : ST tm bx rw nb nr ai v db dr up) : aistep false (lookT (gT tm)) (gO bx) (gO rw) nb nr ai = ⟨(aistep false (lookT (gT tm)) (gO bx) (gO rw) nb nr ai).ok, v, db, dr, up⟩ := by
  obtain ⟨_, _, h1, h2, h3, h4⟩ := h
  generalize aistep false (lookT (gT tm)) (gO bx) (gO rw) nb nr ai = x at *
  cases x; subst h1 h2 h3 h4; rfl
/-- A slice's elements. -/
inductive Els (rw : List (Option ARow)) (k : Nat) : AV → List AV → Prop
  | sl (vol : Bool) (es : List AV) : Els rw k (.sl vol k es) es
  | csl (vol : Bool) (es : List AV) : Els rw k (.csl vol k es) es
  | nil : Els rw k .nil []
  | raw (a : Addr) (c : Nat) (h : c ≤ maxLen) : Els rw k (.raw (.slice (some a) 0 c)) []
  | ref {b lo n : Nat} {r : ARow} {es : List AV} (h : gO rw b = some r) (hk : r.k = k) (hl : lo + n ≤ r.es.length) (he : (r.es.drop lo).take n = es) : Els rw k (.ref b k lo n) es
  | refc {b lo n c : Nat} {r : ARow} {es : List AV} (h : gO rw b = some r) (hk : r.k = k) (hl : lo + n ≤ r.es.length) (he : (r.es.drop lo).take n = es) : Els rw k (.refc b k lo n c) es
theorem Els.els {k : Nat} {v : AV} {new : List AV} (h : Els rw k v new) : ∃ k', Go.Proofs.Ytjacmhaeemhinaa.els (gO rw) v = some (k', new) ∧ (k' = k ∨ new = []) := by
  cases h with
  | sl | csl => exact ⟨k, rfl, .inl rfl⟩
  | nil => exact ⟨0, rfl, .inr rfl⟩
  | raw a c h => exact ⟨0, by simp [Go.Proofs.Ytjacmhaeemhinaa.els, h], .inr rfl⟩
  | ref h hk hl he => exact ⟨k, by simp [Go.Proofs.Ytjacmhaeemhinaa.els, h, hk, hl, he], .inl rfl⟩
  | refc h hk hl he => exact ⟨k, by simp [Go.Proofs.Ytjacmhaeemhinaa.els, h, hk, hl, he], .inl rfl⟩
def refId : AV → List Nat
  | .ref b _ _ _ => [b]
  | _ => []
theorem refId_eq : (fun v : AV => match v with | .ref b _ _ _ => [b] | _ => ([] : List Nat)) = refId := funext fun v => by cases v <;> rfl
theorem val_nil : (AV.nil).val = .nil := rfl
theorem val_ref (b k lo n : Nat) : (AV.ref b k lo n).val = .ref b k lo n := rfl
theorem val_rptr (b k lo n : Nat) : (AV.rptr b k lo n).val = .rptr b k lo n := rfl
theorem val_csl (v : Bool) (k : Nat) (es : List AV) : (AV.csl v k es).val = .csl v k es := rfl
theorem val_int (k : IntKind) (n : Int) : (AV.int k n).val = .int k n := rfl
/-- A part of an element, once it is laid into a row. -/
inductive Fz (rw : List (Option ARow)) : AV → AV → List Nat → Prop
  | pure {v : AV} (h : pureC v = true) : Fz rw v v []
  | ref {b k lo n : Nat} {r : ARow} {es : List AV} (h : gO rw b = some r) (hk : r.k = k) (hl : lo + n ≤ r.es.length) (he : (r.es.drop lo).take n = es) : Fz rw (.ref b k lo n) (.sl false k es) [b]
inductive FzL (rw : List (Option ARow)) : List AV → List AV → List Nat → Prop
  | nil : FzL rw [] [] []
  | cons {v v' : AV} {l l' : List AV} {i j ij : List Nat} (h : Fz rw v v' i) (hl : FzL rw l l' j) (he : i ++ j = ij) : FzL rw (v :: l) (v' :: l') ij
inductive FzV (rw : List (Option ARow)) : AV → AV → List Nat → Prop
  | c {v v' : AV} {i : List Nat} (h : Fz rw v v' i) : FzV rw v v' i
  | agg {l l' : List AV} {i : List Nat} (h : FzL rw l l' i) : FzV rw (.agg l) (.agg l') i
theorem Fz.spec {v v' : AV} {i : List Nat} (h : Fz rw v v' i) : frzC (gO rw) v = some v' ∧ refId v = i ∧ ∀ l, v ≠ .agg l := by
  cases h with
  | pure h =>
    refine ⟨?_, ?_, ?_⟩
    · cases v <;> first | (cases h; done) | (unfold frzC; dsimp only; rw [if_pos h])
    · cases v <;> first | rfl | (cases h; done)
    · rintro l rfl; simp [pureC] at h
  | ref h hk hl he => exact ⟨by simp [frzC, h, hk, hl, he], rfl, by simp⟩
theorem FzL.spec {l l' : List AV} {i : List Nat} (h : FzL rw l l' i) : l.mapM (frzC (gO rw)) = some l' ∧ l.flatMap refId = i := by
  induction h with
  | nil => exact ⟨rfl, rfl⟩
  | cons h _ he ih =>
    obtain ⟨h1, h2, _⟩ := h.spec
    exact ⟨by rw [List.mapM_cons, h1, ih.1]; rfl, by rw [List.flatMap_cons, ih.2, h2, he]⟩
theorem FzV.spec {v v' : AV} {i : List Nat} (h : FzV rw v v' i) : frzV (gO rw) v = some v' ∧ frzIds v = i := by
  cases h with
  | c h =>
    obtain ⟨h1, h2, h3⟩ := h.spec
    refine ⟨by cases v <;> first | exact h1 | exact absurd rfl (h3 _), ?_⟩
    rw [← h2]; cases v <;> first | rfl | exact absurd rfl (h3 _)
  | agg h =>
    obtain ⟨h1, h2⟩ := h.spec
    exact ⟨by simp only [frzV, h1, Option.map_some], by rw [← h2, ← refId_eq]; rfl⟩
inductive FzVs (rw : List (Option ARow)) : List AV → List AV → List Nat → Prop
  | nil : FzVs rw [] [] []
  | cons {v v' : AV} {l l' : List AV} {i j ij : List Nat} (h : FzV rw v v' i) (hl : FzVs rw l l' j) (he : i ++ j = ij) : FzVs rw (v :: l) (v' :: l') ij
/-- Are these values of k cells each, that may be laid into a row? -/
def wids (k : Nat) : List AV → Prop
  | [] => True
  | v :: l => (okV v = true ∧ v.cells.length = k) ∧ wids k l
theorem wids_all {k : Nat} : ∀ {l : List AV}, wids k l → ∀ v ∈ l, okV v = true ∧ v.cells.length = k
  | [], _, v, hv => by cases hv
  | x :: l, h, v, hv => (List.mem_cons.1 hv).elim (fun e => e ▸ h.1) (fun hv => wids_all h.2 v hv)
theorem FzVs.spec {l l' : List AV} {i : List Nat} (h : FzVs rw l l' i) : l.mapM (frzV (gO rw)) = some l' ∧ l.flatMap frzIds = i := by
  induction h with
  | nil => exact ⟨rfl, rfl⟩
  | cons h _ he ih =>
    obtain ⟨h1, h2⟩ := h.spec
    exact ⟨by rw [List.mapM_cons, h1, ih.1]; rfl, by rw [List.flatMap_cons, ih.2, h2, he]⟩
theorem mapM_map' {α : Type} (f : AV → Option α) (g : Opd → AV) : ∀ l : List Opd, l.mapM (fun x => f (g x)) = (l.map g).mapM f
  | [] => rfl
  | x :: l => by simp only [List.mapM_cons, List.map_cons, mapM_map' f g l]
/-- A store into a box. -/
theorem ST.sb {n b off : Nat} {a x : Opd} {v : AV} {cells cells' : List AV} (ha : lookT (gT tm) a = .bptr b off) (hb : gO bx b = some cells) (hx : lookT (gT tm) x = v) (hc : v.cond) (h1 : okV v.val = true) (h2 : v.val.cells.length = n) (h3 : off + n ≤ cells.length) (hp : putCells cells off v.val.cells = cells') :
    ST tm bx rw nb nr (.store n a x) .any 0 0 [.B b cells'] := by
  have e : (AV.bptr b off).val = .bptr b off := rfl
  refine ⟨rfl, ?_, ?_, ?_, ?_, ?_⟩ <;> simp only [aistep, ha, hb, hx, e, hp]
  exact ⟨⟨trivial, hc, h1, h2⟩, h3⟩
/-- A literal: its elements. -/
theorem ST.bsl {k : Nat} {xs : List Opd} {vs es : List AV} {ids : List Nat} (hv : (xs.map fun x => (lookT (gT tm) x).val) = vs) (hc : conds (lookT (gT tm)) xs) (hw : wids k vs) (hk : 0 < k) (hf : FzVs rw vs es ids) :
    ST tm bx rw nb nr (.bsl k xs) (.ref nr k 0 es.length) 0 1 (frzUp (gO rw) ids ++ [.R nr (some ⟨false, k, es⟩)]) := by
  obtain ⟨h1, h2⟩ := hf.spec
  have e1 : (xs.mapM fun x => frzV (gO rw) (lookT (gT tm) x).val) = some es := by rw [mapM_map', hv]; exact h1
  have e2 : (xs.flatMap fun x => frzIds (lookT (gT tm) x).val) = ids := by
    rw [← h2, ← hv, List.flatMap_map]
  have hw' := wids_all hw
  refine ⟨rfl, ?_, ?_, ?_, ?_, ?_⟩ <;> simp only [aistep, e1, e2]
  refine ⟨fun x hx => ⟨conds_all hc x hx, ?_⟩, hk⟩
  exact hw' _ (by rw [← hv]; exact List.mem_map.2 ⟨x, hx, rfl⟩)
/-- append to an own slice -/
theorem ST.appR {k by_ b lo n m : Nat} {x z : Opd} {v : AV} {r : ARow} {old new all : List AV} (hx : lookT (gT tm) x = .ref b k lo n) (hr : gO rw b = some r) (hrk : r.k = k) (hrf : r.fro = false) (hrl : lo + n ≤ r.es.length) (hn : n ≤ 1000000) (ho : (r.es.drop lo).take n = old) (hz : lookT (gT tm) z = v) (hzc : v.cond) (he : Els rw k v.val new) (hl : new.length ≤ 1000000) (hb : by_ ≤ 1000000) (hk : 0 < k) (hp : new.all pureV = true) (hm : n + new.length = m) (ha : old ++ new = all) :
    ST tm bx rw nb nr (.app k by_ x z) (.ref nr k 0 m) 0 1 [.R b none, .R nr (some ⟨false, k, all⟩)] := by
  obtain ⟨k', h1, h2⟩ := he.els
  subst hm ha ho
  refine ⟨rfl, ?_, ?_, ?_, ?_, ?_⟩ <;> simp only [aistep, hx, hz, h1, hr, val_nil, val_ref, val_rptr, val_csl, val_int]
  (repeat' apply And.intro) <;> first | exact True.intro | assumption | rfl | omega | (simp; omega)
/-- An element of an own row is read. -/
theorem ST.ldr {g fr : Bool} {n b k i off : Nat} {a : Opd} {es : List AV} {x v : AV} {c : Prop} (ha : lookT (gT tm) a = .rptr b k i off) (hr : gO rw b = some ⟨fr, k, es⟩) (hi : i < es.length) (hx : es[i]?.getD .any = x) (h : loadC g n (x.cells.drop off) = ⟨c, v, 0, 0, []⟩) (hc : c) :
    ST tm bx rw nb nr (.load g n a) v 0 0 [] := by
  have h' : (loadC g n ((es[i]?.getD .any).cells.drop off)) = ⟨c, v, 0, 0, []⟩ := by rw [hx, h]
  refine ⟨rfl, ?_, ?_, ?_, ?_, ?_⟩ <;> simp only [aistep, ha, hr, h', val_nil, val_ref, val_rptr, val_csl, val_int]
  (repeat' apply And.intro) <;> first | exact True.intro | assumption | rfl | omega | (simp; omega)
/-- An element of an own row is written, whole. -/
theorem ST.str {n b k i : Nat} {a z : Opd} {es : List AV} {v v' : AV} {ids : List Nat} {es' : List AV} (ha : lookT (gT tm) a = .rptr b k i 0) (hz : lookT (gT tm) z = v) (hzc : v.cond) (hr : gO rw b = some ⟨false, k, es⟩) (hi : i < es.length) (hw : okV v.val = true ∧ v.val.cells.length = n) (hnk : n = k) (hn : 0 < n) (hz' : FzV rw v.val v' ids) (hb : b ∉ ids) (he : es.set i v' = es') :
    ST tm bx rw nb nr (.store n a z) .any 0 0 (frzUp (gO rw) ids ++ [.R b (some ⟨false, k, es'⟩)]) := by
  obtain ⟨h1, h2⟩ := hz'.spec
  obtain ⟨h3, h4⟩ := hw
  subst he hnk
  refine ⟨rfl, ?_, ?_, ?_, ?_, ?_⟩ <;> simp only [aistep, ha, hz, hr, h1, h2, if_true, val_nil, val_ref, val_rptr, val_csl, val_int]
  exact ⟨⟨trivial, hzc, h3, h4⟩, trivial, hi, by omega, trivial, hb, hn⟩
theorem pure_take {l : List AV} (h : l.all pureV = true) (n : Nat) : (l.take n).all pureV = true := by
  rw [List.all_eq_true] at *
  exact fun x hx => h x (List.mem_of_mem_take hx)
/-- copy into an own slice -/
theorem ST.cpy {k b lo n m : Nat} {x z : Opd} {u v : AV} {r : ARow} {src es' : List AV} (hx : lookT (gT tm) x = u) (hu : u.val.rf = .ref b k lo n) (huc : u.cond) (hr : gO rw b = some r) (hrk : r.k = k) (hrf : r.fro = false) (hrl : lo + n ≤ r.es.length) (hz : lookT (gT tm) z = v) (hzc : v.cond) (he : Els rw k v.val src) (hk : 0 < k) (hp : (src.take n).all pureV = true) (hm : min src.length n = m) (hes : r.es.take lo ++ (src.take n ++ r.es.drop (lo + m)) = es') :
    ST tm bx rw nb nr (.cpy k x z) (.int .i64 m) 0 0 [.R b (some ⟨false, k, es'⟩)] := by
  obtain ⟨k', h1, h2⟩ := he.els
  obtain ⟨fr, rk, es⟩ := r
  dsimp only at hrk hrf hrl hes
  subst hm hes hrk hrf
  refine ⟨rfl, ?_, ?_, ?_, ?_, ?_⟩ <;> simp only [aistep, hx, hu, hz, h1, hr]
  · (repeat' apply And.intro) <;> first | exact True.intro | assumption | rfl | omega | (simp; omega)
  · congr 1; omega
/-- clear of an own slice -/
theorem ST.clr {k b lo n : Nat} {zero : AV} {x : Opd} {u : AV} {r : ARow} {es' : List AV} (hx : lookT (gT tm) x = u) (hu : u.val.rf = .ref b k lo n) (huc : u.cond) (hr : gO rw b = some r) (hrk : r.k = k) (hrf : r.fro = false) (hrl : lo + n ≤ r.es.length) (hz : pureV zero = true ∧ okV zero = true ∧ zero.cells.length = k) (hk : 0 < k) (hes : r.es.take lo ++ (List.replicate n zero ++ r.es.drop (lo + n)) = es') :
    ST tm bx rw nb nr (.clr k zero x) .any 0 0 [.R b (some ⟨false, k, es'⟩)] := by
  obtain ⟨fr, rk, es⟩ := r
  dsimp only at hrk hrf hrl hes
  subst hes hrk hrf
  obtain ⟨z1, z2, z3⟩ := hz
  refine ⟨rfl, ?_, ?_, ?_, ?_, ?_⟩ <;> simp only [aistep, hx, hu, hr]
  (repeat' apply And.intro) <;> first | exact True.intro | assumption | rfl | omega | (simp; omega)
/-- append in place -/
theorem ST.appI {k by_ b lo n c m : Nat} {x z : Opd} {v : AV} {r : ARow} {new es' : List AV} (hx : lookT (gT tm) x = .refc b k lo n c) (hr : gO rw b = some r) (hrk : r.k = k) (hrf : r.fro = false) (hz : lookT (gT tm) z = v) (hzc : v.cond) (he : Els rw k v.val new) (hl : new.length ≤ 1000000) (hrl : lo + n + new.length ≤ r.es.length) (hroom : n + new.length ≤ c) (hb : by_ ≤ 1000000) (hk : 0 < k) (hp : new.all pureV = true) (hm : n + new.length = m) (hes : r.es.take (lo + n) ++ (new ++ r.es.drop (lo + m)) = es') :
    ST tm bx rw nb nr (.app k by_ x z) (.refc b k lo m c) 0 1 [.R b (some ⟨false, k, es'⟩)] := by
  obtain ⟨k', h1, h2⟩ := he.els
  obtain ⟨fr, rk, es⟩ := r
  dsimp only at hrk hrf hrl hes
  subst hm hes hrk hrf
  refine ⟨rfl, ?_, ?_, ?_, ?_, ?_⟩ <;> simp only [aistep, hx, hz, h1, hr, val_refc]
  · (repeat' apply And.intro) <;> first | exact True.intro | assumption | rfl | omega | (simp; omega)
  · rw [Nat.add_assoc]
/-- noughts behind a slice that has no room for them -/
theorem ST.appz {k by_ b lo n c m q : Nat} {zero : AV} {x z : Opd} {ik : IntKind} {j : Int} {r : ARow} {es' : List AV} (hx : lookT (gT tm) x = .refc b k lo n c) (hr : gO rw b = some r) (hrk : r.k = k) (hrl : lo + n ≤ r.es.length) (hz : lookT (gT tm) z = .int ik j) (hj : j = q) (hq : q ≤ 1000000) (hn : n ≤ 1000000) (hroom : c < n + q) (hb : by_ ≤ 1000000) (hk : 0 < k) (hp : pureV zero = true ∧ zero.cells.length = k) (hm : n + q = m) (hes : (r.es.drop lo).take n ++ List.replicate q zero = es') :
    ST tm bx rw nb nr (.appz k by_ zero x z) (.ref nr k 0 m) 0 1 [.R nr (some ⟨false, k, es'⟩)] := by
  subst hm hes hrk hj
  refine ⟨rfl, ?_, ?_, ?_, ?_, ?_⟩ <;> simp only [aistep, hx, hz, hr, val_refc, val_int, Int.toNat_natCast]
  obtain ⟨p1, p2⟩ := hp
  (repeat' apply And.intro) <;> first | exact True.intro | assumption | rfl | omega | (simp; omega)
/-- a capacity -/
theorem ST.capV {x : Opd} {b k lo n c : Nat} (hx : lookT (gT tm) x = .refc b k lo n c) : ST tm bx rw nb nr (.capV x) (.int .i64 c) 0 0 [] := by
  refine ⟨rfl, ?_, ?_, ?_, ?_, ?_⟩ <;> simp only [aistep, hx, val_refc]
  trivial
/-- make -/
theorem ST.mks {k by_ : Nat} {zero : AV} {n c : Opd} {kn kc : IntKind} {m : Int} {q : Nat} {es : List AV} (hn : lookT (gT tm) n = .int kn m) (hc : lookT (gT tm) c = .int kc m) (h0 : 0 ≤ m ∧ m ≤ 1000000) (hq : m.toNat = q) (hz : pureV zero = true ∧ okV zero = true ∧ zero.cells.length = k) (hk : 0 < k) (hb : by_ ≤ 1000000) (he : List.replicate q zero = es) :
    ST tm bx rw nb nr (.mks k by_ zero n c) (.ref nr k 0 q) 0 1 [.R nr (some ⟨false, k, es⟩)] := by
  subst hq he
  obtain ⟨z1, z2, z3⟩ := hz
  obtain ⟨y1, y2⟩ := h0
  refine ⟨rfl, ?_, ?_, ?_, ?_, ?_⟩ <;> simp only [aistep, hn, hc, val_nil, val_ref, val_rptr, val_csl, val_int]
  (repeat' apply And.intro) <;> first | exact True.intro | assumption | rfl | omega | (simp; omega)
end
end Go.Proofs.Ytjacmhaeemhinaa

namespace Go.Proofs.Ytjacmhaeemhinaa
open Go.RowKit
set_option linter.unusedVariables false
set_option linter.unusedSimpArgs false

section
variable {P : Program} {N : Nat} {l : List AO} {y : List ACode} {Q : AX → AS → Prop} {tm : List (Nat × AV)} {bx : List (Option (List AV))} {rw : List (Option ARow)} {nb nr : Nat} {need : List (List Nat)} {hs : List HE}
/-- A step under a guard. -/
structure SG (tm : List (Nat × AV)) (bx : List (Option (List AV))) (rw : List (Option ARow)) (nb nr : Nat) (G : Bool) (ai : AI) (v : AV) : Prop where
  nc : isCall ai = false
  ok : G = true → (aistep false (lookT (gT tm)) (gO bx) (gO rw) nb nr ai).ok
  av : (aistep false (lookT (gT tm)) (gO bx) (gO rw) nb nr ai).av = v
  b : (aistep false (lookT (gT tm)) (gO bx) (gO rw) nb nr ai).nb = 0
  r : (aistep false (lookT (gT tm)) (gO bx) (gO rw) nb nr ai).nr = 0
  u : (aistep false (lookT (gT tm)) (gO bx) (gO rw) nb nr ai).up = []
theorem SG.ldr {G g fr : Bool} {n b k i off : Nat} {a : Opd} {ua : AV} {es : List AV} {x v : AV} {c : Prop} (ha : lookT (gT tm) a = ua) (hu : ua.val = .rptr b k i off) (hr : gO rw b = some ⟨fr, k, es⟩) (hi : G = true → ua.cond ∧ i < es.length) (hx : es[i]?.getD .any = x) (h : loadC g n (x.cells.drop off) = ⟨c, v, 0, 0, []⟩) (hc : c) :
    SG tm bx rw nb nr G (.load g n a) v := by
  have h' : (loadC g n ((es[i]?.getD .any).cells.drop off)) = ⟨c, v, 0, 0, []⟩ := by rw [hx, h]
  refine ⟨rfl, fun hG => ?_, ?_, ?_, ?_, ?_⟩ <;> simp only [aistep, ha, hu, hr, h']
  exact ⟨(hi hG).1, trivial, trivial, (hi hG).2, hc⟩
theorem SG.eq {G : Bool} {ai : AI} {v : AV} (h : SG tm bx rw nb nr G ai v) : aistep false (lookT (gT tm)) (gO bx) (gO rw) nb nr ai = ⟨(aistep false (lookT (gT tm)) (gO bx) (gO rw) nb nr ai).ok, v, 0, 0, []⟩ := by
  obtain ⟨_, _, h1, h2, h3, h4⟩ := h
  generalize aistep false (lookT (gT tm)) (gO bx) (gO rw) nb nr ai = x at *
  cases x; subst h1; simp_all
/-! ### Values -/
theorem ST.mv {x : Opd} {v : AV} (h : lookT (gT tm) x = v) : ST tm bx rw nb nr (.mv x) v 0 0 [] := ⟨rfl, trivial, h, rfl, rfl, rfl⟩
theorem SG.mv {G : Bool} {x : Opd} {v : AV} (h : lookT (gT tm) x = v) : SG tm bx rw nb nr G (.mv x) v := ⟨rfl, fun _ => trivial, h, rfl, rfl, rfl⟩
theorem ST.ext {x : Opd} {i : Nat} {vs : List AV} {v : AV} (h : lookT (gT tm) x = .tup vs) (hv : vs[i]? = some v) : ST tm bx rw nb nr (.ext x i) v 0 0 [] := by
  have e : (AV.tup vs).val = .tup vs := rfl
  have hi := (List.getElem?_eq_some_iff.1 hv).1
  refine ⟨rfl, ?_, ?_, ?_, ?_, ?_⟩ <;> simp only [aistep, h, e, hv, Option.getD_some]
  exact ⟨trivial, hi⟩
theorem ST.fadr {off b o o' : Nat} {a : Opd} (h : lookT (gT tm) a = .bptr b o) (ho : o + off = o') : ST tm bx rw nb nr (.fadr off a) (.bptr b o') 0 0 [] := by
  have e : (AV.bptr b o).val = .bptr b o := rfl
  subst ho
  refine ⟨rfl, ?_, ?_, ?_, ?_, ?_⟩ <;> simp only [aistep, h, e]
  exact trivial
theorem SG.fadr {G : Bool} {off b o o' : Nat} {a : Opd} {v : AV} (h : lookT (gT tm) a = v) (hv : v.val = .bptr b o) (hc : G = true → v.cond) (ho : o + off = o') : SG tm bx rw nb nr G (.fadr off a) (.bptr b o') := by
  subst ho
  refine ⟨rfl, ?_, ?_, ?_, ?_, ?_⟩ <;> simp only [aistep, h, hv]
  exact hc
theorem ST.fadrC {vol : Bool} {off : Nat} {cs cs' : List AV} {a : Opd} (h : lookT (gT tm) a = .cptr vol cs) (hl : off < cs.length) (ho : cs.drop off = cs') : ST tm bx rw nb nr (.fadr off a) (.cptr vol cs') 0 0 [] := by
  have e : (AV.cptr vol cs).val = .cptr vol cs := rfl
  subst ho
  refine ⟨rfl, ?_, ?_, ?_, ?_, ?_⟩ <;> simp only [aistep, h, e]
  exact ⟨trivial, hl⟩
theorem SG.fadrC {G vol : Bool} {off : Nat} {cs cs' : List AV} {a : Opd} {v : AV} (h : lookT (gT tm) a = v) (hv : v.val = .cptr vol cs) (hc : G = true → v.cond) (hl : off < cs.length) (ho : cs.drop off = cs') : SG tm bx rw nb nr G (.fadr off a) (.cptr vol cs') := by
  subst ho
  refine ⟨rfl, ?_, ?_, ?_, ?_, ?_⟩ <;> simp only [aistep, h, hv]
  exact fun hG => ⟨hc hG, hl⟩
theorem ST.ldb {g : Bool} {n b off : Nat} {a : Opd} {cells : List AV} {v : AV} {c : Prop} (ha : lookT (gT tm) a = .bptr b off) (hb : gO bx b = some cells) (h : loadC g n (cells.drop off) = ⟨c, v, 0, 0, []⟩) (hc : c) : ST tm bx rw nb nr (.load g n a) v 0 0 [] := by
  have e : (AV.bptr b off).val = .bptr b off := rfl
  refine ⟨rfl, ?_, ?_, ?_, ?_, ?_⟩ <;> simp only [aistep, ha, e, hb, h]
  exact ⟨trivial, hc⟩
theorem SG.ldb {G g : Bool} {n b off : Nat} {a : Opd} {cells : List AV} {u v : AV} {c : Prop} (ha : lookT (gT tm) a = u) (hu : u.val = .bptr b off) (hg : G = true → u.cond) (hb : gO bx b = some cells) (h : loadC g n (cells.drop off) = ⟨c, v, 0, 0, []⟩) (hc : c) : SG tm bx rw nb nr G (.load g n a) v := by
  refine ⟨rfl, ?_, ?_, ?_, ?_, ?_⟩ <;> simp only [aistep, ha, hu, hb, h]
  exact fun e => ⟨hg e, hc⟩
/-- Cells that nobody writes. -/
theorem ST.ldc {g vol : Bool} {n : Nat} {a : Opd} {cells : List AV} {v : AV} {c : Prop} (ha : lookT (gT tm) a = .cptr vol cells) (h : loadC g n cells = ⟨c, v, 0, 0, []⟩) (hc : c) : ST tm bx rw nb nr (.load g n a) v 0 0 [] := by
  have e : (AV.cptr vol cells).val = .cptr vol cells := rfl
  refine ⟨rfl, ?_, ?_, ?_, ?_, ?_⟩ <;> simp only [aistep, ha, e, h]
  exact ⟨trivial, hc⟩
theorem SG.ldc {G g vol : Bool} {n : Nat} {a : Opd} {cells : List AV} {u v : AV} {c : Prop} (ha : lookT (gT tm) a = u) (hu : u.val = .cptr vol cells) (hg : G = true → u.cond) (h : loadC g n cells = ⟨c, v, 0, 0, []⟩) (hc : G = true → c) : SG tm bx rw nb nr G (.load g n a) v := by
  refine ⟨rfl, ?_, ?_, ?_, ?_, ?_⟩ <;> simp only [aistep, ha, hu, h]
  exact fun e => ⟨hg e, hc e⟩
theorem ST.bini {op : BinOp} {x z : Opd} {kx kz kd : IntKind} {a b n n' : Int} {c : Prop} (hx : lookT (gT tm) x = .int kx a) (hz : lookT (gT tm) z = .int kz b) (h : binI op kx a kz b = (c, .int kd n)) (hc : c) (hn : n = n') : ST tm bx rw nb nr (.bin op x z) (.int kd n') 0 0 [] := by
  subst hn
  refine ⟨rfl, ?_, ?_, ?_, ?_, ?_⟩ <;> simp only [aistep, hx, hz, val_int, h]
  exact ⟨trivial, trivial, hc⟩
theorem ST.binb {op : BinOp} {x z : Opd} {kx kz : IntKind} {a b : Int} {n n' : Bool} {c : Prop} (hx : lookT (gT tm) x = .int kx a) (hz : lookT (gT tm) z = .int kz b) (h : binI op kx a kz b = (c, .bool n)) (hc : c) (hn : n = n') : ST tm bx rw nb nr (.bin op x z) (.bool n') 0 0 [] := by
  subst hn
  refine ⟨rfl, ?_, ?_, ?_, ?_, ?_⟩ <;> simp only [aistep, hx, hz, val_int, h]
  exact ⟨trivial, trivial, hc⟩
theorem SG.bini {G : Bool} {op : BinOp} {x z : Opd} {kx kz kd : IntKind} {a b n n' : Int} {u v : AV} {c : Prop} (hx : lookT (gT tm) x = u) (hu : u.val = .int kx a) (hz : lookT (gT tm) z = v) (hv : v.val = .int kz b) (h1 : G = true → u.cond) (h2 : G = true → v.cond) (h : binI op kx a kz b = (c, .int kd n)) (hc : G = true → c) (hn : n = n') : SG tm bx rw nb nr G (.bin op x z) (.int kd n') := by
  subst hn
  refine ⟨rfl, ?_, ?_, ?_, ?_, ?_⟩ <;> simp only [aistep, hx, hz, hu, hv, h]
  exact fun e => ⟨h1 e, h2 e, hc e⟩
theorem SG.binb {G : Bool} {op : BinOp} {x z : Opd} {kx kz : IntKind} {a b : Int} {n n' : Bool} {u v : AV} {c : Prop} (hx : lookT (gT tm) x = u) (hu : u.val = .int kx a) (hz : lookT (gT tm) z = v) (hv : v.val = .int kz b) (h1 : G = true → u.cond) (h2 : G = true → v.cond) (h : binI op kx a kz b = (c, .bool n)) (hc : G = true → c) (hn : n = n') : SG tm bx rw nb nr G (.bin op x z) (.bool n') := by
  subst hn
  refine ⟨rfl, ?_, ?_, ?_, ?_, ?_⟩ <;> simp only [aistep, hx, hz, hu, hv, h]
  exact fun e => ⟨h1 e, h2 e, hc e⟩
theorem val_bool (b : Bool) : (AV.bool b).val = .bool b := rfl
theorem ST.conv {kd kx : IntKind} {x : Opd} {a n : Int} (hx : lookT (gT tm) x = .int kx a) (hn : kd.wrap a = n) : ST tm bx rw nb nr (.conv kd x) (.int kd n) 0 0 [] := by
  subst hn
  refine ⟨rfl, ?_, ?_, ?_, ?_, ?_⟩ <;> simp only [aistep, hx, val_int]
  exact trivial
theorem SG.conv {G : Bool} {kd kx : IntKind} {x : Opd} {u : AV} {a n : Int} (hx : lookT (gT tm) x = u) (hu : u.val = .int kx a) (h1 : G = true → u.cond) (hn : kd.wrap a = n) : SG tm bx rw nb nr G (.conv kd x) (.int kd n) := by
  subst hn
  refine ⟨rfl, ?_, ?_, ?_, ?_, ?_⟩ <;> simp only [aistep, hx, hu]
  exact h1
theorem ST.not {x : Opd} {a n : Bool} (hx : lookT (gT tm) x = .bool a) (hn : (!a) = n) : ST tm bx rw nb nr (.not x) (.bool n) 0 0 [] := by
  subst hn
  refine ⟨rfl, ?_, ?_, ?_, ?_, ?_⟩ <;> simp only [aistep, hx, val_bool]
  exact trivial
theorem SG.not {G : Bool} {x : Opd} {u : AV} {a n : Bool} (hx : lookT (gT tm) x = u) (hu : u.val = .bool a) (h1 : G = true → u.cond) (hn : (!a) = n) : SG tm bx rw nb nr G (.not x) (.bool n) := by
  subst hn
  refine ⟨rfl, ?_, ?_, ?_, ?_, ?_⟩ <;> simp only [aistep, hx, hu]
  exact h1
/-- How many elements a slice has. -/
def lenA : AV → Option Int
  | .sl _ _ es => some es.length
  | .csl _ _ es => some es.length
  | .ref _ _ _ n => some n
  | .refc _ _ _ n _ => some n
  | .nil => some 0
  | _ => none
theorem ST.lenV {x : Opd} {v : AV} {n n' : Int} (hx : lookT (gT tm) x = v) (h : lenA v = some n) (hn : n = n') : ST tm bx rw nb nr (.lenV x) (.int .i64 n') 0 0 [] := by
  subst hn
  cases v <;> simp [lenA] at h <;> subst h <;> (refine ⟨rfl, ?_, ?_, ?_, ?_, ?_⟩ <;> simp only [aistep, hx, AV.val]) <;> trivial
theorem SG.lenV {G : Bool} {x : Opd} {u v : AV} {n n' : Int} (hx : lookT (gT tm) x = u) (hu : u.val = v) (h1 : G = true → u.cond) (h : lenA v = some n) (hn : n = n') : SG tm bx rw nb nr G (.lenV x) (.int .i64 n') := by
  subst hn
  cases v <;> simp [lenA] at h <;> subst h <;> (refine ⟨rfl, ?_, ?_, ?_, ?_, ?_⟩ <;> simp only [aistep, hx, hu]) <;> exact h1
theorem ST.pickb {c x z : Opd} {t a b n : Bool} {u v : AV} (hc : lookT (gT tm) c = .bool t) (hx : lookT (gT tm) x = u) (hu : u.val = .bool a) (hz : lookT (gT tm) z = v) (hv : v.val = .bool b) (h1 : t = true → u.cond) (h2 : t = false → v.cond) (hn : (if t then a else b) = n) : ST tm bx rw nb nr (.pick c x z) (.bool n) 0 0 [] := by
  subst hn
  refine ⟨rfl, ?_, ?_, ?_, ?_, ?_⟩ <;> simp only [aistep, hc, hx, hz, hu, hv, val_bool, pickV]
  exact ⟨trivial, h1, h2⟩
/-! ### Boxes -/
theorem ST.newb {cells : List AV} (h : cells.all scal = true) : ST tm bx rw nb nr (.newb cells) (.bptr nb 0) 1 0 [.B nb cells] := ⟨rfl, h, rfl, rfl, rfl, rfl⟩
theorem ST.box {x : Opd} {v : AV} {cells : List AV} (hx : lookT (gT tm) x = v) (hc : v.cond) (h : okV v.val = true) (he : v.val.cells = cells) : ST tm bx rw nb nr (.box x) (.bptr nb 0) 1 0 [.B nb cells] := by
  subst he
  refine ⟨rfl, ?_, ?_, ?_, ?_, ?_⟩ <;> simp only [aistep, hx]
  exact ⟨hc, h⟩
end
end Go.Proofs.Ytjacmhaeemhinaa
