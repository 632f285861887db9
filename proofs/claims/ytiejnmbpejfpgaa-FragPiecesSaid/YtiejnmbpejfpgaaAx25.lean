/- Steps of the walk over abstract states, one operation at a time. -/
import Derived.Test.YtiejnmbpejfpgaaAx24
namespace Go.Proofs.Ytiejnmbpejfpgaa
open Go.RowKit
set_option linter.unusedVariables false

theorem k_tt {α : Type} (a b : α) : (if true = true then a else b) = a := rfl
theorem k_ff {α : Type} (a b : α) : (if false = true then a else b) = b := rfl
theorem k_d0 {α : Type} (l : List α) : l.drop 0 = l := rfl
theorem k_ds {α : Type} (n : Nat) (a : α) (l : List α) : (a :: l).drop (n + 1) = l.drop n := rfl
theorem k_dn {α : Type} (n : Nat) : ([] : List α).drop (n + 1) = [] := rfl
theorem k_t0 {α : Type} (l : List α) : l.take 0 = [] := rfl
theorem k_ts {α : Type} (n : Nat) (a : α) (l : List α) : (a :: l).take (n + 1) = a :: l.take n := rfl
theorem k_tn {α : Type} (n : Nat) : ([] : List α).take (n + 1) = [] := rfl
theorem k_hd {α : Type} (a d : α) (l : List α) : (a :: l).headD d = a := rfl
theorem k_ap {α : Type} (a : α) (l m : List α) : (a :: l) ++ m = a :: (l ++ m) := rfl
theorem k_an {α : Type} (m : List α) : [] ++ m = m := rfl
theorem k_lc {α : Type} (a : α) (l : List α) : (a :: l).length = l.length + 1 := rfl
theorem k_ln {α : Type} : ([] : List α).length = 0 := rfl
theorem k_m0 {α β : Type} (f : α → β) : [].map f = [] := rfl
theorem k_mc {α β : Type} (f : α → β) (a : α) (l : List α) : (a :: l).map f = f a :: l.map f := rfl
theorem k_i0 {α : Type} (a : α) (l : List α) : (a :: l)[0]? = some a := rfl
theorem k_is {α : Type} (n : Nat) (a : α) (l : List α) : (a :: l)[n + 1]? = l[n]? := rfl
theorem k_gd0 {α : Type} (a d : α) (l : List α) : (a :: l).getD 0 d = a := rfl
theorem k_gds {α : Type} (n : Nat) (a d : α) (l : List α) : (a :: l).getD (n + 1) d = l.getD n d := rfl
theorem k_gdn {α : Type} (n : Nat) (d : α) : ([] : List α).getD n d = d := rfl
theorem k_om {α β : Type} (f : α → β) (a : α) : (some a).map f = some (f a) := rfl
theorem k_ad {α : Type} (a : α) : [a] ++ [] = [a] := rfl
theorem k_fl0 {α β : Type} (f : β → α → β) (a : β) : [].foldl f a = a := rfl
theorem k_flc {α β : Type} (f : β → α → β) (a : β) (x : α) (l : List α) : (x :: l).foldl f a = l.foldl f (f a x) := rfl
theorem k_b1 : (true == true) = true := rfl
theorem k_b2 : (true == false) = false := rfl
theorem k_b3 : (false == true) = false := rfl
theorem k_b4 : (false == false) = true := rfl
theorem k_gs {α : Type} (a d : α) : (some a).getD d = a := rfl
/-- Pieces of code, one behind the other. -/
def WL0 (P : Program) (N : Nat) : List ACode → (AX → AS → Prop) → AS → Prop
  | [], Q, σ => Q .n σ
  | c :: k, Q, σ => AWP P N c σ fun e τ => match e with | .n => WL0 P N k Q τ | e => Q e τ
structure WL (P : Program) (N : Nat) (k : List ACode) (Q : AX → AS → Prop) (σ : AS) : Prop where
  h : WL0 P N k Q σ
/-- A region that is under way, and the code behind it. -/
def RG0 (P : Program) (N : Nat) (l : List AO) (y : List ACode) (σ : AS) (Q : AX → AS → Prop) : Prop := aopsM P l σ fun τ => WL0 P N y Q τ
def DG0 (P : Program) (N : Nat) (l : List AO) (need : List (List Nat)) (hs : List HE) (y : List ACode) (σ : AS) (Q : AX → AS → Prop) : Prop := dops P l need σ hs fun τ => WL0 P N y Q τ
structure RG (P : Program) (N : Nat) (l : List AO) (y : List ACode) (σ : AS) (Q : AX → AS → Prop) : Prop where
  h : RG0 P N l y σ Q
structure DG (P : Program) (N : Nat) (l : List AO) (need : List (List Nat)) (hs : List HE) (y : List ACode) (σ : AS) (Q : AX → AS → Prop) : Prop where
  h : DG0 P N l need hs y σ Q
/-- An operation that only gives a value. -/
def quiet : AI → Bool
  | .newb .. | .newa .. | .box .. | .boxa .. | .bsl .. | .store .. | .mks .. | .app .. | .cpy .. | .clr .. | .mvL .. | .call .. | .callv .. => false
  | _ => true
/-- .. and whose value needs no help to be told. -/
def plainA : AI → Bool
  | .iadS .. | .idxT .. | .slS .. | .slT .. | .b2s .. => false
  | ai => quiet ai
theorem plain_q {ai : AI} (h : plainA ai = true) : quiet ai = true := by cases ai <;> first | exact h | cases h
def boxy : AI → Bool
  | .newb .. | .newa .. | .box .. | .boxa .. => true
  | _ => false
theorem boxy_nc {ai : AI} (h : boxy ai = true) : isCall ai = false := by cases ai <;> first | rfl | cases h
section
variable {P : Program} {N : Nat} {l : List AO} {y : List ACode} {Q : AX → AS → Prop} {tm : List (Nat × AV)} {bx : List (Option (List AV))} {rw : List (Option ARow)} {nb nr : Nat}
theorem RG0.nil (h : WL0 P N y Q ⟨tm, bx, rw, nb, nr⟩) : RG0 P N [] y ⟨tm, bx, rw, nb, nr⟩ Q := h
theorem RG.go {o : AO} {σ : AS} (h : RG P N (o :: l) y σ Q) : RG P N (o :: l) y σ Q := h
theorem RG.nil (h : WL P N y Q ⟨tm, bx, rw, nb, nr⟩) : RG P N [] y ⟨tm, bx, rw, nb, nr⟩ Q := ⟨RG0.nil h.h⟩
/-- A value. -/
theorem RG0.v {t : Nat} {ai : AI} {c : Prop} {v : AV} (hq : quiet ai = true) (h : aistep false (lookT (gT tm)) (gO bx) (gO rw) nb nr ai = ⟨c, v, 0, 0, []⟩) (hok : c)
    (k : RG0 P N l y ⟨(t, v) :: tm, bx, rw, nb, nr⟩ Q) : RG0 P N (⟨some t, ai, none⟩ :: l) y ⟨tm, bx, rw, nb, nr⟩ Q := by
  rw [gT_eq, gO_eq, gO_eq] at *
  have e : isCall ai = false := by cases ai <;> first | rfl | cases hq
  have h' : aistep false (lookT (AS.fs ⟨tm, bx, rw, nb, nr⟩).tm) (AS.fs ⟨tm, bx, rw, nb, nr⟩).bx (AS.fs ⟨tm, bx, rw, nb, nr⟩).rw nb nr ai = ⟨c, v, 0, 0, []⟩ := h
  have key : (aistep false (lookT (AS.fs ⟨tm, bx, rw, nb, nr⟩).tm) (AS.fs ⟨tm, bx, rw, nb, nr⟩).bx (AS.fs ⟨tm, bx, rw, nb, nr⟩).rw nb nr ai).ok ∧ (fun r => aopsM P l (AS.app ⟨tm, bx, rw, nb, nr⟩ (some t) r) fun τ => WL0 P N y Q τ) (aistep false (lookT (AS.fs ⟨tm, bx, rw, nb, nr⟩).tm) (AS.fs ⟨tm, bx, rw, nb, nr⟩).bx (AS.fs ⟨tm, bx, rw, nb, nr⟩).rw nb nr ai) := by
    rw [h']; exact ⟨hok, k⟩
  refine Or.inl ?_
  cases ai <;> first | exact key | cases hq
theorem RG.v {t : Nat} {ai : AI} {c : Prop} {v : AV} (hq : quiet ai = true) (h : aistep false (lookT (gT tm)) (gO bx) (gO rw) nb nr ai = ⟨c, v, 0, 0, []⟩) (hok : c)
    (k : RG P N l y ⟨(t, v) :: tm, bx, rw, nb, nr⟩ Q) : RG P N (⟨some t, ai, none⟩ :: l) y ⟨tm, bx, rw, nb, nr⟩ Q := ⟨RG0.v hq h hok k.h⟩
/-- A value, under a guard. -/
theorem RG0.g {t u : Nat} {want G : Bool} {ai : AI} {c : Prop} {v : AV} (hq : quiet ai = true) (hg : gval (gT tm u) want = some G) (h : aistep false (lookT (gT tm)) (gO bx) (gO rw) nb nr ai = ⟨c, v, 0, 0, []⟩) (hok : G = true → c)
    (k : RG0 P N l y ⟨(t, mkCnd G v) :: tm, bx, rw, nb, nr⟩ Q) : RG0 P N (⟨some t, ai, some (u, want)⟩ :: l) y ⟨tm, bx, rw, nb, nr⟩ Q := by
  rw [gT_eq, gO_eq, gO_eq] at *
  have e : isCall ai = false := by cases ai <;> first | rfl | cases hq
  have h' : aistep false (lookT (AS.fs ⟨tm, bx, rw, nb, nr⟩).tm) (AS.fs ⟨tm, bx, rw, nb, nr⟩).bx (AS.fs ⟨tm, bx, rw, nb, nr⟩).rw nb nr ai = ⟨c, v, 0, 0, []⟩ := h
  have hg' : gval ((AS.fs ⟨tm, bx, rw, nb, nr⟩).tm u) want = some G := hg
  refine Or.inl ?_
  show StepK P false _ nb nr ⟨some t, ai, some (u, want)⟩ _
  unfold StepK
  dsimp only
  rw [hg']
  dsimp only
  refine .inl ?_
  have key : (G = true → (aistep false (lookT (AS.fs ⟨tm, bx, rw, nb, nr⟩).tm) (AS.fs ⟨tm, bx, rw, nb, nr⟩).bx (AS.fs ⟨tm, bx, rw, nb, nr⟩).rw nb nr ai).ok) ∧ ((aistep false (lookT (AS.fs ⟨tm, bx, rw, nb, nr⟩).tm) (AS.fs ⟨tm, bx, rw, nb, nr⟩).bx (AS.fs ⟨tm, bx, rw, nb, nr⟩).rw nb nr ai).up = [] ∧ (aistep false (lookT (AS.fs ⟨tm, bx, rw, nb, nr⟩).tm) (AS.fs ⟨tm, bx, rw, nb, nr⟩).bx (AS.fs ⟨tm, bx, rw, nb, nr⟩).rw nb nr ai).nb = 0 ∧ (aistep false (lookT (AS.fs ⟨tm, bx, rw, nb, nr⟩).tm) (AS.fs ⟨tm, bx, rw, nb, nr⟩).bx (AS.fs ⟨tm, bx, rw, nb, nr⟩).rw nb nr ai).nr = 0) ∧ (fun r => aopsM P l (AS.app ⟨tm, bx, rw, nb, nr⟩ (some t) r) fun τ => WL0 P N y Q τ) ⟨True, mkCnd G (aistep false (lookT (AS.fs ⟨tm, bx, rw, nb, nr⟩).tm) (AS.fs ⟨tm, bx, rw, nb, nr⟩).bx (AS.fs ⟨tm, bx, rw, nb, nr⟩).rw nb nr ai).av, 0, 0, []⟩ := by
    rw [h']; exact ⟨hok, ⟨rfl, rfl, rfl⟩, k⟩
  cases ai <;> first | exact key | cases hq
theorem RG.g {t u : Nat} {want G : Bool} {ai : AI} {c : Prop} {v : AV} (hq : quiet ai = true) (hg : gval (gT tm u) want = some G) (h : aistep false (lookT (gT tm)) (gO bx) (gO rw) nb nr ai = ⟨c, v, 0, 0, []⟩) (hok : G = true → c)
    (k : RG P N l y ⟨(t, mkCnd G v) :: tm, bx, rw, nb, nr⟩ Q) : RG P N (⟨some t, ai, some (u, want)⟩ :: l) y ⟨tm, bx, rw, nb, nr⟩ Q := ⟨RG0.g hq hg h hok k.h⟩
/-- Memory: what it gives, and what becomes of the state. -/
theorem RG0.u {d : Option Nat} {ai : AI} {r : Res} {σ' : AS} (hq : isCall ai = false) (h : aistep false (lookT (gT tm)) (gO bx) (gO rw) nb nr ai = r) (hok : r.ok) (hs : AS.app ⟨tm, bx, rw, nb, nr⟩ d r = σ')
    (k : RG0 P N l y σ' Q) : RG0 P N (⟨d, ai, none⟩ :: l) y ⟨tm, bx, rw, nb, nr⟩ Q := by
  rw [gT_eq, gO_eq, gO_eq] at *
  subst hs
  have h' : aistep false (lookT (AS.fs ⟨tm, bx, rw, nb, nr⟩).tm) (AS.fs ⟨tm, bx, rw, nb, nr⟩).bx (AS.fs ⟨tm, bx, rw, nb, nr⟩).rw nb nr ai = r := h
  have key : (aistep false (lookT (AS.fs ⟨tm, bx, rw, nb, nr⟩).tm) (AS.fs ⟨tm, bx, rw, nb, nr⟩).bx (AS.fs ⟨tm, bx, rw, nb, nr⟩).rw nb nr ai).ok ∧ (fun r => aopsM P l (AS.app ⟨tm, bx, rw, nb, nr⟩ d r) fun τ => WL0 P N y Q τ) (aistep false (lookT (AS.fs ⟨tm, bx, rw, nb, nr⟩).tm) (AS.fs ⟨tm, bx, rw, nb, nr⟩).bx (AS.fs ⟨tm, bx, rw, nb, nr⟩).rw nb nr ai) := by
    rw [h']; exact ⟨hok, k⟩
  refine Or.inl ?_
  cases ai <;> first | exact key | cases hq
theorem RG.u {d : Option Nat} {ai : AI} {r : Res} {σ' : AS} (hq : isCall ai = false) (h : aistep false (lookT (gT tm)) (gO bx) (gO rw) nb nr ai = r) (hok : r.ok) (hs : AS.app ⟨tm, bx, rw, nb, nr⟩ d r = σ')
    (k : RG P N l y σ' Q) : RG P N (⟨d, ai, none⟩ :: l) y ⟨tm, bx, rw, nb, nr⟩ Q := ⟨RG0.u hq h hok hs k.h⟩
/-- A call. -/
theorem RG0.call {d : Option Nat} {f : Nat} {xs : List Opd} {vs args' : List AV} {v : AV} {H : List ARow} {σ' : AS} (c : ACall P f args' v H) (hv : (xs.map fun x => (lookT (gT tm) x).val) = vs) (hc : conds (lookT (gT tm)) xs) (hle : ALes (gO bx) (gO rw) vs args')
    (hs : AS.app ⟨tm, bx, rw, nb, nr⟩ d ⟨True, shT nr v, 0, H.length, rowsUp nr H⟩ = σ') (k : RG0 P N l y σ' Q) : RG0 P N (⟨d, .call f xs, none⟩ :: l) y ⟨tm, bx, rw, nb, nr⟩ Q := by
  rw [gT_eq, gO_eq, gO_eq] at *
  subst hs hv
  exact Or.inl ⟨hc, args', v, H, hle, c, k⟩
theorem RG.call {d : Option Nat} {f : Nat} {xs : List Opd} {vs args' : List AV} {v : AV} {H : List ARow} {σ' : AS} (c : ACall P f args' v H) (hv : (xs.map fun x => (lookT (gT tm) x).val) = vs) (hc : conds (lookT (gT tm)) xs) (hle : ALes (gO bx) (gO rw) vs args')
    (hs : AS.app ⟨tm, bx, rw, nb, nr⟩ d ⟨True, shT nr v, 0, H.length, rowsUp nr H⟩ = σ') (k : RG P N l y σ' Q) : RG P N (⟨d, .call f xs, none⟩ :: l) y ⟨tm, bx, rw, nb, nr⟩ Q := ⟨RG0.call c hv hc hle hs k.h⟩
/-- A call, under a guard: it makes nothing that is own. -/
theorem RG0.gcall {t u : Nat} {want G : Bool} {f : Nat} {xs : List Opd} {vs args' : List AV} {v : AV} (c : G = true → ACall P f args' v []) (hg : gval (gT tm u) want = some G) (hv : (xs.map fun x => (lookT (gT tm) x).val) = vs) (hc : G = true → conds (lookT (gT tm)) xs) (hle : G = true → ALes (gO bx) (gO rw) vs args')
    (k : RG0 P N l y ⟨(t, mkCnd G (shT nr v)) :: tm, bx, rw, nb, nr⟩ Q) : RG0 P N (⟨some t, .call f xs, some (u, want)⟩ :: l) y ⟨tm, bx, rw, nb, nr⟩ Q := by
  rw [gT_eq, gO_eq, gO_eq] at *
  subst hv
  refine Or.inl ?_
  show StepK P false _ nb nr ⟨some t, .call f xs, some (u, want)⟩ _
  unfold StepK
  dsimp only
  have hg' : gval ((AS.fs ⟨tm, bx, rw, nb, nr⟩).tm u) want = some G := hg
  rw [hg']
  refine .inl ?_
  exact ⟨args', v, fun e => ⟨hc e, hle e, c e⟩, k⟩
theorem RG.gcall {t u : Nat} {want G : Bool} {f : Nat} {xs : List Opd} {vs args' : List AV} {v : AV} (c : G = true → ACall P f args' v []) (hg : gval (gT tm u) want = some G) (hv : (xs.map fun x => (lookT (gT tm) x).val) = vs) (hc : G = true → conds (lookT (gT tm)) xs) (hle : G = true → ALes (gO bx) (gO rw) vs args')
    (k : RG P N l y ⟨(t, mkCnd G (shT nr v)) :: tm, bx, rw, nb, nr⟩ Q) : RG P N (⟨some t, .call f xs, some (u, want)⟩ :: l) y ⟨tm, bx, rw, nb, nr⟩ Q := ⟨RG0.gcall c hg hv hc hle k.h⟩
/-- A call of a value. -/
theorem RG0.callv {d : Option Nat} {x : Opd} {f : Nat} {caps : List AV} {xs : List Opd} {vs args' : List AV} {v : AV} {H : List ARow} {σ' : AS} (c : ACall P f args' v H) (hf : lookT (gT tm) x = .fn f caps) (hv : (xs.map fun x => (lookT (gT tm) x).val) ++ caps = vs) (hc : conds (lookT (gT tm)) xs) (hle : ALes (gO bx) (gO rw) vs args')
    (hs : AS.app ⟨tm, bx, rw, nb, nr⟩ d ⟨True, shT nr v, 0, H.length, rowsUp nr H⟩ = σ') (k : RG0 P N l y σ' Q) : RG0 P N (⟨d, .callv x xs, none⟩ :: l) y ⟨tm, bx, rw, nb, nr⟩ Q := by
  rw [gT_eq, gO_eq, gO_eq] at *
  subst hs hv
  refine Or.inl ?_
  unfold StepK
  dsimp only
  have hf' : lookT (AS.fs ⟨tm, bx, rw, nb, nr⟩).tm x = .fn f caps := hf
  have hf2 : (lookT (AS.fs ⟨tm, bx, rw, nb, nr⟩).tm x).cond := by rw [hf']; trivial
  unfold OpK
  dsimp only
  rw [show (lookT (AS.fs ⟨tm, bx, rw, nb, nr⟩).tm x).val = .fn f caps by rw [hf']; rfl]
  exact ⟨hf2, hc, args', v, H, hle, c, k⟩
theorem RG.callv {d : Option Nat} {x : Opd} {f : Nat} {caps : List AV} {xs : List Opd} {vs args' : List AV} {v : AV} {H : List ARow} {σ' : AS} (c : ACall P f args' v H) (hf : lookT (gT tm) x = .fn f caps) (hv : (xs.map fun x => (lookT (gT tm) x).val) ++ caps = vs) (hc : conds (lookT (gT tm)) xs) (hle : ALes (gO bx) (gO rw) vs args')
    (hs : AS.app ⟨tm, bx, rw, nb, nr⟩ d ⟨True, shT nr v, 0, H.length, rowsUp nr H⟩ = σ') (k : RG P N l y σ' Q) : RG P N (⟨d, .callv x xs, none⟩ :: l) y ⟨tm, bx, rw, nb, nr⟩ Q := ⟨RG0.callv c hf hv hc hle hs k.h⟩
/-! The same in a region whose order is drawn -/
variable {need : List (List Nat)} {hs : List HE}
theorem DG0.nil (h : WL0 P N y Q ⟨tm, bx, rw, nb, nr⟩) : DG0 P N [] need hs y ⟨tm, bx, rw, nb, nr⟩ Q := h
theorem DG.go {o : AO} {σ : AS} (h : DG P N (o :: l) need hs y σ Q) : DG P N (o :: l) need hs y σ Q := h
theorem DG.nil (h : WL P N y Q ⟨tm, bx, rw, nb, nr⟩) : DG P N [] need hs y ⟨tm, bx, rw, nb, nr⟩ Q := ⟨DG0.nil h.h⟩
theorem DG0.v {t : Nat} {ai : AI} {c : Prop} {v : AV} {nd : List Nat} (hq : quiet ai = true) (h : aistep false (lookT (gT tm)) (gO bx) (gO rw) nb nr ai = ⟨c, v, 0, 0, []⟩) (hok : c)
    (hfr : frees hs ⟨⟨some t, ai, none⟩, ⟨gT tm, gO bx, gO rw⟩, ⟨c, v, 0, 0, []⟩, nb, nr⟩ nd)
    (k : DG0 P N l need (hs ++ [⟨⟨some t, ai, none⟩, ⟨gT tm, gO bx, gO rw⟩, ⟨c, v, 0, 0, []⟩, nb, nr⟩]) y ⟨(t, v) :: tm, bx, rw, nb, nr⟩ Q) : DG0 P N (⟨some t, ai, none⟩ :: l) (nd :: need) hs y ⟨tm, bx, rw, nb, nr⟩ Q := by
  rw [gT_eq, gO_eq, gO_eq] at *
  have h' : aistep false (lookT (AS.fs ⟨tm, bx, rw, nb, nr⟩).tm) (AS.fs ⟨tm, bx, rw, nb, nr⟩).bx (AS.fs ⟨tm, bx, rw, nb, nr⟩).rw nb nr ai = ⟨c, v, 0, 0, []⟩ := h
  have key : (aistep false (lookT (AS.fs ⟨tm, bx, rw, nb, nr⟩).tm) (AS.fs ⟨tm, bx, rw, nb, nr⟩).bx (AS.fs ⟨tm, bx, rw, nb, nr⟩).rw nb nr ai).ok ∧ (fun r => frees hs ⟨⟨some t, ai, none⟩, AS.fs ⟨tm, bx, rw, nb, nr⟩, r, nb, nr⟩ nd ∧ dops P l need (AS.app ⟨tm, bx, rw, nb, nr⟩ (some t) r) (hs ++ [⟨⟨some t, ai, none⟩, AS.fs ⟨tm, bx, rw, nb, nr⟩, r, nb, nr⟩]) fun τ => WL0 P N y Q τ) (aistep false (lookT (AS.fs ⟨tm, bx, rw, nb, nr⟩).tm) (AS.fs ⟨tm, bx, rw, nb, nr⟩).bx (AS.fs ⟨tm, bx, rw, nb, nr⟩).rw nb nr ai) := by
    rw [h']; exact ⟨hok, hfr, k⟩
  cases ai <;> first | exact key | cases hq
theorem DG.v {t : Nat} {ai : AI} {c : Prop} {v : AV} {nd : List Nat} (hq : quiet ai = true) (h : aistep false (lookT (gT tm)) (gO bx) (gO rw) nb nr ai = ⟨c, v, 0, 0, []⟩) (hok : c)
    (hfr : frees hs ⟨⟨some t, ai, none⟩, ⟨gT tm, gO bx, gO rw⟩, ⟨c, v, 0, 0, []⟩, nb, nr⟩ nd)
    (k : DG P N l need (hs ++ [⟨⟨some t, ai, none⟩, ⟨gT tm, gO bx, gO rw⟩, ⟨c, v, 0, 0, []⟩, nb, nr⟩]) y ⟨(t, v) :: tm, bx, rw, nb, nr⟩ Q) : DG P N (⟨some t, ai, none⟩ :: l) (nd :: need) hs y ⟨tm, bx, rw, nb, nr⟩ Q := ⟨DG0.v hq h hok hfr k.h⟩
theorem DG0.g {t u : Nat} {want G : Bool} {ai : AI} {c : Prop} {v : AV} {nd : List Nat} (hq : quiet ai = true) (hg : gval (gT tm u) want = some G) (h : aistep false (lookT (gT tm)) (gO bx) (gO rw) nb nr ai = ⟨c, v, 0, 0, []⟩) (hok : G = true → c)
    (hfr : frees hs ⟨⟨some t, ai, some (u, want)⟩, ⟨gT tm, gO bx, gO rw⟩, ⟨True, mkCnd G v, 0, 0, []⟩, nb, nr⟩ nd)
    (k : DG0 P N l need (hs ++ [⟨⟨some t, ai, some (u, want)⟩, ⟨gT tm, gO bx, gO rw⟩, ⟨True, mkCnd G v, 0, 0, []⟩, nb, nr⟩]) y ⟨(t, mkCnd G v) :: tm, bx, rw, nb, nr⟩ Q) : DG0 P N (⟨some t, ai, some (u, want)⟩ :: l) (nd :: need) hs y ⟨tm, bx, rw, nb, nr⟩ Q := by
  rw [gT_eq, gO_eq, gO_eq] at *
  have h' : aistep false (lookT (AS.fs ⟨tm, bx, rw, nb, nr⟩).tm) (AS.fs ⟨tm, bx, rw, nb, nr⟩).bx (AS.fs ⟨tm, bx, rw, nb, nr⟩).rw nb nr ai = ⟨c, v, 0, 0, []⟩ := h
  have hg' : gval ((AS.fs ⟨tm, bx, rw, nb, nr⟩).tm u) want = some G := hg
  show StepK P false _ nb nr ⟨some t, ai, some (u, want)⟩ _
  unfold StepK
  dsimp only
  rw [hg']
  dsimp only
  refine .inl ?_
  have key : (G = true → (aistep false (lookT (AS.fs ⟨tm, bx, rw, nb, nr⟩).tm) (AS.fs ⟨tm, bx, rw, nb, nr⟩).bx (AS.fs ⟨tm, bx, rw, nb, nr⟩).rw nb nr ai).ok) ∧ ((aistep false (lookT (AS.fs ⟨tm, bx, rw, nb, nr⟩).tm) (AS.fs ⟨tm, bx, rw, nb, nr⟩).bx (AS.fs ⟨tm, bx, rw, nb, nr⟩).rw nb nr ai).up = [] ∧ (aistep false (lookT (AS.fs ⟨tm, bx, rw, nb, nr⟩).tm) (AS.fs ⟨tm, bx, rw, nb, nr⟩).bx (AS.fs ⟨tm, bx, rw, nb, nr⟩).rw nb nr ai).nb = 0 ∧ (aistep false (lookT (AS.fs ⟨tm, bx, rw, nb, nr⟩).tm) (AS.fs ⟨tm, bx, rw, nb, nr⟩).bx (AS.fs ⟨tm, bx, rw, nb, nr⟩).rw nb nr ai).nr = 0) ∧ (fun r => frees hs ⟨⟨some t, ai, some (u, want)⟩, AS.fs ⟨tm, bx, rw, nb, nr⟩, r, nb, nr⟩ nd ∧ dops P l need (AS.app ⟨tm, bx, rw, nb, nr⟩ (some t) r) (hs ++ [⟨⟨some t, ai, some (u, want)⟩, AS.fs ⟨tm, bx, rw, nb, nr⟩, r, nb, nr⟩]) fun τ => WL0 P N y Q τ) ⟨True, mkCnd G (aistep false (lookT (AS.fs ⟨tm, bx, rw, nb, nr⟩).tm) (AS.fs ⟨tm, bx, rw, nb, nr⟩).bx (AS.fs ⟨tm, bx, rw, nb, nr⟩).rw nb nr ai).av, 0, 0, []⟩ := by
    rw [h']; exact ⟨hok, ⟨rfl, rfl, rfl⟩, hfr, k⟩
  cases ai <;> first | exact key | cases hq
theorem DG.g {t u : Nat} {want G : Bool} {ai : AI} {c : Prop} {v : AV} {nd : List Nat} (hq : quiet ai = true) (hg : gval (gT tm u) want = some G) (h : aistep false (lookT (gT tm)) (gO bx) (gO rw) nb nr ai = ⟨c, v, 0, 0, []⟩) (hok : G = true → c)
    (hfr : frees hs ⟨⟨some t, ai, some (u, want)⟩, ⟨gT tm, gO bx, gO rw⟩, ⟨True, mkCnd G v, 0, 0, []⟩, nb, nr⟩ nd)
    (k : DG P N l need (hs ++ [⟨⟨some t, ai, some (u, want)⟩, ⟨gT tm, gO bx, gO rw⟩, ⟨True, mkCnd G v, 0, 0, []⟩, nb, nr⟩]) y ⟨(t, mkCnd G v) :: tm, bx, rw, nb, nr⟩ Q) : DG P N (⟨some t, ai, some (u, want)⟩ :: l) (nd :: need) hs y ⟨tm, bx, rw, nb, nr⟩ Q := ⟨DG0.g hq hg h hok hfr k.h⟩
theorem DG0.u {d : Option Nat} {ai : AI} {r : Res} {σ' : AS} {nd : List Nat} (hq : isCall ai = false) (h : aistep false (lookT (gT tm)) (gO bx) (gO rw) nb nr ai = r) (hok : r.ok) (hst : AS.app ⟨tm, bx, rw, nb, nr⟩ d r = σ')
    (hfr : frees hs ⟨⟨d, ai, none⟩, ⟨gT tm, gO bx, gO rw⟩, r, nb, nr⟩ nd)
    (k : DG0 P N l need (hs ++ [⟨⟨d, ai, none⟩, ⟨gT tm, gO bx, gO rw⟩, r, nb, nr⟩]) y σ' Q) : DG0 P N (⟨d, ai, none⟩ :: l) (nd :: need) hs y ⟨tm, bx, rw, nb, nr⟩ Q := by
  rw [gT_eq, gO_eq, gO_eq] at *
  subst hst
  have h' : aistep false (lookT (AS.fs ⟨tm, bx, rw, nb, nr⟩).tm) (AS.fs ⟨tm, bx, rw, nb, nr⟩).bx (AS.fs ⟨tm, bx, rw, nb, nr⟩).rw nb nr ai = r := h
  have key : (aistep false (lookT (AS.fs ⟨tm, bx, rw, nb, nr⟩).tm) (AS.fs ⟨tm, bx, rw, nb, nr⟩).bx (AS.fs ⟨tm, bx, rw, nb, nr⟩).rw nb nr ai).ok ∧ (fun r => frees hs ⟨⟨d, ai, none⟩, AS.fs ⟨tm, bx, rw, nb, nr⟩, r, nb, nr⟩ nd ∧ dops P l need (AS.app ⟨tm, bx, rw, nb, nr⟩ d r) (hs ++ [⟨⟨d, ai, none⟩, AS.fs ⟨tm, bx, rw, nb, nr⟩, r, nb, nr⟩]) fun τ => WL0 P N y Q τ) (aistep false (lookT (AS.fs ⟨tm, bx, rw, nb, nr⟩).tm) (AS.fs ⟨tm, bx, rw, nb, nr⟩).bx (AS.fs ⟨tm, bx, rw, nb, nr⟩).rw nb nr ai) := by
    rw [h']; exact ⟨hok, hfr, k⟩
  cases ai <;> first | exact key | cases hq
theorem DG.u {d : Option Nat} {ai : AI} {r : Res} {σ' : AS} {nd : List Nat} (hq : isCall ai = false) (h : aistep false (lookT (gT tm)) (gO bx) (gO rw) nb nr ai = r) (hok : r.ok) (hst : AS.app ⟨tm, bx, rw, nb, nr⟩ d r = σ')
    (hfr : frees hs ⟨⟨d, ai, none⟩, ⟨gT tm, gO bx, gO rw⟩, r, nb, nr⟩ nd)
    (k : DG P N l need (hs ++ [⟨⟨d, ai, none⟩, ⟨gT tm, gO bx, gO rw⟩, r, nb, nr⟩]) y σ' Q) : DG P N (⟨d, ai, none⟩ :: l) (nd :: need) hs y ⟨tm, bx, rw, nb, nr⟩ Q := ⟨DG0.u hq h hok hst hfr k.h⟩
theorem DG0.call {d : Option Nat} {f : Nat} {xs : List Opd} {vs args' : List AV} {v : AV} {H : List ARow} {σ' : AS} {nd : List Nat} (c : ACall P f args' v H) (hv : (xs.map fun x => (lookT (gT tm) x).val) = vs) (hc : conds (lookT (gT tm)) xs) (hle : ALes (gO bx) (gO rw) vs args')
    (hst : AS.app ⟨tm, bx, rw, nb, nr⟩ d ⟨True, shT nr v, 0, H.length, rowsUp nr H⟩ = σ')
    (hfr : frees hs ⟨⟨d, .call f xs, none⟩, ⟨gT tm, gO bx, gO rw⟩, ⟨True, shT nr v, 0, H.length, rowsUp nr H⟩, nb, nr⟩ nd)
    (k : DG0 P N l need (hs ++ [⟨⟨d, .call f xs, none⟩, ⟨gT tm, gO bx, gO rw⟩, ⟨True, shT nr v, 0, H.length, rowsUp nr H⟩, nb, nr⟩]) y σ' Q) : DG0 P N (⟨d, .call f xs, none⟩ :: l) (nd :: need) hs y ⟨tm, bx, rw, nb, nr⟩ Q := by
  rw [gT_eq, gO_eq, gO_eq] at *
  subst hst hv
  exact ⟨hc, args', v, H, hle, c, hfr, k⟩
theorem DG.call {d : Option Nat} {f : Nat} {xs : List Opd} {vs args' : List AV} {v : AV} {H : List ARow} {σ' : AS} {nd : List Nat} (c : ACall P f args' v H) (hv : (xs.map fun x => (lookT (gT tm) x).val) = vs) (hc : conds (lookT (gT tm)) xs) (hle : ALes (gO bx) (gO rw) vs args')
    (hst : AS.app ⟨tm, bx, rw, nb, nr⟩ d ⟨True, shT nr v, 0, H.length, rowsUp nr H⟩ = σ')
    (hfr : frees hs ⟨⟨d, .call f xs, none⟩, ⟨gT tm, gO bx, gO rw⟩, ⟨True, shT nr v, 0, H.length, rowsUp nr H⟩, nb, nr⟩ nd)
    (k : DG P N l need (hs ++ [⟨⟨d, .call f xs, none⟩, ⟨gT tm, gO bx, gO rw⟩, ⟨True, shT nr v, 0, H.length, rowsUp nr H⟩, nb, nr⟩]) y σ' Q) : DG P N (⟨d, .call f xs, none⟩ :: l) (nd :: need) hs y ⟨tm, bx, rw, nb, nr⟩ Q := ⟨DG0.call c hv hc hle hst hfr k.h⟩
end

/-! ### Code, and what stands behind it -/
def QB (P : Program) (N i : Nat) (k : List ACode) (Q : AX → AS → Prop) : AX → AS → Prop
  | .n, τ => WL P N k Q τ
  | .x j, τ => if j = i then WL P N k Q τ else Q (.x j) τ
  | .r, τ => Q .r τ
def QL {ι : Type} (P : Program) (N : Nat) (k : List ACode) (St : ι → AS) (μ : ι → Nat) (i : ι) (Q : AX → AS → Prop) : AX → AS → Prop
  | .n, τ => ∃ j, Wk τ (St j) ∧ μ j < μ i
  | .x j, τ => Q (.x j) τ
  | .r, τ => Q .r τ
section
variable {P : Program} {N : Nat} {σ : AS} {Q : AX → AS → Prop} {k : List ACode}
theorem W.of {c : ACode} (h : WL P N [c] Q σ) : AWP P N c σ Q := AWP.mono h.h fun e τ hq => by cases e <;> exact hq
theorem W.done (h : Q .n σ) : WL P N [] Q σ := ⟨h⟩
theorem W.reg {l : List AO} (h : RG P N l k σ Q) : WL P N (.reg l :: k) Q σ := ⟨AWP.reg h.h⟩
theorem W.drw {l : List AO} {need : List (List Nat)} (h : DG P N l need [] k σ Q) : WL P N (.drw l need :: k) Q σ := ⟨AWP.drw h.h⟩
theorem W.seq {a b : ACode} (h : WL P N (a :: b :: k) Q σ) : WL P N (.seq a b :: k) Q σ := ⟨AWP.seq (AWP.mono h.h fun e τ hq => by cases e <;> exact hq)⟩
theorem W.skip (h : WL P N k Q σ) : WL P N (.skip :: k) Q σ := ⟨AWP.skip h.h⟩
theorem W.ret (h : Q .r σ) : WL P N (.ret :: k) Q σ := ⟨AWP.ret h⟩
theorem W.exit {i : Nat} (h : Q (.x i) σ) : WL P N (.exit i :: k) Q σ := ⟨AWP.exit h⟩
theorem W.cond {c : Opd} {a b : ACode} {t : Bool} (hv : (lookT (gT σ.tm) c).val = .bool t) (hc : (lookT (gT σ.tm) c).cond) (ht : t = true → WL P N (a :: k) Q σ) (hf : t = false → WL P N (b :: k) Q σ) : WL P N (.cond c a b :: k) Q σ :=
  ⟨AWP.cond (by rw [gT_eq] at hv; exact hv) (by rw [gT_eq] at hc; exact hc) (fun e => (ht e).h) fun e => (hf e).h⟩
theorem W.block {i : Nat} {b : ACode} (h : WL P N [b] (QB P N i k Q) σ) : WL P N (.block i b :: k) Q σ := ⟨AWP.block (AWP.mono h.h fun e τ hq => by
  cases e with
  | n => exact WL.h hq
  | r => exact hq
  | x j =>
    change QB P N i k Q (.x j) τ at hq
    simp only [QB] at hq
    dsimp only
    split
    · rename_i e; rw [if_pos e] at hq; exact hq.h
    · rename_i e; rw [if_neg e] at hq; exact hq)⟩
theorem QB.n {i : Nat} (h : WL P N k Q σ) : QB P N i k Q .n σ := h
theorem QB.x {i : Nat} (h : WL P N k Q σ) : QB P N i k Q (.x i) σ := by simp only [QB, if_true]; exact h
theorem QB.o {i j : Nat} (hj : (j == i) = false) (h : Q (.x j) σ) : QB P N i k Q (.x j) σ := by simp only [QB]; rw [if_neg (by simpa using hj)]; exact h
theorem QB.r {i : Nat} (h : Q .r σ) : QB P N i k Q .r σ := h
theorem W.loop {b : ACode} {ι : Type} (St : ι → AS) (μ : ι → Nat) (i0 : ι) (h0 : Wk σ (St i0)) (h : ∀ i, WL P N [b] (QL P N k St μ i Q) (St i)) : WL P N (.loop b :: k) Q σ :=
  ⟨AWP.loop St μ i0 h0 fun i => AWP.mono (h i).h fun e τ hq => by cases e <;> exact hq⟩
theorem QL.n {ι : Type} {St : ι → AS} {μ : ι → Nat} {i : ι} (j : ι) (h : Wk σ (St j)) (hm : μ j < μ i) : QL P N k St μ i Q .n σ := ⟨j, h, hm⟩
theorem QL.x {ι : Type} {St : ι → AS} {μ : ι → Nat} {i : ι} {j : Nat} (h : Q (.x j) σ) : QL P N k St μ i Q (.x j) σ := h
theorem QL.r {ι : Type} {St : ι → AS} {μ : ι → Nat} {i : ι} (h : Q .r σ) : QL P N k St μ i Q .r σ := h
/-- What is told less of. -/
theorem W.wk {τ : AS} (hw : Wk σ τ) (h : WL P N k Q τ) (hk : k ≠ []) : WL P N k Q σ := by
  cases k with
  | nil => exact absurd rfl hk
  | cons c k => exact ⟨AWP.wk hw h.h⟩
/-- A cut: the state is one of St. -/
def QC {ι : Sort 1} (St : ι → AS) (Q : AX → AS → Prop) : AX → AS → Prop
  | .n, τ => ∃ i, Wk τ (St i)
  | .x j, τ => Q (.x j) τ
  | .r, τ => Q .r τ
theorem W.cut {a : ACode} {ι : Sort 1} (St : ι → AS) (h1 : WL P N [a] (QC St Q) σ) (hk : k ≠ []) (h2 : ∀ i, WL P N k Q (St i)) : WL P N (a :: k) Q σ := ⟨AWP.mono h1.h fun e τ hq => by
  cases e with
  | n => obtain ⟨i, hi⟩ := hq; exact (W.wk hi (h2 i) hk).h
  | x id => exact hq
  | r => exact hq⟩
theorem QC.n {ι : Sort 1} {St : ι → AS} (i : ι) (h : Wk σ (St i)) : QC St Q .n σ := ⟨i, h⟩
theorem QC.x {ι : Sort 1} {St : ι → AS} {j : Nat} (h : Q (.x j) σ) : QC St Q (.x j) σ := h
theorem QC.r {ι : Sort 1} {St : ι → AS} (h : Q .r σ) : QC St Q .r σ := h
end
/-! ### Numbers -/
theorem w_i64 {n : Int} (h : -9223372036854775808 ≤ n ∧ n ≤ 9223372036854775807) : IntKind.i64.wrap n = n := by unfold IntKind.wrap; simp only [IntKind.bits, IntKind.signed]; simp; omega
theorem w_i32 {n : Int} (h : -2147483648 ≤ n ∧ n ≤ 2147483647) : IntKind.i32.wrap n = n := by unfold IntKind.wrap; simp only [IntKind.bits, IntKind.signed]; simp; omega
theorem w_u8 {n : Int} (h : 0 ≤ n ∧ n ≤ 255) : IntKind.u8.wrap n = n := by unfold IntKind.wrap; simp only [IntKind.bits, IntKind.signed]; simp; omega
theorem w_u16 {n : Int} (h : 0 ≤ n ∧ n ≤ 65535) : IntKind.u16.wrap n = n := by unfold IntKind.wrap; simp only [IntKind.bits, IntKind.signed]; simp; omega
theorem w_u32 {n : Int} (h : 0 ≤ n ∧ n ≤ 4294967295) : IntKind.u32.wrap n = n := by unfold IntKind.wrap; simp only [IntKind.bits, IntKind.signed]; simp; omega
theorem w_u64 {n : Int} (h : 0 ≤ n ∧ n ≤ 18446744073709551615) : IntKind.u64.wrap n = n := by unfold IntKind.wrap; simp only [IntKind.bits, IntKind.signed]; simp; omega
theorem m_u8 (n : Int) : IntKind.u8.wrap n = n % 256 := by unfold IntKind.wrap; simp only [IntKind.bits, IntKind.signed]; simp
theorem m_u16 (n : Int) : IntKind.u16.wrap n = n % 65536 := by unfold IntKind.wrap; simp only [IntKind.bits, IntKind.signed]; simp
theorem m_u32 (n : Int) : IntKind.u32.wrap n = n % 4294967296 := by unfold IntKind.wrap; simp only [IntKind.bits, IntKind.signed]; simp
theorem m_u64 (n : Int) : IntKind.u64.wrap n = n % 18446744073709551616 := by unfold IntKind.wrap; simp only [IntKind.bits, IntKind.signed]; simp
theorem m_i32 (n : Int) : IntKind.i32.wrap n = (n + 2147483648) % 4294967296 - 2147483648 := by unfold IntKind.wrap; simp only [IntKind.bits, IntKind.signed]; simp; omega
theorem m_i64 (n : Int) : IntKind.i64.wrap n = (n + 9223372036854775808) % 18446744073709551616 - 9223372036854775808 := by unfold IntKind.wrap; simp only [IntKind.bits, IntKind.signed]; simp; omega
theorem r_mod {n m : Int} (h : 0 ≤ n) : n.tmod m = n % m := Int.tmod_eq_emod_of_nonneg h
theorem r_div {n m : Int} (h : 0 ≤ n) : n.tdiv m = n / m := Int.tdiv_eq_ediv_of_nonneg h
section
variable {P : Program} {N : Nat} {l : List AO} {y : List ACode} {Q : AX → AS → Prop} {tm : List (Nat × AV)} {bx : List (Option (List AV))} {rw : List (Option ARow)} {nb nr : Nat}
/-- A truth, told anew. -/
theorem RG.b {t : Nat} {ai : AI} {c : Prop} {n n' : Bool} (hq : quiet ai = true) (h : aistep false (lookT (gT tm)) (gO bx) (gO rw) nb nr ai = ⟨c, .bool n, 0, 0, []⟩) (hok : c) (hn : n = n')
    (k : RG P N l y ⟨(t, .bool n') :: tm, bx, rw, nb, nr⟩ Q) : RG P N (⟨some t, ai, none⟩ :: l) y ⟨tm, bx, rw, nb, nr⟩ Q := RG.v hq h hok (hn ▸ k)
theorem RG.gb {t u : Nat} {want G : Bool} {ai : AI} {c : Prop} {n n' : Bool} (hq : quiet ai = true) (hg : gval (gT tm u) want = some G) (h : aistep false (lookT (gT tm)) (gO bx) (gO rw) nb nr ai = ⟨c, .bool n, 0, 0, []⟩) (hok : G = true → c) (hn : n = n')
    (k : RG P N l y ⟨(t, .cnd G (.bool n')) :: tm, bx, rw, nb, nr⟩ Q) : RG P N (⟨some t, ai, some (u, want)⟩ :: l) y ⟨tm, bx, rw, nb, nr⟩ Q := RG.g hq hg h hok (hn ▸ k)
/-- A number under a guard, told anew. -/
theorem RG.gi {t u : Nat} {want G : Bool} {ai : AI} {c : Prop} {kd : IntKind} {n n' : Int} (hq : quiet ai = true) (hg : gval (gT tm u) want = some G) (h : aistep false (lookT (gT tm)) (gO bx) (gO rw) nb nr ai = ⟨c, .int kd n, 0, 0, []⟩) (hok : G = true → c) (hn : n = n')
    (k : RG P N l y ⟨(t, .cnd G (.int kd n')) :: tm, bx, rw, nb, nr⟩ Q) : RG P N (⟨some t, ai, some (u, want)⟩ :: l) y ⟨tm, bx, rw, nb, nr⟩ Q := RG.g hq hg h hok (hn ▸ k)
/-- A number, told anew. -/
theorem RG0.i {t : Nat} {ai : AI} {c : Prop} {kd : IntKind} {n n' : Int} (hq : quiet ai = true) (h : aistep false (lookT (gT tm)) (gO bx) (gO rw) nb nr ai = ⟨c, .int kd n, 0, 0, []⟩) (hok : c) (hn : n = n')
    (k : RG0 P N l y ⟨(t, .int kd n') :: tm, bx, rw, nb, nr⟩ Q) : RG0 P N (⟨some t, ai, none⟩ :: l) y ⟨tm, bx, rw, nb, nr⟩ Q := RG0.v hq h hok (hn ▸ k)
theorem RG.i {t : Nat} {ai : AI} {c : Prop} {kd : IntKind} {n n' : Int} (hq : quiet ai = true) (h : aistep false (lookT (gT tm)) (gO bx) (gO rw) nb nr ai = ⟨c, .int kd n, 0, 0, []⟩) (hok : c) (hn : n = n')
    (k : RG P N l y ⟨(t, .int kd n') :: tm, bx, rw, nb, nr⟩ Q) : RG P N (⟨some t, ai, none⟩ :: l) y ⟨tm, bx, rw, nb, nr⟩ Q := ⟨RG0.i hq h hok hn k.h⟩
end
end Go.Proofs.Ytiejnmbpejfpgaa
