/- Steps, with what they leave of the state told part by part. -/
import Derived.Test.YtmohmcgcggenfaaAx28
namespace Go.Proofs.Ytmohmcgcggenfaa
open Go.RowKit
set_option linter.unusedVariables false
set_option linter.unusedSimpArgs false

def upsB : List (Option (List AV)) → List Upd → List (Option (List AV))
  | bx, [] => bx
  | bx, .B b c :: l => upsB (setO bx b (some c)) l
  | bx, .R _ _ :: l => upsB bx l
def upsR : List (Option ARow) → List Upd → List (Option ARow)
  | rw, [] => rw
  | rw, .B _ _ :: l => upsR rw l
  | rw, .R b r :: l => upsR (setO rw b r) l
theorem ups_split : ∀ (l : List Upd) (σ : AS), σ.ups l = ⟨σ.tm, upsB σ.bx l, upsR σ.rw l, σ.nb, σ.nr⟩
  | [], σ => rfl
  | .B b c :: l, σ => ups_split l (σ.upd (.B b c))
  | .R b r :: l, σ => ups_split l (σ.upd (.R b r))
theorem upsB_0 (bx : List (Option (List AV))) : upsB bx [] = bx := rfl
theorem upsB_R (bx : List (Option (List AV))) (b : Nat) (r : Option ARow) : upsB bx [.R b r] = bx := rfl
theorem upsB_B {bx bx' : List (Option (List AV))} {b : Nat} {c : List AV} (h : setO bx b (some c) = bx') : upsB bx [.B b c] = bx' := h
theorem upsR_0 (rw : List (Option ARow)) : upsR rw [] = rw := rfl
theorem upsR_B (rw : List (Option ARow)) (b : Nat) (c : List AV) : upsR rw [.B b c] = rw := rfl
theorem setO_n {α : Type} (x : Option α) : setO [] 0 x = [x] := rfl
theorem setO_0 {α : Type} (y : Option α) (l : List (Option α)) (x : Option α) : setO (y :: l) 0 x = x :: l := rfl
theorem setO_s {α : Type} {y : Option α} {l m : List (Option α)} {n : Nat} {x : Option α} (h : setO l n x = m) : setO (y :: l) (n + 1) x = y :: m := by subst h; rfl
theorem setO_e {α : Type} {m : List (Option α)} {n : Nat} {x : Option α} (h : setO [] n x = m) : setO [] (n + 1) x = none :: m := by subst h; rfl
theorem put_0 (x v : AV) (l : List AV) : putCells (x :: l) 0 [v] = v :: l := rfl
theorem put_s {x v : AV} {l m : List AV} {n : Nat} (h : putCells l n [v] = m) : putCells (x :: l) (n + 1) [v] = x :: m := by
  subst h
  have e : n + 1 + [v].length = (n + [v].length) + 1 := by omega
  unfold putCells
  rw [e]; rfl
theorem ld_0 (n : Nat) (x : AV) (l : List AV) : loadC false n ((x :: l).drop 0) = ⟨1 ≤ l.length + 1, x, 0, 0, []⟩ := rfl
theorem ld_s {g : Bool} {n off : Nat} {x : AV} {l : List AV} {r : Res} (h : loadC g n (l.drop off) = r) : loadC g n ((x :: l).drop (off + 1)) = r := h
theorem one_le (n : Nat) : 1 ≤ n + 1 := Nat.le_add_left 1 n
theorem rfl_cst {f : Nat → AV} (v : AV) : lookT f (.cst v) = v := rfl
theorem lookT_t {tm : List (Nat × AV)} {t : Nat} {v : AV} (h : gT tm t = v) : lookT (gT tm) (.tmp t) = v := h
theorem gval_of {tm : List (Nat × AV)} {u : Nat} {v : AV} {want : Bool} {o : Option Bool} (h : gT tm u = v) (k : gval v want = o) : gval (gT tm u) want = o := by rw [h]; exact k

section
variable {P : Program} {N : Nat} {l : List AO} {y : List ACode} {Q : AX → AS → Prop} {tm : List (Nat × AV)} {bx bx' : List (Option (List AV))} {rw rw' : List (Option ARow)} {nb nr nb' nr' : Nat} {need : List (List Nat)} {hs : List HE}
theorem app_U {t : Nat} {v : AV} {db dr : Nat} {up : List Upd} (hb : upsB bx up = bx') (hr : upsR rw up = rw') (h1 : nb + db = nb') (h2 : nr + dr = nr') : AS.app ⟨tm, bx, rw, nb, nr⟩ (some t) ⟨True, v, db, dr, up⟩ = ⟨(t, v) :: tm, bx', rw', nb', nr'⟩ := by
  subst hb hr h1 h2
  simp only [AS.app, ups_split, AS.put]
theorem app_M {v : AV} {db dr : Nat} {up : List Upd} (hb : upsB bx up = bx') (hr : upsR rw up = rw') (h1 : nb + db = nb') (h2 : nr + dr = nr') : AS.app ⟨tm, bx, rw, nb, nr⟩ none ⟨True, v, db, dr, up⟩ = ⟨tm, bx', rw', nb', nr'⟩ := by
  subst hb hr h1 h2
  simp only [AS.app, ups_split, AS.put]

/-- A step: r is what it gives, σ' what it leaves. -/
structure STP (P : Program) (tm : List (Nat × AV)) (bx : List (Option (List AV))) (rw : List (Option ARow)) (nb nr : Nat) (o : AO) (r : Res) (σ' : AS) : Prop where
  k : ∀ K : Res → Prop, K r → StepK P false (AS.fs ⟨tm, bx, rw, nb, nr⟩) nb nr o K
  e : AS.app ⟨tm, bx, rw, nb, nr⟩ o.dst r = σ'
theorem STP.u {d : Option Nat} {ai : AI} {r : Res} {σ' : AS} (hq : isCall ai = false) (h : aistep false (lookT (gT tm)) (gO bx) (gO rw) nb nr ai = r) (hok : r.ok) (hs : AS.app ⟨tm, bx, rw, nb, nr⟩ d r = σ') : STP P tm bx rw nb nr ⟨d, ai, none⟩ r σ' := by
  refine ⟨fun K hK => ?_, hs⟩
  rw [gT_eq, gO_eq, gO_eq] at h
  have h' : aistep false (lookT (AS.fs ⟨tm, bx, rw, nb, nr⟩).tm) (AS.fs ⟨tm, bx, rw, nb, nr⟩).bx (AS.fs ⟨tm, bx, rw, nb, nr⟩).rw nb nr ai = r := h
  have key : (aistep false (lookT (AS.fs ⟨tm, bx, rw, nb, nr⟩).tm) (AS.fs ⟨tm, bx, rw, nb, nr⟩).bx (AS.fs ⟨tm, bx, rw, nb, nr⟩).rw nb nr ai).ok ∧ K (aistep false (lookT (AS.fs ⟨tm, bx, rw, nb, nr⟩).tm) (AS.fs ⟨tm, bx, rw, nb, nr⟩).bx (AS.fs ⟨tm, bx, rw, nb, nr⟩).rw nb nr ai) := by
    rw [h']; exact ⟨hok, hK⟩
  cases ai <;> first | exact key | cases hq
theorem STP.v {t : Nat} {ai : AI} {v : AV} (h : ST tm bx rw nb nr ai v 0 0 []) : STP P tm bx rw nb nr ⟨some t, ai, none⟩ ⟨(aistep false (lookT (gT tm)) (gO bx) (gO rw) nb nr ai).ok, v, 0, 0, []⟩ ⟨(t, v) :: tm, bx, rw, nb, nr⟩ :=
  STP.u h.nc h.eq h.ok rfl
theorem STP.m {t : Nat} {ai : AI} {v : AV} {db dr : Nat} {up : List Upd} (h : ST tm bx rw nb nr ai v db dr up) (hb : upsB bx up = bx') (hr : upsR rw up = rw') (h1 : nb + db = nb') (h2 : nr + dr = nr') : STP P tm bx rw nb nr ⟨some t, ai, none⟩ ⟨(aistep false (lookT (gT tm)) (gO bx) (gO rw) nb nr ai).ok, v, db, dr, up⟩ ⟨(t, v) :: tm, bx', rw', nb', nr'⟩ :=
  STP.u h.nc h.eq h.ok (app_U hb hr h1 h2)
theorem STP.n {ai : AI} {v : AV} {db dr : Nat} {up : List Upd} (h : ST tm bx rw nb nr ai v db dr up) (hb : upsB bx up = bx') (hr : upsR rw up = rw') (h1 : nb + db = nb') (h2 : nr + dr = nr') : STP P tm bx rw nb nr ⟨none, ai, none⟩ ⟨(aistep false (lookT (gT tm)) (gO bx) (gO rw) nb nr ai).ok, v, db, dr, up⟩ ⟨tm, bx', rw', nb', nr'⟩ :=
  STP.u h.nc h.eq h.ok (app_M hb hr h1 h2)
theorem STP.g {t u : Nat} {want G : Bool} {ai : AI} {v v' : AV} (hg : gval (gT tm u) want = some G) (h : SG tm bx rw nb nr G ai v) (hv : mkCnd G v = v') : STP P tm bx rw nb nr ⟨some t, ai, some (u, want)⟩ ⟨True, v', 0, 0, []⟩ ⟨(t, v') :: tm, bx, rw, nb, nr⟩ := by
  subst hv
  refine ⟨fun K hK => ?_, rfl⟩
  have he := h.eq
  have hok := h.ok
  rw [gT_eq, gO_eq, gO_eq] at he hok
  rw [gT_eq] at hg
  unfold StepK
  dsimp only
  have hg' : gval ((AS.fs ⟨tm, bx, rw, nb, nr⟩).tm u) want = some G := hg
  rw [hg']
  dsimp only
  refine .inl ?_
  have he' : aistep false (lookT (AS.fs ⟨tm, bx, rw, nb, nr⟩).tm) (AS.fs ⟨tm, bx, rw, nb, nr⟩).bx (AS.fs ⟨tm, bx, rw, nb, nr⟩).rw nb nr ai = _ := he
  have hok' : G = true → (aistep false (lookT (AS.fs ⟨tm, bx, rw, nb, nr⟩).tm) (AS.fs ⟨tm, bx, rw, nb, nr⟩).bx (AS.fs ⟨tm, bx, rw, nb, nr⟩).rw nb nr ai).ok := hok
  have hnc := h.nc
  have key : (G = true → (aistep false (lookT (AS.fs ⟨tm, bx, rw, nb, nr⟩).tm) (AS.fs ⟨tm, bx, rw, nb, nr⟩).bx (AS.fs ⟨tm, bx, rw, nb, nr⟩).rw nb nr ai).ok) ∧ ((aistep false (lookT (AS.fs ⟨tm, bx, rw, nb, nr⟩).tm) (AS.fs ⟨tm, bx, rw, nb, nr⟩).bx (AS.fs ⟨tm, bx, rw, nb, nr⟩).rw nb nr ai).up = [] ∧ (aistep false (lookT (AS.fs ⟨tm, bx, rw, nb, nr⟩).tm) (AS.fs ⟨tm, bx, rw, nb, nr⟩).bx (AS.fs ⟨tm, bx, rw, nb, nr⟩).rw nb nr ai).nb = 0 ∧ (aistep false (lookT (AS.fs ⟨tm, bx, rw, nb, nr⟩).tm) (AS.fs ⟨tm, bx, rw, nb, nr⟩).bx (AS.fs ⟨tm, bx, rw, nb, nr⟩).rw nb nr ai).nr = 0) ∧ K ⟨True, mkCnd G (aistep false (lookT (AS.fs ⟨tm, bx, rw, nb, nr⟩).tm) (AS.fs ⟨tm, bx, rw, nb, nr⟩).bx (AS.fs ⟨tm, bx, rw, nb, nr⟩).rw nb nr ai).av, 0, 0, []⟩ := by
    refine ⟨hok', ?_⟩
    rw [he']; exact ⟨⟨rfl, rfl, rfl⟩, hK⟩
  cases ai <;> first | exact key | cases hnc
/-- Under a guard that is false nothing is done. -/
theorem STP.g0 {t u : Nat} {want : Bool} {ai : AI} (hg : gval (gT tm u) want = some false) : STP P tm bx rw nb nr ⟨some t, ai, some (u, want)⟩ ⟨True, .cnd false (.bool false), 0, 0, []⟩ ⟨(t, .cnd false (.bool false)) :: tm, bx, rw, nb, nr⟩ := by
  refine ⟨fun K hK => ?_, rfl⟩
  rw [gT_eq] at hg
  unfold StepK
  dsimp only
  have hg' : gval ((AS.fs ⟨tm, bx, rw, nb, nr⟩).tm u) want = some false := hg
  rw [hg']
  exact .inr ⟨rfl, .bool false, hK⟩
theorem upsB_rows (bx : List (Option (List AV))) : ∀ (H : List ARow) (m : Nat), upsB bx (rowsUp m H) = bx
  | [], _ => rfl
  | _ :: H, m => upsB_rows bx H (m + 1)
theorem STP.call {t f : Nat} {xs : List Opd} {vs args' : List AV} {v v' : AV} {H : List ARow} (c : ACall P f args' v H) (hv : (xs.map fun x => (lookT (gT tm) x).val) = vs) (hc : conds (lookT (gT tm)) xs) (hle : ALes (gO bx) (gO rw) vs args')
    (hw : shT nr v = v') (hr : upsR rw (rowsUp nr H) = rw') (h2 : nr + H.length = nr') : STP P tm bx rw nb nr ⟨some t, .call f xs, none⟩ ⟨True, v', 0, H.length, rowsUp nr H⟩ ⟨(t, v') :: tm, bx, rw', nb, nr'⟩ := by
  subst hw
  rw [gT_eq] at hv hc
  rw [gO_eq, gO_eq] at hle
  subst hv
  exact ⟨fun K hK => ⟨hc, args', v, H, hle, c, hK⟩, app_U (upsB_rows _ _ _) hr rfl h2⟩
theorem STP.call0 {f : Nat} {xs : List Opd} {vs args' : List AV} {v : AV} {H : List ARow} (c : ACall P f args' v H) (hv : (xs.map fun x => (lookT (gT tm) x).val) = vs) (hc : conds (lookT (gT tm)) xs) (hle : ALes (gO bx) (gO rw) vs args')
    (hr : upsR rw (rowsUp nr H) = rw') (h2 : nr + H.length = nr') : STP P tm bx rw nb nr ⟨none, .call f xs, none⟩ ⟨True, shT nr v, 0, H.length, rowsUp nr H⟩ ⟨tm, bx, rw', nb, nr'⟩ := by
  rw [gT_eq] at hv hc
  rw [gO_eq, gO_eq] at hle
  subst hv
  exact ⟨fun K hK => ⟨hc, args', v, H, hle, c, hK⟩, app_M (upsB_rows _ _ _) hr rfl h2⟩
theorem STP.gcall {t u : Nat} {want G : Bool} {f : Nat} {xs : List Opd} {vs args' : List AV} {v v' : AV} (c : G = true → ACall P f args' v []) (hg : gval (gT tm u) want = some G) (hv : (xs.map fun x => (lookT (gT tm) x).val) = vs) (hc : G = true → conds (lookT (gT tm)) xs) (hle : G = true → ALes (gO bx) (gO rw) vs args')
    (hw : mkCnd G (shT nr v) = v') : STP P tm bx rw nb nr ⟨some t, .call f xs, some (u, want)⟩ ⟨True, v', 0, 0, []⟩ ⟨(t, v') :: tm, bx, rw, nb, nr⟩ := by
  subst hw
  rw [gT_eq] at hv hc hg
  rw [gO_eq, gO_eq] at hle
  subst hv
  refine ⟨fun K hK => ?_, rfl⟩
  unfold StepK
  dsimp only
  have hg' : gval ((AS.fs ⟨tm, bx, rw, nb, nr⟩).tm u) want = some G := hg
  rw [hg']
  refine .inl ?_
  exact ⟨args', v, fun e => ⟨hc e, hle e, c e⟩, hK⟩
theorem STP.callv {t : Nat} {x : Opd} {f : Nat} {caps : List AV} {xs : List Opd} {vs args' : List AV} {v v' : AV} {H : List ARow} (c : ACall P f args' v H) (hf : lookT (gT tm) x = .fn f caps) (hv : (xs.map fun x => (lookT (gT tm) x).val) ++ caps = vs) (hc : conds (lookT (gT tm)) xs) (hle : ALes (gO bx) (gO rw) vs args')
    (hw : shT nr v = v') (hr : upsR rw (rowsUp nr H) = rw') (h2 : nr + H.length = nr') : STP P tm bx rw nb nr ⟨some t, .callv x xs, none⟩ ⟨True, v', 0, H.length, rowsUp nr H⟩ ⟨(t, v') :: tm, bx, rw', nb, nr'⟩ := by
  subst hw
  rw [gT_eq] at hv hc hf
  rw [gO_eq, gO_eq] at hle
  subst hv
  refine ⟨fun K hK => ?_, app_U (upsB_rows _ _ _) hr rfl h2⟩
  unfold StepK
  dsimp only
  have hf' : lookT (AS.fs ⟨tm, bx, rw, nb, nr⟩).tm x = .fn f caps := hf
  have hf2 : (lookT (AS.fs ⟨tm, bx, rw, nb, nr⟩).tm x).cond := by rw [hf']; trivial
  unfold OpK
  dsimp only
  rw [show (lookT (AS.fs ⟨tm, bx, rw, nb, nr⟩).tm x).val = .fn f caps by rw [hf']; rfl]
  exact ⟨hf2, hc, args', v, H, hle, c, hK⟩
theorem RG.step {o : AO} {r : Res} {σ' : AS} (h : STP P tm bx rw nb nr o r σ') (k : RG P N l y σ' Q) : RG P N (o :: l) y ⟨tm, bx, rw, nb, nr⟩ Q :=
  ⟨h.k _ (by rw [h.e]; exact k.h)⟩
theorem DG.step {o : AO} {r : Res} {σ' : AS} {nd : List Nat} (h : STP P tm bx rw nb nr o r σ') (hfr : frees hs ⟨o, ⟨gT tm, gO bx, gO rw⟩, r, nb, nr⟩ nd)
    (k : DG P N l need (hs ++ [⟨o, ⟨gT tm, gO bx, gO rw⟩, r, nb, nr⟩]) y σ' Q) : DG P N (o :: l) (nd :: need) hs y ⟨tm, bx, rw, nb, nr⟩ Q := by
  obtain ⟨k⟩ := k
  rw [gT_eq, gO_eq, gO_eq] at *
  exact ⟨h.k _ ⟨hfr, by rw [h.e]; exact k⟩⟩
/-- A value, told anew. -/
theorem STP.w {t : Nat} {ai : AI} {c : Prop} {v v' : AV} (hq : quiet ai = true) (h : aistep false (lookT (gT tm)) (gO bx) (gO rw) nb nr ai = ⟨c, v, 0, 0, []⟩) (hok : c) (hv : v = v') : STP P tm bx rw nb nr ⟨some t, ai, none⟩ ⟨c, v', 0, 0, []⟩ ⟨(t, v') :: tm, bx, rw, nb, nr⟩ := by
  subst hv
  exact STP.u (by cases ai <;> first | rfl | cases hq) h hok rfl
theorem STP.wg {t u : Nat} {want G : Bool} {ai : AI} {c : Prop} {v v' v2 : AV} (hq : quiet ai = true) (hg : gval (gT tm u) want = some G) (h : aistep false (lookT (gT tm)) (gO bx) (gO rw) nb nr ai = ⟨c, v, 0, 0, []⟩) (hok : G = true → c) (hv : v = v') (hv2 : mkCnd G v' = v2) : STP P tm bx rw nb nr ⟨some t, ai, some (u, want)⟩ ⟨True, v2, 0, 0, []⟩ ⟨(t, v2) :: tm, bx, rw, nb, nr⟩ := by
  subst hv
  refine STP.g hg ⟨(by cases ai <;> first | rfl | cases hq), fun e => ?_, ?_, ?_, ?_, ?_⟩ hv2 <;> rw [h]
  exact hok e
theorem STP.gb2s {t u k : Nat} {want G : Bool} {x : Opd} {v : AV} {es : List AV} {s : List UInt8} (hg : gval (gT tm u) want = some G) (hx : lookT (gT tm) x = v) (hc : G = true → v.cond) (he : Els rw k v.val es) (hb : isBy es = true) (hs : unby es = s) : STP P tm bx rw nb nr ⟨some t, .b2s x, some (u, want)⟩ ⟨True, .cnd G (.str s), 0, 0, []⟩ ⟨(t, .cnd G (.str s)) :: tm, bx, rw, nb, nr⟩ := by
  obtain ⟨k', h1, h2⟩ := he.els
  subst hs
  have h : aistep false (lookT (gT tm)) (gO bx) (gO rw) nb nr (.b2s x) = ⟨v.cond ∧ isBy es = true, .str (unby es), 0, 0, []⟩ := by simp only [aistep, hx, h1]
  exact STP.wg rfl hg h (fun e => ⟨hc e, hb⟩) rfl rfl
theorem ST.nilc {x : Opd} {v : AV} (hx : lookT (gT tm) x = v) (h : (∃ b o, v = .bptr b o) ∨ (∃ b k i o, v = .rptr b k i o) ∨ (∃ b n, v = .aptr b n) ∨ ∃ vol cs, v = .cptr vol cs) : ST tm bx rw nb nr (.nchk x) v 0 0 [] := by
  rcases h with ⟨b, o, rfl⟩ | ⟨b, k, i, o, rfl⟩ | ⟨b, n, rfl⟩ | ⟨vol, cs, rfl⟩ <;> (refine ⟨rfl, ?_, ?_, ?_, ?_, ?_⟩ <;> simp only [aistep, hx, AV.val]) <;> trivial
end
end Go.Proofs.Ytmohmcgcggenfaa
