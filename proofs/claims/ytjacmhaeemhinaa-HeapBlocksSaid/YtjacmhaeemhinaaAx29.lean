/- Steps, with what they leave of the state told part by part. -/
import Derived.Test.YtjacmhaeemhinaaAx25
namespace Go.Proofs.Ytjacmhaeemhinaa
open Go.RowKit
set_option linter.unusedVariables false
set_option linter.unusedSimpArgs false

def upsB : List (Option (List AV)) → List Upd → List (Option (List AV))
  | bx, [] => bx
  | bx, .B b c :: l => upsB (setO bx b (some c)) l
  | bx, .R _ _ :: l => upsB bx l
def upsR : List (Option ARow) → List Upd → List (Option ARow)
  | rw, [] => rw
  | rw, .B _ _ :: l => upsR rw l
  | rw, .R b r :: l => upsR (setO rw b r) l
theorem ups_split : ∀ (l : List Upd) (σ : AS), σ.ups l = ⟨σ.tm, upsB σ.bx l, upsR σ.rw l, σ.nb, σ.nr⟩
  | [], σ => rfl
  | .B b c :: l, σ => ups_split l (σ.upd (.B b c))
  | .R b r :: l, σ => ups_split l (σ.upd (.R b r))
theorem upsB_0 (bx : List (Option (List AV))) : upsB bx [] = bx := rfl
theorem upsB_R (bx : List (Option (List AV))) (b : Nat) (r : Option ARow) : upsB bx [.R b r] = bx := rfl
theorem upsR_0 (rw : List (Option ARow)) : upsR rw [] = rw := rfl
theorem upsR_B (rw : List (Option ARow)) (b : Nat) (c : List AV) : upsR rw [.B b c] = rw := rfl
theorem put_0 (x v : AV) (l : List AV) : putCells (x :: l) 0 [v] = v :: l := rfl
theorem ld_0 (n : Nat) (x : AV) (l : List AV) : loadC false n ((x :: l).drop 0) = ⟨1 ≤ l.length + 1, x, 0, 0, []⟩ := rfl
theorem ld_s {g : Bool} {n off : Nat} {x : AV} {l : List AV} {r : Res} (h : loadC g n (l.drop off) = r) : loadC g n ((x :: l).drop (off + 1)) = r := h
theorem one_le (n : Nat) : 1 ≤ n + 1 := Nat.le_add_left 1 n
theorem gval_of {tm : List (Nat × AV)} {u : Nat} {v : AV} {want : Bool} {o : Option Bool} (h : gT tm u = v) (k : gval v want = o) : gval (gT tm u) want = o := by rw [h]; exact k

section
variable {P : Program} {N : Nat} {l : List AO} {y : List ACode} {Q : AX → AS → Prop} {tm : List (Nat × AV)} {bx bx' : List (Option (List AV))} {rw rw' : List (Option ARow)} {nb nr nb' nr' : Nat} {need : List (List Nat)} {hs : List HE}
theorem app_U {t : Nat} {v : AV} {db dr : Nat} {up : List Upd} (hb : upsB bx up = bx') (hr : upsR rw up = rw') (h1 : nb + db = nb') (h2 : nr + dr = nr') : AS.app ⟨tm, bx, rw, nb, nr⟩ (some t) ⟨True, v, db, dr, up⟩ = ⟨(t, v) :: tm, bx', rw', nb', nr'⟩ := by
  subst hb hr h1 h2
  simp only [AS.app, ups_split, AS.put]
theorem app_M {v : AV} {db dr : Nat} {up : List Upd} (hb : upsB bx up = bx') (hr : upsR rw up = rw') (h1 : nb + db = nb') (h2 : nr + dr = nr') : AS.app ⟨tm, bx, rw, nb, nr⟩ none ⟨True, v, db, dr, up⟩ = ⟨tm, bx', rw', nb', nr'⟩ := by
  subst hb hr h1 h2
  simp only [AS.app, ups_split, AS.put]

/-- A step: r is what it gives, σ' what it leaves. -/
structure STP (P : Program) (tm : List (Nat × AV)) (bx : List (Option (List AV))) (rw : List (Option ARow)) (nb nr : Nat) (o : AO) (r : Res) (σ' : AS) : Prop where
  k : ∀ K : Res → Prop, K r → StepK P false (AS.fs ⟨tm, bx, rw, nb, nr⟩) nb nr o K
  e : AS.app ⟨tm, bx, rw, nb, nr⟩ o.dst r = σ'
theorem STP.u {d : Option Nat} {ai : AI} {r : Res} {σ' : AS} (hq : isCall ai = false) (h : aistep false (lookT (gT tm)) (gO bx) (gO rw) nb nr ai = r) (hok : r.ok) (hs : AS.app ⟨tm, bx, rw, nb, nr⟩ d r = σ') : STP P tm bx rw nb nr ⟨d, ai, none⟩ r σ' := by
  refine ⟨fun K hK => ?_, hs⟩
  rw [gT_eq, gO_eq, gO_eq] at h
  have h' : aistep false (lookT (AS.fs ⟨tm, bx, rw, nb, nr⟩).tm) (AS.fs ⟨tm, bx, rw, nb, nr⟩).bx (AS.fs ⟨tm, bx, rw, nb, nr⟩).rw nb nr ai = r := h
  have key : (aistep false (lookT (AS.fs ⟨tm, bx, rw, nb, nr⟩).tm) (AS.fs ⟨tm, bx, rw, nb, nr⟩).bx (AS.fs ⟨tm, bx, rw, nb, nr⟩).rw nb nr ai).ok ∧ K (aistep false (lookT (AS.fs ⟨tm, bx, rw, nb, nr⟩).tm) (AS.fs ⟨tm, bx, rw, nb, nr⟩).bx (AS.fs ⟨tm, bx, rw, nb, nr⟩).rw nb nr ai) := by
    rw [h']; exact ⟨hok, hK⟩
  cases ai <;> first | exact key | cases hq
theorem STP.v {t : Nat} {ai : AI} {v : AV} (h : ST tm bx rw nb nr ai v 0 0 []) : STP P tm bx rw nb nr ⟨some t, ai, none⟩ ⟨(aistep false (lookT (gT tm)) (gO bx) (gO rw) nb nr ai).ok, v, 0, 0, []⟩ ⟨(t, v) :: tm, bx, rw, nb, nr⟩ :=
  STP.u h.nc h.eq h.ok rfl
theorem STP.m {t : Nat} {ai : AI} {v : AV} {db dr : Nat} {up : List Upd} (h : ST tm bx rw nb nr ai v db dr up) (hb : upsB bx up = bx') (hr : upsR rw up = rw') (h1 : nb + db = nb') (h2 : nr + dr = nr') : STP P tm bx rw nb nr ⟨some t, ai, none⟩ ⟨(aistep false (lookT (gT tm)) (gO bx) (gO rw) nb nr ai).ok, v, db, dr, up⟩ ⟨(t, v) :: tm, bx', rw', nb', nr'⟩ :=
  STP.u h.nc h.eq h.ok (app_U hb hr h1 h2)
theorem STP.n {ai : AI} {v : AV} {db dr : Nat} {up : List Upd} (h : ST tm bx rw nb nr ai v db dr up) (hb : upsB bx up = bx') (hr : upsR rw up = rw') (h1 : nb + db = nb') (h2 : nr + dr = nr') : STP P tm bx rw nb nr ⟨none, ai, none⟩ ⟨(aistep false (lookT (gT tm)) (gO bx) (gO rw) nb nr ai).ok, v, db, dr, up⟩ ⟨tm, bx', rw', nb', nr'⟩ :=
  STP.u h.nc h.eq h.ok (app_M hb hr h1 h2)
theorem STP.g {t u : Nat} {want G : Bool} {ai : AI} {v v' : AV} (hg : gval (gT tm u) want = some G) (h : SG tm bx rw nb nr G ai v) (hv : mkCnd G v = v') : STP P tm bx rw nb nr ⟨some t, ai, some (u, want)⟩ ⟨True, v', 0, 0, []⟩ ⟨(t, v') :: tm, bx, rw, nb, nr⟩ := by
  subst hv
  refine ⟨fun K hK => ?_, rfl⟩
  have he := h.eq
  have hok := h.ok
  rw [gT_eq, gO_eq, gO_eq] at he hok
  rw [gT_eq] at hg
  unfold StepK
  dsimp only
  have hg' : gval ((AS.fs ⟨tm, bx, rw, nb, nr⟩).tm u) want = some G := hg
  rw [hg']
  dsimp only
  refine .inl ?_
  have he' : aistep false (lookT (AS.fs ⟨tm, bx, rw, nb, nr⟩).tm) (AS.fs ⟨tm, bx, rw, nb, nr⟩).bx (AS.fs ⟨tm, bx, rw, nb, nr⟩).rw nb nr ai = _ := he
  have hok' : G = true → (aistep false (lookT (AS.fs ⟨tm, bx, rw, nb, nr⟩).tm) (AS.fs ⟨tm, bx, rw, nb, nr⟩).bx (AS.fs ⟨tm, bx, rw, nb, nr⟩).rw nb nr ai).ok := hok
  have hnc := h.nc
  have key : (G = true → (aistep false (lookT (AS.fs ⟨tm, bx, rw, nb, nr⟩).tm) (AS.fs ⟨tm, bx, rw, nb, nr⟩).bx (AS.fs ⟨tm, bx, rw, nb, nr⟩).rw nb nr ai).ok) ∧ ((aistep false (lookT (AS.fs ⟨tm, bx, rw, nb, nr⟩).tm) (AS.fs ⟨tm, bx, rw, nb, nr⟩).bx (AS.fs ⟨tm, bx, rw, nb, nr⟩).rw nb nr ai).up = [] ∧ (aistep false (lookT (AS.fs ⟨tm, bx, rw, nb, nr⟩).tm) (AS.fs ⟨tm, bx, rw, nb, nr⟩).bx (AS.fs ⟨tm, bx, rw, nb, nr⟩).rw nb nr ai).nb = 0 ∧ (aistep false (lookT (AS.fs ⟨tm, bx, rw, nb, nr⟩).tm) (AS.fs ⟨tm, bx, rw, nb, nr⟩).bx (AS.fs ⟨tm, bx, rw, nb, nr⟩).rw nb nr ai).nr = 0) ∧ K ⟨True, mkCnd G (aistep false (lookT (AS.fs ⟨tm, bx, rw, nb, nr⟩).tm) (AS.fs ⟨tm, bx, rw, nb, nr⟩).bx (AS.fs ⟨tm, bx, rw, nb, nr⟩).rw nb nr ai).av, 0, 0, []⟩ := by
    refine ⟨hok', ?_⟩
    rw [he']; exact ⟨⟨rfl, rfl, rfl⟩, hK⟩
  cases ai <;> first | exact key | cases hnc
/-- Under a guard that is false nothing is done. -/
theorem STP.g0 {t u : Nat} {want : Bool} {ai : AI} (hg : gval (gT tm u) want = some false) : STP P tm bx rw nb nr ⟨some t, ai, some (u, want)⟩ ⟨True, .cnd false (.bool false), 0, 0, []⟩ ⟨(t, .cnd false (.bool false)) :: tm, bx, rw, nb, nr⟩ := by
  refine ⟨fun K hK => ?_, rfl⟩
  rw [gT_eq] at hg
  unfold StepK
  dsimp only
  have hg' : gval ((AS.fs ⟨tm, bx, rw, nb, nr⟩).tm u) want = some false := hg
  rw [hg']
  exact .inr ⟨rfl, .bool false, hK⟩
theorem upsB_rows (bx : List (Option (List AV))) : ∀ (H : List ARow) (m : Nat), upsB bx (rowsUp m H) = bx
  | [], _ => rfl
  | _ :: H, m => upsB_rows bx H (m + 1)
theorem STP.call {t f : Nat} {xs : List Opd} {vs args' : List AV} {v v' : AV} {H : List ARow} (c : ACall P f args' v H) (hv : (xs.map fun x => (lookT (gT tm) x).val) = vs) (hc : conds (lookT (gT tm)) xs) (hle : ALes (gO bx) (gO rw) vs args')
    (hw : shT nr v = v') (hr : upsR rw (rowsUp nr H) = rw') (h2 : nr + H.length = nr') : STP P tm bx rw nb nr ⟨some t, .call f xs, none⟩ ⟨True, v', 0, H.length, rowsUp nr H⟩ ⟨(t, v') :: tm, bx, rw', nb, nr'⟩ := by
  subst hw
  rw [gT_eq] at hv hc
  rw [gO_eq, gO_eq] at hle
  subst hv
  exact ⟨fun K hK => ⟨hc, args', v, H, hle, c, hK⟩, app_U (upsB_rows _ _ _) hr rfl h2⟩
theorem STP.gcall {t u : Nat} {want G : Bool} {f : Nat} {xs : List Opd} {vs args' : List AV} {v v' : AV} (c : G = true → ACall P f args' v []) (hg : gval (gT tm u) want = some G) (hv : (xs.map fun x => (lookT (gT tm) x).val) = vs) (hc : G = true → conds (lookT (gT tm)) xs) (hle : G = true → ALes (gO bx) (gO rw) vs args')
    (hw : mkCnd G (shT nr v) = v') : STP P tm bx rw nb nr ⟨some t, .call f xs, some (u, want)⟩ ⟨True, v', 0, 0, []⟩ ⟨(t, v') :: tm, bx, rw, nb, nr⟩ := by
  subst hw
  rw [gT_eq] at hv hc hg
  rw [gO_eq, gO_eq] at hle
  subst hv
  refine ⟨fun K hK => ?_, rfl⟩
  unfold StepK
  dsimp only
  have hg' : gval ((AS.fs ⟨tm, bx, rw, nb, nr⟩).tm u) want = some G := hg
  rw [hg']
  refine .inl ?_
  exact ⟨args', v, fun e => ⟨hc e, hle e, c e⟩, hK⟩
theorem STP.callv {t : Nat} {x : Opd} {f : Nat} {caps : List AV} {xs : List Opd} {vs args' : List AV} {v v' : AV} {H : List ARow} (c : ACall P f args' v H) (hf : lookT (gT tm) x = .fn f caps) (hv : (xs.map fun x => (lookT (gT tm) x).val) ++ caps = vs) (hc : conds (lookT (gT tm)) xs) (hle : ALes (gO bx) (gO rw) vs args')
    (hw : shT nr v = v') (hr : upsR rw (rowsUp nr H) = rw') (h2 : nr + H.length = nr') : STP P tm bx rw nb nr ⟨some t, .callv x xs, none⟩ ⟨True, v', 0, H.length, rowsUp nr H⟩ ⟨(t, v') :: tm, bx, rw', nb, nr'⟩ := by
  subst hw
  rw [gT_eq] at hv hc hf
  rw [gO_eq, gO_eq] at hle
  subst hv
  refine ⟨fun K hK => ?_, app_U (upsB_rows _ _ _) hr rfl h2⟩
  unfold StepK
  dsimp only
  have hf' : lookT (AS.fs ⟨tm, bx, rw, nb, nr⟩).tm x = .fn f caps := hf
  have hf2 : (lookT (AS.fs ⟨tm, bx, rw, nb, nr⟩).tm x).cond := by rw [hf']; trivial
  unfold OpK
  dsimp only
  rw [show (lookT (AS.fs ⟨tm, bx, rw, nb, nr⟩).tm x).val = .fn f caps by rw [hf']; rfl]
  exact ⟨hf2, hc, args', v, H, hle, c, hK⟩
theorem RG.step {o : AO} {r : Res} {σ' : AS} (h : STP P tm bx rw nb nr o r σ') (k : RG P N l y σ' Q) : RG P N (o :: l) y ⟨tm, bx, rw, nb, nr⟩ Q :=
  ⟨Or.inl (h.k (fun r => aopsM P l (AS.app ⟨tm, bx, rw, nb, nr⟩ o.dst r) fun τ => WL0 P N y Q τ) (by rw [h.e]; exact k.h))⟩
theorem DG.step {o : AO} {r : Res} {σ' : AS} {nd : List Nat} (h : STP P tm bx rw nb nr o r σ') (hfr : frees hs ⟨o, ⟨gT tm, gO bx, gO rw⟩, r, nb, nr⟩ nd)
    (k : DG P N l need (hs ++ [⟨o, ⟨gT tm, gO bx, gO rw⟩, r, nb, nr⟩]) y σ' Q) : DG P N (o :: l) (nd :: need) hs y ⟨tm, bx, rw, nb, nr⟩ Q := by
  obtain ⟨k⟩ := k
  rw [gT_eq, gO_eq, gO_eq] at *
  exact ⟨h.k _ ⟨hfr, by rw [h.e]; exact k⟩⟩
/-! A call that own memory is handed to -/
def MLes (mb mr : List Nat) (B : Nat → Option (List AV)) (R : Nat → Option ARow) : List AV → List AV → Prop
  | [], [] => True
  | x :: xs, y :: ys => ALe (hndF mb mr B R x) y ∧ MLes mb mr B R xs ys
  | _, _ => False
theorem mles_get {mb mr : List Nat} {B : Nat → Option (List AV)} {R : Nat → Option ARow} : ∀ {xs ys : List AV}, MLes mb mr B R xs ys → xs.length = ys.length ∧ ∀ (i : Nat) (x y : AV), xs[i]? = some x → ys[i]? = some y → ALe (hndF mb mr B R x) y
  | [], [], _ => ⟨rfl, fun i x y e => by cases e⟩
  | [], _ :: _, h => h.elim
  | _ :: _, [], h => h.elim
  | x :: xs, y :: ys, h => by
    obtain ⟨g1, g2⟩ := mles_get h.2
    refine ⟨by simp [g1], fun i x y e1 e2 => ?_⟩
    cases i with
    | zero => simp at e1 e2; subst e1 e2; exact h.1
    | succ i => exact g2 i x y (by simpa using e1) (by simpa using e2)
def MCs (mb mr : List Nat) (R : Nat → Option ARow) : List AV → List AV → Prop
  | [], [] => True
  | x :: xs, y :: ys => ALe (hndC mb mr R x) y ∧ MCs mb mr R xs ys
  | _, _ => False
theorem mcs_get {mb mr : List Nat} {R : Nat → Option ARow} : ∀ {xs ys : List AV}, MCs mb mr R xs ys → xs.length = ys.length ∧ ∀ (i : Nat) (x y : AV), xs[i]? = some x → ys[i]? = some y → ALe (hndC mb mr R x) y
  | [], [], _ => ⟨rfl, fun i x y e => by cases e⟩
  | [], _ :: _, h => h.elim
  | _ :: _, [], h => h.elim
  | x :: xs, y :: ys, h => by
    obtain ⟨g1, g2⟩ := mcs_get h.2
    refine ⟨by simp [g1], fun i x y e1 e2 => ?_⟩
    cases i with
    | zero => simp at e1 e2; subst e1 e2; exact h.1
    | succ i => exact g2 i x y (by simpa using e1) (by simpa using e2)
def HBl (bx : Nat → Option (List AV)) (mb0 mr : List Nat) (R : Nat → Option ARow) : List Nat → List (List AV) → Prop
  | [], [] => True
  | m :: mb, c :: B => (∃ c0, bx m = some c0 ∧ MCs mb0 mr R c0 c) ∧ HBl bx mb0 mr R mb B
  | _, _ => False
theorem hbl_s {bx : Nat → Option (List AV)} {mb0 mr : List Nat} {R : Nat → Option ARow} : ∀ {mb : List Nat} {B : List (List AV)}, HBl bx mb0 mr R mb B → HBs bx mb0 mr R mb B
  | [], [], _ => trivial
  | [], _ :: _, h => h.elim
  | _ :: _, [], h => h.elim
  | m :: mb, c :: B, h => by
    obtain ⟨⟨c0, h1, h2⟩, h3⟩ := h
    exact ⟨⟨c0, h1, (mcs_get h2).1, (mcs_get h2).2⟩, hbl_s h3⟩
theorem RG.mcall {d : Option Nat} {ai : AI} {f : Nat} {vs : List AV} {mb mr : List Nat} {args : List AV} {B : List (List AV)} {H : List ARow} {v : AV} {B' : List (List AV)} {K : List (Option ARow)} {H' : List ARow} {σ' : AS}
    (c : MCall P f args B H v B' K H') (hx : mArgs (lookT (gT tm)) ai = some (f, vs)) (hc : mConds (lookT (gT tm)) ai) (hnb : mb.Nodup) (hnr : mr.Nodup) (hb : HBl (gO bx) mb mr (exR mr (gO rw)) mb B) (hr : HRs (gO rw) mr H) (hm : ment mb mr (gO bx) vs = true)
    (hle : MLes mb mr (exB mb (gO bx)) (exR mr (gO rw)) vs args) (hs : AS.app ⟨tm, bx, rw, nb, nr⟩ d ⟨True, mpT (nuB mb) (nuR mr nr) v, 0, H'.length, mUps mb mr nr B' K H'⟩ = σ') (k : RG P N l y σ' Q) : RG P N (⟨d, ai, none⟩ :: l) y ⟨tm, bx, rw, nb, nr⟩ Q := by
  subst hs
  rw [gT_eq] at hx hc
  rw [gO_eq, gO_eq] at *
  exact ⟨Or.inr (Or.inl ⟨_, .inl ⟨rfl, hc, f, vs, hx, mb, mr, args, B, H, v, B', K, H', ⟨hnb, hnr, hbl_s hb, hr, hm, mles_get hle, c⟩, rfl⟩, k.h⟩)⟩
theorem RG.ovl {t f k : Nat} {x z : Opd} {vol : Bool} {es : List AV} {u : AV} {b lo n : Nat} {row : ARow} (c : OvlF P f k) (hx : lookT (gT tm) x = .sl vol k es) (hne : es ≠ []) (hk0 : 0 < k) (hz : lookT (gT tm) z = u) (hzr : u.val.rf = .ref b k lo n) (hzc : u.cond) (hr : gO rw b = some row) (hf : row.fro = false ∧ 0 < row.k)
    (k : RG P N l y ⟨(t, .bool false) :: tm, bx, rw, nb, nr⟩ Q) : RG P N (⟨some t, .call f [x, z], none⟩ :: l) y ⟨tm, bx, rw, nb, nr⟩ Q := by
  subst hz
  rw [gT_eq] at hx hzr hzc
  rw [gO_eq] at hr
  exact ⟨Or.inr (Or.inl ⟨_, .inr (.inl ⟨rfl, f, x, z, vol, _, es, b, lo, n, row, rfl, c, hx, hne, hk0, hzr, hzc, hr, hf, rfl⟩), k.h⟩)⟩
theorem conds_m {L : Opd → AV} {f : Nat} {xs : List Opd} (h : conds L xs) : mConds L (.call f xs) := conds_all h
section
variable {mb mr : List Nat} {B : Nat → Option (List AV)} {R : Nat → Option ARow}
theorem mles_nil : MLes mb mr B R [] [] := trivial
theorem mles_cons {x y : AV} {l m : List AV} (h : ALe (hndF mb mr B R x) y) (h2 : MLes mb mr B R l m) : MLes mb mr B R (x :: l) (y :: m) := ⟨h, h2⟩
theorem mcs_nil : MCs mb mr R [] [] := trivial
theorem mcs_cons {x y : AV} {l m : List AV} (h : ALe (hndC mb mr R x) y) (h2 : MCs mb mr R l m) : MCs mb mr R (x :: l) (y :: m) := ⟨h, h2⟩
theorem m_agg {l m : List AV} (h : MCs mb mr R l m) : ALe (hndF mb mr B R (.agg l)) (.agg m) := .agg _ _ (by simpa using (mcs_get h).1) fun i x y e1 e2 => by
  rw [List.getElem?_map] at e1
  cases hz : l[i]? with
  | none => rw [hz] at e1; cases e1
  | some z => rw [hz] at e1; cases e1; exact (mcs_get h).2 i z y hz e2
theorem m_iF {k : IntKind} {n m : Int} (h : n = m) : ALe (hndF mb mr B R (.int k n)) (.int k m) := ALe.int h
theorem m_refC {b k lo n i lo' n' : Nat} (h : ixOf mr b = some i) (h1 : lo = lo') (h2 : n = n') : ALe (hndC mb mr R (.ref b k lo n)) (.ref i k lo' n') := by
  subst h1 h2; simp only [hndC, h]; exact .refl _
theorem m_refF {b k lo n i lo' n' : Nat} (h : ixOf mr b = some i) (h1 : lo = lo') (h2 : n = n') : ALe (hndF mb mr B R (.ref b k lo n)) (.ref i k lo' n') := m_refC (mb := mb) h h1 h2
theorem m_refNC {b k lo n : Nat} {r : ARow} {es : List AV} (h : ixOf mr b = none) (hR : R b = some r) (hk : r.k = k) (hl : lo + n ≤ r.es.length) (he : (r.es.drop lo).take n = es) : ALe (hndC mb mr R (.ref b k lo n)) (.sl true k es) := by
  subst he
  simp only [hndC, h, argC, hR, hk, hl, true_and, if_true]
  exact .refl _
theorem m_refN {b k lo n : Nat} {r : ARow} {es : List AV} (h : ixOf mr b = none) (hR : R b = some r) (hk : r.k = k) (hl : lo + n ≤ r.es.length) (he : (r.es.drop lo).take n = es) : ALe (hndF mb mr B R (.ref b k lo n)) (.sl true k es) := m_refNC (mb := mb) h hR hk hl he
end
/-- A value, told anew. -/
theorem STP.w {t : Nat} {ai : AI} {c : Prop} {v v' : AV} (hq : quiet ai = true) (h : aistep false (lookT (gT tm)) (gO bx) (gO rw) nb nr ai = ⟨c, v, 0, 0, []⟩) (hok : c) (hv : v = v') : STP P tm bx rw nb nr ⟨some t, ai, none⟩ ⟨c, v', 0, 0, []⟩ ⟨(t, v') :: tm, bx, rw, nb, nr⟩ := by
  subst hv
  exact STP.u (by cases ai <;> first | rfl | cases hq) h hok rfl
theorem STP.wg {t u : Nat} {want G : Bool} {ai : AI} {c : Prop} {v v' v2 : AV} (hq : quiet ai = true) (hg : gval (gT tm u) want = some G) (h : aistep false (lookT (gT tm)) (gO bx) (gO rw) nb nr ai = ⟨c, v, 0, 0, []⟩) (hok : G = true → c) (hv : v = v') (hv2 : mkCnd G v' = v2) : STP P tm bx rw nb nr ⟨some t, ai, some (u, want)⟩ ⟨True, v2, 0, 0, []⟩ ⟨(t, v2) :: tm, bx, rw, nb, nr⟩ := by
  subst hv
  refine STP.g hg ⟨(by cases ai <;> first | rfl | cases hq), fun e => ?_, ?_, ?_, ?_, ?_⟩ hv2 <;> rw [h]
  exact hok e
end
end Go.Proofs.Ytjacmhaeemhinaa

namespace Go.Proofs.Ytjacmhaeemhinaa
open Go.RowKit
set_option linter.unusedVariables false
set_option linter.unusedSimpArgs false
section
variable {tm : List (Nat × AV)} {bx : List (Option (List AV))} {rw : List (Option ARow)} {nb nr : Nat}
end
end Go.Proofs.Ytjacmhaeemhinaa
