/- Steps that read and write own rows. -/
import Derived.Test.YtiejnmbpejfpgaaAx26
namespace Go.Proofs.Ytiejnmbpejfpgaa
open Go.RowKit
set_option linter.unusedVariables false
set_option linter.unusedSimpArgs false

theorem take_all {α : Type} (l : List α) : (l.drop 0).take l.length = l := by simp
theorem take_len {α : Type} {l : List α} {n : Nat} (h : l.length = n) : (l.drop 0).take n = l := by subst h; simp
def by8 (c : UInt8) : AV := .int .u8 c.toNat
def bs (l : List UInt8) : AV := .sl false 1 (l.map by8)
theorem by8_pure (l : List UInt8) : (l.map by8).all pureV = true := by simp [by8, pureV, pureC]
theorem bs_pure (l : List (List UInt8)) : (l.map bs).all pureV = true := by simp [bs, pureV, pureC]
theorem by8_by (l : List UInt8) : isBy (l.map by8) = true := by
  simp only [isBy, List.all_map, List.all_eq_true]
  intro c _
  have := c.toNat_lt
  simp [by8]; omega
theorem by8_un (l : List UInt8) : unby (l.map by8) = l := by
  induction l with
  | nil => rfl
  | cons c l ih => simp only [unby, List.map_cons] at ih ⊢; rw [ih]; simp [by8]
theorem k_nf : (!false) = true := rfl
theorem k_nt : (!true) = false := rfl

theorem val_refc (b k lo n c : Nat) : (AV.refc b k lo n c).val = .refc b k lo n c := rfl
section
variable {P : Program} {N : Nat} {l : List AO} {y : List ACode} {Q : AX → AS → Prop} {tm : List (Nat × AV)} {bx : List (Option (List AV))} {rw : List (Option ARow)} {nb nr : Nat} {need : List (List Nat)} {hs : List HE}
/-- A step: what it gives, what it makes, what it changes. -/
structure ST (tm : List (Nat × AV)) (bx : List (Option (List AV))) (rw : List (Option ARow)) (nb nr : Nat) (ai : AI) (v : AV) (db dr : Nat) (up : List Upd) : Prop where
  nc : isCall ai = false
  ok : (aistep false (lookT (gT tm)) (gO bx) (gO rw) nb nr ai).ok
  av : (aistep false (lookT (gT tm)) (gO bx) (gO rw) nb nr ai).av = v
  b : (aistep false (lookT (gT tm)) (gO bx) (gO rw) nb nr ai).nb = db
  r : (aistep false (lookT (gT tm)) (gO bx) (gO rw) nb nr ai).nr = dr
  u : (aistep false (lookT (gT tm)) (gO bx) (gO rw) nb nr ai).up = up
theorem ST.eq {ai : AI} {v : AV} {db dr : Nat} {up : List Upd} (h : ST tm bx rw nb nr ai v db dr up) : aistep false (lookT (gT tm)) (gO bx) (gO rw) nb nr ai = ⟨(aistep false (lookT (gT tm)) (gO bx) (gO rw) nb nr ai).ok, v, db, dr, up⟩ := by
  obtain ⟨_, _, h1, h2, h3, h4⟩ := h
  generalize aistep false (lookT (gT tm)) (gO bx) (gO rw) nb nr ai = x at *
  cases x; subst h1 h2 h3 h4; rfl
theorem ST.of {ai : AI} {c : Prop} {v : AV} {db dr : Nat} {up : List Upd} (hn : isCall ai = false) (h : aistep false (lookT (gT tm)) (gO bx) (gO rw) nb nr ai = ⟨c, v, db, dr, up⟩) (hc : c) : ST tm bx rw nb nr ai v db dr up := by
  constructor <;> first | exact hn | (rw [h]; done) | (rw [h]; exact hc)
theorem RG.st {d : Option Nat} {ai : AI} {v : AV} {db dr : Nat} {up : List Upd} {σ' : AS} (h : ST tm bx rw nb nr ai v db dr up) (hst : AS.app ⟨tm, bx, rw, nb, nr⟩ d ⟨True, v, db, dr, up⟩ = σ') (k : RG P N l y σ' Q) : RG P N (⟨d, ai, none⟩ :: l) y ⟨tm, bx, rw, nb, nr⟩ Q :=
  RG.u h.nc h.eq h.ok hst k
theorem DG.st {d : Option Nat} {ai : AI} {v : AV} {db dr : Nat} {up : List Upd} {σ' : AS} {nd : List Nat} (h : ST tm bx rw nb nr ai v db dr up) (hst : AS.app ⟨tm, bx, rw, nb, nr⟩ d ⟨True, v, db, dr, up⟩ = σ')
    (hfr : frees hs ⟨⟨d, ai, none⟩, ⟨gT tm, gO bx, gO rw⟩, ⟨(aistep false (lookT (gT tm)) (gO bx) (gO rw) nb nr ai).ok, v, db, dr, up⟩, nb, nr⟩ nd)
    (k : DG P N l need (hs ++ [⟨⟨d, ai, none⟩, ⟨gT tm, gO bx, gO rw⟩, ⟨(aistep false (lookT (gT tm)) (gO bx) (gO rw) nb nr ai).ok, v, db, dr, up⟩, nb, nr⟩]) y σ' Q) : DG P N (⟨d, ai, none⟩ :: l) (nd :: need) hs y ⟨tm, bx, rw, nb, nr⟩ Q :=
  DG.u h.nc h.eq h.ok hst hfr k

/-- A slice's elements. -/
inductive Els (rw : List (Option ARow)) (k : Nat) : AV → List AV → Prop
  | sl (vol : Bool) (es : List AV) : Els rw k (.sl vol k es) es
  | csl (vol : Bool) (es : List AV) : Els rw k (.csl vol k es) es
  | nil : Els rw k .nil []
  | raw (a : Addr) (c : Nat) (h : c ≤ maxLen) : Els rw k (.raw (.slice (some a) 0 c)) []
  | ref {b lo n : Nat} {r : ARow} {es : List AV} (h : gO rw b = some r) (hk : r.k = k) (hl : lo + n ≤ r.es.length) (he : (r.es.drop lo).take n = es) : Els rw k (.ref b k lo n) es
  | refc {b lo n c : Nat} {r : ARow} {es : List AV} (h : gO rw b = some r) (hk : r.k = k) (hl : lo + n ≤ r.es.length) (he : (r.es.drop lo).take n = es) : Els rw k (.refc b k lo n c) es
theorem Els.els {k : Nat} {v : AV} {new : List AV} (h : Els rw k v new) : ∃ k', Go.Proofs.Ytiejnmbpejfpgaa.els (gO rw) v = some (k', new) ∧ (k' = k ∨ new = []) := by
  cases h with
  | sl | csl => exact ⟨k, rfl, .inl rfl⟩
  | nil => exact ⟨0, rfl, .inr rfl⟩
  | raw a c h => exact ⟨0, by simp [Go.Proofs.Ytiejnmbpejfpgaa.els, h], .inr rfl⟩
  | ref h hk hl he => exact ⟨k, by simp [Go.Proofs.Ytiejnmbpejfpgaa.els, h, hk, hl, he], .inl rfl⟩
  | refc h hk hl he => exact ⟨k, by simp [Go.Proofs.Ytiejnmbpejfpgaa.els, h, hk, hl, he], .inl rfl⟩
def refId : AV → List Nat
  | .ref b _ _ _ => [b]
  | _ => []
theorem refId_eq : (fun v : AV => match v with | .ref b _ _ _ => [b] | _ => ([] : List Nat)) = refId := funext fun v => by cases v <;> rfl
theorem val_nil : (AV.nil).val = .nil := rfl
theorem val_ref (b k lo n : Nat) : (AV.ref b k lo n).val = .ref b k lo n := rfl
theorem val_rptr (b k lo n : Nat) : (AV.rptr b k lo n).val = .rptr b k lo n := rfl
theorem val_csl (v : Bool) (k : Nat) (es : List AV) : (AV.csl v k es).val = .csl v k es := rfl
theorem val_int (k : IntKind) (n : Int) : (AV.int k n).val = .int k n := rfl
/-- A part of an element, once it is laid into a row. -/
inductive Fz (rw : List (Option ARow)) : AV → AV → List Nat → Prop
  | pure {v : AV} (h : pureC v = true) : Fz rw v v []
  | ref {b k lo n : Nat} {r : ARow} {es : List AV} (h : gO rw b = some r) (hk : r.k = k) (hl : lo + n ≤ r.es.length) (he : (r.es.drop lo).take n = es) : Fz rw (.ref b k lo n) (.sl false k es) [b]
inductive FzL (rw : List (Option ARow)) : List AV → List AV → List Nat → Prop
  | nil : FzL rw [] [] []
  | cons {v v' : AV} {l l' : List AV} {i j ij : List Nat} (h : Fz rw v v' i) (hl : FzL rw l l' j) (he : i ++ j = ij) : FzL rw (v :: l) (v' :: l') ij
inductive FzV (rw : List (Option ARow)) : AV → AV → List Nat → Prop
  | c {v v' : AV} {i : List Nat} (h : Fz rw v v' i) : FzV rw v v' i
  | agg {l l' : List AV} {i : List Nat} (h : FzL rw l l' i) : FzV rw (.agg l) (.agg l') i
theorem Fz.spec {v v' : AV} {i : List Nat} (h : Fz rw v v' i) : frzC (gO rw) v = some v' ∧ refId v = i ∧ ∀ l, v ≠ .agg l := by
  cases h with
  | pure h =>
    refine ⟨?_, ?_, ?_⟩
    · cases v <;> first | (cases h; done) | (unfold frzC; dsimp only; rw [if_pos h])
    · cases v <;> first | rfl | (cases h; done)
    · rintro l rfl; simp [pureC] at h
  | ref h hk hl he => exact ⟨by simp [frzC, h, hk, hl, he], rfl, by simp⟩
theorem FzL.spec {l l' : List AV} {i : List Nat} (h : FzL rw l l' i) : l.mapM (frzC (gO rw)) = some l' ∧ l.flatMap refId = i := by
  induction h with
  | nil => exact ⟨rfl, rfl⟩
  | cons h _ he ih =>
    obtain ⟨h1, h2, _⟩ := h.spec
    exact ⟨by rw [List.mapM_cons, h1, ih.1]; rfl, by rw [List.flatMap_cons, ih.2, h2, he]⟩
theorem FzV.spec {v v' : AV} {i : List Nat} (h : FzV rw v v' i) : frzV (gO rw) v = some v' ∧ frzIds v = i := by
  cases h with
  | c h =>
    obtain ⟨h1, h2, h3⟩ := h.spec
    refine ⟨by cases v <;> first | exact h1 | exact absurd rfl (h3 _), ?_⟩
    rw [← h2]; cases v <;> first | rfl | exact absurd rfl (h3 _)
  | agg h =>
    obtain ⟨h1, h2⟩ := h.spec
    exact ⟨by simp only [frzV, h1, Option.map_some], by rw [← h2, ← refId_eq]; rfl⟩
inductive FzVs (rw : List (Option ARow)) : List AV → List AV → List Nat → Prop
  | nil : FzVs rw [] [] []
  | cons {v v' : AV} {l l' : List AV} {i j ij : List Nat} (h : FzV rw v v' i) (hl : FzVs rw l l' j) (he : i ++ j = ij) : FzVs rw (v :: l) (v' :: l') ij
/-- Are these values of k cells each, that may be laid into a row? -/
def wids (k : Nat) : List AV → Prop
  | [] => True
  | v :: l => (okV v = true ∧ v.cells.length = k) ∧ wids k l
theorem wids_all {k : Nat} : ∀ {l : List AV}, wids k l → ∀ v ∈ l, okV v = true ∧ v.cells.length = k
  | [], _, v, hv => by cases hv
  | x :: l, h, v, hv => (List.mem_cons.1 hv).elim (fun e => e ▸ h.1) (fun hv => wids_all h.2 v hv)
theorem FzVs.spec {l l' : List AV} {i : List Nat} (h : FzVs rw l l' i) : l.mapM (frzV (gO rw)) = some l' ∧ l.flatMap frzIds = i := by
  induction h with
  | nil => exact ⟨rfl, rfl⟩
  | cons h _ he ih =>
    obtain ⟨h1, h2⟩ := h.spec
    exact ⟨by rw [List.mapM_cons, h1, ih.1]; rfl, by rw [List.flatMap_cons, ih.2, h2, he]⟩
theorem mapM_map' {α : Type} (f : AV → Option α) (g : Opd → AV) : ∀ l : List Opd, l.mapM (fun x => f (g x)) = (l.map g).mapM f
  | [] => rfl
  | x :: l => by simp only [List.mapM_cons, List.map_cons, mapM_map' f g l]
/-- A store into a box. -/
theorem ST.sb {n b off : Nat} {a x : Opd} {v : AV} {cells cells' : List AV} (ha : lookT (gT tm) a = .bptr b off) (hb : gO bx b = some cells) (hx : lookT (gT tm) x = v) (hc : v.cond) (h1 : okV v.val = true) (h2 : v.val.cells.length = n) (h3 : off + n ≤ cells.length) (hp : putCells cells off v.val.cells = cells') :
    ST tm bx rw nb nr (.store n a x) .any 0 0 [.B b cells'] := by
  have e : (AV.bptr b off).val = .bptr b off := rfl
  refine ⟨rfl, ?_, ?_, ?_, ?_, ?_⟩ <;> simp only [aistep, ha, hb, hx, e, hp]
  exact ⟨⟨trivial, hc, h1, h2⟩, h3⟩
/-- A literal: its elements. -/
theorem ST.bsl {k : Nat} {xs : List Opd} {vs es : List AV} {ids : List Nat} (hv : (xs.map fun x => (lookT (gT tm) x).val) = vs) (hc : conds (lookT (gT tm)) xs) (hw : wids k vs) (hk : 0 < k) (hf : FzVs rw vs es ids) :
    ST tm bx rw nb nr (.bsl k xs) (.ref nr k 0 es.length) 0 1 (frzUp (gO rw) ids ++ [.R nr (some ⟨false, k, es⟩)]) := by
  obtain ⟨h1, h2⟩ := hf.spec
  have e1 : (xs.mapM fun x => frzV (gO rw) (lookT (gT tm) x).val) = some es := by rw [mapM_map', hv]; exact h1
  have e2 : (xs.flatMap fun x => frzIds (lookT (gT tm) x).val) = ids := by
    rw [← h2, ← hv, List.flatMap_map]
  have hw' := wids_all hw
  refine ⟨rfl, ?_, ?_, ?_, ?_, ?_⟩ <;> simp only [aistep, e1, e2]
  refine ⟨fun x hx => ⟨conds_all hc x hx, ?_⟩, hk⟩
  exact hw' _ (by rw [← hv]; exact List.mem_map.2 ⟨x, hx, rfl⟩)
/-- append to nil -/
theorem ST.appN {k by_ m : Nat} {x z : Opd} {v : AV} {new : List AV} (hx : lookT (gT tm) x = .nil) (hz : lookT (gT tm) z = v) (hzc : v.cond) (he : Els rw k v.val new) (hl : new.length ≤ 1000000) (hb : by_ ≤ 1000000) (hk : 0 < k) (hp : new.all pureV = true) (hm : new.length = m) :
    ST tm bx rw nb nr (.app k by_ x z) (.ref nr k 0 m) 0 1 [.R nr (some ⟨false, k, new⟩)] := by
  obtain ⟨k', h1, h2⟩ := he.els
  subst hm
  refine ⟨rfl, ?_, ?_, ?_, ?_, ?_⟩ <;> simp only [aistep, hx, hz, h1, val_nil, val_ref, val_rptr, val_csl, val_int]
  (repeat' apply And.intro) <;> first | exact True.intro | assumption | rfl | omega | (simp; omega)
/-- append to an own slice -/
theorem ST.appR {k by_ b lo n m : Nat} {x z : Opd} {v : AV} {r : ARow} {old new all : List AV} (hx : lookT (gT tm) x = .ref b k lo n) (hr : gO rw b = some r) (hrk : r.k = k) (hrf : r.fro = false) (hrl : lo + n ≤ r.es.length) (hn : n ≤ 1000000) (ho : (r.es.drop lo).take n = old) (hz : lookT (gT tm) z = v) (hzc : v.cond) (he : Els rw k v.val new) (hl : new.length ≤ 1000000) (hb : by_ ≤ 1000000) (hk : 0 < k) (hp : new.all pureV = true) (hm : n + new.length = m) (ha : old ++ new = all) :
    ST tm bx rw nb nr (.app k by_ x z) (.ref nr k 0 m) 0 1 [.R b none, .R nr (some ⟨false, k, all⟩)] := by
  obtain ⟨k', h1, h2⟩ := he.els
  subst hm ha ho
  refine ⟨rfl, ?_, ?_, ?_, ?_, ?_⟩ <;> simp only [aistep, hx, hz, h1, hr, val_nil, val_ref, val_rptr, val_csl, val_int]
  (repeat' apply And.intro) <;> first | exact True.intro | assumption | rfl | omega | (simp; omega)
/-- append to a slice that has no room -/
theorem ST.appC {k by_ : Nat} {vol : Bool} {x z : Opd} {v : AV} {es new all : List AV} (hx : lookT (gT tm) x = .csl vol k es) (hes : es.length ≤ 1000000) (hz : lookT (gT tm) z = v) (hzc : v.cond) (he : Els rw k v.val new) (hl : new.length ≤ 1000000) (hb : by_ ≤ 1000000) (hk : 0 < k) (hp : new.all pureV = true) (ha : es ++ new = all) :
    ST tm bx rw nb nr (.app k by_ x z) (.sl vol k all) 0 1 [] := by
  obtain ⟨k', h1, h2⟩ := he.els
  subst ha
  refine ⟨rfl, ?_, ?_, ?_, ?_, ?_⟩ <;> simp only [aistep, hx, hz, h1, val_nil, val_ref, val_rptr, val_csl, val_int]
  (repeat' apply And.intro) <;> first | exact True.intro | assumption | rfl | omega | (simp; omega)
/-- An element of an own row is read. -/
theorem ST.ldr {g fr : Bool} {n b k i off : Nat} {a : Opd} {es : List AV} {x v : AV} {c : Prop} (ha : lookT (gT tm) a = .rptr b k i off) (hr : gO rw b = some ⟨fr, k, es⟩) (hi : i < es.length) (hx : es[i]?.getD .any = x) (h : loadC g n (x.cells.drop off) = ⟨c, v, 0, 0, []⟩) (hc : c) :
    ST tm bx rw nb nr (.load g n a) v 0 0 [] := by
  have h' : (loadC g n ((es[i]?.getD .any).cells.drop off)) = ⟨c, v, 0, 0, []⟩ := by rw [hx, h]
  refine ⟨rfl, ?_, ?_, ?_, ?_, ?_⟩ <;> simp only [aistep, ha, hr, h', val_nil, val_ref, val_rptr, val_csl, val_int]
  (repeat' apply And.intro) <;> first | exact True.intro | assumption | rfl | omega | (simp; omega)
/-- An element of an own row is written, whole. -/
theorem ST.str {n b k i : Nat} {a z : Opd} {es : List AV} {v v' : AV} {ids : List Nat} {es' : List AV} (ha : lookT (gT tm) a = .rptr b k i 0) (hz : lookT (gT tm) z = v) (hzc : v.cond) (hr : gO rw b = some ⟨false, k, es⟩) (hi : i < es.length) (hw : okV v.val = true ∧ v.val.cells.length = n) (hnk : n = k) (hn : 0 < n) (hz' : FzV rw v.val v' ids) (hb : b ∉ ids) (he : es.set i v' = es') :
    ST tm bx rw nb nr (.store n a z) .any 0 0 (frzUp (gO rw) ids ++ [.R b (some ⟨false, k, es'⟩)]) := by
  obtain ⟨h1, h2⟩ := hz'.spec
  obtain ⟨h3, h4⟩ := hw
  subst he hnk
  refine ⟨rfl, ?_, ?_, ?_, ?_, ?_⟩ <;> simp only [aistep, ha, hz, hr, h1, h2, if_true, val_nil, val_ref, val_rptr, val_csl, val_int]
  exact ⟨⟨trivial, hzc, h3, h4⟩, trivial, hi, by omega, trivial, hb, hn⟩
theorem pure_take {l : List AV} (h : l.all pureV = true) (n : Nat) : (l.take n).all pureV = true := by
  rw [List.all_eq_true] at *
  exact fun x hx => h x (List.mem_of_mem_take hx)
/-- copy into an own slice -/
theorem ST.cpy {k b lo n m : Nat} {x z : Opd} {u v : AV} {r : ARow} {src es' : List AV} (hx : lookT (gT tm) x = u) (hu : u.val.rf = .ref b k lo n) (huc : u.cond) (hr : gO rw b = some r) (hrk : r.k = k) (hrf : r.fro = false) (hrl : lo + n ≤ r.es.length) (hz : lookT (gT tm) z = v) (hzc : v.cond) (he : Els rw k v.val src) (hk : 0 < k) (hp : (src.take n).all pureV = true) (hm : min src.length n = m) (hes : r.es.take lo ++ (src.take n ++ r.es.drop (lo + m)) = es') :
    ST tm bx rw nb nr (.cpy k x z) (.int .i64 m) 0 0 [.R b (some ⟨false, k, es'⟩)] := by
  obtain ⟨k', h1, h2⟩ := he.els
  obtain ⟨fr, rk, es⟩ := r
  dsimp only at hrk hrf hrl hes
  subst hm hes hrk hrf
  refine ⟨rfl, ?_, ?_, ?_, ?_, ?_⟩ <;> simp only [aistep, hx, hu, hz, h1, hr]
  · (repeat' apply And.intro) <;> first | exact True.intro | assumption | rfl | omega | (simp; omega)
  · congr 1; omega
/-- clear of an own slice -/
theorem ST.clr {k b lo n : Nat} {zero : AV} {x : Opd} {u : AV} {r : ARow} {es' : List AV} (hx : lookT (gT tm) x = u) (hu : u.val.rf = .ref b k lo n) (huc : u.cond) (hr : gO rw b = some r) (hrk : r.k = k) (hrf : r.fro = false) (hrl : lo + n ≤ r.es.length) (hz : pureV zero = true ∧ okV zero = true ∧ zero.cells.length = k) (hk : 0 < k) (hes : r.es.take lo ++ (List.replicate n zero ++ r.es.drop (lo + n)) = es') :
    ST tm bx rw nb nr (.clr k zero x) .any 0 0 [.R b (some ⟨false, k, es'⟩)] := by
  obtain ⟨fr, rk, es⟩ := r
  dsimp only at hrk hrf hrl hes
  subst hes hrk hrf
  obtain ⟨z1, z2, z3⟩ := hz
  refine ⟨rfl, ?_, ?_, ?_, ?_, ?_⟩ <;> simp only [aistep, hx, hu, hr]
  (repeat' apply And.intro) <;> first | exact True.intro | assumption | rfl | omega | (simp; omega)
/-- append in place -/
theorem ST.appI {k by_ b lo n c m : Nat} {x z : Opd} {v : AV} {r : ARow} {new es' : List AV} (hx : lookT (gT tm) x = .refc b k lo n c) (hr : gO rw b = some r) (hrk : r.k = k) (hrf : r.fro = false) (hz : lookT (gT tm) z = v) (hzc : v.cond) (he : Els rw k v.val new) (hl : new.length ≤ 1000000) (hrl : lo + n + new.length ≤ r.es.length) (hroom : n + new.length ≤ c) (hb : by_ ≤ 1000000) (hk : 0 < k) (hp : new.all pureV = true) (hm : n + new.length = m) (hes : r.es.take (lo + n) ++ (new ++ r.es.drop (lo + m)) = es') :
    ST tm bx rw nb nr (.app k by_ x z) (.refc b k lo m c) 0 1 [.R b (some ⟨false, k, es'⟩)] := by
  obtain ⟨k', h1, h2⟩ := he.els
  obtain ⟨fr, rk, es⟩ := r
  dsimp only at hrk hrf hrl hes
  subst hm hes hrk hrf
  refine ⟨rfl, ?_, ?_, ?_, ?_, ?_⟩ <;> simp only [aistep, hx, hz, h1, hr, val_refc]
  · (repeat' apply And.intro) <;> first | exact True.intro | assumption | rfl | omega | (simp; omega)
  · rw [Nat.add_assoc]
/-- noughts behind a slice that has no room for them -/
theorem ST.appz {k by_ b lo n c m q : Nat} {zero : AV} {x z : Opd} {ik : IntKind} {j : Int} {r : ARow} {es' : List AV} (hx : lookT (gT tm) x = .refc b k lo n c) (hr : gO rw b = some r) (hrk : r.k = k) (hrl : lo + n ≤ r.es.length) (hz : lookT (gT tm) z = .int ik j) (hj : j = q) (hq : q ≤ 1000000) (hn : n ≤ 1000000) (hroom : c < n + q) (hb : by_ ≤ 1000000) (hk : 0 < k) (hp : pureV zero = true ∧ zero.cells.length = k) (hm : n + q = m) (hes : (r.es.drop lo).take n ++ List.replicate q zero = es') :
    ST tm bx rw nb nr (.appz k by_ zero x z) (.ref nr k 0 m) 0 1 [.R nr (some ⟨false, k, es'⟩)] := by
  subst hm hes hrk hj
  refine ⟨rfl, ?_, ?_, ?_, ?_, ?_⟩ <;> simp only [aistep, hx, hz, hr, val_refc, val_int, Int.toNat_natCast]
  obtain ⟨p1, p2⟩ := hp
  (repeat' apply And.intro) <;> first | exact True.intro | assumption | rfl | omega | (simp; omega)
/-- a capacity -/
theorem ST.capV {x : Opd} {b k lo n c : Nat} (hx : lookT (gT tm) x = .refc b k lo n c) : ST tm bx rw nb nr (.capV x) (.int .i64 c) 0 0 [] := by
  refine ⟨rfl, ?_, ?_, ?_, ?_, ?_⟩ <;> simp only [aistep, hx, val_refc]
  trivial
/-- cells, compared -/
theorem ST.eqA {ne : Bool} {ts : List Nat} {x z : Opd} {u v : AV} {a b : List AV} {r t : Bool} (hx : lookT (gT tm) x = u) (hu : u.val = .agg a) (huc : u.cond) (hz : lookT (gT tm) z = v) (hv : v.val = .agg b) (hvc : v.cond) (h : eqTs ts a b = some r) (ht : (if ne then !r else r) = t) :
    ST tm bx rw nb nr (.eqA ne ts x z) (.bool t) 0 0 [] := by
  subst ht
  refine ⟨rfl, ?_, ?_, ?_, ?_, ?_⟩ <;> simp only [aistep, hx, hu, hz, hv, h]
  exact ⟨huc, hvc⟩
theorem eqts_nil : eqTs [] [] [] = some true := rfl
theorem eqts_i {k : IntKind} {x y : Int} {ts : List Nat} {a b : List AV} {r : Bool} (h : eqTs ts a b = some r) : eqTs (0 :: ts) (.int k x :: a) (.int k y :: b) = some (decide (x = y) && r) := by simp only [eqTs, eqT, if_true, h]
theorem eqts_b {x y : Bool} {ts : List Nat} {a b : List AV} {r : Bool} (h : eqTs ts a b = some r) : eqTs (1 :: ts) (.bool x :: a) (.bool y :: b) = some ((x == y) && r) := by simp only [eqTs, eqT, h]
theorem eqts_s {x y : List UInt8} {ts : List Nat} {a b : List AV} {r : Bool} (h : eqTs ts a b = some r) : eqTs (2 :: ts) (.str x :: a) (.str y :: b) = some (decide (x = y) && r) := by simp only [eqTs, eqT, h]
theorem eqts_8 : ∀ {x y : List UInt8} {ts : List Nat}, ts = List.replicate x.length 0 → y.length = x.length → eqTs ts (x.map by8) (y.map by8) = some (decide (x = y))
  | [], [], _, rfl, _ => by simp [eqTs]
  | [], _ :: _, _, _, h => by simp at h
  | _ :: _, [], _, _, h => by simp at h
  | c :: x, d :: y, _, rfl, h => by
    have q := eqts_8 (x := x) (y := y) rfl (by simpa using h)
    simp only [List.length_cons, List.replicate_succ, List.map_cons, eqTs, q]
    simp only [by8, eqT, if_true]
    have e : (decide ((c.toNat : Int) = d.toNat)) = decide (c = d) := by
      congr 1; apply propext
      exact ⟨fun e => UInt8.toNat_inj.1 (by omega), fun e => by rw [e]⟩
    simp only [e, List.cons.injEq, Bool.decide_and]
theorem eqts_app {t1 t2 : List Nat} : ∀ {a1 b1 a2 b2 : List AV} {r1 r2 : Bool}, eqTs t1 a1 b1 = some r1 → eqTs t2 a2 b2 = some r2 → eqTs (t1 ++ t2) (a1 ++ a2) (b1 ++ b2) = some (r1 && r2) := by
  induction t1 with
  | nil =>
    intro a1 b1 a2 b2 r1 r2 h1 h2
    match a1, b1 with
    | [], [] => simp [eqTs] at h1; subst h1; simpa using h2
    | [], _ :: _ => simp [eqTs] at h1
    | _ :: _, _ => simp [eqTs] at h1
  | cons t t1 ih =>
    intro a1 b1 a2 b2 r1 r2 h1 h2
    match a1, b1 with
    | [], _ => simp [eqTs] at h1
    | _ :: _, [] => simp [eqTs] at h1
    | x :: a1, y :: b1 =>
      simp only [eqTs] at h1
      split at h1
      · rename_i p q hp hq
        cases h1
        simp only [List.cons_append, eqTs, hp, ih hq h2, Bool.and_assoc]
      · cases h1
/-- make -/
theorem ST.mks {k by_ : Nat} {zero : AV} {n c : Opd} {kn kc : IntKind} {m : Int} {q : Nat} {es : List AV} (hn : lookT (gT tm) n = .int kn m) (hc : lookT (gT tm) c = .int kc m) (h0 : 0 ≤ m ∧ m ≤ 1000000) (hq : m.toNat = q) (hz : pureV zero = true ∧ okV zero = true ∧ zero.cells.length = k) (hk : 0 < k) (hb : by_ ≤ 1000000) (he : List.replicate q zero = es) :
    ST tm bx rw nb nr (.mks k by_ zero n c) (.ref nr k 0 q) 0 1 [.R nr (some ⟨false, k, es⟩)] := by
  subst hq he
  obtain ⟨z1, z2, z3⟩ := hz
  obtain ⟨y1, y2⟩ := h0
  refine ⟨rfl, ?_, ?_, ?_, ?_, ?_⟩ <;> simp only [aistep, hn, hc, val_nil, val_ref, val_rptr, val_csl, val_int]
  (repeat' apply And.intro) <;> first | exact True.intro | assumption | rfl | omega | (simp; omega)
/-- bytes that nobody else has, moved -/
theorem ST.mvL {k b lo n : Nat} {x : Opd} {es es' : List AV} (hx : lookT (gT tm) x = .ref b k lo n) (hr : gO rw b = some ⟨false, k, es⟩) (hl : lo + n ≤ es.length) (hn : 0 < n) (hk : 0 < k) (he : (es.drop lo).take n = es') :
    ST tm bx rw nb nr (.mvL x) (.sl false k es') 0 0 [.R b (some ⟨true, k, es⟩)] := by
  subst he
  refine ⟨rfl, ?_, ?_, ?_, ?_, ?_⟩ <;> simp only [aistep, hx, hr, val_nil, val_ref, val_rptr, val_csl, val_int]
  (repeat' apply And.intro) <;> first | exact True.intro | assumption | rfl | omega | (simp; omega)
/-- bytes as a string -/
theorem ST.b2s {k : Nat} {x : Opd} {v : AV} {es : List AV} {s : List UInt8} (hx : lookT (gT tm) x = v) (hc : v.cond) (he : Els rw k v.val es) (hb : isBy es = true) (hs : unby es = s) :
    ST tm bx rw nb nr (.b2s x) (.str s) 0 0 [] := by
  obtain ⟨k', h1, h2⟩ := he.els
  subst hs
  refine ⟨rfl, ?_, ?_, ?_, ?_, ?_⟩ <;> simp only [aistep, hx, h1]
  exact ⟨hc, hb⟩
theorem RG.gb2s {t u k : Nat} {want G : Bool} {x : Opd} {v : AV} {es : List AV} {s : List UInt8} (hg : gval (gT tm u) want = some G) (hx : lookT (gT tm) x = v) (hc : G = true → v.cond) (he : Els rw k v.val es) (hb : isBy es = true) (hs : unby es = s)
    (kk : RG P N l y ⟨(t, .cnd G (.str s)) :: tm, bx, rw, nb, nr⟩ Q) : RG P N (⟨some t, .b2s x, some (u, want)⟩ :: l) y ⟨tm, bx, rw, nb, nr⟩ Q := by
  obtain ⟨k', h1, h2⟩ := he.els
  subst hs
  have h : aistep false (lookT (gT tm)) (gO bx) (gO rw) nb nr (.b2s x) = ⟨v.cond ∧ isBy es = true, .str (unby es), 0, 0, []⟩ := by simp only [aistep, hx, h1]
  exact RG.g rfl hg h (fun e => ⟨hc e, hb⟩) kk
theorem DG.gb2s {t u k : Nat} {want G : Bool} {x : Opd} {v : AV} {es : List AV} {s : List UInt8} {nd : List Nat} {hs' : List HE} (hg : gval (gT tm u) want = some G) (hx : lookT (gT tm) x = v) (hc : G = true → v.cond) (he : Els rw k v.val es) (hb : isBy es = true) (hs : unby es = s)
    (hfr : frees hs' ⟨⟨some t, .b2s x, some (u, want)⟩, ⟨gT tm, gO bx, gO rw⟩, ⟨True, .cnd G (.str s), 0, 0, []⟩, nb, nr⟩ nd)
    (kk : DG P N l need (hs' ++ [⟨⟨some t, .b2s x, some (u, want)⟩, ⟨gT tm, gO bx, gO rw⟩, ⟨True, .cnd G (.str s), 0, 0, []⟩, nb, nr⟩]) y ⟨(t, .cnd G (.str s)) :: tm, bx, rw, nb, nr⟩ Q) : DG P N (⟨some t, .b2s x, some (u, want)⟩ :: l) (nd :: need) hs' y ⟨tm, bx, rw, nb, nr⟩ Q := by
  obtain ⟨k', h1, h2⟩ := he.els
  subst hs
  have h : aistep false (lookT (gT tm)) (gO bx) (gO rw) nb nr (.b2s x) = ⟨v.cond ∧ isBy es = true, .str (unby es), 0, 0, []⟩ := by simp only [aistep, hx, h1]
  exact DG.g rfl hg h (fun e => ⟨hc e, hb⟩) hfr kk
end
end Go.Proofs.Ytiejnmbpejfpgaa
