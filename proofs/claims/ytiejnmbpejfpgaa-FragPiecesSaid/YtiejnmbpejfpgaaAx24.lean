/- Contracts out of walks; what may be told less of a state. -/
import Derived.Test.YtiejnmbpejfpgaaAx23
namespace Go.Proofs.Ytiejnmbpejfpgaa
open Go.RowKit
set_option linter.unusedVariables false

/-! ### Renaming of own memory -/
def renC (mb mr : List Nat) (nb nr : Nat) : AV → AV
  | .ref b k lo n => .ref (mr.getD b nr) k lo n
  | .refc b k lo n c => .refc (mr.getD b nr) k lo n c
  | .bptr b off => .bptr (mb.getD b nb) off
  | .rptr b k i off => .rptr (mr.getD b nr) k i off
  | .aptr b n => .aptr (mr.getD b nr) n
  | .batt b g => .batt (mb.getD b nb) g
  | .ratt b p => .ratt (mr.getD b nr) p
  | v => argR v
def renV (mb mr : List Nat) (nb nr : Nat) : AV → AV
  | .agg l => .agg (l.map (renC mb mr nb nr))
  | v => renC mb mr nb nr v
def renF (mb mr : List Nat) (nb nr : Nat) : AV → AV
  | .cptr vol l => .cptr vol (l.map argR)
  | v => renV mb mr nb nr v
def renT (mb mr : List Nat) (nb nr : Nat) : AV → AV
  | .tup l => .tup (l.map (renV mb mr nb nr))
  | .fn f l => .fn f (l.map (renF mb mr nb nr))
  | v => renF mb mr nb nr v
/-- Is there anything in it that renaming does not take? -/
def renOk : AV → Bool
  | .cptr .. | .fn .. | .tup .. | .cnd .. | .agg .. => false
  | _ => true
def renOkV : AV → Bool
  | .agg l => l.all renOk
  | v => renOk v
def renOkF : AV → Bool
  | .cptr _ l => l.all fun x => match x with | .ref .. | .refc .. | .bptr .. | .rptr .. | .aptr .. | .batt .. | .ratt .. => false | x => renOk x
  | v => renOkV v
def renOkT : AV → Bool
  | .tup l => l.all renOkV
  | .fn _ l => l.all renOkF
  | v => renOkF v

def Env.ren (ρ : Env) (mb mr : List Nat) (nb nr : Nat) : Env := ⟨fun b => ρ.b (mb.getD b nb), fun b => ρ.r (mr.getD b nr)⟩
section
variable {ρ : Env} {B : Nat → Prop} {F : Nat → Prop} {w : World} {mb mr : List Nat} {nb nr : Nat}
theorem argR_rep' {ρ' : Env} {v : Value} {x : AV} (hx : renOk x = true) (hn : ∀ b k lo n, x ≠ .ref b k lo n) (hn2 : ∀ b o, x ≠ .bptr b o) (hn3 : ∀ b k i o, x ≠ .rptr b k i o) (hn4 : ∀ b n, x ≠ .aptr b n) (hn5 : ∀ b g, x ≠ .batt b g) (hn6 : ∀ b p, x ≠ .ratt b p) (hn7 : ∀ b k lo n c, x ≠ .refc b k lo n c) (h : Rep ρ B F w v (argR x)) : Rep ρ' B F w v x := by
  cases x with
  | any => exact .any _
  | int k n => cases h.int_inv; exact rep_int _ _
  | bool b => cases h.bool_inv; exact rep_bool _
  | str s => obtain ⟨bs, rfl, e⟩ := h.str_inv; exact rep_str _ _ e
  | raw u => cases h.raw_inv; exact .pure _ _ (.raw _)
  | nil => cases h.nil_inv; exact .pure _ _ .nil
  | sl vol k es =>
    cases h with
    | pure _ _ h => exact .pure _ _ h
    | vsl a n c k es f hn hw hr hc => exact .vsl a n c k es f hn hw hr hc
  | csl vol k es =>
    cases h with
    | pure _ _ h => exact .pure _ _ h
    | vcsl a n k es f hn hw hr hc => exact .vcsl a n k es f hn hw hr hc
  | ref b k lo n => exact absurd rfl (hn b k lo n)
  | bptr b o => exact absurd rfl (hn2 b o)
  | rptr b k i o => exact absurd rfl (hn3 b k i o)
  | aptr b n => exact absurd rfl (hn4 b n)
  | batt b g => exact absurd rfl (hn5 b g)
  | refc b k lo n c => exact absurd rfl (hn7 b k lo n c)
  | ratt b p => exact absurd rfl (hn6 b p)
  | _ => simp [renOk] at hx
theorem renC_rep {v : Value} {x : AV} (hx : renOk x = true) (h : Rep ρ B F w v (renC mb mr nb nr x)) : Rep (ρ.ren mb mr nb nr) B F w v x := by
  cases x with
  | ref b k lo n => obtain ⟨a, c, p, rfl, hp, h1, h2, h3, h4, h5⟩ := h.ref_inv; exact .ref a c b k lo n p hp h1 h2 h3 h4 h5
  | refc b k lo n c => obtain ⟨a, p, rfl, hp, h1, h2, h3, h4, h5⟩ := h.refc_inv; exact .refc a b k lo n c p hp h1 h2 h3 h4 h5
  | bptr b off => obtain ⟨g, hg, rfl⟩ := h.bptr_inv; exact .bptr b off g hg
  | rptr b k i off => obtain ⟨p, hp, rfl⟩ := h.rptr_inv; exact .rptr b k i off p hp
  | aptr b n => obtain ⟨p, hp, hl, rfl⟩ := h.aptr_inv; exact .aptr b n p hp hl
  | batt b g => cases h with | pure _ _ h => cases h | batt _ _ _ hg => exact .batt _ b g hg
  | ratt b p => cases h with | pure _ _ h => cases h | ratt _ _ _ hp => exact .ratt _ b p hp
  | _ => exact argR_rep' hx (by simp) (by simp) (by simp) (by simp) (by simp) (by simp) (by simp) h
theorem renV_rep {v : Value} {x : AV} (hx : renOkV x = true) (h : Rep ρ B F w v (renV mb mr nb nr x)) : Rep (ρ.ren mb mr nb nr) B F w v x := by
  cases x with
  | agg l =>
    obtain ⟨cs, rfl, hl, hc⟩ := h.agg_inv
    simp only [renOkV, List.all_eq_true] at hx
    refine .agg cs l (by simpa using hl) fun i u y e1 e2 => ?_
    exact renC_rep (hx y (List.mem_of_getElem? e2)) (hc i u _ e1 (by rw [List.getElem?_map, e2]; rfl))
  | _ => simp only [renOkV] at hx; simp only [renV] at h; exact renC_rep hx h
theorem renF_rep {v : Value} {x : AV} (hx : renOkF x = true) (h : Rep ρ B F w v (renF mb mr nb nr x)) : Rep (ρ.ren mb mr nb nr) B F w v x := by
  cases x with
  | cptr vol l =>
    obtain ⟨ad, f, rfl, hsp, hloc, hcell, hc⟩ := h.cptr_inv
    simp only [renOkF, List.all_eq_true] at hx
    refine .cptr vol ad l f hsp hloc (fun i hi => hcell i (by simpa using hi)) fun i y e2 => ?_
    have hy := hx y (List.mem_of_getElem? e2)
    have := hc i _ (by rw [List.getElem?_map, e2]; rfl)
    cases y <;> first | (simp at hy; done) | exact argR_rep' (by simpa using hy) (by simp) (by simp) (by simp) (by simp) (by simp) (by simp) (by simp) this
  | _ => simp only [renOkF] at hx; simp only [renF] at h; exact renV_rep hx h
theorem renT_rep {v : Value} {x : AV} (hx : renOkT x = true) (h : Rep ρ B F w v (renT mb mr nb nr x)) : Rep (ρ.ren mb mr nb nr) B F w v x := by
  cases x with
  | tup l =>
    obtain ⟨cs, rfl, hl, hc⟩ := h.tup_inv
    simp only [renOkT, List.all_eq_true] at hx
    refine .tup cs l (by simpa using hl) fun i u y e1 e2 => ?_
    exact renV_rep (hx y (List.mem_of_getElem? e2)) (hc i u _ e1 (by rw [List.getElem?_map, e2]; rfl))
  | fn f l =>
    obtain ⟨cs, rfl, hl, hc⟩ := h.fn_inv
    simp only [renOkT, List.all_eq_true] at hx
    refine .fn f cs l (by simpa using hl) fun i u y e1 e2 => ?_
    exact renF_rep (hx y (List.mem_of_getElem? e2)) (hc i u _ e1 (by rw [List.getElem?_map, e2]; rfl))
  | _ => simp only [renOkT] at hx; simp only [renT] at h; exact renF_rep hx h
end

/-- τ says less than σ: its boxes and rows are σ's mb, mr. -/
def TmLe (σ : List (Nat × AV)) (mb mr : List Nat) (nb nr : Nat) : List (Nat × AV) → Prop
  | [] => True
  | (t, v) :: l => (renOkT v = true ∧ ALe (getT σ t) (renT mb mr nb nr v)) ∧ TmLe σ mb mr nb nr l
def CsLe (mb mr : List Nat) (nb nr : Nat) : List AV → List AV → Prop
  | [], [] => True
  | x :: xs, y :: ys => (renOk y = true ∧ ALe x (renC mb mr nb nr y)) ∧ CsLe mb mr nb nr xs ys
  | _, _ => False
def BxLe (σb : List (Option (List AV))) (mb' mr : List Nat) (nb nr : Nat) : List Nat → List (Option (List AV)) → Prop
  | _, [] => True
  | [], _ :: _ => False
  | m :: mb, none :: l => BxLe σb mb' mr nb nr mb l
  | m :: mb, some cs :: l => (match getO σb m with | some cs' => CsLe mb' mr nb nr cs' cs | none => False) ∧ BxLe σb mb' mr nb nr mb l
def RwLe (σr : List (Option ARow)) : List Nat → List (Option ARow) → Prop
  | _, [] => True
  | [], _ :: _ => False
  | m :: mr, none :: l => RwLe σr mr l
  | m :: mr, some r :: l => getO σr m = some r ∧ RwLe σr mr l
theorem csLe_get {mb mr : List Nat} {nb nr : Nat} : ∀ {xs ys : List AV}, CsLe mb mr nb nr xs ys → xs.length = ys.length ∧ ∀ (i : Nat) (x y : AV), xs[i]? = some x → ys[i]? = some y → renOk y = true ∧ ALe x (renC mb mr nb nr y)
  | [], [], _ => ⟨rfl, fun i x y e => by cases e⟩
  | [], _ :: _, h => h.elim
  | _ :: _, [], h => h.elim
  | x :: xs, y :: ys, h => by
    obtain ⟨h1, h2⟩ := h
    obtain ⟨g1, g2⟩ := csLe_get h2
    refine ⟨by simp [g1], fun i a b e1 e2 => ?_⟩
    cases i with
    | zero => simp at e1 e2; subst e1 e2; exact h1
    | succ i => exact g2 i a b (by simpa using e1) (by simpa using e2)
theorem tmLe_get {σ : List (Nat × AV)} {mb mr : List Nat} {nb nr : Nat} : ∀ {l : List (Nat × AV)}, TmLe σ mb mr nb nr l → ∀ t, renOkT (getT l t) = true ∧ ALe (getT σ t) (renT mb mr nb nr (getT l t))
  | [], _, t => ⟨rfl, .any _⟩
  | (t', v) :: l, h, t => by
    simp only [getT]
    split
    · rename_i e; subst e; exact h.1
    · exact tmLe_get h.2 t
theorem bxLe_get {σb : List (Option (List AV))} {mb' mr : List Nat} {nb nr : Nat} : ∀ {mb : List Nat} {l : List (Option (List AV))}, BxLe σb mb' mr nb nr mb l → ∀ b cs, getO l b = some cs → ∃ m cs', mb[b]? = some m ∧ getO σb m = some cs' ∧ CsLe mb' mr nb nr cs' cs
  | mb, [], _, b, cs, e => by simp [getO] at e
  | [], _ :: _, h, _, _, _ => h.elim
  | m :: mb, x :: l, h, b, cs, e => by
    cases b with
    | zero =>
      cases x with
      | none => simp [getO] at e
      | some c =>
        simp [getO] at e; subst e
        obtain ⟨h1, _⟩ := h
        split at h1
        · rename_i cs' hc; exact ⟨m, cs', rfl, hc, h1⟩
        · exact h1.elim
    | succ b =>
      have h2 : BxLe σb mb' mr nb nr mb l := by cases x <;> first | exact h | exact h.2
      obtain ⟨m', cs', g1, g2, g3⟩ := bxLe_get h2 b cs (by simpa [getO] using e)
      exact ⟨m', cs', by simpa using g1, g2, g3⟩
theorem rwLe_get {σr : List (Option ARow)} : ∀ {mr : List Nat} {l : List (Option ARow)}, RwLe σr mr l → ∀ b r, getO l b = some r → ∃ m, mr[b]? = some m ∧ getO σr m = some r
  | mr, [], _, b, cs, e => by simp [getO] at e
  | [], _ :: _, h, _, _, _ => h.elim
  | m :: mr, x :: l, h, b, r, e => by
    cases b with
    | zero =>
      cases x with
      | none => simp [getO] at e
      | some c => simp [getO] at e; subst e; exact ⟨m, rfl, h.1⟩
    | succ b =>
      have h2 : RwLe σr mr l := by cases x <;> first | exact h | exact h.2
      obtain ⟨m', g1, g2⟩ := rwLe_get h2 b r (by simpa [getO] using e)
      exact ⟨m', by simpa using g1, g2⟩

theorem nodup_get {l : List Nat} (h : l.Nodup) {i j : Nat} (hi : i < l.length) (hj : j < l.length) (e : l[i] = l[j]) : i = j := by
  have h' := List.pairwise_iff_getElem.1 h
  rcases Nat.lt_trichotomy i j with q | q | q
  · exact absurd e (h' i j hi hj q)
  · exact q
  · exact absurd e.symm (h' j i hj hi q)
/-- A state told anew. -/
theorem Wk.ren {σ τ : AS} (mb mr : List Nat) (h1 : TmLe σ.tm mb mr σ.nb σ.nr τ.tm) (h2 : BxLe σ.bx mb mr σ.nb σ.nr mb τ.bx) (h3 : RwLe σ.rw mr τ.rw) (hb : mb.Nodup) (hr : mr.Nodup) (hbl : mb.length ≤ τ.nb) (hrl : mr.length ≤ τ.nr) : Wk σ τ := by
  intro w0 N ρ F a w hs
  refine ⟨ρ.ren mb mr σ.nb σ.nr, F, ⟨⟨hs.s.sz, hs.s.df, fun t => ?_, fun b cs g e1 e2 => ?_, fun b r p e1 e2 => ?_, fun b b' g e1 e2 => ?_, fun b b' p p' r r' e1 e2 e3 e4 f1 f2 l1 l2 hq => ?_, fun b b' g p e1 e2 hl => ?_, fun b g e => hs.s.lb _ g e, fun b p e hl => hs.s.lr _ p e hl, hs.s.fl, hs.s.bel⟩, fun b hle => ?_, fun b hle => ?_, fun b c e => ?_, fun b c e => ?_⟩, fun _ hx => hx, fun _ hx => .inl hx⟩
  · obtain ⟨g1, g2⟩ := tmLe_get h1 t
    exact renT_rep g1 (g2.rep (hs.s.tm t))
  · obtain ⟨m, cs', g1, g2, g3⟩ := bxLe_get h2 b cs e1
    have e2' : ρ.b m = some g := by
      have : mb.getD b σ.nb = m := by simp [List.getD_eq_getElem?_getD, g1]
      simp only [Env.ren, this] at e2; exact e2
    obtain ⟨k1, k2, arr, T, k3, k4, k5⟩ := hs.s.bx m cs' g g2 e2'
    obtain ⟨q1, q2⟩ := csLe_get g3
    refine ⟨k1, k2, arr, T, k3, by omega, fun i u y a1 a2 => ?_⟩
    have hi := (List.getElem?_eq_some_iff.1 a2).1
    obtain ⟨x, a3⟩ : ∃ x, cs'[i]? = some x := ⟨_, List.getElem?_eq_getElem (by omega)⟩
    obtain ⟨q3, q4⟩ := q2 i x y a3 a2
    exact renC_rep q3 (q4.rep (k5 i u x a1 a3))
  · obtain ⟨m, g1, g2⟩ := rwLe_get h3 b r e1
    have : mr.getD b σ.nr = m := by simp [List.getD_eq_getElem?_getD, g1]
    simp only [Env.ren, this] at e2
    exact hs.s.rw m r p g2 e2
  · have := hs.s.ib _ _ g e1 e2
    have hin : ∀ x, ρ.b (mb.getD x σ.nb) = some g → x < mb.length := fun x hx => by
      rcases Nat.lt_or_ge x mb.length with h | h
      · exact h
      · simp only [List.getD_eq_getElem?_getD] at hx; rw [List.getElem?_eq_none h] at hx
        simp only [Option.getD_none] at hx; rw [hs.b σ.nb (Nat.le_refl _)] at hx; cases hx
    have i1 := hin b e1; have i2 := hin b' e2
    simp only [List.getD_eq_getElem?_getD] at this
    rw [List.getElem?_eq_getElem i1, List.getElem?_eq_getElem i2] at this
    exact nodup_get hb i1 i2 this
  · obtain ⟨m, g1, g2⟩ := rwLe_get h3 b r e3
    obtain ⟨m', g1', g2'⟩ := rwLe_get h3 b' r' e4
    have t1 : mr.getD b σ.nr = m := by simp [List.getD_eq_getElem?_getD, g1]
    have t2 : mr.getD b' σ.nr = m' := by simp [List.getD_eq_getElem?_getD, g1']
    simp only [Env.ren, t1] at e1
    simp only [Env.ren, t2] at e2
    have := hs.s.ir m m' p p' r r' e1 e2 g2 g2' f1 f2 l1 l2 hq
    subst this
    obtain ⟨i1, j1⟩ := List.getElem?_eq_some_iff.1 g1
    obtain ⟨i2, j2⟩ := List.getElem?_eq_some_iff.1 g1'
    exact nodup_get hr i1 i2 (j1.trans j2.symm)
  · exact hs.s.ibr _ _ g p e1 e2 hl
  · simp only [Env.ren, List.getD_eq_getElem?_getD]
    rw [List.getElem?_eq_none (by omega), Option.getD_none]; exact hs.b _ (Nat.le_refl _)
  · simp only [Env.ren, List.getD_eq_getElem?_getD]
    rw [List.getElem?_eq_none (by omega), Option.getD_none]; exact hs.r _ (Nat.le_refl _)
  · obtain ⟨m, cs', g1, _⟩ := bxLe_get h2 b c e
    have := (List.getElem?_eq_some_iff.1 g1).1; omega
  · obtain ⟨m, g1, _⟩ := rwLe_get h3 b c e
    have := (List.getElem?_eq_some_iff.1 g1).1; omega

/-! ### A contract out of a walk -/
def enum : Nat → List AV → List (Nat × AV)
  | _, [] => []
  | i, v :: l => (i, v) :: enum (i + 1) l
theorem getT_enum : ∀ (l : List AV) (i t : Nat), getT (enum i l) t = if i ≤ t then (l[t - i]?).getD .any else .any
  | [], i, t => by simp [enum, getT]
  | v :: l, i, t => by
    simp only [enum, getT, getT_enum l (i + 1) t]
    by_cases h : i = t
    · subst h; simp
    · rw [if_neg h]
      by_cases h2 : i + 1 ≤ t
      · rw [if_pos h2, if_pos (by omega), show t - i = (t - (i + 1)) + 1 by omega]; simp
      · rw [if_neg h2, if_neg (by omega)]
def resC : AV → Bool
  | .any | .int .. | .bool .. | .str .. | .raw .. | .nil | .sl false .. | .csl false .. | .ref .. => true
  | _ => false
def resV : AV → Bool
  | .agg l => l.all resC
  | v => resC v
def resT : AV → Bool
  | .tup l => l.all resV
  | v => resV v
def loadOk (g : Bool) (n : Nat) (l : List AV) : Bool := if g then decide (n ≤ l.length) else decide (1 ≤ l.length)
/-- The results, read out of the state. -/
def resOf (P : Program) (σ : AS) : List ResultVar → Option (List AV)
  | [] => some []
  | .tmp t :: l => (resOf P σ l).map fun vs => getT σ.tm t :: vs
  | .cell t ty :: l => match getT σ.tm t, aggOf P ty, szOf P ty with
    | .bptr b off, some g, some n => match getO σ.bx b with
      | some cs => if loadOk g n (cs.drop off) = true then (resOf P σ l).map fun vs => (loadC g n (cs.drop off)).av :: vs else none
      | none => none
    | .aptr b m, some true, some n => match getO σ.rw b with
      | some r => if n = m ∧ r.k = 1 ∧ r.es.length = n ∧ r.es.all scal = true then (resOf P σ l).map fun vs => .agg r.es :: vs else none
      | none => none
    | _, _, _ => none
def one : List AV → AV
  | [v] => v
  | vs => .tup vs
/-- The walk has ended, and this is what is returned. -/
structure RetOk (P : Program) (rs : List ResultVar) (σ : AS) (r : AV) (H : List ARow) : Prop where
  ok : ∃ τ vs mr, Wk σ τ ∧ resOf P τ rs = some vs ∧ ALe (one vs) (renT [] mr τ.nb τ.nr r) ∧ renOkT r = true ∧ resT r = true ∧ mr.length = H.length ∧ mr.Nodup ∧ (∀ (i : Nat) (row : ARow) (m : Nat), H[i]? = some row → mr[i]? = some m → row.fro = false ∧ getO τ.rw m = some row)

theorem resT_pure {ρ : Env} {B : Nat → Prop} {F : Nat → Prop} {w : World} {v : Value} {x : AV} (hx : resT x = true) (h : Rep ρ B F w v x) : Rep ρ V0 F w v x := by
  have hC : ∀ {u : Value} {y : AV}, resC y = true → Rep ρ B F w u y → Rep ρ V0 F w u y := fun {u y} hy h => by
    cases h with
    | pure _ _ h => exact .pure _ _ h
    | any => exact .any _
    | ref a c b k lo n p hp h1 h2 h3 h4 h5 => exact .ref a c b k lo n p hp h1 h2 h3 h4 h5
    | _ => simp [resC] at hy
  have hV : ∀ {u : Value} {y : AV}, resV y = true → Rep ρ B F w u y → Rep ρ V0 F w u y := fun {u y} hy h => by
    cases y with
    | agg l =>
      obtain ⟨cs, rfl, hl, hc⟩ := h.agg_inv
      simp only [resV, List.all_eq_true] at hy
      exact .agg cs l hl fun i u z e1 e2 => hC (hy z (List.mem_of_getElem? e2)) (hc i u z e1 e2)
    | _ => simp only [resV] at hy; exact hC hy h
  cases x with
  | tup l =>
    obtain ⟨cs, rfl, hl, hc⟩ := h.tup_inv
    simp only [resT, List.all_eq_true] at hx
    exact .tup cs l hl fun i u z e1 e2 => hV (hx z (List.mem_of_getElem? e2)) (hc i u z e1 e2)
  | _ => simp only [resT] at hx; exact hV hx h

section
variable {P : Program} {w0 : Base} {N : Nat} {ρ : Env} {F : Nat → Prop} {σ : AS} {a : Act} {w : World}
def resStep (a : Act) : ResultVar → Sem Value
  | .tmp t => pure (a.tmps.getD t undef)
  | .cell x t => do loadVar t (← asAddr (a.tmps.getD x undef))
theorem resOf_run (h : Sim w0 N ρ F σ.fs a w) : ∀ (rs : List ResultVar) (vs : List AV), resOf P σ rs = some vs → ∃ us : List Value, (rs.mapM (resStep a)).run P w = Result.ok us w ∧ us.length = vs.length ∧ ∀ (i : Nat) (u : Value) (x : AV), us[i]? = some u → vs[i]? = some x → Rep ρ w0.V F w u x
  | [], vs, e => by cases e; exact ⟨[], rfl, rfl, fun i u x e => by cases e⟩
  | .tmp t :: l, vs, e => by
    simp only [resOf, Option.map_eq_some_iff] at e
    obtain ⟨vs', e1, rfl⟩ := e
    obtain ⟨us, h1, h2, h3⟩ := resOf_run h l vs' e1
    refine ⟨a.tmps.getD t undef :: us, ?_, by simp [h2], fun i u x e1 e2 => ?_⟩
    · simp only [List.mapM_cons, Sem.run_bind, Sem.run_pure, Result.andThen_ok, h1, resStep]
    · cases i with
      | zero => cases e1; cases e2; exact h.tm t
      | succ i => exact h3 i u x (by simpa using e1) (by simpa using e2)
  | .cell t ty :: l, vs, e => by
    have key : ∀ v x, Rep ρ w0.V F w v x → ∀ vs', resOf P σ l = some vs' → (Instr.loadAt ty (a.tmps.getD t undef)).run P w = Result.ok v w → (∃ ad, a.tmps.getD t undef = .pointer (some ad)) → ∃ us : List Value, ((ResultVar.cell t ty :: l).mapM (resStep a)).run P w = Result.ok us w ∧ us.length = (x :: vs').length ∧ ∀ (i : Nat) (u : Value) (y : AV), us[i]? = some u → (x :: vs')[i]? = some y → Rep ρ w0.V F w u y := fun v x hv vs' e1 hrun ⟨ad, had⟩ => by
      obtain ⟨us, h1, h2, h3⟩ := resOf_run h l vs' e1
      refine ⟨v :: us, ?_, by simp [h2], fun i u y e1 e2 => ?_⟩
      · have hrun' : (loadVar ty ad).run P w = .ok v w := by
          rw [had] at hrun
          simpa [Instr.loadAt, Instr.sureAddr] using hrun
        simp only [List.mapM_cons, Sem.run_bind, Sem.run_pure, Result.andThen_ok, resStep, had, asAddr, hrun', h1]
      · cases i with
        | zero => simp at e1 e2; subst e1 e2; exact hv
        | succ i => exact h3 i u y (by simpa using e1) (by simpa using e2)
    simp only [resOf] at e
    have ht := h.tm t
    split at e
    · rename_i b off g n hv hg hn
      split at e
      · rename_i cs hb
        split at e
        · rename_i hok
          obtain ⟨vs', e1, rfl⟩ := Option.map_eq_some_iff.1 e
          have hv' : σ.fs.tm t = .bptr b off := hv
          rw [hv'] at ht
          have hok' : (loadC g n (cs.drop off)).ok := by cases g <;> simpa [loadC, loadOk] using hok
          obtain ⟨v, r1, r2⟩ := v_load_b (P := P) hg hn h ht hb hok'
          obtain ⟨gg, _, r3⟩ := ht.bptr_inv
          exact key v _ r2 vs' e1 r1 ⟨_, r3⟩
        · cases e
      · cases e
    · rename_i b m n hv hg hn
      split at e
      · rename_i r hb
        split at e
        · rename_i hok
          obtain ⟨vs', e1, rfl⟩ := Option.map_eq_some_iff.1 e
          have hv' : σ.fs.tm t = .aptr b m := hv
          rw [hv'] at ht
          obtain ⟨v, r1, r2⟩ := v_load_a (P := P) hg hn h ht hb hok.2.1 hok.2.2.1 hok.2.2.2
          obtain ⟨p, _, _, r3⟩ := ht.aptr_inv
          exact key v _ r2 vs' e1 r1 ⟨_, r3⟩
        · cases e
      · cases e
    · cases e
end

/-- A contract out of a walk. -/
theorem acall_of {P : Program} {f : Nat} {fn : Func} {ac : ACode} {c : Code} {N : Nat} {args : List AV} {r : AV} {H : List ARow} (hf : P.funcs[f]? = some fn) (hp : plainFn P f = true) (hb : fn.body = some c) (hc : compC P N c = some ac) (hN : N = max args.length fn.ntmps)
    (h : AWP P N ac ⟨enum 0 args, [], [], 0, 0⟩ fun x σ => (x = .n ∨ x = .r) ∧ RetOk P fn.results.toList σ r H) : ACall P f args r H := by
  refine ⟨hp, fun w F vs hF hl hr => calls_of_wp hf hb (wp_mono (wpIn_wide.1 (h c (compC_told c ac hc) none ⟨Vw w, w, []⟩ Env.none F _ w ?_)) ?_)⟩
  · refine ⟨⟨by simp [hl]; omega, rfl, fun t => ?_, (fun b c g e => by simp [AS.fs, getO] at e), (fun b r p e => by simp [AS.fs, getO] at e), (fun b b' g e => by cases e), (fun b b' p p' r r' e => by cases e), (fun b b' g p e => by cases e), (fun b g e => by cases e), (fun b p e => by cases e), hF, ⟨rfl, rfl, Nat.le_refl _, fun _ hx => hx, fun _ _ => rfl⟩⟩, fun _ _ => rfl, fun _ _ => rfl, (fun b c e => by simp [AS.fs, getO] at e), (fun b c e => by simp [AS.fs, getO] at e)⟩
    show Rep Env.none (Vw w) F w _ (getT (enum 0 args) t)
    rw [getT_enum, if_pos (Nat.zero_le _), Nat.sub_zero]
    by_cases ht : t < args.length
    · rw [List.getElem?_eq_getElem ht, Option.getD_some]
      have e1 : vs[t]? = some (vs[t]'(by omega)) := Array.getElem?_eq_getElem (by omega)
      have : (vs ++ Array.replicate (fn.ntmps - vs.size) undef).getD t undef = vs[t]'(by omega) := by
        simp only [Array.getD_eq_getD_getElem?]
        rw [Array.getElem?_append_left (by omega), e1]; rfl
      rw [this]
      exact hr t _ _ e1 (List.getElem?_eq_getElem ht)
    · rw [List.getElem?_eq_none (by omega)]; exact .any _
  · rintro e a' w' ⟨x, σ, ρ, F', rfl, ⟨hx, ⟨τ, vs', mr, hw, hres, hle, hrt, hrs, hml, hmn, hrow⟩⟩, hs, f1, f2⟩
    obtain ⟨ρ2, F2, hs2, g1, g2⟩ := hw ⟨Vw w, w, []⟩ N ρ F' a' w' hs
    obtain ⟨us, q1, q2, q3⟩ := resOf_run (P := P) hs2.s fn.results.toList vs' hres
    have hrun : ∃ v, (results fn a'.tmps).run P w' = .ok v w' ∧ Rep ρ2 (Vw w) F2 w' v (one vs') := by
      have q1' : (fn.results.mapM (resStep a')).run P w' = .ok us.toArray w' := by
        rw [Array.mapM_eq_mapM_toList, Sem.run_map, q1]; rfl
      have hres : results fn a'.tmps = (do let vs ← fn.results.mapM (resStep a'); pure (if h : vs.size = 1 then vs[0] else .tuple vs)) := rfl
      rw [hres, Sem.run_bind, q1', Result.andThen_ok, Sem.run_pure]
      match us, vs', q2, q3 with
      | [u], [x], _, q3 => exact ⟨u, by simp, q3 0 u x rfl rfl⟩
      | [], [], _, q3 => exact ⟨.tuple #[], by simp, .tup #[] [] rfl (by simp)⟩
      | u :: u2 :: us, x :: x2 :: xs, q2, q3 => exact ⟨.tuple (u :: u2 :: us).toArray, by simp, .tup _ _ (by simpa using q2) (fun i a b e1 e2 => q3 i a b (by simpa using e1) e2)⟩
      | [], _ :: _, q2, _ => simp at q2
      | _ :: _, [], q2, _ => simp at q2
      | [_], _ :: _ :: _, q2, _ => simp at q2
      | _ :: _ :: _, [_], q2, _ => simp at q2
    obtain ⟨v, hv1, hv2⟩ := hrun
    have hren := resT_pure hrs (renT_rep hrt (hle.rep hv2))
    have hget : ∀ b p, (ρ2.ren [] mr τ.nb τ.nr).r b = some p → ∃ (hb : b < mr.length), ρ2.r (mr[b]) = some p := fun b p e => by
      simp only [Env.ren, List.getD_eq_getElem?_getD] at e
      by_cases hb : b < mr.length
      · rw [List.getElem?_eq_getElem hb, Option.getD_some] at e; exact ⟨hb, e⟩
      · rw [List.getElem?_eq_none (by omega), Option.getD_none, hs2.r _ (Nat.le_refl _)] at e; cases e
    have hfin : ∃ u ρ F', Ending.returned v = .returned u ∧ Below w.heap.size w w' ∧ (∀ x, F x → F' x) ∧ (∀ x, F' x → F x ∨ w.heap.size ≤ x) ∧ (∀ x, F' x → x < w'.heap.size) ∧
      (∀ b r, H[b]? = some r → r.fro = false ∧ ∀ p, ρ.r b = some p → RowOk (Vw w) F' w' p r) ∧ (∀ b p, ρ.r b = some p → b < H.length ∧ (0 < p.lim → p.blk < w'.heap.size ∧ w.heap.size ≤ p.blk)) ∧
      (∀ b b' p p', ρ.r b = some p → ρ.r b' = some p' → 0 < p.lim → 0 < p'.lim → p.blk = p'.blk → b = b') ∧ (∀ b, ρ.b b = none) ∧ Rep ρ V0 F' w' u r := by
      refine ⟨v, ρ2.ren [] mr τ.nb τ.nr, F2, rfl, ⟨hs2.s.bel.os, hs2.s.bel.output, hs2.s.bel.grow, fun k hk => hs2.s.bel.block k hk⟩, fun x hx => g1 x (f1 x hx), fun x hx => (g2 x hx).elim (fun hx => (f2 x hx).imp id Nat.le_of_not_lt) (fun e => .inr (Nat.le_of_not_lt e)), hs2.s.fl, fun b r e => ?_, fun b p e => ?_, fun b b' p p' e e' l l' hq => ?_, fun b => ?_, hren⟩
      · have hb : b < H.length := (List.getElem?_eq_some_iff.1 e).1
        have hrw := hrow b r (mr[b]'(by omega)) e (List.getElem?_eq_getElem (by omega))
        refine ⟨hrw.1, fun p ep => ?_⟩
        obtain ⟨_, k⟩ := hget b p ep
        exact hs2.s.rw _ r p hrw.2 k
      · obtain ⟨hb, k⟩ := hget b p e
        refine ⟨by omega, fun hl => ⟨hs2.s.lr _ p k hl, ?_⟩⟩
        have hrw := hrow b _ (mr[b]) (List.getElem?_eq_getElem (by omega)) (List.getElem?_eq_getElem hb)
        rcases (hs2.s.rw _ _ p hrw.2 k).2.2 with q | ⟨_, q, _⟩
        · omega
        · exact Nat.le_of_not_lt (q hrw.1).1
      · obtain ⟨hb, k⟩ := hget b p e
        obtain ⟨hb', k'⟩ := hget b' p' e'
        have hrw := hrow b _ (mr[b]) (List.getElem?_eq_getElem (by omega)) (List.getElem?_eq_getElem hb)
        have hrw' := hrow b' _ (mr[b']) (List.getElem?_eq_getElem (by omega)) (List.getElem?_eq_getElem hb')
        exact nodup_get hmn hb hb' (hs2.s.ir _ _ p p' _ _ k k' hrw.2 hrw'.2 hrw.1 hrw'.1 l l' hq)
      · exact hs2.b _ (Nat.le_refl _)
    have hd := hs2.s.df
    rcases hx with rfl | rfl
    · exact ⟨hd, v, hv1, hfin⟩
    · exact ⟨hd, v, hv1, hfin⟩

/-! ### .. with own memory handed over -/
/-- What a temporary holds, in a form that is computed easily. -/
def gT : List (Nat × AV) → Nat → AV
  | [], _ => .any
  | (t, v) :: l, u => bif t == u then v else gT l u
theorem gT_eq : gT = getT := funext fun l => funext fun u => by
  induction l with
  | nil => rfl
  | cons x l ih =>
    obtain ⟨t, v⟩ := x
    simp only [gT, getT, ih]
    by_cases h : t = u
    · subst h; simp
    · rw [if_neg h, show (t == u) = false by simpa using h]; rfl
def gO {α : Type} : List (Option α) → Nat → Option α
  | [], _ => none
  | x :: _, 0 => x
  | _ :: l, n + 1 => gO l n
theorem gO_eq {α : Type} : @gO α = @getO α := funext fun l => funext fun u => by
  induction l generalizing u with
  | nil => simp [gO, getO]
  | cons x l ih => cases u <;> simp_all [gO, getO]

theorem Rep.batt_inv {ρ : Env} {V F : Nat → Prop} {w : World} {v : Value} {b g : Nat} (h : Rep ρ V F w v (.batt b g)) : ρ.b b = some g := by
  cases h with
  | pure _ _ h => cases h
  | batt _ _ _ hg => exact hg
theorem Rep.ratt_inv {ρ : Env} {V F : Nat → Prop} {w : World} {v : Value} {b : Nat} {p : Pl} (h : Rep ρ V F w v (.ratt b p)) : ρ.r b = some p := by
  cases h with
  | pure _ _ h => cases h
  | ratt _ _ _ hp => exact hp
def ghB (gb : Nat → Nat) : Nat → Nat → List (Nat × AV)
  | _, 0 => []
  | i, n + 1 => (1000000 + i, .batt i (gb i)) :: ghB gb (i + 1) n
def ghR (pr : Nat → Pl) : Nat → Nat → List (Nat × AV)
  | _, 0 => []
  | i, n + 1 => (1100000 + i, .ratt i (pr i)) :: ghR pr (i + 1) n
theorem ghR_rep {ρ : Env} {B F : Nat → Prop} {w : World} {v : Value} {pr : Nat → Pl} : ∀ (n i : Nat), (∀ k, i ≤ k → k < i + n → ρ.r k = some (pr k)) → ∀ t, Rep ρ B F w v (getT (ghR pr i n) t)
  | 0, i, _, t => .any _
  | n + 1, i, h, t => by
    simp only [ghR, getT]
    split
    · exact .ratt _ _ _ (h i (Nat.le_refl _) (by omega))
    · exact ghR_rep n (i + 1) (fun k h1 h2 => h k (by omega) (by omega)) t
theorem gh_rep {ρ : Env} {B F : Nat → Prop} {w : World} {v : Value} {gb : Nat → Nat} {pr : Nat → Pl} {m : Nat} (hr : ∀ k, k < m → ρ.r k = some (pr k)) : ∀ (n i : Nat), (∀ k, i ≤ k → k < i + n → ρ.b k = some (gb k)) → ∀ t, Rep ρ B F w v (getT (ghB gb i n ++ ghR pr 0 m) t)
  | 0, i, _, t => ghR_rep m 0 (fun k _ h => hr k (by omega)) t
  | n + 1, i, h, t => by
    simp only [ghB, List.cons_append, getT]
    split
    · exact .batt _ _ _ (h i (Nat.le_refl _) (by omega))
    · exact gh_rep hr n (i + 1) (fun k h1 h2 => h k (by omega) (by omega)) t
theorem getT_enumA : ∀ (l : List AV) (g : List (Nat × AV)) (i t : Nat), getT (enum i l ++ g) t = if i ≤ t ∧ t < i + l.length then (l[t - i]?).getD .any else getT g t
  | [], g, i, t => by simp only [enum, List.nil_append, List.length_nil]; rw [if_neg (by omega)]
  | v :: l, g, i, t => by
    simp only [enum, List.cons_append, getT, getT_enumA l g (i + 1) t]
    by_cases h : i = t
    · subst h; simp
    · rw [if_neg h]
      by_cases h2 : i + 1 ≤ t ∧ t < i + 1 + l.length
      · rw [if_pos h2, if_pos (by simp only [List.length_cons]; omega), show t - i = (t - (i + 1)) + 1 by omega]; simp
      · rw [if_neg h2, if_neg (by simp only [List.length_cons]; omega)]
def mcC (nb : Nat) (rows : List (Option ARow)) : AV → Bool
  | .any | .int .. | .bool .. | .str .. | .raw .. | .nil | .sl false .. | .csl false .. => true
  | .ref b _ _ _ => (gO rows b).isSome
  | .rptr b _ _ _ => (gO rows b).isSome
  | .aptr b _ => (gO rows b).isSome
  | .bptr b _ => decide (b < nb)
  | _ => false
def mcV (nb : Nat) (rows : List (Option ARow)) : AV → Bool
  | .agg l => l.all (mcC nb rows)
  | v => mcC nb rows v
def mcT (nb : Nat) (rows : List (Option ARow)) : AV → Bool
  | .tup l => l.all (mcV nb rows)
  | v => mcV nb rows v
theorem gO_get {α : Type} : @gO α = @getO α := gO_eq
theorem gT_get : gT = getT := gT_eq
def Env.cut (ρ : Env) (nb : Nat) (rows : List (Option ARow)) : Env := ⟨fun b => if b < nb then ρ.b b else .none, fun b => if (gO rows b).isSome then ρ.r b else .none⟩
section
variable {ρ : Env} {V F : Nat → Prop} {w : World} {nb : Nat} {rows : List (Option ARow)}
theorem mcC_rep {v : Value} {x : AV} (hx : mcC nb rows x = true) (h : Rep ρ V F w v x) : Rep (ρ.cut nb rows) V0 F w v x := by
  cases h with
  | pure _ _ h => exact .pure _ _ h
  | any => exact .any _
  | ref a c b k lo n p hp h1 h2 h3 h4 h5 => exact .ref a c b k lo n p (by simp only [mcC] at hx; simp only [Env.cut]; rw [if_pos hx]; exact hp) h1 h2 h3 h4 h5
  | rptr b k i off p hp => exact .rptr b k i off p (by simp only [mcC] at hx; simp only [Env.cut]; rw [if_pos hx]; exact hp)
  | aptr b n p hp hl => exact .aptr b n p (by simp only [mcC] at hx; simp only [Env.cut]; rw [if_pos hx]; exact hp) hl
  | bptr b off g hg => exact .bptr b off g (by simp only [mcC, decide_eq_true_eq] at hx; simp only [Env.cut]; rw [if_pos hx]; exact hg)
  | _ => simp [mcC] at hx
theorem mcV_rep {v : Value} {x : AV} (hx : mcV nb rows x = true) (h : Rep ρ V F w v x) : Rep (ρ.cut nb rows) V0 F w v x := by
  cases x with
  | agg l =>
    obtain ⟨cs, rfl, hl, hc⟩ := h.agg_inv
    simp only [mcV, List.all_eq_true] at hx
    exact .agg cs l hl fun i u y e1 e2 => mcC_rep (hx y (List.mem_of_getElem? e2)) (hc i u y e1 e2)
  | _ => simp only [mcV] at hx; exact mcC_rep hx h
theorem mcT_rep {v : Value} {x : AV} (hx : mcT nb rows x = true) (h : Rep ρ V F w v x) : Rep (ρ.cut nb rows) V0 F w v x := by
  cases x with
  | tup l =>
    obtain ⟨cs, rfl, hl, hc⟩ := h.tup_inv
    simp only [mcT, List.all_eq_true] at hx
    exact .tup cs l hl fun i u y e1 e2 => mcV_rep (hx y (List.mem_of_getElem? e2)) (hc i u y e1 e2)
  | _ => simp only [mcT] at hx; exact mcV_rep hx h
end
def idBs (tm : List (Nat × AV)) (gb : Nat → Nat) : Nat → List (List AV) → Prop
  | _, [] => True
  | i, _ :: B => gT tm (1000000 + i) = .batt i (gb i) ∧ idBs tm gb (i + 1) B
def idRs (tm : List (Nat × AV)) (pr : Nat → Pl) : Nat → List (Option ARow) → Prop
  | _, [] => True
  | i, none :: K => idRs tm pr (i + 1) K
  | i, some _ :: K => gT tm (1100000 + i) = .ratt i (pr i) ∧ idRs tm pr (i + 1) K
theorem idBs_get {tm : List (Nat × AV)} {gb : Nat → Nat} : ∀ {B : List (List AV)} {i : Nat}, idBs tm gb i B → ∀ k, k < B.length → gT tm (1000000 + (i + k)) = .batt (i + k) (gb (i + k))
  | [], i, _, k, hk => by simp at hk
  | c :: B, i, h, k, hk => by
    cases k with
    | zero => exact h.1
    | succ k =>
      have := idBs_get h.2 k (by simpa using hk)
      rw [show i + (k + 1) = i + 1 + k by omega]; exact this
theorem idRs_get {tm : List (Nat × AV)} {pr : Nat → Pl} : ∀ {K : List (Option ARow)} {i : Nat}, idRs tm pr i K → ∀ (k : Nat) (r : ARow), K[k]? = some (some r) → gT tm (1100000 + (i + k)) = .ratt (i + k) (pr (i + k))
  | [], i, _, k, r, hk => by simp at hk
  | x :: K, i, h, k, r, hk => by
    cases k with
    | zero => simp at hk; subst hk; exact h.1
    | succ k =>
      have h2 : idRs tm pr (i + 1) K := by cases x <;> first | exact h | exact h.2
      have := idRs_get h2 k r (by simpa using hk)
      rw [show i + (k + 1) = i + 1 + k by omega]; exact this
def noFro (rows : List (Option ARow)) : Prop := ∀ (i : Nat) (r : ARow), rows[i]? = some (some r) → r.fro = false
/-- The walk has ended, and this is what is returned, and given back. -/
structure RetM (P : Program) (rs : List ResultVar) (σ : AS) (v : AV) (B' : List (List AV)) (K : List (Option ARow)) (H' : List ARow) (gb : Nat → Nat) (pr : Nat → Pl) : Prop where
  ok : ∃ tm nb nr vs, Wk σ ⟨tm, B'.map some, K ++ H'.map some, nb, nr⟩ ∧ resOf P ⟨tm, B'.map some, K ++ H'.map some, nb, nr⟩ rs = some vs ∧ ALe (one vs) v ∧ idBs tm gb 0 B' ∧ idRs tm pr 0 K
  mt : mcT B'.length (K ++ H'.map some) v = true
  mb : ∀ c ∈ B', ∀ x ∈ c, mcC B'.length (K ++ H'.map some) x = true
  nf : noFro (K ++ H'.map some)
theorem getO_map {α : Type} (l : List α) (i : Nat) : getO (l.map some) i = l[i]? := by
  simp only [getO, List.getD_eq_getElem?_getD, List.getElem?_map]
  cases l[i]? <;> rfl
theorem getO_get {α : Type} {l : List (Option α)} {i : Nat} {x : α} : getO l i = some x ↔ l[i]? = some (some x) := by
  simp only [getO, List.getD_eq_getElem?_getD]
  cases h : l[i]? <;> simp
theorem mcall_of {P : Program} {f : Nat} {fn : Func} {ac : ACode} {c : Code} {N : Nat} {args : List AV} {B : List (List AV)} {H : List ARow} {v : AV} {B' : List (List AV)} {K : List (Option ARow)} {H' : List ARow} (hf : P.funcs[f]? = some fn) (hp : plainFn P f = true) (hb : fn.body = some c) (hc : compC P N c = some ac) (hN : N = max args.length fn.ntmps)
    (hBl : B'.length = B.length) (hKl : K.length = H.length)
    (h : ∀ gb pr, AWP P N ac ⟨enum 0 args ++ (ghB gb 0 B.length ++ ghR pr 0 H.length), B.map some, H.map some, B.length, H.length⟩ fun x σ => (x = .n ∨ x = .r) ∧ RetM P fn.results.toList σ v B' K H' gb pr) : MCall P f args B H v B' K H' := by
  refine ⟨hp, hBl, hKl, fun w V F ρ vs hin hl hr => ?_⟩
  have hgb : ∀ i, i < B.length → ρ.b i = some ((ρ.b i).getD 0) := fun i hi => by
    obtain ⟨g, hg, _⟩ := hin.bx i _ (List.getElem?_eq_getElem hi); rw [hg]; rfl
  have hpr : ∀ i, i < H.length → ρ.r i = some ((ρ.r i).getD ⟨0, 0, 0⟩) := fun i hi => by
    obtain ⟨_, p, hp, _⟩ := hin.rw i _ (List.getElem?_eq_getElem hi); rw [hp]; rfl
  have hB1 : ∀ b g, ρ.b b = some g → b < B.length := fun b g e => by
    rcases Nat.lt_or_ge b B.length with q | q
    · exact q
    · rw [hin.bn b q] at e; cases e
  have hR1 : ∀ b p, ρ.r b = some p → b < H.length := fun b p e => by
    rcases Nat.lt_or_ge b H.length with q | q
    · exact q
    · rw [hin.rn b q] at e; cases e
  refine calls_of_wp hf hb (wp_mono (wpIn_wide.1 (h (fun i => (ρ.b i).getD 0) (fun i => (ρ.r i).getD ⟨0, 0, 0⟩) c (compC_told c ac hc) none ⟨V, w, []⟩ ρ F _ w ?_)) ?_)
  · refine ⟨⟨by simp [hl]; omega, rfl, fun t => ?_, fun b c g e1 e2 => ?_, fun b r p e1 e2 => ?_, hin.ib, fun b b' p p' r r' e1 e2 e3 e4 f1 f2 l1 l2 hq => hin.ir b b' p p' e1 e2 l1 l2 hq, hin.ibr, fun b g e => ?_, fun b p e hlm => ?_, hin.fl, ⟨rfl, rfl, Nat.le_refl _, hin.vl, fun _ _ => rfl⟩⟩, hin.bn, hin.rn, fun b c e => ?_, fun b c e => ?_⟩
    · show Rep ρ V F w _ (getT (enum 0 args ++ _) t)
      rw [getT_enumA]
      split
      · rename_i ht
        have ht : t < args.length := by omega
        rw [Nat.sub_zero, List.getElem?_eq_getElem ht, Option.getD_some]
        have e1 : vs[t]? = some (vs[t]'(by omega)) := Array.getElem?_eq_getElem (by omega)
        have : (vs ++ Array.replicate (fn.ntmps - vs.size) undef).getD t undef = vs[t]'(by omega) := by
          simp only [Array.getD_eq_getD_getElem?]
          rw [Array.getElem?_append_left (by omega), e1]; rfl
        rw [this]
        exact hr t _ _ e1 (List.getElem?_eq_getElem ht)
      · exact gh_rep hpr B.length 0 (fun k _ hk => hgb k (by omega)) t
    · have e1 : getO (B.map some) b = some c := e1
      rw [getO_map] at e1
      obtain ⟨g', k1, _, k2⟩ := hin.bx b c e1
      rw [e2] at k1; cases k1; exact k2
    · have e1 : getO (H.map some) b = some r := e1
      rw [getO_map] at e1
      obtain ⟨_, p', k1, _, k2⟩ := hin.rw b r e1
      rw [e2] at k1; cases k1; exact k2
    · obtain ⟨g', k1, k2, _⟩ := hin.bx b _ (List.getElem?_eq_getElem (hB1 b g e))
      rw [e] at k1; cases k1; exact k2
    · obtain ⟨_, p', k1, k2, _⟩ := hin.rw b _ (List.getElem?_eq_getElem (hR1 b p e))
      rw [e] at k1; cases k1; exact k2 hlm
    · have e : getO (B.map some) b = some c := e
      rw [getO_map] at e; exact (List.getElem?_eq_some_iff.1 e).1
    · have e : getO (H.map some) b = some c := e
      rw [getO_map] at e; exact (List.getElem?_eq_some_iff.1 e).1
  · rintro e a' w' ⟨x, σ, ρ', F', rfl, ⟨hx, ⟨⟨tm, nb, nr, vs', hw, hres, hle, hib, hir⟩, mt, mb, nf⟩⟩, hs, f1, f2⟩
    obtain ⟨ρ2, F2, hs2, g1, g2⟩ := hw ⟨V, w, []⟩ N ρ' F' a' w' hs
    obtain ⟨us, q1, q2, q3⟩ := resOf_run (P := P) hs2.s fn.results.toList vs' hres
    have hrun : ∃ v, (results fn a'.tmps).run P w' = .ok v w' ∧ Rep ρ2 V F2 w' v (one vs') := by
      have q1' : (fn.results.mapM (resStep a')).run P w' = .ok us.toArray w' := by
        rw [Array.mapM_eq_mapM_toList, Sem.run_map, q1]; rfl
      have hres : results fn a'.tmps = (do let vs ← fn.results.mapM (resStep a'); pure (if h : vs.size = 1 then vs[0] else .tuple vs)) := rfl
      rw [hres, Sem.run_bind, q1', Result.andThen_ok, Sem.run_pure]
      match us, vs', q2, q3 with
      | [u], [x], _, q3 => exact ⟨u, by simp, q3 0 u x rfl rfl⟩
      | [], [], _, q3 => exact ⟨.tuple #[], by simp, .tup #[] [] rfl (by simp)⟩
      | u :: u2 :: us, x :: x2 :: xs, q2, q3 => exact ⟨.tuple (u :: u2 :: us).toArray, by simp, .tup _ _ (by simpa using q2) (fun i a b e1 e2 => q3 i a b (by simpa using e1) e2)⟩
      | [], _ :: _, q2, _ => simp at q2
      | _ :: _, [], q2, _ => simp at q2
      | [_], _ :: _ :: _, q2, _ => simp at q2
      | _ :: _ :: _, [_], q2, _ => simp at q2
    obtain ⟨u, hv1, hv2⟩ := hrun
    have hrow : ∀ b r, (K ++ H'.map some)[b]? = some (some r) → getO (K ++ H'.map some) b = some r := fun b r e => getO_get.2 e
    have hsome : ∀ b r, (K ++ H'.map some)[b]? = some (some r) → (gO (K ++ H'.map some) b).isSome = true := fun b r e => by rw [gO_get, hrow b r e]; rfl
    have hcr : ∀ b p, (ρ2.cut B'.length (K ++ H'.map some)).r b = some p → ∃ r, (K ++ H'.map some)[b]? = some (some r) ∧ ρ2.r b = some p := fun b p e => by
      simp only [Env.cut] at e
      split at e
      · rename_i hsm
        rw [gO_get] at hsm
        obtain ⟨r, hr⟩ := Option.isSome_iff_exists.1 hsm
        exact ⟨r, getO_get.1 hr, e⟩
      · cases e
    have hcb : ∀ b g, (ρ2.cut B'.length (K ++ H'.map some)).b b = some g → b < B'.length ∧ ρ2.b b = some g := fun b g e => by
      simp only [Env.cut] at e
      split at e
      · exact ⟨by assumption, e⟩
      · cases e
    have hout : ∃ u' ρo Fo, Ending.returned u = .returned u' ∧ MOut w w' V F Fo ρ ρo B' K H' ∧ Rep ρo V0 Fo w' u' v := by
      refine ⟨u, ρ2.cut B'.length (K ++ H'.map some), F2, rfl, ⟨hs2.s.bel.os, hs2.s.bel.output, hs2.s.bel.grow, hs2.s.bel.block, fun x hx => g1 x (f1 x hx), fun x hx => (g2 x hx).elim (f2 x) .inr, hs2.s.fl, fun b c g e1 e2 => ?_, fun b r p e1 e2 => ?_, fun b r e => ?_, fun b hb => ?_, fun b p e => ?_, fun b b' p p' e1 e2 l1 l2 hq => ?_, fun b b' g p e1 e2 hlm => ?_⟩, mcT_rep mt (hle.rep hv2)⟩
      · have hb := (List.getElem?_eq_some_iff.1 e1).1
        have hid := idBs_get hib b hb
        rw [gT_get, Nat.zero_add] at hid
        have htm : Rep ρ2 V F2 w' _ (getT tm (1000000 + b)) := hs2.s.tm (1000000 + b)
        rw [hid] at htm
        have e3 : ρ2.b b = some g := by
          rw [htm.batt_inv, e2]; rfl
        have e4 : (ρ2.cut B'.length (K ++ H'.map some)).b b = some g := by simp only [Env.cut]; rw [if_pos hb]; exact e3
        obtain ⟨k1, k2, cs, T, k3, k4, k5⟩ := hs2.s.bx b c g (show getO (B'.map some) b = some c by rw [getO_map]; exact e1) e3
        exact ⟨e4, k1, fun h => h, k2, cs, T, k3, k4, fun i y av a1 a2 => mcC_rep (mb c (List.mem_of_getElem? e1) av (List.mem_of_getElem? a2)) (k5 i y av a1 a2)⟩
      · obtain ⟨r2, k1, k2⟩ := hcr b p e2
        exact ⟨nf b r e1, hs2.s.rw b r p (hrow b r e1) k2, hs2.s.lr b p k2⟩
      · have hb := (List.getElem?_eq_some_iff.1 e).1
        have hid := idRs_get hir b r e
        rw [gT_get, Nat.zero_add] at hid
        have htm : Rep ρ2 V F2 w' _ (getT tm (1100000 + b)) := hs2.s.tm (1100000 + b)
        rw [hid] at htm
        have e3 : ρ2.r b = ρ.r b := by
          rw [htm.ratt_inv]; exact (hpr b (by omega)).symm
        have e4 : (K ++ H'.map some)[b]? = some (some r) := by rw [List.getElem?_append_left hb]; exact e
        simp only [Env.cut]; rw [if_pos (hsome b r e4)]; exact e3
      · simp only [Env.cut]; rw [if_neg (by omega)]
      · obtain ⟨r, k1, _⟩ := hcr b p e; exact ⟨r, k1⟩
      · obtain ⟨r, k1, k2⟩ := hcr b p e1
        obtain ⟨r', j1, j2⟩ := hcr b' p' e2
        exact hs2.s.ir b b' p p' r r' k2 j2 (hrow b r k1) (hrow b' r' j1) (nf b r k1) (nf b' r' j1) l1 l2 hq
      · obtain ⟨r, k1, k2⟩ := hcr b' p e2
        exact hs2.s.ibr b b' g p (hcb b g e1).2 k2 hlm
    have hd := hs2.s.df
    rcases hx with rfl | rfl
    · exact ⟨hd, u, hv1, hout⟩
    · exact ⟨hd, u, hv1, hout⟩
end Go.Proofs.Ytiejnmbpejfpgaa
