/- Regions whose order is drawn: whatever order, the same state. -/
import Derived.Test.YtiejnmbpejfpgaaAx19
namespace Go.Proofs.Ytiejnmbpejfpgaa
open Go.RowKit
set_option linter.unusedVariables false

/-! ### What an operation changes -/
def UpIn (bx : Nat → Option (List AV)) (rw : Nat → Option ARow) (bb nb br nr : Nat) (eB eR : Bool) (u : Upd) : Prop :=
  match u with
  | .B b _ => (eB = true ∧ ∃ c, bx b = some c) ∨ (bb ≤ b ∧ b < bb + nb)
  | .R b _ => (eR = true ∧ ∃ c, rw b = some c) ∨ (br ≤ b ∧ b < br + nr)
theorem frzUp_in {rw : Nat → Option ARow} {ids : List Nat} (hi : ∀ b ∈ ids, ∃ r, rw b = some r) {u : Upd} (hu : u ∈ frzUp rw ids) : ∃ b r, u = .R b r ∧ ∃ c, rw b = some c := by
  obtain ⟨b, hb, rfl⟩ := List.mem_map.1 hu
  exact ⟨b, _, rfl, hi b hb⟩
theorem ai_up {bo : Bool} {L : Opd → AV} {bx : Nat → Option (List AV)} {rw : Nat → Option ARow} {bb br : Nat} {ai : AI} (hok : (aistep bo L bx rw bb br ai).ok) : ∀ u ∈ (aistep bo L bx rw bb br ai).up, UpIn bx rw bb (aistep bo L bx rw bb br ai).nb br (aistep bo L bx rw bb br ai).nr (wB ai) (wR ai) u := by
  cases ai with
  | newb cells => intro u hu; simp [aistep] at hu; subst hu; exact .inr ⟨Nat.le_refl _, Nat.lt_succ_self _⟩
  | newa cells => intro u hu; simp [aistep] at hu; subst hu; exact .inr ⟨Nat.le_refl _, Nat.lt_succ_self _⟩
  | box x => intro u hu; simp [aistep] at hu; subst hu; exact .inr ⟨Nat.le_refl _, Nat.lt_succ_self _⟩
  | boxa x =>
    simp only [aistep] at hok ⊢
    split at hok
    · intro u hu; simp at hu; subst hu; exact .inr ⟨Nat.le_refl _, Nat.lt_succ_self _⟩
    · exact hok.elim
  | bsl k xs =>
    simp only [aistep] at hok ⊢
    split at hok
    · rename_i es hes
      intro u hu
      rcases List.mem_append.1 hu with hu | hu
      · obtain ⟨b, r, rfl, hc⟩ := frzUp_in (fun b hb => by
          obtain ⟨x, hx, hbx⟩ := List.mem_flatMap.1 hb
          obtain ⟨hlen, hget⟩ := mapM_get hes
          obtain ⟨i, hi, e1⟩ := List.getElem_of_mem hx
          exact frzV_ids (hget i x _ (by rw [List.getElem?_eq_getElem hi, e1]) (List.getElem?_eq_getElem (by omega))) b hbx) hu
        exact .inl ⟨rfl, hc⟩
      · simp at hu; subst hu; exact .inr ⟨Nat.le_refl _, Nat.lt_succ_self _⟩
    · exact hok.elim
  | load g n a =>
    have e : ∀ cs, (loadC g n cs).up = [] := fun cs => by cases g <;> rfl
    intro u hu
    simp only [aistep] at hu
    split at hu <;> (try split at hu) <;> (first | (simp only [e] at hu; cases hu) | cases hu)
  | store n a x =>
    simp only [aistep] at hok ⊢
    split at hok
    · split at hok
      · rename_i cells hb; intro u hu; simp at hu; subst hu; exact .inl ⟨rfl, _, hb⟩
      · exact hok.elim
    · split at hok
      · rename_i r v' hb hz
        intro u hu
        rcases List.mem_append.1 hu with hu | hu
        · obtain ⟨b', r', rfl, hc⟩ := frzUp_in (frzV_ids hz) hu
          exact .inl ⟨rfl, hc⟩
        · simp at hu; subst hu; exact .inl ⟨rfl, _, hb⟩
      · exact hok.elim
    · split at hok
      · rename_i r l hb hl; intro u hu; simp at hu; subst hu; exact .inl ⟨rfl, _, hb⟩
      · exact hok.elim
    · exact hok.elim
  | mvL x =>
    simp only [aistep] at hok ⊢
    split at hok
    · split at hok
      · rename_i r hb; intro u hu; simp at hu; subst hu; exact .inl ⟨rfl, _, hb⟩
      · exact hok.elim
    · exact hok.elim
  | mks k by_ z x y =>
    simp only [aistep] at hok ⊢
    split at hok
    · intro u hu; simp at hu; subst hu; exact .inr ⟨Nat.le_refl _, Nat.lt_succ_self _⟩
    · exact hok.elim
  | app k by_ x y =>
    simp only [aistep] at hok ⊢
    split at hok
    · split at hok
      · intro u hu; simp at hu; subst hu; exact .inr ⟨Nat.le_refl _, Nat.lt_succ_self _⟩
      · split at hok
        · rename_i r hb
          intro u hu; simp at hu
          rcases hu with rfl | rfl
          · exact .inl ⟨rfl, _, hb⟩
          · exact .inr ⟨Nat.le_refl _, Nat.lt_succ_self _⟩
        · exact hok.elim
      · intro u hu; cases hu
      · split at hok
        · rename_i r hb
          intro u hu; simp at hu; subst hu; exact .inl ⟨rfl, _, hb⟩
        · exact hok.elim
      · exact hok.elim
    · exact hok.elim
  | appz k by_ z x y =>
    simp only [aistep] at hok ⊢
    split at hok
    · split at hok
      · intro u hu; simp at hu; subst hu; exact .inr ⟨Nat.le_refl _, Nat.lt_succ_self _⟩
      · exact hok.elim
    · exact hok.elim
  | cpy k x y =>
    simp only [aistep] at hok ⊢
    split at hok
    · split at hok
      · rename_i r hb; intro u hu; simp at hu; subst hu; exact .inl ⟨rfl, _, hb⟩
      · exact hok.elim
    · intro u hu; cases hu
    · exact hok.elim
  | clr k z x =>
    simp only [aistep] at hok ⊢
    split at hok
    · split at hok
      · rename_i r hb; intro u hu; simp at hu; subst hu; exact .inl ⟨rfl, _, hb⟩
      · exact hok.elim
    · intro u hu; cases hu
    · exact hok.elim
  | pick | build | fadr | fld | iadS | iadA | idxA | idxT | slS | slA | slT | ext | conv | b2s | s2b | not | neg | com | bin | binB | binT | eqA | mkf | nchk | lenV | capV | lenT | min | max | mvS | isN =>
    intro u hu
    exfalso
    simp only [aistep] at hu
    repeat' (first | (cases hu; done) | split at hu)
  | _ => intro u hu; cases hu
theorem rowsUp_in : ∀ (H : List ARow) (m : Nat), ∀ u ∈ rowsUp m H, ∃ b r, u = .R b r ∧ m ≤ b ∧ b < m + H.length
  | [], _, u, hu => by cases hu
  | r :: H, m, u, hu => by
    rcases List.mem_cons.1 hu with rfl | hu
    · exact ⟨m, _, rfl, Nat.le_refl _, by simp⟩
    · obtain ⟨b, r', h1, h2, h3⟩ := rowsUp_in H (m + 1) u hu
      exact ⟨b, r', h1, by omega, by simp; omega⟩
theorem opR_up {P : Program} {bo : Bool} {σ : FS} {bb br : Nat} {ai : AI} {r : Res} (h : OpR P bo σ bb br ai r) : ∀ u ∈ r.up, UpIn σ.bx σ.rw bb r.nb br r.nr (wB ai) (wR ai) u := by
  by_cases hc : isCall ai = true
  · cases ai <;> simp [isCall] at hc
    case call f xs =>
      obtain ⟨h1, args', v, H, _, h4, rfl⟩ := h
      intro u hu
      obtain ⟨b, r', rfl, h2, h3⟩ := rowsUp_in H br u hu
      exact .inr ⟨h2, h3⟩
    case callv x xs =>
      obtain ⟨h0, h1, f, caps, hf, args', v, H, h2, h3, h4, rfl⟩ := h
      intro u hu
      obtain ⟨b, r', rfl, h2, h3⟩ := rowsUp_in H br u hu
      exact .inr ⟨h2, h3⟩
  · have key : r = aistep bo (lookT σ.tm) σ.bx σ.rw bb br ai ∧ r.ok := by
      cases ai <;> first | exact h | (exact absurd rfl hc)
    obtain ⟨rfl, hok⟩ := key
    exact ai_up hok
theorem stepR_up {P : Program} {bo : Bool} {σ : FS} {bb br : Nat} {o : AO} {r : Res} (h : StepR P bo σ bb br o r) : ∀ u ∈ r.up, UpIn σ.bx σ.rw bb r.nb br r.nr (wB o.ai) (wR o.ai) u := by
  unfold StepR at h
  split at h
  · exact opR_up h
  · obtain ⟨G, _, r0, _, _, _, _, rfl⟩ := h
    intro u hu; cases hu

/-! ### Updates that do not meet -/
theorem ups_tm (σ : FS) : ∀ l : List Upd, (σ.ups l).tm = σ.tm := fun l => by
  induction l generalizing σ with
  | nil => rfl
  | cons u l ih => show ((σ.upd u).ups l).tm = _; rw [ih]; cases u <;> rfl
theorem ups_bx_ne {σ : FS} {l : List Upd} {b : Nat} (h : ∀ u ∈ l, ∀ b' c, u = .B b' c → b' ≠ b) : (σ.ups l).bx b = σ.bx b := by
  induction l generalizing σ with
  | nil => rfl
  | cons u l ih =>
    show ((σ.upd u).ups l).bx b = _
    rw [ih fun v hv => h v (List.mem_cons_of_mem _ hv)]
    cases u with
    | B b' c => have := h _ (List.mem_cons_self ..) b' c rfl; simp [FS.upd, FS.setB, Ne.symm this]
    | R b' c => rfl
theorem ups_rw_ne {σ : FS} {l : List Upd} {b : Nat} (h : ∀ u ∈ l, ∀ b' c, u = .R b' c → b' ≠ b) : (σ.ups l).rw b = σ.rw b := by
  induction l generalizing σ with
  | nil => rfl
  | cons u l ih =>
    show ((σ.upd u).ups l).rw b = _
    rw [ih fun v hv => h v (List.mem_cons_of_mem _ hv)]
    cases u with
    | R b' c => have := h _ (List.mem_cons_self ..) b' c rfl; simp [FS.upd, FS.setR, Ne.symm this]
    | B b' c => rfl
/-- What a list of updates leaves at a number hangs on what was there alone if it does not write it. -/
theorem ups_bx_at {σ τ : FS} {l : List Upd} {b : Nat} (h : σ.bx b = τ.bx b) : (σ.ups l).bx b = (τ.ups l).bx b := by
  induction l generalizing σ τ with
  | nil => exact h
  | cons u l ih =>
    refine ih (σ := σ.upd u) (τ := τ.upd u) ?_
    cases u with
    | B b' c => simp only [FS.upd, FS.setB]; split <;> first | rfl | exact h
    | R b' c => exact h
theorem ups_rw_at {σ τ : FS} {l : List Upd} {b : Nat} (h : σ.rw b = τ.rw b) : (σ.ups l).rw b = (τ.ups l).rw b := by
  induction l generalizing σ τ with
  | nil => exact h
  | cons u l ih =>
    refine ih (σ := σ.upd u) (τ := τ.upd u) ?_
    cases u with
    | R b' c => simp only [FS.upd, FS.setR]; split <;> first | rfl | exact h
    | B b' c => exact h
theorem FS.ext' {σ τ : FS} (h1 : ∀ t, σ.tm t = τ.tm t) (h2 : ∀ b, σ.bx b = τ.bx b) (h3 : ∀ b, σ.rw b = τ.rw b) : σ = τ := by
  cases σ; cases τ
  congr
  · exact funext h1
  · exact funext h2
  · exact funext h3
theorem put_tm (σ : FS) (d : Option Nat) (v : AV) (t : Nat) : (σ.put d v).tm t = if d = some t then v else σ.tm t := by
  cases d with
  | none => simp [FS.put]
  | some u => simp only [FS.put, Option.some.injEq]; by_cases h : t = u <;> simp [h, eq_comm]
theorem put_bx (σ : FS) (d : Option Nat) (v : AV) : (σ.put d v).bx = σ.bx ∧ (σ.put d v).rw = σ.rw := by cases d <;> exact ⟨rfl, rfl⟩

/-! ### The run in the order of the text -/
structure Trace (P : Program) (bo : Bool) (l : List AO) (T : Nat → FS) (r : Nat → Res) (bb br : Nat → Nat) : Prop where
  step : ∀ (i : Nat) (o : AO), l[i]? = some o → StepR P bo (T i) (bb i) (br i) o (r i) ∧ T (i + 1) = ((T i).ups (r i).up).put o.dst (r i).av ∧ bb (i + 1) = bb i + (r i).nb ∧ br (i + 1) = br i + (r i).nr
  b0 : ∀ b c, (T 0).bx b = some c → b < bb 0
  r0 : ∀ b c, (T 0).rw b = some c → b < br 0

section
variable {P : Program} {bo : Bool} {l : List AO} {T : Nat → FS} {r : Nat → Res} {bb br : Nat → Nat} (tr : Trace P bo l T r bb br)
include tr
theorem Trace.mono {i j : Nat} (hij : i ≤ j) (hj : j ≤ l.length) : bb i ≤ bb j ∧ br i ≤ br j := by
  induction j with
  | zero => have : i = 0 := by omega
            subst this; exact ⟨Nat.le_refl _, Nat.le_refl _⟩
  | succ j ih =>
    rcases Nat.lt_or_ge j i with h | h
    · have : i = j + 1 := by omega
      subst this; exact ⟨Nat.le_refl _, Nat.le_refl _⟩
    · obtain ⟨h1, h2⟩ := ih h (by omega)
      obtain ⟨_, _, h3, h4⟩ := tr.step j _ (List.getElem?_eq_getElem (show j < l.length by omega))
      omega
theorem Trace.bnd (i : Nat) (hi : i ≤ l.length) : (∀ b c, (T i).bx b = some c → b < bb i) ∧ (∀ b c, (T i).rw b = some c → b < br i) := by
  induction i with
  | zero => exact ⟨tr.b0, tr.r0⟩
  | succ i ih =>
    obtain ⟨h1, h2⟩ := ih (by omega)
    obtain ⟨s1, s2, s3, s4⟩ := tr.step i _ (List.getElem?_eq_getElem (show i < l.length by omega))
    have hup := stepR_up s1
    refine ⟨fun b c e => ?_, fun b c e => ?_⟩
    · rw [s2, (put_bx _ _ _).1] at e
      by_cases hb : b < bb (i + 1)
      · exact hb
      · rw [ups_bx_ne (fun u hu b' c' he => ?_)] at e
        · have := h1 b c e; omega
        · have := hup u hu; subst he
          rcases this with ⟨_, c2, h⟩ | h
          · have := h1 _ _ h; omega
          · omega
    · rw [s2, (put_bx _ _ _).2] at e
      by_cases hb : b < br (i + 1)
      · exact hb
      · rw [ups_rw_ne (fun u hu b' c' he => ?_)] at e
        · have := h2 b c e; omega
        · have := hup u hu; subst he
          rcases this with ⟨_, c2, h⟩ | h
          · have := h2 _ _ h; omega
          · omega
end

def isNew (bb br : Nat) : Upd → Bool
  | .B b _ => decide (bb ≤ b)
  | .R b _ => decide (br ≤ b)
/-- The state when the operations of S are done: what the others make is there, but nowhere. -/
def GS (l : List AO) (σ0 : FS) (r : Nat → Res) (bb br : Nat → Nat) (S : Nat → Bool) : Nat → FS
  | 0 => σ0
  | i + 1 => if S i then ((GS l σ0 r bb br S i).ups (r i).up).put ((l[i]?).bind (·.dst)) (r i).av else (GS l σ0 r bb br S i).ups ((r i).up.filter (isNew (bb i) (br i)))

/-- New rows, of a call's too. -/
def alC (ai : AI) : Bool := alR ai || isCall ai
theorem ai_num {bo : Bool} {L : Opd → AV} {bx : Nat → Option (List AV)} {rw : Nat → Option ARow} {bb br : Nat} {ai : AI} (hok : (aistep bo L bx rw bb br ai).ok) : (alB ai = false → (aistep bo L bx rw bb br ai).nb = 0) ∧ (alR ai = false → (aistep bo L bx rw bb br ai).nr = 0) := by
  have e : ∀ g n cs, (loadC g n cs).nb = 0 ∧ (loadC g n cs).nr = 0 := fun g n cs => by cases g <;> exact ⟨rfl, rfl⟩
  refine ⟨fun h => ?_, fun h => ?_⟩ <;> cases ai <;> first | (cases h; done) | rfl | skip
  all_goals
    simp only [aistep] at hok ⊢
    repeat' (first | rfl | exact (e _ _ _).1 | exact (e _ _ _).2 | exact hok.elim | split at hok)
theorem opR_num {P : Program} {bo : Bool} {σ : FS} {bb br : Nat} {ai : AI} {r : Res} (h : OpR P bo σ bb br ai r) : (alB ai = false → r.nb = 0) ∧ (alC ai = false → r.nr = 0) := by
  by_cases hc : isCall ai = true
  · refine ⟨fun _ => ?_, fun e => by simp [alC, hc] at e⟩
    cases ai <;> simp [isCall] at hc
    case call f xs => obtain ⟨h1, args', v, H, _, h4, rfl⟩ := h; rfl
    case callv x xs => obtain ⟨h0, h1, f, caps, hf, args', v, H, h2, h3, h4, rfl⟩ := h; rfl
  · have key : r = aistep bo (lookT σ.tm) σ.bx σ.rw bb br ai ∧ r.ok := by
      cases ai <;> first | exact h | (exact absurd rfl hc)
    obtain ⟨rfl, hok⟩ := key
    obtain ⟨h1, h2⟩ := ai_num hok
    exact ⟨h1, fun e => h2 (by simp [alC] at e; exact e.1)⟩
theorem stepR_num {P : Program} {bo : Bool} {σ : FS} {bb br : Nat} {o : AO} {r : Res} (h : StepR P bo σ bb br o r) : (alB o.ai = false → r.nb = 0) ∧ (alC o.ai = false → r.nr = 0) := by
  unfold StepR at h
  split at h
  · exact opR_num h
  · obtain ⟨G, _, r0, _, _, _, _, rfl⟩ := h
    exact ⟨fun _ => rfl, fun _ => rfl⟩

def apart (bo : Bool) (x y : AO) : Bool :=
  (match x.dst with | some d => !(y.looks.contains d) && y.dst != some d | none => true) && (match y.dst with | some d => !(x.looks.contains d) | none => true) &&
  !(wB x.ai && (uB y.ai || wB y.ai || alB y.ai)) && !(wB y.ai && (uB x.ai || wB x.ai || alB x.ai)) && !(wR x.ai && (uR bo y.ai || wR y.ai || alC y.ai)) && !(wR y.ai && (uR bo x.ai || wR x.ai || alC x.ai))
structure Apart (bo : Bool) (x y : AO) : Prop where
  d : ∀ d, x.dst = some d → d ∉ y.looks ∧ y.dst ≠ some d
  b : wB x.ai = true → uB y.ai = false ∧ wB y.ai = false ∧ alB y.ai = false
  r : wR x.ai = true → uR bo y.ai = false ∧ wR y.ai = false ∧ alC y.ai = false
theorem apart_spec {bo : Bool} {x y : AO} (h : apart bo x y = true) : Apart bo x y ∧ Apart bo y x := by
  simp only [apart, Bool.and_eq_true, Bool.not_eq_true', Bool.and_eq_false_iff, Bool.or_eq_false_iff] at h
  obtain ⟨⟨⟨⟨⟨h1, h2⟩, h3⟩, h4⟩, h5⟩, h6⟩ := h
  refine ⟨⟨fun d e => ?_, fun e => ?_, fun e => ?_⟩, ⟨fun d e => ?_, fun e => ?_, fun e => ?_⟩⟩
  · rw [e] at h1; simp at h1; exact h1
  · rcases h3 with h | h
    · rw [e] at h; cases h
    · exact ⟨h.1.1, h.1.2, h.2⟩
  · rcases h5 with h | h
    · rw [e] at h; cases h
    · exact ⟨h.1.1, h.1.2, h.2⟩
  · rw [e] at h2; simp at h2
    refine ⟨h2, fun e2 => ?_⟩
    rw [e2] at h1; simp at h1; exact h1.2 e
  · rcases h4 with h | h
    · rw [e] at h; cases h
    · exact ⟨h.1.1, h.1.2, h.2⟩
  · rcases h6 with h | h
    · rw [e] at h; cases h
    · exact ⟨h.1.1, h.1.2, h.2⟩

/-- Does the reader look at what u changes? -/
def Rd (bo : Bool) (o : AO) (σ : FS) : Upd → Prop
  | .B b _ => RdB (lookT σ.tm) o.ai b
  | .R b _ => RdR bo (lookT σ.tm) o.ai b
def meet : Upd → Upd → Prop
  | .B b _, .B c _ => b = c
  | .R b _, .R c _ => b = c
  | _, _ => False
def dapart (x y : AO) : Bool := (match x.dst with | some d => !(y.looks.contains d) && y.dst != some d | none => true) && (match y.dst with | some d => !(x.looks.contains d) | none => true)
/-- x at i and y behind it at j may change places. -/
structure Free (bo : Bool) (T : Nat → FS) (r : Nat → Res) (bb br : Nat → Nat) (i j : Nat) (x y : AO) : Prop where
  d : dapart x y = true
  u : ∀ u ∈ (r i).up, isNew (bb i) (br i) u = true ∨ ¬ Rd bo y (T j) u
  v : ∀ v ∈ (r j).up, isNew (bb j) (br j) v = true ∨ (¬ Rd bo x (T i) v ∧ ∀ u ∈ (r i).up, ¬ meet u v)
theorem dapart_spec {x y : AO} (h : dapart x y = true) : (∀ d, x.dst = some d → d ∉ y.looks ∧ y.dst ≠ some d) ∧ (∀ d, y.dst = some d → d ∉ x.looks ∧ x.dst ≠ some d) := by
  simp only [dapart, Bool.and_eq_true] at h
  obtain ⟨h1, h2⟩ := h
  refine ⟨fun d e => ?_, fun d e => ?_⟩
  · rw [e] at h1; simp at h1; exact h1
  · rw [e] at h2; simp at h2
    refine ⟨h2, fun e2 => ?_⟩
    rw [e2] at h1; simp at h1; exact h1.2 e
theorem free_of_apart {P : Program} {bo : Bool} {l : List AO} {T : Nat → FS} {r : Nat → Res} {bb br : Nat → Nat} (tr : Trace P bo l T r bb br) {i j : Nat} {x y : AO} (hx : l[i]? = some x) (hy : l[j]? = some y) (h : apart bo x y = true) : Free bo T r bb br i j x y := by
  obtain ⟨a1, a2⟩ := apart_spec h
  have hd : dapart x y = true := by simp only [apart, Bool.and_eq_true] at h; simp only [dapart, Bool.and_eq_true]; exact h.1.1.1.1
  have sx := (tr.step i x hx).1
  have sy := (tr.step j y hy).1
  have ux := stepR_up sx
  have uy := stepR_up sy
  have nx := stepR_num sx
  refine ⟨hd, fun u hu => ?_, fun v hv => ?_⟩
  · cases u with
    | B b c =>
      rcases ux _ hu with ⟨e, _⟩ | e
      · exact .inr fun q => by have := rdB_uB q; rw [(a1.b e).1] at this; cases this
      · exact .inl (by simp [isNew]; exact e.1)
    | R b c =>
      rcases ux _ hu with ⟨e, _⟩ | e
      · exact .inr fun q => by have := rdR_uR q; rw [(a1.r e).1] at this; cases this
      · exact .inl (by simp [isNew]; exact e.1)
  · cases v with
    | B b c =>
      rcases uy _ hv with ⟨e, _⟩ | e
      · obtain ⟨k1, k2, k3⟩ := a2.b e
        refine .inr ⟨fun q => (by have := rdB_uB q; rw [k1] at this; cases this), fun u hu hm => ?_⟩
        cases u with
        | R _ _ => exact hm
        | B b' c' =>
          rcases ux _ hu with ⟨e', _⟩ | e'
          · rw [k2] at e'; cases e'
          · have := nx.1 k3; omega
      · exact .inl (by simp [isNew]; exact e.1)
    | R b c =>
      rcases uy _ hv with ⟨e, _⟩ | e
      · obtain ⟨k1, k2, k3⟩ := a2.r e
        refine .inr ⟨fun q => (by have := rdR_uR q; rw [k1] at this; cases this), fun u hu hm => ?_⟩
        cases u with
        | B _ _ => exact hm
        | R b' c' =>
          rcases ux _ hu with ⟨e', _⟩ | e'
          · rw [k2] at e'; cases e'
          · have := nx.2 k3; omega
      · exact .inl (by simp [isNew]; exact e.1)

section
variable {P : Program} {bo : Bool} {l : List AO} {T : Nat → FS} {r : Nat → Res} {bb br : Nat → Nat} (tr : Trace P bo l T r bb br) {S : Nat → Bool}
include tr
/-- All done. -/
theorem GS_all (hS : ∀ i, i < l.length → S i = true) (n : Nat) (hn : n ≤ l.length) : (GS l (T 0) r bb br) S n = T n := by
  induction n with
  | zero => rfl
  | succ n ih =>
    have e := List.getElem?_eq_getElem (show n < l.length by omega)
    obtain ⟨_, s2, _, _⟩ := tr.step n _ e
    simp only [GS]
    rw [if_pos (hS n (by omega)), ih (by omega), e, s2]; rfl
/-- None done: nothing that is somewhere has changed. -/
theorem GS_none (hS : ∀ i, i < l.length → S i = false) (n : Nat) (hn : n ≤ l.length) : ((GS l (T 0) r bb br) S n).tm = (T 0).tm ∧ (∀ b, b < bb 0 → ((GS l (T 0) r bb br) S n).bx b = (T 0).bx b) ∧ (∀ b, b < br 0 → ((GS l (T 0) r bb br) S n).rw b = (T 0).rw b) := by
  induction n with
  | zero => exact ⟨rfl, fun _ _ => rfl, fun _ _ => rfl⟩
  | succ n ih =>
    obtain ⟨h1, h2, h3⟩ := ih (by omega)
    have hm := tr.mono (Nat.zero_le n) (by omega)
    simp only [GS]
    rw [if_neg (by rw [hS n (by omega)]; simp)]
    refine ⟨by rw [ups_tm, h1], fun b hb => ?_, fun b hb => ?_⟩
    · rw [ups_bx_ne (fun u hu b' c he => ?_), h2 b hb]
      obtain ⟨_, hnew⟩ := List.mem_filter.1 hu
      subst he; simp [isNew] at hnew; omega
    · rw [ups_rw_ne (fun u hu b' c he => ?_), h3 b hb]
      obtain ⟨_, hnew⟩ := List.mem_filter.1 hu
      subst he; simp [isNew] at hnew; omega
end
end Go.Proofs.Ytiejnmbpejfpgaa
