/- Regions whose order is drawn, with one call that own memory is handed over to: whatever order, the same state. -/
import Derived.Test.YtiejnmbpejfpgaaAx30
namespace Go.Proofs.Ytiejnmbpejfpgaa
open Go.RowKit
set_option linter.unusedVariables false

/-- An operation that does not look at rows. -/
def rwFree (L : Opd → AV) : AI → Bool
  | .mv _ => true
  | .bin _ _ _ => true
  | .load _ _ a => match (L a).val with | .bptr .. => true | _ => false
  | .store _ a _ => match (L a).val with | .bptr .. => true | _ => false
  | _ => false
theorem rwFree_eq {bo : Bool} {L : Opd → AV} {bx : Nat → Option (List AV)} {rw rw' : Nat → Option ARow} {bb br : Nat} {ai : AI} (h : rwFree L ai = true) : aistep bo L bx rw bb br ai = aistep bo L bx rw' bb br ai := by
  cases ai <;> first | (cases h; done) | rfl | skip
  all_goals
    simp only [rwFree] at h
    split at h
    · rename_i e
      simp only [aistep, e]
    · cases h
theorem rwFree_up {bo : Bool} {L : Opd → AV} {bx : Nat → Option (List AV)} {rw : Nat → Option ARow} {bb br : Nat} {ai : AI} (h : rwFree L ai = true) (hok : (aistep bo L bx rw bb br ai).ok) : ∀ u ∈ (aistep bo L bx rw bb br ai).up, ∃ b d, u = .B b d := by
  have e : ∀ g n cs, (loadC g n cs).up = [] := fun g n cs => by cases g <;> rfl
  cases ai <;> first | (cases h; done) | skip
  case mv x => intro u hu; cases hu
  case bin o x y =>
    intro u hu
    exfalso
    simp only [aistep] at hu
    repeat' (first | (cases hu; done) | split at hu)
  case load g n a =>
    simp only [rwFree] at h
    split at h
    · rename_i ea
      intro u hu
      simp only [aistep, ea] at hu
      split at hu <;> first | (simp only [e] at hu; cases hu) | cases hu
    · cases h
  case store n a x =>
    simp only [rwFree] at h
    split at h
    · rename_i ea
      intro u hu
      simp only [aistep, ea] at hu hok
      split at hu
      · simp at hu; exact ⟨_, _, hu⟩
      · rename_i hn; rw [hn] at hok; exact hok.elim
    · cases h
theorem rwFree_nc {L : Opd → AV} {ai : AI} (h : rwFree L ai = true) : isCall ai = false := by cases ai <;> first | rfl | (cases h; done)
theorem free_of2 {P : Program} {bo : Bool} {T : Nat → FS} {r : Nat → Res} {bb br : Nat → Nat} {i j : Nat} {x y : AO} (sx : StepR P bo (T i) (bb i) (br i) x (r i)) (sy : StepR P bo (T j) (bb j) (br j) y (r j)) (h : apart bo x y = true) : Free bo T r bb br i j x y := by
  obtain ⟨a1, a2⟩ := apart_spec h
  have hd : dapart x y = true := by simp only [apart, Bool.and_eq_true] at h; simp only [dapart, Bool.and_eq_true]; exact h.1.1.1.1
  have ux := stepR_up sx
  have uy := stepR_up sy
  have nx := stepR_num sx
  refine ⟨hd, fun u hu => ?_, fun v hv => ?_⟩
  · cases u with
    | B b c =>
      rcases ux _ hu with ⟨e, _⟩ | e
      · exact .inr fun q => by have := rdB_uB q; rw [(a1.b e).1] at this; cases this
      · exact .inl (by simp [isNew]; exact e.1)
    | R b c =>
      rcases ux _ hu with ⟨e, _⟩ | e
      · exact .inr fun q => by have := rdR_uR q; rw [(a1.r e).1] at this; cases this
      · exact .inl (by simp [isNew]; exact e.1)
  · cases v with
    | B b c =>
      rcases uy _ hv with ⟨e, _⟩ | e
      · obtain ⟨k1, k2, k3⟩ := a2.b e
        refine .inr ⟨fun q => (by have := rdB_uB q; rw [k1] at this; cases this), fun u hu hm => ?_⟩
        cases u with
        | R _ _ => exact hm
        | B b' c' =>
          rcases ux _ hu with ⟨e', _⟩ | e'
          · rw [k2] at e'; cases e'
          · have := nx.1 k3; omega
      · exact .inl (by simp [isNew]; exact e.1)
    | R b c =>
      rcases uy _ hv with ⟨e, _⟩ | e
      · obtain ⟨k1, k2, k3⟩ := a2.r e
        refine .inr ⟨fun q => (by have := rdR_uR q; rw [k1] at this; cases this), fun u hu hm => ?_⟩
        cases u with
        | B _ _ => exact hm
        | R b' c' =>
          rcases ux _ hu with ⟨e', _⟩ | e'
          · rw [k2] at e'; cases e'
          · have := nx.2 k3; omega
      · exact .inl (by simp [isNew]; exact e.1)

structure TraceM (P : Program) (l : List AO) (T : Nat → FS) (r : Nat → Res) (bb br : Nat → Nat) (c : Nat) : Prop where
  nxt : ∀ (i : Nat) (o : AO), l[i]? = some o → T (i + 1) = ((T i).ups (r i).up).put o.dst (r i).av ∧ bb (i + 1) = bb i + (r i).nb ∧ br (i + 1) = br i + (r i).nr
  up : ∀ (i : Nat) (o : AO), l[i]? = some o → ∀ u ∈ (r i).up, UpIn (T i).bx (T i).rw (bb i) (r i).nb (br i) (r i).nr true true u
  st : ∀ (i : Nat) (o : AO), l[i]? = some o → i ≠ c → StepR P false (T i) (bb i) (br i) o (r i) ∧ o.g = none ∧ rwFree (lookT (T i).tm) o.ai = true
  uB : ∀ (i : Nat) (o : AO), l[i]? = some o → i ≠ c → ∀ u ∈ (r i).up, ∃ b d, u = .B b d
  uR : ∀ u ∈ (r c).up, ∃ b d, u = .R b d
  b0 : ∀ b d, (T 0).bx b = some d → b < bb 0
  r0 : ∀ b d, (T 0).rw b = some d → b < br 0

section
variable {P : Program} {l : List AO} {T : Nat → FS} {r : Nat → Res} {bb br : Nat → Nat} {c : Nat} (tr : TraceM P l T r bb br c)
include tr
theorem TraceM.mono {i j : Nat} (hij : i ≤ j) (hj : j ≤ l.length) : bb i ≤ bb j ∧ br i ≤ br j := by
  induction j with
  | zero => have : i = 0 := by omega
            subst this; exact ⟨Nat.le_refl _, Nat.le_refl _⟩
  | succ j ih =>
    rcases Nat.lt_or_ge j i with h | h
    · have : i = j + 1 := by omega
      subst this; exact ⟨Nat.le_refl _, Nat.le_refl _⟩
    · obtain ⟨h1, h2⟩ := ih h (by omega)
      obtain ⟨_, h3, h4⟩ := tr.nxt j _ (List.getElem?_eq_getElem (show j < l.length by omega))
      omega
theorem TraceM.bnd (i : Nat) (hi : i ≤ l.length) : (∀ b c, (T i).bx b = some c → b < bb i) ∧ (∀ b c, (T i).rw b = some c → b < br i) := by
  induction i with
  | zero => exact ⟨tr.b0, tr.r0⟩
  | succ i ih =>
    obtain ⟨h1, h2⟩ := ih (by omega)
    obtain ⟨s2, s3, s4⟩ := tr.nxt i _ (List.getElem?_eq_getElem (show i < l.length by omega))
    have hup := tr.up i _ (List.getElem?_eq_getElem (show i < l.length by omega))
    refine ⟨fun b c e => ?_, fun b c e => ?_⟩
    · rw [s2, (put_bx _ _ _).1] at e
      by_cases hb : b < bb (i + 1)
      · exact hb
      · rw [ups_bx_ne (fun u hu b' c' he => ?_)] at e
        · have := h1 b c e; omega
        · have := hup u hu; subst he
          rcases this with ⟨_, c2, h⟩ | h
          · have := h1 _ _ h; omega
          · omega
    · rw [s2, (put_bx _ _ _).2] at e
      by_cases hb : b < br (i + 1)
      · exact hb
      · rw [ups_rw_ne (fun u hu b' c' he => ?_)] at e
        · have := h2 b c e; omega
        · have := hup u hu; subst he
          rcases this with ⟨_, c2, h⟩ | h
          · have := h2 _ _ h; omega
          · omega
end

section
variable {P : Program} {l : List AO} {T : Nat → FS} {r : Nat → Res} {bb br : Nat → Nat} {c : Nat} (tr : TraceM P l T r bb br c) {S : Nat → Bool}
include tr
/-- All done. -/
theorem GSM_all (hS : ∀ i, i < l.length → S i = true) (n : Nat) (hn : n ≤ l.length) : (GS l (T 0) r bb br) S n = T n := by
  induction n with
  | zero => rfl
  | succ n ih =>
    have e := List.getElem?_eq_getElem (show n < l.length by omega)
    obtain ⟨s2, _, _⟩ := tr.nxt n _ e
    simp only [GS]
    rw [if_pos (hS n (by omega)), ih (by omega), e, s2]; rfl
/-- None done: nothing that is somewhere has changed. -/
theorem GSM_none (hS : ∀ i, i < l.length → S i = false) (n : Nat) (hn : n ≤ l.length) : ((GS l (T 0) r bb br) S n).tm = (T 0).tm ∧ (∀ b, b < bb 0 → ((GS l (T 0) r bb br) S n).bx b = (T 0).bx b) ∧ (∀ b, b < br 0 → ((GS l (T 0) r bb br) S n).rw b = (T 0).rw b) := by
  induction n with
  | zero => exact ⟨rfl, fun _ _ => rfl, fun _ _ => rfl⟩
  | succ n ih =>
    obtain ⟨h1, h2, h3⟩ := ih (by omega)
    have hm := tr.mono (Nat.zero_le n) (by omega)
    simp only [GS]
    rw [if_neg (by rw [hS n (by omega)]; simp)]
    refine ⟨by rw [ups_tm, h1], fun b hb => ?_, fun b hb => ?_⟩
    · rw [ups_bx_ne (fun u hu b' c he => ?_), h2 b hb]
      obtain ⟨_, hnew⟩ := List.mem_filter.1 hu
      subst he; simp [isNew] at hnew; omega
    · rw [ups_rw_ne (fun u hu b' c he => ?_), h3 b hb]
      obtain ⟨_, hnew⟩ := List.mem_filter.1 hu
      subst he; simp [isNew] at hnew; omega
end
section
variable {P : Program} {l : List AO} {T : Nat → FS} {r : Nat → Res} {bb br : Nat → Nat} {c : Nat} (tr : TraceM P l T r bb br c) {bef : Nat → List Nat}
  (ind : ∀ (i j : Nat) (x y : AO), i < j → l[i]? = some x → l[j]? = some y → i ∈ bef j ∨ (dapart x y = true ∧ (i ≠ c → j ≠ c → Free false T r bb br i j x y))) {S : Nat → Bool} (cl : ∀ i, S i = true → ∀ k ∈ bef i, S k = true) {j : Nat} {y : AO} (hj : l[j]? = some y) (hSj : S j = false) (hb : ∀ k ∈ bef j, S k = true)
include tr ind hb
omit cl hSj tr in
/-- Ahead of j. -/
theorem aheadM {i : Nat} {x : AO} (hi : i < j) (hx : l[i]? = some x) (hj : l[j]? = some y) : S i = true ∨ (dapart x y = true ∧ (i ≠ c → j ≠ c → Free false T r bb br i j x y)) := by
  rcases ind i j x y hi hx hj with h | h
  · exact .inl (hb i h)
  · exact .inr h
include cl hSj
omit tr hb in
/-- Behind j. -/
theorem behindM {i : Nat} {x : AO} (hi : j < i) (hx : l[i]? = some x) (hj : l[j]? = some y) (hS : S i = true) : dapart y x = true ∧ (j ≠ c → i ≠ c → Free false T r bb br j i y x) := by
  rcases ind j i y x hi hj hx with h | h
  · have := cl i hS j h; rw [hSj] at this; cases this
  · exact h

theorem gsM_tm (hj : l[j]? = some y) {t : Nat} (ht : t ∈ y.looks) : ((GS l (T 0) r bb br) S l.length).tm t = (T j).tm t := by
  have hjl := (List.getElem?_eq_some_iff.1 hj).1
  have h1 : ∀ i, i ≤ j → ((GS l (T 0) r bb br) S i).tm t = (T i).tm t := fun i hi => by
    induction i with
    | zero => rfl
    | succ i ih =>
      have hx := List.getElem?_eq_getElem (show i < l.length by omega)
      obtain ⟨s2, _, _⟩ := tr.nxt i _ hx
      have ih' := ih (by omega)
      simp only [GS]
      rw [s2, put_tm, ups_tm]
      split
      · rw [put_tm, ups_tm, hx, Option.bind_some, ih']
      · rename_i hSi
        rw [ups_tm, ih']
        rcases aheadM ind hb (show i < j by omega) hx hj with h | h
        · exact absurd h hSi
        · rw [if_neg fun e => ((dapart_spec h.1).1 t e).1 ht]
  have h2 : ∀ m, j ≤ m → m ≤ l.length → ((GS l (T 0) r bb br) S m).tm t = (T j).tm t := fun m h0 hm => by
    induction m with
    | zero => rw [h1 0 (by omega), show j = 0 by omega]
    | succ m ih =>
      rcases Nat.lt_or_ge m j with hlt | hge
      · rw [h1 (m + 1) (by omega), show m + 1 = j by omega]
      · have hx := List.getElem?_eq_getElem (show m < l.length by omega)
        simp only [GS]
        split
        · rename_i hSm
          rw [put_tm, ups_tm, ih hge (by omega), hx, Option.bind_some]
          have hne : m ≠ j := by rintro rfl; rw [hSj] at hSm; cases hSm
          have := behindM ind cl hSj (show j < m by omega) hx hj hSm
          rw [if_neg fun e => ((dapart_spec this.1).2 t e).1 ht]
        · rw [ups_tm, ih hge (by omega)]
  exact h2 l.length (by omega) (Nat.le_refl _)

theorem gsM_bx (hj : l[j]? = some y) (hjc : j ≠ c) : SubAt (RdB (lookT (T j).tm) y.ai) (T j).bx ((GS l (T 0) r bb br) S l.length).bx := by
  intro b hb0
  have hjl := (List.getElem?_eq_some_iff.1 hj).1
  have h1 : ∀ i, i ≤ j → ((GS l (T 0) r bb br) S i).bx b = (T i).bx b := fun i hi => by
    induction i with
    | zero => rfl
    | succ i ih =>
      have hx := List.getElem?_eq_getElem (show i < l.length by omega)
      obtain ⟨s2, _, _⟩ := tr.nxt i _ hx
      simp only [GS]
      rw [s2, (put_bx _ _ _).1]
      split
      · rw [(put_bx _ _ _).1]; exact ups_bx_at (ih (by omega))
      · rename_i hSi
        rw [ups_bx_filter]
        · exact ups_bx_at (ih (by omega))
        · rintro u hu' ⟨d, rfl⟩
          rcases aheadM ind hb (show i < j by omega) hx hj with h | h
          · exact absurd h hSi
          · by_cases hic : i = c
            · subst hic
              obtain ⟨_, _, e⟩ := tr.uR _ hu'; cases e
            · exact ((h.2 hic hjc).u _ hu').elim id fun q => absurd hb0 q
  have h2 : ∀ m, j ≤ m → m ≤ l.length → b < bb j → ((GS l (T 0) r bb br) S m).bx b = (T j).bx b := fun m h0 hm hbj => by
    induction m with
    | zero => rw [h1 0 (by omega), show j = 0 by omega]
    | succ m ih =>
      rcases Nat.lt_or_ge m j with hlt | hge
      · rw [h1 (m + 1) (by omega), show m + 1 = j by omega]
      · have hx := List.getElem?_eq_getElem (show m < l.length by omega)
        obtain ⟨s2, _, _⟩ := tr.nxt m _ hx
        have hm1 := (tr.mono hge (by omega)).1
        simp only [GS]
        split
        · rename_i hSm
          have hne : m ≠ j := by rintro rfl; rw [hSj] at hSm; cases hSm
          have h := behindM ind cl hSj (show j < m by omega) hx hj hSm
          rw [(put_bx _ _ _).1, ups_bx_ne, ih hge (by omega)]
          rintro u hu' b' d rfl rfl
          by_cases hmc : m = c
          · subst hmc
            obtain ⟨_, _, e⟩ := tr.uR _ hu'; cases e
          · rcases (h.2 hjc hmc).v _ hu' with e | e
            · simp [isNew] at e; omega
            · exact e.1 hb0
        · rw [ups_bx_ne, ih hge (by omega)]
          rintro u hu' b' d rfl rfl
          have := (List.mem_filter.1 hu').2
          simp [isNew] at this; omega
  intro d e
  rw [h2 l.length (by omega) (Nat.le_refl _) ((tr.bnd j (by omega)).1 b d e)]; exact e
omit cl in
/-- What the call finds of rows. -/
theorem gsM_rw (hc : j = c) (hjl : j < l.length) : ∀ b, b < br j → ((GS l (T 0) r bb br) S l.length).rw b = (T j).rw b := by
  subst hc
  have h1 : ∀ i, i ≤ j → (T i).rw = (T 0).rw := fun i hi => by
    induction i with
    | zero => rfl
    | succ i ih =>
      have hx := List.getElem?_eq_getElem (show i < l.length by omega)
      obtain ⟨s2, _, _⟩ := tr.nxt i _ hx
      rw [s2, (put_bx _ _ _).2]
      funext b
      rw [ups_rw_ne (fun u hu b' d he _ => by obtain ⟨_, _, e⟩ := tr.uB i _ hx (by omega) u hu; rw [he] at e; cases e), ih (by omega)]
  intro b hbj
  have h2 : ∀ m, m ≤ l.length → ((GS l (T 0) r bb br) S m).rw b = (T 0).rw b := fun m hm => by
    induction m with
    | zero => rfl
    | succ m ih =>
      have hx := List.getElem?_eq_getElem (show m < l.length by omega)
      simp only [GS]
      by_cases hmj : m = j
      · subst hmj
        rw [if_neg (by rw [hSj]; simp), ups_rw_ne, ih (by omega)]
        rintro u hu' b' d rfl rfl
        have := (List.mem_filter.1 hu').2
        simp [isNew] at this; omega
      · split
        · rw [(put_bx _ _ _).2, ups_rw_ne (fun u hu b' d he _ => by obtain ⟨_, _, e⟩ := tr.uB m _ hx hmj u hu; rw [he] at e; cases e), ih (by omega)]
        · rw [ups_rw_ne (fun u hu b' d he _ => by obtain ⟨_, _, e⟩ := tr.uB m _ hx hmj u (List.mem_filter.1 hu).1; rw [he] at e; cases e), ih (by omega)]
  rw [h2 _ (Nat.le_refl _), h1 j (Nat.le_refl _)]

/-- j done, too. -/
theorem gsM_done (hj : l[j]? = some y) : (((GS l (T 0) r bb br) S l.length).ups (r j).up).put y.dst (r j).av = (GS l (T 0) r bb br) (fun i => S i || i == j) l.length := by
  have hjl := (List.getElem?_eq_some_iff.1 hj).1
  obtain ⟨sj2, sj3, sj4⟩ := tr.nxt j y hj
  have hupj := tr.up j y hj
  have hbnd := tr.bnd j (by omega)
  have h1 : ∀ i, i ≤ j → (GS l (T 0) r bb br) (fun i => S i || i == j) i = (GS l (T 0) r bb br) S i := fun i hi => by
    induction i with
    | zero => rfl
    | succ i ih =>
      simp only [GS]
      rw [ih (by omega)]
      have : (i == j) = false := by simp; omega
      simp only [this, Bool.or_false]
  -- the numbers of j's updates
  have nB : ∀ b, (∃ u ∈ (r j).up, ∃ d, u = Upd.B b d) → b < bb (j + 1) := by
    rintro b ⟨u, hu, d, rfl⟩
    rcases hupj _ hu with ⟨e, c2, h⟩ | e
    · have := hbnd.1 b c2 h; omega
    · omega
  have nR : ∀ b, (∃ u ∈ (r j).up, ∃ d, u = Upd.R b d) → b < br (j + 1) := by
    rintro b ⟨u, hu, d, rfl⟩
    rcases hupj _ hu with ⟨e, c2, h⟩ | e
    · have := hbnd.2 b c2 h; omega
    · omega
  have h2 : ∀ m, j + 1 ≤ m → m ≤ l.length → (GS l (T 0) r bb br) (fun i => S i || i == j) m = (((GS l (T 0) r bb br) S m).ups (r j).up).put y.dst (r j).av := fun m h0 hm => by
    induction m with
    | zero => omega
    | succ m ih =>
      rcases Nat.lt_or_ge m (j + 1) with hlt | hge
      · have hmj : m = j := by omega
        subst hmj
        simp only [GS]
        rw [if_pos (by simp), if_neg (by rw [hSj]; simp), h1 m (Nat.le_refl _), hj, Option.bind_some]
        congr 1
        refine FS.ext' (fun t => by simp only [ups_tm]) (fun b => ?_) (fun b => ?_)
        · by_cases ht : ∃ u ∈ (r m).up, ∃ d, u = Upd.B b d
          · exact ups_bx_touch ht
          · refine ups_bx_at (ups_bx_ne fun u hu b' d e he => ht ⟨u, (List.mem_filter.1 hu).1, d, by rw [e, he]⟩).symm
        · by_cases ht : ∃ u ∈ (r m).up, ∃ d, u = Upd.R b d
          · exact ups_rw_touch ht
          · refine ups_rw_at (ups_rw_ne fun u hu b' d e he => ht ⟨u, (List.mem_filter.1 hu).1, d, by rw [e, he]⟩).symm
      · have hx := List.getElem?_eq_getElem (show m < l.length by omega)
        have hmono := tr.mono hge (by omega)
        have hne : (m == j) = false := by simp; omega
        simp only [GS]
        rw [ih hge (by omega)]
        simp only [hne, Bool.or_false]
        split
        · rename_i hSm
          have fr := behindM ind cl hSj (show j < m by omega) hx hj hSm
          rw [hx, Option.bind_some, put_ups, put_ups, put_put_comm _ _ _ _ _ (fun t e => ((dapart_spec fr.1).1 t e).2)]
          congr 2
          refine ups_comm (fun b hb1 hb2 => ?_) (fun b hb1 hb2 => ?_)
          · have q1 := nB b hb1
            obtain ⟨u, hu, d, rfl⟩ := hb2
            obtain ⟨u', hu', d', rfl⟩ := hb1
            by_cases hjc : j = c
            · subst hjc
              obtain ⟨_, _, e1⟩ := tr.uR _ hu'
              obtain ⟨_, _, e2⟩ := tr.uB m _ hx (by omega) _ hu
              cases e1 <;> cases e2
            · by_cases hmc : m = c
              · subst hmc
                obtain ⟨_, _, e1⟩ := tr.uR _ hu
                obtain ⟨_, _, e2⟩ := tr.uB j _ hj hjc _ hu'
                cases e1 <;> cases e2
              · rcases (fr.2 hjc hmc).v _ hu with e | e
                · simp [isNew] at e; omega
                · exact e.2 _ hu' rfl
          · have q1 := nR b hb1
            obtain ⟨u, hu, d, rfl⟩ := hb2
            obtain ⟨u', hu', d', rfl⟩ := hb1
            by_cases hjc : j = c
            · subst hjc
              obtain ⟨_, _, e1⟩ := tr.uR _ hu'
              obtain ⟨_, _, e2⟩ := tr.uB m _ hx (by omega) _ hu
              cases e1 <;> cases e2
            · by_cases hmc : m = c
              · subst hmc
                obtain ⟨_, _, e1⟩ := tr.uR _ hu
                obtain ⟨_, _, e2⟩ := tr.uB j _ hj hjc _ hu'
                cases e1 <;> cases e2
              · rcases (fr.2 hjc hmc).v _ hu with e | e
                · simp [isNew] at e; omega
                · exact e.2 _ hu' rfl
        · rw [put_ups]
          congr 1
          refine ups_comm (fun b hb1 hb2 => ?_) (fun b hb1 hb2 => ?_)
          · have q1 := nB b hb1
            obtain ⟨u, hu, d, rfl⟩ := hb2
            have := (List.mem_filter.1 hu).2
            simp [isNew] at this; omega
          · have q1 := nR b hb1
            obtain ⟨u, hu, d, rfl⟩ := hb2
            have := (List.mem_filter.1 hu).2
            simp [isNew] at this; omega
  exact (h2 l.length (by omega) (Nat.le_refl _)).symm
/-- The step of j, from there. -/
theorem gsM_step (hj : l[j]? = some y) (hjc : j ≠ c) : StepR P false ((GS l (T 0) r bb br) S l.length) (bb j) (br j) y (r j) := by
  obtain ⟨h1, h2, h3⟩ := tr.st j y hj hjc
  have htm : ∀ t ∈ y.looks, ((GS l (T 0) r bb br) S l.length).tm t = (T j).tm t := fun t ht => gsM_tm tr ind cl hSj hb hj ht
  have h4 : StepR P false ⟨((GS l (T 0) r bb br) S l.length).tm, ((GS l (T 0) r bb br) S l.length).bx, (T j).rw⟩ (bb j) (br j) y (r j) :=
    stepR_mono (σ' := ⟨_, _, _⟩) htm (gsM_bx tr ind cl hSj hb hj hjc) (fun b _ d e => e) h1
  have hL : ∀ x ∈ opds y.ai, lookT ((GS l (T 0) r bb br) S l.length).tm x = lookT (T j).tm x := fun x hx => by
    cases x with
    | tmp t => exact htm t (List.mem_append_left _ (by simp only [tmps, List.mem_filterMap]; exact ⟨_, hx, rfl⟩))
    | _ => rfl
  have h5 : rwFree (lookT ((GS l (T 0) r bb br) S l.length).tm) y.ai = true := by
    revert h3 hL
    cases y.ai <;> intro h3 hL <;> first | exact h3 | (simp only [rwFree] at h3 ⊢; rw [hL _ (by simp [opds])]; exact h3)
  have hnc := rwFree_nc h5
  unfold StepR at h4 ⊢
  rw [h2] at h4 ⊢
  dsimp only at h4 ⊢
  revert h4 h5 hnc
  cases y.ai <;> intro h4 h5 hnc <;> first | (cases hnc; done) | (simp only [OpR] at h4 ⊢; rw [rwFree_eq (rw' := (T j).rw) h5]; exact h4)
end
/-- An argument that is a row handed over, or a number. -/
def plainX (mr : List Nat) : AV → Bool
  | .int _ _ => true
  | .ref b _ _ _ => mr.contains b
  | _ => false
theorem ixOf_mem {mr : List Nat} {b : Nat} (h : b ∈ mr) : ∃ i, ixOf mr b = some i := by
  cases e : ixOf mr b with
  | some i => exact ⟨i, rfl⟩
  | none => exact absurd h (ixOf_none e)
theorem hndF_plain {mr : List Nat} {bx bx' : Nat → Option (List AV)} {rw rw' : Nat → Option ARow} {x : AV} (h : plainX mr x = true) : hndF [] mr bx rw x = hndF [] mr bx' rw' x := by
  cases x <;> first | (cases h; done) | rfl | skip
  rename_i b k lo n
  obtain ⟨i, hi⟩ := ixOf_mem (mr := mr) (b := b) (by simpa [plainX] using h)
  simp only [hndF, hndV, hndC, hi]
theorem hrs_at {rw rw' : Nat → Option ARow} : ∀ {mr : List Nat} {H : List ARow}, (∀ b ∈ mr, rw' b = rw b) → HRs rw mr H → HRs rw' mr H
  | [], [], _, h => h
  | m :: mr, r :: H, e, h => ⟨by rw [e m (List.mem_cons_self ..)]; exact h.1, hrs_at (fun b hb => e b (List.mem_cons_of_mem _ hb)) h.2⟩
  | [], _ :: _, _, h => h
  | _ :: _, [], _, h => h
theorem hrs_some {rw : Nat → Option ARow} : ∀ {mr : List Nat} {H : List ARow}, HRs rw mr H → ∀ b ∈ mr, ∃ r, rw b = some r
  | m :: mr, r :: H, h, b, hb => by
    rcases List.mem_cons.1 hb with rfl | hb
    · exact ⟨_, h.1.1⟩
    · exact hrs_some h.2 b hb
  | [], _, _, b, hb => by cases hb
  | _ :: _, [], h, _, _ => h.elim
theorem mop_at {P : Program} {σ σ' : FS} {br f : Nat} {xs : List AV} {mr : List Nat} {args : List AV} {H : List ARow} {v : AV} {K : List (Option ARow)} {H' : List ARow} (h : MOp P σ br f xs [] mr args [] H v [] K H') (hp : ∀ x ∈ xs, plainX mr x = true) (hr : ∀ b ∈ mr, σ'.rw b = σ.rw b) : MOp P σ' br f xs [] mr args [] H v [] K H' :=
  ⟨h.nb, h.nr, True.intro, hrs_at hr h.hr, h.mt, ⟨h.le.1, fun i x y e1 e2 => by rw [hndF_plain (hp x (List.mem_of_getElem? e1))]; exact h.le.2 i x y e1 e2⟩, h.call⟩
theorem rowKs_R : ∀ {mr : List Nat} {K : List (Option ARow)} {u : Upd}, u ∈ rowKs mr K → ∃ b d, u = .R b d
  | m :: mr, r :: K, u, h => by
    rcases List.mem_cons.1 h with rfl | h
    · exact ⟨_, _, rfl⟩
    · exact rowKs_R h
  | [], _, u, h => by cases h
  | _ :: _, [], u, h => by cases h
/-- A call that rows are handed over to, and numbers. -/
def StepD (P : Program) (σ : FS) (br : Nat) (o : AO) (r : Res) : Prop :=
  o.g = none ∧ ∃ f xs, o.ai = .call f xs ∧ (∀ x ∈ xs, (lookT σ.tm x).cond) ∧ ∃ mr args H v K H', MOp P σ br f (xs.map fun x => (lookT σ.tm x).val) [] mr args [] H v [] K H' ∧ (∀ x ∈ xs.map fun x => (lookT σ.tm x).val, plainX mr x = true) ∧ r = ⟨True, mpT (nuB []) (nuR mr br) v, 0, H'.length, mUps [] mr br [] K H'⟩
theorem stepD_M {P : Program} {σ : FS} {br : Nat} {o : AO} {r : Res} (h : StepD P σ br o r) : StepM P σ br o r := by
  obtain ⟨h1, f, xs, h2, h3, mr, args, H, v, K, H', h4, h5, h6⟩ := h
  exact ⟨h1, by rw [h2]; exact h3, f, _, by rw [h2]; rfl, [], mr, args, [], H, v, [], K, H', h4, h6⟩
theorem stepD_uR {P : Program} {σ : FS} {br : Nat} {o : AO} {r : Res} (h : StepD P σ br o r) : ∀ u ∈ r.up, ∃ b d, u = .R b d := by
  obtain ⟨h1, f, xs, h2, h3, mr, args, H, v, K, H', h4, h5, rfl⟩ := h
  intro u hu
  rcases List.mem_append.1 hu with hu | hu
  · cases hu
  · rcases List.mem_append.1 hu with hu | hu
    · exact rowKs_R hu
    · obtain ⟨b, r, e, _⟩ := rowsUp_in H' br u hu
      exact ⟨b, _, e⟩
theorem stepD_at {P : Program} {σ σ' : FS} {br : Nat} {o : AO} {r : Res} (hL : ∀ t ∈ o.looks, σ'.tm t = σ.tm t) (hR : ∀ b d, σ.rw b = some d → σ'.rw b = σ.rw b) (h : StepD P σ br o r) : StepD P σ' br o r := by
  obtain ⟨h1, f, xs, h2, h3, mr, args, H, v, K, H', h4, h5, h6⟩ := h
  have hL1 : ∀ x ∈ xs, lookT σ'.tm x = lookT σ.tm x := fun x hx => by
    cases x with
    | tmp t => exact hL t (List.mem_append_left _ (by simp only [tmps, List.mem_filterMap, h2]; exact ⟨_, hx, rfl⟩))
    | _ => rfl
  have hm : (xs.map fun x => (lookT σ'.tm x).val) = xs.map fun x => (lookT σ.tm x).val := List.map_congr_left fun x hx => by rw [hL1 x hx]
  refine ⟨h1, f, xs, h2, fun x hx => by rw [hL1 x hx]; exact h3 x hx, mr, args, H, v, K, H', ?_, by rw [hm]; exact h5, h6⟩
  rw [hm]
  refine mop_at h4 h5 fun b hb => ?_
  obtain ⟨r, hr⟩ := hrs_some h4.hr b hb
  exact hR b r hr
section
variable {P : Program} {w0 : Base} {N : Nat} {ρ : Env} {F : Nat → Prop} {σ : FS} {a : Act} {w : World} {R : Option Nat}
theorem drawnM_any {ops : Array Oper} {l : List AO} (hl : compR P N ops = some l) (hd : drawOk ops = true) {T : Nat → FS} {r : Nat → Res} {bb br : Nat → Nat} {c : Nat} (tr : TraceM P l T r bb br c) (hc : ∀ o, l[c]? = some o → StepD P (T c) (br c) o (r c)) (hfree : (pairs false l (befs ops)).all List.isEmpty = true) {F0 : Nat → Prop} {Q : Exit → Act → World → Prop}
    (hQ : ∀ ρ' F' a' w', (∀ x, F0 x → F' x) → (∀ x, F' x → F0 x ∨ ¬ w0.V x) → Sim w0 N ρ' F' (T l.length) a' w' → (∀ b, bb l.length ≤ b → ρ'.b b = none) → (∀ b, br l.length ≤ b → ρ'.r b = none) → Q .normal a' w') :
    ∀ (fuel : Nat) (listed : Array Bool) (a : Act) (w : World) (ρ : Env) (F : Nat → Prop), listed.size = ops.size → (∀ x, F0 x → F x) → (∀ x, F x → F0 x ∨ ¬ w0.V x) → Sim w0 N ρ F (GS l (T 0) r bb br (fun i => listed.getD i false) l.length) a w →
      (∀ j, j < l.length → listed.getD j false = false → (∀ b, bb j ≤ b → b < bb (j + 1) → ρ.b b = none) ∧ (∀ b, br j ≤ b → b < br (j + 1) → ρ.r b = none)) → (∀ b, bb l.length ≤ b → ρ.b b = none) → (∀ b, br l.length ≤ b → ρ.r b = none) →
      Closed ops (fun i => listed.getD i false) → (List.range l.length).countP (fun i => !listed.getD i false) ≤ fuel → wpAnyIn (Fe R) 0 P .any ops Q fuel listed a w := by
  obtain ⟨hlen, hcomp⟩ := compR_get hl
  have hedge : edgesOk ops = true := hd
  have ind : ∀ (i j : Nat) (x y : AO), i < j → l[i]? = some x → l[j]? = some y → i ∈ (befL ops).getD j [] ∨ (dapart x y = true ∧ (i ≠ c → j ≠ c → Free false T r bb br i j x y)) := fun i j x y hij hx hy => by
    by_cases h1 : i ∈ (befL ops).getD j []
    · exact .inl h1
    · refine .inr ?_
      by_cases h2 : apart false x y = true
      · exact ⟨by simp only [apart, Bool.and_eq_true] at h2; simp only [dapart, Bool.and_eq_true]; exact h2.1.1.1.1, fun hi hj => free_of2 (tr.st i x hx hi).1 (tr.st j y hy hj).1 h2⟩
      · exfalso
        have hj := (List.getElem?_eq_some_iff.1 hy).1
        suffices hi : i ∈ (pairs false l (befs ops)).getD j [] by
          rw [List.all_eq_true] at hfree
          by_cases hj2 : j < (pairs false l (befs ops)).length
          · rw [List.getD_eq_getElem?_getD, List.getElem?_eq_getElem hj2, Option.getD_some] at hi
            have := hfree _ (List.getElem_mem hj2)
            rw [List.isEmpty_iff.1 this] at hi; cases hi
          · rw [List.getD_eq_getElem?_getD, List.getElem?_eq_none (by omega)] at hi; cases hi
        unfold pairs
        rw [List.getD_eq_getElem?_getD, List.getElem?_map, List.getElem?_range hj]
        simp only [Option.map_some, Option.getD_some, List.mem_filter, List.mem_range, hx, hy, Bool.not_eq_true', Bool.or_eq_false_iff]
        refine ⟨hij, ?_, by simpa using h2⟩
        cases hbt : ((befs ops).getD j 0).testBit i
        · rfl
        · exact absurd (befL_mem.2 ⟨by omega, hbt⟩) h1
  have hedge' : ∀ (i : Nat) (o : Oper) (e : Edge), ops[i]? = some o → e ∈ o.after → Region.binds .any e = true → e.on < i := fun i o e h1 h2 h3 => by
    simp only [edgesOk, List.all_eq_true] at hedge
    have hmem : (o, i) ∈ ops.toList.zipIdx := by
      rw [List.mem_zipIdx_iff_getElem?]; simpa using h1
    have := hedge (o, i) hmem e (by simpa using h2)
    simpa [h3] using this
  have all_done : ∀ (listed : Array Bool), listed.size = ops.size → Region.ready .any ops listed = [] → ∀ i, i < l.length → listed.getD i false = true := fun listed hsz hready i => by
    induction i using Nat.strongRecOn with
    | _ i ih =>
      intro hi
      cases hli : listed.getD i false
      · exfalso
        have hio : ∃ o, ops[i]? = some o := ⟨_, Array.getElem?_eq_getElem (by omega)⟩
        obtain ⟨o, ho⟩ := hio
        have : i ∈ Region.ready .any ops listed := mem_ready.2 ⟨by
          have hh : i < listed.size := by omega
          simp [Array.getD, hh] at hli ⊢; exact hli, o, ho, fun e he hb => ih e.on (hedge' i o e ho he hb) (by have := hedge' i o e ho he hb; omega)⟩
        rw [hready] at this; cases this
      · rfl
  have finish : ∀ (listed : Array Bool) (a : Act) (w : World) (ρ : Env) (F : Nat → Prop), (∀ i, i < l.length → listed.getD i false = true) → (∀ x, F0 x → F x) → (∀ x, F x → F0 x ∨ ¬ w0.V x) → Sim w0 N ρ F (GS l (T 0) r bb br (fun i => listed.getD i false) l.length) a w → (∀ b, bb l.length ≤ b → ρ.b b = none) → (∀ b, br l.length ≤ b → ρ.r b = none) → Q .normal a w := fun listed a w ρ F hall f1 f2 hs hb hr => by
    rw [GSM_all tr hall l.length (Nat.le_refl _)] at hs
    exact hQ ρ F a w f1 f2 hs hb hr
  intro fuel
  induction fuel with
  | zero =>
    intro listed a w ρ F hsz f1 f2 hs hnew hbB hbR hcl hcount
    have hall : ∀ i, i < l.length → listed.getD i false = true := fun i hi => by
      have h0 : (List.range l.length).countP (fun i => !listed.getD i false) = 0 := by omega
      rw [List.countP_eq_zero] at h0
      have := h0 i (by simpa using hi)
      simpa using this
    refine ⟨?_, finish listed a w ρ F hall f1 f2 hs hbB hbR⟩
    apply List.eq_nil_iff_forall_not_mem.2
    intro i hi
    obtain ⟨h1, o, ho, _⟩ := mem_ready.1 hi
    have hil : i < ops.size := (Array.getElem?_eq_some_iff.1 ho).1
    have := hall i (by omega)
    have hh : i < listed.size := by omega
    simp [Array.getD, hh] at this h1
    rw [this] at h1; cases h1
  | succ fuel ih =>
    intro listed a w ρ F hsz f1 f2 hs hnew hbB hbR hcl hcount
    refine ⟨fun hready => finish listed a w ρ F (all_done listed hsz hready) f1 f2 hs hbB hbR, fun j hj => ?_⟩
    obtain ⟨hjun, o, ho, hjr⟩ := mem_ready.1 hj
    have hjl : j < l.length := by have := (Array.getElem?_eq_some_iff.1 ho).1; omega
    have hh : j < listed.size := by omega
    have hSj : listed.getD j false = false := by simp [Array.getD, hh] at hjun ⊢; exact hjun
    have hy := List.getElem?_eq_getElem hjl
    have hco := hcomp j o _ ho hy
    have hbj : ∀ k ∈ (befL ops).getD j [], (fun i => listed.getD i false) k = true := fun k hk => befs_good ops hk _ hcl (fun o' e h1 h2 h3 => by rw [ho] at h1; cases h1; exact hjr e h2 h3)
    have hcb : ∀ i, (fun i => listed.getD i false) i = true → ∀ k ∈ (befL ops).getD i [], (fun i => listed.getD i false) k = true := fun i hi k hk => befs_good ops hk _ hcl (fun o' e h1 h2 h3 => hcl i hi o' e h1 h2 h3)
    obtain ⟨n1, n2⟩ := hnew j hjl hSj
    obtain ⟨_, s3, s4⟩ := tr.nxt j _ hy
    have hset : ∀ i, (listed.setIfInBounds j true).getD i false = (listed.getD i false || i == j) := fun i => by
      by_cases hij : i = j
      · subst hij; simp [Array.getD, hh]
      · simp only [Array.getD_eq_getD_getElem?]; rw [Array.getElem?_setIfInBounds_ne (fun e => hij e.symm)]; simp [hij]
    suffices go : ∀ a' w' ρ' F', Grown w0.V ρ ρ' F F' (bb j) (r j).nb (br j) (r j).nr → Sim w0 N ρ' F' (((GS l (T 0) r bb br (fun i => listed.getD i false) l.length).ups (r j).up).put l[j].dst (r j).av) a' w' → wpAnyIn (Fe R) 0 P .any ops Q fuel (listed.setIfInBounds j true) a' w' by
      by_cases hjc : j = c
      · subst hjc
        have hst := stepD_at (σ' := GS l (T 0) r bb br (fun i => listed.getD i false) l.length) (fun t ht => gsM_tm tr ind hcb hSj hbj hy ht) (fun b d e => gsM_rw tr ind hSj hbj rfl hjl b ((tr.bnd j (by omega)).2 b d e)) (hc _ hy)
        exact stepM_sound (bb := bb j) hs ho hco (stepD_M hst) (fun b h1 h2 => n2 b h1 (by omega)) go
      · exact stepR_sound false hs ho hco (gsM_step tr ind hcb hSj hbj hy hjc) (fun b h1 h2 => n1 b h1 (by omega)) (fun b h1 h2 => n2 b h1 (by omega)) go
    intro a' w' ρ' F' hg hs'
    have hdone := gsM_done tr ind (S := fun i => listed.getD i false) hcb hSj hbj hy
    rw [hdone] at hs'
    refine ih (listed.setIfInBounds j true) a' w' ρ' F' (by simpa using hsz) (fun x hx => hg.sub x (f1 x hx)) (fun x hx => (hg.new x hx).elim (f2 x) .inr) ?_ (fun i hi hun => ?_) (fun b hb => ?_) (fun b hb => ?_) (fun i hi o' e h1 h2 h3 => ?_) ?_
    · have : (fun i => (listed.setIfInBounds j true).getD i false) = fun i => listed.getD i false || i == j := funext hset
      rw [this]; exact hs'
    · rw [hset] at hun
      simp only [Bool.or_eq_false_iff, beq_eq_false_iff_ne, ne_eq] at hun
      obtain ⟨m1, m2⟩ := hnew i hi hun.1
      have hbbij : bb (i + 1) ≤ bb j ∨ bb (j + 1) ≤ bb i := by
        rcases Nat.lt_or_ge i j with h | h
        · exact .inl (tr.mono (show i + 1 ≤ j by omega) (by omega)).1
        · exact .inr (tr.mono (show j + 1 ≤ i by omega) (by omega)).1
      have hbrij : br (i + 1) ≤ br j ∨ br (j + 1) ≤ br i := by
        rcases Nat.lt_or_ge i j with h | h
        · exact .inl (tr.mono (show i + 1 ≤ j by omega) (by omega)).2
        · exact .inr (tr.mono (show j + 1 ≤ i by omega) (by omega)).2
      refine ⟨fun b h1 h2 => ?_, fun b h1 h2 => ?_⟩
      · cases hq : ρ'.b b with
        | none => rfl
        | some g =>
          rcases hg.b b (by rw [hq]; simp) with h | h
          · exact absurd (m1 b h1 h2) h
          · omega
      · cases hq : ρ'.r b with
        | none => rfl
        | some g =>
          rcases hg.r b (by rw [hq]; simp) with h | h
          · exact absurd (m2 b h1 h2) h
          · omega
    · cases hq : ρ'.b b with
      | none => rfl
      | some g =>
        have := (tr.mono (show j + 1 ≤ l.length by omega) (Nat.le_refl _)).1
        rcases hg.b b (by rw [hq]; simp) with h | h
        · exact absurd (hbB b hb) h
        · omega
    · cases hq : ρ'.r b with
      | none => rfl
      | some g =>
        have := (tr.mono (show j + 1 ≤ l.length by omega) (Nat.le_refl _)).2
        rcases hg.r b (by rw [hq]; simp) with h | h
        · exact absurd (hbR b hb) h
        · omega
    · dsimp only at hi ⊢
      rw [hset] at hi ⊢
      by_cases hij : i = j
      · subst hij; rw [ho] at h1; cases h1; rw [hjr e h2 h3]; rfl
      · have : listed.getD i false = true := by simpa [hij] using hi
        have q := hcl i this o' e h1 h2 h3
        dsimp only at q
        rw [q]; rfl
    · have hlt : (List.range l.length).countP (fun i => !(listed.setIfInBounds j true).getD i false) < (List.range l.length).countP (fun i => !listed.getD i false) := by
        have e1 : (fun i => !(listed.setIfInBounds j true).getD i false) = fun i => !(listed.getD i false || i == j) := funext fun i => by rw [hset]
        rw [e1]
        generalize hS : (fun i => listed.getD i false) = S at hSj
        have hS' : ∀ i, listed.getD i false = S i := fun i => by rw [← hS]
        simp only [hS'] at hSj ⊢
        have key : ∀ L : List Nat, j ∈ L → L.countP (fun i => !(S i || i == j)) < L.countP (fun i => !S i) := fun L hL => by
          induction L with
          | nil => cases hL
          | cons x L ihL =>
            have hle : ∀ M : List Nat, M.countP (fun i => !(S i || i == j)) ≤ M.countP (fun i => !S i) := fun M => List.countP_mono_left fun i _ hi => by
              simp only [Bool.not_eq_true', Bool.or_eq_false_iff] at hi ⊢; exact hi.1
            simp only [List.countP_cons]
            by_cases hx : x = j
            · subst hx
              have := hle L
              rw [if_neg (by simp), if_pos (by simp [hSj])]; omega
            · have hjL : j ∈ L := by rcases List.mem_cons.1 hL with h | h; exact absurd h.symm hx; exact h
              have := ihL hjL
              have e2 : (x == j) = false := by simpa using hx
              simp only [e2, Bool.or_false]; omega
        exact key _ (by simpa using hjl)
      omega

/-- A region whose order is drawn. -/
theorem drawM_sound (hm : P.follows .mixedOrders = true) {id : Nat} {ops : Array Oper} {l : List AO} (hl : compR P N ops = some l) (hd : drawOk ops = true) {T : Nat → FS} {r : Nat → Res} {bb br : Nat → Nat} {c : Nat} (tr : TraceM P l T r bb br c) (hc : ∀ o, l[c]? = some o → StepD P (T c) (br c) o (r c)) (hfree : (pairs false l (befs ops)).all List.isEmpty = true) (h : Sim w0 N ρ F (T 0) a w)
    (hb : ∀ b, bb 0 ≤ b → ρ.b b = none) (hr : ∀ b, br 0 ≤ b → ρ.r b = none) {Q : Exit → Act → World → Prop}
    (hQ : ∀ ρ' F' a' w', (∀ x, F x → F' x) → (∀ x, F' x → F x ∨ ¬ w0.V x) → Sim w0 N ρ' F' (T l.length) a' w' → (∀ b, bb l.length ≤ b → ρ'.b b = none) → (∀ b, br l.length ≤ b → ρ'.r b = none) → Q .normal a' w') : (Code.region id ops true).wpIn (Fe R) 0 P Q a w := by
  refine wpIn_region_any hm ?_
  obtain ⟨hlen, _⟩ := compR_get hl
  have hS : ∀ i, (Array.replicate ops.size false).getD i false = false := fun i => by
    simp only [Array.getD_eq_getD_getElem?]
    by_cases hi : i < ops.size
    · simp [hi]
    · rw [Array.getElem?_eq_none (by simpa using hi)]; rfl
  obtain ⟨g1, g2, g3⟩ := GSM_none tr (S := fun i => (Array.replicate ops.size false).getD i false) (fun i _ => hS i) l.length (Nat.le_refl _)
  have hs : Sim w0 N ρ F (GS l (T 0) r bb br (fun i => (Array.replicate ops.size false).getD i false) l.length) a w.drew := (h.grow ((Below.refl _ _).drew)).phantom g1 (fun b g e => by
    refine g2 b ?_
    rcases Nat.lt_or_ge b (bb 0) with h' | h'
    · exact h'
    · rw [hb b h'] at e; cases e) (fun b p e => by
    refine g3 b ?_
    rcases Nat.lt_or_ge b (br 0) with h' | h'
    · exact h'
    · rw [hr b h'] at e; cases e)
  refine drawnM_any hl hd tr hc hfree hQ ops.size _ a w.drew ρ F (by simp) (fun _ hx => hx) (fun _ hx => .inl hx) hs (fun j hj _ => ⟨fun b h1 _ => hb b (Nat.le_trans (tr.mono (Nat.zero_le j) (by omega)).1 h1), fun b h1 _ => hr b (Nat.le_trans (tr.mono (Nat.zero_le j) (by omega)).2 h1)⟩)
    (fun b h1 => hb b (Nat.le_trans (tr.mono (Nat.zero_le _) (Nat.le_refl _)).1 h1)) (fun b h1 => hr b (Nat.le_trans (tr.mono (Nat.zero_le _) (Nat.le_refl _)).2 h1)) (fun i hi => by dsimp only at hi; rw [hS i] at hi; cases hi) ?_
  refine Nat.le_trans List.countP_le_length ?_
  simp [hlen]

end
/-! ### The walk of such a region -/
def mops (P : Program) : Option Nat → List AO → AS → (AS → Prop) → Prop
  | _, [], σ, K => K σ
  | some 0, o :: l, σ, K => ∃ r, StepD P σ.fs σ.nr o r ∧ mops P none l (σ.app o.dst r) K
  | some (n + 1), o :: l, σ, K => StepK P false σ.fs σ.nb σ.nr o fun r => (o.g = none ∧ rwFree (lookT σ.fs.tm) o.ai = true) ∧ mops P (some n) l (σ.app o.dst r) K
  | none, o :: l, σ, K => StepK P false σ.fs σ.nb σ.nr o fun r => (o.g = none ∧ rwFree (lookT σ.fs.tm) o.ai = true) ∧ mops P none l (σ.app o.dst r) K
def cOf (m : Option Nat) (l : List AO) : Nat := match m with | some n => n | none => l.length
structure MTr (P : Program) (m : Option Nat) (l : List AO) (σ τ : AS) (T : Nat → FS) (r : Nat → Res) (bb br : Nat → Nat) : Prop where
  tr : TraceM P l T r bb br (cOf m l)
  t0 : T 0 = σ.fs
  b0 : bb 0 = σ.nb
  r0 : br 0 = σ.nr
  tn : T l.length = τ.fs
  bn : bb l.length = τ.nb
  rn : br l.length = τ.nr
  wf : WF τ
  hc : ∀ o, l[cOf m l]? = some o → StepD P (T (cOf m l)) (br (cOf m l)) o (r (cOf m l))
theorem mtr_cons {P : Program} {m m' : Option Nat} {o : AO} {l : List AO} {σ τ : AS} {T : Nat → FS} {r : Nat → Res} {bb br : Nat → Nat} {r0 : Res} (h : MTr P m' l (σ.app o.dst r0) τ T r bb br) (hw : WF σ)
    (hup : ∀ u ∈ r0.up, UpIn σ.fs.bx σ.fs.rw σ.nb r0.nb σ.nr r0.nr true true u)
    (hs : (cOf m (o :: l) = cOf m' l + 1 ∧ StepR P false σ.fs σ.nb σ.nr o r0 ∧ o.g = none ∧ rwFree (lookT σ.fs.tm) o.ai = true ∧ ∀ u ∈ r0.up, ∃ b d, u = .B b d) ∨ (cOf m (o :: l) = 0 ∧ cOf m' l = l.length ∧ StepD P σ.fs σ.nr o r0)) :
    MTr P m (o :: l) σ τ (fun i => match i with | 0 => σ.fs | i + 1 => T i) (fun i => match i with | 0 => r0 | i + 1 => r i) (fun i => match i with | 0 => σ.nb | i + 1 => bb i) (fun i => match i with | 0 => σ.nr | i + 1 => br i) := by
  have tr := h.tr
  refine ⟨⟨fun i x e => ?_, fun i x e u hu => ?_, fun i x e hi => ?_, fun i x e hi u hu => ?_, fun u hu => ?_, hw.1, hw.2⟩, rfl, rfl, rfl, h.tn, h.bn, h.rn, h.wf, fun x e => ?_⟩
  · cases i with
    | zero => simp at e; subst e; exact ⟨by dsimp only; rw [h.t0, app_fs], by dsimp only; rw [h.b0]; rfl, by dsimp only; rw [h.r0]; rfl⟩
    | succ i => exact tr.nxt i x (by simpa using e)
  · cases i with
    | zero => exact hup u hu
    | succ i => exact tr.up i x (by simpa using e) u hu
  · cases i with
    | zero =>
      simp at e; subst e
      rcases hs with ⟨_, q1, q2, q3, _⟩ | ⟨q, _⟩
      · exact ⟨q1, q2, q3⟩
      · exact absurd q.symm hi
    | succ i =>
      refine tr.st i x (by simpa using e) fun hic => ?_
      rcases hs with ⟨q, _⟩ | ⟨q, q2, _⟩
      · exact hi (by omega)
      · have := (List.getElem?_eq_some_iff.1 (by simpa using e : l[i]? = some x)).1
        omega
  · cases i with
    | zero =>
      rcases hs with ⟨_, _, _, _, q⟩ | ⟨q, _⟩
      · exact q u hu
      · exact absurd q.symm hi
    | succ i =>
      refine tr.uB i x (by simpa using e) (fun hic => ?_) u hu
      rcases hs with ⟨q, _⟩ | ⟨q, q2, _⟩
      · exact hi (by omega)
      · have := (List.getElem?_eq_some_iff.1 (by simpa using e : l[i]? = some x)).1
        omega
  · rcases hs with ⟨q, _⟩ | ⟨q, _, q3⟩
    · rw [q] at hu; exact tr.uR u hu
    · rw [q] at hu; exact stepD_uR q3 u hu
  · rcases hs with ⟨q, _⟩ | ⟨q, _, q3⟩
    · rw [q] at e ⊢; exact h.hc x (by simpa using e)
    · rw [q] at e ⊢
      simp at e; subst e; exact q3
theorem upIn_tt {bx : Nat → Option (List AV)} {rw : Nat → Option ARow} {bb nb br nr : Nat} {e1 e2 : Bool} {u : Upd} (h : UpIn bx rw bb nb br nr e1 e2 u) : UpIn bx rw bb nb br nr true true u := by
  cases u with
  | B b c => exact h.imp (fun q => ⟨rfl, q.2⟩) id
  | R b c => exact h.imp (fun q => ⟨rfl, q.2⟩) id
theorem light_up {P : Program} {σ : FS} {bb br : Nat} {o : AO} {r : Res} (h : StepR P false σ bb br o r) (hg : o.g = none) (hf : rwFree (lookT σ.tm) o.ai = true) : ∀ u ∈ r.up, ∃ b d, u = .B b d := by
  have hnc := rwFree_nc hf
  unfold StepR at h
  rw [hg] at h
  dsimp only at h
  have key : r = aistep false (lookT σ.tm) σ.bx σ.rw bb br o.ai ∧ r.ok := by
    revert h hnc
    cases o.ai <;> intro h hnc <;> first | exact h | exact nomatch hnc
  obtain ⟨rfl, hok⟩ := key
  exact rwFree_up hf hok
theorem mops_trace {P : Program} : ∀ {l : List AO} {m : Option Nat} {σ : AS} {K : AS → Prop}, mops P m l σ K → WF σ → ∃ T r bb br τ, MTr P m l σ τ T r bb br ∧ K τ
  | [], m, σ, K, h, hw => ⟨fun _ => σ.fs, fun _ => .fail, fun _ => σ.nb, fun _ => σ.nr, σ, ⟨⟨(fun i o e => by cases e), (fun i o e => by cases e), (fun i o e => by cases e), (fun i o e => by cases e), (fun u hu => by cases hu), hw.1, hw.2⟩, rfl, rfl, rfl, rfl, rfl, rfl, hw, fun o e => by cases e⟩, by cases m <;> exact h⟩
  | o :: l, some 0, σ, K, h, hw => by
    obtain ⟨r0, h1, h2⟩ := h
    have hup := stepM_up σ.nb (stepD_M h1)
    obtain ⟨T, r, bb, br, τ, tr, hK⟩ := mops_trace h2 (wf_up hup hw)
    exact ⟨_, _, _, _, τ, mtr_cons (m := some 0) tr hw hup (.inr ⟨rfl, rfl, h1⟩), hK⟩
  | o :: l, some (n + 1), σ, K, h, hw => by
    obtain ⟨r0, h1, ⟨hg, hf⟩, h2⟩ := stepK_R h
    obtain ⟨T, r, bb, br, τ, tr, hK⟩ := mops_trace h2 (wf_app h1 hw)
    exact ⟨_, _, _, _, τ, mtr_cons (m := some (n + 1)) tr hw (fun u hu => upIn_tt (stepR_up h1 u hu)) (.inl ⟨rfl, h1, hg, hf, light_up h1 hg hf⟩), hK⟩
  | o :: l, none, σ, K, h, hw => by
    obtain ⟨r0, h1, ⟨hg, hf⟩, h2⟩ := stepK_R h
    obtain ⟨T, r, bb, br, τ, tr, hK⟩ := mops_trace h2 (wf_app h1 hw)
    exact ⟨_, _, _, _, τ, mtr_cons (m := none) tr hw (fun u hu => upIn_tt (stepR_up h1 u hu)) (.inl ⟨rfl, h1, hg, hf, light_up h1 hg hf⟩), hK⟩
section
variable {P : Program} {N : Nat} {σ : AS} {Q : AX → AS → Prop}
theorem AWP.drwM {l : List AO} {need : List (List Nat)} (c : Nat) (hn : need.all List.isEmpty = true) (h : mops P (some c) l σ (Q .n)) : AWP P N (.drw l need) σ Q := fun cd hc R w0 ρ F a w hs => by
  obtain ⟨T, r, bb, br, τ, m, hK⟩ := mops_trace h hs.wf
  have hQ : ∀ ρ' F' a' w', (∀ x, F x → F' x) → (∀ x, F' x → F x ∨ ¬ w0.V x) → Sim w0 N ρ' F' (T l.length) a' w' → (∀ b, bb l.length ≤ b → ρ'.b b = none) → (∀ b, br l.length ≤ b → ρ'.r b = none) → APost w0 N F Q .normal a' w' := fun ρ' F' a' w' f1 f2 hs' hb hr =>
    ⟨.n, τ, ρ', F', rfl, hK, ⟨by rw [← m.tn]; exact hs', fun b h => hb b (by rw [m.bn]; exact h), fun b h => hr b (by rw [m.rn]; exact h), m.wf⟩, f1, f2⟩
  have h0 : Sim w0 N ρ F (T 0) a w := by rw [m.t0]; exact hs.s
  cases hc with
  | drw id ops _ hl hm hd => exact drawM_sound hm hl hd m.tr m.hc hn h0 (fun b h => hs.b b (by rw [← m.b0]; exact h)) (fun b h => hs.r b (by rw [← m.r0]; exact h)) hQ
end
/-- Such a region under way. -/
structure LG (P : Program) (m : Option Nat) (l : List AO) (σ : AS) (K : AS → Prop) : Prop where
  h : mops P m l σ K
section
variable {P : Program} {N : Nat} {l : List AO} {K : AS → Prop} {tm : List (Nat × AV)} {bx : List (Option (List AV))} {rw : List (Option ARow)} {nb nr : Nat}
theorem W.drwM {need : List (List Nat)} {k : List ACode} {σ : AS} {Q : AX → AS → Prop} (c : Nat) (hn : need.all List.isEmpty = true) (h : LG P (some c) l σ fun τ => WL P N k Q τ) : WL P N (.drw l need :: k) Q σ := by
  refine ⟨AWP.drwM c hn ?_⟩
  have mono : ∀ {l : List AO} {m : Option Nat} {σ : AS} {K K' : AS → Prop}, (∀ τ, K τ → K' τ) → mops P m l σ K → mops P m l σ K' := fun {l} => by
    induction l with
    | nil => intro m σ K K' hk h; cases m <;> exact hk _ h
    | cons o l ih =>
      intro m σ K K' hk h
      have key : ∀ {τ : FS} {bb br : Nat} {o : AO} {K K' : Res → Prop}, (∀ r, K r → K' r) → o.g = none → isCall o.ai = false → StepK P false τ bb br o K → StepK P false τ bb br o K' := fun {τ bb br o K K'} hk hg hc h => by
        unfold StepK at h ⊢
        rw [hg] at h ⊢
        dsimp only at h ⊢
        cases hai : o.ai <;> rw [hai] at h hc <;> first | exact ⟨h.1, hk _ h.2⟩ | (cases hc; done)
      match m, h with
      | some 0, ⟨r, h1, h2⟩ => exact ⟨r, h1, ih hk h2⟩
      | some (n + 1), h =>
        obtain ⟨r, _, ⟨hg, hf⟩, _⟩ := stepK_R h
        exact key (fun r q => ⟨q.1, ih hk q.2⟩) hg (rwFree_nc hf) h
      | none, h =>
        obtain ⟨r, _, ⟨hg, hf⟩, _⟩ := stepK_R h
        exact key (fun r q => ⟨q.1, ih hk q.2⟩) hg (rwFree_nc hf) h
  exact mono (fun τ hτ => hτ.h) h.h
theorem LG.nil {m : Option Nat} (h : K ⟨tm, bx, rw, nb, nr⟩) : LG P m [] ⟨tm, bx, rw, nb, nr⟩ K := ⟨by cases m <;> exact h⟩
theorem LG.s {n : Nat} {o : AO} {r : Res} {σ' : AS} (h : STP P tm bx rw nb nr o r σ' := by first | (exact A.go) | fail) (hg : o.g = none := by exact rfl) (hw : rwFree (lookT (gT tm)) o.ai = true := by exact rfl) (k : LG P (some n) l σ' K) : LG P (some (n + 1)) (o :: l) ⟨tm, bx, rw, nb, nr⟩ K :=
  ⟨h.k _ ⟨⟨hg, by rw [gT_eq] at hw; exact hw⟩, by rw [h.e]; exact k.h⟩⟩
theorem LG.n {o : AO} {r : Res} {σ' : AS} (h : STP P tm bx rw nb nr o r σ' := by first | (exact A.go) | fail) (hg : o.g = none := by exact rfl) (hw : rwFree (lookT (gT tm)) o.ai = true := by exact rfl) (k : LG P none l σ' K) : LG P none (o :: l) ⟨tm, bx, rw, nb, nr⟩ K :=
  ⟨h.k _ ⟨⟨hg, by rw [gT_eq] at hw; exact hw⟩, by rw [h.e]; exact k.h⟩⟩
end
section
variable {P : Program} {N : Nat} {l : List AO} {K0 : AS → Prop} {tm : List (Nat × AV)} {bx bx' : List (Option (List AV))} {rw rw' : List (Option ARow)} {nb nr nr' : Nat}
theorem LG.mca {t f : Nat} {xs : List Opd} {vs args : List AV} {H : List ARow} {v v' : AV} {K : List (Option ARow)} {H' : List ARow} (mr : List Nat) (c : MCall P f args [] H v [] K H') (hv : (xs.map fun x => (lookT (gT tm) x).val) = vs := by exact (by (repeat (first | exact mapv_nil | (apply mapv_cons; ((conv => lhs; whnf) <;> exact rfl)))); (first | (all_goals fail) | fail))) (hc : conds (lookT (gT tm)) xs := by exact (by (repeat (first | exact conds_nil | refine conds_cons (by first | exact True.intro | (simp_all; (first | (all_goals fail) | fail))) ?_)); (first | (all_goals fail) | fail))) (hnr : mr.Nodup := by decide) (hb : HBl (gO bx) [] mr (exR mr (gO rw)) [] [] := by (repeat' (first | exact True.intro | (refine ⟨⟨_, by exact rfl, ?_⟩, ?_⟩) | (with_reducible first | exact mcs_nil | refine mcs_cons ?_ ?_) | (repeat' (first | (with_reducible first | exact mles_nil | refine mles_cons ?_ ?_ | exact mcs_nil | refine mcs_cons ?_ ?_ | exact mvs_nil | refine mvs_cons ?_ ?_ | exact alel_nil | refine alel_cons ?_ ?_ | exact ALe.refl _ | assumption | exact m_iF rfl | exact m_iC rfl | exact m_iV rfl | exact m_bF rfl | exact m_bC rfl | exact m_bV rfl | exact m_sF rfl | exact m_sC rfl | exact m_sV rfl | exact m_slF rfl | exact m_slC rfl | exact m_slV rfl | exact m_seF rfl | exact m_seC rfl | exact m_nF | exact m_nC | exact m_nF0 | exact m_nC0 | exact ALe.any _ | refine m_agg ?_ | refine m_aggV ?_ | refine m_fn ?_ | exact ale_iC rfl | exact ale_bC rfl | exact ale_sC rfl | exact ale_slC rfl | exact ale_cslC rfl | exact ale_nC _ _) | ((with_reducible refine m_refF ?_ ?_ ?_); exact rfl; exact (by first | exact rfl | omega | (simp; (first | (all_goals fail) | fail)) | (simp <;> omega)); exact (by first | exact rfl | omega | (simp; (first | (all_goals fail) | fail)) | (simp <;> omega))) | ((with_reducible refine m_refC ?_ ?_ ?_); exact rfl; exact (by first | exact rfl | omega | (simp; (first | (all_goals fail) | fail)) | (simp <;> omega)); exact (by first | exact rfl | omega | (simp; (first | (all_goals fail) | fail)) | (simp <;> omega))) | exact m_bp rfl | exact m_bpF rfl | ((with_reducible refine m_iF ?_); omega) | ((with_reducible refine m_iC ?_); omega) | ((with_reducible refine m_iV ?_); omega) | ((with_reducible refine ale_iC ?_); omega) | ((with_reducible apply m_refN); exact rfl; exact rfl; exact rfl; exact (by first | assumption | decide | omega | (simp; (first | (all_goals fail) | fail)) | (simp <;> omega)); exact (by first | exact take_all _ | exact take_len (by first | (simp; (first | (all_goals fail) | fail)) | (simp <;> omega)) | exact rfl)) | ((with_reducible apply m_refNC); exact rfl; exact rfl; exact rfl; exact (by first | assumption | decide | omega | (simp; (first | (all_goals fail) | fail)) | (simp <;> omega)); exact (by first | exact take_all _ | exact take_len (by first | (simp; (first | (all_goals fail) | fail)) | (simp <;> omega)) | exact rfl)) | ((with_reducible refine ale_refC ?_ ?_ ?_ ?_); exact rfl; exact rfl; exact (by first | assumption | decide | omega | (simp; (first | (all_goals fail) | fail)) | (simp <;> omega)); exact (by first | exact take_all _ | exact take_len (by first | (simp; (first | (all_goals fail) | fail)) | (simp <;> omega)) | exact rfl)) | ((with_reducible apply m_apN); exact rfl; exact rfl; exact Nat.le_of_ble_eq_true rfl; exact rfl; exact Nat.le_of_ble_eq_true rfl; exact rfl) | (refine m_bpN rfl (by exact rfl) (by first | decide | (simp; (first | (all_goals fail) | fail))) ?_; dsimp only [k_d0, k_ds, k_dn]) | (refine m_bpNF rfl (by exact rfl) (by first | decide | (simp; (first | (all_goals fail) | fail))) ?_; dsimp only [k_d0, k_ds, k_dn]) | exact m_slF (by first | assumption | (simp; (first | (all_goals fail) | fail))) | exact m_slC (by first | assumption | (simp; (first | (all_goals fail) | fail))))))); (first | (all_goals fail) | fail)) (hr : HRs (gO rw) mr H := by (repeat' (first | exact True.intro | (refine ⟨⟨by exact rfl, by exact rfl⟩, ?_⟩))); (first | (all_goals fail) | fail)) (hm : ment [] mr (gO bx) vs = true := by exact rfl) (hle : MLes [] mr (exB [] (gO bx)) (exR mr (gO rw)) vs args := by (repeat' (first | (with_reducible first | exact mles_nil | refine mles_cons ?_ ?_ | exact mcs_nil | refine mcs_cons ?_ ?_ | exact mvs_nil | refine mvs_cons ?_ ?_ | exact alel_nil | refine alel_cons ?_ ?_ | exact ALe.refl _ | assumption | exact m_iF rfl | exact m_iC rfl | exact m_iV rfl | exact m_bF rfl | exact m_bC rfl | exact m_bV rfl | exact m_sF rfl | exact m_sC rfl | exact m_sV rfl | exact m_slF rfl | exact m_slC rfl | exact m_slV rfl | exact m_seF rfl | exact m_seC rfl | exact m_nF | exact m_nC | exact m_nF0 | exact m_nC0 | exact ALe.any _ | refine m_agg ?_ | refine m_aggV ?_ | refine m_fn ?_ | exact ale_iC rfl | exact ale_bC rfl | exact ale_sC rfl | exact ale_slC rfl | exact ale_cslC rfl | exact ale_nC _ _) | ((with_reducible refine m_refF ?_ ?_ ?_); exact rfl; exact (by first | exact rfl | omega | (simp; (first | (all_goals fail) | fail)) | (simp <;> omega)); exact (by first | exact rfl | omega | (simp; (first | (all_goals fail) | fail)) | (simp <;> omega))) | ((with_reducible refine m_refC ?_ ?_ ?_); exact rfl; exact (by first | exact rfl | omega | (simp; (first | (all_goals fail) | fail)) | (simp <;> omega)); exact (by first | exact rfl | omega | (simp; (first | (all_goals fail) | fail)) | (simp <;> omega))) | exact m_bp rfl | exact m_bpF rfl | ((with_reducible refine m_iF ?_); omega) | ((with_reducible refine m_iC ?_); omega) | ((with_reducible refine m_iV ?_); omega) | ((with_reducible refine ale_iC ?_); omega) | ((with_reducible apply m_refN); exact rfl; exact rfl; exact rfl; exact (by first | assumption | decide | omega | (simp; (first | (all_goals fail) | fail)) | (simp <;> omega)); exact (by first | exact take_all _ | exact take_len (by first | (simp; (first | (all_goals fail) | fail)) | (simp <;> omega)) | exact rfl)) | ((with_reducible apply m_refNC); exact rfl; exact rfl; exact rfl; exact (by first | assumption | decide | omega | (simp; (first | (all_goals fail) | fail)) | (simp <;> omega)); exact (by first | exact take_all _ | exact take_len (by first | (simp; (first | (all_goals fail) | fail)) | (simp <;> omega)) | exact rfl)) | ((with_reducible refine ale_refC ?_ ?_ ?_ ?_); exact rfl; exact rfl; exact (by first | assumption | decide | omega | (simp; (first | (all_goals fail) | fail)) | (simp <;> omega)); exact (by first | exact take_all _ | exact take_len (by first | (simp; (first | (all_goals fail) | fail)) | (simp <;> omega)) | exact rfl)) | ((with_reducible apply m_apN); exact rfl; exact rfl; exact Nat.le_of_ble_eq_true rfl; exact rfl; exact Nat.le_of_ble_eq_true rfl; exact rfl) | (refine m_bpN rfl (by exact rfl) (by first | decide | (simp; (first | (all_goals fail) | fail))) ?_; dsimp only [k_d0, k_ds, k_dn]) | (refine m_bpNF rfl (by exact rfl) (by first | decide | (simp; (first | (all_goals fail) | fail))) ?_; dsimp only [k_d0, k_ds, k_dn]) | exact m_slF (by first | assumption | (simp; (first | (all_goals fail) | fail))) | exact m_slC (by first | assumption | (simp; (first | (all_goals fail) | fail))))); (first | (all_goals fail) | fail)) (hpl : vs.all (plainX mr) = true := by exact rfl) (hw : mpT (nuB []) (nuR mr nr) v = v' := by (dsimp only [mpT, mpV, mpC, nuR, nuB, argR, k_m0, k_mc, List.getD_cons_zero, List.getD_cons_succ, k_gd0, k_gds, Nat.reduceAdd, Nat.add_zero, Nat.zero_add]; (first | (all_goals fail) | fail))) (hbx : upsB bx (mUps [] mr nr [] K H') = bx' := by (dsimp only [upsB, upsR, mUps, boxUps, rowKs, rowsUp, setO, mpC, nuR, nuB, argR, List.getD_cons_zero, List.getD_cons_succ, k_gd0, k_gds, k_m0, k_mc, k_ap, k_an, Nat.reduceAdd, Nat.add_zero, Nat.zero_add]; (first | (all_goals fail) | fail))) (hrw : upsR rw (mUps [] mr nr [] K H') = rw' := by (dsimp only [upsB, upsR, mUps, boxUps, rowKs, rowsUp, setO, mpC, nuR, nuB, argR, List.getD_cons_zero, List.getD_cons_succ, k_gd0, k_gds, k_m0, k_mc, k_ap, k_an, Nat.reduceAdd, Nat.add_zero, Nat.zero_add]; (first | (all_goals fail) | fail))) (h2 : nr + H'.length = nr' := by first | (with_reducible exact Nat.add_zero _) | (dsimp only [Nat.reduceAdd, Nat.add_zero, k_ln, k_lc]; (first | (all_goals fail) | fail))) (k : LG P none l ⟨(t, v') :: tm, bx', rw', nb, nr'⟩ K0) : LG P (some 0) (⟨some t, .call f xs, none⟩ :: l) ⟨tm, bx, rw, nb, nr⟩ K0 := by
  subst hw
  subst hv
  have hs := app_U (tm := tm) (bx := bx) (rw := rw) (t := t) (v := mpT (nuB []) (nuR mr nr) v) hbx hrw (Nat.add_zero nb) h2
  rw [← hs] at k
  rw [List.all_eq_true] at hpl
  have hc' := conds_m (f := f) hc
  rw [gT_eq] at hc' hpl hle hm
  rw [gO_eq, gO_eq] at *
  exact ⟨⟨_, ⟨rfl, f, xs, rfl, hc', mr, args, H, v, K, H', ⟨List.nodup_nil, hnr, hbl_s hb, hr, hm, mles_get hle, c⟩, hpl, rfl⟩, k.h⟩⟩
end
end Go.Proofs.Ytiejnmbpejfpgaa
