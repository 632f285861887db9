/- Regions whose order is drawn: the theorem. -/
import Derived.Test.YtiejnmbpejfpgaaAx20
namespace Go.Proofs.Ytiejnmbpejfpgaa
open Go.RowKit
set_option linter.unusedVariables false

theorem ups_bx_filter {σ : FS} {l : List Upd} {p : Upd → Bool} {b : Nat} (h : ∀ u ∈ l, (∃ c, u = .B b c) → p u = true) : (σ.ups (l.filter p)).bx b = (σ.ups l).bx b := by
  induction l generalizing σ with
  | nil => rfl
  | cons u l ih =>
    have ih' := fun τ => ih (σ := τ) fun v hv => h v (List.mem_cons_of_mem _ hv)
    rw [List.filter_cons]
    split
    · exact ih' (σ.upd u)
    · rename_i hp
      rw [ih']
      show (σ.ups l).bx b = ((σ.upd u).ups l).bx b
      refine ups_bx_at ?_
      cases u with
      | B b' c =>
        have : b ≠ b' := fun e => hp (h _ (List.mem_cons_self ..) ⟨c, by rw [e]⟩)
        simp [FS.upd, FS.setB, this]
      | R b' c => rfl
theorem ups_rw_filter {σ : FS} {l : List Upd} {p : Upd → Bool} {b : Nat} (h : ∀ u ∈ l, (∃ c, u = .R b c) → p u = true) : (σ.ups (l.filter p)).rw b = (σ.ups l).rw b := by
  induction l generalizing σ with
  | nil => rfl
  | cons u l ih =>
    have ih' := fun τ => ih (σ := τ) fun v hv => h v (List.mem_cons_of_mem _ hv)
    rw [List.filter_cons]
    split
    · exact ih' (σ.upd u)
    · rename_i hp
      rw [ih']
      show (σ.ups l).rw b = ((σ.upd u).ups l).rw b
      refine ups_rw_at ?_
      cases u with
      | R b' c =>
        have : b ≠ b' := fun e => hp (h _ (List.mem_cons_self ..) ⟨c, by rw [e]⟩)
        simp [FS.upd, FS.setR, this]
      | B b' c => rfl
theorem ups_bx_touch {σ τ : FS} {l : List Upd} {b : Nat} (h : ∃ u ∈ l, ∃ c, u = .B b c) : (σ.ups l).bx b = (τ.ups l).bx b := by
  induction l generalizing σ τ with
  | nil => obtain ⟨u, hu, _⟩ := h; cases hu
  | cons u l ih =>
    show ((σ.upd u).ups l).bx b = ((τ.upd u).ups l).bx b
    by_cases h2 : ∃ u ∈ l, ∃ c, u = .B b c
    · exact ih h2
    · obtain ⟨v, hv, c, rfl⟩ := h
      rcases List.mem_cons.1 hv with rfl | hv
      · exact ups_bx_at (by simp [FS.upd, FS.setB])
      · exact absurd ⟨_, hv, c, rfl⟩ h2
theorem ups_rw_touch {σ τ : FS} {l : List Upd} {b : Nat} (h : ∃ u ∈ l, ∃ c, u = .R b c) : (σ.ups l).rw b = (τ.ups l).rw b := by
  induction l generalizing σ τ with
  | nil => obtain ⟨u, hu, _⟩ := h; cases hu
  | cons u l ih =>
    show ((σ.upd u).ups l).rw b = ((τ.upd u).ups l).rw b
    by_cases h2 : ∃ u ∈ l, ∃ c, u = .R b c
    · exact ih h2
    · obtain ⟨v, hv, c, rfl⟩ := h
      rcases List.mem_cons.1 hv with rfl | hv
      · exact ups_rw_at (by simp [FS.upd, FS.setR])
      · exact absurd ⟨_, hv, c, rfl⟩ h2
/-- Updates at numbers that do not meet commute. -/
theorem ups_comm {σ : FS} {l m : List Upd} (hB : ∀ b, (∃ u ∈ l, ∃ c, u = .B b c) → (∃ u ∈ m, ∃ c, u = .B b c) → False) (hR : ∀ b, (∃ u ∈ l, ∃ c, u = .R b c) → (∃ u ∈ m, ∃ c, u = .R b c) → False) : (σ.ups l).ups m = (σ.ups m).ups l := by
  refine FS.ext' (fun t => by simp only [ups_tm]) (fun b => ?_) (fun b => ?_)
  · by_cases h1 : ∃ u ∈ l, ∃ c, u = Upd.B b c
    · have h2 : ¬ ∃ u ∈ m, ∃ c, u = Upd.B b c := fun h => hB b h1 h
      rw [ups_bx_ne (l := m) (fun u hu b' c e he => h2 ⟨u, hu, c, by rw [e, he]⟩), ups_bx_touch (σ := σ) (τ := σ.ups m) h1]
    · rw [ups_bx_ne (l := l) (σ := σ.ups m) (fun u hu b' c e he => h1 ⟨u, hu, c, by rw [e, he]⟩)]
      exact ups_bx_at (ups_bx_ne (l := l) (fun u hu b' c e he => h1 ⟨u, hu, c, by rw [e, he]⟩))
  · by_cases h1 : ∃ u ∈ l, ∃ c, u = Upd.R b c
    · have h2 : ¬ ∃ u ∈ m, ∃ c, u = Upd.R b c := fun h => hR b h1 h
      rw [ups_rw_ne (l := m) (fun u hu b' c e he => h2 ⟨u, hu, c, by rw [e, he]⟩), ups_rw_touch (σ := σ) (τ := σ.ups m) h1]
    · rw [ups_rw_ne (l := l) (σ := σ.ups m) (fun u hu b' c e he => h1 ⟨u, hu, c, by rw [e, he]⟩)]
      exact ups_rw_at (ups_rw_ne (l := l) (fun u hu b' c e he => h1 ⟨u, hu, c, by rw [e, he]⟩))
theorem put_ups (σ : FS) (d : Option Nat) (v : AV) (l : List Upd) : (σ.put d v).ups l = (σ.ups l).put d v := by
  refine FS.ext' (fun t => ?_) (fun b => ?_) (fun b => ?_)
  · rw [ups_tm, put_tm, put_tm, ups_tm]
  · rw [(put_bx _ _ _).1]; exact ups_bx_at (by rw [(put_bx _ _ _).1])
  · rw [(put_bx _ _ _).2]; exact ups_rw_at (by rw [(put_bx _ _ _).2])
theorem put_put_comm (σ : FS) (d e : Option Nat) (v u : AV) (h : ∀ t, d = some t → e ≠ some t) : (σ.put d v).put e u = (σ.put e u).put d v := by
  refine FS.ext' (fun t => ?_) (fun b => by simp only [(put_bx _ _ _).1]) (fun b => by simp only [(put_bx _ _ _).2])
  simp only [put_tm]
  by_cases h1 : d = some t
  · have := h t h1; simp [h1, this]
  · simp [h1]

section
variable {P : Program} {bo : Bool} {l : List AO} {T : Nat → FS} {r : Nat → Res} {bb br : Nat → Nat} (tr : Trace P bo l T r bb br) {bef : Nat → List Nat}
  (ind : ∀ (i j : Nat) (x y : AO), i < j → l[i]? = some x → l[j]? = some y → i ∈ bef j ∨ Free bo T r bb br i j x y) {S : Nat → Bool} (cl : ∀ i, S i = true → ∀ k ∈ bef i, S k = true) {j : Nat} {y : AO} (hj : l[j]? = some y) (hSj : S j = false) (hb : ∀ k ∈ bef j, S k = true)
include tr ind hb
omit cl hSj tr in
/-- Ahead of j. -/
theorem ahead {i : Nat} {x : AO} (hi : i < j) (hx : l[i]? = some x) (hj : l[j]? = some y) : S i = true ∨ Free bo T r bb br i j x y := by
  rcases ind i j x y hi hx hj with h | h
  · exact .inl (hb i h)
  · exact .inr h
include cl hSj
omit tr hb in
/-- Behind j. -/
theorem behind {i : Nat} {x : AO} (hi : j < i) (hx : l[i]? = some x) (hj : l[j]? = some y) (hS : S i = true) : Free bo T r bb br j i y x := by
  rcases ind j i y x hi hj hx with h | h
  · have := cl i hS j h; rw [hSj] at this; cases this
  · exact h

theorem gs_tm (hj : l[j]? = some y) {t : Nat} (ht : t ∈ y.looks) : ((GS l (T 0) r bb br) S l.length).tm t = (T j).tm t := by
  have hjl := (List.getElem?_eq_some_iff.1 hj).1
  have h1 : ∀ i, i ≤ j → ((GS l (T 0) r bb br) S i).tm t = (T i).tm t := fun i hi => by
    induction i with
    | zero => rfl
    | succ i ih =>
      have hx := List.getElem?_eq_getElem (show i < l.length by omega)
      obtain ⟨_, s2, _, _⟩ := tr.step i _ hx
      have ih' := ih (by omega)
      simp only [GS]
      rw [s2, put_tm, ups_tm]
      split
      · rw [put_tm, ups_tm, hx, Option.bind_some, ih']
      · rename_i hSi
        rw [ups_tm, ih']
        rcases ahead ind hb (show i < j by omega) hx hj with h | h
        · exact absurd h hSi
        · rw [if_neg fun e => ((dapart_spec h.d).1 t e).1 ht]
  have h2 : ∀ m, j ≤ m → m ≤ l.length → ((GS l (T 0) r bb br) S m).tm t = (T j).tm t := fun m h0 hm => by
    induction m with
    | zero => rw [h1 0 (by omega), show j = 0 by omega]
    | succ m ih =>
      rcases Nat.lt_or_ge m j with hlt | hge
      · rw [h1 (m + 1) (by omega), show m + 1 = j by omega]
      · have hx := List.getElem?_eq_getElem (show m < l.length by omega)
        simp only [GS]
        split
        · rename_i hSm
          rw [put_tm, ups_tm, ih hge (by omega), hx, Option.bind_some]
          have hne : m ≠ j := by rintro rfl; rw [hSj] at hSm; cases hSm
          have := behind ind cl hSj (show j < m by omega) hx hj hSm
          rw [if_neg fun e => ((dapart_spec this.d).2 t e).1 ht]
        · rw [ups_tm, ih hge (by omega)]
  exact h2 l.length (by omega) (Nat.le_refl _)

theorem gs_bx (hj : l[j]? = some y) : SubAt (RdB (lookT (T j).tm) y.ai) (T j).bx ((GS l (T 0) r bb br) S l.length).bx := by
  intro b hb0
  have hjl := (List.getElem?_eq_some_iff.1 hj).1
  have h1 : ∀ i, i ≤ j → ((GS l (T 0) r bb br) S i).bx b = (T i).bx b := fun i hi => by
    induction i with
    | zero => rfl
    | succ i ih =>
      have hx := List.getElem?_eq_getElem (show i < l.length by omega)
      obtain ⟨s1, s2, _, _⟩ := tr.step i _ hx
      simp only [GS]
      rw [s2, (put_bx _ _ _).1]
      split
      · rw [(put_bx _ _ _).1]; exact ups_bx_at (ih (by omega))
      · rename_i hSi
        rw [ups_bx_filter]
        · exact ups_bx_at (ih (by omega))
        · rintro u hu' ⟨c, rfl⟩
          rcases ahead ind hb (show i < j by omega) hx hj with h | h
          · exact absurd h hSi
          · exact (h.u _ hu').elim id fun q => absurd hb0 q
  have h2 : ∀ m, j ≤ m → m ≤ l.length → b < bb j → ((GS l (T 0) r bb br) S m).bx b = (T j).bx b := fun m h0 hm hbj => by
    induction m with
    | zero => rw [h1 0 (by omega), show j = 0 by omega]
    | succ m ih =>
      rcases Nat.lt_or_ge m j with hlt | hge
      · rw [h1 (m + 1) (by omega), show m + 1 = j by omega]
      · have hx := List.getElem?_eq_getElem (show m < l.length by omega)
        obtain ⟨s1, s2, _, _⟩ := tr.step m _ hx
        have hm1 := (tr.mono hge (by omega)).1
        simp only [GS]
        split
        · rename_i hSm
          have hne : m ≠ j := by rintro rfl; rw [hSj] at hSm; cases hSm
          have h := behind ind cl hSj (show j < m by omega) hx hj hSm
          rw [(put_bx _ _ _).1, ups_bx_ne, ih hge (by omega)]
          rintro u hu' b' c rfl rfl
          rcases h.v _ hu' with e | e
          · simp [isNew] at e; omega
          · exact e.1 hb0
        · rw [ups_bx_ne, ih hge (by omega)]
          rintro u hu' b' c rfl rfl
          have := (List.mem_filter.1 hu').2
          simp [isNew] at this; omega
  intro c e
  rw [h2 l.length (by omega) (Nat.le_refl _) ((tr.bnd j (by omega)).1 b c e)]; exact e
theorem gs_rw (hj : l[j]? = some y) : SubAt (RdR bo (lookT (T j).tm) y.ai) (T j).rw ((GS l (T 0) r bb br) S l.length).rw := by
  intro b hb0
  have hjl := (List.getElem?_eq_some_iff.1 hj).1
  have h1 : ∀ i, i ≤ j → ((GS l (T 0) r bb br) S i).rw b = (T i).rw b := fun i hi => by
    induction i with
    | zero => rfl
    | succ i ih =>
      have hx := List.getElem?_eq_getElem (show i < l.length by omega)
      obtain ⟨s1, s2, _, _⟩ := tr.step i _ hx
      simp only [GS]
      rw [s2, (put_bx _ _ _).2]
      split
      · rw [(put_bx _ _ _).2]; exact ups_rw_at (ih (by omega))
      · rename_i hSi
        rw [ups_rw_filter]
        · exact ups_rw_at (ih (by omega))
        · rintro u hu' ⟨c, rfl⟩
          rcases ahead ind hb (show i < j by omega) hx hj with h | h
          · exact absurd h hSi
          · exact (h.u _ hu').elim id fun q => absurd hb0 q
  have h2 : ∀ m, j ≤ m → m ≤ l.length → b < br j → ((GS l (T 0) r bb br) S m).rw b = (T j).rw b := fun m h0 hm hbj => by
    induction m with
    | zero => rw [h1 0 (by omega), show j = 0 by omega]
    | succ m ih =>
      rcases Nat.lt_or_ge m j with hlt | hge
      · rw [h1 (m + 1) (by omega), show m + 1 = j by omega]
      · have hx := List.getElem?_eq_getElem (show m < l.length by omega)
        obtain ⟨s1, s2, _, _⟩ := tr.step m _ hx
        have hm1 := (tr.mono hge (by omega)).2
        simp only [GS]
        split
        · rename_i hSm
          have hne : m ≠ j := by rintro rfl; rw [hSj] at hSm; cases hSm
          have h := behind ind cl hSj (show j < m by omega) hx hj hSm
          rw [(put_bx _ _ _).2, ups_rw_ne, ih hge (by omega)]
          rintro u hu' b' c rfl rfl
          rcases h.v _ hu' with e | e
          · simp [isNew] at e; omega
          · exact e.1 hb0
        · rw [ups_rw_ne, ih hge (by omega)]
          rintro u hu' b' c rfl rfl
          have := (List.mem_filter.1 hu').2
          simp [isNew] at this; omega
  intro c e
  rw [h2 l.length (by omega) (Nat.le_refl _) ((tr.bnd j (by omega)).2 b c e)]; exact e

/-- j done, too. -/
theorem gs_done (hj : l[j]? = some y) : (((GS l (T 0) r bb br) S l.length).ups (r j).up).put y.dst (r j).av = (GS l (T 0) r bb br) (fun i => S i || i == j) l.length := by
  have hjl := (List.getElem?_eq_some_iff.1 hj).1
  obtain ⟨sj1, sj2, sj3, sj4⟩ := tr.step j y hj
  have hupj := stepR_up sj1
  have hnumj := stepR_num sj1
  have hbnd := tr.bnd j (by omega)
  have h1 : ∀ i, i ≤ j → (GS l (T 0) r bb br) (fun i => S i || i == j) i = (GS l (T 0) r bb br) S i := fun i hi => by
    induction i with
    | zero => rfl
    | succ i ih =>
      simp only [GS]
      rw [ih (by omega)]
      have : (i == j) = false := by simp; omega
      simp only [this, Bool.or_false]
  -- the numbers of j's updates
  have nB : ∀ b, (∃ u ∈ (r j).up, ∃ c, u = Upd.B b c) → b < bb (j + 1) := by
    rintro b ⟨u, hu, c, rfl⟩
    rcases hupj _ hu with ⟨e, c2, h⟩ | e
    · have := hbnd.1 b c2 h; omega
    · omega
  have nR : ∀ b, (∃ u ∈ (r j).up, ∃ c, u = Upd.R b c) → b < br (j + 1) := by
    rintro b ⟨u, hu, c, rfl⟩
    rcases hupj _ hu with ⟨e, c2, h⟩ | e
    · have := hbnd.2 b c2 h; omega
    · omega
  have h2 : ∀ m, j + 1 ≤ m → m ≤ l.length → (GS l (T 0) r bb br) (fun i => S i || i == j) m = (((GS l (T 0) r bb br) S m).ups (r j).up).put y.dst (r j).av := fun m h0 hm => by
    induction m with
    | zero => omega
    | succ m ih =>
      rcases Nat.lt_or_ge m (j + 1) with hlt | hge
      · have hmj : m = j := by omega
        subst hmj
        simp only [GS]
        rw [if_pos (by simp), if_neg (by rw [hSj]; simp), h1 m (Nat.le_refl _), hj, Option.bind_some]
        congr 1
        refine FS.ext' (fun t => by simp only [ups_tm]) (fun b => ?_) (fun b => ?_)
        · by_cases ht : ∃ u ∈ (r m).up, ∃ c, u = Upd.B b c
          · exact ups_bx_touch ht
          · refine ups_bx_at (ups_bx_ne fun u hu b' c e he => ht ⟨u, (List.mem_filter.1 hu).1, c, by rw [e, he]⟩).symm
        · by_cases ht : ∃ u ∈ (r m).up, ∃ c, u = Upd.R b c
          · exact ups_rw_touch ht
          · refine ups_rw_at (ups_rw_ne fun u hu b' c e he => ht ⟨u, (List.mem_filter.1 hu).1, c, by rw [e, he]⟩).symm
      · have hx := List.getElem?_eq_getElem (show m < l.length by omega)
        obtain ⟨s1, _, _, _⟩ := tr.step m _ hx
        have hupm := stepR_up s1
        have hmono := tr.mono hge (by omega)
        have hne : (m == j) = false := by simp; omega
        simp only [GS]
        rw [ih hge (by omega)]
        simp only [hne, Bool.or_false]
        split
        · rename_i hSm
          have fr := behind ind cl hSj (show j < m by omega) hx hj hSm
          rw [hx, Option.bind_some, put_ups, put_ups, put_put_comm _ _ _ _ _ (fun t e => ((dapart_spec fr.d).1 t e).2)]
          congr 2
          refine ups_comm (fun b hb1 hb2 => ?_) (fun b hb1 hb2 => ?_)
          · have q1 := nB b hb1
            obtain ⟨u, hu, c, rfl⟩ := hb2
            obtain ⟨u', hu', c', rfl⟩ := hb1
            rcases fr.v _ hu with e | e
            · simp [isNew] at e; omega
            · exact e.2 _ hu' rfl
          · have q1 := nR b hb1
            obtain ⟨u, hu, c, rfl⟩ := hb2
            obtain ⟨u', hu', c', rfl⟩ := hb1
            rcases fr.v _ hu with e | e
            · simp [isNew] at e; omega
            · exact e.2 _ hu' rfl
        · rw [put_ups]
          congr 1
          refine ups_comm (fun b hb1 hb2 => ?_) (fun b hb1 hb2 => ?_)
          · have q1 := nB b hb1
            obtain ⟨u, hu, c, rfl⟩ := hb2
            have := (List.mem_filter.1 hu).2
            simp [isNew] at this; omega
          · have q1 := nR b hb1
            obtain ⟨u, hu, c, rfl⟩ := hb2
            have := (List.mem_filter.1 hu).2
            simp [isNew] at this; omega
  exact (h2 l.length (by omega) (Nat.le_refl _)).symm
/-- The step of j, from there. -/
theorem gs_step (hj : l[j]? = some y) : StepR P bo ((GS l (T 0) r bb br) S l.length) (bb j) (br j) y (r j) :=
  stepR_mono (fun t ht => gs_tm tr ind cl hSj hb hj ht) (gs_bx tr ind cl hSj hb hj) (gs_rw tr ind cl hSj hb hj) (tr.step j y hj).1
end
end Go.Proofs.Ytiejnmbpejfpgaa
