/- WheelPlays: the plain law: timers in order, and in the order in which they were set. -/
import Derived.Test.YtbkekpecfgmelaaWq1
import Derived.Test.YtbkekpecfgmelaaWr1
namespace Go.Proofs.Ytbkekpecfgmelaa
open Go.RowKit
set_option linter.unusedVariables false
set_option linter.unusedSimpArgs false
def Srt (l : List Tmr) : Prop := l.Pairwise fun a b => a.at_ ≤ b.at_
theorem insGo_spec (l : List Tmr) (a : Int) : ∀ i : Nat, i ≤ l.length →
    (∀ (k : Nat) (h : k < l.length), insGo l a i ≤ k → k < i → a < l[k].at_) ∧ (0 < insGo l a i → ∃ h : insGo l a i - 1 < l.length, (l[insGo l a i - 1]'h).at_ ≤ a)
  | 0, _ => ⟨fun k h _ q => absurd q (Nat.not_lt_zero _), fun h => absurd h (Nat.not_lt_zero _)⟩
  | i + 1, h => by
    obtain ⟨h1, h2⟩ := insGo_spec l a i (by omega)
    have hg : l.getD i ⟨0, 0⟩ = l[i] := getD_lt l _ (by omega)
    have e : insGo l a (i + 1) = if a < l[i].at_ then insGo l a i else i + 1 := by
      conv => lhs; unfold insGo
      rw [hg]
    by_cases q : a < l[i].at_
    · rw [if_pos q] at e
      rw [e]
      refine ⟨fun k hk q1 q2 => ?_, h2⟩
      rcases Nat.lt_or_ge k i with q3 | q3
      · exact h1 k hk q1 q3
      · obtain rfl : k = i := by omega
        exact q
    · rw [if_neg q] at e
      rw [e]
      refine ⟨fun k hk q1 q2 => by omega, fun _ => ⟨by omega, ?_⟩⟩
      simp only [Nat.add_sub_cancel]
      omega
theorem cut_at {l : List Tmr} (hl : Srt l) (a : Int) : (∀ x ∈ l.take (insPos l a), x.at_ ≤ a) ∧ ∀ x ∈ l.drop (insPos l a), a < x.at_ := by
  obtain ⟨h1, h2⟩ := insGo_spec l a l.length (Nat.le_refl _)
  have hp : insGo l a l.length = insPos l a := rfl
  rw [hp] at h1
  have hs := List.pairwise_iff_getElem.1 hl
  constructor
  · intro x hx
    obtain ⟨k, hk, rfl⟩ := List.mem_take_iff_getElem.1 hx
    have hk1 : k < insPos l a := by omega
    obtain ⟨h3, h4⟩ := h2 (by rw [hp]; omega)
    simp only [hp] at h3 h4
    rcases Nat.lt_or_ge k (insPos l a - 1) with q | q
    · exact Int.le_trans (hs k _ (by omega) h3 q) h4
    · have e : k = insPos l a - 1 := by omega
      subst e; exact h4
  · intro x hx
    obtain ⟨k, hk, rfl⟩ := List.mem_drop_iff_getElem.1 hx
    exact h1 _ (by omega) (by omega) (by omega)
theorem le_part {l : List Tmr} (hl : Srt l) (a : Int) : l.filter (fun x => decide (x.at_ ≤ a)) = l.take (insPos l a) := by
  obtain ⟨h1, h2⟩ := cut_at hl a
  conv => lhs; rw [← List.take_append_drop (insPos l a) l]
  rw [List.filter_append, List.filter_eq_self.2 (fun x hx => by simpa using h1 x hx), List.filter_eq_nil_iff.2 (fun x hx => by have := h2 x hx; simp; omega), List.append_nil]
theorem gt_part {l : List Tmr} (hl : Srt l) (a : Int) : l.filter (fun x => decide (a < x.at_)) = l.drop (insPos l a) := by
  obtain ⟨h1, h2⟩ := cut_at hl a
  conv => lhs; rw [← List.take_append_drop (insPos l a) l]
  rw [List.filter_append, List.filter_eq_nil_iff.2 (fun x hx => by have := h1 x hx; simp; omega), List.filter_eq_self.2 (fun x hx => by simpa using h2 x hx), List.nil_append]
theorem ins_eq {l : List Tmr} (hl : Srt l) (t : Tmr) : ins l t = l.filter (fun x => decide (x.at_ ≤ t.at_)) ++ t :: l.filter (fun x => decide (t.at_ < x.at_)) := by
  rw [le_part hl, gt_part hl]; rfl
theorem parts {l : List Tmr} (hl : Srt l) (a : Int) : l.filter (fun x => decide (x.at_ ≤ a)) ++ l.filter (fun x => decide (a < x.at_)) = l := by
  rw [le_part hl, gt_part hl, List.take_append_drop]
theorem ins_srt {l : List Tmr} (hl : Srt l) (t : Tmr) : Srt (ins l t) := by
  rw [ins_eq hl]
  unfold Srt
  rw [List.pairwise_append, List.pairwise_cons]
  refine ⟨List.Pairwise.filter _ hl, ⟨fun x hx => ?_, List.Pairwise.filter _ hl⟩, fun x hx y hy => ?_⟩
  · have := (List.mem_filter.1 hx).2; simp at this; omega
  · have h1 := (List.mem_filter.1 hx).2
    simp at h1
    rcases List.mem_cons.1 hy with rfl | hy
    · exact h1
    · have h2 := (List.mem_filter.1 hy).2
      simp at h2; omega
theorem filter_ins {l : List Tmr} (hl : Srt l) (t : Tmr) (f : Tmr → Bool) : (ins l t).filter f = if f t then ins (l.filter f) t else l.filter f := by
  rw [ins_eq hl, List.filter_append, List.filter_cons]
  have hc : ∀ g : Tmr → Bool, (l.filter g).filter f = (l.filter f).filter g := fun g => by
    rw [List.filter_filter, List.filter_filter]
    congr 1; funext x; exact Bool.and_comm _ _
  split
  · rw [ins_eq (List.Pairwise.filter _ hl), hc, hc]
  · rw [hc, hc, parts (List.Pairwise.filter _ hl)]
theorem foldl_srt : ∀ (s l : List Tmr), Srt l → Srt (s.foldl ins l)
  | [], l, h => h
  | t :: s, l, h => foldl_srt s _ (ins_srt h t)
theorem srt_srt (s : List Tmr) : Srt (srt s) := foldl_srt s [] List.Pairwise.nil
theorem foldl_filter (f : Tmr → Bool) : ∀ (s l : List Tmr), Srt l → (s.foldl ins l).filter f = (s.filter f).foldl ins (l.filter f)
  | [], l, h => rfl
  | t :: s, l, h => by
    rw [List.foldl_cons, foldl_filter f s _ (ins_srt h t), filter_ins h, List.filter_cons]
    split <;> rfl
theorem srt_filter (f : Tmr → Bool) (s : List Tmr) : (srt s).filter f = srt (s.filter f) := foldl_filter f s [] List.Pairwise.nil
theorem mem_ins' {l : List Tmr} {t x : Tmr} : x ∈ ins l t ↔ x = t ∨ x ∈ l := by
  refine ⟨mem_ins, fun h => ?_⟩
  unfold ins
  rcases h with rfl | h
  · simp
  · rw [← List.take_append_drop (insPos l t.at_) l] at h
    rcases List.mem_append.1 h with h | h
    · exact List.mem_append_left _ h
    · exact List.mem_append_right _ (List.mem_cons_of_mem _ h)
theorem mem_foldl {x : Tmr} : ∀ (s l : List Tmr), x ∈ s.foldl ins l ↔ x ∈ l ∨ x ∈ s
  | [], l => by simp
  | t :: s, l => by
    rw [List.foldl_cons, mem_foldl s, mem_ins', List.mem_cons]
    constructor
    · rintro ((h | h) | h) <;> simp [h]
    · rintro (h | h | h) <;> simp [h]
theorem mem_srt {x : Tmr} (s : List Tmr) : x ∈ srt s ↔ x ∈ s := by unfold srt; rw [mem_foldl]; simp
theorem insGo_top (l : List Tmr) (a : Int) (h : ∀ x ∈ l, x.at_ ≤ a) : ∀ i : Nat, i ≤ l.length → insGo l a i = i
  | 0, _ => rfl
  | i + 1, hi => by
    have hg : l.getD i ⟨0, 0⟩ = l[i] := getD_lt l _ (by omega)
    have := h l[i] (List.getElem_mem (by omega))
    unfold insGo
    rw [hg, if_neg (by omega)]
theorem ins_top (l : List Tmr) (t : Tmr) (h : ∀ x ∈ l, x.at_ ≤ t.at_) : ins l t = l ++ [t] := by
  have : insPos l t.at_ = l.length := insGo_top l _ h _ (Nat.le_refl _)
  unfold ins
  rw [this, List.take_length, List.drop_length]
theorem foldl_const (a : Int) : ∀ (s l : List Tmr), (∀ x ∈ l, x.at_ = a) → (∀ x ∈ s, x.at_ = a) → s.foldl ins l = l ++ s
  | [], l, _, _ => by simp
  | t :: s, l, h1, h2 => by
    have ht := h2 t (List.mem_cons_self ..)
    rw [List.foldl_cons, ins_top l t (fun x hx => by have := h1 x hx; omega), foldl_const a s _ (fun x hx => ?_) (fun x hx => h2 x (List.mem_cons_of_mem _ hx)), List.append_assoc]
    · rfl
    · rcases List.mem_append.1 hx with hx | hx
      · exact h1 x hx
      · rw [List.mem_singleton.1 hx]; exact ht
theorem srt_const (a : Int) (s : List Tmr) (h : ∀ x ∈ s, x.at_ = a) : srt s = s := by
  unfold srt; rw [foldl_const a s [] (fun x hx => by cases hx) h]; rfl
def Dif (l : List Tmr) : Prop := l.Pairwise fun a b => a.id ≠ b.id
theorem ins_dif {l : List Tmr} {t : Tmr} (hl : Dif l) (h : ∀ x ∈ l, x.id ≠ t.id) : Dif (ins l t) := by
  unfold Dif at hl ⊢
  unfold ins
  rw [← List.take_append_drop (insPos l t.at_) l, List.pairwise_append] at hl
  rw [List.pairwise_append, List.pairwise_cons]
  refine ⟨hl.1, ⟨fun x hx => Ne.symm (h x (List.mem_of_mem_drop hx)), hl.2.1⟩, fun x hx y hy => ?_⟩
  rcases List.mem_cons.1 hy with rfl | hy
  · exact h x (List.mem_of_mem_take hx)
  · exact hl.2.2 x hx y hy
theorem foldl_dif : ∀ (s l : List Tmr), Dif l → Dif s → (∀ x ∈ l, ∀ y ∈ s, x.id ≠ y.id) → Dif (s.foldl ins l)
  | [], l, h, _, _ => h
  | t :: s, l, h, hs, hc => by
    have hs := List.pairwise_cons.1 hs
    refine foldl_dif s _ (ins_dif h fun x hx => hc x hx t (List.mem_cons_self ..)) hs.2 fun x hx y hy => ?_
    rcases mem_ins hx with rfl | hx
    · exact hs.1 y hy
    · exact hc x hx y (List.mem_cons_of_mem _ hy)
theorem srt_dif {s : List Tmr} (h : Dif s) : Dif (srt s) := foldl_dif s [] List.Pairwise.nil h fun x hx => by cases hx
structure WOk (now : Int) (s : List Tmr) (n : Nat) : Prop where
  n0 : 0 ≤ now ∧ now ≤ 2305843009213693952 + n
  l0 : s.length ≤ 64
  b : ∀ t ∈ s, now < t.at_
  d : Dif s
theorem WOk.right {now : Int} {s : List Tmr} {n : Nat} (h : WOk now s n) (hn : n ≤ 1000) : WR now (srt s) := by
  have h1 := h.n0
  refine ⟨fun i hi => ⟨h.b _ ((mem_srt s).1 (List.getElem_mem hi)), fun h0 => ?_, ?_⟩, by rw [srt_len]; exact h.l0, by omega⟩
  · rw [getD_lt _ _ (show i - 1 < (srt s).length by omega)]
    exact List.pairwise_iff_getElem.1 (srt_srt s) _ _ _ _ (by omega)
  · rw [any_take]
    intro j hj q
    exact List.pairwise_iff_getElem.1 (srt_dif h.d) _ _ _ _ q
theorem wout_srt (s : List Tmr) (b : Int) : wout (srt s) b = srt (wout s b) := srt_filter _ s
theorem wset_srt (now : Int) (s : List Tmr) (b after : Int) : wset now (srt s) b after = (srt (rset now s b after).1, (rset now s b after).2) := by
  unfold wset rset
  rw [wout_srt, srt_len]
  split
  · rfl
  split
  · rfl
  · rw [srt_snoc]
theorem WOk.set {now : Int} {s : List Tmr} {n : Nat} (h : WOk now s n) (b after : Int) : WOk now (rset now s b after).1 (n + 1) := by
  have h1 := h.n0; have h2 := h.l0
  unfold rset
  split
  · exact ⟨by omega, h2, h.b, h.d⟩
  split
  · exact ⟨by omega, h2, h.b, h.d⟩
  · rename_i q
    refine ⟨by omega, by simp; omega, fun t ht => ?_, ?_⟩
    · rcases List.mem_append.1 ht with ht | ht
      · exact h.b t (List.mem_filter.1 ht).1
      · rw [List.mem_singleton.1 ht]; dsimp only; omega
    · unfold Dif
      rw [List.pairwise_append]
      refine ⟨List.Pairwise.filter _ h.d, List.pairwise_singleton _ _, fun x hx y hy => ?_⟩
      rw [List.mem_singleton.1 hy]
      have := (List.mem_filter.1 hx).2
      simpa using this
theorem WOk.stop {now : Int} {s : List Tmr} {n : Nat} (h : WOk now s n) (b : Int) : WOk now (wout s b) (n + 1) := by
  have h1 := h.n0; have h2 := h.l0; have := wout_len s b
  exact ⟨by omega, by omega, fun t ht => h.b t (List.mem_filter.1 ht).1, List.Pairwise.filter _ h.d⟩
theorem WOk.tick {now : Int} {s : List Tmr} {n : Nat} (h : WOk now s n) : WOk (now + 1) (rrest (now + 1) s) (n + 1) := by
  have h1 := h.n0; have h2 := h.l0
  have h3 : (rrest (now + 1) s).length ≤ s.length := List.length_filter_le _ _
  refine ⟨by omega, by omega, fun t ht => ?_, List.Pairwise.filter _ h.d⟩
  have h4 := h.b t (List.mem_filter.1 ht).1
  have h5 := (List.mem_filter.1 ht).2
  simp at h5; omega
theorem tick_parts (n : Int) : ∀ l : List Tmr, Srt l → (∀ x ∈ l, n ≤ x.at_) → l.take (tickK n l) = rdue n l ∧ l.drop (tickK n l) = rrest n l
  | [], _, _ => ⟨rfl, rfl⟩
  | x :: l, hs, hb => by
    have hs := List.pairwise_cons.1 hs
    have hx := hb x (List.mem_cons_self ..)
    obtain ⟨i1, i2⟩ := tick_parts n l hs.2 fun y hy => hb y (List.mem_cons_of_mem _ hy)
    by_cases q : x.at_ = n
    · have e : tickK n (x :: l) = tickK n l + 1 := by unfold tickK; rw [List.takeWhile_cons, if_pos (by simp; omega)]; rfl
      rw [e, List.take_succ_cons, List.drop_succ_cons, i1, i2]
      unfold rdue rrest
      rw [List.filter_cons, List.filter_cons, if_pos (by simpa using q), if_neg (by simpa using q)]
      exact ⟨rfl, rfl⟩
    · have e : tickK n (x :: l) = 0 := by unfold tickK; rw [List.takeWhile_cons, if_neg (by simp; omega)]; rfl
      have ha : ∀ y ∈ x :: l, ¬ y.at_ = n := fun y hy => by
        rcases List.mem_cons.1 hy with rfl | hy
        · exact q
        · have := hs.1 y hy; omega
      rw [e, List.take_zero, List.drop_zero]
      unfold rdue rrest
      rw [List.filter_eq_nil_iff.2 (fun y hy => by simpa using ha y hy), List.filter_eq_self.2 (fun y hy => by simpa using ha y hy)]
      exact ⟨rfl, rfl⟩
theorem tick_srt {now : Int} {s : List Tmr} {n : Nat} (h : WOk now s n) : (srt s).take (tickK (now + 1) (srt s)) = rdue (now + 1) s ∧ (srt s).drop (tickK (now + 1) (srt s)) = srt (rrest (now + 1) s) := by
  obtain ⟨h1, h2⟩ := tick_parts (now + 1) (srt s) (srt_srt s) fun x hx => by have := h.b x ((mem_srt s).1 hx); omega
  rw [h1, h2]
  unfold rdue rrest
  rw [srt_filter, srt_filter]
  exact ⟨srt_const (now + 1) _ fun x hx => by simpa using (List.mem_filter.1 hx).2, rfl⟩
def isIt (b a : Int) (t : Tmr) : Bool := decide (t.id = b) && decide (t.at_ = a)
theorem due_srt (s : List Tmr) (b : Int) : (wdue (srt s) b).2 = s.any (isIt b (wdue (srt s) b).1) ∧ ((wdue (srt s) b).2 = false → (wdue (srt s) b).1 = 0) := by
  unfold wdue
  cases hf : (srt s).find? (fun x => decide (x.id = b)) with
  | none =>
    refine ⟨?_, fun _ => rfl⟩
    symm
    rw [List.any_eq_false]
    intro x hx
    have := List.find?_eq_none.1 hf x ((mem_srt s).2 hx)
    simp at this
    simp [isIt, this]
  | some x =>
    refine ⟨?_, fun h => by cases h⟩
    symm
    rw [List.any_eq_true]
    refine ⟨x, (mem_srt s).1 (List.mem_of_find?_eq_some hf), ?_⟩
    have := List.find?_some hf
    simp at this
    simp [isIt, this]
end Go.Proofs.Ytbkekpecfgmelaa
