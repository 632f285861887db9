/- RouteOrder, plain: routes that are added in another order. -/
import Derived.Test.YteljhabahaimpaaRse
namespace Go.Proofs.Yteljhabahaimpaa
open Go.RowKit
set_option linter.unusedVariables false
set_option linter.unusedSimpArgs false
set_option maxRecDepth 100000
set_option maxHeartbeats 4000000
def aF (l : List Rt) : List Rt := l.foldl (fun a r => (radd a r).l) []
theorem aF_take (l : List Rt) (i : Nat) (h : i < l.length) : aF (l.take (i + 1)) = (radd (aF (l.take i)) l[i]).l := by
  rw [List.take_succ_eq_append_getElem h]
  unfold aF
  rw [List.foldl_append]; rfl
theorem radd_cases (l : List Rt) (r : Rt) : ((radd l r).l = l) ∨ ((0 ≤ r.b ∧ r.b ≤ 32) ∧ fnd l r.m.key = false ∧ l.length < 8 ∧ (radd l r).l = l.take (pos l r.m.key) ++ r.m :: l.drop (pos l r.m.key)) := by
  unfold radd
  by_cases h1 : r.b < 0 ∨ 32 < r.b
  · rw [if_pos h1]; exact .inl rfl
  rw [if_neg h1]
  cases hf : fnd l r.m.key
  · rw [if_neg (by decide)]
    by_cases h8 : 8 ≤ l.length
    · rw [if_pos h8]; exact .inl rfl
    · rw [if_neg h8]; exact .inr ⟨by omega, rfl, by omega, rfl⟩
  · rw [if_pos rfl]; exact .inl rfl
theorem radd_good {l : List Rt} {r : Rt} (hb : 0 ≤ r.b ∧ r.b ≤ 32) (hf : fnd l r.m.key = false) (h8 : l.length < 8) : (radd l r).l = l.take (pos l r.m.key) ++ r.m :: l.drop (pos l r.m.key) := by
  unfold radd
  rw [if_neg (by omega), hf, if_neg (by decide), if_neg (by omega)]
theorem ins_len (l : List Rt) (p : Nat) (x : Rt) (h : p ≤ l.length) : (l.take p ++ x :: l.drop p).length = l.length + 1 := by simp; omega
theorem ins_mem (l : List Rt) (p : Nat) (x z : Rt) : z ∈ l.take p ++ x :: l.drop p ↔ z = x ∨ z ∈ l := by
  have e : z ∈ l ↔ z ∈ l.take p ∨ z ∈ l.drop p := by
    conv => lhs; rw [← List.take_append_drop p l]
    exact List.mem_append
  rw [e, List.mem_append, List.mem_cons]
  constructor
  · rintro (h | h | h)
    · exact .inr (.inl h)
    · exact .inl h
    · exact .inr (.inr h)
  · rintro (h | h | h)
    · exact .inr (.inl h)
    · exact .inl h
    · exact .inr (.inr h)
theorem fnd_iff {l : List Rt} {k : Int} : fnd l k = true ↔ ∃ x ∈ l, x.key = k := by
  unfold fnd; simp
theorem aF_RI {l : List Rt} (h : ∀ r ∈ l, r.Ok) : ∀ i : Nat, i ≤ l.length → RI (aF (l.take i))
  | 0, _ => ⟨(fun r h => by cases h), srt_nil, (fun r h => by cases h), Nat.zero_le _⟩
  | i + 1, hi => by
    rw [aF_take l i (by omega)]
    exact radd_RI (aF_RI h i (by omega)) (h _ (List.getElem_mem _))
theorem radd_len (l : List Rt) (r : Rt) : (radd l r).l.length ≤ l.length + 1 := by
  rcases radd_cases l r with q | ⟨_, _, _, q⟩
  · rw [q]; omega
  · rw [q, ins_len _ _ _ (pos_le _ _)]; exact Nat.le_refl _
def MemTo (l : List Rt) (i : Nat) : Prop := ∀ x, x ∈ aF (l.take i) ↔ ∃ j : Nat, ∃ h : j < l.length, j < i ∧ x = l[j].m
theorem mem_step {l : List Rt} {i : Nat} (hi : i < l.length) (hm : MemTo l i) (h : (radd (aF (l.take i)) l[i]).l = (aF (l.take i)).take (pos (aF (l.take i)) l[i].m.key) ++ l[i].m :: (aF (l.take i)).drop (pos (aF (l.take i)) l[i].m.key)) : MemTo l (i + 1) := by
  intro x
  rw [aF_take l i hi, h, ins_mem]
  constructor
  · rintro (rfl | q)
    · exact ⟨i, hi, by omega, rfl⟩
    · obtain ⟨j, hj, h1, h2⟩ := (hm x).1 q
      exact ⟨j, hj, by omega, h2⟩
  · rintro ⟨j, hj, h1, rfl⟩
    rcases Nat.lt_or_ge j i with q | q
    · exact .inr ((hm _).2 ⟨j, hj, q, rfl⟩)
    · obtain rfl : j = i := by omega
      exact .inl rfl
theorem mem_0 (l : List Rt) : MemTo l 0 := fun x => ⟨(fun h => by cases h), (fun ⟨j, _, h, _⟩ => by omega)⟩
/-- All were added: each can be, and no two are alike. -/
theorem order_conv {l : List Rt} (h : (aF l).length = l.length) : ∀ i : Nat, i ≤ l.length → (aF (l.take i)).length = i ∧ MemTo l i ∧ (∀ k (hk : k < l.length), k < i → 0 ≤ l[k].b ∧ l[k].b ≤ 32) ∧ (∀ j k (hj : j < l.length) (hk : k < l.length), j < k → k < i → l[j].m.key ≠ l[k].m.key) := by
  have hlow : ∀ d i : Nat, i + d = l.length → l.length ≤ (aF (l.take i)).length + d := by
    intro d
    induction d with
    | zero =>
      intro i hi
      rw [List.take_of_length_le (by omega), h]; omega
    | succ d ih =>
      intro i hi
      have := ih (i + 1) (by omega)
      rw [aF_take l i (by omega)] at this
      have := radd_len (aF (l.take i)) l[i]
      omega
  intro i
  induction i with
  | zero => exact fun _ => ⟨rfl, mem_0 l, (fun k _ h => absurd h (Nat.not_lt_zero _)), (fun j k _ _ _ h => absurd h (Nat.not_lt_zero _))⟩
  | succ i ih =>
    intro hi
    obtain ⟨h1, h2, h3, h4⟩ := ih (by omega)
    have h5 := hlow (l.length - (i + 1)) (i + 1) (by omega)
    rw [aF_take l i (by omega)] at h5
    rcases radd_cases (aF (l.take i)) l[i] with q | ⟨q1, q2, q3, q4⟩
    · rw [q] at h5; omega
    · refine ⟨?_, mem_step (by omega) h2 q4, fun k hk hki => ?_, fun j k hj hk hjk hki => ?_⟩
      · rw [aF_take l i (by omega), q4, ins_len _ _ _ (pos_le _ _), h1]
      · rcases Nat.lt_or_ge k i with g | g
        · exact h3 k hk g
        · obtain rfl : k = i := by omega
          exact q1
      · rcases Nat.lt_or_ge k i with g | g
        · exact h4 j k hj hk hjk g
        · obtain rfl : k = i := by omega
          intro e
          have := fnd_iff.2 ⟨_, (h2 l[j].m).2 ⟨j, hj, hjk, rfl⟩, e⟩
          rw [this] at q2; cases q2
theorem order_run {l : List Rt} (hb : ∀ k (hk : k < l.length), 0 ≤ l[k].b ∧ l[k].b ≤ 32) (hd : ∀ j k (hj : j < l.length) (hk : k < l.length), j < k → l[j].m.key ≠ l[k].m.key) (h8 : l.length ≤ 8) : ∀ i : Nat, i ≤ l.length → (aF (l.take i)).length = i ∧ MemTo l i := by
  intro i
  induction i with
  | zero => exact fun _ => ⟨rfl, mem_0 l⟩
  | succ i ih =>
    intro hi
    obtain ⟨h1, h2⟩ := ih (by omega)
    have hf : fnd (aF (l.take i)) l[i].m.key = false := by
      rw [Bool.eq_false_iff]
      intro q
      obtain ⟨x, hx, hk⟩ := fnd_iff.1 q
      obtain ⟨j, hj, hji, rfl⟩ := (h2 x).1 hx
      exact hd j i hj (by omega) hji hk
    have q := radd_good (hb i (by omega)) hf (by omega)
    refine ⟨?_, mem_step (by omega) h2 q⟩
    rw [aF_take l i (by omega), q, ins_len _ _ _ (pos_le _ _), h1]
theorem srt_ext : ∀ {a b : List Rt}, a.Pairwise (fun x y => x.key < y.key) → b.Pairwise (fun x y => x.key < y.key) → (∀ x, x ∈ a ↔ x ∈ b) → a = b
  | [], [], _, _, _ => rfl
  | [], y :: b, _, _, h => by have := (h y).2 (List.mem_cons_self ..); cases this
  | x :: a, [], _, _, h => by have := (h x).1 (List.mem_cons_self ..); cases this
  | x :: a, y :: b, ha, hb, h => by
    obtain ⟨a1, a2⟩ := List.pairwise_cons.1 ha
    obtain ⟨b1, b2⟩ := List.pairwise_cons.1 hb
    have hxy : x = y := by
      rcases List.mem_cons.1 ((h x).1 (List.mem_cons_self ..)) with q | q
      · exact q
      · rcases List.mem_cons.1 ((h y).2 (List.mem_cons_self ..)) with g | g
        · exact g.symm
        · have h1 := b1 x q
          have h2 := a1 y g
          omega
    subst hxy
    rw [srt_ext a2 b2 (fun z => ?_)]
    constructor
    · intro hz
      rcases List.mem_cons.1 ((h z).1 (List.mem_cons_of_mem _ hz)) with q | q
      · subst q; have := a1 z hz; omega
      · exact q
    · intro hz
      rcases List.mem_cons.1 ((h z).2 (List.mem_cons_of_mem _ hz)) with q | q
      · subst q; have := b1 z hz; omega
      · exact q
/-- the routes, from another one on -/
def rotL (l : List Rt) (t : Nat) : List Rt := l.drop t ++ l.take t
theorem rot_len (l : List Rt) (t : Nat) (h : t ≤ l.length) : (rotL l t).length = l.length := by unfold rotL; simp; omega
theorem rot_at (l : List Rt) (t i : Nat) (ht : t < l.length) (hi : i < (rotL l t).length) : (rotL l t)[i] = l[(i + t) % l.length]'(Nat.mod_lt _ (by omega)) := by
  have hi2 : i < (l.drop t ++ l.take t).length := hi
  rw [rot_len l t (by omega)] at hi
  show (l.drop t ++ l.take t)[i]'hi2 = _
  rcases Nat.lt_or_ge (i + t) l.length with q | q
  · rw [List.getElem_append_left (by simp; omega), List.getElem_drop]
    congr 1
    rw [Nat.mod_eq_of_lt q]; omega
  · rw [List.getElem_append_right (by simp; omega), List.getElem_take]
    congr 1
    rw [Nat.mod_eq_sub_mod q, Nat.mod_eq_of_lt (by omega)]
    simp; omega
/-- What the law sees, where all were added. -/
theorem order_same {l : List Rt} (hok : ∀ r ∈ l, r.Ok) (h8 : l.length ≤ 8) (h : (aF l).length = l.length) (t : Nat) (ht : t < l.length) : aF (rotL l t) = aF l := by
  obtain ⟨_, m1, hb, hd⟩ := order_conv h l.length (Nat.le_refl _)
  rw [show MemTo l l.length = _ from rfl] at m1
  have hp : (rotL l t).Perm l := by
    have : (l.drop t ++ l.take t).Perm (l.take t ++ l.drop t) := List.perm_append_comm
    rw [List.take_append_drop] at this; exact this
  have hl2 := rot_len l t (by omega)
  have hb2 : ∀ k (hk : k < (rotL l t).length), 0 ≤ (rotL l t)[k].b ∧ (rotL l t)[k].b ≤ 32 := fun k hk => by
    rw [rot_at l t k ht hk]; exact hb _ _ (Nat.mod_lt _ (by omega))
  have hpw : l.Pairwise (fun x y => x.m.key ≠ y.m.key) := by
    rw [List.pairwise_iff_getElem]
    exact fun i j hi hj hij => hd i j hi hj hij (by omega)
  have hpw2 : (rotL l t).Pairwise (fun x y => x.m.key ≠ y.m.key) := (hp.pairwise_iff (fun h => Ne.symm h)).2 hpw
  rw [List.pairwise_iff_getElem] at hpw2
  obtain ⟨_, m2⟩ := order_run hb2 (fun j k hj hk hjk => hpw2 j k hj hk hjk) (by omega) (rotL l t).length (Nat.le_refl _)
  have r1 := aF_RI hok l.length (Nat.le_refl _)
  have hok2 : ∀ r ∈ rotL l t, r.Ok := fun r hr => hok r (hp.mem_iff.1 hr)
  have r2 := aF_RI hok2 (rotL l t).length (Nat.le_refl _)
  have m2' : ∀ x, x ∈ aF ((rotL l t).take (rotL l t).length) ↔ ∃ j : Nat, ∃ h : j < (rotL l t).length, j < (rotL l t).length ∧ x = (rotL l t)[j].m := m2
  have m1' : ∀ x, x ∈ aF (l.take l.length) ↔ ∃ j : Nat, ∃ h : j < l.length, j < l.length ∧ x = l[j].m := m1
  rw [List.take_length] at r1 r2 m1' m2'
  refine srt_ext (srt_pw.1 r2.s) (srt_pw.1 r1.s) fun x => ?_
  rw [m1', m2']
  constructor
  · rintro ⟨j, hj, _, rfl⟩
    obtain ⟨k, hk, e⟩ := List.getElem_of_mem (hp.mem_iff.1 (List.getElem_mem hj))
    exact ⟨k, hk, hk, by rw [e]⟩
  · rintro ⟨j, hj, _, rfl⟩
    obtain ⟨k, hk, e⟩ := List.getElem_of_mem (hp.mem_iff.2 (List.getElem_mem hj))
    exact ⟨k, hk, hk, by rw [e]⟩
end Go.Proofs.Yteljhabahaimpaa
