/- Bridge, plain: what the document keeps is what the bridge learns. -/
import Derived.Test.YtfpgpeomcefkhaaBr8
namespace Go.Proofs.Ytfpgpeomcefkhaa
open Go.RowKit
set_option linter.unusedVariables false
set_option linter.unusedSimpArgs false
set_option maxRecDepth 100000
set_option maxHeartbeats 4000000
theorem is_iff {m : Mac} {x : Lrn} : m.is x = true ↔ x.mac = m := by
  obtain ⟨a0, a1, a2, a3, a4, a5⟩ := m
  unfold Mac.is Lrn.mac
  simp only [Bool.and_eq_true, decide_eq_true_eq, Bool.and_true, Mac.mk.injEq]
theorem is_self (x : Lrn) : x.mac.is x = true := is_iff.2 rfl
theorem kn_full (r out : List Lrn) (h : 16 ≤ out.length) : kn r out = out := by
  cases r with
  | nil => rfl
  | cons x r => unfold kn; rw [if_neg (by omega)]
theorem kn_step {x : Lrn} {r out : List Lrn} (h : out.length < 16) : kn (x :: r) out = kn r (if out.any x.mac.is then out else x :: out) := by
  rw [kn, if_pos h]
theorem kn_15 : ∀ (r out : List Lrn), out.length = 15 → kn r out = out ∨ ∃ y, kn r out = y :: out
  | [], out, _ => .inl rfl
  | x :: r, out, h => by
    unfold kn
    rw [if_pos (by omega)]
    split
    · exact kn_15 r out h
    · exact .inr ⟨x, kn_full r _ (by simp; omega)⟩
def noX (x : Lrn) (b : List Lrn) : List Lrn := b.filter fun z => !x.mac.is z
theorem noX_cons_y {x y : Lrn} (b : List Lrn) (h : x.mac.is y = true) : noX x (y :: b) = noX x b := by unfold noX; simp [h]
theorem noX_cons_n {x y : Lrn} (b : List Lrn) (h : x.mac.is y = false) : noX x (y :: b) = y :: noX x b := by unfold noX; simp [h]
theorem noX_any {x : Lrn} (m : Mac) (h : x.mac ≠ m) (b : List Lrn) : (noX x b ++ [x]).any m.is = b.any m.is := by
  rw [Bool.eq_iff_iff]
  simp only [List.any_eq_true, noX, List.mem_append, List.mem_filter, List.mem_singleton, Bool.not_eq_true']
  constructor
  · rintro ⟨z, (⟨h1, h2⟩ | rfl), h3⟩
    · exact ⟨z, h1, h3⟩
    · exact absurd (is_iff.1 h3) h
  · rintro ⟨z, h1, h3⟩
    refine ⟨z, .inl ⟨h1, ?_⟩, h3⟩
    rw [Bool.eq_false_iff]
    intro h2
    exact h ((is_iff.1 h2).symm.trans (is_iff.1 h3))
theorem noX_none {x : Lrn} {b : List Lrn} (h : b.any x.mac.is = false) : noX x b = b := by
  unfold noX
  rw [List.filter_eq_self]
  intro z hz
  rw [List.any_eq_false] at h
  have := h z hz
  simpa using this
theorem noX_cnt {x : Lrn} {b : List Lrn} : (noX x b).length + b.countP x.mac.is = b.length := by
  unfold noX
  induction b with
  | nil => rfl
  | cons y b ih =>
    cases h : x.mac.is y <;> simp [h] at ih ⊢ <;> omega
theorem cnt_any {x : Lrn} {b : List Lrn} (h : b.any x.mac.is = false) : b.countP x.mac.is = 0 := by
  rw [List.countP_eq_zero]
  rw [List.any_eq_false] at h
  exact h
theorem any_cnt {x : Lrn} {b : List Lrn} (h : b.countP x.mac.is = 0) : b.any x.mac.is = false := by
  rw [List.countP_eq_zero] at h
  rw [List.any_eq_false]
  exact h
theorem kn_rel (x : Lrn) : ∀ (r b : List Lrn), (noX x b).length ≤ 15 → b.countP x.mac.is ≤ 1 → kn r (noX x b ++ [x]) = btail (noX x (kn r b)) ++ [x]
  | [], b, h1, _ => by
    unfold kn btail
    rw [if_neg (by omega)]
  | y :: r, b, h1, h2 => by
    have hc := noX_cnt (x := x) (b := b)
    by_cases h15 : (noX x b).length = 15
    · rw [kn_full _ _ (by simp; omega)]
      by_cases hb : b.length = 16
      · rw [kn_full _ _ (by omega)]
        unfold btail
        rw [if_neg (by omega)]
      · have h0 : b.countP x.mac.is = 0 := by omega
        have hn := noX_none (any_cnt h0)
        rcases kn_15 (y :: r) b (by omega) with q | ⟨z, q⟩
        · rw [q]; unfold btail; rw [if_neg (by omega)]
        · rw [q]
          cases hz : x.mac.is z
          · rw [noX_cons_n b hz]
            unfold btail
            rw [if_pos (by rw [hn]; simp; omega)]; rfl
          · rw [noX_cons_y b hz]
            unfold btail
            rw [if_neg (by omega)]
    · have hl : (noX x b).length < 15 := by omega
      rw [kn_step (by simp; omega), kn_step (by omega)]
      by_cases hy : x.mac = y.mac
      · have e1 : (noX x b ++ [x]).any y.mac.is = true := by
          rw [List.any_append]
          have : y.mac.is x = true := is_iff.2 hy
          simp [this]
        rw [if_pos e1]
        split
        · exact kn_rel x r b h1 h2
        · rename_i q
          have q : b.any x.mac.is = false := by rw [hy]; simpa using q
          have e2 := noX_cons_y b (x := x) (y := y) (is_iff.2 hy.symm)
          have := kn_rel x r (y :: b) (by rw [e2]; exact h1) (by rw [List.countP_cons, cnt_any q]; split <;> omega)
          rw [e2] at this
          exact this
      · rw [noX_any y.mac hy b]
        split
        · exact kn_rel x r b h1 h2
        · have hyx : x.mac.is y = false := by
            rw [Bool.eq_false_iff]; intro q; exact hy (is_iff.1 q).symm
          have e2 := noX_cons_n b hyx
          have := kn_rel x r (y :: b) (by rw [e2]; simp; omega) (by rw [List.countP_cons, hyx]; simpa using h2)
          rw [e2] at this
          exact this
theorem known_snoc (l : List Lrn) (m : Mac) (p : Int) : known (l ++ [⟨m.a0, m.a1, m.a2, m.a3, m.a4, m.a5, p⟩]) = blearn (known l) m p := by
  have := kn_rel ⟨m.a0, m.a1, m.a2, m.a3, m.a4, m.a5, p⟩ l.reverse [] (Nat.zero_le _) (Nat.zero_le _)
  unfold known
  rw [List.reverse_append]
  exact this
theorem kn_mem : ∀ (r out : List Lrn) (z : Lrn), z ∈ kn r out → z ∈ r ∨ z ∈ out
  | [], out, z, h => .inr h
  | x :: r, out, z, h => by
    unfold kn at h
    split at h
    · rcases kn_mem r _ z h with q | q
      · exact .inl (List.mem_cons_of_mem _ q)
      · split at q
        · exact .inr q
        · rcases List.mem_cons.1 q with rfl | q
          · exact .inl (List.mem_cons_self ..)
          · exact .inr q
    · exact .inr h
theorem known_mem {l : List Lrn} {z : Lrn} (h : z ∈ known l) : z ∈ l := by
  rcases kn_mem _ _ _ h with q | q
  · simpa using q
  · cases q
def SInv (np : Nat) (l : List Lrn) : Prop := ∀ x ∈ l, 0 ≤ x.p ∧ x.p < np ∧ x.a0 % 2 = 0
theorem mac6_0 {s : List UInt8} (h : 14 ≤ s.length) : mac6 (s.take 6) = mcard s 0 := by
  obtain ⟨a0, a1, a2, a3, a4, a5, a6, a7, a8, a9, b0, b1, b2, b3, t, rfl⟩ := s14 (s := s) (by omega)
  rfl
theorem mac6_6 {s : List UInt8} (h : 14 ≤ s.length) : mac6 ((s.drop 6).take 6) = mcard s 6 := by
  obtain ⟨a0, a1, a2, a3, a4, a5, a6, a7, a8, a9, b0, b1, b2, b3, t, rfl⟩ := s14 (s := s) (by omega)
  rfl
theorem seen_known (l : List Lrn) (p : Int) {s : List UInt8} (h : 14 ≤ s.length) : fseen (known l) p s = known (rseen l p s) := by
  unfold fseen rseen
  rw [mac6_6 h]
  have e : (mcard s 6).a0 = ((s[6]?.getD 0).toNat : Int) := rfl
  rw [e]
  by_cases q : ((s[6]?.getD 0).toNat : Int) % 2 = 0
  · rw [if_neg (by omega), if_pos q]
    exact (known_snoc l (mcard s 6) p).symm
  · rw [if_pos (by omega), if_neg q]
theorem rseen_inv {np : Nat} {l : List Lrn} {p : Int} (s : List UInt8) (hp : 0 ≤ p ∧ p < np) (h : SInv np l) : SInv np (rseen l p s) := by
  unfold rseen
  split
  · rename_i q
    intro x hx
    rcases List.mem_append.1 hx with hx | hx
    · exact h x hx
    · rw [List.mem_singleton] at hx; subst hx; exact ⟨hp.1, hp.2, q⟩
  · exact h
theorem filt_one (f : Int → Bool) (a : Nat) : ∀ n : Nat, (∀ z : Nat, f z = true → z = a) → f a = true → a < n → ((List.range n).map fun (n : Nat) => (n : Int)).filter f = [(a : Int)]
  | 0, _, _, h => by omega
  | n + 1, h1, h2, h => by
    rw [List.range_succ, List.map_append, List.filter_append]
    by_cases q : a = n
    · subst q
      have : ((List.range a).map fun (n : Nat) => (n : Int)).filter f = [] := by
        rw [List.filter_eq_nil_iff]
        intro z hz
        obtain ⟨k, hk, rfl⟩ := List.mem_map.1 hz
        intro hf
        have := h1 k hf
        have := List.mem_range.1 hk
        omega
      rw [this]; simp [h2]
    · rw [filt_one f a n h1 h2 (by omega)]
      have : f (n : Int) = false := by
        rw [Bool.eq_false_iff]; intro hf; exact q (h1 n hf).symm
      simp [this]
theorem out_eq {np : Nat} {K : List Lrn} (hK : SInv np K) (p : Int) (d : Mac) : fout K np p d = rout (rfind K d) p np := by
  unfold fout bfind rfind
  cases hf : K.find? d.is with
  | none =>
    rw [if_neg (by simp)]
    unfold outP rout routB
    congr 1
    funext z
    simp
  | some x =>
    have hx := List.mem_of_find?_eq_some hf
    have hm : x.mac = d := is_iff.1 (by simpa using List.find?_some hf)
    obtain ⟨h1, h2, h3⟩ := hK x hx
    have hne : d.ne allMac = true := by
      rw [← hm]
      unfold Mac.ne allMac Lrn.mac
      have : ¬ x.a0 = 255 := by omega
      simp [this]
    dsimp only
    rw [if_pos (by simp [hne])]
    obtain ⟨a, ha⟩ : ∃ a : Nat, x.p = a := ⟨x.p.toNat, by omega⟩
    unfold rout
    by_cases q : x.p = p
    · rw [if_pos q]
      symm
      rw [List.filter_eq_nil_iff]
      intro z hz
      unfold routB
      simp only [Bool.and_eq_true, Bool.or_eq_true, decide_eq_true_eq]
      rintro ⟨g1, g2⟩
      omega
    · rw [if_neg q, ha]
      symm
      refine filt_one _ a np (fun z hz => ?_) ?_ (by omega)
      · unfold routB at hz
        simp only [Bool.and_eq_true, Bool.or_eq_true, decide_eq_true_eq] at hz
        omega
      · unfold routB
        simp only [Bool.and_eq_true, Bool.or_eq_true, decide_eq_true_eq]
        exact ⟨by omega, .inr trivial⟩
theorem fwd_eq {np : Nat} {l : List Lrn} (h : SInv np l) (p : Int) (s : List UInt8) : bfwd np (known l) p s = ⟨known (rfwd np l p s).l, (rfwd np l p s).out, (rfwd np l p s).e⟩ ∧ SInv np (rfwd np l p s).l ∧ (rfwd np l p s).l.length ≤ l.length + 1 := by
  unfold bfwd rfwd
  by_cases h1 : p < 0 ∨ (np : Int) ≤ p
  · rw [if_pos h1, if_pos h1]; exact ⟨rfl, h, Nat.le_succ _⟩
  rw [if_neg h1, if_neg h1]
  by_cases h2 : s.length < 14
  · rw [if_pos h2, if_pos h2]; exact ⟨rfl, h, Nat.le_succ _⟩
  rw [if_neg h2, if_neg h2]
  have hi := rseen_inv (np := np) (p := p) s (by omega) h
  refine ⟨?_, hi, ?_⟩
  · dsimp only
    rw [seen_known l p (by omega), out_eq (np := np) (fun x hx => hi x (known_mem hx)), mac6_0 (by omega)]
  · dsimp only; unfold rseen; split
    · simp
    · omega
theorem find_eq {np : Nat} {K : List Lrn} (hK : SInv np K) (d : Mac) : (bfind K d).2 = decide (0 ≤ rfind K d) ∧ ((bfind K d).2 = true → (bfind K d).1 = rfind K d) ∧ ((bfind K d).2 = false → (bfind K d).1 = 0) := by
  unfold bfind rfind
  cases hf : K.find? d.is with
  | none => exact ⟨by decide, (fun h => by cases h), fun _ => rfl⟩
  | some x =>
    have hx := List.mem_of_find?_eq_some hf
    obtain ⟨h1, h2, h3⟩ := hK x hx
    dsimp only
    exact ⟨by simp [h1], fun _ => rfl, fun h => by cases h⟩
end Go.Proofs.Ytfpgpeomcefkhaa
