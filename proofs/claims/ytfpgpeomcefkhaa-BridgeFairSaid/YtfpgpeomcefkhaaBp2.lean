/- BridgeFair, plain: what goes out; where a card is that was seen. -/
import Derived.Test.YtfpgpeomcefkhaaBp1
namespace Go.Proofs.Ytfpgpeomcefkhaa
open Go.RowKit
set_option linter.unusedVariables false
set_option linter.unusedSimpArgs false
set_option maxRecDepth 100000
set_option maxHeartbeats 4000000
structure KInv (np : Nat) (K : List Lrn) : Prop where
  p : ∀ x ∈ K, 0 ≤ x.p ∧ x.p < np
  n : K.length ≤ 16
theorem blearn_inv {np : Nat} {K : List Lrn} (h : KInv np K) (m : Mac) {p : Int} (hp : 0 ≤ p ∧ p < np) : KInv np (blearn K m p) := by
  have hl : (bout K m).length ≤ K.length := List.length_filter_le _ _
  have hn := h.n
  refine ⟨fun x hx => ?_, ?_⟩
  · unfold blearn at hx
    rcases List.mem_append.1 hx with q | q
    · have : x ∈ bout K m := by
        unfold btail at q
        split at q
        · exact List.mem_of_mem_drop q
        · exact q
      exact h.p x ((List.mem_filter.1 this).1)
    · rw [List.mem_singleton] at q; subst q; exact hp
  · unfold blearn btail
    rw [List.length_append]
    split
    · simp; omega
    · simp; omega
theorem outP_mem {np : Nat} {p z : Int} (h : z ∈ outP p np) : z ≠ p ∧ 0 ≤ z ∧ z < np := by
  unfold outP at h
  rw [List.mem_filter] at h
  obtain ⟨h1, h2⟩ := h
  obtain ⟨k, hk, rfl⟩ := List.mem_map.1 h1
  have := List.mem_range.1 hk
  exact ⟨of_decide_eq_true h2, by omega, by omega⟩
theorem fwd_inv {np : Nat} {K : List Lrn} (h : KInv np K) (p : Int) (s : List UInt8) : KInv np (bfwd np K p s).l ∧ (∀ z ∈ (bfwd np K p s).out, z ≠ p ∧ 0 ≤ z ∧ z < np) ∧ (bfwd np K p s).out.length ≤ np := by
  unfold bfwd
  by_cases h1 : p < 0 ∨ (np : Int) ≤ p
  · rw [if_pos h1]; exact ⟨h, (fun z hz => by cases hz), Nat.zero_le _⟩
  rw [if_neg h1]
  by_cases h2 : s.length < 14
  · rw [if_pos h2]; exact ⟨h, (fun z hz => by cases hz), Nat.zero_le _⟩
  rw [if_neg h2]
  have hi : KInv np (fseen K p s) := by
    unfold fseen
    split
    · exact h
    · exact blearn_inv h _ (by omega)
  refine ⟨hi, ?_⟩
  dsimp only
  generalize fseen K p s = L at hi
  unfold fout
  split
  · rename_i hc
    split
    · exact ⟨(fun z hz => by cases hz), Nat.zero_le _⟩
    · rename_i hne
      refine ⟨fun z hz => ?_, by simp; omega⟩
      rw [List.mem_singleton] at hz
      subst hz
      refine ⟨hne, ?_⟩
      unfold bfind at hc ⊢
      cases hf : L.find? (mac6 (s.take 6)).is with
      | none => rw [hf] at hc; simp at hc
      | some x => exact hi.p x (List.mem_of_find?_eq_some hf)
  · exact ⟨fun z hz => outP_mem hz, outP_len _ _⟩
def c44 : Mac := ⟨4, 4, 0, 0, 0, 0⟩
def c45 : Mac := ⟨4, 5, 0, 0, 0, 0⟩
def x4 (i : Int) : Lrn := ⟨4, 4, 0, 0, 0, 0, i⟩
def x5 (k : Int) : Lrn := ⟨4, 5, 0, 0, 0, 0, k⟩
def No4 (A : List Lrn) : Prop := ∀ x ∈ A, c44.is x = false
theorem find4 {A B : List Lrn} {i : Int} (hA : No4 A) : bfind (A ++ x4 i :: B) c44 = (i, true) := by
  unfold bfind
  have : (A ++ x4 i :: B).find? c44.is = some (x4 i) := by
    rw [List.find?_append, List.find?_eq_none.2 (fun x hx => by rw [hA x hx]; decide)]
    have : c44.is (x4 i) = true := rfl
    simp [this]
  rw [this]; rfl
theorem learn4 (K : List Lrn) (i : Int) : ∃ A, blearn K c44 i = A ++ [x4 i] ∧ No4 A := by
  refine ⟨btail (bout K c44), rfl, fun x hx => ?_⟩
  have : x ∈ bout K c44 := by
    unfold btail at hx
    split at hx
    · exact List.mem_of_mem_drop hx
    · exact hx
  have h2 := (List.mem_filter.1 this).2
  simpa using h2
theorem btail_app (A : List Lrn) (x : Lrn) : ∃ A', btail (A ++ [x]) = A' ++ [x] ∧ ∀ z ∈ A', z ∈ A := by
  unfold btail
  split
  · rename_i q
    cases A with
    | nil => simp at q
    | cons a A => exact ⟨A, rfl, fun z hz => List.mem_cons_of_mem _ hz⟩
  · exact ⟨A, rfl, fun z hz => hz⟩
theorem learn5 {K A : List Lrn} {i : Int} (k : Int) (h : bout K c45 = A ++ [x4 i]) (hA : No4 A) : ∃ A', blearn K c45 k = A' ++ x4 i :: [x5 k] ∧ No4 A' := by
  obtain ⟨A', h1, h2⟩ := btail_app A (x4 i)
  refine ⟨A', ?_, fun x hx => hA x (h2 x hx)⟩
  unfold blearn
  rw [h, h1, List.append_assoc]; rfl
theorem bout_4 (A : List Lrn) (i : Int) : bout (A ++ [x4 i]) c45 = bout A c45 ++ [x4 i] := by
  unfold bout; rw [List.filter_append]; rfl
theorem bout_45 (A : List Lrn) (i k : Int) : bout (A ++ x4 i :: [x5 k]) c45 = bout A c45 ++ [x4 i] := by
  unfold bout; rw [List.filter_append]; rfl
theorem no4_out {A : List Lrn} (h : No4 A) : No4 (bout A c45) := fun x hx => h x (List.mem_filter.1 hx).1
def sA4 : List UInt8 := [255, 255, 255, 255, 255, 255, 4, 4, 0, 0, 0, 0, 8, 0]
def sA5 : List UInt8 := [255, 255, 255, 255, 255, 255, 4, 5, 0, 0, 0, 0, 8, 0]
def s45 : List UInt8 := [4, 4, 0, 0, 0, 0, 4, 5, 0, 0, 0, 0, 8, 0]
theorem bfwd_ok {np : Nat} (K : List Lrn) {p : Int} (hp : 0 ≤ p ∧ p < np) {s : List UInt8} (hs : ¬ s.length < 14) : bfwd np K p s = ⟨fseen K p s, fout (fseen K p s) np p (mac6 (s.take 6)), 0⟩ := by
  unfold bfwd; rw [if_neg (by omega), if_neg hs]
theorem outP4 {p : Int} (h : 0 ≤ p ∧ p < 4) : (outP p 4).length = 3 := by
  obtain rfl | rfl | rfl | rfl : p = 0 ∨ p = 1 ∨ p = 2 ∨ p = 3 := by omega
  all_goals decide
/-- What the end of the law sees. -/
theorem fair {K : List Lrn} (h : KInv 4 K) {i k : Int} (hi : 0 ≤ i ∧ i < 4) (hk : 0 ≤ k ∧ k < 4) :
    ∃ K1 K2 K3 K4 o1 o2 o4, bfwd 4 K i sA4 = ⟨K1, o1, 0⟩ ∧ bfwd 4 K1 k sA5 = ⟨K2, o2, 0⟩ ∧ bfwd 4 K2 k s45 = ⟨K3, if i = k then [] else [i], 0⟩ ∧ bfwd 4 K2 k sA4 = ⟨K4, o4, 0⟩ ∧ o4.length = 3 ∧ K1.length ≤ 16 ∧ K2.length ≤ 16 := by
  obtain ⟨A1, h1, n1⟩ := learn4 K i
  obtain ⟨A2, h2, n2⟩ := learn5 (K := blearn K c44 i) k (by rw [h1, bout_4]) (no4_out n1)
  obtain ⟨A3, h3, n3⟩ := learn5 (K := blearn (blearn K c44 i) c45 k) (i := i) k (by rw [h2, bout_45]) (no4_out n2)
  have f4 := find4 (B := [x5 k]) (i := i) n3
  rw [← h3] at f4
  have v1 := blearn_inv h c44 hi
  have v2 := blearn_inv v1 c45 hk
  refine ⟨blearn K c44 i, blearn (blearn K c44 i) c45 k, blearn (blearn (blearn K c44 i) c45 k) c45 k, blearn (blearn (blearn K c44 i) c45 k) c44 k, _, _, _, bfwd_ok K hi (by decide), bfwd_ok _ hk (by decide), ?_, bfwd_ok _ hk (by decide), ?_, v1.n, v2.n⟩
  · refine (bfwd_ok _ hk (by decide)).trans ?_
    have e : fout (blearn (blearn (blearn K c44 i) c45 k) c45 k) 4 k c44 = if i = k then [] else [i] := by
      unfold fout
      rw [f4]
      dsimp only
      rw [if_pos (show (true && c44.ne allMac) = true from rfl)]
    exact congrArg (fun z => (⟨blearn (blearn (blearn K c44 i) c45 k) c45 k, z, 0⟩ : FwR)) e
  · have e : ∀ L : List Lrn, fout L 4 k allMac = outP k 4 := fun L => by
      unfold fout
      rw [show allMac.ne allMac = false from rfl, Bool.and_false, if_neg (by decide)]
    exact (congrArg List.length (e _)).trans (outP4 hk)
end Go.Proofs.Ytfpgpeomcefkhaa
