/- RingPlays: one op. -/
import Derived.Test.YtlmioolkofbboaaRlike
namespace Go.Proofs.Ytlmioolkofbboaa
open Go.RowKit
set_option linter.unusedVariables false
set_option linter.unusedSimpArgs false
set_option maxRecDepth 100000
set_option maxHeartbeats 4000000
theorem by8_up (g : List UInt8) (i : Nat) (hi : i < g.length) : (g.map by8).set i (.int .u8 (((g[i].toNat : Nat) + 1 : Int) % 256)) = (g.set i (g[i] + 1)).map by8 := by
  rw [List.map_set]; congr 1
theorem by8_at (g : List UInt8) (i : Nat) (hi : i < g.length) : (g.map by8)[((i : Nat) : Int).toNat]?.getD .any = .int .u8 ((g[i].toNat : Nat) : Int) := by
  rw [at_map by8 g i g[i] (List.getElem?_eq_getElem hi) (by simp)]; rfl
theorem by8_bd (c : UInt8) : (c.toNat : Int) ≤ 255 := by have := c.toNat_lt; omega
theorem drop_cons {L : List (List UInt8)} {b : Nat} (h : b < L.length) : L.drop b = L.getD b [] :: L.drop (b + 1) := by
  rw [getD_lt _ _ h, List.drop_eq_getElem_cons h]
theorem td_cons {L : List (List UInt8)} {e b : Nat} (h : e < b) (hb : b ≤ L.length) : (L.take b).drop e = L.getD e [] :: (L.take b).drop (e + 1) := by
  have hl : e < (L.take b).length := by simp; omega
  rw [List.drop_eq_getElem_cons hl, getD_lt _ _ (by omega)]
  congr 1; simp
theorem td_snoc {L : List (List UInt8)} {e b : Nat} (h : e ≤ b) (hb : b < L.length) : (L.take b).drop e ++ [L.getD b []] = (L.take (b + 1)).drop e := by
  rw [List.take_succ_eq_append_getElem hb, getD_lt _ _ hb, List.drop_append_of_le_length (by simp; omega)]
/-- What a ring becomes. -/
structure Nx (n : Nat) (c : Int) (L : List (List UInt8)) where
  x : Rg
  L' : List (List UInt8)
  b : Nat
  e : Nat
  f : Nat
  log : Log x n c L' b e f
  len : L'.length ≤ L.length + 1
section
variable {x : Rg} {n : Nat} {c : Int} {L : List (List UInt8)} {b e f : Nat} (h : Log x n c L b e f) (hL : L.length ≤ 150)
include h hL
theorem refs_len : (L.drop b).length ≤ 200 ∧ ((L.take b).drop e).length ≤ 200 ∧ ((L.take e).drop f).length ≤ 200 ∧ ((L.drop b).length : Int) + ((L.take b).drop e).length + ((L.take e).drop f).length = (L.length : Int) - f ∧ (0 ≤ (c + L.length) % 65536 ∧ (c + L.length) % 65536 < 65536) := by
  have h1 := h.l1; have h2 := h.l2; have h3 := h.l3
  simp; omega
theorem refPost_log (g : List UInt8) (hg : g.length ≤ 214) (hf : L.length < f + n) : ACall Try.prog 23 [refOf n c L b e f, .str g] (.tup [refOf n c (L ++ [g]) b e f, .int .i64 0]) [] := by
  obtain ⟨r1, r2, r3, r4, r5⟩ := refs_len h hL
  have h1 := h.l1; have h2 := h.l2; have h3 := h.l3
  have := refPost_ok n (L.drop b) ((L.take b).drop e) ((L.take e).drop f) ((c + L.length) % 65536) r1 r2 r3 r5 g hg (by omega)
  have e1 : refOf n c (L ++ [g]) b e f = rR n (L.drop b ++ [g]) ((L.take b).drop e) ((L.take e).drop f) (((c + L.length) % 65536 + 1) % 65536) := by
    unfold refOf
    rw [List.drop_append_of_le_length h3, List.take_append_of_le_length h3, List.take_append_of_le_length (by omega)]
    congr 1; simp; omega
  rw [e1]; exact this
theorem refPost_no (g : List UInt8) (hg : g.length ≤ 214) (hf : L.length = f + n) : ACall Try.prog 23 [refOf n c L b e f, .str g] (.tup [refOf n c L b e f, .int .i64 5]) [] := by
  obtain ⟨r1, r2, r3, r4, r5⟩ := refs_len h hL
  exact refPost_full n (L.drop b) ((L.take b).drop e) ((L.take e).drop f) ((c + L.length) % 65536) r1 r2 r3 g hg (by omega)
theorem refTake_log (hb : b < L.length) : ACall Try.prog 24 [refOf n c L b e f] (.tup [refOf n c L (b + 1) e f, .str (L.getD b []), .int .i64 0]) [] := by
  obtain ⟨r1, r2, r3, r4, r5⟩ := refs_len h hL
  have := refTake_some n (L.drop (b + 1)) ((L.take b).drop e) ((L.take e).drop f) ((c + L.length) % 65536) (by simp; omega) r2 (L.getD b [])
  unfold refOf
  rw [drop_cons hb, ← td_snoc h.l2 hb]; exact this
omit h hL in
theorem refTake_no (hb : b = L.length) : ACall Try.prog 24 [refOf n c L b e f] (.tup [refOf n c L b e f, .str [], .int .i64 2]) [] := by
  have := refTake_none n ((L.take b).drop e) ((L.take e).drop f) ((c + L.length) % 65536)
  unfold refOf
  rw [show L.drop b = [] by rw [hb, List.drop_length]]; exact this
theorem refFinish_log (hb : e < b) : ACall Try.prog 25 [refOf n c L b e f] (.tup [refOf n c L b (e + 1) f, .int .i64 0]) [] := by
  obtain ⟨r1, r2, r3, r4, r5⟩ := refs_len h hL
  have h3 := h.l3
  have := refFinish_some n (L.drop b) ((L.take b).drop (e + 1)) ((L.take e).drop f) ((c + L.length) % 65536) (by simp; omega) r3 (L.getD e [])
  unfold refOf
  rw [td_cons hb h3, ← td_snoc h.l1 (by omega)]; exact this
omit h hL in
theorem refFinish_no (hb : e = b) : ACall Try.prog 25 [refOf n c L b e f] (.tup [refOf n c L b e f, .int .i64 2]) [] := by
  have := refFinish_none n (L.drop b) ((L.take e).drop f) ((c + L.length) % 65536)
  unfold refOf
  rw [show (L.take b).drop e = [] by rw [hb]; exact List.drop_of_length_le (by simp; omega)]; exact this
theorem refReap_log (hb : f < e) : ACall Try.prog 26 [refOf n c L b e f] (.tup [refOf n c L b e (f + 1), .str (L.getD f []), .int .i64 0]) [] := by
  obtain ⟨r1, r2, r3, r4, r5⟩ := refs_len h hL
  have h2 := h.l2; have h3 := h.l3
  have := refReap_some n (L.drop b) ((L.take b).drop e) ((L.take e).drop (f + 1)) ((c + L.length) % 65536) (by simp; omega) (L.getD f [])
  unfold refOf
  rw [td_cons hb (by omega)]; exact this
omit h hL in
theorem refReap_no (hb : f = e) : ACall Try.prog 26 [refOf n c L b e f] (.tup [refOf n c L b e f, .str [], .int .i64 2]) [] := by
  have := refReap_none n (L.drop b) ((L.take b).drop e) ((c + L.length) % 65536)
  unfold refOf
  rw [show (L.take e).drop f = [] by rw [hb]; exact List.drop_of_length_le (by simp; omega)]; exact this
omit h hL in
theorem refQuiet_log : ACall Try.prog 27 [refOf n c L b e f] (.tup [refOf n c L L.length L.length L.length, ss (L.drop b)]) [] := by
  have := refQuiet_ok n (L.drop b) ((L.take b).drop e) ((L.take e).drop f) ((c + L.length) % 65536)
  unfold refOf
  rw [List.drop_length, List.take_length, List.drop_length]; exact this
omit hL in
theorem log_bytes (j : Nat) (h1 : f ≤ j) (h2 : j < L.length) : (L.getD j []).length ≤ 1000000 := by
  have q0 := h.at' j h1 h2
  have hsl := slot_lt h.n1.1 (c + j)
  rw [getD_lt _ _ (by rw [h.sl]; exact hsl)] at q0
  rw [← q0]; exact h.sb _ (List.getElem_mem _)
end
end Go.Proofs.Ytlmioolkofbboaa
