/- The document's sender, as a plain record: what its functions compute, no program. -/
import Derived.Test.YtcioklhpbmjeeaaCode
namespace Go.Proofs.Ytcioklhpbmjeeaa
open Go.RowKit
set_option linter.unusedVariables false
def sAdd (a n : Int) : Int := (a + n) % 4294967296
def sDiff (a b : Int) : Int := (a - b + 2147483648) % 4294967296 - 2147483648
theorem sAdd_bd (a n : Int) : 0 ≤ sAdd a n ∧ sAdd a n ≤ 4294967295 := by unfold sAdd; omega
theorem sDiff_bd (a b : Int) : -2147483648 ≤ sDiff a b ∧ sDiff a b ≤ 2147483647 := by unfold sDiff; omega
/-- All that was ever written. -/
structure Snd where
  first : Int
  all : List UInt8
  acked : Nat
  sent : Nat
  fin : Bool
  es : Bool
namespace Snd
def low (x : Snd) : Nat := min x.acked x.all.length
def rest (x : Snd) : List UInt8 := x.all.drop x.low
def una (x : Snd) : Int := sAdd x.first x.acked
def out (x : Snd) : Nat := x.sent - x.low
def ea (x : Snd) : Bool := decide (x.all.length < x.acked)
def flight (x : Snd) : Int := x.sent + (if x.es then 1 else 0) - x.acked
def room (x : Snd) : Int := if x.fin then 0 else 256 - ((x.all.length : Int) - x.low)
structure Ok (x : Snd) : Prop where
  fb : 0 ≤ x.first ∧ x.first ≤ 4294967295
  s : x.sent ≤ x.all.length
  a : x.acked ≤ x.sent + (if x.es then 1 else 0)
  e : x.es = true → x.fin = true ∧ x.sent = x.all.length
  r : x.all.length ≤ x.low + 256
  m : x.all.length ≤ 100000
def kW (x : Snd) (n : Nat) : Nat := if x.fin then 0 else min n (256 - (x.all.length - x.low))
def write (x : Snd) (ds : List UInt8) : Snd := { x with all := x.all ++ ds.take (x.kW ds.length) }
def kN (x : Snd) (win mss : Int) : Nat := (max 0 (min ((x.all.length : Int) - x.sent) (min mss (max win 0 - x.out)))).toNat
def eN (x : Snd) (k : Nat) : Bool := x.fin && !x.es && (x.sent + k == x.all.length)
def next (x : Snd) (k : Nat) (en : Bool) : Snd := { x with sent := x.sent + k, es := x.es || en }
def kA (x : Snd) (mss : Int) : Nat := (max 0 (min (x.out : Int) mss)).toNat
def eA (x : Snd) (k : Nat) : Bool := x.es && !x.ea && (k == x.rest.length)
def ack (x : Snd) (d : Nat) : Snd := { x with acked := x.acked + d }
end Snd
theorem Snd.Ok.low_eq {x : Snd} (h : x.Ok) : (x.low : Int) = min (x.acked : Int) x.sent := by
  have := h.a; have he := h.e; have hs := h.s
  unfold Snd.low
  cases hes : x.es
  · rw [hes] at this; simp at this; omega
  · rw [hes] at this; have := (he hes).2; simp at *; omega

theorem Snd.Ok.flight_bd {x : Snd} (h : x.Ok) : 0 ≤ x.flight ∧ x.flight ≤ 100001 := by
  have := h.a; have hs := h.s; have hm := h.m
  unfold Snd.flight
  cases hes : x.es <;> simp [hes] at this ⊢ <;> omega

theorem Snd.Ok.ack_cases {x : Snd} (h : x.Ok) : (x.acked ≤ x.sent ∧ x.low = x.acked ∧ x.ea = false) ∨ (x.acked = x.sent + 1 ∧ x.es = true ∧ x.fin = true ∧ x.sent = x.all.length ∧ x.low = x.all.length ∧ x.ea = true) := by
  have := h.a; have he := h.e; have hs := h.s
  unfold Snd.low Snd.ea
  by_cases h1 : x.acked ≤ x.sent
  · left; simp; omega
  · right
    cases hes : x.es
    · rw [hes] at this; simp at this; omega
    · rw [hes] at this
      obtain ⟨h2, h3⟩ := he hes
      simp at this ⊢
      exact ⟨by omega, h2, h3, by omega, by omega⟩

namespace Snd
theorem rest_len (x : Snd) : x.rest.length = x.all.length - x.low := by simp [rest]
theorem low_le (x : Snd) : x.low ≤ x.all.length := by unfold low; omega

/-! ### Write -/
theorem kW_rest (x : Snd) (n : Nat) : x.kW n = if x.fin then 0 else min n (256 - x.rest.length) := by simp [kW, rest_len]
theorem kW_le (x : Snd) (n : Nat) : x.kW n ≤ n ∧ x.kW n ≤ 256 := by unfold kW; split <;> omega
theorem write_low {x : Snd} (h : x.Ok) (ds : List UInt8) : (x.write ds).low = x.low ∧ (x.write ds).ea = x.ea := by
  rcases h.ack_cases with ⟨h1, h2, h3⟩ | ⟨h1, h2, h3, h4, h5, h6⟩
  · have hs := h.s
    rw [h2, h3]
    unfold write low ea
    simp; omega
  · have : (x.write ds) = x := by unfold write kW; rw [if_pos h3]; simp
    rw [this]; exact ⟨rfl, rfl⟩
theorem write_rest {x : Snd} (h : x.Ok) (ds : List UInt8) : (x.write ds).rest = x.rest ++ ds.take (x.kW ds.length) := by
  have h1 := (write_low h ds).1
  unfold rest at *
  rw [h1]
  unfold write
  rw [List.drop_append_of_le_length x.low_le]
theorem write_len {x : Snd} (h : x.Ok) (ds : List UInt8) : (x.write ds).rest.length = x.rest.length + x.kW ds.length := by
  rw [write_rest h]; simp; have := x.kW_le ds.length; omega
theorem write_out {x : Snd} (h : x.Ok) (ds : List UInt8) : (x.write ds).out = x.out := by
  unfold out; rw [(write_low h ds).1]; rfl
theorem write_ok {x : Snd} (h : x.Ok) (ds : List UInt8) (hm : (x.write ds).all.length ≤ 100000) : (x.write ds).Ok := by
  have hl := (write_low h ds).1
  have hk : (x.write ds).all.length = x.all.length + x.kW ds.length := by unfold write; simp; have := x.kW_le ds.length; omega
  have hlow := x.low_le
  refine ⟨h.fb, ?_, h.a, ?_, ?_, hm⟩
  · have := h.s; show x.sent ≤ _; omega
  · intro he
    obtain ⟨h1, h2⟩ := h.e he
    refine ⟨h1, ?_⟩
    rw [hk, kW, if_pos h1]; exact h2
  · rw [hl, hk]; have := h.r; unfold kW; split <;> omega
theorem write_all (x : Snd) (ds : List UInt8) : (x.write ds).all.length ≤ x.all.length + 256 := by
  have : (x.write ds).all.length = x.all.length + x.kW ds.length := by unfold write; simp; have := x.kW_le ds.length; omega
  have := x.kW_le ds.length; omega

/-! ### Next -/
def nOk (k : Nat) (en : Bool) : Bool := !(decide (k = 0) && !en)
def nAt (x : Snd) (ok : Bool) : Int := if ok then sAdd x.first x.sent else 0
theorem nOk_true {k : Nat} {en : Bool} (h : ¬ (k = 0 ∧ en = false)) : nOk k en = true := by unfold nOk; cases en <;> simp_all
theorem kN_code {x : Snd} (h : x.Ok) (win mss : Int) : max 0 (min ((x.rest.length : Int) - x.out) (min mss (max win 0 - x.out))) = (x.kN win mss : Int) := by
  have h1 := x.rest_len
  have h2 := x.low_le
  have h3 := h.low_eq
  have h4 := h.s
  have h5 : (x.out : Int) = x.sent - x.low := by unfold out; omega
  unfold kN
  rw [h1]
  omega
theorem kN_le {x : Snd} (h : x.Ok) (win mss : Int) : x.sent + x.kN win mss ≤ x.all.length := by
  have := h.s
  unfold kN; omega
theorem eN_code {x : Snd} (h : x.Ok) (k : Nat) : x.eN k = (x.fin && !x.es && ((x.out : Int) + k == x.rest.length)) := by
  have h1 := x.rest_len
  have h2 := x.low_le
  have h3 := h.low_eq
  unfold eN
  congr 1
  rw [Bool.eq_iff_iff]; simp only [beq_iff_eq]
  have h5 : (x.out : Int) = x.sent - x.low := by unfold out; omega
  omega
theorem next_low (x : Snd) (k : Nat) (en : Bool) : (x.next k en).low = x.low ∧ (x.next k en).ea = x.ea ∧ (x.next k en).rest = x.rest ∧ (x.next k en).una = x.una := ⟨rfl, rfl, rfl, rfl⟩
theorem next_none (x : Snd) : x.next 0 false = x := by unfold next; simp
theorem next_out {x : Snd} (h : x.Ok) (k : Nat) (en : Bool) : (x.next k en).out = x.out + k := by
  have h3 := h.low_eq
  have : x.low ≤ x.sent := by omega
  unfold out next; simp only; show x.sent + k - x.low = _; omega
theorem next_at {x : Snd} (h : x.Ok) (k : Nat) (en : Bool) (win mss : Int) (hk : x.kN win mss = k) (he : x.eN k = en) (hne : ¬ (k = 0 ∧ en = false)) : sAdd x.una x.out = sAdd x.first x.sent := by
  rcases h.ack_cases with ⟨h1, h2, h3⟩ | ⟨h1, h2, h3, h4, h5, h6⟩
  · unfold una sAdd out; rw [h2]; omega
  · exfalso
    refine hne ⟨?_, ?_⟩
    · rw [← hk]; unfold kN; rw [h4]; omega
    · rw [← he]; unfold eN; rw [h2]; simp
theorem next_piece {x : Snd} (h : x.Ok) (k : Nat) : (x.rest.drop x.out).take k = (x.all.drop x.sent).take k := by
  have h3 := h.low_eq
  unfold rest out
  rw [List.drop_drop]
  congr 2
  omega
theorem next_ok {x : Snd} (h : x.Ok) (k : Nat) (en : Bool) (win mss : Int) (hk : x.kN win mss = k) (he : x.eN k = en) : (x.next k en).Ok := by
  have h1 := kN_le h win mss
  rw [hk] at h1
  refine ⟨h.fb, h1, ?_, ?_, h.r, h.m⟩
  · have := h.a
    show x.acked ≤ x.sent + k + (if (x.es || en) then 1 else 0)
    cases hes : x.es <;> cases en <;> simp [hes] at this ⊢ <;> omega
  · intro h2
    show x.fin = true ∧ x.sent + k = x.all.length
    have h3 : (x.es || en) = true := h2
    cases hes : x.es
    · rw [hes] at h3
      simp at h3
      rw [h3] at he
      unfold eN at he
      simp at he
      exact ⟨he.1.1, he.2⟩
    · obtain ⟨h4, h5⟩ := h.e hes
      exact ⟨h4, by omega⟩

/-! ### Again -/
def aAt (x : Snd) (ok : Bool) : Int := if ok then x.una else 0
theorem kA_code (x : Snd) (mss : Int) : max 0 (min (x.out : Int) mss) = (x.kA mss : Int) := by unfold kA; omega
theorem eA_code (x : Snd) (k : Nat) : x.eA k = (x.es && !x.ea && ((k : Int) == x.rest.length)) := by
  unfold eA; congr 1; rw [Bool.eq_iff_iff]; simp only [beq_iff_eq]; omega

/-! ### Ack -/
def ackd (x : Snd) (d : Int) : Snd := if 0 < d ∧ d ≤ x.flight then x.ack d.toNat else x
def ackN (x : Snd) (d : Int) : Int := if 0 < d ∧ d ≤ x.flight then d else 0
def ackE (x : Snd) (d : Int) : Int := if x.flight < d then 1 else 0
theorem flight_code {x : Snd} (h : x.Ok) : (if x.es && !x.ea then (x.out : Int) + 1 else x.out) = x.flight := by
  have h3 := h.low_eq
  have hs := h.s
  have h5 : (x.out : Int) = x.sent - x.low := by unfold out; omega
  unfold flight
  rcases h.ack_cases with ⟨h1, h2, h4⟩ | ⟨h1, h2, h4, h6, h7, h8⟩
  · rw [h4]; cases x.es <;> simp <;> omega
  · rw [h8, h2]; simp; omega
theorem una_bd (x : Snd) : 0 ≤ x.una ∧ x.una ≤ 4294967295 := sAdd_bd _ _
theorem ack_una (x : Snd) (ack d : Int) (hA : 0 ≤ ack ∧ ack ≤ 4294967295) (hd : sDiff ack x.una = d) (h0 : 0 < d) : (x.ack d.toNat).una = ack := by
  unfold una at *
  show sAdd x.first ((x.acked + d.toNat : Nat) : Int) = ack
  unfold sDiff sAdd at *
  omega
theorem ack_low {x : Snd} (h : x.Ok) (d : Nat) (h0 : 0 < d) (h1 : (d : Int) ≤ x.flight) : (x.ack d).low = x.low + min d x.out ∧ (x.ack d).ea = (x.ea || decide (((min d x.out : Nat) : Int) < d)) ∧ (x.ack d).Ok := by
  have hs := h.s
  rcases h.ack_cases with ⟨h2, h3, h4⟩ | ⟨h2, h3, h4, h5, h6, h7⟩
  · have ho : x.out = x.sent - x.acked := by unfold out; rw [h3]
    cases hes : x.es
    · unfold flight at h1
      rw [hes] at h1; simp at h1
      have e1 : min d x.out = d := by omega
      refine ⟨?_, ?_, h.fb, h.s, ?_, h.e, ?_, h.m⟩
      · rw [e1, h3]; show min (x.acked + d) x.all.length = _; omega
      · rw [e1, h4]; show decide (x.all.length < x.acked + d) = _; simp; omega
      · show x.acked + d ≤ x.sent + (if x.es then 1 else 0); omega
      · have := h.r; rw [h3] at this; show x.all.length ≤ min (x.acked + d) x.all.length + 256; omega
    · obtain ⟨h8, h9⟩ := h.e hes
      unfold flight at h1
      rw [hes] at h1; simp at h1
      refine ⟨?_, ?_, h.fb, h.s, ?_, h.e, ?_, h.m⟩
      · rw [h3, ho]; show min (x.acked + d) x.all.length = _; omega
      · rw [h4, ho]; show decide (x.all.length < x.acked + d) = _; simp; omega
      · show x.acked + d ≤ x.sent + (if x.es then 1 else 0); rw [hes]; simp; omega
      · have := h.r; rw [h3] at this; show x.all.length ≤ min (x.acked + d) x.all.length + 256; omega
  · exfalso
    unfold flight at h1
    rw [h3] at h1; simp at h1; omega
theorem ackd_ok {x : Snd} (h : x.Ok) (d : Int) : (x.ackd d).Ok := by
  unfold ackd
  split
  · rename_i hc
    obtain ⟨k, rfl⟩ := Int.eq_ofNat_of_zero_le (show 0 ≤ d by omega)
    exact (ack_low h k (by omega) hc.2).2.2
  · exact h

/-! ### Close -/
def close (x : Snd) : Snd := { x with fin := true }
theorem close_ok {x : Snd} (h : x.Ok) : x.close.Ok := ⟨h.fb, h.s, h.a, fun he => ⟨rfl, (h.e he).2⟩, h.r, h.m⟩
end Snd

theorem Snd.Ok.out_le {x : Snd} (h : x.Ok) : x.out ≤ x.rest.length := by
  have h1 := h.low_eq; have h2 := h.s; rw [x.rest_len]; unfold Snd.out; omega
theorem Snd.Ok.rest_le {x : Snd} (h : x.Ok) : x.rest.length ≤ 256 := by have := h.r; rw [x.rest_len]; omega
end Go.Proofs.Ytcioklhpbmjeeaa
