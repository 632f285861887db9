/- What the document's sender computes: on the record. -/
import Derived.Test.YtcioklhpbmjeeaaSdRef2
namespace Go.Proofs.Ytcioklhpbmjeeaa
open Go.RowKit
set_option linter.unusedVariables false
set_option linter.unusedSimpArgs false
set_option maxRecDepth 100000
set_option maxHeartbeats 4000000
def Snd.ra (x : Snd) : AV := rA x.first x.all x.acked x.sent x.fin x.es
theorem beq_int (a k b : Nat) : (a + k == b) = decide ((a : Int) + (k : Int) = (b : Int)) := by
  rw [show (a + k == b) = decide (a + k = b) from rfl]
  congr 1; simp only [eq_iff_iff]; omega
section
variable (x : Snd) (h : x.Ok)
include h
theorem acked_le : x.acked ≤ 100001 := by
  obtain ⟨h1, h2, h3⟩ := Snd.bounds h
  have := h.m; omega
theorem rsRoom_ok : ACall Try.prog 21 [x.ra] (.int .i64 x.room) [] := by
  have := rRoom_ok x.first x.all x.acked x.sent x.fin x.es h.m (acked_le x h)
  have e : x.room = (if x.fin then 0 else 256 - ((x.all.length : Int) - min (x.acked : Int) (x.all.length : Int))) := by
    unfold Snd.room Snd.low; split <;> omega
  rw [e]; exact this
theorem rsFlight_ok : ACall Try.prog 22 [x.ra] (.int .i64 x.flight) [] := by
  have := rFlight_ok x.first x.all x.acked x.sent x.fin x.es h.m h.s (acked_le x h)
  unfold Snd.flight; exact this
theorem rsLike_ok : ACall Try.prog 20 [x.ra, x.q true] (.bool true) [] := by
  refine rLike_ok x.first x.all x.acked x.sent x.fin x.es h.fb h.m h.s (acked_le x h) x.rest x.out x.low x.ea ?_ rfl ?_ ?_
  · unfold Snd.low; omega
  · have := h.low_eq; unfold Snd.out; omega
  · unfold Snd.ea
    by_cases q : x.all.length < x.acked
    · exact .inl ⟨decide_eq_true q, q⟩
    · exact .inr ⟨decide_eq_false q, by omega⟩
theorem rsWrite_ok (ds : List UInt8) (hds : ds.length ≤ 1000) : ACall Try.prog 28 [x.ra, .str ds] (.tup [(x.write ds).ra, .int .i64 (x.kW ds.length)]) [] := by
  refine rWrite_ok x.first x.all x.acked x.sent x.fin x.es h.m (acked_le x h) ds hds _ ?_
  have := h.r
  unfold Snd.kW Snd.low at *
  split <;> omega
theorem kN_ref (win mss : Int) : max 0 (min ((x.all.length : Int) - x.sent) (min mss (max win 0 - ((x.sent : Int) - min (x.acked : Int) x.sent)))) = (x.kN win mss : Int) := by
  have h1 := h.low_eq
  have h2 : (x.out : Int) = x.sent - min (x.acked : Int) x.sent := by unfold Snd.out; omega
  unfold Snd.kN; rw [← h2]; omega
theorem rsNext_no (win mss : Int) (hw : -9223372036854775808 ≤ win ∧ win ≤ 9223372036854775807) (hm : -9223372036854775808 ≤ mss ∧ mss ≤ 9223372036854775807) (hk : x.kN win mss = 0) (hen : x.eN 0 = false) :
    ACall Try.prog 29 [x.ra, .int .i64 win, .int .i64 mss] (.tup [x.ra, .int .u32 0, .str [], .bool false, .bool false]) [] := by
  refine rNext_no x.first x.all x.acked x.sent x.fin x.es h.m h.s (acked_le x h) win mss hw hm ?_ ?_
  · rw [kN_ref x h, hk]; rfl
  · unfold Snd.eN at hen; rw [beq_int] at hen; exact hen
theorem rsNext_yes (win mss : Int) (hw : -9223372036854775808 ≤ win ∧ win ≤ 9223372036854775807) (hm : -9223372036854775808 ≤ mss ∧ mss ≤ 9223372036854775807) (k : Nat) (en : Bool) (hk : x.kN win mss = k) (hen : x.eN k = en) (hne : ¬ (k = 0 ∧ en = false)) :
    ACall Try.prog 29 [x.ra, .int .i64 win, .int .i64 mss] (.tup [(x.next k en).ra, .int .u32 (sAdd x.first x.sent), .str ((x.all.drop x.sent).take k), .bool en, .bool true]) [] := by
  refine rNext_yes x.first x.all x.acked x.sent x.fin x.es h.m h.s (acked_le x h) h.fb win mss hw hm k en ?_ ?_ hne
  · rw [kN_ref x h, hk]
  · unfold Snd.eN at hen; rw [beq_int] at hen; exact hen
theorem kA_ref (mss : Int) : max 0 (min ((x.sent : Int) - x.low) mss) = (x.kA mss : Int) := by
  have h1 := h.low_eq
  have h2 : (x.out : Int) = x.sent - x.low := by unfold Snd.out; omega
  unfold Snd.kA; rw [h2]; omega
omit h in
theorem eA_ref (k : Nat) (hk : k ≤ x.out) : (x.es && decide ((x.acked : Int) ≤ x.all.length) && decide ((x.low : Int) + k = x.all.length)) = x.eA k := by
  have e1 : decide ((x.acked : Int) ≤ x.all.length) = !x.ea := by
    unfold Snd.ea
    by_cases q : x.all.length < x.acked
    · rw [decide_eq_true q, decide_eq_false (by omega)]; rfl
    · rw [decide_eq_false q, decide_eq_true (by omega)]; rfl
  have e2 : decide ((x.low : Int) + k = x.all.length) = (k == x.rest.length) := by
    rw [show (k == x.rest.length) = decide (k = x.rest.length) from rfl, x.rest_len]
    have := x.low_le
    congr 1; simp only [eq_iff_iff]; omega
  unfold Snd.eA; rw [e1, e2]
theorem rsAgain_no (mss : Int) (hm : -9223372036854775808 ≤ mss ∧ mss ≤ 9223372036854775807) (hk : x.kA mss = 0) (hen : x.eA 0 = false) :
    ACall Try.prog 30 [x.ra, .int .i64 mss] (.tup [.int .u32 0, .str [], .bool false, .bool false]) [] := by
  refine rAgain_no x.first x.all x.acked x.sent x.fin x.es h.m (acked_le x h) h.s mss hm x.low ?_ ?_ ?_
  · have := h.low_eq; omega
  · rw [kA_ref x h, hk]; rfl
  · have := eA_ref x 0 (Nat.zero_le _); rw [hen] at this; exact this
theorem rsAgain_yes (mss : Int) (hm : -9223372036854775808 ≤ mss ∧ mss ≤ 9223372036854775807) (k : Nat) (en : Bool) (hk : x.kA mss = k) (hen : x.eA k = en) (hne : ¬ (k = 0 ∧ en = false)) :
    ACall Try.prog 30 [x.ra, .int .i64 mss] (.tup [.int .u32 x.una, .str (x.rest.take k), .bool en, .bool true]) [] := by
  obtain ⟨g1, g2, g3⟩ := Snd.again_in h mss k en hk hen hne
  have hko : k ≤ x.out := by unfold Snd.out; omega
  have := rAgain_yes x.first x.all x.acked x.sent x.fin x.es h.m h.s (acked_le x h) h.fb mss hm x.low k en (by have := h.low_eq; omega) (by rw [kA_ref x h, hk]) (by rw [eA_ref x k hko, hen]) hne
  have e : x.una = sAdd x.first x.low := by unfold Snd.una; rw [g2]
  rw [e]; exact this
theorem rsAck_ok (ack d : Int) (hA : 0 ≤ ack ∧ ack ≤ 4294967295) (hd : sDiff ack x.una = d) :
    ACall Try.prog 31 [x.ra, .int .u32 ack] (.tup [(x.ackd d).ra, .int .i64 (x.ackN d), .int .i64 (x.ackE d)]) [] := by
  have hb := h.flight_bd
  by_cases h0 : d ≤ 0
  · have := rAck_none x.first x.all x.acked x.sent x.fin x.es h.fb (acked_le x h) ack hA (by unfold Snd.una at hd; omega)
    have e1 : x.ackd d = x := by unfold Snd.ackd; rw [if_neg (by omega)]
    have e2 : x.ackN d = 0 := by unfold Snd.ackN; rw [if_neg (by omega)]
    have e3 : x.ackE d = 0 := by unfold Snd.ackE; rw [if_neg (by omega)]
    rw [e1, e2, e3]; exact this
  by_cases h1 : x.flight < d
  · have := rAck_far x.first x.all x.acked x.sent x.fin x.es h.fb h.m h.s (acked_le x h) ack hA (by unfold Snd.una at hd; omega) (by unfold Snd.una at hd; rw [hd]; exact h1)
    have e1 : x.ackd d = x := by unfold Snd.ackd; rw [if_neg (by omega)]
    have e2 : x.ackN d = 0 := by unfold Snd.ackN; rw [if_neg (by omega)]
    have e3 : x.ackE d = 1 := by unfold Snd.ackE; rw [if_pos h1]
    rw [e1, e2, e3]; exact this
  obtain ⟨z, rfl⟩ := Int.eq_ofNat_of_zero_le (show 0 ≤ d by omega)
  have := rAck_yes x.first x.all x.acked x.sent x.fin x.es h.fb h.m h.s (acked_le x h) ack hA z hd (by omega) (by unfold Snd.flight at h1; omega)
  have e1 : x.ackd z = x.ack z := by unfold Snd.ackd; rw [if_pos (by omega)]; rfl
  have e2 : x.ackN z = z := by unfold Snd.ackN; rw [if_pos (by omega)]
  have e3 : x.ackE z = 0 := by unfold Snd.ackE; rw [if_neg (by omega)]
  rw [e1, e2, e3]; exact this
end
end Go.Proofs.Ytcioklhpbmjeeaa
