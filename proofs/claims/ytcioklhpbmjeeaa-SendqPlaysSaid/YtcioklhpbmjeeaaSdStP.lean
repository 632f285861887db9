/- SendqStream: the plain law. -/
import Derived.Test.YtcioklhpbmjeeaaSd3
namespace Go.Proofs.Ytcioklhpbmjeeaa
open Go.RowKit
set_option linter.unusedVariables false
namespace Snd
/-- What was sent. -/
def S (x : Snd) : List UInt8 := x.all.take x.sent
theorem S_len {x : Snd} (h : x.Ok) : x.S.length = x.sent := by have := h.s; simp [S]; omega
theorem S_cut {x : Snd} (h : x.Ok) : (x.all.take (x.S.length : Int).toNat).drop (0 : Int).toNat = x.S := by
  rw [Int.toNat_natCast, S_len h]; rfl
theorem S_all {x : Snd} (h : x.Ok) (he : x.es = true) : x.S = x.all := by
  unfold S; rw [(h.e he).2, List.take_length]
theorem S_write {x : Snd} (h : x.Ok) (ds : List UInt8) : (x.write ds).S = x.S := by
  unfold S; show (x.all ++ _).take x.sent = _
  rw [List.take_append_of_le_length h.s]
theorem S_next {x : Snd} (h : x.Ok) (k : Nat) (en : Bool) : (x.next k en).S = x.S ++ (x.all.drop x.sent).take k := by
  unfold S; show x.all.take (x.sent + k) = _
  rw [List.take_add]
theorem S_ackd (x : Snd) (d : Int) : (x.ackd d).S = x.S ∧ (x.ackd d).all = x.all ∧ (x.ackd d).es = x.es ∧ (x.ackd d).first = x.first ∧ ((x.ackd d).acked : Int) = x.acked + x.ackN d := by
  unfold ackd ackN
  split
  · rename_i hd; exact ⟨rfl, rfl, rfl, rfl, by show ((x.acked + d.toNat : Nat) : Int) = _; omega⟩
  · exact ⟨rfl, rfl, rfl, rfl, by omega⟩
theorem seq_at {x : Snd} (h : x.Ok) : sAdd x.first x.sent = (x.first + (x.S.length : Int)) % 4294967296 := by rw [S_len h]; rfl
theorem una_at (x : Snd) : x.una = (x.first + (x.acked : Int)) % 4294967296 := rfl
/-- Nothing goes out behind the end. -/
theorem next_ended {x : Snd} (h : x.Ok) (win mss : Int) (he : x.es = true) : x.kN win mss = 0 ∧ x.eN 0 = false := by
  have := (h.e he).2
  refine ⟨?_, by simp [eN, he]⟩
  unfold kN; rw [this]; omega
theorem again_in {x : Snd} (h : x.Ok) (mss : Int) (k : Nat) (en : Bool) (hk : x.kA mss = k) (hen : x.eA k = en) (hne : ¬ (k = 0 ∧ en = false)) : x.acked + k ≤ x.sent ∧ x.low = x.acked ∧ (en = true → x.es = true) := by
  have he : en = true → x.es = true := fun e => by subst e; simp only [eA, Bool.and_eq_true] at hen; exact hen.1.1
  have hko : k ≤ x.out := by unfold kA at hk; omega
  rcases h.ack_cases with ⟨h1, h2, h3⟩ | ⟨h1, h2, h3, h4, h5, h6⟩
  · exact ⟨by unfold out at hko; omega, h2, he⟩
  · exfalso
    have h0 : k = 0 := by unfold out at hko; omega
    refine hne ⟨h0, ?_⟩
    rw [← hen]; simp [eA, h6]
theorem again_cut {x : Snd} (h : x.Ok) (k : Nat) (hk : x.acked + k ≤ x.sent) (hl : x.low = x.acked) : (x.S.drop x.acked).take k = x.rest.take k := by
  unfold S rest; rw [hl, List.drop_take, List.take_take, Nat.min_eq_left (by omega)]
/-- What may be out. -/
theorem bounds {x : Snd} (h : x.Ok) : x.S.length ≤ x.all.length ∧ x.acked ≤ x.S.length + 1 ∧ x.all.length ≤ x.acked + 256 := by
  have h1 := S_len h; have h2 := h.s; have h3 := h.a; have h4 := h.r
  refine ⟨by omega, ?_, ?_⟩
  · split at h3 <;> omega
  · unfold low at h4; omega
/-- The end: nothing is left. -/
theorem next_end {x : Snd} (h : x.Ok) (hk : x.kN 1048576 64 = 0) (hen : x.eN 0 = false) : x.S = x.all ∧ x.es = x.fin := by
  have h1 := h.s; have h4 := h.r; have h5 := h.a; have hlow := h.low_eq
  have ho : (x.out : Int) ≤ 256 := by have := h.out_le; have := h.rest_le; omega
  have hs : x.sent = x.all.length := by unfold kN at hk; omega
  refine ⟨by unfold S; rw [hs, List.take_length], ?_⟩
  cases hes : x.es
  · simp [eN, hes, hs] at hen; exact hen.symm
  · exact (h.e hes).1.symm
theorem next_more {x : Snd} (h : x.Ok) (k : Nat) (en : Bool) (win mss : Int) (hk : x.kN win mss = k) (hen : x.eN k = en) (hne : ¬ (k = 0 ∧ en = false)) : x.sent + (if x.es then 1 else 0) + 1 ≤ (x.next k en).sent + (if (x.next k en).es then 1 else 0) := by
  show _ ≤ x.sent + k + (if (x.es || en) then 1 else 0)
  cases hes : x.es
  · cases en
    · have : k ≠ 0 := fun e => hne ⟨e, rfl⟩
      simp; omega
    · simp
  · obtain ⟨e1, e2⟩ := next_ended h win mss hes
    rw [e1] at hk; subst hk; rw [e2] at hen; exact absurd ⟨rfl, hen.symm⟩ hne
theorem sent_bd {x : Snd} (h : x.Ok) : x.sent + (if x.es then 1 else 0) ≤ x.all.length + 1 := by have := h.s; split <;> omega
end Snd
end Go.Proofs.Ytcioklhpbmjeeaa
