/- The document's Again, Ack, Like. -/
import Derived.Test.YtcioklhpbmjeeaaSqRef
import Derived.Deep.QuietTactic
import Derived.BigQuiet
namespace Go.Proofs.Ytcioklhpbmjeeaa
open Go.RowKit
set_option linter.unusedVariables false

/-- What the document's Again gives. -/
def RAgainPost (w : World) (x : Snd) (k : Nat) (en : Bool) (pc : List UInt8) (e : Ending) (w' : World) : Prop :=
  Below w.heap.size w w' ∧
    ((k = 0 ∧ en = false ∧ e = .returned (.tuple #[.int .u32 0, .string (str []), .bool false, .bool false])) ∨
     (¬ (k = 0 ∧ en = false) ∧ e = .returned (.tuple #[.int .u32 x.una, .string (str pc), .bool en, .bool true])))

theorem Snd.Ok.low_eq {x : Snd} (h : x.Ok) : (x.low : Int) = min (x.acked : Int) x.sent := by
  have := h.a; have he := h.e; have hs := h.s
  unfold Snd.low
  cases hes : x.es
  · rw [hes] at this; simp at this; omega
  · rw [hes] at this; have := (he hes).2; simp at *; omega

set_option maxHeartbeats 4000000 in
theorem rAgain_any (x : Snd) (h : x.Ok) (mss : Int) (w : World) (hms : -9223372036854775808 ≤ mss ∧ mss ≤ 9223372036854775807) (k : Nat) (hk0 : x.kA mss = k) (en : Bool) (hen : x.eA k = en) (Pc : List UInt8) (hP : x.rest.take k = Pc) :
    Calls Try.prog 30 #[rq x.first x.all x.acked x.sent x.fin x.es, .int .i64 mss] w (RAgainPost w x k en Pc) := by
  have hm := h.m
  have hs := h.s
  have hf := h.fb
  have hlo := h.low_eq
  have ha : (x.acked : Int) ≤ x.all.length + 1 := by have := h.a; split at this <;> omega
  obtain ⟨f0, hf0⟩ : ∃ f0, x.low = f0 := ⟨_, rfl⟩
  have hk : max 0 (min ((x.sent : Int) - f0) mss) = (k : Int) := by
    have : (x.out : Int) = x.sent - f0 := by unfold Snd.out; omega
    rw [← hk0]; unfold Snd.kA; omega
  have hmin : min (x.acked : Int) x.sent = (f0 : Int) := by rw [← hlo, hf0]
  obtain ⟨t0, ht0⟩ : ∃ t0, f0 + k = t0 := ⟨_, rfl⟩
  have hrl : x.rest.length = x.all.length - f0 := by unfold Snd.rest; rw [List.length_drop, hf0]
  have hun : ¬ (k = 0 ∧ en = false) → f0 = x.acked := by
    intro hne
    have hA := h.a
    by_cases hes : x.es = true
    · by_cases hle : x.acked ≤ x.all.length
      · have := (h.e hes).2; omega
      · exfalso
        refine hne ⟨?_, ?_⟩
        · rw [hes] at hA; have := (h.e hes).2; omega
        · rw [← hen]; simp [Snd.eA, Snd.ea]; omega
    · simp [hes] at hA; omega
  have hE : en = (x.es && decide ((x.acked : Int) ≤ x.all.length) && ((t0 : Int) == x.all.length)) := by
    rw [← hen]; unfold Snd.eA Snd.ea; rw [hrl]
    have hfl : f0 ≤ x.all.length := by rw [← hf0]; unfold Snd.low; omega
    have h1 : (k == x.all.length - f0) = ((t0 : Int) == (x.all.length : Int)) := by rw [Bool.eq_iff_iff]; simp only [beq_iff_eq]; omega
    have h2 : (!decide (x.all.length < x.acked)) = decide ((x.acked : Int) ≤ x.all.length) := by rw [Bool.eq_iff_iff]; simp
    rw [h1, h2]
  have hpc : (x.all.drop f0).take k = Pc := by rw [← hP]; unfold Snd.rest; rw [hf0]
  have hpl : Pc.length = k := by rw [← hpc]; simp; omega
  have HU : Hid (¬ (k = 0 ∧ en = false) → x.una = sAdd x.first f0) := fun hne => by unfold Snd.una; rw [hun hne]
  have hks : (t0 : Int) ≤ x.sent := by omega
  have hft : (f0 : Int) + k = t0 := by omega
  have hfl : (f0 : Int) ≤ x.sent := by omega
  have hsl : (x.sent : Int) ≤ x.all.length := by omega
  have HE := hid hE
  have HT := hid ht0
  obtain ⟨first, all, acked, sent, fin, es⟩ := x
  dsimp only at *
  obtain ⟨L, hL⟩ : ∃ L, all.length = L := ⟨_, rfl⟩
  rw [hL] at hm hs ha hsl
  have HE : Hid (en = (es && decide ((acked : Int) ≤ L) && ((t0 : Int) == L))) := by rw [← hL]; exact HE.out
  have hex : (all.drop f0).take (t0 - f0) = Pc := by rw [← hpc]; congr 1; omega
  have HPL := hid hpl
  clear h hk0 hen hP hf0 hlo hrl hun hE ht0 hpc hpl
  go_enter Try.func30, Try.ntmps30
  go_upto_region 3 with fail
  refine wp_name (fun W0 hW => ?_)
  have e0 : blk W0 w.heap.size = #[.int .u32 first, .string (str all), .int .i64 acked, .int .i64 sent, .bool fin, .bool es] := by rw [hW]; go_simp; try omega
  have BW : Below w.heap.size w W0 := by rw [hW]; exact (by repeat' (with_reducible first | exact Below.refl _ _ | assumption | refine Below.setCell ?_ (by first | omega | (simp; done) | (simp; omega)) _ | refine Below.alloc ?_ (by first | omega | (simp; done) | (simp; omega)) _ | refine below_drewN' ?_ _ | refine Below.drew ?_))
  have zW1 : w.heap.size < W0.heap.size := by rw [hW]; simp
  clear hW hmin hk hft
  go_cut [10] (fun s wx => s = .bool en ∧ wx = W0)
  case first =>
    cases es
    · go_wp2_with fail
      go_meet
      case rel => exact ⟨by rw [HE.out]; simp, rfl⟩
    · by_cases hal : (acked : Int) ≤ L
      · have hq : decide ((acked : Int) ≤ L) = true := by simpa using hal
        go_wp2_with fail
        go_meet
        case rel => exact ⟨by rw [HE.out, hq]; rfl, rfl⟩
      · have hq : decide ((acked : Int) ≤ L) = false := by simpa using hal
        go_wp2_with fail
        go_meet
        case rel => exact ⟨by rw [HE.out, hq]; rfl, rfl⟩
  case rest =>
    obtain ⟨rfl, rfl⟩ := hcut
    obtain ⟨W0, hW0⟩ : ∃ W0, W0 = wc := ⟨_, rfl⟩
    subst hW0
    have hz0 : ((f0 : Int) == (t0 : Int)) = decide (k = 0) := by
      rw [Bool.eq_iff_iff]; simp; have := HT.out; omega
    by_cases hz : k = 0 ∧ en = false
    · obtain ⟨rfl, rfl⟩ := hz
      have hz1 : ((f0 : Int) == (t0 : Int)) = true := by rw [hz0]; rfl
      clear hz0
      go_wp2_with fail
      refine bodyPost_ret (v := .tuple #[.int .u32 0, .string (str []), .bool false, .bool false]) (by simp only [results, Try.results30]; go_simp) rfl ?_
      exact ⟨(by repeat' (with_reducible first | exact Below.refl _ _ | assumption | refine Below.setCell ?_ (by first | omega | (simp; done) | (simp; omega)) _ | refine Below.alloc ?_ (by first | omega | (simp; done) | (simp; omega)) _ | refine below_drewN' ?_ _ | refine Below.drew ?_)), .inl ⟨rfl, rfl, rfl⟩⟩
    · have HUU : sAdd first f0 = Snd.una { first := first, all := all, acked := acked, sent := sent, fin := fin, es := es } := (HU.out hz).symm
      obtain ⟨U, hU⟩ : ∃ U, sAdd first f0 = U := ⟨_, rfl⟩
      have HU2 : Hid (U = Snd.una { first := first, all := all, acked := acked, sent := sent, fin := fin, es := es }) := by rw [← hU]; exact HUU
      have hex2 : (all.drop f0).take (t0 - f0) = Pc := hex
      have Hz := hid hz
      have C1 : ∀ w, Calls Try.prog 32 #[.int .u32 first, .int .i64 f0] w fun e w' => e = .returned (.int .u32 U) ∧ w = w' := fun w => hU ▸ refAdd_any _ _ w hf (by omega)
      have C1 := hid C1
      clear hz hU HUU hz0
      have hkt : ((f0 : Int) == (t0 : Int)) = decide (k = 0) := by
        rw [Bool.eq_iff_iff]; simp; have := HT.out; omega
      have hft2 : (f0 : Int) ≤ t0 := by have := HT.out; omega
      have htl : (t0 : Int) ≤ L := by omega
      cases hk1 : decide (k = 0)
      · have hz1 : ((f0 : Int) == (t0 : Int)) = false := by rw [hkt, hk1]
        clear hkt hk1
        go_upto_region 6 with fail
        go_quiet (first
          | (go_at_call 32; exact Calls.quiet_of_same ((C1.out _).mono fun _ _ h => ⟨h.1, h.2.symm⟩)))
        go_wp2_with fail
        refine bodyPost_ret (v := .tuple #[.int .u32 U, .string (str Pc), .bool en, .bool true]) (by simp only [results, Try.results30]; go_simp) rfl ?_
        exact ⟨(by repeat' (with_reducible first | exact Below.refl _ _ | assumption | refine Below.setCell ?_ (by first | omega | (simp; done) | (simp; omega)) _ | refine Below.alloc ?_ (by first | omega | (simp; done) | (simp; omega)) _ | refine below_drewN' ?_ _ | refine Below.drew ?_)), .inr ⟨Hz.out, by rw [HU2.out]⟩⟩
      · have hz1 : ((f0 : Int) == (t0 : Int)) = true := by rw [hkt, hk1]
        obtain rfl : en = true := by
          have := Hz.out
          have h0 : k = 0 := of_decide_eq_true hk1
          simpa [h0] using this
        clear hkt hk1
        go_upto_region 6 with fail
        go_quiet (first
          | (go_at_call 32; exact Calls.quiet_of_same ((C1.out _).mono fun _ _ h => ⟨h.1, h.2.symm⟩)))
        go_wp2_with fail
        refine bodyPost_ret (v := .tuple #[.int .u32 U, .string (str Pc), .bool true, .bool true]) (by simp only [results, Try.results30]; go_simp) rfl ?_
        exact ⟨(by repeat' (with_reducible first | exact Below.refl _ _ | assumption | refine Below.setCell ?_ (by first | omega | (simp; done) | (simp; omega)) _ | refine Below.alloc ?_ (by first | omega | (simp; done) | (simp; omega)) _ | refine below_drewN' ?_ _ | refine Below.drew ?_)), .inr ⟨Hz.out, by rw [HU2.out]⟩⟩
end Go.Proofs.Ytcioklhpbmjeeaa
