/- The document's Ack and Like. -/
import Derived.Test.YtcioklhpbmjeeaaSqRefB
namespace Go.Proofs.Ytcioklhpbmjeeaa
open Go.RowKit
set_option linter.unusedVariables false

/-- What the document's Ack gives. -/
def RAckPost (w : World) (x : Snd) (d : Int) (e : Ending) (w' : World) : Prop :=
  Below w.heap.size w w' ∧
    ((d ≤ 0 ∧ e = .returned (.tuple #[rq x.first x.all x.acked x.sent x.fin x.es, .int .i64 0, .int .i64 0])) ∨
     (0 < d ∧ x.flight < d ∧ e = .returned (.tuple #[rq x.first x.all x.acked x.sent x.fin x.es, .int .i64 0, .int .i64 1])) ∨
     (0 < d ∧ d ≤ x.flight ∧ e = .returned (.tuple #[rq x.first x.all (x.acked + d.toNat) x.sent x.fin x.es, .int .i64 d, .int .i64 0])))

theorem Snd.Ok.flight_bd {x : Snd} (h : x.Ok) : 0 ≤ x.flight ∧ x.flight ≤ 100001 := by
  have := h.a; have hs := h.s; have hm := h.m
  unfold Snd.flight
  cases hes : x.es <;> simp [hes] at this ⊢ <;> omega

set_option maxHeartbeats 1000000 in
theorem rAck_any (x : Snd) (h : x.Ok) (ack : Int) (w : World) (hA : 0 ≤ ack ∧ ack ≤ 4294967295) (d : Int) (hd : sDiff ack x.una = d) :
    Calls Try.prog 31 #[rq x.first x.all x.acked x.sent x.fin x.es, .int .u32 ack] w (RAckPost w x d) := by
  have hf := h.fb
  have hfl := h.flight_bd
  have hcf := rFlight_any x h
  have ha : (x.acked : Int) ≤ 100001 := by have := h.a; have := h.s; have := h.m; split at * <;> omega
  obtain ⟨F, hF⟩ : ∃ F, x.flight = F := ⟨_, rfl⟩
  have hdb := sDiff_bd ack x.una
  rw [hd] at hdb
  obtain ⟨U, hU⟩ : ∃ U, sAdd x.first x.acked = U := ⟨_, rfl⟩
  have hU2 : x.una = U := hU
  have hUb : 0 ≤ U ∧ U ≤ 4294967295 := by rw [← hU]; exact sAdd_bd _ _
  have C1 : ∀ w, Calls Try.prog 32 #[.int .u32 x.first, .int .i64 x.acked] w fun e w' => e = .returned (.int .u32 U) ∧ w = w' := fun w => hU ▸ refAdd_any _ _ w hf (by omega)
  have C2 : ∀ w, Calls Try.prog 33 #[.int .u32 ack, .int .u32 U] w fun e w' => e = .returned (.int .i64 d) ∧ w = w' := fun w => by rw [← hd, hU2]; exact refDiff_any _ _ w hA hUb
  rw [hF] at hcf hfl
  have C1 := hid C1
  have C2 := hid C2
  have HC := hid hcf
  have HF := hid hF
  obtain ⟨first, all, acked, sent, fin, es⟩ := x
  dsimp only at *
  clear hd hU hU2 hF hcf h
  by_cases h1 : d ≤ 0
  · have q1 : decide (d ≤ 0) = true := by simpa using h1
    go_enter Try.func31, Try.ntmps31
    go_wp2_with (first
      | (go_at_call 32; refine (C1.out _).mono ?_; rintro e w' ⟨rfl, rfl⟩)
      | (go_at_call 33; refine (C2.out _).mono ?_; rintro e w' ⟨rfl, rfl⟩))
    refine bodyPost_ret (v := .tuple #[rq first all acked sent fin es, .int .i64 0, .int .i64 0]) (by simp only [results, Try.results31]; go_simp) rfl ?_
    exact ⟨(by repeat' (with_reducible first | exact Below.refl _ _ | assumption | refine Below.setCell ?_ (by first | omega | (simp; done) | (simp; omega)) _ | refine Below.alloc ?_ (by first | omega | (simp; done) | (simp; omega)) _ | refine below_drewN' ?_ _ | refine Below.drew ?_)), .inl ⟨h1, rfl⟩⟩
  · have q1 : decide (d ≤ 0) = false := by simpa using h1
    by_cases h2 : F < d
    · have q2 : decide (F < d) = true := by simpa using h2
      go_enter Try.func31, Try.ntmps31
      go_wp2_with (first
        | (go_at_call 32; refine (C1.out _).mono ?_; rintro e w' ⟨rfl, rfl⟩)
        | (go_at_call 33; refine (C2.out _).mono ?_; rintro e w' ⟨rfl, rfl⟩)
        | (go_at_call 22; refine (HC.out _).mono ?_; rintro e w1 ⟨rfl, hb1⟩; have hB_w1 := below_call (B := w.heap.size) (w := w) (by repeat' (with_reducible first | exact Below.refl _ _ | assumption | refine Below.setCell ?_ (by first | omega | (simp; done) | (simp; omega)) _ | refine Below.alloc ?_ (by first | omega | (simp; done) | (simp; omega)) _ | refine below_drewN' ?_ _ | refine Below.drew ?_)) hb1 (by first | omega | (simp; done) | (simp; omega)); have hk_w1 := Below.blk_rule hb1; have hf_w1 := Below.frz_rule hb1; have ht_w1 := Below.typ_rule hb1; have hz_w1 := hb1.size; simp at hz_w1; have hl_w1_w0 : w.heap.size < w1.heap.size := (by omega); have hn_w1_w0 : ¬ w.heap.size = w1.heap.size := (by omega); have hl_w1_w1 : w.heap.size + 1 < w1.heap.size := (by omega); have hn_w1_w1 : ¬ w.heap.size + 1 = w1.heap.size := (by omega)))
      refine bodyPost_ret (v := .tuple #[rq first all acked sent fin es, .int .i64 0, .int .i64 1]) (by simp only [results, Try.results31]; go_simp) rfl ?_
      exact ⟨(by repeat' (with_reducible first | exact Below.refl _ _ | assumption | refine Below.setCell ?_ (by first | omega | (simp; done) | (simp; omega)) _ | refine Below.alloc ?_ (by first | omega | (simp; done) | (simp; omega)) _ | refine below_drewN' ?_ _ | refine Below.drew ?_)), .inr (.inl ⟨by omega, by rw [HF.out]; exact h2, rfl⟩)⟩
    · have q2 : decide (F < d) = false := by simpa using h2
      obtain ⟨k, rfl⟩ := Int.eq_ofNat_of_zero_le (show 0 ≤ d by omega)
      go_enter Try.func31, Try.ntmps31
      go_wp2_with (first
        | (go_at_call 32; refine (C1.out _).mono ?_; rintro e w' ⟨rfl, rfl⟩)
        | (go_at_call 33; refine (C2.out _).mono ?_; rintro e w' ⟨rfl, rfl⟩)
        | (go_at_call 22; refine (HC.out _).mono ?_; rintro e w1 ⟨rfl, hb1⟩; have hB_w1 := below_call (B := w.heap.size) (w := w) (by repeat' (with_reducible first | exact Below.refl _ _ | assumption | refine Below.setCell ?_ (by first | omega | (simp; done) | (simp; omega)) _ | refine Below.alloc ?_ (by first | omega | (simp; done) | (simp; omega)) _ | refine below_drewN' ?_ _ | refine Below.drew ?_)) hb1 (by first | omega | (simp; done) | (simp; omega)); have hk_w1 := Below.blk_rule hb1; have hf_w1 := Below.frz_rule hb1; have ht_w1 := Below.typ_rule hb1; have hz_w1 := hb1.size; simp at hz_w1; have hl_w1_w0 : w.heap.size < w1.heap.size := (by omega); have hn_w1_w0 : ¬ w.heap.size = w1.heap.size := (by omega); have hl_w1_w1 : w.heap.size + 1 < w1.heap.size := (by omega); have hn_w1_w1 : ¬ w.heap.size + 1 = w1.heap.size := (by omega)))
      refine bodyPost_ret (v := .tuple #[rq first all (acked + k) sent fin es, .int .i64 k, .int .i64 0]) (by simp only [results, Try.results31]; go_simp) rfl ?_
      exact ⟨(by repeat' (with_reducible first | exact Below.refl _ _ | assumption | refine Below.setCell ?_ (by first | omega | (simp; done) | (simp; omega)) _ | refine Below.alloc ?_ (by first | omega | (simp; done) | (simp; omega)) _ | refine below_drewN' ?_ _ | refine Below.drew ?_)), .inr (.inr ⟨by omega, by rw [HF.out]; omega, rfl⟩)⟩

set_option maxHeartbeats 4000000 in
theorem rLike_any (x : Snd) (h : x.Ok) (a : Option Addr) (c : Nat) (w : World) (hr : Row w a x.rest.length c 1 (bytes x.rest)) :
    Calls Try.prog 20 #[rq x.first x.all x.acked x.sent x.fin x.es, sq x.una (.slice a x.rest.length c) x.out x.fin x.es x.ea] w fun e w' => e = .returned (.bool true) ∧ Below w.heap.size w w' := by
  have hf := h.fb
  have hs := h.s
  have hm := h.m
  have ha : (x.acked : Int) ≤ x.all.length + 1 := by have := h.a; split at this <;> omega
  obtain ⟨U, hU⟩ : ∃ U, x.una = U := ⟨_, rfl⟩
  have C1 : ∀ w, Calls Try.prog 32 #[.int .u32 x.first, .int .i64 x.acked] w fun e w' => e = .returned (.int .u32 U) ∧ w = w' := fun w => by rw [← hU]; exact refAdd_any _ _ w hf (by omega)
  have C1 := hid C1
  obtain ⟨n, hn⟩ : ∃ n, x.rest.length = n := ⟨_, rfl⟩
  obtain ⟨R, hR⟩ : ∃ R, x.rest = R := ⟨_, rfl⟩
  obtain ⟨f0, hf0⟩ : ∃ f0, x.low = f0 := ⟨_, rfl⟩
  have hfl : (f0 : Int) ≤ x.all.length := by rw [← hf0]; unfold Snd.low; omega
  have hmin : min (x.acked : Int) x.all.length = (f0 : Int) := by rw [← hf0]; unfold Snd.low; omega
  have hdr : (x.all.drop f0).take (x.all.length - f0) = R := by rw [← hR]; unfold Snd.rest; rw [hf0, List.take_of_length_le]; simp
  have hout : (x.sent : Int) - f0 = x.out := by
    have := h.low_eq
    unfold Snd.out; omega
  have hob : (x.out : Int) ≤ 1000000 := by unfold Snd.out; omega
  have hea : x.ea = decide (x.all.length < x.acked) := rfl
  obtain ⟨o, ho⟩ : ∃ o, x.out = o := ⟨_, rfl⟩
  rw [hU, hn, ho]
  rw [hn, hR] at hr
  rw [ho] at hout hob
  obtain ⟨ea, hea2⟩ : ∃ ea, x.ea = ea := ⟨_, rfl⟩
  rw [hea2] at hea ⊢
  have H1 := hid h
  obtain ⟨first, all, acked, sent, fin, es⟩ := x
  dsimp only at *
  obtain ⟨L, hL⟩ : ∃ L, all.length = L := ⟨_, rfl⟩
  rw [hL] at hfl hdr hs hm ha hmin hea
  have hea3 : decide (L < acked) = ea := hea.symm
  clear h H1 hU hn hR hf0 hea2 hea ho
  go_enter Try.func20, Try.ntmps20
  go_upto_region 2 with fail
  refine wp_name (fun W0 hW => ?_)
  have e0 : blk W0 w.heap.size = #[.int .u32 first, .string (str all), .int .i64 acked, .int .i64 sent, .bool fin, .bool es] := by rw [hW]; go_simp; try omega
  have e1 : blk W0 (w.heap.size + 1) = #[.int .u32 U, .slice a n c, .int .i64 o, .bool fin, .bool es, .bool ea] := by rw [hW]; go_simp; try omega
  have BW : Below w.heap.size w W0 := by rw [hW]; exact (by repeat' (with_reducible first | exact Below.refl _ _ | assumption | refine Below.setCell ?_ (by first | omega | (simp; done) | (simp; omega)) _ | refine Below.alloc ?_ (by first | omega | (simp; done) | (simp; omega)) _ | refine below_drewN' ?_ _ | refine Below.drew ?_))
  have hst := (hr.below BW).strings (P := Try.prog) (src := 23) (e := 5) (dst := 9) Try.underlying23 Try.underlying5 Try.underlying9
  clear hW hr
  go_quiet (first
    | (go_at_call 32; exact Calls.quiet_of_same ((C1.out _).mono fun _ _ h => ⟨h.1, h.2.symm⟩)))
  go_wp2_with fail
  go_ret
  exact ⟨rfl, (by repeat' (with_reducible first | exact Below.refl _ _ | assumption | refine Below.setCell ?_ (by first | omega | (simp; done) | (simp; omega)) _ | refine Below.alloc ?_ (by first | omega | (simp; done) | (simp; omega)) _ | refine below_drewN' ?_ _ | refine Below.drew ?_))⟩
end Go.Proofs.Ytcioklhpbmjeeaa
