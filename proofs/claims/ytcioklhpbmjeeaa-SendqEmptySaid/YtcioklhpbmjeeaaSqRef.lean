/- The document's sender, as a plain record; what its functions compute. -/
import Derived.Test.YtcioklhpbmjeeaaSqMore
import Derived.Test.YtcioklhpbmjeeaaSqNext
import Derived.Test.YtcioklhpbmjeeaaStr
import Derived.Deep.DeepCutAuto
namespace Go.Proofs.Ytcioklhpbmjeeaa
open Go.RowKit
set_option linter.unusedVariables false

/-- All that was ever written. -/
structure Snd where
  first : Int
  all : List UInt8
  acked : Nat
  sent : Nat
  fin : Bool
  es : Bool
namespace Snd
def low (x : Snd) : Nat := min x.acked x.all.length
def rest (x : Snd) : List UInt8 := x.all.drop x.low
def una (x : Snd) : Int := sAdd x.first x.acked
def out (x : Snd) : Nat := x.sent - x.low
def ea (x : Snd) : Bool := decide (x.all.length < x.acked)
def flight (x : Snd) : Int := x.sent + (if x.es then 1 else 0) - x.acked
def room (x : Snd) : Int := if x.fin then 0 else 256 - ((x.all.length : Int) - x.low)
structure Ok (x : Snd) : Prop where
  fb : 0 ≤ x.first ∧ x.first ≤ 4294967295
  s : x.sent ≤ x.all.length
  a : x.acked ≤ x.sent + (if x.es then 1 else 0)
  e : x.es = true → x.fin = true ∧ x.sent = x.all.length
  r : x.all.length ≤ x.low + 256
  m : x.all.length ≤ 100000
def kW (x : Snd) (n : Nat) : Nat := if x.fin then 0 else min n (256 - (x.all.length - x.low))
def write (x : Snd) (ds : List UInt8) : Snd := { x with all := x.all ++ ds.take (x.kW ds.length) }
def kN (x : Snd) (win mss : Int) : Nat := (max 0 (min ((x.all.length : Int) - x.sent) (min mss (max win 0 - x.out)))).toNat
def eN (x : Snd) (k : Nat) : Bool := x.fin && !x.es && (x.sent + k == x.all.length)
def next (x : Snd) (k : Nat) (en : Bool) : Snd := { x with sent := x.sent + k, es := x.es || en }
def kA (x : Snd) (mss : Int) : Nat := (max 0 (min (x.out : Int) mss)).toNat
def eA (x : Snd) (k : Nat) : Bool := x.es && !x.ea && (k == x.rest.length)
def ack (x : Snd) (d : Nat) : Snd := { x with acked := x.acked + d }
end Snd
/-- The document's record, as a value. -/
abbrev rq (first : Int) (all : List UInt8) (acked sent : Nat) (fin es : Bool) : Value := .agg #[.int .u32 first, .string (str all), .int .i64 acked, .int .i64 sent, .bool fin, .bool es]

theorem rRoom_any (x : Snd) (h : x.Ok) (w : World) :
    Calls Try.prog 21 #[rq x.first x.all x.acked x.sent x.fin x.es] w fun e w' => e = .returned (.int .i64 x.room) ∧ Below w.heap.size w w' := by
  have hm := h.m
  have ha := h.a
  have hs := h.s
  have ha2 : x.acked ≤ x.all.length + 1 := by split at ha <;> omega
  have hr : x.room = if x.fin then 0 else 256 - ((x.all.length : Int) - (min (x.acked : Int) x.all.length)) := by unfold Snd.room Snd.low; split <;> omega
  rw [hr]
  obtain ⟨first, all, acked, sent, fin, es⟩ := x
  dsimp only at *
  clear hr h
  cases fin
  all_goals
    go_enter Try.func21, Try.ntmps21
    go_wp2
    go_ret
    exact ⟨rfl, (by repeat' (with_reducible first | exact Below.refl _ _ | assumption | refine Below.setCell ?_ (by first | omega | (simp; done) | (simp; omega)) _ | refine Below.alloc ?_ (by first | omega | (simp; done) | (simp; omega)) _ | refine below_drewN' ?_ _ | refine Below.drew ?_))⟩

theorem rFlight_any (x : Snd) (h : x.Ok) (w : World) :
    Calls Try.prog 22 #[rq x.first x.all x.acked x.sent x.fin x.es] w fun e w' => e = .returned (.int .i64 x.flight) ∧ Below w.heap.size w w' := by
  have hm := h.m
  have ha := h.a
  have hs := h.s
  unfold Snd.flight
  obtain ⟨first, all, acked, sent, fin, es⟩ := x
  dsimp only at *
  have ha2 : (acked : Int) ≤ all.length + 1 := by split at ha <;> omega
  have hs2 : (sent : Int) ≤ all.length := by omega
  clear ha h hs
  cases es
  all_goals
    go_enter Try.func22, Try.ntmps22
    go_wp2
    go_ret
    exact ⟨ret_int (by simp), (by repeat' (with_reducible first | exact Below.refl _ _ | assumption | refine Below.setCell ?_ (by first | omega | (simp; done) | (simp; omega)) _ | refine Below.alloc ?_ (by first | omega | (simp; done) | (simp; omega)) _ | refine below_drewN' ?_ _ | refine Below.drew ?_))⟩

set_option maxHeartbeats 1000000 in
theorem rWrite_any (x : Snd) (h : x.Ok) (ds : List UInt8) (hd : ds.length ≤ 1000) (w : World) :
    Calls Try.prog 28 #[rq x.first x.all x.acked x.sent x.fin x.es, .string (str ds)] w fun e w' => e = .returned (.tuple #[rq x.first (x.write ds).all x.acked x.sent x.fin x.es, .int .i64 (x.kW ds.length)]) ∧ Below w.heap.size w w' := by
  have hc := rRoom_any x h
  obtain ⟨R, hR⟩ : ∃ R, x.room = R := ⟨_, rfl⟩
  obtain ⟨k, hk⟩ : ∃ k, x.kW ds.length = k := ⟨_, rfl⟩
  have hmin : min (ds.length : Int) R = k := by
    have := h.r
    have h2 : x.low ≤ x.all.length := by unfold Snd.low; omega
    rw [← hR, ← hk]; unfold Snd.room Snd.kW; split <;> omega
  have hk2 : k ≤ ds.length := by rw [← hk]; unfold Snd.kW; split <;> omega
  have hk3 : (k : Int) ≤ ds.length := by omega
  rw [hR] at hc
  have hm := h.m
  unfold Snd.write
  rw [hk]
  have H := hid h
  have Hc := hid hc
  obtain ⟨first, all, acked, sent, fin, es⟩ := x
  dsimp only at *
  clear h hc hR hk
  have hL : (all.length : Int) + (ds.take k).length ≤ 1000000 := by simp; omega
  go_enter Try.func28, Try.ntmps28
  go_wp2_with (go_at_call 21; refine (Hc.out _).mono ?_; rintro e w1 ⟨rfl, hb1⟩; have hB_w1 := below_call (B := w.heap.size) (w := w) (by repeat' (with_reducible first | exact Below.refl _ _ | assumption | refine Below.setCell ?_ (by first | omega | (simp; done) | (simp; omega)) _ | refine Below.alloc ?_ (by first | omega | (simp; done) | (simp; omega)) _ | refine below_drewN' ?_ _ | refine Below.drew ?_)) hb1 (by first | omega | (simp; done) | (simp; omega)); have hk_w1 := Below.blk_rule hb1; have hf_w1 := Below.frz_rule hb1; have ht_w1 := Below.typ_rule hb1; have hz_w1 := hb1.size; simp at hz_w1; have hl_w1_w0 : w.heap.size < w1.heap.size := (by omega); have hn_w1_w0 : ¬ w.heap.size = w1.heap.size := (by omega); have hl_w1_w1 : w.heap.size + 1 < w1.heap.size := (by omega); have hn_w1_w1 : ¬ w.heap.size + 1 = w1.heap.size := (by omega))
  go_region
  all_goals go_wp2_with fail
  all_goals
    refine bodyPost_ret (v := .tuple #[rq first (all ++ ds.take k) acked sent fin es, .int .i64 k]) (by simp only [results, Try.results28]; go_simp) rfl ⟨rfl, (by repeat' (with_reducible first | exact Below.refl _ _ | assumption | refine Below.setCell ?_ (by first | omega | (simp; done) | (simp; omega)) _ | refine Below.alloc ?_ (by first | omega | (simp; done) | (simp; omega)) _ | refine below_drewN' ?_ _ | refine Below.drew ?_))⟩

/-- What the document's Next gives. -/
def RNextPost (w : World) (x : Snd) (k : Nat) (en : Bool) (pc : List UInt8) (e : Ending) (w' : World) : Prop :=
  Below w.heap.size w w' ∧
    ((k = 0 ∧ en = false ∧ e = .returned (.tuple #[rq x.first x.all x.acked x.sent x.fin x.es, .int .u32 0, .string (str []), .bool false, .bool false])) ∨
     (¬ (k = 0 ∧ en = false) ∧ e = .returned (.tuple #[rq x.first x.all x.acked (x.sent + k) x.fin (x.es || en), .int .u32 (sAdd x.first x.sent), .string (str pc), .bool en, .bool true])))

set_option maxHeartbeats 4000000 in
theorem rNext_any (x : Snd) (h : x.Ok) (win mss : Int) (w : World) (hw : -9223372036854775808 ≤ win ∧ win ≤ 9223372036854775807) (hms : -9223372036854775808 ≤ mss ∧ mss ≤ 9223372036854775807) (k : Nat) (hk0 : x.kN win mss = k) (en : Bool) (hen : x.eN k = en) (Pc : List UInt8) (hP : (x.all.drop x.sent).take k = Pc) :
    Calls Try.prog 29 #[rq x.first x.all x.acked x.sent x.fin x.es, .int .i64 win, .int .i64 mss] w (RNextPost w x k en Pc) := by
  have hm := h.m
  have hs := h.s
  have hf := h.fb
  have hout : (x.out : Int) = x.sent - min (x.acked : Int) x.sent := by
    have := h.a; have he := h.e
    unfold Snd.out Snd.low
    cases hes : x.es
    · rw [hes] at this; simp at this; omega
    · rw [hes] at this; have := (he hes).2; simp at *; omega
  obtain ⟨M, hM⟩ : ∃ M : Int, min mss (max win 0 - ((x.sent : Int) - min (x.acked : Int) x.sent)) = M := ⟨_, rfl⟩
  have hk : (k : Int) = max 0 (min ((x.all.length : Int) - x.sent) M) := by rw [← hM, ← hout, ← hk0]; unfold Snd.kN; omega
  have ha : (x.acked : Int) ≤ x.all.length + 1 := by have := h.a; split at this <;> omega
  unfold Snd.eN at hen
  have hPl : Pc.length = k := by rw [← hP]; simp; omega
  have HP := hid hP
  have HEN := hid hen
  have HK := hid hk
  have hkl : (k : Int) + x.sent ≤ x.all.length := by omega
  obtain ⟨first, all, acked, sent, fin, es⟩ := x
  dsimp only at *
  clear hP hen hk hk0 h hout
  obtain ⟨L, hL⟩ : ∃ L, all.length = L := ⟨_, rfl⟩
  have hs2 : (sent : Int) ≤ L := by omega
  obtain ⟨S, hS⟩ : ∃ S, (all.drop sent).take (L - sent) = S := ⟨_, rfl⟩
  obtain ⟨q, hq⟩ : ∃ q : Nat, (q : Int) = L - sent := ⟨L - sent, by omega⟩
  have hSl : S.length = q := by rw [← hS]; simp; omega
  have HK2 : Hid ((k : Int) = max 0 (min (q : Int) M)) := by have := HK.out; rw [hL] at this; rw [hq]; exact this
  have hSk : S.take k = Pc := by rw [← HP.out, ← hS, List.take_take]; congr 1; have := HK2.out; omega
  rw [hL] at hm hs hkl ha
  have HQ := hid hq
  clear hq
  go_enter Try.func29, Try.ntmps29
  go_upto_if 36 with (fail)
  clear hM hS
  refine wp_name (fun W0 hW => ?_)
  have e0 : blk W0 w.heap.size = #[.int .u32 first, .string (str all), .int .i64 acked, .int .i64 sent, .bool fin, .bool es] := by rw [hW]; go_simp; try omega
  have e1 : blk W0 (w.heap.size + 1) = #[.int .u32 0, .string (str []), .int .i64 0, .int .i64 0, .bool false, .bool false] := by rw [hW]; go_simp; try omega
  have f0 : ∀ j, W0.frozen? ⟨w.heap.size, j, none⟩ = false := by intro j; rw [hW]; go_simp; try omega
  have f1 : ∀ j, W0.frozen? ⟨w.heap.size + 1, j, none⟩ = false := by intro j; rw [hW]; go_simp; try omega
  have BW : Below w.heap.size w W0 := by rw [hW]; exact (by repeat' (with_reducible first | exact Below.refl _ _ | assumption | refine Below.setCell ?_ (by first | omega | (simp; done) | (simp; omega)) _ | refine Below.alloc ?_ (by first | omega | (simp; done) | (simp; omega)) _ | refine below_drewN' ?_ _ | refine Below.drew ?_))
  have zW1 : w.heap.size + 1 < W0.heap.size := by rw [hW]; simp
  clear hW
  go_cut [12] (fun s wx => s = .string (str Pc) ∧ wx = W0)
  case first =>
    by_cases hlt : M < q
    · have hmx : max M 0 = (k : Int) := by have := HK2.out; omega
      have hkq : (k : Int) ≤ q := by have := HK2.out; omega
      have Hlt := hid hlt
      clear hlt
      go_wp2_with fail
      all_goals (try (exfalso; have := Hlt.out; omega))
      go_meet
      case rel => exact ⟨rfl, rfl⟩
    · have hmx : S = Pc := by rw [← hSk, List.take_of_length_le]; have := HK2.out; omega
      have Hlt := hid hlt
      subst hmx
      clear hSk hlt
      go_wp2_with fail
      all_goals (try (exfalso; have := Hlt.out; omega))
      go_meet
      case rel => exact ⟨rfl, rfl⟩
  case rest =>
    obtain ⟨rfl, rfl⟩ := hcut
    obtain ⟨W0, hW0⟩ : ∃ W0, W0 = wc := ⟨_, rfl⟩
    subst hW0
    clear hSk hSl
    have hE : en = (fin && !es && ((sent : Int) + k == L)) := by
      have h9 : (sent + k == all.length) = ((sent : Int) + k == (L : Int)) := by rw [Bool.eq_iff_iff]; simp only [beq_iff_eq]; omega
      rw [← HEN.out, h9]
    have HE := hid hE
    have HL := hid hL
    clear hE hL
    go_upto_region 5 with fail
    go_cut [13] (fun s wx => s = .bool en ∧ wx = W0)
    case first =>
      cases fin
      · go_wp2_with fail
        go_meet
        case rel => exact ⟨by rw [HE.out]; rfl, rfl⟩
      · cases es
        · go_wp2_with fail
          go_meet
          case rel => exact ⟨by rw [HE.out]; simp [HL.out], rfl⟩
        · go_wp2_with fail
          go_meet
          case rel => exact ⟨by rw [HE.out]; rfl, rfl⟩
    case rest =>
      obtain ⟨rfl, rfl⟩ := hcut
      obtain ⟨W0, hW0⟩ : ∃ W0, W0 = wc := ⟨_, rfl⟩
      subst hW0
      go_upto_region 6 with fail
      go_cut [64] (fun s wx => s = .bool (decide (k = 0 ∧ en = false)) ∧ wx = W0)
      case first =>
        cases Pc with
        | nil =>
          obtain rfl : 0 = k := hPl
          cases en
          · go_wp2_with fail
            go_meet
            case rel => exact ⟨by simp, rfl⟩
          · go_wp2_with fail
            go_meet
            case rel => exact ⟨by simp, rfl⟩
        | cons p0 p1 =>
          have hkz : ¬ k = 0 := by rw [← hPl]; simp
          have HPl := hid hPl
          clear hPl
          go_wp2_with fail
          go_meet
          case rel => exact ⟨by simp [hkz], rfl⟩
      case rest =>
        obtain ⟨rfl, rfl⟩ := hcut
        obtain ⟨W0, hW0⟩ : ∃ W0, W0 = wc := ⟨_, rfl⟩
        subst hW0
        by_cases hz : k = 0 ∧ en = false
        · obtain ⟨rfl, rfl⟩ := hz
          go_wp2_with fail
          refine bodyPost_ret (v := .tuple #[rq first all acked sent fin es, .int .u32 0, .string (str []), .bool false, .bool false]) (by simp only [results, Try.results29]; go_simp) rfl ?_
          exact ⟨(by repeat' (with_reducible first | exact Below.refl _ _ | assumption | refine Below.setCell ?_ (by first | omega | (simp; done) | (simp; omega)) _ | refine Below.alloc ?_ (by first | omega | (simp; done) | (simp; omega)) _ | refine below_drewN' ?_ _ | refine Below.drew ?_)), .inl ⟨rfl, rfl, rfl⟩⟩
        · have hdz : decide (k = 0 ∧ en = false) = false := by simpa using hz
          have Hz := hid hz
          clear hz
          have hkl2 : (sent : Int) + k ≤ 1000000 := by omega
          have hwr : IntKind.i64.wrap ((sent : Int) + k) = (sent : Int) + k := IntWalk.i64_in _ (by omega)
          cases es
          all_goals
            go_wp2_with (go_at_call 32; refine (refAdd_any _ _ _ hf (by omega)).mono ?_; rintro e w' ⟨rfl, rfl⟩)
          · refine bodyPost_ret (v := .tuple #[rq first all acked (sent + k : Nat) fin en, .int .u32 (sAdd first sent), .string (str Pc), .bool en, .bool true]) (by simp only [results, Try.results29]; go_simp) rfl ?_
            exact ⟨(by repeat' (with_reducible first | exact Below.refl _ _ | assumption | refine Below.setCell ?_ (by first | omega | (simp; done) | (simp; omega)) _ | refine Below.alloc ?_ (by first | omega | (simp; done) | (simp; omega)) _ | refine below_drewN' ?_ _ | refine Below.drew ?_)), .inr ⟨Hz.out, rfl⟩⟩
          · refine bodyPost_ret (v := .tuple #[rq first all acked (sent + k : Nat) fin true, .int .u32 (sAdd first sent), .string (str Pc), .bool en, .bool true]) (by simp only [results, Try.results29]; go_simp) rfl ?_
            exact ⟨(by repeat' (with_reducible first | exact Below.refl _ _ | assumption | refine Below.setCell ?_ (by first | omega | (simp; done) | (simp; omega)) _ | refine Below.alloc ?_ (by first | omega | (simp; done) | (simp; omega)) _ | refine below_drewN' ?_ _ | refine Below.drew ?_)), .inr ⟨Hz.out, rfl⟩⟩
end Go.Proofs.Ytcioklhpbmjeeaa
