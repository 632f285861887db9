/- New, Close, Right, Again, Ack. -/
import Derived.Test.YtcioklhpbmjeeaaSqFns
import Derived.Test.YtcioklhpbmjeeaaSeqWalks
import Derived.Deep.DeepCutAuto
namespace Go.Proofs.Ytcioklhpbmjeeaa
open Go.RowKit
set_option linter.unusedVariables false

theorem sqNew_any (una : Int) (w : World) :
    Calls Try.prog 11 #[.int .u32 una] w fun e w' => e = .returned (sq una (.slice none 0 0) 0 false false false) ∧ Below w.heap.size w w' := by
  go_enter Try.func11, Try.ntmps11
  go_wp2
  refine bodyPost_ret (v := sq una (.slice none 0 0) 0 false false false) (by simp only [results, Try.results11]; go_simp) rfl ⟨rfl, (by repeat' (with_reducible first | exact Below.refl _ _ | assumption | refine Below.setCell ?_ (by first | omega | (simp; done) | (simp; omega)) _ | refine Below.alloc ?_ (by first | omega | (simp; done) | (simp; omega)) _ | refine below_drewN' ?_ _ | refine Below.drew ?_))⟩

set_option maxHeartbeats 400000 in
theorem sqClose_any (una : Int) (a : Option Addr) (n c : Nat) (bs : List UInt8) (sent : Int) (f es ea : Bool) (w : World) (h : Row w a n c 1 (bytes bs)) (hn : n ≤ 1000000) :
    Calls Try.prog 16 #[sq una (.slice a n c) sent f es ea] w (OwnPost w 5 1 n (bytes bs) fun d => sq una d sent true es ea) := by
  simp only [sq]
  go_enter Try.func16, Try.ntmps16
  go_wp2_with (go_at_call 24; refine (sqClone_any _ _ _ _ bs _ _ _ _ _ (h.below (by repeat' (with_reducible first | exact Below.refl _ _ | assumption | refine Below.setCell ?_ (by first | omega | (simp; done) | (simp; omega)) _ | refine Below.alloc ?_ (by first | omega | (simp; done) | (simp; omega)) _ | refine below_drewN' ?_ _ | refine Below.drew ?_))) hn).mono ?_; rintro e w1 ⟨a', c', rfl, ho, hb⟩; have hB_w1 := below_call (B := w.heap.size) (w := w) (by repeat' (with_reducible first | exact Below.refl _ _ | assumption | refine Below.setCell ?_ (by first | omega | (simp; done) | (simp; omega)) _ | refine Below.alloc ?_ (by first | omega | (simp; done) | (simp; omega)) _ | refine below_drewN' ?_ _ | refine Below.drew ?_)) hb (by first | omega | (simp; done) | (simp; omega)); have hk_w1 := Below.blk_rule hb; have hf_w1 := Below.frz_rule hb; have ht_w1 := Below.typ_rule hb; have hz_w1 := hb.size; (try simp at hz_w1); have hl_w1_w0 : w.heap.size < w1.heap.size := (by omega); have hn_w1_w0 : ¬ w.heap.size = w1.heap.size := (by omega); have hl_w1_w1 : w.heap.size + 1 < w1.heap.size := (by omega); have hn_w1_w1 : ¬ w.heap.size + 1 = w1.heap.size := (by omega); simp at ho)
  refine bodyPost_ret (v := sq una (.slice a' n c') sent true es ea) (by simp only [results, Try.results16]; go_simp) rfl ⟨a', c', rfl, ?_, (by repeat' (with_reducible first | exact Below.refl _ _ | assumption | refine Below.setCell ?_ (by first | omega | (simp; done) | (simp; omega)) _ | refine Below.alloc ?_ (by first | omega | (simp; done) | (simp; omega)) _ | refine below_drewN' ?_ _ | refine Below.drew ?_))⟩
  refine own_base (base := w.heap.size + 2) ?_ (by omega)
  exact (by repeat' (with_reducible first | exact ho | assumption | refine own_set ?_ (by first | omega | (simp; done) | (simp; omega)) _ | refine World.ownsRow.alloc ?_ _ | refine own_below ?_ (by assumption) | refine own_drewN ?_ _))

theorem sqRight_any (una : Int) (a : Option Addr) (n c : Nat) (sent : Int) (f es ea : Bool) (w : World) (R : Bool)
    (hR : R = (decide ((n : Int) ≤ 256) && decide (0 ≤ sent) && decide (sent ≤ n) && (!es || f && (sent == n)) && (!ea || es && ((n : Int) == 0)))) :
    Calls Try.prog 9 #[sq una (.slice a n c) sent f es ea] w fun e w' => e = .returned (.bool R) ∧ Below w.heap.size w w' := by
  simp only [sq]
  have HR := hid hR
  clear hR
  go_enter Try.func9, Try.ntmps9
  go_wp2
  all_goals go_ret
  all_goals refine ⟨ret_bool ?_, (by repeat' (with_reducible first | exact Below.refl _ _ | assumption | refine Below.setCell ?_ (by first | omega | (simp; done) | (simp; omega)) _ | refine Below.alloc ?_ (by first | omega | (simp; done) | (simp; omega)) _ | refine below_drewN' ?_ _ | refine Below.drew ?_))⟩
  all_goals rw [HR.out]
  all_goals clear HR
  all_goals simp_all
  all_goals (intros; omega)

/-- What Again gives. -/
def AgainPost (w : World) (una : Int) (bs : List UInt8) (k : Nat) (en : Bool) (e : Ending) (w' : World) : Prop :=
  Below w.heap.size w w' ∧
    ((k = 0 ∧ en = false ∧ e = .returned (.tuple #[.agg #[.int .u32 0, .slice none 0 0], .bool false, .bool false])) ∨
     (¬ (k = 0 ∧ en = false) ∧ ∃ a2 c2, Row w' a2 k c2 1 (bytes (bs.take k)) ∧ (∀ ad, a2 = some ad → w.heap.size ≤ ad.block) ∧ e = .returned (.tuple #[.agg #[.int .u32 una, .slice a2 k c2], .bool en, .bool true])))

set_option maxHeartbeats 4000000 in
theorem sqAgain_any (una : Int) (a : Option Addr) (n c : Nat) (bs : List UInt8) (sent : Nat) (f es ea : Bool) (mss : Int) (w : World) (h : Row w a n c 1 (bytes bs)) (hn : n ≤ 256) (hs : sent ≤ n)
    (hm : -9223372036854775808 ≤ mss ∧ mss ≤ 9223372036854775807)
    (k : Nat) (hK : max 0 (min (sent : Int) mss) = (k : Int)) (en : Bool) (hE : en = (es && !ea && ((k : Int) == n))) :
    Calls Try.prog 14 #[sq una (.slice a n c) sent f es ea, .int .i64 mss] w (AgainPost w una bs k en) := by
  simp only [sq]
  have HE := hid hE
  clear hE
  have hkn : (k : Int) ≤ sent := by omega
  have hkc : (k : Int) ≤ c := by have := h.cap; omega
  go_enter Try.func14, Try.ntmps14
  go_upto_region 2 with fail
  refine wp_name (fun W hW => ?_)
  have e0 : blk W w.heap.size = #[.int .u32 una, .slice a n c, .int .i64 sent, .bool f, .bool es, .bool ea] := by rw [hW]; go_simp; try omega
  have e1 : blk W (w.heap.size + 1) = #[.int .u32 0, .slice none 0 0] := by rw [hW]; go_simp; try omega
  have f1 : ∀ j, W.frozen? ⟨w.heap.size + 1, j, none⟩ = false := by intro j; rw [hW]; go_simp; try omega
  have zW1 : w.heap.size + 1 < W.heap.size := by rw [hW]; simp
  have zW0 : w.heap.size < W.heap.size := by omega
  have BW : Below w.heap.size w W := by rw [hW]; exact (by repeat' (with_reducible first | exact Below.refl _ _ | assumption | refine Below.setCell ?_ (by first | omega | (simp; done) | (simp; omega)) _ | refine Below.alloc ?_ (by first | omega | (simp; done) | (simp; omega)) _ | refine below_drewN' ?_ _ | refine Below.drew ?_))
  have hrow : Row W a n c 1 (bytes bs) := h.below BW
  clear hW
  go_cut [8] (fun s wx => s = .bool en ∧ wx = W)
  case first =>
    cases es <;> cases ea
    all_goals
      go_wp2_with fail
      go_meet
      case rel => exact ⟨by rw [HE.out]; simp, rfl⟩
  case rest =>
    obtain ⟨rfl, rfl⟩ := hcut
    obtain ⟨W0, hW0⟩ : ∃ W0, W0 = wc := ⟨_, rfl⟩
    subst hW0
    go_upto_region 3 with fail
    go_cut [33] (fun s wx => s = .bool (decide (k = 0 ∧ en = false)) ∧ wx = W0)
    case first =>
      by_cases hz : k = 0
      · have hk0 : ((k : Int) == 0) = true := by simpa using hz
        clear hz
        cases en
        · go_wp2_with fail
          go_meet
          case rel =>
            have hz : k = 0 := by simpa using hk0
            exact ⟨by simp [hz], rfl⟩
        · go_wp2_with fail
          go_meet
          case rel => exact ⟨by simp, rfl⟩
      · have hk0 : ((k : Int) == 0) = false := by simpa using hz
        go_wp2_with fail
        go_meet
        case rel => exact ⟨by simp [hz], rfl⟩
    case rest =>
      obtain ⟨rfl, rfl⟩ := hcut
      obtain ⟨W0, hW0⟩ : ∃ W0, W0 = wc := ⟨_, rfl⟩
      subst hW0
      by_cases hz : k = 0 ∧ en = false
      · have hdz : decide (k = 0 ∧ en = false) = true := by simpa using hz
        go_wp2_with fail
        refine bodyPost_ret (v := .tuple #[.agg #[.int .u32 0, .slice none 0 0], .bool false, .bool false]) (by simp only [results, Try.results14]; go_simp) rfl ?_
        exact ⟨(by repeat' (with_reducible first | exact Below.refl _ _ | assumption | refine Below.setCell ?_ (by first | omega | (simp; done) | (simp; omega)) _ | refine Below.alloc ?_ (by first | omega | (simp; done) | (simp; omega)) _ | refine below_drewN' ?_ _ | refine Below.drew ?_)), .inl ⟨hz.1, hz.2, rfl⟩⟩
      have hdz : decide (k = 0 ∧ en = false) = false := by simpa using hz
      have Hz := hid hz
      clear hz
      have hr3 : ∀ wq, Below (w.heap.size + 1) W0 wq → Row wq a k c 1 (bytes (bs.take k)) := fun wq hq => by
        simpa [bytes] using cut_take (h.below (BW.trans (hq.mono (by omega)))) k (by omega)
      have Hr3 := hid hr3
      clear hr3
      go_upto_region 5 with fail
      clear hdz
      have zD1 : w.heap.size + 1 < W0.drew.heap.size := zW1
      go_region_held3 (fun w' => (∀ b, b < w.heap.size + 1 → blk w' b = blk W0 b) ∧ Below (w.heap.size + 1) W0 w') ((with_reducible first | exact kept_drew _ _ | exact kept_refl _ _ | assumption | exact kept_drew' (kept_alloc (kept_refl _ _) (by first | omega | (simp; done) | (simp; omega)) _) | exact kept_call (by assumption) (by assumption) (by first | omega | (simp; done) | (simp; omega)) | exact kept_alloc (by assumption) (by first | omega | (simp; done) | (simp; omega)) _ | exact kept_again (by assumption) (by first | omega | (simp; done) | (simp; omega)) (by first | omega | (simp; done) | (simp; omega)) _ | exact kept_set (by assumption) (by first | omega | (simp; done) | (simp; omega)) _ | (repeat' (with_reducible first | assumption | refine kept_set ?_ (by first | omega | (simp; done) | (simp; omega)) _ | refine kept_alloc ?_ (by first | omega | (simp; done) | (simp; omega)) _)))) (first
          | (go_at_call 26; refine (bclone_any _ _ _ _ _ (Hr3.out _ (kept_below (by assumption))) (by omega)).mono ?_; rintro e w2 ⟨a3, c3, rfl, ho3, hb3⟩; have hz3 := kept_size (B := w.heap.size + 1) (W := W0) (by assumption) hb3; have q0 : blk w2 (w.heap.size + 1) = #[.int .u32 0, .slice none 0 0] := ((Below.blk_rule hb3) _ (by exact zW1)).trans (by exact e1); have q1 : w2.frozen? ⟨w.heap.size + 1, 0, none⟩ = false := ((Below.frz_rule hb3) _ _ (by exact zW1)).trans (by exact f1 0); have q2 : w2.frozen? ⟨w.heap.size + 1, 1, none⟩ = false := ((Below.frz_rule hb3) _ _ (by exact zW1)).trans (by exact f1 1)))
      all_goals go_wp2_with fail
      have hk2 := Below.blk_rule hb3
      refine bodyPost_ret (v := .tuple #[.agg #[.int .u32 una, .slice a3 k c3], .bool en, .bool true]) (by simp only [results, Try.results14]; go_simp) rfl ?_
      have l3 : ∀ ad, a3 = some ad → w.heap.size + 2 ≤ ad.block := fun ad hd => by subst hd; have := (ho3.lt ad.block rfl).1; simp at this; omega
      have hB3 : Below w.heap.size w w2 := below_call (W := W0.drew) (by repeat' (with_reducible first | exact Below.refl _ _ | assumption | refine Below.setCell ?_ (by first | omega | (simp; done) | (simp; omega)) _ | refine Below.alloc ?_ (by first | omega | (simp; done) | (simp; omega)) _ | refine below_drewN' ?_ _ | refine Below.drew ?_)) hb3 (by simp; omega)
      refine ⟨(by repeat' (with_reducible first | exact Below.refl _ _ | assumption | refine Below.setCell ?_ (by first | omega | (simp; done) | (simp; omega)) _ | refine Below.alloc ?_ (by first | omega | (simp; done) | (simp; omega)) _ | refine below_drewN' ?_ _ | refine Below.drew ?_)), .inr ⟨Hz.out, a3, c3, ?_, fun ad hd => by have := l3 ad hd; omega, rfl⟩⟩
      have r3 := Row.of_own ho3
      exact (by repeat' (with_reducible first | exact r3 | assumption | refine Row.set ?_ (fun ad hd => by have := l3 ad hd; dsimp only; omega) _ | refine Row.alloc ?_ _ | refine Row.drew ?_ | refine Row.drewN ?_ _ | refine Row.below ?_ (by assumption)))

/-- What Ack gives. -/
def AckPost (w : World) (una : Int) (n : Nat) (bs : List UInt8) (sent : Nat) (f es ea : Bool) (ack d F : Int) (k : Nat) (e : Ending) (w' : World) : Prop :=
  Below w.heap.size w w' ∧ ∃ a1 c1, (∀ ad, a1 = some ad → w.heap.size ≤ ad.block) ∧
    ((d ≤ 0 ∧ Row w' a1 n c1 1 (bytes bs) ∧ e = .returned (.tuple #[sq una (.slice a1 n c1) sent f es ea, .int .i64 0, .int .i64 0])) ∨
     (0 < d ∧ F < d ∧ Row w' a1 n c1 1 (bytes bs) ∧ e = .returned (.tuple #[sq una (.slice a1 n c1) sent f es ea, .int .i64 0, .int .i64 1])) ∨
     (0 < d ∧ d ≤ F ∧ Row w' a1 (n - k) c1 1 (bytes (bs.drop k)) ∧ e = .returned (.tuple #[sq ack (.slice a1 (n - k) c1) ((sent : Int) - k) f es (ea || decide ((k : Int) < d)), .int .i64 d, .int .i64 0])))

set_option maxHeartbeats 4000000 in
theorem sqAck_any (una : Int) (a : Option Addr) (n c : Nat) (bs : List UInt8) (sent : Nat) (f es ea : Bool) (ack : Int) (w : World) (h : Row w a n c 1 (bytes bs)) (hn : n ≤ 256) (hs : sent ≤ n) (hu : 0 ≤ una ∧ una ≤ 4294967295) (ha : 0 ≤ ack ∧ ack ≤ 4294967295)
    (d : Int) (hd : sDiff ack una = d) (F : Int) (hF : (if es && !ea then (sent : Int) + 1 else sent) = F) (k : Nat) (hk : 0 < d → min d (sent : Int) = (k : Int)) :
    Calls Try.prog 15 #[sq una (.slice a n c) sent f es ea, .int .u32 ack] w (AckPost w una n bs sent f es ea ack d F k) := by
  simp only [sq]
  have hdb := sDiff_bd ack una
  rw [hd] at hdb
  have C1 : ∀ w, Calls Try.prog 27 #[.int .u32 ack, .int .u32 una] w fun e w' => e = .returned (.int .i64 d) ∧ w = w' := fun w => hd ▸ seqDiff_any ack una w ha hu
  have C2 : ∀ w : World, Calls Try.prog 18 #[sq una (.slice a n c) sent f es ea] w fun e w' => e = .returned (.int .i64 F) ∧ Below w.heap.size w w' := fun w => hF ▸ sqFlight_any una a n c sent f es ea w (by omega)
  have C1 := hid C1
  have C2 := hid C2
  have hFb : 0 ≤ F ∧ F ≤ 1000 := by rw [← hF]; split <;> omega
  clear hd hF
  by_cases h1 : d ≤ 0
  · have q1 : decide (d ≤ 0) = true := by simpa using h1
    have Hk := hid hk
    clear hk
    go_enter Try.func15, Try.ntmps15
    go_wp2_with (first
      | (go_at_call 24; refine (sqClone_any _ _ _ _ bs _ _ _ _ _ (h.below (by repeat' (with_reducible first | exact Below.refl _ _ | assumption | refine Below.setCell ?_ (by first | omega | (simp; done) | (simp; omega)) _ | refine Below.alloc ?_ (by first | omega | (simp; done) | (simp; omega)) _ | refine below_drewN' ?_ _ | refine Below.drew ?_))) (by omega)).mono ?_; rintro e w1 ⟨a', c', rfl, ho, hb⟩; have hB_w1 := below_call (B := w.heap.size) (w := w) (by repeat' (with_reducible first | exact Below.refl _ _ | assumption | refine Below.setCell ?_ (by first | omega | (simp; done) | (simp; omega)) _ | refine Below.alloc ?_ (by first | omega | (simp; done) | (simp; omega)) _ | refine below_drewN' ?_ _ | refine Below.drew ?_)) hb (by first | omega | (simp; done) | (simp; omega)); have hk_w1 := Below.blk_rule hb; have hf_w1 := Below.frz_rule hb; have ht_w1 := Below.typ_rule hb; have hz_w1 := hb.size; (try simp at hz_w1); have hl_w1_w0 : w.heap.size < w1.heap.size := (by omega); have hn_w1_w0 : ¬ w.heap.size = w1.heap.size := (by omega); have hl_w1_w1 : w.heap.size + 1 < w1.heap.size := (by omega); have hn_w1_w1 : ¬ w.heap.size + 1 = w1.heap.size := (by omega); simp at ho)
      | (go_at_call 27; refine (C1.out _).mono ?_; rintro e w' ⟨rfl, rfl⟩))
    refine bodyPost_ret (v := .tuple #[sq una (.slice a' n c') sent f es ea, .int .i64 0, .int .i64 0]) (by simp only [results, Try.results15]; go_simp) rfl ?_
    have l1 : ∀ ad, a' = some ad → w.heap.size + 2 ≤ ad.block ∧ ad.block < w1.heap.size := fun ad hd => by subst hd; exact ho.lt ad.block rfl
    have r1 := Row.of_own ho
    exact ⟨(by repeat' (with_reducible first | exact Below.refl _ _ | assumption | refine Below.setCell ?_ (by first | omega | (simp; done) | (simp; omega)) _ | refine Below.alloc ?_ (by first | omega | (simp; done) | (simp; omega)) _ | refine below_drewN' ?_ _ | refine Below.drew ?_)), a', c', fun ad hd => by have := l1 ad hd; omega, .inl ⟨h1, (by repeat' (with_reducible first | exact r1 | assumption | refine Row.set ?_ (fun ad hd => by have := l1 ad hd; dsimp only; omega) _ | refine Row.alloc ?_ _ | refine Row.drew ?_ | refine Row.drewN ?_ _ | refine Row.below ?_ (by assumption))), rfl⟩⟩
  · have hk1 := hk (by omega)
    clear hk
    have q1 : decide (d ≤ 0) = false := by simpa using h1
    by_cases h2 : F < d
    · have q2 : decide (F < d) = true := by simpa using h2
      go_enter Try.func15, Try.ntmps15
      go_wp2_with (first
        | (go_at_call 24; refine (sqClone_any _ _ _ _ bs _ _ _ _ _ (h.below (by repeat' (with_reducible first | exact Below.refl _ _ | assumption | refine Below.setCell ?_ (by first | omega | (simp; done) | (simp; omega)) _ | refine Below.alloc ?_ (by first | omega | (simp; done) | (simp; omega)) _ | refine below_drewN' ?_ _ | refine Below.drew ?_))) (by omega)).mono ?_; rintro e w1 ⟨a', c', rfl, ho, hb⟩; have hB_w1 := below_call (B := w.heap.size) (w := w) (by repeat' (with_reducible first | exact Below.refl _ _ | assumption | refine Below.setCell ?_ (by first | omega | (simp; done) | (simp; omega)) _ | refine Below.alloc ?_ (by first | omega | (simp; done) | (simp; omega)) _ | refine below_drewN' ?_ _ | refine Below.drew ?_)) hb (by first | omega | (simp; done) | (simp; omega)); have hk_w1 := Below.blk_rule hb; have hf_w1 := Below.frz_rule hb; have ht_w1 := Below.typ_rule hb; have hz_w1 := hb.size; (try simp at hz_w1); have hl_w1_w0 : w.heap.size < w1.heap.size := (by omega); have hn_w1_w0 : ¬ w.heap.size = w1.heap.size := (by omega); have hl_w1_w1 : w.heap.size + 1 < w1.heap.size := (by omega); have hn_w1_w1 : ¬ w.heap.size + 1 = w1.heap.size := (by omega); simp at ho)
        | (go_at_call 27; refine (C1.out _).mono ?_; rintro e w' ⟨rfl, rfl⟩)
        | (go_at_call 18; refine (C2.out _).mono ?_; rintro e w2 ⟨rfl, hb2⟩; have hB_w2 := below_call (B := w.heap.size) (w := w) (by repeat' (with_reducible first | exact Below.refl _ _ | assumption | refine Below.setCell ?_ (by first | omega | (simp; done) | (simp; omega)) _ | refine Below.alloc ?_ (by first | omega | (simp; done) | (simp; omega)) _ | refine below_drewN' ?_ _ | refine Below.drew ?_)) hb2 (by first | omega | (simp; done) | (simp; omega)); have hk_w2 := Below.blk_rule hb2; have hf_w2 := Below.frz_rule hb2; have ht_w2 := Below.typ_rule hb2; have hz_w2 := hb2.size; (try simp at hz_w2); have hl_w2_w0 : w.heap.size < w2.heap.size := (by omega); have hn_w2_w0 : ¬ w.heap.size = w2.heap.size := (by omega); have hl_w2_w1 : w.heap.size + 1 < w2.heap.size := (by omega); have hn_w2_w1 : ¬ w.heap.size + 1 = w2.heap.size := (by omega); have hl_w2_w10 : w1.heap.size < w2.heap.size := (by omega); have hn_w2_w10 : ¬ w1.heap.size = w2.heap.size := (by omega)))
      refine bodyPost_ret (v := .tuple #[sq una (.slice a' n c') sent f es ea, .int .i64 0, .int .i64 1]) (by simp only [results, Try.results15]; go_simp) rfl ?_
      have l1 : ∀ ad, a' = some ad → w.heap.size + 2 ≤ ad.block ∧ ad.block < w1.heap.size := fun ad hd => by subst hd; exact ho.lt ad.block rfl
      have r1 := Row.of_own ho
      have r2 : Row w2 a' n c' 1 (bytes bs) := (Row.below (by exact (by repeat' (with_reducible first | exact r1 | assumption | refine Row.set ?_ (fun ad hd => by have := l1 ad hd; dsimp only; omega) _ | refine Row.alloc ?_ _ | refine Row.drew ?_ | refine Row.drewN ?_ _ | refine Row.below ?_ (by assumption)))) hb2)
      exact ⟨(by repeat' (with_reducible first | exact Below.refl _ _ | assumption | refine Below.setCell ?_ (by first | omega | (simp; done) | (simp; omega)) _ | refine Below.alloc ?_ (by first | omega | (simp; done) | (simp; omega)) _ | refine below_drewN' ?_ _ | refine Below.drew ?_)), a', c', fun ad hd => by have := l1 ad hd; omega, .inr (.inl ⟨by omega, h2, (by repeat' (with_reducible first | exact r2 | assumption | refine Row.set ?_ (fun ad hd => by have := l1 ad hd; dsimp only; omega) _ | refine Row.alloc ?_ _ | refine Row.drew ?_ | refine Row.drewN ?_ _ | refine Row.below ?_ (by assumption))), rfl⟩)⟩
    · have q2 : decide (F < d) = false := by simpa using h2
      have hkn : (k : Int) ≤ n := by omega
      have hks : (k : Int) ≤ sent := by omega
      obtain ⟨ea0, hea⟩ : ∃ x, x = ea := ⟨_, rfl⟩
      cases ea
      all_goals
        go_enter Try.func15, Try.ntmps15
        go_wp2_with (first
          | (go_at_call 24; refine (sqClone_any _ _ _ _ bs _ _ _ _ _ (h.below (by repeat' (with_reducible first | exact Below.refl _ _ | assumption | refine Below.setCell ?_ (by first | omega | (simp; done) | (simp; omega)) _ | refine Below.alloc ?_ (by first | omega | (simp; done) | (simp; omega)) _ | refine below_drewN' ?_ _ | refine Below.drew ?_))) (by omega)).mono ?_; rintro e w1 ⟨a', c', rfl, ho, hb⟩; have hB_w1 := below_call (B := w.heap.size) (w := w) (by repeat' (with_reducible first | exact Below.refl _ _ | assumption | refine Below.setCell ?_ (by first | omega | (simp; done) | (simp; omega)) _ | refine Below.alloc ?_ (by first | omega | (simp; done) | (simp; omega)) _ | refine below_drewN' ?_ _ | refine Below.drew ?_)) hb (by first | omega | (simp; done) | (simp; omega)); have hk_w1 := Below.blk_rule hb; have hf_w1 := Below.frz_rule hb; have ht_w1 := Below.typ_rule hb; have hz_w1 := hb.size; (try simp at hz_w1); have hl_w1_w0 : w.heap.size < w1.heap.size := (by omega); have hn_w1_w0 : ¬ w.heap.size = w1.heap.size := (by omega); have hl_w1_w1 : w.heap.size + 1 < w1.heap.size := (by omega); have hn_w1_w1 : ¬ w.heap.size + 1 = w1.heap.size := (by omega); simp at ho; obtain ⟨A1, hA1⟩ : ∃ A1, (if c' = k then a' else Option.map (fun x => x.add k) a') = A1 := ⟨_, rfl⟩)
          | (go_at_call 27; refine (C1.out _).mono ?_; rintro e w' ⟨rfl, rfl⟩)
          | (go_at_call 18; refine (C2.out _).mono ?_; rintro e w2 ⟨rfl, hb2⟩; have hB_w2 := below_call (B := w.heap.size) (w := w) (by repeat' (with_reducible first | exact Below.refl _ _ | assumption | refine Below.setCell ?_ (by first | omega | (simp; done) | (simp; omega)) _ | refine Below.alloc ?_ (by first | omega | (simp; done) | (simp; omega)) _ | refine below_drewN' ?_ _ | refine Below.drew ?_)) hb2 (by first | omega | (simp; done) | (simp; omega)); have hk_w2 := Below.blk_rule hb2; have hf_w2 := Below.frz_rule hb2; have ht_w2 := Below.typ_rule hb2; have hz_w2 := hb2.size; (try simp at hz_w2); have hl_w2_w0 : w.heap.size < w2.heap.size := (by omega); have hn_w2_w0 : ¬ w.heap.size = w2.heap.size := (by omega); have hl_w2_w1 : w.heap.size + 1 < w2.heap.size := (by omega); have hn_w2_w1 : ¬ w.heap.size + 1 = w2.heap.size := (by omega); have hl_w2_w10 : w1.heap.size < w2.heap.size := (by omega); have hn_w2_w10 : ¬ w1.heap.size = w2.heap.size := (by omega)))
        have l1 : ∀ ad, a' = some ad → w.heap.size + 2 ≤ ad.block ∧ ad.block < w1.heap.size := fun ad hd => by subst hd; exact ho.lt ad.block rfl
        have r1 := Row.of_own ho
        have r2 : Row w2 a' n c' 1 (bytes bs) := (Row.below (by exact (by repeat' (with_reducible first | exact r1 | assumption | refine Row.set ?_ (fun ad hd => by have := l1 ad hd; dsimp only; omega) _ | refine Row.alloc ?_ _ | refine Row.drew ?_ | refine Row.drewN ?_ _ | refine Row.below ?_ (by assumption)))) hb2)
        obtain ⟨a9, h9, r3, -⟩ := cut_row r2 (P := Try.prog) (t := 23) Try.underlying23 (by kernel_rfl) k n (by omega) (Nat.le_refl _)
        simp only [Nat.mul_one, hA1] at h9
        subst h9
        have l9 : ∀ ad, a9 = some ad → w.heap.size + 2 ≤ ad.block ∧ ad.block < w1.heap.size := fun ad hd => by
          rw [← hA1] at hd
          split at hd
          · exact l1 ad hd
          · cases a' with
            | none => cases hd
            | some ad0 => cases hd; have := l1 ad0 rfl; unfold Addr.add; split <;> exact this
        have r4 : Row w2 a9 (n - k) (c' - k) 1 (bytes (bs.drop k)) := by
          have h8 : (bytes bs).drop k = bytes (bs.drop k) := by simp [bytes]
          have h7 : (bytes (bs.drop k)).length = n - k := by have := r2.len; simp [bytes] at this ⊢; omega
          simp only [Nat.mul_one, h8] at r3
          rwa [List.take_of_length_le (by omega)] at r3
        refine bodyPost_ret (v := .tuple #[sq ack (.slice a9 (n - k) (c' - k)) ((sent : Int) - k) f es (ea0 || decide ((k : Int) < d)), .int .i64 d, .int .i64 0]) (by simp only [results, Try.results15, hea]; go_simp) rfl ?_
        subst hea
        refine ⟨(by repeat' (with_reducible first | exact Below.refl _ _ | assumption | refine Below.setCell ?_ (by first | omega | (simp; done) | (simp; omega)) _ | refine Below.alloc ?_ (by first | omega | (simp; done) | (simp; omega)) _ | refine below_drewN' ?_ _ | refine Below.drew ?_)), a9, c' - k, fun ad hd => by have := l9 ad hd; omega, .inr (.inr ⟨by omega, by omega, ?_, ?_⟩)⟩
        · exact (by repeat' (with_reducible first | exact r4 | assumption | refine Row.set ?_ (fun ad hd => by have := l9 ad hd; dsimp only; omega) _ | refine Row.alloc ?_ _ | refine Row.drew ?_ | refine Row.drewN ?_ _ | refine Row.below ?_ (by assumption)))
        · simp
end Go.Proofs.Ytcioklhpbmjeeaa
