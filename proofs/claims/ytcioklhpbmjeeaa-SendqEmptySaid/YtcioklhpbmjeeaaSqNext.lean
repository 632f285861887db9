/- Next: the first piece that wasn't sent. -/
import Derived.Test.YtcioklhpbmjeeaaSqFns
import Derived.Test.YtcioklhpbmjeeaaSeqWalks
import Derived.Deep.DeepCutAuto
namespace Go.Proofs.Ytcioklhpbmjeeaa
open Go.RowKit
set_option linter.unusedVariables false

/-- What Next gives: the rest, the piece, whether it is the end, whether there is one. -/
def NextPost (w : World) (una : Int) (n : Nat) (bs : List UInt8) (sent : Nat) (f es ea : Bool) (k : Nat) (en : Bool) (e : Ending) (w' : World) : Prop :=
  Below w.heap.size w w' ∧ ∃ a1 c1, (∀ ad, a1 = some ad → w.heap.size ≤ ad.block) ∧ Row w' a1 n c1 1 (bytes bs) ∧
    ((k = 0 ∧ en = false ∧ e = .returned (.tuple #[sq una (.slice a1 n c1) sent f es ea, .agg #[.int .u32 0, .slice none 0 0], .bool false, .bool false])) ∨
     (¬ (k = 0 ∧ en = false) ∧ ∃ a2 c2, Row w' a2 k c2 1 (bytes ((bs.drop sent).take k)) ∧ (∀ ad, a2 = some ad → w.heap.size ≤ ad.block) ∧
        e = .returned (.tuple #[sq una (.slice a1 n c1) (sent + k : Nat) f (es || en) ea, .agg #[.int .u32 (sAdd una sent), .slice a2 k c2], .bool en, .bool true])))

set_option maxHeartbeats 4000000 in
theorem sqNext_any (una : Int) (a : Option Addr) (n c : Nat) (bs : List UInt8) (sent : Nat) (f es ea : Bool) (win mss : Int) (w : World) (h : Row w a n c 1 (bytes bs)) (hn : n ≤ 256) (hs : sent ≤ n) (hu : 0 ≤ una ∧ una ≤ 4294967295)
    (hw : -9223372036854775808 ≤ win ∧ win ≤ 9223372036854775807) (hm : -9223372036854775808 ≤ mss ∧ mss ≤ 9223372036854775807)
    (k : Nat) (hK : max 0 (min ((n : Int) - sent) (min mss (max win 0 - sent))) = (k : Int)) (en : Bool) (hE : en = (f && !es && ((sent : Int) + k == n))) :
    Calls Try.prog 13 #[sq una (.slice a n c) sent f es ea, .int .i64 win, .int .i64 mss] w (NextPost w una n bs sent f es ea k en) := by
  simp only [sq]
  have HE := hid hE
  clear hE
  have hkn : (k : Int) + sent ≤ n := by omega
  have hcn : (n : Int) ≤ c := by have := h.cap; omega
  go_enter Try.func13, Try.ntmps13
  go_upto_region 3 with (first
    | (go_at_call 24; refine (sqClone_any _ _ _ _ bs _ _ _ _ _ (h.below (by repeat' (with_reducible first | exact Below.refl _ _ | assumption | refine Below.setCell ?_ (by first | omega | (simp; done) | (simp; omega)) _ | refine Below.alloc ?_ (by first | omega | (simp; done) | (simp; omega)) _ | refine below_drewN' ?_ _ | refine Below.drew ?_))) (by omega)).mono ?_; rintro e w1 ⟨a', c', rfl, ho, hb⟩; have hB_w1 := below_call (B := w.heap.size) (w := w) (by repeat' (with_reducible first | exact Below.refl _ _ | assumption | refine Below.setCell ?_ (by first | omega | (simp; done) | (simp; omega)) _ | refine Below.alloc ?_ (by first | omega | (simp; done) | (simp; omega)) _ | refine below_drewN' ?_ _ | refine Below.drew ?_)) hb (by first | omega | (simp; done) | (simp; omega)); have hk_w1 := Below.blk_rule hb; have hf_w1 := Below.frz_rule hb; have ht_w1 := Below.typ_rule hb; have hz_w1 := hb.size; (try simp at hz_w1); have hl_w1_w0 : w.heap.size < w1.heap.size := (by omega); have hn_w1_w0 : ¬ w.heap.size = w1.heap.size := (by omega); have hl_w1_w1 : w.heap.size + 1 < w1.heap.size := (by omega); have hn_w1_w1 : ¬ w.heap.size + 1 = w1.heap.size := (by omega); have hl_w1_w2 : w.heap.size + 2 < w1.heap.size := (by omega); have hn_w1_w2 : ¬ w.heap.size + 2 = w1.heap.size := (by omega); simp at ho))
  refine wp_name (fun W hW => ?_)
  have e0 : blk W w.heap.size = #[.int .u32 una, .slice a n c, .int .i64 sent, .bool f, .bool es, .bool ea] := by rw [hW]; go_simp; try omega
  have e1 : blk W (w.heap.size + 1) = #[.int .u32 0, .slice none 0 0, .int .i64 0, .bool false, .bool false, .bool false] := by rw [hW]; go_simp; try omega
  have e2 : blk W (w.heap.size + 2) = #[.int .u32 0, .slice none 0 0] := by rw [hW]; go_simp; try omega
  have e3 : blk W w1.heap.size = #[.int .u32 una, .slice a' n c', .int .i64 sent, .bool f, .bool es, .bool ea] := by rw [hW]; go_simp; try omega
  have f1 : ∀ j, W.frozen? ⟨w.heap.size + 1, j, none⟩ = false := by intro j; rw [hW]; go_simp; try omega
  have f2 : ∀ j, W.frozen? ⟨w.heap.size + 2, j, none⟩ = false := by intro j; rw [hW]; go_simp; try omega
  have f3 : ∀ j, W.frozen? ⟨w1.heap.size, j, none⟩ = false := by intro j; rw [hW]; go_simp; try omega
  have zW : w1.heap.size < W.heap.size := by rw [hW]; simp
  have zW2 : w.heap.size + 2 < W.heap.size := by omega
  have zW1 : w.heap.size + 1 < W.heap.size := by omega
  have zW0 : w.heap.size < W.heap.size := by omega
  have BW : Below w.heap.size w W := by rw [hW]; exact (by repeat' (with_reducible first | exact Below.refl _ _ | assumption | refine Below.setCell ?_ (by first | omega | (simp; done) | (simp; omega)) _ | refine Below.alloc ?_ (by first | omega | (simp; done) | (simp; omega)) _ | refine below_drewN' ?_ _ | refine Below.drew ?_))
  have rW : Row W a' n c' 1 (bytes bs) := Row.of_own (base := w.heap.size + 3) (e := 5) (by rw [hW]; exact (by repeat' (with_reducible first | exact ho | assumption | refine own_set ?_ (by first | omega | (simp; done) | (simp; omega)) _ | refine World.ownsRow.alloc ?_ _ | refine own_below ?_ (by assumption) | refine own_drewN ?_ _)))
  have lW : ∀ ad, a' = some ad → w.heap.size + 3 ≤ ad.block ∧ ad.block < w1.heap.size := fun ad hd => by subst hd; exact ho.lt ad.block rfl
  have hrow : Row W a n c 1 (bytes bs) := h.below BW
  clear hW hB_w1 hk_w1 hf_w1 ht_w1 hb ho
  go_cut [12] (fun s wx => s = .bool en ∧ wx = W)
  case first =>
    cases f
    · go_wp2_with fail
      go_meet
      case rel => exact ⟨by rw [HE.out]; rfl, rfl⟩
    · cases es
      · go_wp2_with fail
        go_meet
        case rel => exact ⟨by rw [HE.out]; simp, rfl⟩
      · go_wp2_with fail
        go_meet
        case rel => exact ⟨by rw [HE.out]; rfl, rfl⟩
  case rest =>
    obtain ⟨rfl, rfl⟩ := hcut
    obtain ⟨W0, hW0⟩ : ∃ W0, W0 = wc := ⟨_, rfl⟩
    subst hW0
    go_upto_region 4 with fail
    go_cut [52] (fun s wx => s = .bool (decide (k = 0 ∧ en = false)) ∧ wx = W0)
    case first =>
      by_cases hz : k = 0
      · have hk0 : ((k : Int) == 0) = true := by simpa using hz
        clear hz
        cases en
        · go_wp2_with fail
          go_meet
          case rel =>
            have hz : k = 0 := by simpa using hk0
            exact ⟨by simp [hz], rfl⟩
        · go_wp2_with fail
          go_meet
          case rel => exact ⟨by simp, rfl⟩
      · have hk0 : ((k : Int) == 0) = false := by simpa using hz
        go_wp2_with fail
        go_meet
        case rel => exact ⟨by simp [hz], rfl⟩
    case rest =>
      obtain ⟨rfl, rfl⟩ := hcut
      obtain ⟨W0, hW0⟩ : ∃ W0, W0 = wc := ⟨_, rfl⟩
      subst hW0
      by_cases hz : k = 0 ∧ en = false
      · obtain ⟨rfl, rfl⟩ := hz
        go_wp2_with fail
        refine bodyPost_ret (v := .tuple #[sq una (.slice a' n c') sent f es ea, .agg #[.int .u32 0, .slice none 0 0], .bool false, .bool false]) (by simp only [results, Try.results13]; go_simp) rfl ?_
        refine ⟨(by repeat' (with_reducible first | exact Below.refl _ _ | assumption | refine Below.setCell ?_ (by first | omega | (simp; done) | (simp; omega)) _ | refine Below.alloc ?_ (by first | omega | (simp; done) | (simp; omega)) _ | refine below_drewN' ?_ _ | refine Below.drew ?_)), a', c', ?_, ?_, .inl ⟨rfl, rfl, rfl⟩⟩
        · exact fun ad hd => by have := lW ad hd; omega
        · exact (by repeat' (with_reducible first | exact rW | assumption | refine Row.set ?_ (fun ad hd => by have := lW ad hd; dsimp only; omega) _ | refine Row.alloc ?_ _ | refine Row.drew ?_ | refine Row.drewN ?_ _ | refine Row.below ?_ (by assumption)))
      have hdz : decide (k = 0 ∧ en = false) = false := by simpa using hz
      have Hz := hid hz
      clear hz
      obtain ⟨m, hm⟩ : ∃ m : Nat, m = sent + k := ⟨_, rfl⟩
      have hm1 : (sent : Int) + k = (m : Int) := by omega
      have hm2 : (sent : Int) ≤ m := by omega
      have hm3 : (m : Int) ≤ c := by omega
      have hm4 : m - sent = k := by omega
      have hm5 : IntKind.i64.wrap (m : Int) = (m : Int) := IntWalk.i64_in _ (by omega)
      obtain ⟨a2, ha2, hr2, -⟩ := cut_row hrow (P := Try.prog) (t := 23) Try.underlying23 (by kernel_rfl) sent m (by omega) (by omega)
      simp only [Nat.mul_one, hm4] at ha2 hr2
      have hA2 : (if c = sent then a else Option.map (fun x => x.add sent) a) = a2 := ha2.symm
      have hr3 : Row W0 a2 k (c - sent) 1 (bytes ((bs.drop sent).take k)) := by simpa [bytes] using hr2
      clear ha2 hr2
      have Hm := hid hm
      clear hm
      go_upto_region 6 with fail
      clear hdz
      go_cut [13] (fun s wx => ∃ (b : Nat) (a3 : Option Addr) (c3 : Nat), s = .pointer (some ⟨b, 0, none⟩) ∧ b < wx.heap.size ∧ W0.heap.size ≤ b ∧ blk wx b = #[.int .u32 (sAdd una sent), .slice a3 k c3] ∧ (∀ j, wx.frozen? ⟨b, j, none⟩ = false) ∧ Row wx a3 k c3 1 (bytes ((bs.drop sent).take k)) ∧ (∀ ad, a3 = some ad → W0.heap.size ≤ ad.block) ∧ Below W0.heap.size W0 wx)
      case first =>
        go_region_held3 (fun w' => (∀ b, b < W0.heap.size → blk w' b = blk W0 b) ∧ Below (W0.heap.size) W0 w') ((with_reducible first | exact kept_drew _ _ | exact kept_refl _ _ | assumption | exact kept_drew' (kept_alloc (kept_refl _ _) (by first | omega | (simp; done) | (simp; omega)) _) | exact kept_call (by assumption) (by assumption) (by first | omega | (simp; done) | (simp; omega)) | exact kept_alloc (by assumption) (by first | omega | (simp; done) | (simp; omega)) _ | exact kept_again (by assumption) (by first | omega | (simp; done) | (simp; omega)) (by first | omega | (simp; done) | (simp; omega)) _ | exact kept_set (by assumption) (by first | omega | (simp; done) | (simp; omega)) _ | (repeat' (with_reducible first | assumption | refine kept_set ?_ (by first | omega | (simp; done) | (simp; omega)) _ | refine kept_alloc ?_ (by first | omega | (simp; done) | (simp; omega)) _)))) (first
          | (go_at_call 25; refine (seqAdd_any _ _ _ hu (by omega)).mono ?_; rintro e w' ⟨rfl, rfl⟩)
          | (go_at_call 26; refine (bclone_any _ _ _ _ _ (hr3.below (kept_below (by assumption))) (by omega)).mono ?_; rintro e w2 ⟨a3, c3, rfl, ho3, hb3⟩; have hz3 := kept_size (B := W0.heap.size) (W := W0) (by assumption) hb3; have hk3 := Below.blk_rule hb3; have hf3 := Below.frz_rule hb3))
        all_goals (go_wp2_with fail; go_meet)
        case rel =>
          refine ⟨w2.heap.size, a3, c3, rfl, by simp, hz3, by go_simp, by intro j; go_simp, ?_, fun ad hd => by subst hd; have := (ho3.lt ad.block rfl).1; simp at this; omega, kept_below (by assumption)⟩
          exact (Row.of_own ho3).below (by repeat' (with_reducible first | exact Below.refl _ _ | assumption | refine Below.setCell ?_ (by first | omega | (simp; done) | (simp; omega)) _ | refine Below.alloc ?_ (by first | omega | (simp; done) | (simp; omega)) _ | refine below_drewN' ?_ _ | refine Below.drew ?_))
        all_goals
          case rel =>
            have hk3 := Below.blk_rule hb3
            have hf3 := Below.frz_rule hb3
            have l3 : ∀ ad, a3 = some ad → W0.heap.size + 1 ≤ ad.block := fun ad hd => by subst hd; have := (ho3.lt ad.block rfl).1; simp at this; omega
            refine ⟨W0.heap.size, a3, c3, rfl, by have := hb3.size; simp at this ⊢; omega, Nat.le_refl _, by go_simp, by intro j; go_simp, ?_, fun ad hd => by have := l3 ad hd; omega, kept_below (by assumption)⟩
            have r3 := Row.of_own ho3
            exact (by repeat' (with_reducible first | exact r3 | assumption | refine Row.set ?_ (fun ad hd => by have := l3 ad hd; dsimp only; omega) _ | refine Row.alloc ?_ _ | refine Row.drew ?_ | refine Row.drewN ?_ _ | refine Row.below ?_ (by assumption)))
      case rest =>
        obtain ⟨b, a3, c3, rfl, hb1, hb2, hb3, hb4, hr4, hl4, hB4⟩ := hcut
        have hk4 := Below.blk_rule hB4
        have hf4 := Below.frz_rule hB4
        have rW5 : Row wc a' n c' 1 (bytes bs) := rW.below hB4
        have hB5 : Below w.heap.size w wc := BW.trans (hB4.mono (by omega))
        (have : ¬ w.heap.size = w.heap.size + 1 := (by omega); have : ¬ w.heap.size = w.heap.size + 1 + 1 := (by omega); have : ¬ w.heap.size = w1.heap.size := (by omega); have : ¬ w.heap.size = b := (by omega); have : ¬ w.heap.size + 1 = w.heap.size := (by omega); have : ¬ w.heap.size + 1 = w.heap.size + 1 + 1 := (by omega); have : ¬ w.heap.size + 1 = w1.heap.size := (by omega); have : ¬ w.heap.size + 1 = b := (by omega); have : ¬ w.heap.size + 1 + 1 = w.heap.size := (by omega); have : ¬ w.heap.size + 1 + 1 = w.heap.size + 1 := (by omega); have : ¬ w.heap.size + 1 + 1 = w1.heap.size := (by omega); have : ¬ w.heap.size + 1 + 1 = b := (by omega); have : ¬ w1.heap.size = w.heap.size := (by omega); have : ¬ w1.heap.size = w.heap.size + 1 := (by omega); have : ¬ w1.heap.size = w.heap.size + 1 + 1 := (by omega); have : ¬ w1.heap.size = b := (by omega); have : ¬ b = w.heap.size := (by omega); have : ¬ b = w.heap.size + 1 := (by omega); have : ¬ b = w.heap.size + 1 + 1 := (by omega); have : ¬ b = w1.heap.size := (by omega))
        have Hlt := hid lW
        have Hl4 := hid hl4
        clear lW hl4
        cases es
        · go_upto_region 9 with fail
          go_region_held3 (fun w' => blk w' w1.heap.size = #[.int .u32 una, .slice a' n c', .int .i64 m, .bool f, .bool en, .bool ea] ∧ blk w' b = #[.int .u32 (sAdd una sent), .slice a3 k c3]) (refine ⟨by go_simp, by go_simp⟩) (fail)
          all_goals go_wp2_with fail
          all_goals
            refine bodyPost_ret (v := .tuple #[sq una (.slice a' n c') m f en ea, .agg #[.int .u32 (sAdd una sent), .slice a3 k c3], .bool en, .bool true]) (by simp only [results, Try.results13]; go_simp) rfl ?_
            refine ⟨(by repeat' (with_reducible first | exact Below.refl _ _ | assumption | refine Below.setCell ?_ (by first | omega | (simp; done) | (simp; omega)) _ | refine Below.alloc ?_ (by first | omega | (simp; done) | (simp; omega)) _ | refine below_drewN' ?_ _ | refine Below.drew ?_)), a', c', fun ad hd => by have := Hlt.out ad hd; omega, ?_, .inr ⟨Hz.out, a3, c3, ?_, fun ad hd => by have := Hl4.out ad hd; omega, by rw [← Hm.out]; rfl⟩⟩
            · exact (by repeat' (with_reducible first | exact rW5 | assumption | refine Row.set ?_ (fun ad hd => by have := Hlt.out ad hd; dsimp only; omega) _ | refine Row.alloc ?_ _ | refine Row.drew ?_ | refine Row.drewN ?_ _ | refine Row.below ?_ (by assumption)))
            · exact (by repeat' (with_reducible first | exact hr4 | assumption | refine Row.set ?_ (fun ad hd => by have := Hl4.out ad hd; dsimp only; omega) _ | refine Row.alloc ?_ _ | refine Row.drew ?_ | refine Row.drewN ?_ _ | refine Row.below ?_ (by assumption)))
        · go_upto_region 9 with fail
          go_region_held3 (fun w' => blk w' w1.heap.size = #[.int .u32 una, .slice a' n c', .int .i64 m, .bool f, .bool true, .bool ea] ∧ blk w' b = #[.int .u32 (sAdd una sent), .slice a3 k c3]) (refine ⟨by go_simp, by go_simp⟩) (fail)
          all_goals go_wp2_with fail
          all_goals
            refine bodyPost_ret (v := .tuple #[sq una (.slice a' n c') m f true ea, .agg #[.int .u32 (sAdd una sent), .slice a3 k c3], .bool en, .bool true]) (by simp only [results, Try.results13]; go_simp) rfl ?_
            refine ⟨(by repeat' (with_reducible first | exact Below.refl _ _ | assumption | refine Below.setCell ?_ (by first | omega | (simp; done) | (simp; omega)) _ | refine Below.alloc ?_ (by first | omega | (simp; done) | (simp; omega)) _ | refine below_drewN' ?_ _ | refine Below.drew ?_)), a', c', fun ad hd => by have := Hlt.out ad hd; omega, ?_, .inr ⟨Hz.out, a3, c3, ?_, fun ad hd => by have := Hl4.out ad hd; omega, by rw [← Hm.out]; rfl⟩⟩
            · exact (by repeat' (with_reducible first | exact rW5 | assumption | refine Row.set ?_ (fun ad hd => by have := Hlt.out ad hd; dsimp only; omega) _ | refine Row.alloc ?_ _ | refine Row.drew ?_ | refine Row.drewN ?_ _ | refine Row.below ?_ (by assumption)))
            · exact (by repeat' (with_reducible first | exact hr4 | assumption | refine Row.set ?_ (fun ad hd => by have := Hl4.out ad hd; dsimp only; omega) _ | refine Row.alloc ?_ _ | refine Row.drew ?_ | refine Row.drewN ?_ _ | refine Row.below ?_ (by assumption)))
end Go.Proofs.Ytcioklhpbmjeeaa
