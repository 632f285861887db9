/- SendqRight: which of what may be handed in is right. -/
import Derived.Test.YtcioklhpbmjeeaaSqOps
namespace Go.Proofs.Ytcioklhpbmjeeaa
open Go.RowKit Go.ChangeShapes Go.WideShapes
set_option linter.unusedVariables false

theorem open_send {H : Type} {enc : TypeId × Value → H} {r : Reach} {b0 base : Nat} {spare : Nat → Bool} {held : Bool} {d : DataW H} {p : List MemPlace} {v : Value} {w : World}
    (hv : Value.okWide Try.prog w r b0 25 v) (k : DataW.Trod enc Try.prog w base spare held 25 v d p) :
    ∃ (una : Int) (a : Option Addr) (c : Nat) (bs : List UInt8) (sent : Int) (f es ea : Bool), v = sq una (.slice a bs.length c) sent f es ea ∧ Row w a bs.length c 1 (bytes bs) ∧ (0 ≤ una ∧ una ≤ 4294967295) ∧ (-9223372036854775808 ≤ sent ∧ sent ≤ 9223372036854775807) := by
  obtain ⟨cs, rfl, hs⟩ := okWide_struct Try.underlying25 hv
  obtain ⟨hl, hf⟩ := (Rd.of_trod k).struct Try.underlying25
  have h4 : Try.prog.cellsOf 25 = 6 := by kernel_rfl
  rw [h4] at hl
  obtain ⟨cs⟩ := cs
  simp only [Value.cells] at hl hf
  match cs, hl with
  | [c0, c1, c2, c3, c4, c5], _ =>
    obtain ⟨z0, e0, w0⟩ := Rd.int (k := .u32) Try.underlying22 (hf 0 _ rfl)
    obtain ⟨a, c, bs, e1, r1⟩ := Rd.u8s Try.underlying23 Try.underlying5 (by kernel_rfl) (hf 1 _ rfl)
    obtain ⟨z2, e2, w2⟩ := Rd.int (k := .i64) Try.underlying3 (hf 2 _ rfl)
    obtain ⟨b3, e3⟩ := Rd.bool Try.underlying4 (hf 3 _ rfl)
    obtain ⟨b4, e4⟩ := Rd.bool Try.underlying4 (hf 4 _ rfl)
    obtain ⟨b5, e5⟩ := Rd.bool Try.underlying4 (hf 5 _ rfl)
    have k1 : Try.prog.cellsOf 3 = 1 := by kernel_rfl
    have k2 : Try.prog.cellsOf 23 = 1 := by kernel_rfl
    have k3 : Try.prog.cellsOf 22 = 1 := by kernel_rfl
    have k4 : Try.prog.cellsOf 4 = 1 := by kernel_rfl
    simp [k1, k2, k3, k4] at e0 e1 e2 e3 e4 e5
    subst e0 e1 e2 e3 e4 e5
    exact ⟨z0, a, c, bs, z2, b3, b4, b5, rfl, r1, bounds_u32 w0, bounds_i64 w2⟩

def wantR (n : Nat) (sent : Int) (f es ea : Bool) : Bool :=
  decide ((n : Int) ≤ 256) && decide (0 ≤ sent) && decide (sent ≤ n) && (!es || f && (sent == n)) && (!ea || es && ((n : Int) == 0))

set_option maxHeartbeats 4000000 in
theorem SendqRight_walk {H : Type} {enc : TypeId × Value → H} {r : Reach} {b0 base : Nat} {spare : Nat → Bool} {held : Bool} {d : DataW H} {p : List MemPlace} (v : Value) (w : World)
    (hv : Value.okWide Try.prog w r b0 25 v) (k : DataW.Trod enc Try.prog w base spare held 25 v d p) :
    Calls Try.prog 3 #[v] w fun e w' => e = .returned (.bool true) ∧ Below w.heap.size w w' := by
  obtain ⟨una, a, c, bs, sent, f, es, ea, rfl, hr, hu, hs⟩ := open_send hv k
  clear hv k
  have hn : (bs.length : Int) ≤ 9223372036854775807 := by
    have h1 := hr.cap; have h2 := hr.max; have h3 : maxLen ≤ 9223372036854775807 := by decide
    omega
  obtain ⟨n, hnn⟩ : ∃ n, n = bs.length := ⟨_, rfl⟩
  rw [← hnn] at hn ⊢
  clear hr hnn
  obtain ⟨R, hR⟩ : ∃ R, R = wantR n sent f es ea := ⟨_, rfl⟩
  have HR := hid hR
  simp only [sq]
  go_enter Try.func3, Try.ntmps3
  clear hR
  go_upto_region 3 with (go_at_call 8; refine (lives_any _).mono ?_; rintro e w1 ⟨rfl, hb1⟩; have hB_w1 := below_call (B := w.heap.size) (w := w) (by repeat' (with_reducible first | exact Below.refl _ _ | assumption | refine Below.setCell ?_ (by first | omega | (simp; done) | (simp; omega)) _ | refine Below.alloc ?_ (by first | omega | (simp; done) | (simp; omega)) _ | refine below_drewN' ?_ _ | refine Below.drew ?_)) hb1 (by first | omega | (simp; done) | (simp; omega)); have hk_w1 := Below.blk_rule hb1; have hf_w1 := Below.frz_rule hb1; have ht_w1 := Below.typ_rule hb1; have hz_w1 := hb1.size; (try simp at hz_w1); have hl_w1_w0 : w.heap.size < w1.heap.size := (by omega); have hn_w1_w0 : ¬ w.heap.size = w1.heap.size := (by omega))
  all_goals first | (go_ret; exact ⟨rfl, (by repeat' (with_reducible first | exact Below.refl _ _ | assumption | refine Below.setCell ?_ (by first | omega | (simp; done) | (simp; omega)) _ | refine Below.alloc ?_ (by first | omega | (simp; done) | (simp; omega)) _ | refine below_drewN' ?_ _ | refine Below.drew ?_))⟩) | skip
  have e0 : blk w1 w.heap.size = #[.int .u32 una, .slice a n c, .int .i64 sent, .bool f, .bool es, .bool ea] := by rw [hk_w1 _ (by simp)]; go_simp
  have hlt : w.heap.size < w1.heap.size := by omega
  clear hk_w1 hf_w1 ht_w1 hz_w1 hb1
  go_cut [3] (fun s wx => s = .bool (decide ((n : Int) ≤ 256) && decide (0 ≤ sent) && decide (sent ≤ n)) ∧ wx = w1)
  case first =>
    by_cases h1 : (n : Int) ≤ 256
    · by_cases h2 : 0 ≤ sent
      · by_cases h3 : sent ≤ n
        all_goals (go_wp2_with fail; go_meet; case rel => exact ⟨(by first | rfl | (simp; done) | (simp; omega) | (simp; intros; omega) | (simp_all; done) | (simp_all; omega)), rfl⟩)
      · go_wp2_with fail; go_meet; case rel => exact ⟨(by first | rfl | (simp; done) | (simp; omega) | (simp; intros; omega) | (simp_all; done) | (simp_all; omega)), rfl⟩
    · go_wp2_with fail; go_meet; case rel => exact ⟨(by first | rfl | (simp; done) | (simp; omega) | (simp; intros; omega) | (simp_all; done) | (simp_all; omega)), rfl⟩
  case rest =>
    obtain ⟨rfl, rfl⟩ := hcut
    obtain ⟨C1, hC1⟩ : ∃ C1, C1 = (decide ((n : Int) ≤ 256) && decide (0 ≤ sent) && decide (sent ≤ n)) := ⟨_, rfl⟩
    rw [← hC1]
    obtain ⟨W0, hW0⟩ : ∃ W0, W0 = wc := ⟨_, rfl⟩
    subst hW0
    have HC1 := hid hC1
    clear hC1
    go_upto_if 31 with fail
    go_cut [3] (fun s wx => s = .bool (if es then C1 && f && decide (sent = n) else C1) ∧ wx = W0)
    case first =>
      cases es
      · go_wp2_with fail; go_meet; case rel => exact ⟨rfl, rfl⟩
      · cases C1
        · go_wp2_with fail; go_meet; case rel => exact ⟨rfl, rfl⟩
        · cases f
          · go_wp2_with fail; go_meet; case rel => exact ⟨rfl, rfl⟩
          · go_wp2_with fail; go_meet; case rel => exact ⟨(by first | rfl | (simp; done) | (simp; omega) | (simp; intros; omega) | (simp_all; done) | (simp_all; omega)), rfl⟩
    case rest =>
      obtain ⟨rfl, rfl⟩ := hcut
      obtain ⟨C2, hC2⟩ : ∃ C2, C2 = (if es then C1 && f && decide (sent = n) else C1) := ⟨_, rfl⟩
      rw [← hC2]
      obtain ⟨W0, hW0⟩ : ∃ W0, W0 = wc := ⟨_, rfl⟩
      subst hW0
      have HC2 := hid hC2
      clear hC2
      go_upto_if 46 with fail
      go_cut [3] (fun s wx => s = .bool (if ea then C2 && es && decide ((n : Int) = 0) else C2) ∧ wx = W0)
      case first =>
        cases ea
        · go_wp2_with fail; go_meet; case rel => exact ⟨rfl, rfl⟩
        · cases C2
          · go_wp2_with fail; go_meet; case rel => exact ⟨rfl, rfl⟩
          · cases es
            · go_wp2_with fail; go_meet; case rel => exact ⟨rfl, rfl⟩
            · go_wp2_with fail; go_meet; case rel => exact ⟨(by first | rfl | (simp; done) | (simp; omega) | (simp; intros; omega) | (simp_all; done) | (simp_all; omega)), rfl⟩
      case rest =>
        obtain ⟨rfl, rfl⟩ := hcut
        have hR : R = (if ea then C2 && es && decide ((n : Int) = 0) else C2) := by
          rw [HR.out, HC2.out, HC1.out]
          unfold wantR
          have hb : ∀ x y : Int, (x == y) = decide (x = y) := fun x y => by by_cases h : x = y <;> simp [h]
          simp only [hb]
          cases es <;> cases ea <;> cases f <;> simp
        rw [← hR]
        clear hR
        go_wp2_with (go_at_call 9; refine (sqRight_any una a n c sent f es ea _ R HR.out).mono ?_; rintro e w2 ⟨rfl, hb2⟩; have hB_w2 := below_call (B := w.heap.size) (w := w) (by repeat' (with_reducible first | exact Below.refl _ _ | assumption | refine Below.setCell ?_ (by first | omega | (simp; done) | (simp; omega)) _ | refine Below.alloc ?_ (by first | omega | (simp; done) | (simp; omega)) _ | refine below_drewN' ?_ _ | refine Below.drew ?_)) hb2 (by first | omega | (simp; done) | (simp; omega)); have hk_w2 := Below.blk_rule hb2; have hf_w2 := Below.frz_rule hb2; have ht_w2 := Below.typ_rule hb2; have hz_w2 := hb2.size; (try simp at hz_w2); have hl_w2_w0 : w.heap.size < w2.heap.size := (by omega); have hn_w2_w0 : ¬ w.heap.size = w2.heap.size := (by omega))
        go_ret
        exact ⟨ret_bool (by simp), (by repeat' (with_reducible first | exact Below.refl _ _ | assumption | refine Below.setCell ?_ (by first | omega | (simp; done) | (simp; omega)) _ | refine Below.alloc ?_ (by first | omega | (simp; done) | (simp; omega)) _ | refine below_drewN' ?_ _ | refine Below.drew ?_))⟩
end Go.Proofs.Ytcioklhpbmjeeaa
