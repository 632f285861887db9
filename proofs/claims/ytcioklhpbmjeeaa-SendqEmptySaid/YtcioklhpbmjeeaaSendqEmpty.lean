/- SendqEmpty: once all that was sent is acknowledged, nothing is out. -/
import Derived.Test.YtcioklhpbmjeeaaSqOps
import Derived.Deep.DeepCutAuto
namespace Go.Proofs.Ytcioklhpbmjeeaa
open Go.RowKit Go.ChangeShapes Go.WideShapes
set_option linter.unusedVariables false

theorem wrap_u32_bd (z : Int) : 0 ≤ IntKind.u32.wrap z ∧ IntKind.u32.wrap z ≤ 4294967295 := bounds_u32 (wf_wrap .u32 z)

/-- What happens when all that is out is acknowledged. -/
theorem Snd.flight_ack {x : Snd} (h : x.Ok) : (x.ackd x.flight).Ok ∧ (x.ackd x.flight).flight = 0 ∧ x.ackN x.flight = x.flight ∧ x.ackE x.flight = 0 ∧ (x.ackd x.flight).acked = x.sent + (if x.es then 1 else 0) ∧ (x.ackd x.flight).sent = x.sent ∧ (x.ackd x.flight).all = x.all ∧ (x.ackd x.flight).fin = x.fin ∧ (x.ackd x.flight).es = x.es ∧ (x.ackd x.flight).first = x.first := by
  refine ⟨ackd_ok h _, ?_⟩
  have hb := h.flight_bd
  have ha := h.a
  unfold ackN ackE
  by_cases h0 : 0 < x.flight
  · have e : x.ackd x.flight = x.ack x.flight.toNat := by unfold ackd; rw [if_pos ⟨h0, by omega⟩]
    rw [e, if_pos ⟨h0, by omega⟩, if_neg (by omega)]
    refine ⟨?_, rfl, rfl, ?_, rfl, rfl, rfl, rfl, rfl⟩
    · have : (x.ack x.flight.toNat).flight = x.flight - x.flight.toNat := by
        unfold flight ack; simp only; push_cast; omega
      rw [this]; omega
    · show x.acked + x.flight.toNat = _
      unfold flight at *
      cases hes : x.es <;> simp [hes] at * <;> omega
  · have e : x.ackd x.flight = x := by unfold ackd; rw [if_neg (by omega)]
    rw [e, if_neg (by omega), if_neg (by omega)]
    refine ⟨by omega, by omega, rfl, ?_, rfl, rfl, rfl, rfl, rfl⟩
    unfold flight at *
    cases hes : x.es <;> simp [hes] at * <;> omega
theorem Snd.flight_diff {x : Snd} (h : x.Ok) : sDiff (IntKind.u32.wrap (x.una + IntKind.u32.wrap x.flight)) x.una = x.flight := by
  have hb := h.flight_bd
  have hu := x.una_bd
  have hw : ∀ z : Int, IntKind.u32.wrap z = z % 4294967296 := fun z => by simp [IntKind.wrap, IntKind.signed, IntKind.bits]
  rw [hw, hw]; unfold sDiff; omega

theorem Snd.none_out {y : Snd} (h : y.Ok) (h0 : y.flight = 0) : (∀ m, y.kA m = 0) ∧ y.eA 0 = false ∧ y.out = 0 := by
  have h1 := h.s
  have h2 : y.out = 0 ∧ (y.es = true → y.ea = true) := by
    unfold flight at h0
    unfold out low ea
    cases hes : y.es
    · simp [hes] at h0 ⊢; omega
    · have := (h.e hes).2
      simp [hes] at h0 ⊢; omega
  refine ⟨fun m => by unfold kA; rw [h2.1]; omega, ?_, h2.1⟩
  unfold eA
  cases hes : y.es
  · rfl
  · rw [h2.2 hes]; rfl

def Snd.new (una : Int) : Snd := ⟨una, [], 0, 0, false, false⟩
theorem Snd.new_ok {una : Int} (hu : 0 ≤ una ∧ una ≤ 4294967295) : (Snd.new una).Ok := ⟨hu, by simp [new], by simp [new], by simp [new], by simp [new], by simp [new]⟩
theorem Snd.new_una {una : Int} (hu : 0 ≤ una ∧ una ≤ 4294967295) : (Snd.new una).una = una := by unfold Snd.una Snd.new sAdd; simp; omega

/-- The sender lies in this box. -/
structure SAt (w : World) (b : Nat) (x : Snd) (a : Option Addr) (c : Nat) : Prop where
  box : blk w b = #[.int .u32 x.una, .slice a x.rest.length c, .int .i64 x.out, .bool x.fin, .bool x.es, .bool x.ea]
  lt : b < w.heap.size
  fr : ∀ j, w.frozen? ⟨b, j, none⟩ = false
  row : Row w a x.rest.length c 1 (bytes x.rest)
  off : Off a (bytes x.rest) b

set_option maxHeartbeats 2000000 in
set_option maxRecDepth 20000 in
theorem SendqEmpty_ops (una : Int) (a0 : Option Addr) (n c0 : Nat) (l : List Op) (w : World) (hu : 0 ≤ una ∧ una ≤ 4294967295) (h : Ops w a0 n c0 l) :
    Calls Try.prog 7 #[.int .u32 una, .slice a0 n c0] w fun e w' => e = .returned (.bool true) ∧ Below w.heap.size w w' := by
  have hn := h.bound
  have hln := h.len
  obtain ⟨F, hF⟩ : ∃ F, fitB l = F := ⟨_, rfl⟩
  have HF := hid hF
  go_enter Try.func7, Try.ntmps7
  go_upto_if 27 with (first
    | (go_at_call 8; refine (lives_any _).mono ?_; rintro e w1 ⟨rfl, hb1⟩; have hB_w1 := below_call (B := w.heap.size) (w := w) (by repeat' (with_reducible first | exact Below.refl _ _ | assumption | refine Below.setCell ?_ (by first | omega | (simp; done) | (simp; omega)) _ | refine Below.alloc ?_ (by first | omega | (simp; done) | (simp; omega)) _ | refine below_drewN' ?_ _ | refine Below.drew ?_)) hb1 (by first | omega | (simp; done) | (simp; omega)); have hk_w1 := Below.blk_rule hb1; have hf_w1 := Below.frz_rule hb1; have ht_w1 := Below.typ_rule hb1; have hz_w1 := hb1.size; (try simp at hz_w1))
    | (go_at_call 10; refine (fits_any _ a0 n c0 l (h.below hB_w1)).mono ?_; rintro e w2 ⟨rfl, hb2⟩; have hB_w2 := below_call (B := w.heap.size) (w := w) (by repeat' (with_reducible first | exact Below.refl _ _ | assumption | refine Below.setCell ?_ (by first | omega | (simp; done) | (simp; omega)) _ | refine Below.alloc ?_ (by first | omega | (simp; done) | (simp; omega)) _ | refine below_drewN' ?_ _ | refine Below.drew ?_)) hb2 (by first | omega | (simp; done) | (simp; omega)); have hk_w2 := Below.blk_rule hb2; have hf_w2 := Below.frz_rule hb2; have ht_w2 := Below.typ_rule hb2; have hz_w2 := hb2.size; (try simp at hz_w2)))
  cases F
  · go_wp2_with (go_at_call 8; refine (lives_any _).mono ?_; rintro e w3 ⟨rfl, hb3⟩; have hB_w3 := below_call (B := w.heap.size) (w := w) (by repeat' (with_reducible first | exact Below.refl _ _ | assumption | refine Below.setCell ?_ (by first | omega | (simp; done) | (simp; omega)) _ | refine Below.alloc ?_ (by first | omega | (simp; done) | (simp; omega)) _ | refine below_drewN' ?_ _ | refine Below.drew ?_)) hb3 (by first | omega | (simp; done) | (simp; omega)); have hk_w3 := Below.blk_rule hb3; have hf_w3 := Below.frz_rule hb3; have ht_w3 := Below.typ_rule hb3; have hz_w3 := hb3.size; (try simp at hz_w3))
    all_goals (go_ret; exact ⟨rfl, (by repeat' (with_reducible first | exact Below.refl _ _ | assumption | refine Below.setCell ?_ (by first | omega | (simp; done) | (simp; omega)) _ | refine Below.alloc ?_ (by first | omega | (simp; done) | (simp; omega)) _ | refine below_drewN' ?_ _ | refine Below.drew ?_))⟩)
  go_upto_region 4 with (go_at_call 11; refine (sqNew_any _ _).mono ?_; rintro e w3 ⟨rfl, hb3⟩; have hB_w3 := below_call (B := w.heap.size) (w := w) (by repeat' (with_reducible first | exact Below.refl _ _ | assumption | refine Below.setCell ?_ (by first | omega | (simp; done) | (simp; omega)) _ | refine Below.alloc ?_ (by first | omega | (simp; done) | (simp; omega)) _ | refine below_drewN' ?_ _ | refine Below.drew ?_)) hb3 (by first | omega | (simp; done) | (simp; omega)); have hk_w3 := Below.blk_rule hb3; have hf_w3 := Below.frz_rule hb3; have ht_w3 := Below.typ_rule hb3; have hz_w3 := hb3.size; (try simp at hz_w3))
  refine wp_name (fun W0 hW => ?_)
  obtain ⟨b5, hb5⟩ : ∃ b5, b5 = w3.heap.size := ⟨_, rfl⟩
  have hS : SAt W0 b5 (Snd.new una) none 0 := by
    rw [hW, hb5]
    refine ⟨?_, by simp, by intro j; go_simp, Row.of_nil _ 1, fun ad hd => by cases hd⟩
    have h1 := Snd.new_una hu
    go_simp
    exact ⟨rfl, rfl, rfl, rfl, rfl⟩
  have hBW : Below w.heap.size w W0 := by rw [hW]; exact (by repeat' (with_reducible first | exact Below.refl _ _ | assumption | refine Below.setCell ?_ (by first | omega | (simp; done) | (simp; omega)) _ | refine Below.alloc ?_ (by first | omega | (simp; done) | (simp; omega)) _ | refine below_drewN' ?_ _ | refine Below.drew ?_))
  have hbw : w.heap.size ≤ b5 := by rw [hb5]; exact hB_w3.size
  rw [← hb5]
  clear hW hb5 hb3 hB_w3 hk_w3 hf_w3 ht_w3 hz_w3 hb1 hb2 hB_w1 hB_w2 hk_w1 hf_w1 ht_w1 hz_w1 hk_w2 hf_w2 ht_w2 hz_w2
  have hl100 : n ≤ 100 := by
    have := HF.out
    unfold fitB at this
    simp at this; omega
  have hl400 : ∀ o ∈ l, o.data.length ≤ 400 := by
    have := HF.out
    unfold fitB at this
    simp at this; exact this.1
  go_wp2_with fail
  go_loopw [33] (fun i wr => ∃ (k : Nat) (x : Snd) (a : Option Addr) (c : Nat), k ≤ n ∧ i = .int .i64 k ∧ Below w.heap.size w wr ∧ x.Ok ∧ x.fin = false ∧ x.all.length ≤ 256 * k ∧ SAt wr b5 x a c) (fun i _ => n - (intOf i).toNat)
  case atStart => exact ⟨0, _, _, _, Nat.zero_le _, rfl, (by repeat' (with_reducible first | exact Below.refl _ _ | assumption | refine Below.setCell ?_ (by first | omega | (simp; done) | (simp; omega)) _ | refine Below.alloc ?_ (by first | omega | (simp; done) | (simp; omega)) _ | refine below_drewN' ?_ _ | refine Below.drew ?_)), Snd.new_ok hu, rfl, by simp [Snd.new], hS⟩
  case round =>
    obtain ⟨k, x, a, c, hk, rfl, hB, hok, hfin, hall, hs⟩ := hrel
    have Hfin := hid hfin
    clear hfin
    have hz := hB.size
    have hbx := hs.box
    have hbf := hs.fr
    have hbl := hs.lt
    have hbn : ¬ b5 = wr.heap.size := by omega
    have hbn' : ¬ wr.heap.size = b5 := by omega
    by_cases hkn : (k : Int) < n
    · obtain ⟨o, ho⟩ : ∃ o, l[k]? = some o := ⟨l[k]'(by omega), List.getElem?_eq_getElem (by omega)⟩
      have hh := h.below hB
      have hoo := hh.ok o (List.mem_of_getElem? ho)
      have ho4 := hl400 o (List.mem_of_getElem? ho)
      obtain ⟨ad, rfl, g0, g1, g2, g3⟩ := hh.at ho
      go_upto_region 9 with fail
      refine wp_name (fun W1 hW => ?_)
      have q0 : blk W1 wr.heap.size = #[.int .i64 o.kind, .slice o.da o.data.length o.dc, .int .i64 o.n, .int .i64 o.size] := by rw [hW]; go_simp
      have q1 : blk W1 b5 = #[.int .u32 x.una, .slice a x.rest.length c, .int .i64 x.out, .bool x.fin, .bool x.es, .bool x.ea] := by rw [hW]; go_simp
      have q2 : ∀ j, W1.frozen? ⟨b5, j, none⟩ = false := by intro j; rw [hW]; go_simp
      have q3 : wr.heap.size < W1.heap.size := by rw [hW]; simp
      have qB : Below w.heap.size w W1 := by rw [hW]; exact (by repeat' (with_reducible first | exact Below.refl _ _ | assumption | refine Below.setCell ?_ (by first | omega | (simp; done) | (simp; omega)) _ | refine Below.alloc ?_ (by first | omega | (simp; done) | (simp; omega)) _ | refine below_drewN' ?_ _ | refine Below.drew ?_))
      have qr : Row W1 a x.rest.length c 1 (bytes x.rest) := by rw [hW]; exact hs.row.alloc _
      have qd : Row W1 o.da o.data.length o.dc 1 (bytes o.data) := by rw [hW]; exact hoo.d.alloc _
      clear hW g0 g1 g2 g3 hs hbx hbf hB
      have q4 : b5 < W1.heap.size := by omega
      have hon := hoo.n
      have hos := hoo.s
      obtain ⟨r, hr⟩ : ∃ r, (IntKind.u64.wrap o.kind).tmod 3 = r := ⟨_, rfl⟩
      rw [hr]
      clear hr hoo
      by_cases r0 : r = 0
      · subst r0
        go_wp2_with (go_at_call 12; refine (qWrite_any x hok a c _ qr _ _ _ o.data qd (by omega) _ rfl _ rfl).mono ?_; rintro e w4 ⟨a4, c4, rfl, r4, l4, hb4⟩; have hB_w4 := below_call (B := w.heap.size) (w := w) (by repeat' (with_reducible first | exact Below.refl _ _ | assumption | refine Below.setCell ?_ (by first | omega | (simp; done) | (simp; omega)) _ | refine Below.alloc ?_ (by first | omega | (simp; done) | (simp; omega)) _ | refine below_drewN' ?_ _ | refine Below.drew ?_)) hb4 (by first | omega | (simp; done) | (simp; omega)); have hk_w4 := Below.blk_rule hb4; have hf_w4 := Below.frz_rule hb4; have ht_w4 := Below.typ_rule hb4; have hz_w4 := hb4.size; (try simp at hz_w4); have u1 : b5 < w4.heap.size := (by omega))
        go_roundw
        case rel =>
          have hl := Snd.write_all x o.data
          refine ⟨k + 1, x.write o.data, a4, c4, by omega, by simp, (by repeat' (with_reducible first | exact Below.refl _ _ | assumption | refine Below.setCell ?_ (by first | omega | (simp; done) | (simp; omega)) _ | refine Below.alloc ?_ (by first | omega | (simp; done) | (simp; omega)) _ | refine below_drewN' ?_ _ | refine Below.drew ?_)), Snd.write_ok hok _ (by omega), Hfin.out, by omega, ⟨?_, by simp; omega, ?_, ?_, ?_⟩⟩
          · go_simp
          · intro j; go_simp
          · exact (by repeat' (with_reducible first | exact r4 | assumption | refine Row.setR ?_ l4 (by first | (simp; done) | (simp; omega) | omega) _ | refine Row.alloc ?_ _ | refine Row.drew ?_ | refine Row.drewN ?_ _ | refine Row.below ?_ (by assumption)))
          · exact l4.off (by omega)
        case measure => simp [intOf]; omega
      · have hr0 : (r == 0) = false := by simpa using r0
        clear r0
        by_cases r1 : r = 1
        · subst r1
          go_wp2_with (go_at_call 13; refine (qNext_any x hok a c _ qr o.n o.size hon hos _ rfl _ rfl _ rfl _ rfl _ rfl _ rfl).mono ?_; rintro e w4 ⟨a4, c4, p4, d4, rfl, r4, l4, -, -, hb4⟩; have hB_w4 := below_call (B := w.heap.size) (w := w) (by repeat' (with_reducible first | exact Below.refl _ _ | assumption | refine Below.setCell ?_ (by first | omega | (simp; done) | (simp; omega)) _ | refine Below.alloc ?_ (by first | omega | (simp; done) | (simp; omega)) _ | refine below_drewN' ?_ _ | refine Below.drew ?_)) hb4 (by first | omega | (simp; done) | (simp; omega)); have hk_w4 := Below.blk_rule hb4; have hf_w4 := Below.frz_rule hb4; have ht_w4 := Below.typ_rule hb4; have hz_w4 := hb4.size; (try simp at hz_w4); have u1 : b5 < w4.heap.size := (by omega))
          go_roundw
          case rel =>
            refine ⟨k + 1, x.next (x.kN o.n o.size) (x.eN (x.kN o.n o.size)), a4, c4, by omega, by simp, (by repeat' (with_reducible first | exact Below.refl _ _ | assumption | refine Below.setCell ?_ (by first | omega | (simp; done) | (simp; omega)) _ | refine Below.alloc ?_ (by first | omega | (simp; done) | (simp; omega)) _ | refine below_drewN' ?_ _ | refine Below.drew ?_)), Snd.next_ok hok _ _ o.n o.size rfl rfl, Hfin.out, by show x.all.length ≤ _; omega, ⟨?_, by simp; omega, ?_, ?_, ?_⟩⟩
            · go_simp
            · intro j; go_simp
            · exact (by repeat' (with_reducible first | exact r4 | assumption | refine Row.setR ?_ l4 (by first | (simp; done) | (simp; omega) | omega) _ | refine Row.alloc ?_ _ | refine Row.drew ?_ | refine Row.drewN ?_ _ | refine Row.below ?_ (by assumption)))
            · exact l4.off (by omega)
          case measure => simp [intOf]; omega
        · have hr1 : (r == 1) = false := by simpa using r1
          clear r1
          go_wp2_with (go_at_call 15; refine (qAck_any x hok a c _ qr _ (wrap_u32_bd _) _ rfl _ rfl _ _ rfl rfl).mono ?_; rintro e w4 ⟨a4, c4, rfl, r4, l4, hb4⟩; generalize sDiff (IntKind.u32.wrap (x.una + o.n)) x.una = D at r4 l4 ⊢; have hB_w4 := below_call (B := w.heap.size) (w := w) (by repeat' (with_reducible first | exact Below.refl _ _ | assumption | refine Below.setCell ?_ (by first | omega | (simp; done) | (simp; omega)) _ | refine Below.alloc ?_ (by first | omega | (simp; done) | (simp; omega)) _ | refine below_drewN' ?_ _ | refine Below.drew ?_)) hb4 (by first | omega | (simp; done) | (simp; omega)); have hk_w4 := Below.blk_rule hb4; have hf_w4 := Below.frz_rule hb4; have ht_w4 := Below.typ_rule hb4; have hz_w4 := hb4.size; (try simp at hz_w4); have u1 : b5 < w4.heap.size := (by omega))
          go_roundw
          case rel =>
            refine ⟨k + 1, x.ackd D, a4, c4, by omega, by simp, (by repeat' (with_reducible first | exact Below.refl _ _ | assumption | refine Below.setCell ?_ (by first | omega | (simp; done) | (simp; omega)) _ | refine Below.alloc ?_ (by first | omega | (simp; done) | (simp; omega)) _ | refine below_drewN' ?_ _ | refine Below.drew ?_)), Snd.ackd_ok hok _, ?_, ?_, ⟨?_, by simp; omega, ?_, ?_, ?_⟩⟩
            · unfold Snd.ackd; split <;> exact Hfin.out
            · unfold Snd.ackd; split <;> first | omega | (simp only [Snd.ack]; omega)
            · go_simp
            · intro j; go_simp
            · exact (by repeat' (with_reducible first | exact r4 | assumption | refine Row.setR ?_ l4 (by first | (simp; done) | (simp; omega) | omega) _ | refine Row.alloc ?_ _ | refine Row.drew ?_ | refine Row.drewN ?_ _ | refine Row.below ?_ (by assumption)))
            · exact l4.off (by omega)
          case measure => simp [intOf]; omega
    · go_upto_region 14 with fail
      have cF := qFlight_any x hok a c
      have HFD := hid (Snd.flight_diff hok)
      obtain ⟨yOk, y0, yN, yE, y1, y2, y3, y4, y5, y6⟩ := Snd.flight_ack hok
      obtain ⟨FL, hFL⟩ : ∃ FL, x.flight = FL := ⟨_, rfl⟩
      rw [hFL] at cF HFD yOk y0 yN yE y1 y2 y3 y4 y5 y6
      have hFb : 0 ≤ FL ∧ FL ≤ 100001 := by rw [← hFL]; exact hok.flight_bd
      obtain ⟨y, hy⟩ : ∃ y, x.ackd FL = y := ⟨_, rfl⟩
      rw [hy] at yOk y0 y1 y2 y3 y4 y5 y6
      have HFL := hid hFL
      have HY := hid (And.intro hy (And.intro yN yE))
      have HYY := hid (And.intro yOk (And.intro y0 (And.intro y1 (And.intro y2 (And.intro y3 (And.intro y4 (And.intro y5 y6)))))))
      clear hFL hy yN yE y0 y1 y2 y3 y4 y5 y6
      go_cut [8, 9, 10] (fun s8 s9 s10 wx => ∃ (b8 : Nat) (a8 : Option Addr) (c8 : Nat), s8 = .pointer (some ⟨b8, 0, none⟩) ∧ s9 = .int .i64 FL ∧ s10 = .int .i64 0 ∧ SAt wx b8 y a8 c8 ∧ wr.heap.size ≤ b8 ∧ Below wr.heap.size wr wx)
      case first =>
        go_region_held3 (fun w' => (∀ b, b < wr.heap.size → blk w' b = blk wr b) ∧ Below (wr.heap.size) wr w') ((with_reducible first | exact kept_drew _ _ | exact kept_refl _ _ | assumption | exact kept_drew' (kept_alloc (kept_refl _ _) (by first | omega | (simp; done) | (simp; omega)) _) | exact kept_call (by assumption) (by assumption) (by first | omega | (simp; done) | (simp; omega)) | exact kept_alloc (by assumption) (by first | omega | (simp; done) | (simp; omega)) _ | exact kept_again (by assumption) (by first | omega | (simp; done) | (simp; omega)) (by first | omega | (simp; done) | (simp; omega)) _ | exact kept_set (by assumption) (by first | omega | (simp; done) | (simp; omega)) _ | (repeat' (with_reducible first | assumption | refine kept_set ?_ (by first | omega | (simp; done) | (simp; omega)) _ | refine kept_alloc ?_ (by first | omega | (simp; done) | (simp; omega)) _)))) (first
          | (go_at_call 18; refine (cF _).mono ?_; rintro e w4 ⟨rfl, hb4⟩; have hz4 := kept_size (B := wr.heap.size) (W := wr) (by assumption) hb4; have hk4 := Below.blk_rule hb4; have hf4 := Below.frz_rule hb4; (try have hl4 : wr.heap.size < w4.heap.size := by have := hb4.size; simp at this; omega))
          | (go_at_call 15; refine (qAck_any x hok a c _ (hs.row.below (kept_below (by assumption))) _ (wrap_u32_bd _) FL HFD.out y HY.out.1 _ _ HY.out.2.1 HY.out.2.2).mono ?_; rintro e w8 ⟨a8, c8, rfl, r8, l8, hb8⟩; have hz8 := kept_size (B := wr.heap.size) (W := wr) (by assumption) hb8; have hk8 := Below.blk_rule hb8; have hf8 := Below.frz_rule hb8; (try have hl8 : wr.heap.size < w8.heap.size := by have := hb8.size; simp at this; omega); (try have hl9 : w4.heap.size < w8.heap.size := by have := hb8.size; simp at this; omega)))
        · go_wp2_with fail
          go_meet
          case rel =>
            have o8 : Off a8 (bytes y.rest) w8.heap.size := l8.off (by first | (left; simp; done) | (left; simp; omega) | (right; simp; done) | omega)
            exact ⟨w8.heap.size, a8, c8, rfl, rfl, rfl, ⟨by go_simp, by (first | omega | (simp; done) | (have := hb8.size; simp at this ⊢; omega)), by intro j; go_simp, (by repeat' (with_reducible first | exact r8 | refine Row.setO ?_ o8 _ | refine Row.alloc ?_ _ | refine Row.drew ?_ | refine Row.drewN ?_ _)), o8⟩, by omega, kept_below (by assumption)⟩
        · go_wp2_with fail
          go_meet
          case rel =>
            have o8 : Off a8 (bytes y.rest) w4.heap.size := l8.off (by first | (left; simp; done) | (left; simp; omega) | (right; simp; done) | omega)
            exact ⟨w4.heap.size, a8, c8, rfl, rfl, rfl, ⟨by go_simp, by (first | omega | (simp; done) | (have := hb8.size; simp at this ⊢; omega)), by intro j; go_simp, (by repeat' (with_reducible first | exact r8 | refine Row.setO ?_ o8 _ | refine Row.alloc ?_ _ | refine Row.drew ?_ | refine Row.drewN ?_ _)), o8⟩, by omega, kept_below (by assumption)⟩
        · go_wp2_with fail
          go_meet
          case rel =>
            have o8 : Off a8 (bytes y.rest) wr.heap.size := l8.off (by first | (left; simp; done) | (left; simp; omega) | (right; simp; done) | omega)
            exact ⟨wr.heap.size, a8, c8, rfl, rfl, rfl, ⟨by go_simp, by (first | omega | (simp; done) | (have := hb8.size; simp at this ⊢; omega)), by intro j; go_simp, (by repeat' (with_reducible first | exact r8 | refine Row.setO ?_ o8 _ | refine Row.alloc ?_ _ | refine Row.drew ?_ | refine Row.drewN ?_ _)), o8⟩, Nat.le_refl _, kept_below (by assumption)⟩
      case rest =>
        obtain ⟨b8, a8, c8, rfl, rfl, rfl, hs8, hb8, hB8⟩ := hcut
        obtain ⟨wx8, hwx8⟩ : ∃ wx8, wx8 = wc := ⟨_, rfl⟩
        subst hwx8
        have hbx8 := hs8.box
        have hbl8 := hs8.lt
        have hbr5 := Below.blk_rule hB8
        have hz8x := hB8.size
        have h5w : b5 < wx8.heap.size := by omega
        have hbf8 := hs8.fr
        have HNO := hid (Snd.none_out HYY.out.1 HYY.out.2.1)
        go_upto_region 16 with (go_at_call 14; refine (qAgain_any y HYY.out.1 a8 c8 _ hs8.row 64 (by omega) 0 (HNO.out.1 _) false HNO.out.2.1 [] rfl false rfl 0 rfl).mono ?_; rintro e w9 ⟨p9, d9, rfl, -, -, hb9⟩; have hk9 := Below.blk_rule hb9; have hf9 := Below.frz_rule hb9; have hz9 := hb9.size; have : ¬ b5 = w9.heap.size := (by omega); have : ¬ b8 = w9.heap.size := (by omega); have : b8 < w9.heap.size := (by omega))
        have cF8 : ∀ w', Calls Try.prog 18 #[qv y a8 c8] w' fun e w'' => e = .returned (.int .i64 0) ∧ Below w'.heap.size w' w'' := fun w' => by
          have := qFlight_any y HYY.out.1 a8 c8 w'
          rw [HYY.out.2.1] at this; exact this
        obtain ⟨Eb, hEb⟩ : ∃ Eb, (decide (y.rest.length = 0) && (!y.fin || y.ea)) = Eb := ⟨_, rfl⟩
        have cE8 : ∀ w', Calls Try.prog 23 #[qv y a8 c8] w' fun e w'' => e = .returned (.bool Eb) ∧ Below w'.heap.size w' w'' := fun w' => by
          rw [← hEb]; exact qEmpty_any y a8 c8 w'
        have hE2 : ((x.out : Int) == (x.rest.length : Int)) = Eb := by
          rw [← hEb]
          have h1 := HYY.out
          have hes : x.es = false := by
            cases hes : x.es
            · rfl
            · have := (hok.e hes).1; rw [Hfin.out] at this; cases this
          have h2 := hok.low_eq
          have h3 := hok.s
          have h4 := x.rest_len
          have h5 := y.rest_len
          rw [h1.2.2.2.2.2.1, Hfin.out, Bool.eq_iff_iff]
          simp only [Bool.not_false, Bool.true_or, Bool.and_true, beq_iff_eq, decide_eq_true_eq]
          rw [h5]
          have h6 := h1.2.2.1
          rw [hes] at h6
          have h7 : y.low = min y.acked y.all.length := rfl
          rw [h1.2.2.2.2.1] at h7 ⊢
          have h8 : (x.out : Int) = x.sent - x.low := by unfold Snd.out; omega
          simp at h6
          omega
        refine wp_name (fun W4 hW => ?_)
        have q5 : blk W4 b5 = #[.int .u32 x.una, .slice a x.rest.length c, .int .i64 x.out, .bool x.fin, .bool x.es, .bool x.ea] := by rw [hW]; go_simp
        have q8 : blk W4 b8 = #[.int .u32 y.una, .slice a8 y.rest.length c8, .int .i64 y.out, .bool y.fin, .bool y.es, .bool y.ea] := by rw [hW]; go_simp
        have hB4 : Below wx8.heap.size wx8 W4 := by rw [hW]; exact (by repeat' (with_reducible first | exact Below.refl _ _ | assumption | refine Below.setCell ?_ (by first | omega | (simp; done) | (simp; omega)) _ | refine Below.alloc ?_ (by first | omega | (simp; done) | (simp; omega)) _ | refine below_drewN' ?_ _ | refine Below.drew ?_))
        have q8f : ∀ j, W4.frozen? ⟨b8, j, none⟩ = false := by intro j; rw [hW]; go_simp
        clear hW
        have hz4 := hB4.size
        have q8l : b8 < W4.heap.size := by omega
        have q5l : b5 < W4.heap.size := by omega
        have q8r : Row W4 a8 y.rest.length c8 1 (bytes y.rest) := hs8.row.below hB4
        go_cut [120] (fun s wx => s = .bool false ∧ Below W4.heap.size W4 wx)
        case first =>
          go_region_held3 (fun w' => (∀ b, b < W4.heap.size → blk w' b = blk W4 b) ∧ Below (W4.heap.size) W4 w') ((with_reducible first | exact kept_drew _ _ | exact kept_refl _ _ | assumption | exact kept_drew' (kept_alloc (kept_refl _ _) (by first | omega | (simp; done) | (simp; omega)) _) | exact kept_call (by assumption) (by assumption) (by first | omega | (simp; done) | (simp; omega)) | exact kept_alloc (by assumption) (by first | omega | (simp; done) | (simp; omega)) _ | exact kept_again (by assumption) (by first | omega | (simp; done) | (simp; omega)) (by first | omega | (simp; done) | (simp; omega)) _ | exact kept_set (by assumption) (by first | omega | (simp; done) | (simp; omega)) _ | (repeat' (with_reducible first | assumption | refine kept_set ?_ (by first | omega | (simp; done) | (simp; omega)) _ | refine kept_alloc ?_ (by first | omega | (simp; done) | (simp; omega)) _)))) (first
            | (go_at_call 18; first | (with_reducible refine (cF _).mono ?_; rintro e w6 ⟨rfl, hb6⟩; have hz6 := kept_size (B := W4.heap.size) (W := W4) (by assumption) hb6) | (with_reducible refine (cF8 _).mono ?_; rintro e w6 ⟨rfl, hb6⟩; have hz6 := kept_size (B := W4.heap.size) (W := W4) (by assumption) hb6))
            | (go_at_call 23; refine (cE8 _).mono ?_; rintro e w6 ⟨rfl, hb6⟩; have hz6 := kept_size (B := W4.heap.size) (W := W4) (by assumption) hb6))
          all_goals (go_wp2_with fail; go_meet)
          all_goals (case rel => exact ⟨rfl, kept_below (by assumption)⟩)
        case rest =>
          obtain ⟨rfl, hB6⟩ := hcut
          obtain ⟨W6, hW6⟩ : ∃ W6, W6 = wc := ⟨_, rfl⟩
          subst hW6
          have hz6 := hB6.size
          have q68 : blk W6 b8 = #[.int .u32 y.una, .slice a8 y.rest.length c8, .int .i64 y.out, .bool y.fin, .bool y.es, .bool y.ea] := by rw [Below.blk_rule hB6 _ q8l]; exact q8
          have q68f : ∀ j, W6.frozen? ⟨b8, j, none⟩ = false := fun j => by rw [Below.frz_rule hB6 _ _ q8l]; exact q8f j
          have q68l : b8 < W6.heap.size := by omega
          have q68r := q8r.below hB6
          have hBW6 : Below w.heap.size w W6 := (hB.trans (hB8.mono hz)).trans ((hB4.mono (by omega)).trans (hB6.mono (by omega)))
          have YOK := hid HYY.out.1
          clear hE2 hEb cF cF8 cE8 q5 q8 q8f q8r hB4 q5l hB6
          go_upto_region 19 with (go_at_call 16; refine (qClose_any y YOK.out a8 c8 _ q68r).mono ?_; rintro e w7 ⟨a7, c7, rfl, r7, l7, hb7⟩; simp only [id]; have hB_w7 := below_call (B := w.heap.size) (w := w) (by repeat' (with_reducible first | exact Below.refl _ _ | assumption | refine Below.setCell ?_ (by first | omega | (simp; done) | (simp; omega)) _ | refine Below.alloc ?_ (by first | omega | (simp; done) | (simp; omega)) _ | refine below_drewN' ?_ _ | refine Below.drew ?_)) hb7 (by first | omega | (simp; done) | (simp; omega)); have hk_w7 := Below.blk_rule hb7; have hf_w7 := Below.frz_rule hb7; have ht_w7 := Below.typ_rule hb7; have hz_w7 := hb7.size; (try simp at hz_w7); have u7l : b8 < w7.heap.size := (by omega))
          refine wp_name (fun W7 hW => ?_)
          have hwb8 : w.heap.size ≤ b8 := by omega
          have hS7 : SAt W7 b8 y.close a7 c7 := by
            have o7 : Off a7 (bytes y.close.rest) b8 := l7.off (by omega)
            rw [hW]
            exact ⟨by go_simp, by simp; omega, by intro j; go_simp, (by repeat' (with_reducible first | exact r7 | refine Row.setO ?_ o7 _ | refine Row.alloc ?_ _ | refine Row.drew ?_ | refine Row.drewN ?_ _)), o7⟩
          have hBW7 : Below w.heap.size w W7 := by rw [hW]; exact (by repeat' (with_reducible first | exact Below.refl _ _ | assumption | refine Below.setCell ?_ (by first | omega | (simp; done) | (simp; omega)) _ | refine Below.alloc ?_ (by first | omega | (simp; done) | (simp; omega)) _ | refine below_drewN' ?_ _ | refine Below.drew ?_))
          have zOk0 := Snd.close_ok YOK.out
          clear hW r7 l7 hb7 hB_w7 hk_w7 hf_w7 ht_w7 hz_w7 q68 q68f q68l q68r hBW6 hs hbx hbf hS
          have hy0 : (y.close.all.length - y.close.sent) + (if y.close.es then 0 else 1) ≤ 257 := by
            have h1 := zOk0.r
            have h2 := zOk0.low_eq
            split <;> omega
          have Hy0 := hid hy0
          clear hy0
          go_wp2_with fail
          go_loopw [123] (fun i wx => ∃ (j : Nat) (z : Snd) (a9 : Option Addr) (c9 : Nat), i = .int .i64 j ∧ (z.all.length - z.sent) + (if z.es then 0 else 1) + j ≤ 257 ∧ z.Ok ∧ z.fin = true ∧ SAt wx b8 z a9 c9 ∧ Below w.heap.size w wx) (fun i _ => 300 - (intOf i).toNat)
          case atStart => exact ⟨0, _, _, _, rfl, Hy0.out, zOk0, rfl, hS7, hBW7⟩
          case round =>
            obtain ⟨j, z, a9, c9, rfl, hj, zOk, hzf, hs, hB⟩ := hrel
            have Hj := hid hj
            have Hzf := hid hzf
            have hj3 : (j : Int) < 300 := by omega
            have hz0 := hB.size
            have hbx := hs.box
            have hbl := hs.lt
            have hbf := hs.fr
            clear hj hzf
            obtain ⟨kk, hkk⟩ : ∃ kk, z.kN 1000 64 = kk := ⟨_, rfl⟩
            obtain ⟨en, hen⟩ : ∃ en, z.eN kk = en := ⟨_, rfl⟩
            obtain ⟨ok, hok2⟩ : ∃ ok, Snd.nOk kk en = ok := ⟨_, rfl⟩
            obtain ⟨at_, hat⟩ : ∃ at_, z.nAt ok = at_ := ⟨_, rfl⟩
            have HK := hid (And.intro hkk (And.intro hen (And.intro hok2 hat)))
            clear hkk hen hok2 hat
            have hlow := zOk.low_eq
            have hzr := zOk.r
            have hzs := zOk.s
            have hHl := hid (And.intro hlow (And.intro hzr hzs))
            clear hlow hzr hzs
            go_upto_region 22 with (go_at_call 13; refine (qNext_any z zOk a9 c9 _ hs.row 1000 64 (by omega) (by omega) kk HK.out.1 en HK.out.2.1 _ rfl _ rfl ok HK.out.2.2.1 at_ HK.out.2.2.2).mono ?_; rintro e w4 ⟨a4, c4, p4, d4, rfl, r4, l4, -, -, hb4⟩; have hB_w4 := below_call (B := w.heap.size) (w := w) (by repeat' (with_reducible first | exact Below.refl _ _ | assumption | refine Below.setCell ?_ (by first | omega | (simp; done) | (simp; omega)) _ | refine Below.alloc ?_ (by first | omega | (simp; done) | (simp; omega)) _ | refine below_drewN' ?_ _ | refine Below.drew ?_)) hb4 (by first | omega | (simp; done) | (simp; omega)); have hk_w4 := Below.blk_rule hb4; have hf_w4 := Below.frz_rule hb4; have ht_w4 := Below.typ_rule hb4; have hz_w4 := hb4.size; (try simp at hz_w4); have u1 : b8 < w4.heap.size := (by omega))
            refine wp_name (fun W8 hW => ?_)
            have hnb : ¬ b8 = w4.heap.size := by omega
            have hnb2 : ¬ b8 = w4.heap.size + 1 := by omega
            have e14 : blk W8 w4.heap.size = #[.int .u32 (z.next kk en).una, .slice a4 (z.next kk en).rest.length c4, .int .i64 (z.next kk en).out, .bool (z.next kk en).fin, .bool (z.next kk en).es, .bool (z.next kk en).ea] := by rw [hW]; go_simp
            have e8 : blk W8 b8 = #[.int .u32 z.una, .slice a9 z.rest.length c9, .int .i64 z.out, .bool z.fin, .bool z.es, .bool z.ea] := by rw [hW]; go_simp
            have e8f : ∀ j, W8.frozen? ⟨b8, j, none⟩ = false := by intro j; rw [hW]; go_simp
            have e8l : b8 < W8.heap.size := by rw [hW]; simp; omega
            have e8B : Below w.heap.size w W8 := by rw [hW]; exact (by repeat' (with_reducible first | exact Below.refl _ _ | assumption | refine Below.setCell ?_ (by first | omega | (simp; done) | (simp; omega)) _ | refine Below.alloc ?_ (by first | omega | (simp; done) | (simp; omega)) _ | refine below_drewN' ?_ _ | refine Below.drew ?_))
            have e8r : Row W8 a4 (z.next kk en).rest.length c4 1 (bytes (z.next kk en).rest) := by rw [hW]; exact (by repeat' (with_reducible first | exact r4 | refine Row.alloc ?_ _ | refine Row.drew ?_ | refine Row.drewN ?_ _))
            have e8z : Row W8 a9 z.rest.length c9 1 (bytes z.rest) := by rw [hW]; exact (by repeat' (with_reducible first | exact hs.row | refine Row.alloc ?_ _ | refine Row.drew ?_ | refine Row.drewN ?_ _ | refine Row.below ?_ hb4))
            have o4 : Off a4 (bytes (z.next kk en).rest) b8 := l4.off (by omega)
            clear hW hk_w4 hf_w4 ht_w4 hz_w4 hB_w4 hb4 r4 l4 hbx hbf
            cases ok
            · go_upto_region 25 with fail
              have hzes : z.es = true ∧ z.all.length = z.sent := by
                have h1 := HK.out
                have h2 := hHl.out
                have h5 := h1.2.2.1
                have h6 : kk = 0 ∧ en = false := by
                  unfold Snd.nOk at h5
                  cases en <;> simp at h5 ⊢; exact h5
                obtain ⟨rfl, rfl⟩ := h6
                have h7 := h1.1
                have h8 := h1.2.1
                have h9 : (z.out : Int) = z.sent - z.low := by unfold Snd.out; omega
                have h10 : z.all.length = z.sent := by unfold Snd.kN at h7; omega
                unfold Snd.eN at h8
                rw [Hzf.out] at h8
                simp at h8
                cases hes : z.es
                · exact absurd h10.symm (h8 hes)
                · exact ⟨rfl, h10⟩
              have Hzes := hid hzes
              clear hzes
              have cF := qFlight_any z zOk a9 c9
              have HFD := hid (Snd.flight_diff zOk)
              obtain ⟨vOk, v0, vN, vE, v1, v2, v3, v4, v5, v6⟩ := Snd.flight_ack zOk
              obtain ⟨FL2, hFL⟩ : ∃ FL2, z.flight = FL2 := ⟨_, rfl⟩
              rw [hFL] at cF HFD vOk v0 vN vE v1 v2 v3 v4 v5 v6
              obtain ⟨v, hy⟩ : ∃ v, z.ackd FL2 = v := ⟨_, rfl⟩
              rw [hy] at vOk v0 v1 v2 v3 v4 v5 v6
              have HV := hid (And.intro hy (And.intro vN vE))
              have HVV := hid (And.intro vOk (And.intro v0 (And.intro v1 (And.intro v2 (And.intro v3 (And.intro v4 (And.intro v5 v6)))))))
              clear hFL hy vN vE v0 v1 v2 v3 v4 v5 v6 e14
              have hzl : b8 < W8.heap.size := e8l
              go_cut [18, 19, 20] (fun s8 s9 s10 wx => ∃ (b8 : Nat) (a8 : Option Addr) (c8 : Nat), s8 = .pointer (some ⟨b8, 0, none⟩) ∧ s9 = .int .i64 FL2 ∧ s10 = .int .i64 0 ∧ SAt wx b8 v a8 c8 ∧ W8.heap.size ≤ b8 ∧ Below W8.heap.size W8 wx)
              case first =>
                go_region_held3 (fun w' => (∀ b, b < W8.heap.size → blk w' b = blk W8 b) ∧ Below (W8.heap.size) W8 w') ((with_reducible first | exact kept_drew _ _ | exact kept_refl _ _ | assumption | exact kept_drew' (kept_alloc (kept_refl _ _) (by first | omega | (simp; done) | (simp; omega)) _) | exact kept_call (by assumption) (by assumption) (by first | omega | (simp; done) | (simp; omega)) | exact kept_alloc (by assumption) (by first | omega | (simp; done) | (simp; omega)) _ | exact kept_again (by assumption) (by first | omega | (simp; done) | (simp; omega)) (by first | omega | (simp; done) | (simp; omega)) _ | exact kept_set (by assumption) (by first | omega | (simp; done) | (simp; omega)) _ | (repeat' (with_reducible first | assumption | refine kept_set ?_ (by first | omega | (simp; done) | (simp; omega)) _ | refine kept_alloc ?_ (by first | omega | (simp; done) | (simp; omega)) _)))) (first
                  | (go_at_call 18; refine (cF _).mono ?_; rintro e w4 ⟨rfl, hb4⟩; have hz4 := kept_size (B := W8.heap.size) (W := W8) (by assumption) hb4; have hk4 := Below.blk_rule hb4; have hf4 := Below.frz_rule hb4; (try have hl4 : W8.heap.size < w4.heap.size := by have := hb4.size; simp at this; omega))
                  | (go_at_call 15; refine (qAck_any z zOk a9 c9 _ (e8z.below (kept_below (by assumption))) _ (wrap_u32_bd _) FL2 HFD.out v HV.out.1 _ _ HV.out.2.1 HV.out.2.2).mono ?_; rintro e w8 ⟨a8, c8, rfl, r8, l8, hb8⟩; have hz8 := kept_size (B := W8.heap.size) (W := W8) (by assumption) hb8; have hk8 := Below.blk_rule hb8; have hf8 := Below.frz_rule hb8; (try have hl8 : W8.heap.size < w8.heap.size := by have := hb8.size; simp at this; omega); (try have hl9 : w4.heap.size < w8.heap.size := by have := hb8.size; simp at this; omega)))
                · go_wp2_with fail
                  go_meet
                  case rel =>
                    have o8 : Off a8 (bytes v.rest) w8.heap.size := l8.off (by first | (left; simp; done) | (left; simp; omega) | (right; simp; done) | omega)
                    exact ⟨w8.heap.size, a8, c8, rfl, rfl, rfl, ⟨by go_simp, by (first | omega | (simp; done) | (have := hb8.size; simp at this ⊢; omega)), by intro j; go_simp, (by repeat' (with_reducible first | exact r8 | refine Row.setO ?_ o8 _ | refine Row.alloc ?_ _ | refine Row.drew ?_ | refine Row.drewN ?_ _)), o8⟩, by omega, kept_below (by assumption)⟩
                · go_wp2_with fail
                  go_meet
                  case rel =>
                    have o8 : Off a8 (bytes v.rest) w4.heap.size := l8.off (by first | (left; simp; done) | (left; simp; omega) | (right; simp; done) | omega)
                    exact ⟨w4.heap.size, a8, c8, rfl, rfl, rfl, ⟨by go_simp, by (first | omega | (simp; done) | (have := hb8.size; simp at this ⊢; omega)), by intro j; go_simp, (by repeat' (with_reducible first | exact r8 | refine Row.setO ?_ o8 _ | refine Row.alloc ?_ _ | refine Row.drew ?_ | refine Row.drewN ?_ _)), o8⟩, by omega, kept_below (by assumption)⟩
                · go_wp2_with fail
                  go_meet
                  case rel =>
                    have o8 : Off a8 (bytes v.rest) W8.heap.size := l8.off (by first | (left; simp; done) | (left; simp; omega) | (right; simp; done) | omega)
                    exact ⟨W8.heap.size, a8, c8, rfl, rfl, rfl, ⟨by go_simp, by (first | omega | (simp; done) | (have := hb8.size; simp at this ⊢; omega)), by intro j; go_simp, (by repeat' (with_reducible first | exact r8 | refine Row.setO ?_ o8 _ | refine Row.alloc ?_ _ | refine Row.drew ?_ | refine Row.drewN ?_ _)), o8⟩, Nat.le_refl _, kept_below (by assumption)⟩
              case rest =>
                obtain ⟨b18, a18, c18, rfl, rfl, rfl, hs18, hb18, hB18⟩ := hcut
                obtain ⟨ea, hea⟩ : ∃ ea, v.ea = ea := ⟨_, rfl⟩
                have q18 := hs18.box
                have q18l := hs18.lt
                have hz18 := hB18.size
                rw [hea] at q18
                have heat : ea = true := by
                  have h1 := HVV.out.2.2
                  have h2 := Hzes.out
                  rw [← hea]; unfold Snd.ea
                  rw [h1.2.2.1, h1.1, h2.1, h2.2]; simp
                have cE : ∀ w', Calls Try.prog 23 #[.agg #[.int .u32 v.una, .slice a18 v.rest.length c18, .int .i64 v.out, .bool v.fin, .bool v.es, .bool ea]] w' fun e w'' => e = .returned (.bool true) ∧ Below w'.heap.size w' w'' := fun w' => by
                  have h := qEmpty_any v a18 c18 w'
                  have h1 := HVV.out.2.2
                  have h2 := Hzes.out
                  have h3 : v.rest.length = 0 := by
                    rw [v.rest_len]
                    have h7 : v.low = min v.acked v.all.length := rfl
                    rw [h1.1, h2.1] at h7
                    rw [h1.2.2.1] at h7 ⊢
                    simp at h7; omega
                  have e1 : (decide (v.rest.length = 0) && (!v.fin || v.ea)) = true := by rw [h3, hea, heat]; simp
                  rw [e1] at h
                  rw [← hea]; exact h
                have cR : ∀ w', Calls Try.prog 9 #[.agg #[.int .u32 v.una, .slice a18 v.rest.length c18, .int .i64 v.out, .bool v.fin, .bool v.es, .bool ea]] w' fun e w'' => e = .returned (.bool true) ∧ Below w'.heap.size w' w'' := fun w' => by
                  have h := qRight_any v HVV.out.1 a18 c18 w'
                  rw [← hea]; exact h
                clear hea
                subst heat
                go_wp2_with (first
                  | (go_at_call 23; refine (cE _).mono ?_; rintro e w20 ⟨rfl, hb20⟩; have hk20 := Below.blk_rule hb20; have hz20 := hb20.size)
                  | (go_at_call 9; refine (cR _).mono ?_; rintro e w21 ⟨rfl, hb21⟩; have hz21 := hb21.size))
                go_ret
                exact ⟨rfl, (e8B.trans (hB18.mono (by omega))).trans ((hb20.mono (by omega)).trans (hb21.mono (by omega)))⟩
            · go_wp2_with fail
              go_roundw
              case rel =>
                refine ⟨j + 1, z.next kk en, a4, c4, by simp, ?_, Snd.next_ok zOk _ _ 1000 64 HK.out.1 HK.out.2.1, Hzf.out, ⟨?_, by simp; omega, ?_, (by repeat' (with_reducible first | exact e8r | refine Row.setO ?_ o4 _ | refine Row.alloc ?_ _ | refine Row.drew ?_ | refine Row.drewN ?_ _)), o4⟩, (by repeat' (with_reducible first | exact Below.refl _ _ | assumption | refine Below.setCell ?_ (by first | omega | (simp; done) | (simp; omega)) _ | refine Below.alloc ?_ (by first | omega | (simp; done) | (simp; omega)) _ | refine below_drewN' ?_ _ | refine Below.drew ?_))⟩
                · have h1 := HK.out
                  have h2 := Hj.out
                  have h3 := Snd.kN_le zOk 1000 64
                  rw [h1.1] at h3
                  have h4 := h1.2.1
                  have h5 := h1.2.2.1
                  show z.all.length - (z.sent + kk) + (if (z.es || en) then 0 else 1) + (j + 1) ≤ 257
                  cases hes : z.es
                  · rw [hes] at h2
                    cases en
                    · unfold Snd.nOk at h5
                      simp at h2 h5 ⊢; omega
                    · simp at h2 ⊢; omega
                  · rw [hes] at h2
                    cases en
                    · unfold Snd.nOk at h5
                      simp at h2 h5 ⊢; omega
                    · unfold Snd.eN at h4
                      rw [hes] at h4; simp at h4
                · go_simp
                · intro j; go_simp
              case measure => simp [intOf]; omega
end Go.Proofs.Ytcioklhpbmjeeaa
