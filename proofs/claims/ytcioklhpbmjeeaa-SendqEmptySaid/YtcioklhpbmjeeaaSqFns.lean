/- The functions of package sendq: what each returns. -/
import Derived.Test.YtcioklhpbmjeeaaBytes
import Derived.Deep.QuietTactic
import Derived.BigQuiet
import Derived.Deep.RegionHeld3
namespace Go.Proofs.Ytcioklhpbmjeeaa
open Go.RowKit
set_option linter.unusedVariables false

abbrev sq (una : Int) (d : Value) (sent : Int) (f es ea : Bool) : Value := .agg #[.int .u32 una, d, .int .i64 sent, .bool f, .bool es, .bool ea]

set_option maxHeartbeats 400000 in
theorem sqClone_any (una : Int) (a : Option Addr) (n c : Nat) (bs : List UInt8) (sent : Int) (f es ea : Bool) (w : World) (h : Row w a n c 1 (bytes bs)) (hn : n ≤ 1000000) :
    Calls Try.prog 24 #[sq una (.slice a n c) sent f es ea] w (OwnPost w 5 1 n (bytes bs) fun d => sq una d sent f es ea) := by
  simp only [sq]
  go_enter Try.func24, Try.ntmps24
  go_wp2_with (go_at_call 26; refine (bclone_any _ _ _ bs _ (h.below (by repeat' (with_reducible first | exact Below.refl _ _ | assumption | refine Below.setCell ?_ (by first | omega | (simp; done) | (simp; omega)) _ | refine Below.alloc ?_ (by first | omega | (simp; done) | (simp; omega)) _ | refine below_drewN' ?_ _ | refine Below.drew ?_))) hn).mono ?_; rintro e w1 ⟨a', c', rfl, ho, hb⟩; have hB_w1 := below_call (B := w.heap.size) (w := w) (by repeat' (with_reducible first | exact Below.refl _ _ | assumption | refine Below.setCell ?_ (by first | omega | (simp; done) | (simp; omega)) _ | refine Below.alloc ?_ (by first | omega | (simp; done) | (simp; omega)) _ | refine below_drewN' ?_ _ | refine Below.drew ?_)) hb (by first | omega | (simp; done) | (simp; omega)); have hk_w1 := Below.blk_rule hb; have hf_w1 := Below.frz_rule hb; have ht_w1 := Below.typ_rule hb; have hz_w1 := hb.size; simp at hz_w1; have hl_w1_w0 : w.heap.size < w1.heap.size := (by omega); have hn_w1_w0 : ¬ w.heap.size = w1.heap.size := (by omega); have hl_w1_w1 : w.heap.size + 1 < w1.heap.size := (by omega); have hn_w1_w1 : ¬ w.heap.size + 1 = w1.heap.size := (by omega))
  refine bodyPost_ret (v := sq una (.slice a' n c') sent f es ea) (by simp only [results, Try.results24]; go_simp) rfl ⟨a', c', rfl, ?_, (by repeat' (with_reducible first | exact Below.refl _ _ | assumption | refine Below.setCell ?_ (by first | omega | (simp; done) | (simp; omega)) _ | refine Below.alloc ?_ (by first | omega | (simp; done) | (simp; omega)) _ | refine below_drewN' ?_ _ | refine Below.drew ?_))⟩
  refine own_base (base := w.heap.size + 2) ?_ (by omega)
  simp at ho
  repeat (with_reducible first | exact ho | refine own_set ?_ (by simp <;> omega) _)

theorem sqRoom_any (una : Int) (a : Option Addr) (n c : Nat) (sent : Int) (f es ea : Bool) (w : World) (hn : n ≤ 1000000) :
    Calls Try.prog 17 #[sq una (.slice a n c) sent f es ea] w fun e w' => e = .returned (.int .i64 (if f then 0 else 256 - n)) ∧ Below w.heap.size w w' := by
  simp only [sq]
  have hn' : (n : Int) ≤ 1000000 := by omega
  cases f
  all_goals
    go_enter Try.func17, Try.ntmps17
    go_wp2
    go_ret
    exact ⟨rfl, (by repeat' (with_reducible first | exact Below.refl _ _ | assumption | refine Below.setCell ?_ (by first | omega | (simp; done) | (simp; omega)) _ | refine Below.alloc ?_ (by first | omega | (simp; done) | (simp; omega)) _ | refine below_drewN' ?_ _ | refine Below.drew ?_))⟩

theorem sqFlight_any (una : Int) (a : Option Addr) (n c : Nat) (sent : Int) (f es ea : Bool) (w : World) (hn : 0 ≤ sent ∧ sent ≤ 1000000) :
    Calls Try.prog 18 #[sq una (.slice a n c) sent f es ea] w fun e w' => e = .returned (.int .i64 (if es && !ea then sent + 1 else sent)) ∧ Below w.heap.size w w' := by
  simp only [sq]
  obtain ⟨h1, h2⟩ := hn
  cases es <;> cases ea
  all_goals
    go_enter Try.func18, Try.ntmps18
    go_wp2
    go_ret
    exact ⟨rfl, (by repeat' (with_reducible first | exact Below.refl _ _ | assumption | refine Below.setCell ?_ (by first | omega | (simp; done) | (simp; omega)) _ | refine Below.alloc ?_ (by first | omega | (simp; done) | (simp; omega)) _ | refine below_drewN' ?_ _ | refine Below.drew ?_))⟩

theorem sqEmpty_any (una : Int) (a : Option Addr) (n c : Nat) (sent : Int) (f es ea : Bool) (w : World) :
    Calls Try.prog 23 #[sq una (.slice a n c) sent f es ea] w fun e w' => e = .returned (.bool (decide (n = 0) && (!f || ea))) ∧ Below w.heap.size w w' := by
  simp only [sq]
  by_cases h : n = 0
  · subst h
    cases f <;> cases ea
    all_goals
      go_enter Try.func23, Try.ntmps23
      go_wp2
      go_ret
      exact ⟨rfl, (by repeat' (with_reducible first | exact Below.refl _ _ | assumption | refine Below.setCell ?_ (by first | omega | (simp; done) | (simp; omega)) _ | refine Below.alloc ?_ (by first | omega | (simp; done) | (simp; omega)) _ | refine below_drewN' ?_ _ | refine Below.drew ?_))⟩
  · have h' : ((n : Int) == 0) = false := by simpa using h
    rw [show (decide (n = 0) && (!f || ea)) = false by simp [h]]
    go_enter Try.func23, Try.ntmps23
    go_wp2
    go_ret
    exact ⟨rfl, (by repeat' (with_reducible first | exact Below.refl _ _ | assumption | refine Below.setCell ?_ (by first | omega | (simp; done) | (simp; omega)) _ | refine Below.alloc ?_ (by first | omega | (simp; done) | (simp; omega)) _ | refine below_drewN' ?_ _ | refine Below.drew ?_))⟩

set_option maxHeartbeats 1000000 in
theorem sqWrite_any (una : Int) (a : Option Addr) (n c : Nat) (bs : List UInt8) (sent : Int) (f es ea : Bool) (a2 : Option Addr) (m c2 : Nat) (ds : List UInt8) (w : World) (h : Row w a n c 1 (bytes bs)) (h2 : Row w a2 m c2 1 (bytes ds)) (hn : n ≤ 256) (hm : m ≤ 1000000)
    (k : Nat) (hk0 : k = if f then 0 else min m (256 - n)) :
    Calls Try.prog 12 #[sq una (.slice a n c) sent f es ea, .slice a2 m c2] w (OwnPost w 5 1 (n + k) (bytes (bs ++ ds.take k)) fun d => .tuple #[sq una d sent f es ea, .int .i64 k]) := by
  simp only [sq]
  obtain ⟨i0, ih, iz, is_, ib⟩ := info_parts info_u8
  obtain ⟨R, hR⟩ : ∃ R : Int, (if f then (0 : Int) else 256 - n) = R := ⟨_, rfl⟩
  have hM : min (m : Int) R = (k : Int) := by rw [← hR, hk0]; cases f <;> simp <;> omega
  have hkm : (k : Int) ≤ m ∧ (k : Int) + n ≤ 1000000 := by rw [hk0]; cases f <;> simp <;> omega
  have hc2 : (k : Int) ≤ c2 := by have := h2.cap; omega
  have hkp : (0 : Int) ≤ k := by omega
  have Hk0 := hid hk0
  clear hk0
  go_enter Try.func12, Try.ntmps12
  go_wp2_with (first
    | (go_at_call 24; refine (sqClone_any _ _ _ _ bs _ _ _ _ _ (h.below (by repeat' (with_reducible first | exact Below.refl _ _ | assumption | refine Below.setCell ?_ (by first | omega | (simp; done) | (simp; omega)) _ | refine Below.alloc ?_ (by first | omega | (simp; done) | (simp; omega)) _ | refine below_drewN' ?_ _ | refine Below.drew ?_))) (by omega)).mono ?_; rintro e w1 ⟨a', c', rfl, ho, hb⟩; have hB_w1 := below_call (B := w.heap.size) (w := w) (by repeat' (with_reducible first | exact Below.refl _ _ | assumption | refine Below.setCell ?_ (by first | omega | (simp; done) | (simp; omega)) _ | refine Below.alloc ?_ (by first | omega | (simp; done) | (simp; omega)) _ | refine below_drewN' ?_ _ | refine Below.drew ?_)) hb (by first | omega | (simp; done) | (simp; omega)); have hk_w1 := Below.blk_rule hb; have hf_w1 := Below.frz_rule hb; have ht_w1 := Below.typ_rule hb; have hz_w1 := hb.size; simp at hz_w1; have hl_w1_w0 : w.heap.size < w1.heap.size := (by omega); have hn_w1_w0 : ¬ w.heap.size = w1.heap.size := (by omega); have hl_w1_w1 : w.heap.size + 1 < w1.heap.size := (by omega); have hn_w1_w1 : ¬ w.heap.size + 1 = w1.heap.size := (by omega); simp at ho)
    | (go_at_call 17; refine (sqRoom_any _ _ _ _ _ _ _ _ _ (by omega)).mono ?_; rintro e w2 ⟨rfl, hb2⟩; have hB_w2 := below_call (B := w.heap.size) (w := w) (by repeat' (with_reducible first | exact Below.refl _ _ | assumption | refine Below.setCell ?_ (by first | omega | (simp; done) | (simp; omega)) _ | refine Below.alloc ?_ (by first | omega | (simp; done) | (simp; omega)) _ | refine below_drewN' ?_ _ | refine Below.drew ?_)) hb2 (by first | omega | (simp; done) | (simp; omega)); have hk_w2 := Below.blk_rule hb2; have hf_w2 := Below.frz_rule hb2; have ht_w2 := Below.typ_rule hb2; have hz_w2 := hb2.size; simp at hz_w2; have hl_w2_w0 : w.heap.size < w2.heap.size := (by omega); have hn_w2_w0 : ¬ w.heap.size = w2.heap.size := (by omega); have hl_w2_w1 : w.heap.size + 1 < w2.heap.size := (by omega); have hn_w2_w1 : ¬ w.heap.size + 1 = w2.heap.size := (by omega); have hl_w2_w10 : w1.heap.size < w2.heap.size := (by omega); have hn_w2_w10 : ¬ w1.heap.size = w2.heap.size := (by omega)))
  have ho2 : w2.ownsRow (w.heap.size + 2) 5 1 (.slice a' n c') n (bytes bs) := own_below (by repeat' (with_reducible first | exact ho | assumption | refine own_set ?_ (by first | omega | (simp; done) | (simp; omega)) _ | refine World.ownsRow.alloc ?_ _ | refine own_below ?_ (by assumption) | refine own_drewN ?_ _)) hb2
  have h22 : Row w2.drew a2 m c2 1 (bytes ds) := h2.below hB_w2.drew
  have hcut : Row w2.drew a2 k c2 1 (bytes (ds.take k)) := by
    have := cut_take h22 k (by omega)
    simpa [bytes] using this
  have hlt := ho.lt
  go_region_law (refine step_append_row rfl _ _ 23 rfl (w.heap.size + 2) 5 i0 (.int .u8 0) 1 1 Try.underlying23 ih iz is_ ib rfl (by decide) _ n (bytes bs) rfl ho2.drew a2 k c2 (bytes (ds.take k)) rfl hcut (bytes_one _) (by unfold maxLen; omega) (by omega) (by simp <;> omega) ?_; intro a3 c3 w3 ho3 hg3; have hk3 : ∀ b, (b < w.heap.size + 2 ∨ b = w1.heap.size) → blk w3 b = blk w2 b := grown_blk hg3 (fun b hb => by simp <;> omega) (fun b hb k hk => by have := hlt k hk; omega); have ht3 : ∀ b, (b < w.heap.size + 2 ∨ b = w1.heap.size) → typ w3 b = typ w2 b := grown_typ hg3 (fun b hb => by simp <;> omega) (fun b hb k hk => by have := hlt k hk; omega); have hf3 : ∀ b j, (b < w.heap.size + 2 ∨ b = w1.heap.size) → w3.frozen? ⟨b, j, none⟩ = w2.frozen? ⟨b, j, none⟩ := grown_frz hg3 (fun b hb => by simp <;> omega) (fun b hb k hk => by have := hlt k hk; omega))
  go_wp2
  refine bodyPost_ret (v := .tuple #[sq una (.slice a3 (n + k) c3) sent f es ea, .int .i64 k]) (by simp only [results, Try.results12]; go_simp) rfl ⟨a3, c3, rfl, ?_, ?_⟩
  · refine own_base (base := w.heap.size + 2) ?_ (by omega)
    simp only [bytes, List.map_append] at ho3 ⊢
    refine own_set (own_set (own_set (own_set (own_set (own_set (own_set_t ho3 ?_ _) (by simp) _) (by simp) _) (by simp) _) (by simp) _) (by simp) _) (by simp) _
    show typ w3 w1.heap.size ≠ some 5
    rw [show typ w3 w1.heap.size = some 25 by go_simp]
    decide
  · have h9 : Below w.heap.size w w3 := (hB_w2.drew).grown hg3 (by simp; omega) (fun k hk => by have := hlt k hk; omega)
    exact (by repeat' (with_reducible first | exact Below.refl _ _ | assumption | refine Below.setCell ?_ (by first | omega | (simp; done) | (simp; omega)) _ | refine Below.alloc ?_ (by first | omega | (simp; done) | (simp; omega)) _ | refine below_drewN' ?_ _ | refine Below.drew ?_))
end Go.Proofs.Ytcioklhpbmjeeaa
