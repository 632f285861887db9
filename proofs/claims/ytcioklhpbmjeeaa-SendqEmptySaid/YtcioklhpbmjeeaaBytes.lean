/- slices.Clone of bytes: a new row of the same bytes. -/
import Derived.Test.YtcioklhpbmjeeaaProg
import Derived.Test.YtcioklhpbmjeeaaMem
namespace Go.Proofs.Ytcioklhpbmjeeaa
open Go.RowKit
set_option linter.unusedVariables false

theorem info_u8 : (Try.prog.info? 5).map (fun i => (i.zero, i.size, i.bytes)) = some (some (.int .u8 0), 1, 1) := by kernel_rfl

/-- The call gives a slice of its own, with these cells, and leaves what was there. -/
def OwnPost (w : World) (et k n : Nat) (cs : List Value) (f : Value → Value) (e : Ending) (w' : World) : Prop :=
  ∃ a c, e = .returned (f (.slice a n c)) ∧ w'.ownsRow w.heap.size et k (.slice a n c) n cs ∧ Below w.heap.size w w'

set_option maxHeartbeats 400000 in
/-- A slice of bytes, copied into new memory. -/
theorem bclone_any (a : Option Addr) (n c : Nat) (bs : List UInt8) (w : World) (h : Row w a n c 1 (bytes bs)) (hn : n ≤ 1000000) :
    Calls Try.prog 26 #[.slice a n c] w (OwnPost w 5 1 n (bytes bs) id) := by
  obtain ⟨i0, hi, hz0, hz1, hz2⟩ := info_parts info_u8
  cases a with
  | none =>
    have hc := h.nil rfl
    have hn0 : n = 0 := by have := h.cap; omega
    subst hc hn0
    have hb : bytes bs = [] := List.eq_nil_of_length_eq_zero (by simpa using h.len)
    rw [hb]
    have he := fun W => Lib.run_eql_slice_nil (P := Try.prog) W 23 5 none 0 0 0 0 Try.underlying23
    go_enter Try.func26, Try.ntmps26
    go_wp2
    go_ret
    exact ⟨none, 0, rfl, World.ownsRow_nil _ _ _ _, Below.refl _ _⟩
  | some ad =>
    have he := fun W => Lib.run_eql_slice_nil (P := Try.prog) W 23 5 (some ad) n c 0 0 Try.underlying23
    have hrow : Row (w.alloc (.cells #[] 5)) (some ad) n c 1 (bytes bs) := h.mono fun b hb => Below.heap_alloc w _ b hb
    have hown : (w.alloc (.cells #[] 5)).ownsRow w.heap.size 5 1 (.slice (some ⟨w.heap.size, 0, none⟩) 0 0) 0 [] := by
      have := World.ownsRow_lit (base := w.heap.size) (e := 5) (size := 1) w #[] 0 (Nat.le_refl _) (Nat.zero_le _) rfl
      simpa using this
    have Hrow := hid hrow
    have Hown := hid hown
    have Hn := hid hn
    clear h hrow hown hn
    go_enter Try.func26, Try.ntmps26
    go_wp2_with (at_builtin; refine wpList_append_row rfl _ _ 23 rfl w.heap.size 5 i0 (.int .u8 0) 1 1 Try.underlying23 hi hz0 hz1 hz2 rfl (by decide) _ 0 [] rfl Hown.out (some ad) n c (bytes bs) rfl Hrow.out (bytes_one _) (by have := Hn.out; unfold maxLen; omega) (by have := Hn.out; omega) (by simp) ?_; intro a' c' w' ho hg; simp only [Nat.zero_add, List.nil_append] at ho ⊢)
    go_ret
    exact ⟨a', c', rfl, ho, (Below.refl _ w).alloc (Nat.le_refl _) _ |>.grown hg (by simp) (by intro k hk; cases hk; exact Nat.le_refl _)⟩
end Go.Proofs.Ytcioklhpbmjeeaa
