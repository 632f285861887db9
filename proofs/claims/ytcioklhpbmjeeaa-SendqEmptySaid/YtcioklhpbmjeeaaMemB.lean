/- Rows, where a row without cells may lie anywhere. -/
import Derived.Test.YtcioklhpbmjeeaaMem
namespace Go.Proofs.Ytcioklhpbmjeeaa
open Go.RowKit
set_option linter.unusedVariables false

/-- Where a row's block lies, unless it has no cells. -/
def InRange (a : Option Addr) (cs : List Value) (lo hi : Nat) : Prop := ∀ ad, a = some ad → cs = [] ∨ (lo ≤ ad.block ∧ ad.block < hi)
theorem Row.inRange {w : World} {a : Option Addr} {n c k : Nat} {cs : List Value} (h : Row w a n c k cs) {lo : Nat} (hlo : ∀ ad, a = some ad → lo ≤ ad.block) : InRange a cs lo w.heap.size := by
  intro ad had
  cases cs with
  | nil => exact .inl rfl
  | cons u us =>
    refine .inr ⟨hlo ad had, ?_⟩
    have := h.cell ad had 0 u rfl
    have := World.block_lt_of_cell? w _ this
    simpa [Addr.add] using this
theorem Row.inRange0 {w : World} {a : Option Addr} {n c k : Nat} {cs : List Value} (h : Row w a n c k cs) : InRange a cs 0 w.heap.size := h.inRange fun _ _ => Nat.zero_le _
theorem InRange.wide {a : Option Addr} {cs : List Value} {lo hi lo' hi' : Nat} (h : InRange a cs lo hi) (h1 : lo' ≤ lo) (h2 : hi ≤ hi') : InRange a cs lo' hi' := fun ad had => by
  rcases h ad had with h | ⟨h3, h4⟩
  · exact .inl h
  · exact .inr ⟨by omega, by omega⟩
theorem Row.setR {w : World} {a : Option Addr} {n c k : Nat} {cs : List Value} (h : Row w a n c k cs) {p : Addr} {lo hi : Nat} (hr : InRange a cs lo hi) (hp : p.block < lo ∨ hi ≤ p.block) (u : Value) : Row (w.setCell p u) a n c k cs :=
  ⟨h.len, h.cap, h.max, h.nil, fun ad ha j v hv => by
    rcases hr ad ha with h1 | h1
    · rw [h1] at hv; cases hv
    · rw [← h.cell ad ha j v hv]
      refine World.cell?_of_block (Below.heap_setCell w p u _ ?_)
      have : ad.block ≠ p.block := by omega
      unfold Addr.add; split <;> exact this⟩

/-- A row does not lie in this block, unless it has no cells. -/
def Off (a : Option Addr) (cs : List Value) (b : Nat) : Prop := ∀ ad, a = some ad → cs = [] ∨ ad.block ≠ b
theorem InRange.off {a : Option Addr} {cs : List Value} {lo hi b : Nat} (h : InRange a cs lo hi) (hb : b < lo ∨ hi ≤ b) : Off a cs b := fun ad had => by
  rcases h ad had with h | ⟨h1, h2⟩
  · exact .inl h
  · exact .inr (by omega)
theorem Row.setO {w : World} {a : Option Addr} {n c k : Nat} {cs : List Value} (h : Row w a n c k cs) {p : Addr} (hr : Off a cs p.block) (u : Value) : Row (w.setCell p u) a n c k cs :=
  ⟨h.len, h.cap, h.max, h.nil, fun ad ha j v hv => by
    rcases hr ad ha with h1 | h1
    · rw [h1] at hv; cases hv
    · rw [← h.cell ad ha j v hv]
      refine World.cell?_of_block (Below.heap_setCell w p u _ ?_)
      unfold Addr.add; split <;> exact h1⟩
end Go.Proofs.Ytcioklhpbmjeeaa
