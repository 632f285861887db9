/- Arguments, opened: what a law's walk is told of each argument that came in. -/
import Derived.ProofKit
import Derived.OpenShut
import Derived.ChangeOld
import Derived.Deep.Draws
import Derived.Test.YtiejnmbpejfpgaaKit
namespace Go.Proofs.Ytiejnmbpejfpgaa
open Go.ChangeShapes Go.WideShapes Go.ChangeAt Go.RowKit

theorem below_drewN {B : Nat} {a w : World} (h : Below B a w) (n : Nat) : Below B a (w.drewN n) := ⟨h.os, h.tape, h.output, h.size, h.block⟩

section
variable {H : Type} {enc : TypeId × Value → H} {P : Program} {w : World} {base : Nat} {spare : Nat → Bool} {held : Bool}

theorem ints_of_cells {k : IntKind} : ∀ l : List Value, (∀ i, i < l.length → ∃ z, (l.drop i).take 1 = [.int k z] ∧ (Lit.int k z).wf = true) →
    ∃ a : List Int, l = a.map (Value.int k) ∧ ∀ x ∈ a, (Lit.int k x).wf = true
  | [], _ => ⟨[], rfl, by simp⟩
  | v :: l, h => by
    obtain ⟨z, hz, hw⟩ := h 0 (by simp)
    simp at hz
    obtain ⟨a, ha, hb⟩ := ints_of_cells l (fun i hi => by simpa using h (i + 1) (by simp; omega))
    exact ⟨z :: a, by simp [hz, ha], by simpa [hw] using hb⟩

/-- An array of integers by value: its numbers. -/
theorem open_arr_int {r : Reach} {b0 : Nat} {t e : TypeId} {n : Nat} {k : IntKind} {v : Value} {d : DataW H} {ps : List MemPlace} (ht : P.underlying t = some (.array n e)) (he : P.underlying e = some (.int k)) (hc : P.cellsOf e = 1) (hn : P.cellsOf t = n)
    (hval : Value.okWide P w r b0 t v) (hd : DataW.Trod enc P w base spare held t v d ps) :
    ∃ a : List Int, v = .agg (a.map (Value.int k)).toArray ∧ a.length = n ∧ ∀ x ∈ a, (Lit.int k x).wf = true := by
  simp only [Value.okWide, ht] at hval
  obtain ⟨cs, rfl, _, _⟩ := hval
  obtain ⟨fuel, hf⟩ := hd
  obtain ⟨xs, m, rfl, _, hl, hxn, hx⟩ := DataW.trod_array ht hf
  simp only [Value.cells, hc, Nat.mul_one, hn] at hl hx
  obtain ⟨a, ha, hw⟩ := ints_of_cells (k := k) cs.toList (fun i hi => by
    have h := hx i (by omega)
    rw [List.getElem?_eq_getElem (by omega)] at h
    obtain ⟨z, hz, _, hw⟩ := DataW.trod_int he h
    exact ⟨z, hz, hw⟩)
  refine ⟨a, ?_, ?_, hw⟩
  · rw [← ha]
  · rw [← hl, ha, List.length_map]
end
end Go.Proofs.Ytiejnmbpejfpgaa
