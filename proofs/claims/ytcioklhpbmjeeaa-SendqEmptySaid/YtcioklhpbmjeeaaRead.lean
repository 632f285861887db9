/- Arguments of any form, opened down to their cells. -/
import Derived.ProofKit
import Derived.OpenShut
import Derived.ChangeArms
import Derived.ChangeOld
import Derived.Deep.Slices
import Derived.Deep.Fields
import Derived.Test.YtcioklhpbmjeeaaMemB
namespace Go.Proofs.Ytcioklhpbmjeeaa
open Go.ChangeShapes Go.WideShapes Go.ChangeAt Go.RowKit Go.Deep
set_option linter.unusedVariables false

/-- These cells read as a value of this type. -/
def Rd (P : Program) (w : World) (t : TypeId) (cs : List Value) : Prop :=
  ∃ (H : Type) (enc : TypeId × Value → H) (base : Nat) (spare : Nat → Bool) (held : Bool) (n : Nat) (x : DataW H × List MemPlace), DataW.trod enc P w base spare held n t cs = some x

theorem Rd.of_trod {H : Type} {enc : TypeId × Value → H} {P : Program} {w : World} {base : Nat} {spare : Nat → Bool} {held : Bool} {t : TypeId} {v : Value} {d : DataW H} {p : List MemPlace} (h : DataW.Trod enc P w base spare held t v d p) :
    Rd P w t v.cells.toList := by
  obtain ⟨fuel, hf⟩ := h
  exact ⟨H, enc, base, spare, held, fuel, _, hf⟩

variable {P : Program} {w : World} {t : TypeId} {cs : List Value}
theorem Rd.int {k : IntKind} (ht : P.underlying t = some (.int k)) (h : Rd P w t cs) : ∃ z, cs = [.int k z] ∧ (Lit.int k z).wf = true := by
  obtain ⟨H, enc, base, spare, held, n, x, hx⟩ := h
  obtain ⟨z, hz, _, hw⟩ := DataW.trod_int ht hx
  exact ⟨z, hz, hw⟩
theorem Rd.bool (ht : P.underlying t = some .bool) (h : Rd P w t cs) : ∃ b, cs = [.bool b] := by
  obtain ⟨H, enc, base, spare, held, n, x, hx⟩ := h
  obtain ⟨z, hz, _⟩ := DataW.trod_bool ht hx
  exact ⟨z, hz⟩
theorem Rd.struct {fs : Array Field} (ht : P.underlying t = some (.struct fs)) (h : Rd P w t cs) :
    cs.length = P.cellsOf t ∧ ∀ (i : Nat) (f : Field), fs[i]? = some f → Rd P w f.type ((cs.drop f.offset).take (P.cellsOf f.type)) := by
  obtain ⟨H, enc, base, spare, held, n, x, hx⟩ := h
  obtain ⟨xs, m, _, _, hl, hxs, hf⟩ := DataW.trod_struct ht hx
  refine ⟨hl, fun i f hi => ?_⟩
  have hil := (Array.getElem?_eq_some_iff.1 hi).1
  have := hf i f hi
  rw [List.getElem?_eq_getElem (by omega)] at this
  exact ⟨H, enc, base, spare, held, m, _, this⟩
theorem Rd.array {e : TypeId} {n : Nat} (ht : P.underlying t = some (.array n e)) (h : Rd P w t cs) :
    cs.length = P.cellsOf t ∧ ∀ i, i < n → Rd P w e ((cs.drop (i * P.cellsOf e)).take (P.cellsOf e)) := by
  obtain ⟨H, enc, base, spare, held, m, x, hx⟩ := h
  obtain ⟨xs, m', _, _, hl, hxn, hf⟩ := DataW.trod_array ht hx
  refine ⟨hl, fun i hi => ?_⟩
  have := hf i hi
  rw [List.getElem?_eq_getElem (by omega)] at this
  exact ⟨H, enc, base, spare, held, m', _, this⟩
theorem Rd.slice {e : TypeId} (ht : P.underlying t = some (.slice e)) (h : Rd P w t cs) :
    ∃ (a : Option Addr) (n c : Nat), cs = [.slice a n c] ∧ n ≤ c ∧ c ≤ maxLen ∧ (a = none → c = 0) ∧
      ∀ i, i < n → ∃ cs', cs'.length = P.cellsOf e ∧ (∀ ad, a = some ad → ∀ j, j < P.cellsOf e → w.cell? (ad.add (i * P.cellsOf e + j)) = cs'[j]?) ∧ Rd P w e cs' := by
  obtain ⟨H, enc, base, spare, held, m, x, hx⟩ := h
  rcases open_slice ht hx with ⟨rfl, -⟩ | ⟨a, len, cap, m', n', D, Pl, rfl, hb, hl, hm, hmm, hx', hi⟩
  · exact ⟨none, 0, 0, rfl, Nat.le_refl _, by decide, fun _ => rfl, fun i hi => absurd hi (Nat.not_lt_zero _)⟩
  · refine ⟨some a, len, cap, rfl, hl, hm, (fun h => by cases h), fun i hil => ?_⟩
    obtain ⟨cs', hc, ht'⟩ := hi i (by rw [hmm]; split <;> omega)
    obtain ⟨_, hcl, hat⟩ := World.cells?_some hc
    refine ⟨cs', hcl, fun ad had j hj => ?_, H, enc, base, spare, held, n', _, ht'⟩
    cases had
    rw [← hat j hj, Go.Deep.add_add]

theorem flat_len {α : Type} {f : α → List Value} {k : Nat} : ∀ {l : List α}, (∀ o ∈ l, (f o).length = k) → (l.flatMap f).length = l.length * k
  | [], _ => by simp
  | o :: l, h => by
    rw [List.flatMap_cons, List.length_append, flat_len (fun x hx => h x (List.mem_cons_of_mem _ hx)), h o (List.mem_cons_self ..), List.length_cons, Nat.add_mul]
    omega
theorem flat_get {α : Type} {f : α → List Value} {k : Nat} : ∀ {l : List α}, (∀ o ∈ l, (f o).length = k) → ∀ (i : Nat) (o : α), l[i]? = some o → ∀ j, j < k → (l.flatMap f)[i * k + j]? = (f o)[j]?
  | [], _, i, o, hi, j, hj => by simp at hi
  | x :: l, h, 0, o, hi, j, hj => by
    simp at hi; subst hi
    rw [List.flatMap_cons, List.getElem?_append_left (by rw [h _ (List.mem_cons_self ..)]; omega)]
    simp
  | x :: l, h, i + 1, o, hi, j, hj => by
    rw [List.flatMap_cons, List.getElem?_append_right (by rw [h _ (List.mem_cons_self ..), Nat.add_mul]; omega), h _ (List.mem_cons_self ..)]
    rw [show (i + 1) * k + j - k = i * k + j by rw [Nat.add_mul]; omega]
    exact flat_get (fun y hy => h y (List.mem_cons_of_mem _ hy)) i o (by simpa using hi) j hj

/-- A slice whose elements have each one form: its elements, in a list. -/
theorem Rd.rows {e : TypeId} (ht : P.underlying t = some (.slice e)) (h : Rd P w t cs) {α : Type} [Inhabited α] (f : α → List Value) (Q : α → Prop) {k : Nat} (hk : P.cellsOf e = k) (hk0 : 0 < k)
    (hf : ∀ cs', cs'.length = k → Rd P w e cs' → ∃ o, cs' = f o ∧ Q o) :
    ∃ (a : Option Addr) (n c : Nat) (l : List α), cs = [.slice a n c] ∧ l.length = n ∧ Row w a n c k (l.flatMap f) ∧ ∀ o ∈ l, Q o ∧ (f o).length = k := by
  subst hk
  obtain ⟨a, n, c, rfl, hn, hc, hnil, hi⟩ := h.slice ht
  obtain ⟨F, hF⟩ := choose_lt (α := α) (n := n) (p := fun i o => (f o).length = P.cellsOf e ∧ (∀ ad, a = some ad → ∀ j, j < P.cellsOf e → w.cell? (ad.add (i * P.cellsOf e + j)) = (f o)[j]?) ∧ Q o) (fun i hin => by
    obtain ⟨cs', h1, h2, h3⟩ := hi i hin
    obtain ⟨o, rfl, ho⟩ := hf cs' h1 h3
    exact ⟨o, h1, h2, ho⟩)
  have hall : ∀ o ∈ (List.range n).map F, Q o ∧ (f o).length = P.cellsOf e := by
    intro o ho
    obtain ⟨i, hin, rfl⟩ := List.mem_map.1 ho
    obtain ⟨h1, h2, h3⟩ := hF i (List.mem_range.1 hin)
    exact ⟨h3, h1⟩
  refine ⟨a, n, c, (List.range n).map F, rfl, by simp, ⟨?_, hn, hc, hnil, ?_⟩, hall⟩
  · rw [flat_len (fun o ho => (hall o ho).2)]; simp
  · intro ad had j u hu
    have hlen : (((List.range n).map F).flatMap f).length = n * P.cellsOf e := by rw [flat_len (fun o ho => (hall o ho).2)]; simp
    have hjl : j < n * P.cellsOf e := by rw [← hlen]; exact (List.getElem?_eq_some_iff.1 hu).1
    have hin : j / P.cellsOf e < n := Nat.div_lt_of_lt_mul (by rw [Nat.mul_comm]; exact hjl)
    have hjk : j % P.cellsOf e < P.cellsOf e := Nat.mod_lt _ hk0
    have hj : j = j / P.cellsOf e * P.cellsOf e + j % P.cellsOf e := by rw [Nat.mul_comm]; exact (Nat.div_add_mod _ _).symm
    obtain ⟨h1, h2, h3⟩ := hF _ hin
    have h4 := flat_get (l := (List.range n).map F) (fun o ho => (hall o ho).2) (j / P.cellsOf e) (F (j / P.cellsOf e)) (by simp [hin]) _ hjk
    rw [← hj] at h4
    rw [hj, h2 ad had _ hjk, ← h4, hu]

theorem Rd.u8s {e : TypeId} (ht : P.underlying t = some (.slice e)) (he : P.underlying e = some (.int .u8)) (hc : P.cellsOf e = 1) (h : Rd P w t cs) :
    ∃ (a : Option Addr) (c : Nat) (bs : List UInt8), cs = [.slice a bs.length c] ∧ Row w a bs.length c 1 (bytes bs) := by
  obtain ⟨a, n, c, l, rfl, hl, hr, -⟩ := h.rows ht (fun b : UInt8 => [.int .u8 b.toNat]) (fun _ => True) hc (by decide) (fun cs' _ h' => by
    obtain ⟨z, rfl, hw⟩ := h'.int he
    have hb := bounds_u8 hw
    refine ⟨UInt8.ofNat z.toNat, ?_, trivial⟩
    have : (UInt8.ofNat z.toNat).toNat = z.toNat := by simp; omega
    rw [this]
    congr 2
    omega)
  subst hl
  refine ⟨a, c, l, rfl, ?_⟩
  have : l.flatMap (fun b : UInt8 => [.int .u8 b.toNat]) = bytes l := by
    clear hr h
    unfold bytes
    induction l with
    | nil => rfl
    | cons x l ih => simp_all
  rw [← this]
  exact hr
theorem add_block (a : Addr) (n : Nat) : (a.add n).block = a.block := by unfold Addr.add; split <;> rfl
theorem add_off (a : Addr) (n : Nat) : (a.add n).off = a.off + n := by unfold Addr.add; split <;> simp_all
theorem cell_add_blk (w : World) (a : Addr) (n j : Nat) : (blk w (a.add n).block)[(a.add n).off + (j + 1)]? = w.cell? (a.add (n + (j + 1))) := by
  rw [add_block, add_off, Addr.add, if_neg (by omega), ← cell_blk, Nat.add_assoc]
end Go.Proofs.Ytcioklhpbmjeeaa
