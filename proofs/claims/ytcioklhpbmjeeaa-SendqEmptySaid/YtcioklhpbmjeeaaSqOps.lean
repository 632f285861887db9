/- What is done, as it comes in: a list of ops. -/
import Derived.Test.YtcioklhpbmjeeaaSqLives
import Derived.Test.YtcioklhpbmjeeaaRead
namespace Go.Proofs.Ytcioklhpbmjeeaa
open Go.RowKit Go.ChangeShapes
set_option linter.unusedVariables false

structure Op where
  kind : Int
  data : List UInt8
  da : Option Addr
  dc : Nat
  n : Int
  size : Int
instance : Inhabited Op := ⟨⟨0, [], none, 0, 0, 0⟩⟩
def Op.cells (o : Op) : List Value := [.int .i64 o.kind, .slice o.da o.data.length o.dc, .int .i64 o.n, .int .i64 o.size]
structure Op.Ok (w : World) (o : Op) : Prop where
  k : -9223372036854775808 ≤ o.kind ∧ o.kind ≤ 9223372036854775807
  n : -9223372036854775808 ≤ o.n ∧ o.n ≤ 9223372036854775807
  s : -9223372036854775808 ≤ o.size ∧ o.size ≤ 9223372036854775807
  d : Row w o.da o.data.length o.dc 1 (bytes o.data)
abbrev opv (o : Op) : Value := .agg #[.int .i64 o.kind, .slice o.da o.data.length o.dc, .int .i64 o.n, .int .i64 o.size]
theorem Op.Ok.below {w w' : World} {o : Op} (h : o.Ok w) (hb : Below w.heap.size w w') : o.Ok w' := ⟨h.k, h.n, h.s, h.d.below hb⟩

theorem open_op {w : World} {cs : List Value} (h : Rd Try.prog w 32 cs) : ∃ o : Op, cs = o.cells ∧ o.Ok w := by
  obtain ⟨hl, hf⟩ := h.struct Try.underlying32
  have h4 : Try.prog.cellsOf 32 = 4 := by kernel_rfl
  rw [h4] at hl
  match cs, hl with
  | [c0, c1, c2, c3], _ =>
    obtain ⟨z0, e0, w0⟩ := Rd.int (k := .i64) Try.underlying3 (hf 0 _ rfl)
    obtain ⟨a, c, bs, e1, r1⟩ := Rd.u8s Try.underlying23 Try.underlying5 (by kernel_rfl) (hf 1 _ rfl)
    obtain ⟨z2, e2, w2⟩ := Rd.int (k := .i64) Try.underlying3 (hf 2 _ rfl)
    obtain ⟨z3, e3, w3⟩ := Rd.int (k := .i64) Try.underlying3 (hf 3 _ rfl)
    have k1 : Try.prog.cellsOf 3 = 1 := by kernel_rfl
    have k2 : Try.prog.cellsOf 23 = 1 := by kernel_rfl
    simp [k1, k2] at e0 e1 e2 e3
    subst e0 e1 e2 e3
    exact ⟨⟨z0, bs, a, c, z2, z3⟩, rfl, bounds_i64 w0, bounds_i64 w2, bounds_i64 w3, r1⟩

/-- The list of ops. -/
structure Ops (w : World) (a : Option Addr) (n c : Nat) (l : List Op) : Prop where
  len : l.length = n
  row : Row w a n c 4 (l.flatMap Op.cells)
  ok : ∀ o ∈ l, o.Ok w
theorem Ops.below {w w' : World} {a : Option Addr} {n c : Nat} {l : List Op} (h : Ops w a n c l) (hb : Below w.heap.size w w') : Ops w' a n c l := ⟨h.len, h.row.below hb, fun o ho => (h.ok o ho).below hb⟩
theorem Ops.bound {w : World} {a : Option Addr} {n c : Nat} {l : List Op} (h : Ops w a n c l) : n ≤ 9223372036854775807 := by
  have h1 := h.row.cap; have h2 := h.row.max; have h3 : maxLen ≤ 9223372036854775807 := by decide
  omega
theorem open_ops {w : World} {v : Value} (h : Rd Try.prog w 28 v.cells.toList) (hv : ∀ cs, v ≠ .agg cs) : ∃ a n c l, v = .slice a n c ∧ Ops w a n c l := by
  obtain ⟨a, n, c, l, e, hl, hr, hq⟩ := h.rows Try.underlying28 Op.cells (Op.Ok w) (k := 4) (by kernel_rfl) (by decide) (fun cs' _ h' => open_op h')
  refine ⟨a, n, c, l, ?_, hl, hr, fun o ho => (hq o ho).1⟩
  cases v <;> simp_all [Value.cells]
theorem Ops.at {w : World} {a : Option Addr} {n c : Nat} {l : List Op} (h : Ops w a n c l) {i : Nat} {o : Op} (hi : l[i]? = some o) :
    ∃ ad, a = some ad ∧ w.cell? (ad.add (i * 4)) = some (.int .i64 o.kind) ∧ (blk w (ad.add (i * 4)).block)[(ad.add (i * 4)).off + 1]? = some (.slice o.da o.data.length o.dc) ∧
      (blk w (ad.add (i * 4)).block)[(ad.add (i * 4)).off + 2]? = some (.int .i64 o.n) ∧ (blk w (ad.add (i * 4)).block)[(ad.add (i * 4)).off + 3]? = some (.int .i64 o.size) := by
  have hil := (List.getElem?_eq_some_iff.1 hi).1
  cases a with
  | none => have := h.row.nil rfl; have := h.row.cap; have := h.len; omega
  | some ad =>
    have g := fun j hj => h.row.cell ad rfl (i * 4 + j) _ ((flat_get (f := Op.cells) (k := 4) (fun _ _ => rfl) i o hi j hj).trans (List.getElem?_eq_getElem hj))
    exact ⟨ad, rfl, g 0 (by decide), (cell_add_blk _ _ _ 0).trans (g 1 (by decide)), (cell_add_blk _ _ _ 1).trans (g 2 (by decide)), (cell_add_blk _ _ _ 2).trans (g 3 (by decide))⟩

/-- Ops of a size with which this is tried. -/
def fitB (l : List Op) : Bool := l.all (fun o => decide (o.data.length ≤ 400)) && decide (l.length ≤ 100)

set_option maxHeartbeats 2000000 in
theorem fits_any (w : World) (a : Option Addr) (n c : Nat) (l : List Op) (h : Ops w a n c l) :
    Calls Try.prog 10 #[.slice a n c] w fun e w' => e = .returned (.bool (fitB l)) ∧ Below w.heap.size w w' := by
  have hn := h.bound
  have hln := h.len
  go_enter Try.func10, Try.ntmps10
  go_wp2_with fail
  go_loopw [7] (fun i wr => ∃ k : Nat, k ≤ n ∧ i = .int .i64 k ∧ Below w.heap.size w wr ∧ (∀ o ∈ l.take k, o.data.length ≤ 400)) (fun i _ => n - (intOf i).toNat)
  case atStart => exact ⟨0, Nat.zero_le _, rfl, (by repeat' (with_reducible first | exact Below.refl _ _ | assumption | refine Below.setCell ?_ (by first | omega | (simp; done) | (simp; omega)) _ | refine Below.alloc ?_ (by first | omega | (simp; done) | (simp; omega)) _ | refine below_drewN' ?_ _ | refine Below.drew ?_)), by simp⟩
  case round =>
    obtain ⟨k, hk, rfl, hB, hall⟩ := hrel
    have hz := hB.size
    by_cases hkn : (k : Int) < n
    · obtain ⟨o, ho⟩ : ∃ o, l[k]? = some o := ⟨l[k]'(by omega), List.getElem?_eq_getElem (by omega)⟩
      have hh := h.below hB
      obtain ⟨ad, rfl, g0, g1, g2, g3⟩ := hh.at ho
      go_upto_if 14 with fail
      by_cases hd : (o.data.length : Int) > 400
      · go_wp2_with fail
        go_ret
        refine ⟨?_, (by repeat' (with_reducible first | exact Below.refl _ _ | assumption | refine Below.setCell ?_ (by first | omega | (simp; done) | (simp; omega)) _ | refine Below.alloc ?_ (by first | omega | (simp; done) | (simp; omega)) _ | refine below_drewN' ?_ _ | refine Below.drew ?_))⟩
        have : fitB l = false := by
          unfold fitB
          rw [List.all_eq_false.2 ⟨o, List.mem_of_getElem? ho, by simp; omega⟩]; rfl
        rw [this]; rfl
      · go_wp2_with fail
        go_roundw
        case rel =>
          refine ⟨k + 1, by omega, by simp, (by repeat' (with_reducible first | exact Below.refl _ _ | assumption | refine Below.setCell ?_ (by first | omega | (simp; done) | (simp; omega)) _ | refine Below.alloc ?_ (by first | omega | (simp; done) | (simp; omega)) _ | refine below_drewN' ?_ _ | refine Below.drew ?_)), ?_⟩
          rw [List.take_add_one, ho]
          intro o' ho'
          rcases List.mem_append.1 ho' with h1 | h1
          · exact hall o' h1
          · simp at h1; subst h1; omega
        case measure => simp [intOf]; omega
    · have : k = n := by omega
      subst this
      go_wp2_with fail
      go_ret
      refine ⟨?_, (by repeat' (with_reducible first | exact Below.refl _ _ | assumption | refine Below.setCell ?_ (by first | omega | (simp; done) | (simp; omega)) _ | refine Below.alloc ?_ (by first | omega | (simp; done) | (simp; omega)) _ | refine below_drewN' ?_ _ | refine Below.drew ?_))⟩
      have : fitB l = decide (l.length ≤ 100) := by
        unfold fitB
        rw [List.all_eq_true.2 (fun o ho => by simpa using hall o (by rw [List.take_of_length_le (by omega)]; exact ho)), Bool.true_and]
      rw [this]
      show Ending.returned (Value.bool (decide ((k : Int) ≤ 100))) = _
      congr 2; rw [decide_eq_decide]; omega
end Go.Proofs.Ytcioklhpbmjeeaa
