/- WheelMoved: the plain law. -/
import Derived.Test.YtbkekpecfgmelaaWlv
namespace Go.Proofs.Ytbkekpecfgmelaa
open Go.RowKit
set_option linter.unusedVariables false
set_option linter.unusedSimpArgs false
def sh1 (d : Int) (t : Tmr) : Tmr := ⟨t.id, t.at_ + d⟩
def sh (d : Int) (l : List Tmr) : List Tmr := l.map (sh1 d)
theorem sh_len (d : Int) (l : List Tmr) : (sh d l).length = l.length := by simp [sh]
theorem wout_sh (d : Int) (l : List Tmr) (b : Int) : wout (sh d l) b = sh d (wout l b) := by
  unfold wout sh
  rw [List.filter_map]; rfl
theorem insGo_sh (d : Int) (l : List Tmr) (a : Int) : ∀ i : Nat, i ≤ l.length → insGo (sh d l) (a + d) i = insGo l a i
  | 0, _ => rfl
  | i + 1, h => by
    have ih := insGo_sh d l a i (by omega)
    have e : ((sh d l).getD i ⟨0, 0⟩).at_ = (l.getD i ⟨0, 0⟩).at_ + d := by
      rw [getD_lt _ _ (show i < (sh d l).length by rw [sh_len]; omega), getD_lt _ _ (show i < l.length by omega)]
      simp [sh, sh1]
    unfold insGo
    rw [e, ih]
    by_cases q : a < (l.getD i ⟨0, 0⟩).at_
    · rw [if_pos q, if_pos (by omega)]
    · rw [if_neg q, if_neg (by omega)]
theorem ins_sh (d : Int) (l : List Tmr) (b a : Int) : ins (sh d l) ⟨b, a + d⟩ = sh d (ins l ⟨b, a⟩) := by
  unfold ins insPos
  dsimp only
  rw [sh_len, insGo_sh d l a _ (Nat.le_refl _)]
  simp [sh, List.map_take, List.map_drop, sh1]
theorem wset_sh (now d : Int) (l : List Tmr) (b after : Int) : wset (now + d) (sh d l) b after = (sh d (wset now l b after).1, (wset now l b after).2) := by
  unfold wset
  rw [wout_sh, sh_len]
  by_cases h1 : 4611686018427387904 < after
  · simp only [if_pos h1]
  · simp only [if_neg h1]
    by_cases h2 : 64 ≤ (wout l b).length
    · simp only [if_pos h2]
    · simp only [if_neg h2]
      rw [← ins_sh, show now + d + max after 1 = now + max after 1 + d by omega]
theorem tickK_sh (now d : Int) (l : List Tmr) : tickK (now + d) (sh d l) = tickK now l := by
  unfold tickK sh
  rw [List.takeWhile_map, List.length_map]
  congr 2
  funext x
  simp only [Function.comp, sh1]
  congr 1
  apply propext; omega
theorem idv_sh (d : Int) (l : List Tmr) : (sh d l).map idv = l.map idv := by
  unfold sh
  rw [List.map_map]; rfl
theorem take_sh (d : Int) (l : List Tmr) (n : Nat) : (sh d l).take n = sh d (l.take n) := by simp [sh, List.map_take]
theorem drop_sh (d : Int) (l : List Tmr) (n : Nat) : (sh d l).drop n = sh d (l.drop n) := by simp [sh, List.map_drop]
theorem mem_ins {l : List Tmr} {t x : Tmr} (h : x ∈ ins l t) : x = t ∨ x ∈ l := by
  unfold ins at h
  simp only [List.mem_append, List.mem_cons] at h
  rcases h with h | h | h
  · exact .inr (List.mem_of_mem_take h)
  · exact .inl h
  · exact .inr (List.mem_of_mem_drop h)
theorem ins_len (l : List Tmr) (t : Tmr) : (ins l t).length = l.length + 1 := by
  have := insGo_le l t.at_ l.length
  unfold ins insPos; simp; omega
structure MW where
  now : Int
  l : List Tmr
structure MW.Ok (x : MW) (n : Nat) : Prop where
  n0 : 0 ≤ x.now ∧ x.now ≤ n
  l0 : x.l.length ≤ n
  b : ∀ t ∈ x.l, 0 ≤ t.at_ ∧ t.at_ ≤ 4611686018427387904 + n
theorem MW.Ok.set {x : MW} {n : Nat} (h : x.Ok n) (b after : Int) (ha : 0 ≤ after) : (⟨x.now, (wset x.now x.l b after).1⟩ : MW).Ok (n + 1) := by
  have h1 := h.n0; have h2 := h.l0
  refine ⟨by dsimp only; omega, ?_, fun t ht => ?_⟩
  · dsimp only
    unfold wset
    split
    · dsimp only; omega
    split
    · dsimp only; omega
    · have := wout_len x.l b
      dsimp only; rw [ins_len]; omega
  · dsimp only at ht
    unfold wset at ht
    split at ht
    · have := h.b t ht; omega
    split at ht
    · have := h.b t ht; omega
    · rcases mem_ins ht with rfl | ht
      · dsimp only; omega
      · have := h.b t (List.mem_filter.1 ht).1; omega
theorem MW.Ok.stop {x : MW} {n : Nat} (h : x.Ok n) (b : Int) : (⟨x.now, wout x.l b⟩ : MW).Ok (n + 1) := by
  have h1 := h.n0; have h2 := h.l0; have := wout_len x.l b
  exact ⟨by dsimp only; omega, by dsimp only; omega, fun t ht => by have := h.b t (List.mem_filter.1 ht).1; omega⟩
theorem MW.Ok.tick {x : MW} {n : Nat} (h : x.Ok n) (k : Nat) : (⟨x.now + 1, x.l.drop k⟩ : MW).Ok (n + 1) := by
  have h1 := h.n0; have h2 := h.l0
  exact ⟨by dsimp only; omega, by simp; omega, fun t ht => by have := h.b t (List.mem_of_mem_drop ht); omega⟩
structure WOp where
  k : Int
  id : Int
  af : Int
def opW (o : WOp) : AV := .agg [.int .i64 o.k, .int .i64 o.id, .int .u64 o.af]
theorem opW_at (l : List WOp) (i : Nat) (h : i < l.length) {j : Nat} (hj : j = i) : (l.map opW)[j]?.getD .any = .agg [.int .i64 l[i].k, .int .i64 l[i].id, .int .u64 l[i].af] := at_map opW l i _ (List.getElem?_eq_getElem h) hj
theorem idv_at (l : List Tmr) (i : Nat) (h : i < l.length) {j : Nat} (hj : j = i) : (l.map idv)[j]?.getD .any = .int .i64 l[i].id := at_map idv l i _ (List.getElem?_eq_getElem h) hj
theorem sh_at (d : Int) (l : List Tmr) (i : Nat) (h : i < l.length) {j : Nat} (hj : j = i) : ((sh d l).map tmr)[j]?.getD .any = .agg [.int .i64 l[i].id, .int .u64 (l[i].at_ + d)] := by
  have := tl_at (sh d l) i (by rw [sh_len]; exact h) hj
  simpa [sh, sh1] using this
theorem wops_arg {w : World} {r : Reach} {b0 base : Nat} {H : Type} {enc : TypeId × Value → H} {spare : Nat → Bool} {held : Bool} {v : Value} {d : DataW H} {p : List MemPlace} (hv : Value.okWide Try.prog w r b0 22 v) (k : DataW.Trod enc Try.prog w base spare held 22 v d p) :
    ∃ l : List WOp, Rep0 (fun x => x < w.heap.size) w v (.sl false 3 (l.map opW)) ∧ l.length ≤ maxLen ∧ ∀ o ∈ l, 0 ≤ o.af ∧ o.af ≤ 18446744073709551615 := by
  obtain ⟨av, hr, hf⟩ := arg_sl (n := 5) (ts := [.int .i64, .int .i64, .int .u64]) Try.underlying22 (by kernel_rfl) hv k
  obtain ⟨l, rfl, hq, hl⟩ := hf.rows (fun o : WOp => [.int .i64 o.k, .int .i64 o.id, .int .u64 o.af]) (fun o => 0 ≤ o.af ∧ o.af ≤ 18446744073709551615) (by decide) (fun cs h => by
    obtain ⟨a, cs, rfl, h1, h⟩ := h.inv
    obtain ⟨b, cs, rfl, h2, h⟩ := h.inv
    obtain ⟨c, cs, rfl, h3, h⟩ := h.inv
    cases h.inv0
    obtain ⟨z, rfl, _⟩ := h1.int_inv
    obtain ⟨g, rfl, _⟩ := h2.int_inv
    obtain ⟨f, rfl, hw⟩ := h3.int_inv
    exact ⟨⟨z, g, f⟩, rfl, bounds_u64 hw⟩)
  exact ⟨l, hr, hl, hq⟩
end Go.Proofs.Ytbkekpecfgmelaa
