/- What wheel.Right tells. -/
import Derived.Test.YtbkekpecfgmelaaWs1
namespace Go.Proofs.Ytbkekpecfgmelaa
open Go.RowKit
set_option linter.unusedVariables false
set_option linter.unusedSimpArgs false
set_option maxRecDepth 100000
set_option maxHeartbeats 4000000
end Go.Proofs.Ytbkekpecfgmelaa

namespace Go.Proofs.Ytbkekpecfgmelaa
open Go.RowKit
set_option linter.unusedVariables false
set_option linter.unusedSimpArgs false
set_option maxRecDepth 100000
set_option maxHeartbeats 4000000
theorem len_le {n : Nat} (h : n ≤ maxLen) : (n : Int) ≤ 9223372036854775807 := by
  have h2 : (maxLen : Int) ≤ 9223372036854775807 := by decide
  omega
theorem lives_ok : ACall Try.prog 7 [] (.bool true) [] := by
  have c1 := wSet_ok 0 (by omega) [] (by decide) 1 2 (by omega)
  have c2 := wSet_ok 0 (by omega) [⟨1, 2⟩] (by decide) 2 1 (by omega)
  have c3 := wSet_ok 0 (by omega) [⟨2, 1⟩, ⟨1, 2⟩] (by decide) 3 2 (by omega)
  have c4 := wTick_ok 0 (by omega) [⟨2, 1⟩, ⟨1, 2⟩, ⟨3, 2⟩] (by decide)
  have c5 := wTick_ok 1 (by omega) [⟨1, 2⟩, ⟨3, 2⟩] (by decide)
  rw [show wset 0 [] 1 2 = ([⟨1, 2⟩], 0) from rfl] at c1
  rw [show wset 0 [⟨1, 2⟩] 2 1 = ([⟨2, 1⟩, ⟨1, 2⟩], 0) from rfl] at c2
  rw [show wset 0 [⟨2, 1⟩, ⟨1, 2⟩] 3 2 = ([⟨2, 1⟩, ⟨1, 2⟩, ⟨3, 2⟩], 0) from rfl] at c3
  rw [show tickK (0 + 1) [⟨2, 1⟩, ⟨1, 2⟩, ⟨3, 2⟩] = 1 from rfl] at c4
  rw [show tickK (1 + 1) [⟨1, 2⟩, ⟨3, 2⟩] = 2 from rfl] at c5
  simp only [wv, tmr, idv, List.map, List.drop, List.take] at c1 c2 c3 c4 c5
  refine acall_walk (N := 71) Try.func7 (by kernel_rfl) p_caravellaw16_lives rfl ?_; unfold c_caravellaw16_lives; dsimp only [enum, Nat.reduceAdd]
  (repeat (first | ((with_reducible show RG _ _ (_ :: _) _ _ _); refine RG.go1 (k := ?_)) | ((with_reducible show DG _ _ (_ :: _) _ _ _ _ _); refine DG.go1 (k := ?_)) | (with_reducible first | apply RG.nil | apply W.seq | apply W.reg | apply W.skip | apply W.block | apply W.drw | apply DG.nil | refine W.done (QB.n ?_))))
  (first | ((with_reducible show RG _ _ (_ :: _) _ _ _); refine RG.ca (c1) (k := ?_)) | ((with_reducible show DG _ _ (_ :: _) _ _ _ _ _); refine DG.ca (c1) (k := ?_)))
  (repeat (first | ((with_reducible show RG _ _ (_ :: _) _ _ _); refine RG.go1 (k := ?_)) | ((with_reducible show DG _ _ (_ :: _) _ _ _ _ _); refine DG.go1 (k := ?_)) | (with_reducible first | apply RG.nil | apply W.seq | apply W.reg | apply W.skip | apply W.block | apply W.drw | apply DG.nil | refine W.done (QB.n ?_))))
  (first | ((with_reducible show RG _ _ (_ :: _) _ _ _); refine RG.ca (c2) (k := ?_)) | ((with_reducible show DG _ _ (_ :: _) _ _ _ _ _); refine DG.ca (c2) (k := ?_)))
  (repeat (first | ((with_reducible show RG _ _ (_ :: _) _ _ _); refine RG.go1 (k := ?_)) | ((with_reducible show DG _ _ (_ :: _) _ _ _ _ _); refine DG.go1 (k := ?_)) | (with_reducible first | apply RG.nil | apply W.seq | apply W.reg | apply W.skip | apply W.block | apply W.drw | apply DG.nil | refine W.done (QB.n ?_))))
  (first | ((with_reducible show RG _ _ (_ :: _) _ _ _); refine RG.ca (c3) (k := ?_)) | ((with_reducible show DG _ _ (_ :: _) _ _ _ _ _); refine DG.ca (c3) (k := ?_)))
  (repeat (first | ((with_reducible show RG _ _ (_ :: _) _ _ _); refine RG.go1 (k := ?_)) | ((with_reducible show DG _ _ (_ :: _) _ _ _ _ _); refine DG.go1 (k := ?_)) | (with_reducible first | apply RG.nil | apply W.seq | apply W.reg | apply W.skip | apply W.block | apply W.drw | apply DG.nil | refine W.done (QB.n ?_))))
  (first | ((with_reducible show RG _ _ (_ :: _) _ _ _); refine RG.ca (c4) (k := ?_)) | ((with_reducible show DG _ _ (_ :: _) _ _ _ _ _); refine DG.ca (c4) (k := ?_)))
  (repeat (first | ((with_reducible show RG _ _ (_ :: _) _ _ _); refine RG.go1 (k := ?_)) | ((with_reducible show DG _ _ (_ :: _) _ _ _ _ _); refine DG.go1 (k := ?_)) | (with_reducible first | apply RG.nil | apply W.seq | apply W.reg | apply W.skip | apply W.block | apply W.drw | apply DG.nil | refine W.done (QB.n ?_))))
  (first | ((with_reducible show RG _ _ (_ :: _) _ _ _); refine RG.ca (c5) (k := ?_)) | ((with_reducible show DG _ _ (_ :: _) _ _ _ _ _); refine DG.ca (c5) (k := ?_)))
  (repeat (first | ((with_reducible show RG _ _ (_ :: _) _ _ _); refine RG.go1 (k := ?_)) | ((with_reducible show DG _ _ (_ :: _) _ _ _ _ _); refine DG.go1 (k := ?_)) | (with_reducible first | apply RG.nil | apply W.seq | apply W.reg | apply W.skip | apply W.block | apply W.drw | apply DG.nil | refine W.done (QB.n ?_))))
  (first | ((with_reducible show RG _ _ (_ :: _) _ _ _); refine RG.ewg (cptr_of ((show [AV.int IntKind.i64 2][(0 : Int).toNat]?.getD .any = .int .i64 2 from rfl)) (by (conv => lhs; whnf) <;> exact rfl)) (k := ?_)) | ((with_reducible show DG _ _ (_ :: _) _ _ _ _ _); refine DG.ewg (cptr_of ((show [AV.int IntKind.i64 2][(0 : Int).toNat]?.getD .any = .int .i64 2 from rfl)) (by (conv => lhs; whnf) <;> exact rfl)) (k := ?_)))
  (repeat (first | ((with_reducible show RG _ _ (_ :: _) _ _ _); refine RG.go1 (k := ?_)) | ((with_reducible show DG _ _ (_ :: _) _ _ _ _ _); refine DG.go1 (k := ?_)) | (with_reducible first | apply RG.nil | apply W.seq | apply W.reg | apply W.skip | apply W.block | apply W.drw | apply DG.nil | refine W.done (QB.n ?_))))
  (first | ((with_reducible show RG _ _ (_ :: _) _ _ _); refine RG.ewg (cptr_of ((show [AV.int IntKind.i64 1, AV.int IntKind.i64 3][(0 : Int).toNat]?.getD .any = .int .i64 1 from rfl)) (by (conv => lhs; whnf) <;> exact rfl)) (k := ?_)) | ((with_reducible show DG _ _ (_ :: _) _ _ _ _ _); refine DG.ewg (cptr_of ((show [AV.int IntKind.i64 1, AV.int IntKind.i64 3][(0 : Int).toNat]?.getD .any = .int .i64 1 from rfl)) (by (conv => lhs; whnf) <;> exact rfl)) (k := ?_)))
  (repeat (first | ((with_reducible show RG _ _ (_ :: _) _ _ _); refine RG.go1 (k := ?_)) | ((with_reducible show DG _ _ (_ :: _) _ _ _ _ _); refine DG.go1 (k := ?_)) | (with_reducible first | apply RG.nil | apply W.seq | apply W.reg | apply W.skip | apply W.block | apply W.drw | apply DG.nil | refine W.done (QB.n ?_))))
  (first | ((with_reducible show RG _ _ (_ :: _) _ _ _); refine RG.ewg (cptr_of ((show [AV.int IntKind.i64 1, AV.int IntKind.i64 3][(1 : Int).toNat]?.getD .any = .int .i64 3 from rfl)) (by (conv => lhs; whnf) <;> exact rfl)) (k := ?_)) | ((with_reducible show DG _ _ (_ :: _) _ _ _ _ _); refine DG.ewg (cptr_of ((show [AV.int IntKind.i64 1, AV.int IntKind.i64 3][(1 : Int).toNat]?.getD .any = .int .i64 3 from rfl)) (by (conv => lhs; whnf) <;> exact rfl)) (k := ?_)))
  (repeat (first | ((with_reducible show RG _ _ (_ :: _) _ _ _); refine RG.go1 (k := ?_)) | ((with_reducible show DG _ _ (_ :: _) _ _ _ _ _); refine DG.go1 (k := ?_)) | (with_reducible first | apply RG.nil | apply W.seq | apply W.reg | apply W.skip | apply W.block | apply W.drw | apply DG.nil | refine W.done (QB.n ?_))))
  (refine W.ret ?_; (repeat (with_reducible first | refine QB.r ?_ | refine QL.r ?_ | refine QC.r ?_)); refine QF.r ?_)
  exact RetOk.rs (vs := [_]) r_caravellaw16_lives []
end Go.Proofs.Ytbkekpecfgmelaa

namespace Go.Proofs.Ytbkekpecfgmelaa
open Go.RowKit
set_option linter.unusedVariables false
set_option linter.unusedSimpArgs false
theorem mem_ins {l : List Tmr} {t x : Tmr} (h : x ∈ ins l t) : x = t ∨ x ∈ l := by
  unfold ins at h
  simp only [List.mem_append, List.mem_cons] at h
  rcases h with h | h | h
  · exact .inr (List.mem_of_mem_take h)
  · exact .inl h
  · exact .inr (List.mem_of_mem_drop h)
theorem ins_len (l : List Tmr) (t : Tmr) : (ins l t).length = l.length + 1 := by
  have := insGo_le l t.at_ l.length
  unfold ins insPos; simp; omega
structure MW where
  now : Int
  l : List Tmr
structure MW.Ok (x : MW) (n : Nat) : Prop where
  n0 : 0 ≤ x.now ∧ x.now ≤ n
  l0 : x.l.length ≤ n
  b : ∀ t ∈ x.l, 0 ≤ t.at_ ∧ t.at_ ≤ 4611686018427387904 + n
theorem MW.Ok.set {x : MW} {n : Nat} (h : x.Ok n) (b after : Int) (ha : 0 ≤ after) : (⟨x.now, (wset x.now x.l b after).1⟩ : MW).Ok (n + 1) := by
  have h1 := h.n0; have h2 := h.l0
  refine ⟨by dsimp only; omega, ?_, fun t ht => ?_⟩
  · dsimp only
    unfold wset
    split
    · dsimp only; omega
    split
    · dsimp only; omega
    · have := wout_len x.l b
      dsimp only; rw [ins_len]; omega
  · dsimp only at ht
    unfold wset at ht
    split at ht
    · have := h.b t ht; omega
    split at ht
    · have := h.b t ht; omega
    · rcases mem_ins ht with rfl | ht
      · dsimp only; omega
      · have := h.b t (List.mem_filter.1 ht).1; omega
theorem MW.Ok.stop {x : MW} {n : Nat} (h : x.Ok n) (b : Int) : (⟨x.now, wout x.l b⟩ : MW).Ok (n + 1) := by
  have h1 := h.n0; have h2 := h.l0; have := wout_len x.l b
  exact ⟨by dsimp only; omega, by dsimp only; omega, fun t ht => by have := h.b t (List.mem_filter.1 ht).1; omega⟩
theorem MW.Ok.tick {x : MW} {n : Nat} (h : x.Ok n) (k : Nat) : (⟨x.now + 1, x.l.drop k⟩ : MW).Ok (n + 1) := by
  have h1 := h.n0; have h2 := h.l0
  exact ⟨by dsimp only; omega, by simp; omega, fun t ht => by have := h.b t (List.mem_of_mem_drop ht); omega⟩
structure WOp where
  k : Int
  id : Int
  af : Int
def opW (o : WOp) : AV := .agg [.int .i64 o.k, .int .i64 o.id, .int .u64 o.af]
theorem opW_at (l : List WOp) (i : Nat) (h : i < l.length) {j : Nat} (hj : j = i) : (l.map opW)[j]?.getD .any = .agg [.int .i64 l[i].k, .int .i64 l[i].id, .int .u64 l[i].af] := at_map opW l i _ (List.getElem?_eq_getElem h) hj
theorem wops_arg {w : World} {r : Reach} {b0 base : Nat} {H : Type} {enc : TypeId × Value → H} {spare : Nat → Bool} {held : Bool} {v : Value} {d : DataW H} {p : List MemPlace} (hv : Value.okWide Try.prog w r b0 22 v) (k : DataW.Trod enc Try.prog w base spare held 22 v d p) :
    ∃ l : List WOp, Rep0 (fun x => x < w.heap.size) w v (.sl false 3 (l.map opW)) ∧ l.length ≤ maxLen ∧ ∀ o ∈ l, 0 ≤ o.af ∧ o.af ≤ 18446744073709551615 := by
  obtain ⟨av, hr, hf⟩ := arg_sl (n := 5) (ts := [.int .i64, .int .i64, .int .u64]) Try.underlying22 (by kernel_rfl) hv k
  obtain ⟨l, rfl, hq, hl⟩ := hf.rows (fun o : WOp => [.int .i64 o.k, .int .i64 o.id, .int .u64 o.af]) (fun o => 0 ≤ o.af ∧ o.af ≤ 18446744073709551615) (by decide) (fun cs h => by
    obtain ⟨a, cs, rfl, h1, h⟩ := h.inv
    obtain ⟨b, cs, rfl, h2, h⟩ := h.inv
    obtain ⟨c, cs, rfl, h3, h⟩ := h.inv
    cases h.inv0
    obtain ⟨z, rfl, _⟩ := h1.int_inv
    obtain ⟨g, rfl, _⟩ := h2.int_inv
    obtain ⟨f, rfl, hw⟩ := h3.int_inv
    exact ⟨⟨z, g, f⟩, rfl, bounds_u64 hw⟩)
  exact ⟨l, hr, hl, hq⟩
end Go.Proofs.Ytbkekpecfgmelaa

namespace Go.Proofs.Ytbkekpecfgmelaa
open Go.RowKit
set_option linter.unusedVariables false
set_option linter.unusedSimpArgs false
set_option maxRecDepth 100000
set_option maxHeartbeats 4000000
def rset (now : Int) (s : List Tmr) (b after : Int) : List Tmr × Int :=
  if 4611686018427387904 < after then (s, 1) else if 64 ≤ (wout s b).length then (s, 5) else (wout s b ++ [⟨b, now + max after 1⟩], 0)
def rrest (now : Int) (s : List Tmr) : List Tmr := s.filter fun x => !decide (x.at_ = now)
end Go.Proofs.Ytbkekpecfgmelaa

namespace Go.Proofs.Ytbkekpecfgmelaa
open Go.RowKit
set_option linter.unusedVariables false
set_option linter.unusedSimpArgs false
set_option maxRecDepth 100000
set_option maxHeartbeats 4000000
end Go.Proofs.Ytbkekpecfgmelaa

namespace Go.Proofs.Ytbkekpecfgmelaa
open Go.RowKit
set_option linter.unusedVariables false
set_option linter.unusedSimpArgs false
set_option maxRecDepth 100000
set_option maxHeartbeats 4000000
structure WrI where
  i : Nat
  b : Bool
end Go.Proofs.Ytbkekpecfgmelaa

namespace Go.Proofs.Ytbkekpecfgmelaa
open Go.RowKit
set_option linter.unusedVariables false
set_option linter.unusedSimpArgs false
def Srt (l : List Tmr) : Prop := l.Pairwise fun a b => a.at_ ≤ b.at_
theorem insGo_spec (l : List Tmr) (a : Int) : ∀ i : Nat, i ≤ l.length →
    (∀ (k : Nat) (h : k < l.length), insGo l a i ≤ k → k < i → a < l[k].at_) ∧ (0 < insGo l a i → ∃ h : insGo l a i - 1 < l.length, (l[insGo l a i - 1]'h).at_ ≤ a)
  | 0, _ => ⟨fun k h _ q => absurd q (Nat.not_lt_zero _), fun h => absurd h (Nat.not_lt_zero _)⟩
  | i + 1, h => by
    obtain ⟨h1, h2⟩ := insGo_spec l a i (by omega)
    have hg : l.getD i ⟨0, 0⟩ = l[i] := getD_lt l _ (by omega)
    have e : insGo l a (i + 1) = if a < l[i].at_ then insGo l a i else i + 1 := by
      conv => lhs; unfold insGo
      rw [hg]
    by_cases q : a < l[i].at_
    · rw [if_pos q] at e
      rw [e]
      refine ⟨fun k hk q1 q2 => ?_, h2⟩
      rcases Nat.lt_or_ge k i with q3 | q3
      · exact h1 k hk q1 q3
      · obtain rfl : k = i := by omega
        exact q
    · rw [if_neg q] at e
      rw [e]
      refine ⟨fun k hk q1 q2 => by omega, fun _ => ⟨by omega, ?_⟩⟩
      simp only [Nat.add_sub_cancel]
      omega
theorem cut_at {l : List Tmr} (hl : Srt l) (a : Int) : (∀ x ∈ l.take (insPos l a), x.at_ ≤ a) ∧ ∀ x ∈ l.drop (insPos l a), a < x.at_ := by
  obtain ⟨h1, h2⟩ := insGo_spec l a l.length (Nat.le_refl _)
  have hp : insGo l a l.length = insPos l a := rfl
  rw [hp] at h1
  have hs := List.pairwise_iff_getElem.1 hl
  constructor
  · intro x hx
    obtain ⟨k, hk, rfl⟩ := List.mem_take_iff_getElem.1 hx
    have hk1 : k < insPos l a := by omega
    obtain ⟨h3, h4⟩ := h2 (by rw [hp]; omega)
    simp only [hp] at h3 h4
    rcases Nat.lt_or_ge k (insPos l a - 1) with q | q
    · exact Int.le_trans (hs k _ (by omega) h3 q) h4
    · have e : k = insPos l a - 1 := by omega
      subst e; exact h4
  · intro x hx
    obtain ⟨k, hk, rfl⟩ := List.mem_drop_iff_getElem.1 hx
    exact h1 _ (by omega) (by omega) (by omega)
theorem le_part {l : List Tmr} (hl : Srt l) (a : Int) : l.filter (fun x => decide (x.at_ ≤ a)) = l.take (insPos l a) := by
  obtain ⟨h1, h2⟩ := cut_at hl a
  conv => lhs; rw [← List.take_append_drop (insPos l a) l]
  rw [List.filter_append, List.filter_eq_self.2 (fun x hx => by simpa using h1 x hx), List.filter_eq_nil_iff.2 (fun x hx => by have := h2 x hx; simp; omega), List.append_nil]
theorem gt_part {l : List Tmr} (hl : Srt l) (a : Int) : l.filter (fun x => decide (a < x.at_)) = l.drop (insPos l a) := by
  obtain ⟨h1, h2⟩ := cut_at hl a
  conv => lhs; rw [← List.take_append_drop (insPos l a) l]
  rw [List.filter_append, List.filter_eq_nil_iff.2 (fun x hx => by have := h1 x hx; simp; omega), List.filter_eq_self.2 (fun x hx => by simpa using h2 x hx), List.nil_append]
theorem ins_eq {l : List Tmr} (hl : Srt l) (t : Tmr) : ins l t = l.filter (fun x => decide (x.at_ ≤ t.at_)) ++ t :: l.filter (fun x => decide (t.at_ < x.at_)) := by
  rw [le_part hl, gt_part hl]; rfl
theorem ins_srt {l : List Tmr} (hl : Srt l) (t : Tmr) : Srt (ins l t) := by
  rw [ins_eq hl]
  unfold Srt
  rw [List.pairwise_append, List.pairwise_cons]
  refine ⟨List.Pairwise.filter _ hl, ⟨fun x hx => ?_, List.Pairwise.filter _ hl⟩, fun x hx y hy => ?_⟩
  · have := (List.mem_filter.1 hx).2; simp at this; omega
  · have h1 := (List.mem_filter.1 hx).2
    simp at h1
    rcases List.mem_cons.1 hy with rfl | hy
    · exact h1
    · have h2 := (List.mem_filter.1 hy).2
      simp at h2; omega
theorem mem_ins' {l : List Tmr} {t x : Tmr} : x ∈ ins l t ↔ x = t ∨ x ∈ l := by
  refine ⟨mem_ins, fun h => ?_⟩
  unfold ins
  rcases h with rfl | h
  · simp
  · rw [← List.take_append_drop (insPos l t.at_) l] at h
    rcases List.mem_append.1 h with h | h
    · exact List.mem_append_left _ h
    · exact List.mem_append_right _ (List.mem_cons_of_mem _ h)
def Dif (l : List Tmr) : Prop := l.Pairwise fun a b => a.id ≠ b.id
theorem ins_dif {l : List Tmr} {t : Tmr} (hl : Dif l) (h : ∀ x ∈ l, x.id ≠ t.id) : Dif (ins l t) := by
  unfold Dif at hl ⊢
  unfold ins
  rw [← List.take_append_drop (insPos l t.at_) l, List.pairwise_append] at hl
  rw [List.pairwise_append, List.pairwise_cons]
  refine ⟨hl.1, ⟨fun x hx => Ne.symm (h x (List.mem_of_mem_drop hx)), hl.2.1⟩, fun x hx y hy => ?_⟩
  rcases List.mem_cons.1 hy with rfl | hy
  · exact h x (List.mem_of_mem_take hx)
  · exact hl.2.2 x hx y hy
structure WOk (now : Int) (s : List Tmr) (n : Nat) : Prop where
  n0 : 0 ≤ now ∧ now ≤ 2305843009213693952 + n
  l0 : s.length ≤ 64
  b : ∀ t ∈ s, now < t.at_
  d : Dif s
theorem WOk.set {now : Int} {s : List Tmr} {n : Nat} (h : WOk now s n) (b after : Int) : WOk now (rset now s b after).1 (n + 1) := by
  have h1 := h.n0; have h2 := h.l0
  unfold rset
  split
  · exact ⟨by omega, h2, h.b, h.d⟩
  split
  · exact ⟨by omega, h2, h.b, h.d⟩
  · rename_i q
    refine ⟨by omega, by simp; omega, fun t ht => ?_, ?_⟩
    · rcases List.mem_append.1 ht with ht | ht
      · exact h.b t (List.mem_filter.1 ht).1
      · rw [List.mem_singleton.1 ht]; dsimp only; omega
    · unfold Dif
      rw [List.pairwise_append]
      refine ⟨List.Pairwise.filter _ h.d, List.pairwise_singleton _ _, fun x hx y hy => ?_⟩
      rw [List.mem_singleton.1 hy]
      have := (List.mem_filter.1 hx).2
      simpa using this
theorem WOk.stop {now : Int} {s : List Tmr} {n : Nat} (h : WOk now s n) (b : Int) : WOk now (wout s b) (n + 1) := by
  have h1 := h.n0; have h2 := h.l0; have := wout_len s b
  exact ⟨by omega, by omega, fun t ht => h.b t (List.mem_filter.1 ht).1, List.Pairwise.filter _ h.d⟩
theorem WOk.tick {now : Int} {s : List Tmr} {n : Nat} (h : WOk now s n) : WOk (now + 1) (rrest (now + 1) s) (n + 1) := by
  have h1 := h.n0; have h2 := h.l0
  have h3 : (rrest (now + 1) s).length ≤ s.length := List.length_filter_le _ _
  refine ⟨by omega, by omega, fun t ht => ?_, List.Pairwise.filter _ h.d⟩
  have h4 := h.b t (List.mem_filter.1 ht).1
  have h5 := (List.mem_filter.1 ht).2
  simp at h5; omega
end Go.Proofs.Ytbkekpecfgmelaa

namespace Go.Proofs.Ytbkekpecfgmelaa
open Go.RowKit
set_option linter.unusedVariables false
set_option linter.unusedSimpArgs false
set_option maxRecDepth 100000
set_option maxHeartbeats 4000000
theorem wStopF_ok (now : Int) (l : List Tmr) (hl : l.length ≤ 500000) (b : Int) : ACall Try.prog 8 [wv true now l, .int .i64 b] (.tup [wv false now (wout l b), .bool (decide ((wout l b).length < l.length))]) [] := by
  have cc := wClone_ok now l hl
  have cd := tlDel_ok l (by omega) 20 b (fun x => decide (x.id = b)) fun x _ => stop1_ok x b
  have el := tl_len l
  rw [show (l.filter fun x => !decide (x.id = b)) = wout l b from rfl] at cd
  have hol := wout_len l b
  generalize wout l b = m at *
  have hb : (decide ((m.length : Int) < (l.length : Int))) = decide (m.length < l.length) := by congr 1; apply propext; omega
  have elm := tl_len m
  unfold wv at cc ⊢
  refine acall_walk (N := 22) Try.func8 (by kernel_rfl) p_wheel_Stop rfl ?_; unfold c_wheel_Stop; dsimp only [enum, Nat.reduceAdd]
  (repeat (first | ((with_reducible show RG _ _ (_ :: _) _ _ _); refine RG.go1 (k := ?_)) | ((with_reducible show DG _ _ (_ :: _) _ _ _ _ _); refine DG.go1 (k := ?_)) | (with_reducible first | apply RG.nil | apply W.seq | apply W.reg | apply W.skip | apply W.block | apply W.drw | apply DG.nil | refine W.done (QB.n ?_))))
  (first | ((with_reducible show RG _ _ (_ :: _) _ _ _); refine RG.ca (cc) (k := ?_)) | ((with_reducible show DG _ _ (_ :: _) _ _ _ _ _); refine DG.ca (cc) (k := ?_)))
  (repeat (first | ((with_reducible show RG _ _ (_ :: _) _ _ _); refine RG.go1 (k := ?_)) | ((with_reducible show DG _ _ (_ :: _) _ _ _ _ _); refine DG.go1 (k := ?_)) | (with_reducible first | apply RG.nil | apply W.seq | apply W.reg | apply W.skip | apply W.block | apply W.drw | apply DG.nil | refine W.done (QB.n ?_))))
  (refine RG.mca ([]) ([0]) (cd) (k := ?_))
  (repeat (first | ((with_reducible show RG _ _ (_ :: _) _ _ _); refine RG.go1 (k := ?_)) | ((with_reducible show DG _ _ (_ :: _) _ _ _ _ _); refine DG.go1 (k := ?_)) | (with_reducible first | apply RG.nil | apply W.seq | apply W.reg | apply W.skip | apply W.block | apply W.drw | apply DG.nil | refine W.done (QB.n ?_))))
  (refine W.ret ?_; (repeat (with_reducible first | refine QB.r ?_ | refine QL.r ?_ | refine QC.r ?_)); refine QF.r ?_)
  rw [el, hb]
  (refine RetOk.wk (Wk.frz (b := 0) rfl rfl) ?_; refine RetOk.wk (Wk.box (b := 2) (cs' := [_, _]) rfl (by dsimp only [ClL]; (repeat' (first | exact True.intro | exact Cl.ice rfl rfl rfl (by first | assumption | decide | omega | (simp; (first | (all_goals fail) | fail)) | (simp <;> omega)) (by first | exact take_all _ | exact take_len (by first | (simp; (first | (all_goals fail) | fail)) | (simp <;> omega)) | exact rfl) | exact Cl.le (.refl _) | apply And.intro)); (first | (all_goals fail) | fail))) ?_; dsimp only [setO])
  exact RetOk.rs (vs := [_, _]) r_wheel_Stop []
end Go.Proofs.Ytbkekpecfgmelaa
