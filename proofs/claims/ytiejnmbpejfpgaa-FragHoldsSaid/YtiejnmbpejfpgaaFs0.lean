/- slices.Chunk at bytes: its value, and how that calls a yield. -/
import Derived.Test.YtiejnmbpejfpgaaAxF
import Derived.Test.YtiejnmbpejfpgaaCode
import Derived.Test.YtiejnmbpejfpgaaAxR
import Derived.RangeFuncNested
import Derived.RangeFuncBound
import Derived.RangeFuncCalls
import Derived.RangeFuncLeaves
import Derived.Shelf.Abstract
import Derived.Shelf.RegionOpen
import Derived.WalkKit
import Derived.OwnWalkIn
import Derived.TacticsInMore
import Derived.LoopNIn
import Derived.LoopIn
import Derived.Test.YtiejnmbpejfpgaaAxJ
namespace Go.Proofs.Ytiejnmbpejfpgaa
open Go.RowKit Go.Shelf
set_option linter.unusedVariables false
set_option linter.unusedSimpArgs false
attribute [local go_sem] Oper.semAt_some
set_option maxRecDepth 100000
set_option maxHeartbeats 2000000
theorem chunk_in (a : Option Addr) (len cap : Nat) (w : World) :
    CallsIn Fence.wide 1 Try.prog 14 #[.slice a len cap, .int .i64 176] w fun e w' => e = .returned (.func (.func 23) #[] #[.pointer (some ⟨w.heap.size, 0, none⟩), .pointer (some ⟨w.heap.size + 1, 0, none⟩)]) ∧ w' = (w.alloc (.cells #[.slice a len cap] 25)).alloc (.cells #[.int .i64 176] 3) := by
  refine callsIn_of_wp Try.func14 rfl trivial ?_ rfl
  simp only [Try.ntmps14, List.size_toArray, List.length_cons, List.length_nil, Nat.reduceAdd, Nat.reduceSub, Array.replicate_succ, Array.replicate_zero, List.push_toArray, List.append_toArray, List.nil_append, List.cons_append]
  gi_wp2
  go_ret
  exact ⟨rfl, rfl⟩
theorem chunk1_in (l b1 o1 b2 o2 : Nat) (b off len cap : Nat) (hlen : len ≤ 1000000) (hcap : len ≤ cap) (J : Nat → World → Prop)
    (hkeep : ∀ j W, J j W → W.cell? ⟨b1, o1, none⟩ = some (.slice (some ⟨b, off, none⟩) len cap) ∧ W.cell? ⟨b2, o2, none⟩ = some (.int .i64 176))
    (hdrew : ∀ j W, J j W → J j W.drew)
    (hY : ∀ (j : Nat) W, J j W → 176 * j < len → YieldAt Fence.wide 0 Try.prog l #[.slice (some ⟨b, off + 176 * j, none⟩) (min 176 (len - 176 * j)) (min 176 (len - 176 * j))] W fun e W' => e = .returned (.bool true) ∧ J (j + 1) W')
    (W : World) (h0 : J 0 W) :
    CallsIn Fence.wide 1 Try.prog 23 #[.func (.yield l) #[] #[], .pointer (some ⟨b1, o1, none⟩), .pointer (some ⟨b2, o2, none⟩)] W fun e W' => (∃ v, e = .returned v) ∧ J ((len + 175) / 176) W' := by
  refine callsIn_of_wp Try.func23 rfl trivial ?_ rfl
  simp only [Try.ntmps23, List.size_toArray, List.length_cons, List.length_nil, Nat.reduceAdd, Nat.reduceSub, Array.replicate_succ, Array.replicate_zero, List.push_toArray, List.append_toArray, List.nil_append, List.cons_append]
  gi_wp2
  gi_loopw [4] (fun i wr => ∃ k : Nat, (k = 0 ∨ 176 * (k - 1) < len) ∧ i = .int .i64 ((176 * k : Nat) : Int) ∧ J k wr)
    (fun i _ => len + 1000 - (intOf i).toNat)
  case atStart => exact ⟨0, .inl rfl, rfl, h0⟩
  case round =>
    obtain ⟨k, hk, rfl, hJs⟩ := hrel
    obtain ⟨hc1, hc2⟩ := hkeep k wr hJs
    by_cases hlt : 176 * k < len
    · obtain ⟨fn, tmps, assign, body, hy, hR⟩ := hY k wr.drew (hdrew k wr hJs) hlt
      have e1 : ((176 * k : Nat) : Int) < (len : Int) := by omega
      have hm : min (176 : Int) ((len : Int) - ((176 * k : Nat) : Int)) = ((min 176 (len - 176 * k) : Nat) : Int) := by omega
      gi_wp2
      gi_region
      all_goals gi_wp2
      · rename_i hle
        rw [show ((176 * (k : Int) + ((len - 176 * k : Nat) : Int)).toNat - 176 * k) = min 176 (len - 176 * k) by omega, hy]
        refine ⟨fun e => (by cases e), hR.mono ?_⟩
        rintro e W3 ⟨rfl, hJ3⟩
        obtain ⟨hc3, hc4⟩ := hkeep _ W3 hJ3
        gi_wp2
        go_roundw
        case rel => exact ⟨k + 1, .inr (by omega), by simp; omega, hJ3⟩
        case measure => simp [intOf]; omega
      · rename_i hle
        rw [show ((176 * (k : Int) + 176).toNat - 176 * k) = min 176 (len - 176 * k) by omega, hy]
        refine ⟨fun e => (by cases e), hR.mono ?_⟩
        rintro e W3 ⟨rfl, hJ3⟩
        obtain ⟨hc3, hc4⟩ := hkeep _ W3 hJ3
        gi_wp2
        go_roundw
        case rel => exact ⟨k + 1, .inr (by omega), by simp; omega, hJ3⟩
        case measure => simp [intOf]; omega
    · have hcnt : k = (len + 175) / 176 := by omega
      have e1 : ¬ ((176 * k : Nat) : Int) < (len : Int) := by omega
      gi_wp2
      go_end0
      exact ⟨⟨_, rfl⟩, by rw [← hcnt]; exact hJs⟩
theorem chunk1_zero (l b1 o1 b2 o2 : Nat) (a : Option Addr) (cap : Nat) (J : Nat → World → Prop)
    (hkeep : ∀ j W, J j W → W.cell? ⟨b1, o1, none⟩ = some (.slice a 0 cap) ∧ W.cell? ⟨b2, o2, none⟩ = some (.int .i64 176))
    (W : World) (h0 : J 0 W) :
    CallsIn Fence.wide 1 Try.prog 23 #[.func (.yield l) #[] #[], .pointer (some ⟨b1, o1, none⟩), .pointer (some ⟨b2, o2, none⟩)] W fun e W' => (∃ v, e = .returned v) ∧ J 0 W' := by
  refine callsIn_of_wp Try.func23 rfl trivial ?_ rfl
  simp only [Try.ntmps23, List.size_toArray, List.length_cons, List.length_nil, Nat.reduceAdd, Nat.reduceSub, Array.replicate_succ, Array.replicate_zero, List.push_toArray, List.append_toArray, List.nil_append, List.cons_append]
  gi_wp2
  gi_loopw [4] (fun i wr => i = .int .i64 0 ∧ J 0 wr) (fun _ _ => 0)
  case atStart => exact ⟨rfl, h0⟩
  case round =>
    obtain ⟨rfl, hJs⟩ := hrel
    obtain ⟨hc1, hc2⟩ := hkeep 0 wr hJs
    gi_wp2
    go_end0
    exact ⟨⟨_, rfl⟩, hJs⟩
theorem rep_sl_mk {ρ : Env} {B F : Nat → Prop} {w : World} {vol : Bool} {a : Option Addr} {n c k : Nat} {es : List AV} {f : Nat → Value} (hn : es.length = n) (hw : ∀ e ∈ es, e.cells.length = k) (hr : RowAt w (fun x => (vol = true ∧ B x) ∨ F x) a n c (n * k) f) (h : ∀ (i : Nat) (av : AV), (flat es)[i]? = some av → Rep0 F w (f i) av) : Rep ρ B F w (.slice a n c) (.sl vol k es) := by
  cases vol with
  | false => exact .pure _ _ (.sl a n c k es f hn hw (hr.mono (Agree.refl _ _) fun x hx => hx.elim (fun q => by cases q.1) id) h)
  | true => exact .vsl a n c k es f hn hw (hr.mono (Agree.refl _ _) fun x hx => hx.imp (·.2) id) h
theorem flat_w1 {es : List AV} (hw : ∀ e ∈ es, e.cells.length = 1) : (flat es).length = es.length ∧ ∀ (i : Nat) (e : AV), es[i]? = some e → (flat es)[i]?.map (fun x => [x]) = some e.cells := by
  induction es with
  | nil => exact ⟨rfl, fun i e h => by cases h⟩
  | cons x l ih =>
    obtain ⟨h1, h2⟩ := ih fun e he => hw e (List.mem_cons_of_mem _ he)
    have hx := hw x (List.mem_cons_self ..)
    obtain ⟨y, hy⟩ : ∃ y, x.cells = [y] := by
      match x.cells, hx with
      | [y], _ => exact ⟨y, rfl⟩
    have hf : flat (x :: l) = y :: flat l := by show x.cells ++ flat l = _; rw [hy]; rfl
    refine ⟨by rw [hf]; simp [h1], fun i e h => ?_⟩
    cases i with
    | zero => simp at h; subst h; rw [hf, hy]; rfl
    | succ i => rw [hf]; exact h2 i e (by simpa using h)
theorem flat_drop1 {es : List AV} (hw : ∀ e ∈ es, e.cells.length = 1) (m k : Nat) : flat ((es.drop m).take k) = ((flat es).drop m).take k := by
  induction es generalizing m k with
  | nil => simp [flat]
  | cons x l ih =>
    have hx := hw x (List.mem_cons_self ..)
    obtain ⟨y, hy⟩ : ∃ y, x.cells = [y] := by
      match x.cells, hx with
      | [y], _ => exact ⟨y, rfl⟩
    have hf : flat (x :: l) = y :: flat l := by show x.cells ++ flat l = _; rw [hy]; rfl
    have ih := fun m k => ih (fun e he => hw e (List.mem_cons_of_mem _ he)) m k
    cases m with
    | zero =>
      cases k with
      | zero => simp [flat]
      | succ k =>
        have h0 := ih 0 k
        simp only [List.drop_zero] at h0
        rw [hf]
        simp only [List.drop_zero, List.take_succ_cons]
        show x.cells ++ flat (l.take k) = _
        rw [hy, h0]; rfl
    | succ m => rw [hf]; simpa using ih m k
def chk (es : List AV) (j : Nat) : List AV := (es.drop (176 * j)).take 176
theorem chk_len (es : List AV) (j : Nat) : (chk es j).length = min 176 (es.length - 176 * j) := by simp [chk]
theorem chunk_iter (vol : Bool) (es : List AV) (hes : es.length ≤ 1000000) : IterA Try.prog (.fn 23 [.cptr false [.sl vol 1 es], .cptr false [.int .i64 176]]) ((es.length + 175) / 176) (fun j => .sl vol 1 (chk es j)) := by
  intro V F w v hv
  obtain ⟨cs, rfl, hl, hc⟩ := hv.fn_inv
  have hl : cs.size = 2 := hl
  have e0 : cs[0]? = some (cs[0]'(by omega)) := Array.getElem?_eq_getElem (by omega)
  have e1 : cs[1]? = some (cs[1]'(by omega)) := Array.getElem?_eq_getElem (by omega)
  obtain ⟨ad1, g1, p1, p2, p3, p4, p5⟩ := (hc 0 _ _ e0 rfl).cptr_inv
  obtain ⟨ad2, g2, q1, q2, q3, q4, q5⟩ := (hc 1 _ _ e1 rfl).cptr_inv
  have hcs : cs = #[.pointer (some ad1), .pointer (some ad2)] := by
    apply Array.ext
    · simp [hl]
    · intro i h1 h2
      simp at h2
      rcases i with _ | _ | i
      · exact p1
      · exact q1
      · omega
  obtain ⟨a, c, f, r1, r2, r3, r4⟩ := (p5 0 _ rfl).sl_inv
  have c1 := p4 0 (by simp)
  have c2 := q4 0 (by simp)
  rw [show ad1.add 0 = ad1 from rfl, r1] at c1
  rw [show ad2.add 0 = ad2 from rfl, (q5 0 _ rfl).int_inv] at c2
  obtain ⟨b1, o1, s1⟩ := ad1
  obtain ⟨b2, o2, s2⟩ := ad2
  dsimp only at p2 q2
  subst p2 q2
  have l1 : F b1 := p3.elim (fun q => by cases q.1) id
  have l2 : F b2 := q3.elim (fun q => by cases q.1) id
  have hkp : ∀ {J : Nat → World → Prop}, (∀ j W, J j W → Agree (fun x => V x ∨ F x) w W) → ∀ j W, J j W → W.cell? ⟨b1, o1, none⟩ = some (.slice a es.length c) ∧ W.cell? ⟨b2, o2, none⟩ = some (.int .i64 176) := fun {J} hJ j W h => by
    have ha := hJ j W h
    exact ⟨(World.cell?_of_block (w := w) (a := ⟨b1, o1, none⟩) (ha b1 (.inr l1))).trans c1, (World.cell?_of_block (w := w) (a := ⟨b2, o2, none⟩) (ha b2 (.inr l2))).trans c2⟩
  subst hcs
  refine ⟨_, _, fun j => .slice (a.map fun ad => ⟨ad.block, ad.off + 176 * j, none⟩) (min 176 (es.length - 176 * j)) (min 176 (es.length - 176 * j)), rfl, by kernel_rfl, fun j hj => ?_, fun l J hJ hdr hY W h0 => ?_⟩
  · have hlt : 176 * j < es.length := by omega
    have hcap := r3.cap
    have hmax := r3.max
    match a, r3 with
    | none, r3 => have := r3.nil rfl; omega
    | some ad, r3 =>
    have hsp : ad.spot = none := cell_spot (r3.cell ad rfl 0 (by omega))
    obtain ⟨b, off, sp⟩ := ad
    dsimp only at hsp
    subst hsp
    refine rep_sl_mk (f := fun i => f (176 * j + i)) (chk_len es j) (fun e he => r2 e (List.mem_of_mem_drop (List.mem_of_mem_take he))) ⟨Nat.le_refl _, by omega, fun e => (by cases e), fun ad e hm => ?_, fun ad e i hi => ?_⟩ fun i av hi => ?_
    · cases e
      exact r3.loc ⟨b, off, none⟩ rfl (by omega)
    · cases e
      have := r3.cell ⟨b, off, none⟩ rfl (176 * j + i) (by omega)
      rw [add_lit] at this ⊢
      rw [Nat.add_assoc]; exact this
    · unfold chk at hi
      rw [flat_drop1 r2, List.getElem?_take] at hi
      split at hi
      · rw [List.getElem?_drop] at hi
        exact r4 _ av hi
      · cases hi
  · refine (callsIn_wide (n := 0)).2 ((callsIn_wide (n := 1)).1 ?_)
    by_cases hz : es.length = 0
    · rw [hz] at hkp ⊢
      exact chunk1_zero l b1 o1 b2 o2 a c J (hkp hJ) W h0
    · have hcap := r3.cap
      have hk := hkp hJ
      clear hkp c1 p4 p5 r1
      cases a with
      | none => have := r3.nil rfl; omega
      | some ad =>
      have hsp : ad.spot = none := cell_spot (r3.cell ad rfl 0 (by omega))
      obtain ⟨b, off, sp⟩ := ad
      dsimp only at hsp
      subst hsp
      exact chunk1_in l b1 o1 b2 o2 b off es.length c hes hcap J hk hdr (fun j W hj hlt => hY j W (by omega) hj) W h0
theorem chunk_v (vol : Bool) (es : List AV) (hes : es.length ≤ 1000000) : VCall Try.prog 14 [.sl vol 1 es, .int .i64 176] (.fn 23 [.cptr false [.sl vol 1 es], .cptr false [.int .i64 176]]) := by
  refine ⟨by kernel_rfl, fun w V F vs hF hV hl hr => ?_⟩
  have hl : vs.size = 2 := hl
  have e0 : vs[0]? = some (vs[0]'(by omega)) := Array.getElem?_eq_getElem (by omega)
  have e1 : vs[1]? = some (vs[1]'(by omega)) := Array.getElem?_eq_getElem (by omega)
  have r0 := hr 0 _ _ e0 rfl
  have r1 := (hr 1 _ _ e1 rfl).int_inv
  obtain ⟨a, c, f, p1, p2, p3, p4⟩ := r0.sl_inv
  have hvs : vs = #[.slice a es.length c, .int .i64 176] := by
    apply Array.ext
    · simp [hl]
    · intro i h1 h2
      simp at h2
      rcases i with _ | _ | i
      · exact p1
      · exact r1
      · omega
  rw [p1] at r0
  subst hvs
  refine ((callsIn_wide (n := 1)).1 (chunk_in a es.length c w)).mono ?_
  rintro e w' ⟨rfl, rfl⟩
  have hb1 : Below w.heap.size w (w.alloc (.cells #[.slice a es.length c] 25)) := (Below.refl _ w).alloc (Nat.le_refl _) _
  have hbel : Below w.heap.size w ((w.alloc (.cells #[.slice a es.length c] 25)).alloc (.cells #[.int .i64 176] 3)) := hb1.alloc (by simp) _
  have hnew : ∀ (w : World) (v : Value) (T : TypeId), (w.alloc (.cells #[v] T)).cell? ⟨w.heap.size, 0, none⟩ = some v := fun w v T => by
    have := World.alloc_heap_new w (.cells #[v] T)
    unfold World.cell?
    rw [this]; rfl
  have hs1 := hnew w (.slice a es.length c) 25
  have hs2 := hnew (w.alloc (.cells #[.slice a es.length c] 25)) (.int .i64 176) 3
  rw [World.size_alloc] at hs2
  have hs1' : ((w.alloc (.cells #[.slice a es.length c] 25)).alloc (.cells #[.int .i64 176] 3)).cell? ⟨w.heap.size, 0, none⟩ = some (.slice a es.length c) :=
    (World.cell?_of_block (Go.RowKit.Below.heap_alloc _ _ _ (by simp))).trans hs1
  refine ⟨_, fun x => F x ∨ x = w.heap.size ∨ x = w.heap.size + 1, rfl, hbel, fun x hx => .inl hx, fun x hx => ?_, fun x hx => ?_, ?_⟩
  · rcases hx with hx | hx | hx
    · exact .inl hx
    · exact .inr (by omega)
    · exact .inr (by omega)
  · simp only [World.size_alloc]
    rcases hx with hx | hx | hx
    · have := hF x hx; omega
    · omega
    · omega
  · refine .fn _ _ _ rfl fun i u av k1 k2 => ?_
    match i, k1, k2 with
    | 0, k1, k2 =>
      simp at k1 k2
      subst k1 k2
      refine .cptr false _ _ (fun _ => .slice a es.length c) rfl (.inr (.inr (.inl rfl))) (fun i hi => ?_) fun i av hi => ?_
      · simp at hi; subst hi; exact hs1'
      · have : i = 0 := by have := (List.getElem?_eq_some_iff.1 hi).1; simpa using this
        subst this
        simp at hi
        subst hi
        exact r0.mono (Env.le_refl _) (fun x hx => hbel.block x (hx.elim (hV x) (hF x))) (fun _ hx => .inl hx) fun _ hx => .inl hx
    | 1, k1, k2 =>
      simp at k1 k2
      subst k1 k2
      refine .cptr false _ _ (fun _ => .int .i64 176) rfl (.inr (.inr (.inr rfl))) (fun i hi => ?_) fun i av hi => ?_
      · simp at hi; subst hi; exact hs2
      · have : i = 0 := by have := (List.getElem?_eq_some_iff.1 hi).1; simpa using this
        subst this
        simp at hi
        subst hi
        exact .pure _ _ (.int _ _)
    | i + 2, k1, k2 => simp at k1
end Go.Proofs.Ytiejnmbpejfpgaa

namespace Go.Proofs.Ytiejnmbpejfpgaa
open Go.RowKit
set_option linter.unusedVariables false
set_option linter.unusedSimpArgs false
set_option maxRecDepth 100000
set_option maxHeartbeats 4000000
theorem by8_len (l : List UInt8) : (l.map by8).length = l.length := by simp

theorem map_take_snoc {α β : Type} (f : α → β) (l : List α) (i : Nat) (h : i < l.length) : (l.take i).map f ++ [f l[i]] = (l.take (i + 1)).map f := by
  rw [List.take_succ_eq_append_getElem h, List.map_append]; rfl
theorem keep_lt {α : Type} (p : α → Bool) : ∀ (l : List α) (j i : Nat) (h : i < l.length), i < j → p l[i] = false → ((l.take j).filter p).length < j
  | [], j, i, h, _, _ => absurd h (Nat.not_lt_zero _)
  | x :: l, 0, i, _, h, _ => absurd h (Nat.not_lt_zero _)
  | x :: l, j + 1, 0, _, _, hp => by
    have hp : p x = false := hp
    simp only [List.take_succ_cons, List.filter_cons, hp, Bool.false_eq_true, if_false]
    have := List.length_filter_le p (l.take j)
    have := List.length_take_le j l
    omega
  | x :: l, j + 1, i + 1, h, hij, hp => by
    have := keep_lt p l j i (by simpa using h) (by omega) (by simpa using hp)
    simp only [List.take_succ_cons, List.filter_cons]
    split
    · simp only [List.length_cons]; omega
    · omega
theorem keep_snoc {α : Type} (p : α → Bool) (l : List α) (j : Nat) (h : j < l.length) : (l.take (j + 1)).filter p = (l.take j).filter p ++ (if p l[j] then [l[j]] else []) := by
  rw [List.take_succ_eq_append_getElem h, List.filter_append]
  congr 1
  simp only [List.filter_cons, List.filter_nil]
theorem set_app {α : Type} (k : List α) (l : List α) (x : α) (h : k.length < l.length) : (k ++ l.drop k.length).set k.length x = (k ++ [x]) ++ l.drop (k.length + 1) := by
  rw [List.set_append_right _ _ (Nat.le_refl _), Nat.sub_self, List.drop_eq_getElem_cons h, List.set_cons_zero, List.append_assoc]
  rfl
theorem ybclone0 (es : List AV) (hp : es.all pureV = true) (hl : es.length ≤ 1000000) : ACall Try.prog 15 [.sl true 1 es] (.ref 0 1 0 es.length) [⟨false, 1, es⟩] := by
  by_cases hne : es = []
  · subst hne
    refine acall_empty 0 rfl ?_ (fun a c hc => ?_)
    · dsimp only [List.set]
      refine acall_walk (N := 8) Try.func15 (by kernel_rfl) p_slices_Clone__byte_byte rfl ?_; unfold c_slices_Clone__byte_byte; dsimp only [enum, Nat.reduceAdd]
      (repeat (first | ((with_reducible show RG _ _ (_ :: _) _ _ _); refine RG.go1 (k := ?_)) | ((with_reducible show DG _ _ (_ :: _) _ _ _ _ _); refine DG.go1 (k := ?_)) | (with_reducible first | apply RG.nil | apply W.seq | apply W.reg | apply W.skip | apply W.block | apply W.drw | apply DG.nil | refine W.done (QB.n ?_))))
      refine W.cndT ?_
      (repeat (first | ((with_reducible show RG _ _ (_ :: _) _ _ _); refine RG.go1 (k := ?_)) | ((with_reducible show DG _ _ (_ :: _) _ _ _ _ _); refine DG.go1 (k := ?_)) | (with_reducible first | apply RG.nil | apply W.seq | apply W.reg | apply W.skip | apply W.block | apply W.drw | apply DG.nil | refine W.done (QB.n ?_))))
      (refine W.ret ?_; (repeat (with_reducible first | refine QB.r ?_ | refine QL.r ?_ | refine QC.r ?_)); refine QF.r ?_)
      refine RetOk.wk (Wk.nilT (t := 2) 1 rfl) ?_
      exact RetOk.rs (vs := [_]) r_slices_Clone__byte_byte [0]
    · dsimp only [List.set]
      refine acall_walk (N := 8) Try.func15 (by kernel_rfl) p_slices_Clone__byte_byte rfl ?_; unfold c_slices_Clone__byte_byte; dsimp only [enum, Nat.reduceAdd]
      (repeat (first | ((with_reducible show RG _ _ (_ :: _) _ _ _); refine RG.go1 (k := ?_)) | ((with_reducible show DG _ _ (_ :: _) _ _ _ _ _); refine DG.go1 (k := ?_)) | (with_reducible first | apply RG.nil | apply W.seq | apply W.reg | apply W.skip | apply W.block | apply W.drw | apply DG.nil | refine W.done (QB.n ?_))))
      refine W.cndF ?_
      (repeat (first | ((with_reducible show RG _ _ (_ :: _) _ _ _); refine RG.go1 (k := ?_)) | ((with_reducible show DG _ _ (_ :: _) _ _ _ _ _); refine DG.go1 (k := ?_)) | (with_reducible first | apply RG.nil | apply W.seq | apply W.reg | apply W.skip | apply W.block | apply W.drw | apply DG.nil | refine W.done (QB.n ?_))))
      (refine W.ret ?_; (repeat (with_reducible first | refine QB.r ?_ | refine QL.r ?_ | refine QC.r ?_)); refine QF.r ?_)
      exact RetOk.rs (vs := [_]) r_slices_Clone__byte_byte [1]
  · refine acall_walk (N := 8) Try.func15 (by kernel_rfl) p_slices_Clone__byte_byte rfl ?_; unfold c_slices_Clone__byte_byte; dsimp only [enum, Nat.reduceAdd]
    (repeat (first | ((with_reducible show RG _ _ (_ :: _) _ _ _); refine RG.go1 (k := ?_)) | ((with_reducible show DG _ _ (_ :: _) _ _ _ _ _); refine DG.go1 (k := ?_)) | (with_reducible first | apply RG.nil | apply W.seq | apply W.reg | apply W.skip | apply W.block | apply W.drw | apply DG.nil | refine W.done (QB.n ?_))))
    refine W.cndF ?_
    (repeat (first | ((with_reducible show RG _ _ (_ :: _) _ _ _); refine RG.go1 (k := ?_)) | ((with_reducible show DG _ _ (_ :: _) _ _ _ _ _); refine DG.go1 (k := ?_)) | (with_reducible first | apply RG.nil | apply W.seq | apply W.reg | apply W.skip | apply W.block | apply W.drw | apply DG.nil | refine W.done (QB.n ?_))))
    (refine W.ret ?_; (repeat (with_reducible first | refine QB.r ?_ | refine QL.r ?_ | refine QC.r ?_)); refine QF.r ?_)
    exact RetOk.rs (vs := [_]) r_slices_Clone__byte_byte [1]
theorem ybClone_ok (l : List UInt8) (hl : l.length ≤ 1000000) : ACall Try.prog 15 [.sl true 1 (l.map by8)] (.ref 0 1 0 l.length) [⟨false, 1, l.map by8⟩] := by
  have := ybclone0 (l.map by8) (by8_pure _) (by simpa using hl)
  rw [List.length_map] at this; exact this
end Go.Proofs.Ytiejnmbpejfpgaa

namespace Go.Proofs.Ytiejnmbpejfpgaa
open Go.RowKit
set_option linter.unusedVariables false
set_option linter.unusedSimpArgs false
set_option maxRecDepth 100000
set_option maxHeartbeats 4000000
structure Pk where
  i : Int
  mo : Bool
  o : Int
  tt : Int
  pr : Int
  s0 : Int
  s1 : Int
  s2 : Int
  s3 : Int
  d0 : Int
  d1 : Int
  d2 : Int
  d3 : Int
  dt : List UInt8
def pkc (vol : Bool) (p : Pk) : List AV := [.int .u16 p.i, .bool p.mo, .int .i64 p.o, .int .u8 p.tt, .int .u8 p.pr, .int .u8 p.s0, .int .u8 p.s1, .int .u8 p.s2, .int .u8 p.s3, .int .u8 p.d0, .int .u8 p.d1, .int .u8 p.d2, .int .u8 p.d3, .sl vol 1 (p.dt.map by8)]
def pk (vol : Bool) (p : Pk) : AV := .agg (pkc vol p)
/-- A piece. -/
def piece (p : Pk) (j : Nat) : Pk := { p with o := 176 * j, mo := decide (176 * j + 176 < p.dt.length), dt := (p.dt.drop (176 * j)).take 176 }
def cntP (n : Nat) : Nat := (n + 175) / 176
def pieces (p : Pk) (m : Nat) : List Pk := (List.range m).map (piece p)
theorem pieces_s (p : Pk) (m : Nat) : pieces p (m + 1) = pieces p m ++ [piece p m] := by simp [pieces, List.range_succ]
theorem pieces_len (p : Pk) (m : Nat) : (pieces p m).length = m := by simp [pieces]
theorem pk_pure (l : List Pk) : (l.map (pk false)).all pureV = true := by simp [pk, pkc, pureV, pureC]
theorem split_ok (vol : Bool) (p : Pk) (h0 : p.o = 0) (hm : p.mo = false) (hl : p.dt.length ≤ 1000) (hne : 0 < p.dt.length) : ACall Try.prog 8 [pk vol p] (.tup [.sl false 14 ((pieces p (cntP p.dt.length)).map (pk false)), .int .i64 0]) [] := by
  obtain ⟨q, hq⟩ : ∃ q, q = p := ⟨p, rfl⟩
  obtain ⟨i, mo, o, tt, pr, s0, s1, s2, s3, d0, d1, d2, d3, dt⟩ := p
  dsimp only at h0 hm hl hne ⊢
  subst h0 hm
  rw [← hq]
  have el := by8_len dt
  have hit := chunk_iter vol (dt.map by8) (by omega)
  have hcv := chunk_v vol (dt.map by8) (by omega)
  rw [el] at hit
  have hpk : pk vol q = .agg [.int .u16 i, .bool false, .int .i64 0, .int .u8 tt, .int .u8 pr, .int .u8 s0, .int .u8 s1, .int .u8 s2, .int .u8 s3, .int .u8 d0, .int .u8 d1, .int .u8 d2, .int .u8 d3, .sl vol 1 (dt.map by8)] := by rw [hq]; rfl
  rw [hpk]
  refine acallx_walk (N := 50) Try.func8 (by kernel_rfl) p_frag_Split rfl ?_
  unfold c_frag_Split
  dsimp only [enum, Nat.reduceAdd]
  refine AWX.w ?_
  (repeat (first | ((with_reducible show RG _ _ (_ :: _) _ _ _); refine RG.go1 (k := ?_)) | ((with_reducible show DG _ _ (_ :: _) _ _ _ _ _); refine DG.go1 (k := ?_)) | (with_reducible first | apply RG.nil | apply W.seq | apply W.reg | apply W.skip | apply W.block | apply W.drw | apply DG.nil | refine W.done (QB.n ?_))))
  refine W.done (QX.n ?_)
  refine AWX.w ?_
  (repeat (first | ((with_reducible show RG _ _ (_ :: _) _ _ _); refine RG.go1 (k := ?_)) | ((with_reducible show DG _ _ (_ :: _) _ _ _ _ _); refine DG.go1 (k := ?_)) | (with_reducible first | apply RG.nil | apply W.seq | apply W.reg | apply W.skip | apply W.block | apply W.drw | apply DG.nil | refine W.done (QB.n ?_)) | refine W.cndT ?_ | refine W.cndF ?_))
  refine W.done (QX.n ?_)
  refine AWX.w ?_
  (repeat (first | ((with_reducible show RG _ _ (_ :: _) _ _ _); refine RG.go1 (k := ?_)) | ((with_reducible show DG _ _ (_ :: _) _ _ _ _ _); refine DG.go1 (k := ?_)) | (with_reducible first | apply RG.nil | apply W.seq | apply W.reg | apply W.skip | apply W.block | apply W.drw | apply DG.nil | refine W.done (QB.n ?_)) | refine W.cndT ?_ | refine W.cndF ?_))
  refine W.done (QX.n ?_)
  refine AWX.w ?_
  (repeat (first | ((with_reducible show RG _ _ (_ :: _) _ _ _); refine RG.go1 (k := ?_)) | ((with_reducible show DG _ _ (_ :: _) _ _ _ _ _); refine DG.go1 (k := ?_)) | (with_reducible first | apply RG.nil | apply W.seq | apply W.reg | apply W.skip | apply W.block | apply W.drw | apply DG.nil | refine W.done (QB.n ?_)) | refine W.cndT ?_ | refine W.cndF ?_))
  refine W.done (QX.n ?_)
  refine AWX.v ?_
  refine AWX.w ?_
  (repeat (first | ((with_reducible show RG _ _ (_ :: _) _ _ _); refine RG.go1 (k := ?_)) | ((with_reducible show DG _ _ (_ :: _) _ _ _ _ _); refine DG.go1 (k := ?_)) | (with_reducible first | apply RG.nil | apply W.seq | apply W.reg | apply W.skip | apply W.block | apply W.drw | apply DG.nil | refine W.done (QB.n ?_)) | refine W.cndT ?_ | refine W.cndF ?_))
  refine RG.vcall hcv rfl (fun x hx => ?_) ?_
  · simp at hx
    rcases hx with rfl | rfl
    · exact ⟨trivial, rfl⟩
    · exact ⟨trivial, rfl⟩
  (repeat (first | ((with_reducible show RG _ _ (_ :: _) _ _ _); refine RG.go1 (k := ?_)) | ((with_reducible show DG _ _ (_ :: _) _ _ _ _ _); refine DG.go1 (k := ?_)) | (with_reducible first | apply RG.nil | apply W.seq | apply W.reg | apply W.skip | apply W.block | apply W.drw | apply DG.nil | refine W.done (QB.n ?_))))
  refine W.done (QX.n ?_)
  refine AWX.blk ?_
  refine AWX.rf (cnt := cntP dt.length) (nB := 2) (nb := 2) (nr := 1) (tmK := [(1, .bptr 0 0), (4, .bptr 1 0)]) (bxs := fun j => [some [.int .u16 i, .bool false, .int .i64 0, .int .u8 tt, .int .u8 pr, .int .u8 s0, .int .u8 s1, .int .u8 s2, .int .u8 s3, .int .u8 d0, .int .u8 d1, .int .u8 d2, .int .u8 d3, .sl vol 1 (dt.map by8)], some [.ref 0 14 0 j]]) (rws := fun j => [some ⟨false, 14, (pieces q j).map (pk false)⟩]) rfl (fn_free fun x hx => ?_) hit (by decide) (by decide) ?_ (fun t => ?_) (fun b hb => ?_) (fun gb j hj => ?_) ⟨rfl, ?_⟩
  · simp at hx
    rcases hx with rfl | rfl
    · exact ⟨_, rfl, fun y hy => by simp at hy; subst hy; rfl⟩
    · exact ⟨_, rfl, fun y hy => by simp at hy; subst hy; rfl⟩
  · rw [show pieces q 0 = [] from rfl, List.map_nil]
    refine Wk.trans (Wk.nilB (b := 1) (i := 0) 14 rfl rfl) ?_
    exact Wk.rn ([0, 1] ) ( [0])
  · simp only [gT]
    cases (1 == t) <;> cases (4 == t) <;> rfl
  · rcases (show b = 0 ∨ b = 1 by omega) with rfl | rfl
    · exact ⟨1, 0, rfl⟩
    · exact ⟨4, 0, rfl⟩
  · have hlt : 176 * j < dt.length := by unfold cntP at hj; omega
    obtain ⟨cd, hcd⟩ : ∃ cd, (dt.drop (176 * j)).take 176 = cd := ⟨_, rfl⟩
    have hcl : cd.length = min 176 (dt.length - 176 * j) := by rw [← hcd]; simp
    have hck : chk (dt.map by8) j = cd.map by8 := by unfold chk; rw [← hcd, ← List.map_drop, ← List.map_take]
    have ecd := by8_len cd
    have cc := ybClone_ok cd (by omega)
    have hpl : ((pieces q j).map (pk false)).length = j := by rw [List.length_map, pieces_len]
    have hpl0 := pieces_len q j
    have hpp := pk_pure (pieces q j)
    have hsn : (pieces q j).map (pk false) ++ [.agg [.int .u16 i, .bool (decide (176 * (j : Int) + (cd.length : Int) < (dt.length : Int))), .int .i64 (176 * (j : Int)), .int .u8 tt, .int .u8 pr, .int .u8 s0, .int .u8 s1, .int .u8 s2, .int .u8 s3, .int .u8 d0, .int .u8 d1, .int .u8 d2, .int .u8 d3, .sl false 1 (cd.map by8)]] = (pieces q (j + 1)).map (pk false) := by
      rw [pieces_s, List.map_append]
      congr 1
      have hmo : decide (176 * (j : Int) + (cd.length : Int) < (dt.length : Int)) = decide (176 * j + 176 < dt.length) := by
        congr 1
        apply propext
        omega
      rw [hmo]
      subst hq
      simp only [List.map_cons, List.map_nil, pk, pkc, piece, hcd]
    rw [hck]
    clear hck hit hcv hcd
    dsimp only [ghB, List.cons_append, List.nil_append, Nat.zero_add, Nat.reduceAdd]
    (repeat (first | ((with_reducible show RG _ _ (_ :: _) _ _ _); refine RG.go1 (k := ?_)) | ((with_reducible show DG _ _ (_ :: _) _ _ _ _ _); refine DG.go1 (k := ?_)) | (with_reducible first | apply RG.nil | apply W.seq | apply W.reg | apply W.skip | apply W.block | apply W.drw | apply DG.nil | refine W.done (QB.n ?_))))
    (first | ((with_reducible show RG _ _ (_ :: _) _ _ _); refine RG.ca (cc) (k := ?_)) | ((with_reducible show DG _ _ (_ :: _) _ _ _ _ _); refine DG.ca (cc) (k := ?_)))
    (repeat (first | ((with_reducible show RG _ _ (_ :: _) _ _ _); refine RG.go1 (k := ?_)) | ((with_reducible show DG _ _ (_ :: _) _ _ _ _ _); refine DG.go1 (k := ?_)) | (with_reducible first | apply RG.nil | apply W.seq | apply W.reg | apply W.skip | apply W.block | apply W.drw | apply DG.nil | refine W.done (QB.n ?_))))
    rw [ecd, el]
    (repeat (first | ((with_reducible show RG _ _ (_ :: _) _ _ _); refine RG.go1 (k := ?_)) | ((with_reducible show DG _ _ (_ :: _) _ _ _ _ _); refine DG.go1 (k := ?_)) | (with_reducible first | apply RG.nil | apply W.seq | apply W.reg | apply W.skip | apply W.block | apply W.drw | apply DG.nil | refine W.done (QB.n ?_))))
    rw [hsn]
    refine W.done ⟨rfl, [(1000000, .batt 0 (gb 0)), (1000001, .batt 1 (gb 1))], ?_, fun b hb => ?_⟩
    · dsimp only
      exact Wk.rn ([0, 1] ) ( [3])
    · rcases (show b = 0 ∨ b = 1 by omega) with rfl | rfl
      · rfl
      · rfl
  · have hcp : 0 < cntP dt.length ∧ cntP dt.length ≤ 10 := by unfold cntP; omega
    have hpl : ((pieces q (cntP dt.length)).map (pk false)).length = cntP dt.length := by rw [List.length_map, pieces_len]
    generalize (pieces q (cntP dt.length)).map (pk false) = l at *
    generalize cntP dt.length = m at *
    refine QY.n ?_
    (repeat (first | ((with_reducible show RG _ _ (_ :: _) _ _ _); refine RG.go1 (k := ?_)) | ((with_reducible show DG _ _ (_ :: _) _ _ _ _ _); refine DG.go1 (k := ?_)) | (with_reducible first | apply RG.nil | apply W.seq | apply W.reg | apply W.skip | apply W.block | apply W.drw | apply DG.nil | refine W.done (QB.n ?_)) | refine W.cndT ?_ | refine W.cndF ?_))
    (refine W.ret ?_; (repeat (with_reducible first | refine QB.r ?_ | refine QL.r ?_ | refine QC.r ?_)); refine QF.r ?_)
    (refine RetOk.wk (Wk.frz (b := 0) rfl rfl) ?_; refine RetOk.wk (Wk.tmp (t := 2) (Cl.ice rfl rfl rfl (by first | assumption | decide | omega | (simp; (first | (all_goals fail) | fail)) | (simp <;> omega)) (by first | exact take_all _ | exact take_len (by first | (simp; (first | (all_goals fail) | fail)) | (simp <;> omega)) | exact rfl))) ?_; dsimp only [setO])
    exact RetOk.rs (vs := [_, _]) r_frag_Split []
end Go.Proofs.Ytiejnmbpejfpgaa

namespace Go.Proofs.Ytiejnmbpejfpgaa
open Go.RowKit
set_option linter.unusedVariables false
set_option linter.unusedSimpArgs false
set_option maxRecDepth 100000
set_option maxHeartbeats 4000000
structure Prt where
  off : Int
  dt : List UInt8
structure Hl where
  s0 : Int
  s1 : Int
  s2 : Int
  s3 : Int
  d0 : Int
  d1 : Int
  d2 : Int
  d3 : Int
  pr : Int
  i : Int
  tt : Int
  since : Int
  en : Int
  got : List Prt
def prt (x : Prt) : AV := .agg [.int .i64 x.off, .sl false 1 (x.dt.map by8)]
theorem pr_at (l : List Prt) (i : Nat) (h : i < l.length) {j : Nat} (hj : j = i) : (l.map prt)[j]?.getD .any = .agg [.int .i64 l[i].off, .sl false 1 (l[i].dt.map by8)] := at_map prt l i _ (List.getElem?_eq_getElem h) hj
theorem pr_pure (l : List Prt) : (l.map prt).all pureV = true := by simp [prt, pureV, pureC]
theorem pr_len (l : List Prt) : (l.map prt).length = l.length := by simp
def hol (x : Hl) : AV := .agg [.int .u8 x.s0, .int .u8 x.s1, .int .u8 x.s2, .int .u8 x.s3, .int .u8 x.d0, .int .u8 x.d1, .int .u8 x.d2, .int .u8 x.d3, .int .u8 x.pr, .int .u16 x.i, .int .u8 x.tt, .int .u64 x.since, .int .i64 x.en, .sl false 2 (x.got.map prt)]
theorem ho_at (l : List Hl) (i : Nat) (h : i < l.length) {j : Nat} (hj : j = i) : (l.map hol)[j]?.getD .any = .agg [.int .u8 l[i].s0, .int .u8 l[i].s1, .int .u8 l[i].s2, .int .u8 l[i].s3, .int .u8 l[i].d0, .int .u8 l[i].d1, .int .u8 l[i].d2, .int .u8 l[i].d3, .int .u8 l[i].pr, .int .u16 l[i].i, .int .u8 l[i].tt, .int .u64 l[i].since, .int .i64 l[i].en, .sl false 2 (l[i].got.map prt)] := at_map hol l i _ (List.getElem?_eq_getElem h) hj
theorem ho_pure (l : List Hl) : (l.map hol).all pureV = true := by simp [hol, pureV, pureC]
theorem ho_len (l : List Hl) : (l.map hol).length = l.length := by simp
theorem prIndex_ok (l : List Prt) (hl : l.length ≤ 1000000) (f : Nat) (ca : Int) (pr : Prt → Bool) (hf : ∀ x ∈ l, ACall Try.prog f [.agg [.int .i64 x.off, .sl false 1 (x.dt.map by8)], .cptr true [.int .i64 ca]] (.bool (pr x)) []) :
    ACall Try.prog 30 [.sl true 2 (l.map prt), .fn f [.cptr true [.int .i64 ca]]] (.int .i64 (if l.any pr then (l.findIdx pr : Int) else -1)) [] := by
  have el := pr_len l
  refine acall_walk (N := 19) Try.func30 (by kernel_rfl) p_slices_IndexFunc__caravel_api_Part_caravel_api_Part rfl ?_; unfold c_slices_IndexFunc__caravel_api_Part_caravel_api_Part; dsimp only [enum, Nat.reduceAdd]
  (repeat (first | ((with_reducible show RG _ _ (_ :: _) _ _ _); refine RG.go1 (k := ?_)) | ((with_reducible show DG _ _ (_ :: _) _ _ _ _ _); refine DG.go1 (k := ?_)) | (with_reducible first | apply RG.nil | apply W.seq | apply W.reg | apply W.skip | apply W.block | apply W.drw | apply DG.nil | refine W.done (QB.n ?_))))
  refine W.loop (ι := {i : Nat // i ≤ l.length ∧ ∀ j : Nat, (h : j < l.length) → j < i → pr l[j] = false}) (fun i => ⟨[(8, .int .i64 i.1), (7, .int .i64 l.length), (0, .sl true 2 (l.map prt)), (1, .fn f [.cptr true [.int .i64 ca]])], [], [], 0, 0⟩) (fun i => l.length - i.1) ⟨0, Nat.zero_le _, fun j _ h => absurd h (Nat.not_lt_zero _)⟩ ?_ ?_
  · exact Wk.rn ([] ) ( [])
  rintro ⟨i, hi, hall⟩
  dsimp only
  (repeat (first | ((with_reducible show RG _ _ (_ :: _) _ _ _); refine RG.go1 (k := ?_)) | ((with_reducible show DG _ _ (_ :: _) _ _ _ _ _); refine DG.go1 (k := ?_)) | (with_reducible first | apply RG.nil | apply W.seq | apply W.reg | apply W.skip | apply W.block | apply W.drw | apply DG.nil | refine W.done (QB.n ?_))))
  refine W.cnd (fun h1 => ?_) (fun h1 => ?_)
  · have hlt : i < l.length := by simp at h1; omega
    have hE := pr_at l i hlt (j := ((i : Nat) : Int).toNat) (by simp)
    have hc := hf _ (List.getElem_mem hlt)
    cases hpi : pr l[i]
    · rw [hpi] at hc
      (repeat (first | ((with_reducible show RG _ _ (_ :: _) _ _ _); refine RG.go1 (k := ?_)) | ((with_reducible show DG _ _ (_ :: _) _ _ _ _ _); refine DG.go1 (k := ?_)) | (with_reducible first | apply RG.nil | apply W.seq | apply W.reg | apply W.skip | apply W.block | apply W.drw | apply DG.nil | refine W.done (QB.n ?_))))
      (first | ((with_reducible show RG _ _ (_ :: _) _ _ _); refine RG.ew (cptr_of (hE) (by (conv => lhs; whnf) <;> exact rfl)) (k := ?_)) | ((with_reducible show DG _ _ (_ :: _) _ _ _ _ _); refine DG.ew (cptr_of (hE) (by (conv => lhs; whnf) <;> exact rfl)) (k := ?_)))
      (repeat (first | ((with_reducible show RG _ _ (_ :: _) _ _ _); refine RG.go1 (k := ?_)) | ((with_reducible show DG _ _ (_ :: _) _ _ _ _ _); refine DG.go1 (k := ?_)) | (with_reducible first | apply RG.nil | apply W.seq | apply W.reg | apply W.skip | apply W.block | apply W.drw | apply DG.nil | refine W.done (QB.n ?_))))
      (first | ((with_reducible show RG _ _ (_ :: _) _ _ _); refine RG.cav (hc) (k := ?_)) | ((with_reducible show DG _ _ (_ :: _) _ _ _ _ _); refine DG.cav (hc) (k := ?_)))
      (repeat (first | ((with_reducible show RG _ _ (_ :: _) _ _ _); refine RG.go1 (k := ?_)) | ((with_reducible show DG _ _ (_ :: _) _ _ _ _ _); refine DG.go1 (k := ?_)) | (with_reducible first | apply RG.nil | apply W.seq | apply W.reg | apply W.skip | apply W.block | apply W.drw | apply DG.nil | refine W.done (QB.n ?_))))
      refine W.cndF ?_
      (repeat (first | ((with_reducible show RG _ _ (_ :: _) _ _ _); refine RG.go1 (k := ?_)) | ((with_reducible show DG _ _ (_ :: _) _ _ _ _ _); refine DG.go1 (k := ?_)) | (with_reducible first | apply RG.nil | apply W.seq | apply W.reg | apply W.skip | apply W.block | apply W.drw | apply DG.nil | refine W.done (QB.n ?_))))
      refine W.done (QL.n (⟨i + 1, by omega, fun j hj hji => by
        rcases Nat.lt_or_ge j i with q | q
        · exact hall j hj q
        · obtain rfl : j = i := by omega
          exact hpi⟩) ?_ ?_)
      · exact Wk.rn ([] ) ( [])
      · dsimp only; omega
    · rw [hpi] at hc
      have hany : l.any pr = true := by rw [List.any_eq_true]; exact ⟨_, List.getElem_mem hlt, hpi⟩
      have hidx : l.findIdx pr = i := (List.findIdx_eq hlt).2 ⟨hpi, fun j hj => hall j (by omega) hj⟩
      rw [hany, hidx]
      (repeat (first | ((with_reducible show RG _ _ (_ :: _) _ _ _); refine RG.go1 (k := ?_)) | ((with_reducible show DG _ _ (_ :: _) _ _ _ _ _); refine DG.go1 (k := ?_)) | (with_reducible first | apply RG.nil | apply W.seq | apply W.reg | apply W.skip | apply W.block | apply W.drw | apply DG.nil | refine W.done (QB.n ?_))))
      (first | ((with_reducible show RG _ _ (_ :: _) _ _ _); refine RG.ew (cptr_of (hE) (by (conv => lhs; whnf) <;> exact rfl)) (k := ?_)) | ((with_reducible show DG _ _ (_ :: _) _ _ _ _ _); refine DG.ew (cptr_of (hE) (by (conv => lhs; whnf) <;> exact rfl)) (k := ?_)))
      (repeat (first | ((with_reducible show RG _ _ (_ :: _) _ _ _); refine RG.go1 (k := ?_)) | ((with_reducible show DG _ _ (_ :: _) _ _ _ _ _); refine DG.go1 (k := ?_)) | (with_reducible first | apply RG.nil | apply W.seq | apply W.reg | apply W.skip | apply W.block | apply W.drw | apply DG.nil | refine W.done (QB.n ?_))))
      (first | ((with_reducible show RG _ _ (_ :: _) _ _ _); refine RG.cav (hc) (k := ?_)) | ((with_reducible show DG _ _ (_ :: _) _ _ _ _ _); refine DG.cav (hc) (k := ?_)))
      (repeat (first | ((with_reducible show RG _ _ (_ :: _) _ _ _); refine RG.go1 (k := ?_)) | ((with_reducible show DG _ _ (_ :: _) _ _ _ _ _); refine DG.go1 (k := ?_)) | (with_reducible first | apply RG.nil | apply W.seq | apply W.reg | apply W.skip | apply W.block | apply W.drw | apply DG.nil | refine W.done (QB.n ?_))))
      refine W.cndT ?_
      (repeat (first | ((with_reducible show RG _ _ (_ :: _) _ _ _); refine RG.go1 (k := ?_)) | ((with_reducible show DG _ _ (_ :: _) _ _ _ _ _); refine DG.go1 (k := ?_)) | (with_reducible first | apply RG.nil | apply W.seq | apply W.reg | apply W.skip | apply W.block | apply W.drw | apply DG.nil | refine W.done (QB.n ?_))))
      (refine W.ret ?_; (repeat (with_reducible first | refine QB.r ?_ | refine QL.r ?_ | refine QC.r ?_)); refine QF.r ?_)
      exact RetOk.rs (vs := [_]) r_slices_IndexFunc__caravel_api_Part_caravel_api_Part []
  have hany : l.any pr = false := by
    rw [List.any_eq_false]
    intro x hx
    obtain ⟨j, hj, rfl⟩ := List.getElem_of_mem hx
    simp at h1
    rw [hall j hj (by omega)]; simp
  rw [hany]
  (refine W.exit ?_; (repeat (first | (with_reducible first | refine QL.x ?_ | refine QC.x ?_ | refine QB.x ?_) | (with_reducible refine QB.o (by decide) ?_))))
  (repeat (first | ((with_reducible show RG _ _ (_ :: _) _ _ _); refine RG.go1 (k := ?_)) | ((with_reducible show DG _ _ (_ :: _) _ _ _ _ _); refine DG.go1 (k := ?_)) | (with_reducible first | apply RG.nil | apply W.seq | apply W.reg | apply W.skip | apply W.block | apply W.drw | apply DG.nil | refine W.done (QB.n ?_))))
  (refine W.ret ?_; (repeat (with_reducible first | refine QB.r ?_ | refine QL.r ?_ | refine QC.r ?_)); refine QF.r ?_)
  exact RetOk.rs (vs := [_]) r_slices_IndexFunc__caravel_api_Part_caravel_api_Part []
theorem prContains_ok (l : List Prt) (hl : l.length ≤ 1000000) (f : Nat) (ca : Int) (pr : Prt → Bool) (hf : ∀ x ∈ l, ACall Try.prog f [.agg [.int .i64 x.off, .sl false 1 (x.dt.map by8)], .cptr true [.int .i64 ca]] (.bool (pr x)) []) :
    ACall Try.prog 27 [.sl true 2 (l.map prt), .fn f [.cptr true [.int .i64 ca]]] (.bool (l.any pr)) [] := by
  have ci := prIndex_ok l hl f ca pr hf
  cases hany : l.any pr
  · rw [hany] at ci
    refine acall_walk (N := 9) Try.func27 (by kernel_rfl) p_slices_ContainsFunc__caravel_api_Part_caravel_api_Part rfl ?_; unfold c_slices_ContainsFunc__caravel_api_Part_caravel_api_Part; dsimp only [enum, Nat.reduceAdd]
    (repeat (first | ((with_reducible show RG _ _ (_ :: _) _ _ _); refine RG.go1 (k := ?_)) | ((with_reducible show DG _ _ (_ :: _) _ _ _ _ _); refine DG.go1 (k := ?_)) | (with_reducible first | apply RG.nil | apply W.seq | apply W.reg | apply W.skip | apply W.block | apply W.drw | apply DG.nil | refine W.done (QB.n ?_))))
    (first | ((with_reducible show RG _ _ (_ :: _) _ _ _); refine RG.ca (ci) (k := ?_)) | ((with_reducible show DG _ _ (_ :: _) _ _ _ _ _); refine DG.ca (ci) (k := ?_)))
    (repeat (first | ((with_reducible show RG _ _ (_ :: _) _ _ _); refine RG.go1 (k := ?_)) | ((with_reducible show DG _ _ (_ :: _) _ _ _ _ _); refine DG.go1 (k := ?_)) | (with_reducible first | apply RG.nil | apply W.seq | apply W.reg | apply W.skip | apply W.block | apply W.drw | apply DG.nil | refine W.done (QB.n ?_))))
    (refine W.ret ?_; (repeat (with_reducible first | refine QB.r ?_ | refine QL.r ?_ | refine QC.r ?_)); refine QF.r ?_)
    exact RetOk.rs (vs := [_]) r_slices_ContainsFunc__caravel_api_Part_caravel_api_Part []
  · rw [hany, if_pos rfl] at ci
    refine acall_walk (N := 9) Try.func27 (by kernel_rfl) p_slices_ContainsFunc__caravel_api_Part_caravel_api_Part rfl ?_; unfold c_slices_ContainsFunc__caravel_api_Part_caravel_api_Part; dsimp only [enum, Nat.reduceAdd]
    (repeat (first | ((with_reducible show RG _ _ (_ :: _) _ _ _); refine RG.go1 (k := ?_)) | ((with_reducible show DG _ _ (_ :: _) _ _ _ _ _); refine DG.go1 (k := ?_)) | (with_reducible first | apply RG.nil | apply W.seq | apply W.reg | apply W.skip | apply W.block | apply W.drw | apply DG.nil | refine W.done (QB.n ?_))))
    (first | ((with_reducible show RG _ _ (_ :: _) _ _ _); refine RG.ca (ci) (k := ?_)) | ((with_reducible show DG _ _ (_ :: _) _ _ _ _ _); refine DG.ca (ci) (k := ?_)))
    (repeat (first | ((with_reducible show RG _ _ (_ :: _) _ _ _); refine RG.go1 (k := ?_)) | ((with_reducible show DG _ _ (_ :: _) _ _ _ _ _); refine DG.go1 (k := ?_)) | (with_reducible first | apply RG.nil | apply W.seq | apply W.reg | apply W.skip | apply W.block | apply W.drw | apply DG.nil | refine W.done (QB.n ?_))))
    (refine W.ret ?_; (repeat (with_reducible first | refine QB.r ?_ | refine QL.r ?_ | refine QC.r ?_)); refine QF.r ?_)
    exact RetOk.rs (vs := [_]) r_slices_ContainsFunc__caravel_api_Part_caravel_api_Part []
theorem hoIndex_ok (l : List Hl) (hl : l.length ≤ 1000000) (f : Nat) (cq : Pk) (pr : Hl → Bool) (hf : ∀ x ∈ l, ACall Try.prog f [.agg [.int .u8 x.s0, .int .u8 x.s1, .int .u8 x.s2, .int .u8 x.s3, .int .u8 x.d0, .int .u8 x.d1, .int .u8 x.d2, .int .u8 x.d3, .int .u8 x.pr, .int .u16 x.i, .int .u8 x.tt, .int .u64 x.since, .int .i64 x.en, .sl false 2 (x.got.map prt)], .cptr true [.int .u16 cq.i, .bool cq.mo, .int .i64 cq.o, .int .u8 cq.tt, .int .u8 cq.pr, .int .u8 cq.s0, .int .u8 cq.s1, .int .u8 cq.s2, .int .u8 cq.s3, .int .u8 cq.d0, .int .u8 cq.d1, .int .u8 cq.d2, .int .u8 cq.d3, .sl false 1 (cq.dt.map by8)]] (.bool (pr x)) []) :
    ACall Try.prog 17 [.sl true 14 (l.map hol), .fn f [.cptr true [.int .u16 cq.i, .bool cq.mo, .int .i64 cq.o, .int .u8 cq.tt, .int .u8 cq.pr, .int .u8 cq.s0, .int .u8 cq.s1, .int .u8 cq.s2, .int .u8 cq.s3, .int .u8 cq.d0, .int .u8 cq.d1, .int .u8 cq.d2, .int .u8 cq.d3, .sl false 1 (cq.dt.map by8)]]] (.int .i64 (if l.any pr then (l.findIdx pr : Int) else -1)) [] := by
  have el := ho_len l
  refine acall_walk (N := 19) Try.func17 (by kernel_rfl) p_slices_IndexFunc__caravel_api_Hole_caravel_api_Hole rfl ?_; unfold c_slices_IndexFunc__caravel_api_Hole_caravel_api_Hole; dsimp only [enum, Nat.reduceAdd]
  (repeat (first | ((with_reducible show RG _ _ (_ :: _) _ _ _); refine RG.go1 (k := ?_)) | ((with_reducible show DG _ _ (_ :: _) _ _ _ _ _); refine DG.go1 (k := ?_)) | (with_reducible first | apply RG.nil | apply W.seq | apply W.reg | apply W.skip | apply W.block | apply W.drw | apply DG.nil | refine W.done (QB.n ?_))))
  refine W.loop (ι := {i : Nat // i ≤ l.length ∧ ∀ j : Nat, (h : j < l.length) → j < i → pr l[j] = false}) (fun i => ⟨[(8, .int .i64 i.1), (7, .int .i64 l.length), (0, .sl true 14 (l.map hol)), (1, .fn f [.cptr true [.int .u16 cq.i, .bool cq.mo, .int .i64 cq.o, .int .u8 cq.tt, .int .u8 cq.pr, .int .u8 cq.s0, .int .u8 cq.s1, .int .u8 cq.s2, .int .u8 cq.s3, .int .u8 cq.d0, .int .u8 cq.d1, .int .u8 cq.d2, .int .u8 cq.d3, .sl false 1 (cq.dt.map by8)]])], [], [], 0, 0⟩) (fun i => l.length - i.1) ⟨0, Nat.zero_le _, fun j _ h => absurd h (Nat.not_lt_zero _)⟩ ?_ ?_
  · exact Wk.rn ([] ) ( [])
  rintro ⟨i, hi, hall⟩
  dsimp only
  (repeat (first | ((with_reducible show RG _ _ (_ :: _) _ _ _); refine RG.go1 (k := ?_)) | ((with_reducible show DG _ _ (_ :: _) _ _ _ _ _); refine DG.go1 (k := ?_)) | (with_reducible first | apply RG.nil | apply W.seq | apply W.reg | apply W.skip | apply W.block | apply W.drw | apply DG.nil | refine W.done (QB.n ?_))))
  refine W.cnd (fun h1 => ?_) (fun h1 => ?_)
  · have hlt : i < l.length := by simp at h1; omega
    have hE := ho_at l i hlt (j := ((i : Nat) : Int).toNat) (by simp)
    have hc := hf _ (List.getElem_mem hlt)
    cases hpi : pr l[i]
    · rw [hpi] at hc
      (repeat (first | ((with_reducible show RG _ _ (_ :: _) _ _ _); refine RG.go1 (k := ?_)) | ((with_reducible show DG _ _ (_ :: _) _ _ _ _ _); refine DG.go1 (k := ?_)) | (with_reducible first | apply RG.nil | apply W.seq | apply W.reg | apply W.skip | apply W.block | apply W.drw | apply DG.nil | refine W.done (QB.n ?_))))
      (first | ((with_reducible show RG _ _ (_ :: _) _ _ _); refine RG.ew (cptr_of (hE) (by (conv => lhs; whnf) <;> exact rfl)) (k := ?_)) | ((with_reducible show DG _ _ (_ :: _) _ _ _ _ _); refine DG.ew (cptr_of (hE) (by (conv => lhs; whnf) <;> exact rfl)) (k := ?_)))
      (repeat (first | ((with_reducible show RG _ _ (_ :: _) _ _ _); refine RG.go1 (k := ?_)) | ((with_reducible show DG _ _ (_ :: _) _ _ _ _ _); refine DG.go1 (k := ?_)) | (with_reducible first | apply RG.nil | apply W.seq | apply W.reg | apply W.skip | apply W.block | apply W.drw | apply DG.nil | refine W.done (QB.n ?_))))
      (first | ((with_reducible show RG _ _ (_ :: _) _ _ _); refine RG.cav (hc) (k := ?_)) | ((with_reducible show DG _ _ (_ :: _) _ _ _ _ _); refine DG.cav (hc) (k := ?_)))
      (repeat (first | ((with_reducible show RG _ _ (_ :: _) _ _ _); refine RG.go1 (k := ?_)) | ((with_reducible show DG _ _ (_ :: _) _ _ _ _ _); refine DG.go1 (k := ?_)) | (with_reducible first | apply RG.nil | apply W.seq | apply W.reg | apply W.skip | apply W.block | apply W.drw | apply DG.nil | refine W.done (QB.n ?_))))
      refine W.cndF ?_
      (repeat (first | ((with_reducible show RG _ _ (_ :: _) _ _ _); refine RG.go1 (k := ?_)) | ((with_reducible show DG _ _ (_ :: _) _ _ _ _ _); refine DG.go1 (k := ?_)) | (with_reducible first | apply RG.nil | apply W.seq | apply W.reg | apply W.skip | apply W.block | apply W.drw | apply DG.nil | refine W.done (QB.n ?_))))
      refine W.done (QL.n (⟨i + 1, by omega, fun j hj hji => by
        rcases Nat.lt_or_ge j i with q | q
        · exact hall j hj q
        · obtain rfl : j = i := by omega
          exact hpi⟩) ?_ ?_)
      · exact Wk.rn ([] ) ( [])
      · dsimp only; omega
    · rw [hpi] at hc
      have hany : l.any pr = true := by rw [List.any_eq_true]; exact ⟨_, List.getElem_mem hlt, hpi⟩
      have hidx : l.findIdx pr = i := (List.findIdx_eq hlt).2 ⟨hpi, fun j hj => hall j (by omega) hj⟩
      rw [hany, hidx]
      (repeat (first | ((with_reducible show RG _ _ (_ :: _) _ _ _); refine RG.go1 (k := ?_)) | ((with_reducible show DG _ _ (_ :: _) _ _ _ _ _); refine DG.go1 (k := ?_)) | (with_reducible first | apply RG.nil | apply W.seq | apply W.reg | apply W.skip | apply W.block | apply W.drw | apply DG.nil | refine W.done (QB.n ?_))))
      (first | ((with_reducible show RG _ _ (_ :: _) _ _ _); refine RG.ew (cptr_of (hE) (by (conv => lhs; whnf) <;> exact rfl)) (k := ?_)) | ((with_reducible show DG _ _ (_ :: _) _ _ _ _ _); refine DG.ew (cptr_of (hE) (by (conv => lhs; whnf) <;> exact rfl)) (k := ?_)))
      (repeat (first | ((with_reducible show RG _ _ (_ :: _) _ _ _); refine RG.go1 (k := ?_)) | ((with_reducible show DG _ _ (_ :: _) _ _ _ _ _); refine DG.go1 (k := ?_)) | (with_reducible first | apply RG.nil | apply W.seq | apply W.reg | apply W.skip | apply W.block | apply W.drw | apply DG.nil | refine W.done (QB.n ?_))))
      (first | ((with_reducible show RG _ _ (_ :: _) _ _ _); refine RG.cav (hc) (k := ?_)) | ((with_reducible show DG _ _ (_ :: _) _ _ _ _ _); refine DG.cav (hc) (k := ?_)))
      (repeat (first | ((with_reducible show RG _ _ (_ :: _) _ _ _); refine RG.go1 (k := ?_)) | ((with_reducible show DG _ _ (_ :: _) _ _ _ _ _); refine DG.go1 (k := ?_)) | (with_reducible first | apply RG.nil | apply W.seq | apply W.reg | apply W.skip | apply W.block | apply W.drw | apply DG.nil | refine W.done (QB.n ?_))))
      refine W.cndT ?_
      (repeat (first | ((with_reducible show RG _ _ (_ :: _) _ _ _); refine RG.go1 (k := ?_)) | ((with_reducible show DG _ _ (_ :: _) _ _ _ _ _); refine DG.go1 (k := ?_)) | (with_reducible first | apply RG.nil | apply W.seq | apply W.reg | apply W.skip | apply W.block | apply W.drw | apply DG.nil | refine W.done (QB.n ?_))))
      (refine W.ret ?_; (repeat (with_reducible first | refine QB.r ?_ | refine QL.r ?_ | refine QC.r ?_)); refine QF.r ?_)
      exact RetOk.rs (vs := [_]) r_slices_IndexFunc__caravel_api_Hole_caravel_api_Hole []
  have hany : l.any pr = false := by
    rw [List.any_eq_false]
    intro x hx
    obtain ⟨j, hj, rfl⟩ := List.getElem_of_mem hx
    simp at h1
    rw [hall j hj (by omega)]; simp
  rw [hany]
  (refine W.exit ?_; (repeat (first | (with_reducible first | refine QL.x ?_ | refine QC.x ?_ | refine QB.x ?_) | (with_reducible refine QB.o (by decide) ?_))))
  (repeat (first | ((with_reducible show RG _ _ (_ :: _) _ _ _); refine RG.go1 (k := ?_)) | ((with_reducible show DG _ _ (_ :: _) _ _ _ _ _); refine DG.go1 (k := ?_)) | (with_reducible first | apply RG.nil | apply W.seq | apply W.reg | apply W.skip | apply W.block | apply W.drw | apply DG.nil | refine W.done (QB.n ?_))))
  (refine W.ret ?_; (repeat (with_reducible first | refine QB.r ?_ | refine QL.r ?_ | refine QC.r ?_)); refine QF.r ?_)
  exact RetOk.rs (vs := [_]) r_slices_IndexFunc__caravel_api_Hole_caravel_api_Hole []
theorem hoIndexA_ok (l : List Hl) (hl : l.length ≤ 1000000) (f : Nat) (ca : Int) (pr : Hl → Bool) (hf : ∀ x ∈ l, ACall Try.prog f [.agg [.int .u8 x.s0, .int .u8 x.s1, .int .u8 x.s2, .int .u8 x.s3, .int .u8 x.d0, .int .u8 x.d1, .int .u8 x.d2, .int .u8 x.d3, .int .u8 x.pr, .int .u16 x.i, .int .u8 x.tt, .int .u64 x.since, .int .i64 x.en, .sl false 2 (x.got.map prt)], .cptr true [.int .u64 ca]] (.bool (pr x)) []) :
    ACall Try.prog 17 [.sl true 14 (l.map hol), .fn f [.cptr true [.int .u64 ca]]] (.int .i64 (if l.any pr then (l.findIdx pr : Int) else -1)) [] := by
  have el := ho_len l
  refine acall_walk (N := 19) Try.func17 (by kernel_rfl) p_slices_IndexFunc__caravel_api_Hole_caravel_api_Hole rfl ?_; unfold c_slices_IndexFunc__caravel_api_Hole_caravel_api_Hole; dsimp only [enum, Nat.reduceAdd]
  (repeat (first | ((with_reducible show RG _ _ (_ :: _) _ _ _); refine RG.go1 (k := ?_)) | ((with_reducible show DG _ _ (_ :: _) _ _ _ _ _); refine DG.go1 (k := ?_)) | (with_reducible first | apply RG.nil | apply W.seq | apply W.reg | apply W.skip | apply W.block | apply W.drw | apply DG.nil | refine W.done (QB.n ?_))))
  refine W.loop (ι := {i : Nat // i ≤ l.length ∧ ∀ j : Nat, (h : j < l.length) → j < i → pr l[j] = false}) (fun i => ⟨[(8, .int .i64 i.1), (7, .int .i64 l.length), (0, .sl true 14 (l.map hol)), (1, .fn f [.cptr true [.int .u64 ca]])], [], [], 0, 0⟩) (fun i => l.length - i.1) ⟨0, Nat.zero_le _, fun j _ h => absurd h (Nat.not_lt_zero _)⟩ ?_ ?_
  · exact Wk.rn ([] ) ( [])
  rintro ⟨i, hi, hall⟩
  dsimp only
  (repeat (first | ((with_reducible show RG _ _ (_ :: _) _ _ _); refine RG.go1 (k := ?_)) | ((with_reducible show DG _ _ (_ :: _) _ _ _ _ _); refine DG.go1 (k := ?_)) | (with_reducible first | apply RG.nil | apply W.seq | apply W.reg | apply W.skip | apply W.block | apply W.drw | apply DG.nil | refine W.done (QB.n ?_))))
  refine W.cnd (fun h1 => ?_) (fun h1 => ?_)
  · have hlt : i < l.length := by simp at h1; omega
    have hE := ho_at l i hlt (j := ((i : Nat) : Int).toNat) (by simp)
    have hc := hf _ (List.getElem_mem hlt)
    cases hpi : pr l[i]
    · rw [hpi] at hc
      (repeat (first | ((with_reducible show RG _ _ (_ :: _) _ _ _); refine RG.go1 (k := ?_)) | ((with_reducible show DG _ _ (_ :: _) _ _ _ _ _); refine DG.go1 (k := ?_)) | (with_reducible first | apply RG.nil | apply W.seq | apply W.reg | apply W.skip | apply W.block | apply W.drw | apply DG.nil | refine W.done (QB.n ?_))))
      (first | ((with_reducible show RG _ _ (_ :: _) _ _ _); refine RG.ew (cptr_of (hE) (by (conv => lhs; whnf) <;> exact rfl)) (k := ?_)) | ((with_reducible show DG _ _ (_ :: _) _ _ _ _ _); refine DG.ew (cptr_of (hE) (by (conv => lhs; whnf) <;> exact rfl)) (k := ?_)))
      (repeat (first | ((with_reducible show RG _ _ (_ :: _) _ _ _); refine RG.go1 (k := ?_)) | ((with_reducible show DG _ _ (_ :: _) _ _ _ _ _); refine DG.go1 (k := ?_)) | (with_reducible first | apply RG.nil | apply W.seq | apply W.reg | apply W.skip | apply W.block | apply W.drw | apply DG.nil | refine W.done (QB.n ?_))))
      (first | ((with_reducible show RG _ _ (_ :: _) _ _ _); refine RG.cav (hc) (k := ?_)) | ((with_reducible show DG _ _ (_ :: _) _ _ _ _ _); refine DG.cav (hc) (k := ?_)))
      (repeat (first | ((with_reducible show RG _ _ (_ :: _) _ _ _); refine RG.go1 (k := ?_)) | ((with_reducible show DG _ _ (_ :: _) _ _ _ _ _); refine DG.go1 (k := ?_)) | (with_reducible first | apply RG.nil | apply W.seq | apply W.reg | apply W.skip | apply W.block | apply W.drw | apply DG.nil | refine W.done (QB.n ?_))))
      refine W.cndF ?_
      (repeat (first | ((with_reducible show RG _ _ (_ :: _) _ _ _); refine RG.go1 (k := ?_)) | ((with_reducible show DG _ _ (_ :: _) _ _ _ _ _); refine DG.go1 (k := ?_)) | (with_reducible first | apply RG.nil | apply W.seq | apply W.reg | apply W.skip | apply W.block | apply W.drw | apply DG.nil | refine W.done (QB.n ?_))))
      refine W.done (QL.n (⟨i + 1, by omega, fun j hj hji => by
        rcases Nat.lt_or_ge j i with q | q
        · exact hall j hj q
        · obtain rfl : j = i := by omega
          exact hpi⟩) ?_ ?_)
      · exact Wk.rn ([] ) ( [])
      · dsimp only; omega
    · rw [hpi] at hc
      have hany : l.any pr = true := by rw [List.any_eq_true]; exact ⟨_, List.getElem_mem hlt, hpi⟩
      have hidx : l.findIdx pr = i := (List.findIdx_eq hlt).2 ⟨hpi, fun j hj => hall j (by omega) hj⟩
      rw [hany, hidx]
      (repeat (first | ((with_reducible show RG _ _ (_ :: _) _ _ _); refine RG.go1 (k := ?_)) | ((with_reducible show DG _ _ (_ :: _) _ _ _ _ _); refine DG.go1 (k := ?_)) | (with_reducible first | apply RG.nil | apply W.seq | apply W.reg | apply W.skip | apply W.block | apply W.drw | apply DG.nil | refine W.done (QB.n ?_))))
      (first | ((with_reducible show RG _ _ (_ :: _) _ _ _); refine RG.ew (cptr_of (hE) (by (conv => lhs; whnf) <;> exact rfl)) (k := ?_)) | ((with_reducible show DG _ _ (_ :: _) _ _ _ _ _); refine DG.ew (cptr_of (hE) (by (conv => lhs; whnf) <;> exact rfl)) (k := ?_)))
      (repeat (first | ((with_reducible show RG _ _ (_ :: _) _ _ _); refine RG.go1 (k := ?_)) | ((with_reducible show DG _ _ (_ :: _) _ _ _ _ _); refine DG.go1 (k := ?_)) | (with_reducible first | apply RG.nil | apply W.seq | apply W.reg | apply W.skip | apply W.block | apply W.drw | apply DG.nil | refine W.done (QB.n ?_))))
      (first | ((with_reducible show RG _ _ (_ :: _) _ _ _); refine RG.cav (hc) (k := ?_)) | ((with_reducible show DG _ _ (_ :: _) _ _ _ _ _); refine DG.cav (hc) (k := ?_)))
      (repeat (first | ((with_reducible show RG _ _ (_ :: _) _ _ _); refine RG.go1 (k := ?_)) | ((with_reducible show DG _ _ (_ :: _) _ _ _ _ _); refine DG.go1 (k := ?_)) | (with_reducible first | apply RG.nil | apply W.seq | apply W.reg | apply W.skip | apply W.block | apply W.drw | apply DG.nil | refine W.done (QB.n ?_))))
      refine W.cndT ?_
      (repeat (first | ((with_reducible show RG _ _ (_ :: _) _ _ _); refine RG.go1 (k := ?_)) | ((with_reducible show DG _ _ (_ :: _) _ _ _ _ _); refine DG.go1 (k := ?_)) | (with_reducible first | apply RG.nil | apply W.seq | apply W.reg | apply W.skip | apply W.block | apply W.drw | apply DG.nil | refine W.done (QB.n ?_))))
      (refine W.ret ?_; (repeat (with_reducible first | refine QB.r ?_ | refine QL.r ?_ | refine QC.r ?_)); refine QF.r ?_)
      exact RetOk.rs (vs := [_]) r_slices_IndexFunc__caravel_api_Hole_caravel_api_Hole []
  have hany : l.any pr = false := by
    rw [List.any_eq_false]
    intro x hx
    obtain ⟨j, hj, rfl⟩ := List.getElem_of_mem hx
    simp at h1
    rw [hall j hj (by omega)]; simp
  rw [hany]
  (refine W.exit ?_; (repeat (first | (with_reducible first | refine QL.x ?_ | refine QC.x ?_ | refine QB.x ?_) | (with_reducible refine QB.o (by decide) ?_))))
  (repeat (first | ((with_reducible show RG _ _ (_ :: _) _ _ _); refine RG.go1 (k := ?_)) | ((with_reducible show DG _ _ (_ :: _) _ _ _ _ _); refine DG.go1 (k := ?_)) | (with_reducible first | apply RG.nil | apply W.seq | apply W.reg | apply W.skip | apply W.block | apply W.drw | apply DG.nil | refine W.done (QB.n ?_))))
  (refine W.ret ?_; (repeat (with_reducible first | refine QB.r ?_ | refine QL.r ?_ | refine QC.r ?_)); refine QF.r ?_)
  exact RetOk.rs (vs := [_]) r_slices_IndexFunc__caravel_api_Hole_caravel_api_Hole []
theorem hoDelA_ok (l : List Hl) (hl : l.length ≤ 1000000) (f : Nat) (ca : Int) (pr : Hl → Bool) (hf : ∀ x ∈ l, ACall Try.prog f [.agg [.int .u8 x.s0, .int .u8 x.s1, .int .u8 x.s2, .int .u8 x.s3, .int .u8 x.d0, .int .u8 x.d1, .int .u8 x.d2, .int .u8 x.d3, .int .u8 x.pr, .int .u16 x.i, .int .u8 x.tt, .int .u64 x.since, .int .i64 x.en, .sl false 2 (x.got.map prt)], .cptr true [.int .u64 ca]] (.bool (pr x)) []) :
    MCall Try.prog 24 [.ref 0 14 0 l.length, .fn f [.cptr true [.int .u64 ca]]] [] [⟨false, 14, l.map hol⟩] (.ref 0 14 0 (l.filter fun x => !pr x).length) [] [some ⟨false, 14, (l.filter fun x => !pr x).map hol⟩] [] := by
  have ci := hoIndexA_ok l hl f ca pr hf
  have el := ho_len l
  cases hany : l.any pr
  · rw [hany, if_neg (by decide)] at ci
    have hfl : (l.filter fun x => !pr x) = l := by
      rw [List.filter_eq_self]
      intro x hx
      rw [List.any_eq_false] at hany
      simpa using hany x hx
    rw [hfl]
    refine mcall_walk (N := 42) Try.func24 (by kernel_rfl) p_slices_DeleteFunc__caravel_api_Hole_caravel_api_Hole rfl rfl rfl ?_; intro gb pl; unfold c_slices_DeleteFunc__caravel_api_Hole_caravel_api_Hole; dsimp only [enum, ghB, ghR, k_lc, k_ln, k_ap, k_an, k_m0, k_mc, Nat.reduceAdd, Nat.zero_add, Nat.add_zero]
    (repeat (first | ((with_reducible show RG _ _ (_ :: _) _ _ _); refine RG.go1 (k := ?_)) | ((with_reducible show DG _ _ (_ :: _) _ _ _ _ _); refine DG.go1 (k := ?_)) | (with_reducible first | apply RG.nil | apply W.seq | apply W.reg | apply W.skip | apply W.block | apply W.drw | apply DG.nil | refine W.done (QB.n ?_))))
    (first | ((with_reducible show RG _ _ (_ :: _) _ _ _); refine RG.ca (ci) (k := ?_)) | ((with_reducible show DG _ _ (_ :: _) _ _ _ _ _); refine DG.ca (ci) (k := ?_)))
    (repeat (first | ((with_reducible show RG _ _ (_ :: _) _ _ _); refine RG.go1 (k := ?_)) | ((with_reducible show DG _ _ (_ :: _) _ _ _ _ _); refine DG.go1 (k := ?_)) | (with_reducible first | apply RG.nil | apply W.seq | apply W.reg | apply W.skip | apply W.block | apply W.drw | apply DG.nil | refine W.done (QB.n ?_))))
    refine W.cndT ?_
    (repeat (first | ((with_reducible show RG _ _ (_ :: _) _ _ _); refine RG.go1 (k := ?_)) | ((with_reducible show DG _ _ (_ :: _) _ _ _ _ _); refine DG.go1 (k := ?_)) | (with_reducible first | apply RG.nil | apply W.seq | apply W.reg | apply W.skip | apply W.block | apply W.drw | apply DG.nil | refine W.done (QB.n ?_))))
    (refine W.ret ?_; (repeat (with_reducible first | refine QB.r ?_ | refine QL.r ?_ | refine QC.r ?_)); refine QM.r ?_)
    exact RetM.rs (vs := [_]) (tm' := [(4, .ref 0 14 0 l.length), (1100000, .ratt 0 (pl 0))]) r_slices_DeleteFunc__caravel_api_Hole_caravel_api_Hole ([]) ([0]) 0 1
  · rw [hany, if_pos rfl] at ci
    have hi0 : l.findIdx pr < l.length := List.findIdx_lt_length_of_exists (by simpa using hany)
    have hp1 : pr l[l.findIdx pr] = true := List.findIdx_getElem
    have hp0 : (!pr l[l.findIdx pr]) = false := by rw [hp1]; rfl
    have hbefore : (l.take (l.findIdx pr)).filter (fun x => !pr x) = l.take (l.findIdx pr) := by
      rw [List.filter_eq_self]
      intro x hx
      obtain ⟨j, hj, rfl⟩ := List.getElem_of_mem hx
      have hj' : j < l.findIdx pr := by simp at hj; omega
      have := List.not_of_lt_findIdx hj'
      simpa using this
    have hk0 := keep_snoc (fun x => !pr x) l (l.findIdx pr) hi0
    rw [hbefore] at hk0
    simp only [hp1, Bool.not_true, Bool.false_eq_true, if_false, List.append_nil] at hk0
    clear hbefore hp1
    generalize l.findIdx pr = i0 at ci hi0 hp0 hk0
    have hkl : ∀ j, i0 < j → ((l.take j).filter fun x => !pr x).length < j := fun j hj => keep_lt _ l j i0 hi0 hj hp0
    refine mcall_walk (N := 42) Try.func24 (by kernel_rfl) p_slices_DeleteFunc__caravel_api_Hole_caravel_api_Hole rfl rfl rfl ?_; intro gb pl; unfold c_slices_DeleteFunc__caravel_api_Hole_caravel_api_Hole; dsimp only [enum, ghB, ghR, k_lc, k_ln, k_ap, k_an, k_m0, k_mc, Nat.reduceAdd, Nat.zero_add, Nat.add_zero]
    (repeat (first | ((with_reducible show RG _ _ (_ :: _) _ _ _); refine RG.go1 (k := ?_)) | ((with_reducible show DG _ _ (_ :: _) _ _ _ _ _); refine DG.go1 (k := ?_)) | (with_reducible first | apply RG.nil | apply W.seq | apply W.reg | apply W.skip | apply W.block | apply W.drw | apply DG.nil | refine W.done (QB.n ?_))))
    (first | ((with_reducible show RG _ _ (_ :: _) _ _ _); refine RG.ca (ci) (k := ?_)) | ((with_reducible show DG _ _ (_ :: _) _ _ _ _ _); refine DG.ca (ci) (k := ?_)))
    (repeat (first | ((with_reducible show RG _ _ (_ :: _) _ _ _); refine RG.go1 (k := ?_)) | ((with_reducible show DG _ _ (_ :: _) _ _ _ _ _); refine DG.go1 (k := ?_)) | (with_reducible first | apply RG.nil | apply W.seq | apply W.reg | apply W.skip | apply W.block | apply W.drw | apply DG.nil | refine W.done (QB.n ?_))))
    refine W.cndF ?_
    (repeat (first | ((with_reducible show RG _ _ (_ :: _) _ _ _); refine RG.go1 (k := ?_)) | ((with_reducible show DG _ _ (_ :: _) _ _ _ _ _); refine DG.go1 (k := ?_)) | (with_reducible first | apply RG.nil | apply W.seq | apply W.reg | apply W.skip | apply W.block | apply W.drw | apply DG.nil | refine W.done (QB.n ?_))))
    refine W.loop (ι := {j : Nat // i0 < j ∧ j ≤ l.length}) (fun j => ⟨[(6, .int .i64 j.1), (5, .int .i64 ((l.take j.1).filter fun x => !pr x).length), (0, .ref 0 14 0 l.length), (1, .fn f [.cptr true [.int .u64 ca]]), (1100000, .ratt 0 (pl 0))], [], [some ⟨false, 14, (((l.take j.1).filter fun x => !pr x) ++ l.drop ((l.take j.1).filter fun x => !pr x).length).map hol⟩], 0, 1⟩) (fun j => l.length - j.1) ⟨i0 + 1, by omega, by omega⟩ ?_ ?_
    · dsimp only
      rw [hk0]
      have e1 : (l.take i0).length = i0 := by simp; omega
      rw [e1, List.take_append_drop]
      exact Wk.rn ([] ) ( [0])
    rintro ⟨j, hj1, hj2⟩
    dsimp only
    have hkj := hkl j hj1
    have hks := keep_snoc (fun x => !pr x) l j
    have hrow : (((l.take j).filter fun x => !pr x) ++ l.drop ((l.take j).filter fun x => !pr x).length).length = l.length := by simp; omega
    have hat : ∀ h : j < l.length, (((((l.take j).filter fun x => !pr x) ++ l.drop ((l.take j).filter fun x => !pr x).length)).map hol)[j]?.getD .any = .agg [.int .u8 l[j].s0, .int .u8 l[j].s1, .int .u8 l[j].s2, .int .u8 l[j].s3, .int .u8 l[j].d0, .int .u8 l[j].d1, .int .u8 l[j].d2, .int .u8 l[j].d3, .int .u8 l[j].pr, .int .u16 l[j].i, .int .u8 l[j].tt, .int .u64 l[j].since, .int .i64 l[j].en, .sl false 2 (l[j].got.map prt)] := fun h => by
      have e2 : (((l.take j).filter fun x => !pr x) ++ l.drop ((l.take j).filter fun x => !pr x).length)[j]? = some l[j] := by
        rw [List.getElem?_append_right (by omega), List.getElem?_drop, ← List.getElem?_eq_getElem h]
        congr 1; omega
      rw [List.getElem?_map, e2]; rfl
    have hset : ∀ x, ((((l.take j).filter fun x => !pr x) ++ l.drop ((l.take j).filter fun x => !pr x).length).map hol).set ((l.take j).filter fun x => !pr x).length (hol x) = ((((l.take j).filter fun x => !pr x) ++ [x]) ++ l.drop (((l.take j).filter fun x => !pr x).length + 1)).map hol := fun x => by
      rw [← List.map_set, set_app _ _ _ (by omega)]
    have hend : j = l.length → (l.take j).filter (fun x => !pr x) = l.filter (fun x => !pr x) := fun h => by rw [h, List.take_length]
    obtain ⟨kp, hkp⟩ : ∃ kp, (l.take j).filter (fun x => !pr x) = kp := ⟨_, rfl⟩
    rw [hkp] at hkj hks hrow hat hset hend ⊢
    have hrl : ((kp ++ l.drop kp.length).map hol).length = l.length := by rw [List.length_map]; exact hrow
    (repeat (first | ((with_reducible show RG _ _ (_ :: _) _ _ _); refine RG.go1 (k := ?_)) | ((with_reducible show DG _ _ (_ :: _) _ _ _ _ _); refine DG.go1 (k := ?_)) | (with_reducible first | apply RG.nil | apply W.seq | apply W.reg | apply W.skip | apply W.block | apply W.drw | apply DG.nil | refine W.done (QB.n ?_))))
    refine W.cnd (fun h1 => ?_) (fun h1 => ?_)
    · have hlt : j < l.length := by simp at h1; omega
      have hks := hks hlt
      have hat := hat hlt
      have hc := hf _ (List.getElem_mem hlt)
      have hset := hset l[j]
      clear hend hkl hkp hk0
      cases hpj : pr l[j]
      · rw [hpj] at hc hks
        have hks : (l.take (j + 1)).filter (fun x => !pr x) = kp ++ [l[j]] := hks
        unfold hol at hset
        generalize l[j] = y at hc hks hat hset
        (repeat (first | ((with_reducible show RG _ _ (_ :: _) _ _ _); refine RG.go1 (k := ?_)) | ((with_reducible show DG _ _ (_ :: _) _ _ _ _ _); refine DG.go1 (k := ?_)) | (with_reducible first | apply RG.nil | apply W.seq | apply W.reg | apply W.skip | apply W.block | apply W.drw | apply DG.nil | refine W.done (QB.n ?_))))
        (first | ((with_reducible show RG _ _ (_ :: _) _ _ _); refine RG.ew (ix_of ((show 0 + ((j : Int)).toNat = j by simp))) (k := ?_)) | ((with_reducible show DG _ _ (_ :: _) _ _ _ _ _); refine DG.ew (ix_of ((show 0 + ((j : Int)).toNat = j by simp))) (k := ?_)))
        (repeat (first | ((with_reducible show RG _ _ (_ :: _) _ _ _); refine RG.go1 (k := ?_)) | ((with_reducible show DG _ _ (_ :: _) _ _ _ _ _); refine DG.go1 (k := ?_)) | (with_reducible first | apply RG.nil | apply W.seq | apply W.reg | apply W.skip | apply W.block | apply W.drw | apply DG.nil | refine W.done (QB.n ?_))))
        (first | ((with_reducible show RG _ _ (_ :: _) _ _ _); refine RG.sm (A.ldr (hat)) (k := ?_)) | ((with_reducible show DG _ _ (_ :: _) _ _ _ _ _); refine DG.sm (A.ldr (hat)) (k := ?_)))
        (repeat (first | ((with_reducible show RG _ _ (_ :: _) _ _ _); refine RG.go1 (k := ?_)) | ((with_reducible show DG _ _ (_ :: _) _ _ _ _ _); refine DG.go1 (k := ?_)) | (with_reducible first | apply RG.nil | apply W.seq | apply W.reg | apply W.skip | apply W.block | apply W.drw | apply DG.nil | refine W.done (QB.n ?_))))
        (first | ((with_reducible show RG _ _ (_ :: _) _ _ _); refine RG.cav (hc) (k := ?_)) | ((with_reducible show DG _ _ (_ :: _) _ _ _ _ _); refine DG.cav (hc) (k := ?_)))
        (repeat (first | ((with_reducible show RG _ _ (_ :: _) _ _ _); refine RG.go1 (k := ?_)) | ((with_reducible show DG _ _ (_ :: _) _ _ _ _ _); refine DG.go1 (k := ?_)) | (with_reducible first | apply RG.nil | apply W.seq | apply W.reg | apply W.skip | apply W.block | apply W.drw | apply DG.nil | refine W.done (QB.n ?_))))
        refine W.cndT ?_
        (repeat (first | ((with_reducible show RG _ _ (_ :: _) _ _ _); refine RG.go1 (k := ?_)) | ((with_reducible show DG _ _ (_ :: _) _ _ _ _ _); refine DG.go1 (k := ?_)) | (with_reducible first | apply RG.nil | apply W.seq | apply W.reg | apply W.skip | apply W.block | apply W.drw | apply DG.nil | refine W.done (QB.n ?_))))
        (first | ((with_reducible show RG _ _ (_ :: _) _ _ _); refine RG.ew (ix_of ((show 0 + ((kp.length : Int)).toNat = kp.length by simp))) (k := ?_)) | ((with_reducible show DG _ _ (_ :: _) _ _ _ _ _); refine DG.ew (ix_of ((show 0 + ((kp.length : Int)).toNat = kp.length by simp))) (k := ?_)))
        (repeat (first | ((with_reducible show RG _ _ (_ :: _) _ _ _); refine RG.go1 (k := ?_)) | ((with_reducible show DG _ _ (_ :: _) _ _ _ _ _); refine DG.go1 (k := ?_)) | (with_reducible first | apply RG.nil | apply W.seq | apply W.reg | apply W.skip | apply W.block | apply W.drw | apply DG.nil | refine W.done (QB.n ?_))))
        (first | ((with_reducible show RG _ _ (_ :: _) _ _ _); refine RG.sn (A.str (hset)) (k := ?_)) | ((with_reducible show DG _ _ (_ :: _) _ _ _ _ _); refine DG.sn (A.str (hset)) (k := ?_)))
        (repeat (first | ((with_reducible show RG _ _ (_ :: _) _ _ _); refine RG.go1 (k := ?_)) | ((with_reducible show DG _ _ (_ :: _) _ _ _ _ _); refine DG.go1 (k := ?_)) | (with_reducible first | apply RG.nil | apply W.seq | apply W.reg | apply W.skip | apply W.block | apply W.drw | apply DG.nil | refine W.done (QB.n ?_))))
        refine W.done (QL.n (⟨j + 1, by omega, by omega⟩) ?_ ?_)
        · dsimp only
          rw [hks]
          have e3 : (kp ++ [y]).length = kp.length + 1 := by simp
          rw [e3]
          exact Wk.rn ([] ) ( [0])
        · dsimp only; omega
      · rw [hpj] at hc hks
        simp only [Bool.not_true, Bool.false_eq_true, if_false, List.append_nil] at hks
        (repeat (first | ((with_reducible show RG _ _ (_ :: _) _ _ _); refine RG.go1 (k := ?_)) | ((with_reducible show DG _ _ (_ :: _) _ _ _ _ _); refine DG.go1 (k := ?_)) | (with_reducible first | apply RG.nil | apply W.seq | apply W.reg | apply W.skip | apply W.block | apply W.drw | apply DG.nil | refine W.done (QB.n ?_))))
        (first | ((with_reducible show RG _ _ (_ :: _) _ _ _); refine RG.ew (ix_of ((show 0 + ((j : Int)).toNat = j by simp))) (k := ?_)) | ((with_reducible show DG _ _ (_ :: _) _ _ _ _ _); refine DG.ew (ix_of ((show 0 + ((j : Int)).toNat = j by simp))) (k := ?_)))
        (repeat (first | ((with_reducible show RG _ _ (_ :: _) _ _ _); refine RG.go1 (k := ?_)) | ((with_reducible show DG _ _ (_ :: _) _ _ _ _ _); refine DG.go1 (k := ?_)) | (with_reducible first | apply RG.nil | apply W.seq | apply W.reg | apply W.skip | apply W.block | apply W.drw | apply DG.nil | refine W.done (QB.n ?_))))
        (first | ((with_reducible show RG _ _ (_ :: _) _ _ _); refine RG.sm (A.ldr (hat)) (k := ?_)) | ((with_reducible show DG _ _ (_ :: _) _ _ _ _ _); refine DG.sm (A.ldr (hat)) (k := ?_)))
        (repeat (first | ((with_reducible show RG _ _ (_ :: _) _ _ _); refine RG.go1 (k := ?_)) | ((with_reducible show DG _ _ (_ :: _) _ _ _ _ _); refine DG.go1 (k := ?_)) | (with_reducible first | apply RG.nil | apply W.seq | apply W.reg | apply W.skip | apply W.block | apply W.drw | apply DG.nil | refine W.done (QB.n ?_))))
        (first | ((with_reducible show RG _ _ (_ :: _) _ _ _); refine RG.cav (hc) (k := ?_)) | ((with_reducible show DG _ _ (_ :: _) _ _ _ _ _); refine DG.cav (hc) (k := ?_)))
        (repeat (first | ((with_reducible show RG _ _ (_ :: _) _ _ _); refine RG.go1 (k := ?_)) | ((with_reducible show DG _ _ (_ :: _) _ _ _ _ _); refine DG.go1 (k := ?_)) | (with_reducible first | apply RG.nil | apply W.seq | apply W.reg | apply W.skip | apply W.block | apply W.drw | apply DG.nil | refine W.done (QB.n ?_))))
        refine W.cndF ?_
        (repeat (first | ((with_reducible show RG _ _ (_ :: _) _ _ _); refine RG.go1 (k := ?_)) | ((with_reducible show DG _ _ (_ :: _) _ _ _ _ _); refine DG.go1 (k := ?_)) | (with_reducible first | apply RG.nil | apply W.seq | apply W.reg | apply W.skip | apply W.block | apply W.drw | apply DG.nil | refine W.done (QB.n ?_))))
        refine W.done (QL.n (⟨j + 1, by omega, by omega⟩) ?_ ?_)
        · dsimp only
          rw [hks]
          exact Wk.rn ([] ) ( [0])
        · dsimp only; omega
    · have hjn : j = l.length := by simp at h1; omega
      have hend := hend hjn
      rw [← hend]
      have hcl : ((kp ++ l.drop kp.length).map hol).take kp.length ++ (List.replicate (l.length - kp.length) (AV.agg [.int .u8 0, .int .u8 0, .int .u8 0, .int .u8 0, .int .u8 0, .int .u8 0, .int .u8 0, .int .u8 0, .int .u8 0, .int .u16 0, .int .u8 0, .int .u64 0, .int .i64 0, .nil]) ++ ((kp ++ l.drop kp.length).map hol).drop (kp.length + (l.length - kp.length))) = kp.map hol ++ List.replicate (l.length - kp.length) (AV.agg [.int .u8 0, .int .u8 0, .int .u8 0, .int .u8 0, .int .u8 0, .int .u8 0, .int .u8 0, .int .u8 0, .int .u8 0, .int .u16 0, .int .u8 0, .int .u64 0, .int .i64 0, .nil]) := by
        rw [List.map_append, List.take_left' (by simp), List.drop_of_length_le (by simp <;> omega), List.append_nil]
      have htr : (kp.map hol ++ List.replicate (l.length - kp.length) (AV.agg [.int .u8 0, .int .u8 0, .int .u8 0, .int .u8 0, .int .u8 0, .int .u8 0, .int .u8 0, .int .u8 0, .int .u8 0, .int .u16 0, .int .u8 0, .int .u64 0, .int .i64 0, .nil])).take kp.length = kp.map hol := List.take_left' (by simp)
      have hll : (kp.map hol ++ List.replicate (l.length - kp.length) (AV.agg [.int .u8 0, .int .u8 0, .int .u8 0, .int .u8 0, .int .u8 0, .int .u8 0, .int .u8 0, .int .u8 0, .int .u8 0, .int .u16 0, .int .u8 0, .int .u64 0, .int .i64 0, .nil])).length = l.length := by simp; omega
      clear hat hset hks hkl hk0 hp0 hf ci hany hend
      unfold hol at hcl htr hll
      (refine W.exit ?_; (repeat (first | (with_reducible first | refine QL.x ?_ | refine QC.x ?_ | refine QB.x ?_) | (with_reducible refine QB.o (by decide) ?_))))
      (repeat (first | ((with_reducible show RG _ _ (_ :: _) _ _ _); refine RG.go1 (k := ?_)) | ((with_reducible show DG _ _ (_ :: _) _ _ _ _ _); refine DG.go1 (k := ?_)) | (with_reducible first | apply RG.nil | apply W.seq | apply W.reg | apply W.skip | apply W.block | apply W.drw | apply DG.nil | refine W.done (QB.n ?_))))
      (first | ((with_reducible show RG _ _ (_ :: _) _ _ _); refine RG.ew ((show AV.ref 0 14 (0 + (kp.length : Int).toNat) ((l.length : Int) - (kp.length : Int)).toNat = AV.ref 0 14 kp.length (l.length - kp.length) by congr 1 <;> omega)) (k := ?_)) | ((with_reducible show DG _ _ (_ :: _) _ _ _ _ _); refine DG.ew ((show AV.ref 0 14 (0 + (kp.length : Int).toNat) ((l.length : Int) - (kp.length : Int)).toNat = AV.ref 0 14 kp.length (l.length - kp.length) by congr 1 <;> omega)) (k := ?_)))
      (repeat (first | ((with_reducible show RG _ _ (_ :: _) _ _ _); refine RG.go1 (k := ?_)) | ((with_reducible show DG _ _ (_ :: _) _ _ _ _ _); refine DG.go1 (k := ?_)) | (with_reducible first | apply RG.nil | apply W.seq | apply W.reg | apply W.skip | apply W.block | apply W.drw | apply DG.nil | refine W.done (QB.n ?_))))
      (first | ((with_reducible show RG _ _ (_ :: _) _ _ _); refine RG.sn (A.clr (hcl)) (k := ?_)) | ((with_reducible show DG _ _ (_ :: _) _ _ _ _ _); refine DG.sn (A.clr (hcl)) (k := ?_)))
      (repeat (first | ((with_reducible show RG _ _ (_ :: _) _ _ _); refine RG.go1 (k := ?_)) | ((with_reducible show DG _ _ (_ :: _) _ _ _ _ _); refine DG.go1 (k := ?_)) | (with_reducible first | apply RG.nil | apply W.seq | apply W.reg | apply W.skip | apply W.block | apply W.drw | apply DG.nil | refine W.done (QB.n ?_))))
      (first | ((with_reducible show RG _ _ (_ :: _) _ _ _); refine RG.ew ((show AV.ref 0 14 (0 + (0 : Int).toNat) ((kp.length : Int) - 0).toNat = AV.ref 0 14 0 kp.length by first | (simp; (first | (all_goals fail) | fail)) | (congr 1 <;> omega))) (k := ?_)) | ((with_reducible show DG _ _ (_ :: _) _ _ _ _ _); refine DG.ew ((show AV.ref 0 14 (0 + (0 : Int).toNat) ((kp.length : Int) - 0).toNat = AV.ref 0 14 0 kp.length by first | (simp; (first | (all_goals fail) | fail)) | (congr 1 <;> omega))) (k := ?_)))
      (repeat (first | ((with_reducible show RG _ _ (_ :: _) _ _ _); refine RG.go1 (k := ?_)) | ((with_reducible show DG _ _ (_ :: _) _ _ _ _ _); refine DG.go1 (k := ?_)) | (with_reducible first | apply RG.nil | apply W.seq | apply W.reg | apply W.skip | apply W.block | apply W.drw | apply DG.nil | refine W.done (QB.n ?_))))
      (refine W.ret ?_; (repeat (with_reducible first | refine QB.r ?_ | refine QL.r ?_ | refine QC.r ?_)); refine QM.r ?_)
      refine RetM.wk (Wk.trim (b := 0) kp.length rfl) ?_
      dsimp only [setO]
      rw [htr]
      exact RetM.rs (vs := [_]) (tm' := [(4, .ref 0 14 0 kp.length), (1100000, .ratt 0 (pl 0))]) r_slices_DeleteFunc__caravel_api_Hole_caravel_api_Hole ([]) ([0]) 0 1
theorem hoDel1_ok (l : List Hl) (hl : l.length ≤ 500000) (i : Nat) (hi : i < l.length) :
    MCall Try.prog 21 [.ref 0 14 0 l.length, .int .i64 i, .int .i64 ((i : Int) + 1)] [] [⟨false, 14, l.map hol⟩] (.ref 0 14 0 (l.length - 1)) [] [some ⟨false, 14, (l.eraseIdx i).map hol⟩] [] := by
  obtain ⟨es, hes⟩ : ∃ es, l.map hol = es := ⟨_, rfl⟩
  have el : es.length = l.length := by rw [← hes]; simp
  have hp : es.all pureV = true := by rw [← hes]; exact ho_pure l
  have hend : (l.eraseIdx i).map hol = es.take i ++ es.drop (i + 1) := by rw [← hes, List.eraseIdx_eq_take_drop_succ, List.map_append, List.map_take, List.map_drop]
  rw [hend, hes]
  obtain ⟨n, hn⟩ : ∃ n, l.length = n := ⟨_, rfl⟩
  rw [hn] at hl hi el ⊢
  clear hend hes hn
  have hsrc : (es.drop (i + 1)).take (n - (i + 1)) = es.drop (i + 1) := List.take_of_length_le (by simp; omega)
  have hsl : (es.drop (i + 1)).length = n - (i + 1) := by simp; omega
  have hpu : (es.drop (i + 1)).all pureV = true := by
    rw [List.all_eq_true] at hp ⊢
    exact fun y hy => hp y (List.mem_of_mem_drop hy)
  obtain ⟨E2, hE2⟩ : ∃ E, es.take (0 + i) ++ (es.drop (i + 1) ++ es.drop (0 + (n - 1))) = E := ⟨_, rfl⟩
  have eE : E2.length = n := by rw [← hE2]; simp; omega
  have htr : E2.take (n - 1) = es.take i ++ es.drop (i + 1) := by
    rw [← hE2, Nat.zero_add, ← List.append_assoc, List.take_left' (by simp; omega)]
  have hcl : E2.take (n - 1) ++ (List.replicate 1 (AV.agg [.int .u8 0, .int .u8 0, .int .u8 0, .int .u8 0, .int .u8 0, .int .u8 0, .int .u8 0, .int .u8 0, .int .u8 0, .int .u16 0, .int .u8 0, .int .u64 0, .int .i64 0, .nil]) ++ E2.drop (n - 1 + 1)) = (es.take i ++ es.drop (i + 1)) ++ [(AV.agg [.int .u8 0, .int .u8 0, .int .u8 0, .int .u8 0, .int .u8 0, .int .u8 0, .int .u8 0, .int .u8 0, .int .u8 0, .int .u16 0, .int .u8 0, .int .u64 0, .int .i64 0, .nil])] := by
    rw [htr, List.drop_of_length_le (l := E2) (by omega), List.append_nil]; rfl
  have htr2 : ((es.take i ++ es.drop (i + 1)) ++ [(AV.agg [.int .u8 0, .int .u8 0, .int .u8 0, .int .u8 0, .int .u8 0, .int .u8 0, .int .u8 0, .int .u8 0, .int .u8 0, .int .u16 0, .int .u8 0, .int .u64 0, .int .i64 0, .nil])]).take (n - 1) = es.take i ++ es.drop (i + 1) := List.take_left' (by simp; omega)
  have hll : ((es.take i ++ es.drop (i + 1)) ++ [(AV.agg [.int .u8 0, .int .u8 0, .int .u8 0, .int .u8 0, .int .u8 0, .int .u8 0, .int .u8 0, .int .u8 0, .int .u8 0, .int .u16 0, .int .u8 0, .int .u64 0, .int .i64 0, .nil])]).length = n := by simp; omega
  unfold hol at hcl htr2 hll
  refine mcall_walk (N := 33) Try.func21 (by kernel_rfl) p_slices_Delete__caravel_api_Hole_caravel_api_Hole rfl rfl rfl ?_; intro gb pl; unfold c_slices_Delete__caravel_api_Hole_caravel_api_Hole; dsimp only [enum, ghB, ghR, k_lc, k_ln, k_ap, k_an, k_m0, k_mc, Nat.reduceAdd, Nat.zero_add, Nat.add_zero]
  (repeat (first | ((with_reducible show RG _ _ (_ :: _) _ _ _); refine RG.go1 (k := ?_)) | ((with_reducible show DG _ _ (_ :: _) _ _ _ _ _); refine DG.go1 (k := ?_)) | (with_reducible first | apply RG.nil | apply W.seq | apply W.reg | apply W.skip | apply W.block | apply W.drw | apply DG.nil | refine W.done (QB.n ?_))))
  (first | ((with_reducible show RG _ _ (_ :: _) _ _ _); refine RG.ew ((show AV.ref 0 14 (0 + (i : Int).toNat) ((i : Int) + 1 - (i : Int)).toNat = AV.ref 0 14 i 1 by congr 1 <;> omega)) (k := ?_)) | ((with_reducible show DG _ _ (_ :: _) _ _ _ _ _); refine DG.ew ((show AV.ref 0 14 (0 + (i : Int).toNat) ((i : Int) + 1 - (i : Int)).toNat = AV.ref 0 14 i 1 by congr 1 <;> omega)) (k := ?_)))
  (repeat (first | ((with_reducible show RG _ _ (_ :: _) _ _ _); refine RG.go1 (k := ?_)) | ((with_reducible show DG _ _ (_ :: _) _ _ _ _ _); refine DG.go1 (k := ?_)) | (with_reducible first | apply RG.nil | apply W.seq | apply W.reg | apply W.skip | apply W.block | apply W.drw | apply DG.nil | refine W.done (QB.n ?_))))
  refine W.cndF ?_
  refine W.cap (t := 0) rfl fun c hc1 hc2 => ?_
  (repeat (first | ((with_reducible show RG _ _ (_ :: _) _ _ _); refine RG.go1 (k := ?_)) | ((with_reducible show DG _ _ (_ :: _) _ _ _ _ _); refine DG.go1 (k := ?_)) | (with_reducible first | apply RG.nil | apply W.seq | apply W.reg | apply W.skip | apply W.block | apply W.drw | apply DG.nil | refine W.done (QB.n ?_))))
  (first | ((with_reducible show RG _ _ (_ :: _) _ _ _); refine RG.ew ((show AV.refc 0 14 (0 + (0 : Int).toNat) ((i : Int) - 0).toNat ((c : Int) - 0).toNat = AV.refc 0 14 0 i c by congr 1 <;> omega)) (k := ?_)) | ((with_reducible show DG _ _ (_ :: _) _ _ _ _ _); refine DG.ew ((show AV.refc 0 14 (0 + (0 : Int).toNat) ((i : Int) - 0).toNat ((c : Int) - 0).toNat = AV.refc 0 14 0 i c by congr 1 <;> omega)) (k := ?_)))
  (repeat (first | ((with_reducible show RG _ _ (_ :: _) _ _ _); refine RG.go1 (k := ?_)) | ((with_reducible show DG _ _ (_ :: _) _ _ _ _ _); refine DG.go1 (k := ?_)) | (with_reducible first | apply RG.nil | apply W.seq | apply W.reg | apply W.skip | apply W.block | apply W.drw | apply DG.nil | refine W.done (QB.n ?_))))
  (first | ((with_reducible show RG _ _ (_ :: _) _ _ _); refine RG.ew ((show AV.refc 0 14 (0 + ((i : Int) + 1).toNat) ((n : Int) - ((i : Int) + 1)).toNat ((c : Int) - ((i : Int) + 1)).toNat = AV.refc 0 14 (i + 1) (n - (i + 1)) (c - (i + 1)) by congr 1 <;> omega)) (k := ?_)) | ((with_reducible show DG _ _ (_ :: _) _ _ _ _ _); refine DG.ew ((show AV.refc 0 14 (0 + ((i : Int) + 1).toNat) ((n : Int) - ((i : Int) + 1)).toNat ((c : Int) - ((i : Int) + 1)).toNat = AV.refc 0 14 (i + 1) (n - (i + 1)) (c - (i + 1)) by congr 1 <;> omega)) (k := ?_)))
  (repeat (first | ((with_reducible show RG _ _ (_ :: _) _ _ _); refine RG.go1 (k := ?_)) | ((with_reducible show DG _ _ (_ :: _) _ _ _ _ _); refine DG.go1 (k := ?_)) | (with_reducible first | apply RG.nil | apply W.seq | apply W.reg | apply W.skip | apply W.block | apply W.drw | apply DG.nil | refine W.done (QB.n ?_))))
  (refine RG.sm (A.appI (m := n - 1) hE2 (he := Els.refc (r := ⟨false, 14, es⟩) rfl rfl (show i + 1 + (n - (i + 1)) ≤ es.length by omega) hsrc) (hl := by omega) (hrl := by show 0 + i + (es.drop (i + 1)).length ≤ es.length; omega) (hroom := by omega) (hp := hpu) (hm := by omega)) (k := ?_))
  (repeat (first | ((with_reducible show RG _ _ (_ :: _) _ _ _); refine RG.go1 (k := ?_)) | ((with_reducible show DG _ _ (_ :: _) _ _ _ _ _); refine DG.go1 (k := ?_)) | (with_reducible first | apply RG.nil | apply W.seq | apply W.reg | apply W.skip | apply W.block | apply W.drw | apply DG.nil | refine W.done (QB.n ?_))))
  (first | ((with_reducible show RG _ _ (_ :: _) _ _ _); refine RG.ew ((show AV.refc 0 14 (0 + ((n - 1 : Nat) : Int).toNat) ((n : Int) - ((n - 1 : Nat) : Int)).toNat ((c : Int) - ((n - 1 : Nat) : Int)).toNat = AV.refc 0 14 (n - 1) 1 (c - (n - 1)) by congr 1 <;> omega)) (k := ?_)) | ((with_reducible show DG _ _ (_ :: _) _ _ _ _ _); refine DG.ew ((show AV.refc 0 14 (0 + ((n - 1 : Nat) : Int).toNat) ((n : Int) - ((n - 1 : Nat) : Int)).toNat ((c : Int) - ((n - 1 : Nat) : Int)).toNat = AV.refc 0 14 (n - 1) 1 (c - (n - 1)) by congr 1 <;> omega)) (k := ?_)))
  (repeat (first | ((with_reducible show RG _ _ (_ :: _) _ _ _); refine RG.go1 (k := ?_)) | ((with_reducible show DG _ _ (_ :: _) _ _ _ _ _); refine DG.go1 (k := ?_)) | (with_reducible first | apply RG.nil | apply W.seq | apply W.reg | apply W.skip | apply W.block | apply W.drw | apply DG.nil | refine W.done (QB.n ?_))))
  (first | ((with_reducible show RG _ _ (_ :: _) _ _ _); refine RG.sn (A.clr (hcl)) (k := ?_)) | ((with_reducible show DG _ _ (_ :: _) _ _ _ _ _); refine DG.sn (A.clr (hcl)) (k := ?_)))
  (repeat (first | ((with_reducible show RG _ _ (_ :: _) _ _ _); refine RG.go1 (k := ?_)) | ((with_reducible show DG _ _ (_ :: _) _ _ _ _ _); refine DG.go1 (k := ?_)) | (with_reducible first | apply RG.nil | apply W.seq | apply W.reg | apply W.skip | apply W.block | apply W.drw | apply DG.nil | refine W.done (QB.n ?_))))
  (refine W.ret ?_; (repeat (with_reducible first | refine QB.r ?_ | refine QL.r ?_ | refine QC.r ?_)); refine QM.r ?_)
  refine RetM.wk (Wk.tmp (t := 6) (y := .ref 0 14 0 (n - 1)) (Cl.le (ALe.refc _ _ _ _ _))) ?_
  refine RetM.wk (Wk.trim (b := 0) (n - 1) rfl) ?_
  dsimp only [setO]
  rw [htr2]
  exact RetM.rs (vs := [_]) (tm' := [(6, .ref 0 14 0 (n - 1)), (1100000, .ratt 0 (pl 0))]) r_slices_Delete__caravel_api_Hole_caravel_api_Hole ([]) ([0]) 0 1
end Go.Proofs.Ytiejnmbpejfpgaa
