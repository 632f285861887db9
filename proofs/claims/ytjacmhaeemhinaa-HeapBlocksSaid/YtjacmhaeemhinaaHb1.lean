/- HeapBlocks, plainly: the heap, and the map of its blocks. -/
import Derived.Test.YtjacmhaeemhinaaHp1
import Derived.Test.YtjacmhaeemhinaaAxY
namespace Go.Proofs.Ytjacmhaeemhinaa
open Go.RowKit
set_option linter.unusedVariables false
set_option linter.unusedSimpArgs false
theorem Ch.apart {N : Int} : ∀ {l : List Blk} {e : Int}, Ch N e l → l.Pairwise fun x y => x.at_ + x.ln ≤ y.at_
  | [], _, _ => List.Pairwise.nil
  | x :: l, e, ⟨h1, h2, h3, h4, h5, h6⟩ => List.pairwise_cons.2 ⟨fun y hy => Ch.ge h6 y hy, h6.apart⟩
theorem putS_out (s v : List UInt8) (a j : Nat) (h : a + v.length ≤ s.length) (hj : j < a ∨ a + v.length ≤ j) : (putS s a v)[j]? = s[j]? := by
  unfold putS
  rcases hj with hj | hj
  · rw [List.getElem?_append_left (by simp; omega), List.getElem?_take_of_lt hj]
  · have e : (s.take a).length = a := by simp; omega
    rw [List.getElem?_append_right (by omega), e, List.getElem?_append_right (by omega), List.getElem?_drop]
    congr 1; omega
theorem putS_in (s : List UInt8) (b : UInt8) (a : Nat) (h : a < s.length) : (putS s a [b])[a]? = some b := by
  unfold putS
  have e : (s.take a).length = a := by simp; omega
  rw [List.getElem?_append_right (by omega), e, Nat.sub_self]; rfl
def vA : Value → Int
  | .int _ n => n
  | _ => 0
/-- What the map tells of the heap. -/
structure HR (h : Hp) (es : List En) (i : Nat) : Prop where
  p : (es.map fun e => vA e.v).Perm (h.l.map (·.at_))
  v : ∀ e ∈ es, e.v = .int .i64 (vA e.v)
  k : ∀ e ∈ es, 0 ≤ e.k ∧ e.k < i
  b : ∀ e ∈ es, ∃ u, h.s[(vA e.v).toNat]? = some u ∧ (u.toNat : Int) = e.k + 1
theorem HR.nil {h : Hp} (hl : h.l = []) : HR h [] 0 := ⟨by rw [hl]; exact List.Perm.refl _, fun e he => (by cases he), fun e he => (by cases he), fun e he => (by cases he)⟩
theorem HR.more {h : Hp} {es : List En} {i : Nat} (r : HR h es i) : HR h es (i + 1) := ⟨r.p, r.v, fun e he => by have := r.k e he; omega, r.b⟩
theorem HR.blk {h : Hp} {es : List En} {i : Nat} (r : HR h es i) {e : En} (he : e ∈ es) : ∃ x ∈ h.l, x.at_ = vA e.v := by
  have := r.p.mem_iff.1 (List.mem_map.2 ⟨e, he, rfl⟩)
  obtain ⟨x, hx, q⟩ := List.mem_map.1 this
  exact ⟨x, hx, q⟩
theorem blk_in {h : Hp} (k : h.Ok 8) {x : Blk} (hx : x ∈ h.l) : 0 ≤ x.at_ ∧ 8 ≤ x.ln ∧ x.at_ + x.ln ≤ 512 := by
  obtain ⟨h0, h1, h2, h3, h4, h5⟩ := k.l.mem (Int.le_refl _) x hx
  exact ⟨h1, h3, by omega⟩
/-- A block given away, and its first byte written. -/
theorem HR.alloc {h : Hp} {es : List En} {i ck : Nat} (k : h.Ok 8) (r : HR h es i) (hi : i < 30) {n : Int} (hn : 1 ≤ n ∧ n ≤ 90) (hg : gapA (up8 n) 0 h.l + up8 n ≤ h.s.length) {b : UInt8} (hb : (b.toNat : Int) = i + 1) :
    ∃ h1 a, hAlloc h n = (h1, a, 0) ∧ h1.Ok 8 ∧ 0 ≤ a ∧ a ≤ 512 ∧ ∃ h2, hStore h1 a [b] = (h2, 0) ∧ h2.Ok 8 ∧ HR h2 (updE i (.int .i64 a) ck es) (i + 1) := by
  have hs := k.s
  obtain ⟨u1, u2, u3, u4⟩ := up8_bd (n := n) (by omega)
  have e1 : hAlloc h n = (⟨h.s, h.l.take (gapI (up8 n) 0 h.l) ++ ⟨gapA (up8 n) 0 h.l, up8 n⟩ :: h.l.drop (gapI (up8 n) 0 h.l), h.d⟩, gapA (up8 n) 0 h.l, 0) := by
    unfold hAlloc
    rw [if_neg (by omega), if_neg (by omega), if_pos hg]
  have k1 := hAlloc_ok k n
  rw [e1] at k1
  have g0 := gapA_bd (up8 n) k.l (Int.le_refl _) rfl
  have hroom := gap_room u1 k.l
  obtain ⟨a, ha⟩ : ∃ a, gapA (up8 n) 0 h.l = a := ⟨_, rfl⟩
  rw [ha] at e1 k1 g0 hg hroom
  obtain ⟨p, hp⟩ : ∃ p, gapI (up8 n) 0 h.l = p := ⟨_, rfl⟩
  rw [hp] at e1 k1
  refine ⟨_, a, e1, k1, by omega, by omega, ?_⟩
  have hin : (h.l.take p ++ ⟨a, up8 n⟩ :: h.l.drop p).any (insB a ([b] : List UInt8).length) = true := by
    rw [List.any_eq_true]
    refine ⟨⟨a, up8 n⟩, by simp, ?_⟩
    unfold insB
    simp only [List.length_cons, List.length_nil, Bool.and_eq_true, decide_eq_true_eq]
    omega
  have e2 : hStore ⟨h.s, h.l.take p ++ ⟨a, up8 n⟩ :: h.l.drop p, h.d⟩ a [b] = (hPut ⟨h.s, h.l.take p ++ ⟨a, up8 n⟩ :: h.l.drop p, h.d⟩ a [b], 0) := by
    unfold hStore
    rw [if_pos hin]
  have k2 := hStore_ok k1 a [b]
  rw [e2] at k2
  refine ⟨_, e2, k2, ?_⟩
  have hnew : hasE (i : Int) es = false := by
    cases hh : hasE (i : Int) es with
    | false => rfl
    | true =>
      obtain ⟨e, he, q⟩ := has_iff.1 hh
      have := r.k e he
      omega
  have hu : updE (i : Int) (.int .i64 a) ck es = es ++ [⟨i, .int .i64 a, ck⟩] := by
    unfold updE
    rw [hnew, if_neg (by decide)]
  rw [hu]
  have hal : a.toNat < h.s.length := by omega
  have hs2 : (hPut ⟨h.s, h.l.take p ++ ⟨a, up8 n⟩ :: h.l.drop p, h.d⟩ a [b]).s = putS h.s a.toNat [b] := rfl
  refine ⟨?_, fun e he => ?_, fun e he => ?_, fun e he => ?_⟩
  · show ((es ++ [(⟨i, .int .i64 a, ck⟩ : En)]).map fun e : En => vA e.v).Perm ((h.l.take p ++ (⟨a, up8 n⟩ : Blk) :: h.l.drop p).map fun x : Blk => x.at_)
    have q1 : ((h.l.take p ++ (⟨a, up8 n⟩ : Blk) :: h.l.drop p).map fun x : Blk => x.at_).Perm (a :: h.l.map fun x : Blk => x.at_) := by
      have := (List.perm_middle (a := (⟨a, up8 n⟩ : Blk)) (l₁ := h.l.take p) (l₂ := h.l.drop p)).map (·.at_)
      rw [List.take_append_drop] at this
      exact this
    rw [List.map_append]
    exact (List.perm_append_comm.trans (List.Perm.cons a r.p)).trans q1.symm
  · rcases List.mem_append.1 he with he | he
    · exact r.v e he
    · rw [List.mem_singleton.1 he]; rfl
  · rcases List.mem_append.1 he with he | he
    · have := r.k e he; omega
    · rw [List.mem_singleton.1 he]; exact ⟨by show (0 : Int) ≤ (i : Int); omega, by show (i : Int) < ((i + 1 : Nat) : Int); omega⟩
  · rw [hs2]
    rcases List.mem_append.1 he with he | he
    · obtain ⟨u, h1, h2⟩ := r.b e he
      obtain ⟨x, hx, hxa⟩ := r.blk he
      have hc := hroom x hx
      obtain ⟨b1, b2, b3⟩ := blk_in k hx
      unfold clear_ at hc
      refine ⟨u, ?_, h2⟩
      rw [putS_out _ _ _ _ (by simp; omega) (by simp only [List.length_cons, List.length_nil]; rw [← hxa]; omega)]
      exact h1
    · rw [List.mem_singleton.1 he]
      exact ⟨b, putS_in _ _ _ hal, hb⟩
/-- What is loaded. -/
theorem HR.load {h : Hp} {es : List En} {i : Nat} (k : h.Ok 8) (r : HR h es i) {e : En} (he : e ∈ es) : ∃ u, hLoad h (vA e.v) 1 = ([u], 0) ∧ (u.toNat : Int) = e.k + 1 ∧ 0 ≤ vA e.v ∧ vA e.v ≤ 512 := by
  obtain ⟨u, h1, h2⟩ := r.b e he
  obtain ⟨x, hx, hxa⟩ := r.blk he
  obtain ⟨b1, b2, b3⟩ := blk_in k hx
  refine ⟨u, ?_, h2, by omega, by omega⟩
  unfold hLoad
  rw [if_neg (by omega), if_pos (List.any_eq_true.2 ⟨x, hx, by unfold insB; simp only [Bool.and_eq_true, decide_eq_true_eq]; omega⟩)]
  obtain ⟨q, hq⟩ := List.getElem?_eq_some_iff.1 h1
  rw [List.drop_eq_getElem_cons q, hq]; rfl
/-- A block given back. -/
theorem free_at {h : Hp} (k : h.Ok 8) {x : Blk} (hx : x ∈ h.l) : ∃ h', hFree h x.at_ = (h', 0) ∧ h'.Ok 8 ∧ (h.l.map (·.at_)).Perm (x.at_ :: h'.l.map (·.at_)) ∧ ∀ y ∈ h'.l, y ∈ h.l ∧ h'.s[y.at_.toNat]? = h.s[y.at_.toNat]? := by
  have hs := k.s
  have ha : h.l.any (atP x.at_) = true := List.any_eq_true.2 ⟨x, hx, decide_eq_true rfl⟩
  obtain ⟨hi, h1, h2⟩ := atP_idx ha
  have k1 := hFree_ok k x.at_
  have e1 : hFree h x.at_ = (hPut ⟨h.s, h.l.eraseIdx (h.l.findIdx (atP x.at_)), h.d⟩ x.at_ (List.replicate ((h.l[h.l.findIdx (atP x.at_)]).ln.toNat) 0), 0) := by
    unfold hFree
    rw [if_pos ha, h2]
  rw [e1] at k1
  obtain ⟨j, hj⟩ : ∃ j, h.l.findIdx (atP x.at_) = j := ⟨_, rfl⟩
  obtain ⟨y0, hy0⟩ : ∃ y0, h.l[h.l.findIdx (atP x.at_)] = y0 := ⟨_, rfl⟩
  have hy0' : h.l[j]? = some y0 := by rw [← hj, List.getElem?_eq_getElem hi, hy0]
  rw [hy0] at e1 k1 h1
  rw [hj] at e1 k1
  obtain ⟨hjl, hyj⟩ := List.getElem?_eq_some_iff.1 hy0'
  have hm0 : y0 ∈ h.l := by rw [← hyj]; exact List.getElem_mem hjl
  obtain ⟨b1, b2, b3⟩ := blk_in k hm0
  refine ⟨_, e1, k1, ?_, fun y hy => ?_⟩
  · show (h.l.map (·.at_)).Perm (x.at_ :: (h.l.eraseIdx j).map (·.at_))
    have : h.l.Perm (y0 :: h.l.eraseIdx j) := by
      conv => lhs; rw [← List.take_append_drop j h.l, List.drop_eq_getElem_cons hjl, hyj]
      rw [List.eraseIdx_eq_take_drop_succ]
      exact List.perm_middle
    have := this.map (·.at_)
    rw [List.map_cons, h1] at this
    exact this
  · have hy : y ∈ h.l.eraseIdx j := hy
    obtain ⟨m, hml, hmj, hym⟩ := List.mem_eraseIdx_iff_getElem.1 hy
    have hml' : y ∈ h.l := by rw [← hym]; exact List.getElem_mem _
    refine ⟨hml', ?_⟩
    show (putS h.s x.at_.toNat (List.replicate y0.ln.toNat 0))[y.at_.toNat]? = _
    have hp := List.pairwise_iff_getElem.1 k.l.apart
    obtain ⟨c1, c2, c3⟩ := blk_in k hml'
    have hd : y.at_ + y.ln ≤ y0.at_ ∨ y0.at_ + y0.ln ≤ y.at_ := by
      rcases Nat.lt_or_gt_of_ne hmj with q | q
      · have := hp m j hml hjl q
        rw [hym, hyj] at this; exact .inl this
      · have := hp j m hjl hml q
        rw [hym, hyj] at this; exact .inr this
    exact putS_out _ _ _ _ (by rw [List.length_replicate]; omega) (by rw [List.length_replicate]; omega)
theorem get_perm {c : Int} {v : Value} : ∀ {es : List En}, getE c es = some v → ∃ e ∈ es, e.k = c ∧ e.v = v ∧ es.Perm (e :: delE c es)
  | [], h => by cases h
  | x :: es, h => by
    unfold getE at h
    unfold delE
    by_cases q : c = x.k
    · rw [if_pos q] at h ⊢
      exact ⟨x, List.mem_cons_self .., q.symm, Option.some.inj h, List.Perm.refl _⟩
    · rw [if_neg q] at h ⊢
      obtain ⟨e, h1, h2, h3, h4⟩ := get_perm h
      exact ⟨e, List.mem_cons_of_mem _ h1, h2, h3, (List.Perm.cons x h4).trans (List.Perm.swap _ _ _)⟩
theorem HR.free {h : Hp} {es : List En} {i : Nat} (k : h.Ok 8) (r : HR h es i) {c : Int} {v : Value} (hg : getE c es = some v) :
    ∃ a h', v = .int .i64 a ∧ hFree h a = (h', 0) ∧ h'.Ok 8 ∧ HR h' (delE c es) i := by
  obtain ⟨e, he, hk, hv, hp⟩ := get_perm hg
  obtain ⟨x, hx, hxa⟩ := r.blk he
  obtain ⟨h', f1, f2, f3, f4⟩ := free_at k hx
  have hsub := (del_sub c es).subset
  refine ⟨vA e.v, h', by rw [← hv]; exact r.v e he, by rw [← hxa]; exact f1, f2, ?_, fun y hy => r.v y (hsub hy), fun y hy => r.k y (hsub hy), fun y hy => ?_⟩
  · have h1 := (hp.map fun e => vA e.v).symm.trans (r.p.trans f3)
    rw [List.map_cons, ← hxa] at h1
    exact h1.cons_inv
  · have h1 := (hp.map fun e => vA e.v).symm.trans (r.p.trans f3)
    rw [List.map_cons, ← hxa] at h1
    have h2 := h1.cons_inv.mem_iff.1 (List.mem_map.2 ⟨y, hy, rfl⟩)
    obtain ⟨z, hz, hzy⟩ := List.mem_map.1 h2
    obtain ⟨u, g1, g2⟩ := r.b y (hsub hy)
    exact ⟨u, by rw [← hzy, (f4 z hz).2, hzy]; exact g1, g2⟩
/-! ### All given back -/
theorem unseen_perm {s : List Nat} {e : En} : ∀ {es : List En}, (es.map (·.b)).Nodup → e ∈ es → e.b ∉ s → (es.filter fun x => !decide (x.b ∈ s)).Perm (e :: es.filter fun x => !decide (x.b ∈ s ++ [e.b]))
  | [], _, h, _ => by cases h
  | x :: es, hn, he, hs => by
    rw [List.map_cons, List.nodup_cons] at hn
    rcases List.mem_cons.1 he with q | q
    · subst q
      have h2 : (es.filter fun x => !decide (x.b ∈ s ++ [e.b])) = es.filter fun x => !decide (x.b ∈ s) := by
        refine List.filter_congr fun y hy => ?_
        have : y.b ≠ e.b := fun h => hn.1 (List.mem_map.2 ⟨y, hy, h⟩)
        simp [this]
      rw [List.filter_cons_of_pos (by simp [hs]), List.filter_cons_of_neg (by simp), h2]
    · have hne : x.b ≠ e.b := fun h => hn.1 (List.mem_map.2 ⟨e, q, h.symm⟩)
      have ih := unseen_perm hn.2 q hs
      by_cases hx : x.b ∈ s
      · rw [List.filter_cons_of_neg (by simp [hx]), List.filter_cons_of_neg (by simp [hx])]
        exact ih
      · rw [List.filter_cons_of_pos (by simp [hx]), List.filter_cons_of_pos (by simp [hx, hne])]
        exact (List.Perm.cons x ih).trans (List.Perm.swap _ _ _)
/-- What is left. -/
structure FR (h : Hp) (es : List En) (s : List Nat) : Prop where
  k : h.Ok 8
  p : ((es.filter fun x => !decide (x.b ∈ s)).map fun e => vA e.v).Perm (h.l.map (·.at_))
theorem HR.fr {h : Hp} {es : List En} {i : Nat} (k : h.Ok 8) (r : HR h es i) : FR h es [] := ⟨k, by
  have : (es.filter fun x => !decide (x.b ∈ ([] : List Nat))) = es := List.filter_eq_self.2 fun x hx => by simp
  rw [this]; exact r.p⟩
theorem FR.step {h : Hp} {es : List En} {s : List Nat} (r : FR h es s) (hn : (es.map (·.b)).Nodup) {e : En} (he : e ∈ es) (hs : e.b ∉ s) : ∃ h', hFree h (vA e.v) = (h', 0) ∧ FR h' es (s ++ [e.b]) := by
  have hp := unseen_perm hn he hs
  have hm := r.p.mem_iff.1 (List.mem_map.2 ⟨e, hp.mem_iff.2 (List.mem_cons_self ..), rfl⟩)
  obtain ⟨x, hx, hxa⟩ := List.mem_map.1 hm
  obtain ⟨h', f1, f2, f3, f4⟩ := free_at r.k hx
  refine ⟨h', by rw [← hxa]; exact f1, f2, ?_⟩
  have h1 := (hp.map fun e => vA e.v).symm.trans (r.p.trans f3)
  rw [List.map_cons, ← hxa] at h1
  exact h1.cons_inv
theorem FR.done {h : Hp} {es : List En} {s : List Nat} (r : FR h es s) (ha : ∀ e ∈ es, e.b ∈ s) : h.l = [] := by
  have : (es.filter fun x => !decide (x.b ∈ s)) = [] := List.filter_eq_nil_iff.2 fun x hx => by simp [ha x hx]
  have hp := r.p
  rw [this, List.map_nil] at hp
  have := hp.symm.eq_nil
  simpa using this
theorem alloc_all {h : Hp} (k : h.Ok 8) (hl : h.l = []) : ∃ h', hAlloc h 512 = (h', 0, 0) := by
  have hs := k.s
  unfold hAlloc
  rw [if_neg (by decide), if_neg (by omega), hl]
  have : gapA (up8 512) 0 [] + up8 512 ≤ (h.s.length : Int) := by
    show (0 : Int) + up8 512 ≤ _
    have : up8 512 = 512 := by decide
    omega
  rw [if_pos this]
  exact ⟨_, rfl⟩
end Go.Proofs.Ytjacmhaeemhinaa

namespace Go.Proofs.Ytjacmhaeemhinaa
open Go.RowKit
set_option linter.unusedVariables false
set_option linter.unusedSimpArgs false
set_option maxRecDepth 100000
set_option maxHeartbeats 4000000
theorem len_le {n : Nat} (h : n ≤ maxLen) : (n : Int) ≤ 9223372036854775807 := by
  have h2 : (maxLen : Int) ≤ 9223372036854775807 := by decide
  omega
structure Op where
  kd : Int
  at_ : Int
  n : Int
  data : List UInt8
  short : Bool
structure HI where
  i : Nat
  h : Hp
end Go.Proofs.Ytjacmhaeemhinaa

namespace Go.Proofs.Ytjacmhaeemhinaa
open Go.RowKit
set_option linter.unusedVariables false
set_option linter.unusedSimpArgs false
set_option maxRecDepth 100000
set_option maxHeartbeats 4000000
def zi (z : Int) : AV := .int .i64 z
theorem zi_at (l : List Int) (i : Nat) (h : i < l.length) {j : Nat} (hj : j = i) : (l.map zi)[j]?.getD .any = .int .i64 l[i] := by
  subst hj; simp [h, zi]
theorem mtA : MapT Try.prog 35 .i64 3 (.int .i64 0) := ⟨⟨_, Try.underlying35, Try.underlying3⟩, by kernel_rfl⟩
structure HS where
  h : Hp
  es : List En
  ck : Nat
structure HS.Ok (x : HS) (i : Nat) : Prop where
  k : x.h.Ok 8
  r : HR x.h x.es i
  m : MOk x.es x.ck
theorem heapBlocks_ok (l : List Int) (hL : (l.length : Int) ≤ 9223372036854775807) (turn : Int) (ht : -9223372036854775808 ≤ turn ∧ turn ≤ 9223372036854775807) :
    ACall Try.prog 4 [.sl false 1 (l.map zi), .int .i64 turn] (.bool true) [] := by
  have hl := lives_ok
  have el : (l.map zi).length = l.length := by simp
  by_cases h1 : 30 < l.length
  · refine acall_walk (N := 171) Try.func4 (by kernel_rfl) p_caravellaw10_HeapBlocks rfl ?_; unfold c_caravellaw10_HeapBlocks; dsimp only [enum, Nat.reduceAdd]
    (repeat (first | ((with_reducible show RG _ _ (_ :: _) _ _ _); refine RG.go1 (k := ?_)) | ((with_reducible show DG _ _ (_ :: _) _ _ _ _ _); refine DG.go1 (k := ?_)) | (with_reducible first | apply RG.nil | apply W.seq | apply W.reg | apply W.skip | apply W.block | apply W.drw | apply DG.nil | refine W.done (QB.n ?_)) | refine W.cndT ?_ | refine W.cndF ?_))
    (first | ((with_reducible show RG _ _ (_ :: _) _ _ _); refine RG.ca (hl) (k := ?_)) | ((with_reducible show DG _ _ (_ :: _) _ _ _ _ _); refine DG.ca (hl) (k := ?_)))
    (repeat (first | ((with_reducible show RG _ _ (_ :: _) _ _ _); refine RG.go1 (k := ?_)) | ((with_reducible show DG _ _ (_ :: _) _ _ _ _ _); refine DG.go1 (k := ?_)) | (with_reducible first | apply RG.nil | apply W.seq | apply W.reg | apply W.skip | apply W.block | apply W.drw | apply DG.nil | refine W.done (QB.n ?_)) | refine W.cndT ?_ | refine W.cndF ?_))
    (first | ((with_reducible show RG _ _ (_ :: _) _ _ _); refine RG.ca (hl) (k := ?_)) | ((with_reducible show DG _ _ (_ :: _) _ _ _ _ _); refine DG.ca (hl) (k := ?_)))
    (repeat (first | ((with_reducible show RG _ _ (_ :: _) _ _ _); refine RG.go1 (k := ?_)) | ((with_reducible show DG _ _ (_ :: _) _ _ _ _ _); refine DG.go1 (k := ?_)) | (with_reducible first | apply RG.nil | apply W.seq | apply W.reg | apply W.skip | apply W.block | apply W.drw | apply DG.nil | refine W.done (QB.n ?_)) | refine W.cndT ?_ | refine W.cndF ?_))
    (refine W.ret ?_; (repeat (with_reducible first | refine QB.r ?_ | refine QL.r ?_ | refine QC.r ?_)); refine QF.r ?_)
    exact RetOk.rs (vs := [_]) r_caravellaw10_HeapBlocks []
  have cn := hNewC_ok (m := 8) (by decide) (by decide)
  have k0 := hnew_ok (n := 8) (by decide) (by decide)
  have l0 : (hnew 8).l = [] := rfl
  unfold hv at cn
  refine acall_walk (N := 171) Try.func4 (by kernel_rfl) p_caravellaw10_HeapBlocks rfl ?_; unfold c_caravellaw10_HeapBlocks; dsimp only [enum, Nat.reduceAdd]
  (repeat (first | ((with_reducible show RG _ _ (_ :: _) _ _ _); refine RG.go1 (k := ?_)) | ((with_reducible show DG _ _ (_ :: _) _ _ _ _ _); refine DG.go1 (k := ?_)) | (with_reducible first | apply RG.nil | apply W.seq | apply W.reg | apply W.skip | apply W.block | apply W.drw | apply DG.nil | refine W.done (QB.n ?_)) | refine W.cndT ?_ | refine W.cndF ?_))
  (first | ((with_reducible show RG _ _ (_ :: _) _ _ _); refine RG.ca (hl) (k := ?_)) | ((with_reducible show DG _ _ (_ :: _) _ _ _ _ _); refine DG.ca (hl) (k := ?_)))
  (repeat (first | ((with_reducible show RG _ _ (_ :: _) _ _ _); refine RG.go1 (k := ?_)) | ((with_reducible show DG _ _ (_ :: _) _ _ _ _ _); refine DG.go1 (k := ?_)) | (with_reducible first | apply RG.nil | apply W.seq | apply W.reg | apply W.skip | apply W.block | apply W.drw | apply DG.nil | refine W.done (QB.n ?_)) | refine W.cndT ?_ | refine W.cndF ?_))
  (first | ((with_reducible show RG _ _ (_ :: _) _ _ _); refine RG.ca (cn) (k := ?_)) | ((with_reducible show DG _ _ (_ :: _) _ _ _ _ _); refine DG.ca (cn) (k := ?_)))
  (repeat (first | ((with_reducible show RG _ _ (_ :: _) _ _ _); refine RG.go1 (k := ?_)) | ((with_reducible show DG _ _ (_ :: _) _ _ _ _ _); refine DG.go1 (k := ?_)) | (with_reducible first | apply RG.nil | apply W.seq | apply W.reg | apply W.skip | apply W.block | apply W.drw | apply DG.nil | refine W.done (QB.n ?_)) | refine W.cndT ?_ | refine W.cndF ?_))
  (refine RG.mpN (mtA) (K := ?_))
  (repeat (first | ((with_reducible show RG _ _ (_ :: _) _ _ _); refine RG.go1 (k := ?_)) | ((with_reducible show DG _ _ (_ :: _) _ _ _ _ _); refine DG.go1 (k := ?_)) | (with_reducible first | apply RG.nil | apply W.seq | apply W.reg | apply W.skip | apply W.block | apply W.drw | apply DG.nil | refine W.done (QB.n ?_)) | refine W.cndT ?_ | refine W.cndF ?_))
  refine W.loop (ι := {q : Nat × HS // q.1 ≤ l.length ∧ q.2.Ok q.1}) (fun q => ⟨[(47, .int .i64 q.1.1), (46, .int .i64 l.length), (45, .sl false 1 (l.map zi)), (7, .mptr 0), (5, .bptr 0 0), (1, .int .i64 turn)], [some [.sl false 1 (q.1.2.h.s.map by8), .sl false 2 (q.1.2.h.l.map bk), .sl false 1 (q.1.2.h.d.map bo)]], [some (mapR .i64 q.1.2.es q.1.2.ck)], 1, 1⟩) (fun q => l.length - q.1.1) ⟨⟨0, ⟨hnew 8, [], 0⟩⟩, Nat.zero_le _, ⟨k0, HR.nil l0, MOk.nil _⟩⟩ ?_ ?_
  · dsimp only
    rw [el]
    exact Wk.rn ([0] ) ( [0])
  clear cn k0 l0 hl
  rintro ⟨⟨i, x⟩, hi, hx⟩
  dsimp only at hi hx ⊢
  by_cases hlt : i < l.length
  · have hE := zi_at l i hlt (j := ((i : Nat) : Int).toNat) (by simp)
    generalize l[i] = z at *
    obtain ⟨n, hn⟩ : ∃ n, 1 + z % 18446744073709551616 % 90 = n := ⟨_, rfl⟩
    have hn1 : 1 ≤ n ∧ n ≤ 90 := by omega
    obtain ⟨h, es, ck⟩ := x
    dsimp only at hx ⊢
    have ca := hAllocC_ok hx.k n
    unfold hv at ca
    by_cases hg : gapA (up8 n) 0 h.l + up8 n ≤ h.s.length
    · obtain ⟨b, hb⟩ : ∃ b : UInt8, (b.toNat : Int) = i + 1 := ⟨UInt8.ofNat (i + 1), by simp; omega⟩
      have hby : ([b].map by8) = [.int .u8 ((i : Int) + 1)] := by show [AV.int .u8 (b.toNat : Int)] = _; rw [hb]
      obtain ⟨h1', a, e1, k1, a0, a1, h2, e2, k2, r2⟩ := HR.alloc (ck := ck) hx.k hx.r (by omega) hn1 hg hb
      have cs := hStoreC_ok k1 a (by omega) [b] (by simp)
      have m2 := hx.m.upd (i : Int) (.int .i64 a)
      rw [e1] at ca
      rw [e2, hby] at cs
      unfold hv at cs
      dsimp only at ca cs m2
      obtain ⟨es2, hes2⟩ : ∃ z, updE (i : Int) (.int .i64 a) ck es = z := ⟨_, rfl⟩
      obtain ⟨ck2, hck2⟩ : ∃ z, updC (i : Int) ck es = z := ⟨_, rfl⟩
      rw [hes2, hck2] at m2
      rw [hes2] at r2
      clear e1 e2 hby hb hg k1
      (repeat (first | ((with_reducible show RG _ _ (_ :: _) _ _ _); refine RG.go1 (k := ?_)) | ((with_reducible show DG _ _ (_ :: _) _ _ _ _ _); refine DG.go1 (k := ?_)) | (with_reducible first | apply RG.nil | apply W.seq | apply W.reg | apply W.skip | apply W.block | apply W.drw | apply DG.nil | refine W.done (QB.n ?_)) | refine W.cndT ?_ | refine W.cndF ?_))
      (first | ((with_reducible show RG _ _ (_ :: _) _ _ _); refine RG.ew (cptr_of (hE) (by (conv => lhs; whnf) <;> exact rfl)) (k := ?_)) | ((with_reducible show DG _ _ (_ :: _) _ _ _ _ _); refine DG.ew (cptr_of (hE) (by (conv => lhs; whnf) <;> exact rfl)) (k := ?_)))
      (repeat (first | ((with_reducible show RG _ _ (_ :: _) _ _ _); refine RG.go1 (k := ?_)) | ((with_reducible show DG _ _ (_ :: _) _ _ _ _ _); refine DG.go1 (k := ?_)) | (with_reducible first | apply RG.nil | apply W.seq | apply W.reg | apply W.skip | apply W.block | apply W.drw | apply DG.nil | refine W.done (QB.n ?_)) | refine W.cndT ?_ | refine W.cndF ?_))
      rw [hn]
      (first | ((with_reducible show RG _ _ (_ :: _) _ _ _); refine RG.ca (ca) (k := ?_)) | ((with_reducible show DG _ _ (_ :: _) _ _ _ _ _); refine DG.ca (ca) (k := ?_)))
      (repeat (first | ((with_reducible show RG _ _ (_ :: _) _ _ _); refine RG.go1 (k := ?_)) | ((with_reducible show DG _ _ (_ :: _) _ _ _ _ _); refine DG.go1 (k := ?_)) | (with_reducible first | apply RG.nil | apply W.seq | apply W.reg | apply W.skip | apply W.block | apply W.drw | apply DG.nil | refine W.done (QB.n ?_)) | refine W.cndT ?_ | refine W.cndF ?_))
      (first | ((with_reducible show RG _ _ (_ :: _) _ _ _); refine RG.ca (cs) (k := ?_)) | ((with_reducible show DG _ _ (_ :: _) _ _ _ _ _); refine DG.ca (cs) (k := ?_)))
      (repeat (first | ((with_reducible show RG _ _ (_ :: _) _ _ _); refine RG.go1 (k := ?_)) | ((with_reducible show DG _ _ (_ :: _) _ _ _ _ _); refine DG.go1 (k := ?_)) | (with_reducible first | apply RG.nil | apply W.seq | apply W.reg | apply W.skip | apply W.block | apply W.drw | apply DG.nil | refine W.done (QB.n ?_)) | refine W.cndT ?_ | refine W.cndF ?_))
      (refine RG.mpU (mtA) (K := ?_))
      rw [hes2, hck2]
      (repeat (first | ((with_reducible show RG _ _ (_ :: _) _ _ _); refine RG.go1 (k := ?_)) | ((with_reducible show DG _ _ (_ :: _) _ _ _ _ _); refine DG.go1 (k := ?_)) | with_reducible apply RG.nil | with_reducible apply DG.nil))
      with_reducible apply W.seq
      refine W.cut (ι := {x : HS // x.Ok (i + 1)}) (fun q => ⟨[(47, .int .i64 i), (46, .int .i64 l.length), (45, .sl false 1 (l.map zi)), (7, .mptr 0), (5, .bptr 0 0), (1, .int .i64 turn)], [some [.sl false 1 (q.1.h.s.map by8), .sl false 2 (q.1.h.l.map bk), .sl false 1 (q.1.h.d.map bo)]], [some (mapR .i64 q.1.es q.1.ck)], 1, 1⟩) ?_ (by simp) ?_
      · obtain ⟨g, hgg⟩ : ∃ g, (i : Int) - 1 - turn % 18446744073709551616 % 3 = g := ⟨_, rfl⟩
        by_cases hg0 : 0 ≤ g
        · cases hge : getE g es2 with
          | none =>
            (repeat (first | ((with_reducible show RG _ _ (_ :: _) _ _ _); refine RG.go1 (k := ?_)) | ((with_reducible show DG _ _ (_ :: _) _ _ _ _ _); refine DG.go1 (k := ?_)) | (with_reducible first | apply RG.nil | apply W.seq | apply W.reg | apply W.skip | apply W.block | apply W.drw | apply DG.nil | refine W.done (QB.n ?_)) | refine W.cndT ?_ | refine W.cndF ?_))
            rw [hgg]
            (repeat (first | ((with_reducible show RG _ _ (_ :: _) _ _ _); refine RG.go1 (k := ?_)) | ((with_reducible show DG _ _ (_ :: _) _ _ _ _ _); refine DG.go1 (k := ?_)) | (with_reducible first | apply RG.nil | apply W.seq | apply W.reg | apply W.skip | apply W.block | apply W.drw | apply DG.nil | refine W.done (QB.n ?_)) | refine W.cndT ?_ | refine W.cndF ?_))
            (refine RG.mpL3 (mtA) ((show cst ((getE g es2).getD (.int .i64 0)) = .int .i64 0 by rw [hge]; rfl)) ((show (getE g es2).isSome = false by rw [hge]; rfl)) (K := ?_))
            (repeat (first | ((with_reducible show RG _ _ (_ :: _) _ _ _); refine RG.go1 (k := ?_)) | ((with_reducible show DG _ _ (_ :: _) _ _ _ _ _); refine DG.go1 (k := ?_)) | (with_reducible first | apply RG.nil | apply W.seq | apply W.reg | apply W.skip | apply W.block | apply W.drw | apply DG.nil | refine W.done (QB.n ?_)) | refine W.cndT ?_ | refine W.cndF ?_))
            refine W.done (QC.n (⟨⟨h2, es2, ck2⟩, ⟨k2, r2, m2⟩⟩) ?_)
            exact Wk.rn ([0] ) ( [0])
          | some v =>
            obtain ⟨a3, h3, rfl, f1, k3, r3⟩ := HR.free k2 r2 hge
            have cf := hFreeC_ok k2 a3
            rw [f1] at cf
            unfold hv at cf
            dsimp only at cf
            have m3 := m2.sub (del_sub g es2)
            (repeat (first | ((with_reducible show RG _ _ (_ :: _) _ _ _); refine RG.go1 (k := ?_)) | ((with_reducible show DG _ _ (_ :: _) _ _ _ _ _); refine DG.go1 (k := ?_)) | (with_reducible first | apply RG.nil | apply W.seq | apply W.reg | apply W.skip | apply W.block | apply W.drw | apply DG.nil | refine W.done (QB.n ?_)) | refine W.cndT ?_ | refine W.cndF ?_))
            rw [hgg]
            (repeat (first | ((with_reducible show RG _ _ (_ :: _) _ _ _); refine RG.go1 (k := ?_)) | ((with_reducible show DG _ _ (_ :: _) _ _ _ _ _); refine DG.go1 (k := ?_)) | (with_reducible first | apply RG.nil | apply W.seq | apply W.reg | apply W.skip | apply W.block | apply W.drw | apply DG.nil | refine W.done (QB.n ?_)) | refine W.cndT ?_ | refine W.cndF ?_))
            (refine RG.mpL3 (mtA) ((show cst ((getE g es2).getD (.int .i64 0)) = .int .i64 a3 by rw [hge]; rfl)) ((show (getE g es2).isSome = true by rw [hge]; rfl)) (K := ?_))
            (repeat (first | ((with_reducible show RG _ _ (_ :: _) _ _ _); refine RG.go1 (k := ?_)) | ((with_reducible show DG _ _ (_ :: _) _ _ _ _ _); refine DG.go1 (k := ?_)) | (with_reducible first | apply RG.nil | apply W.seq | apply W.reg | apply W.skip | apply W.block | apply W.drw | apply DG.nil | refine W.done (QB.n ?_)) | refine W.cndT ?_ | refine W.cndF ?_))
            (first | ((with_reducible show RG _ _ (_ :: _) _ _ _); refine RG.ca (cf) (k := ?_)) | ((with_reducible show DG _ _ (_ :: _) _ _ _ _ _); refine DG.ca (cf) (k := ?_)))
            (repeat (first | ((with_reducible show RG _ _ (_ :: _) _ _ _); refine RG.go1 (k := ?_)) | ((with_reducible show DG _ _ (_ :: _) _ _ _ _ _); refine DG.go1 (k := ?_)) | (with_reducible first | apply RG.nil | apply W.seq | apply W.reg | apply W.skip | apply W.block | apply W.drw | apply DG.nil | refine W.done (QB.n ?_)) | refine W.cndT ?_ | refine W.cndF ?_))
            (refine RG.mpD0 (mtA) (K := ?_))
            (repeat (first | ((with_reducible show RG _ _ (_ :: _) _ _ _); refine RG.go1 (k := ?_)) | ((with_reducible show DG _ _ (_ :: _) _ _ _ _ _); refine DG.go1 (k := ?_)) | (with_reducible first | apply RG.nil | apply W.seq | apply W.reg | apply W.skip | apply W.block | apply W.drw | apply DG.nil | refine W.done (QB.n ?_)) | refine W.cndT ?_ | refine W.cndF ?_))
            refine W.done (QC.n (⟨⟨h3, _, ck2⟩, ⟨k3, r3, m3⟩⟩) ?_)
            exact Wk.rn ([0] ) ( [0])
        · (repeat (first | ((with_reducible show RG _ _ (_ :: _) _ _ _); refine RG.go1 (k := ?_)) | ((with_reducible show DG _ _ (_ :: _) _ _ _ _ _); refine DG.go1 (k := ?_)) | (with_reducible first | apply RG.nil | apply W.seq | apply W.reg | apply W.skip | apply W.block | apply W.drw | apply DG.nil | refine W.done (QB.n ?_)) | refine W.cndT ?_ | refine W.cndF ?_))
          rw [hgg]
          (repeat (first | ((with_reducible show RG _ _ (_ :: _) _ _ _); refine RG.go1 (k := ?_)) | ((with_reducible show DG _ _ (_ :: _) _ _ _ _ _); refine DG.go1 (k := ?_)) | (with_reducible first | apply RG.nil | apply W.seq | apply W.reg | apply W.skip | apply W.block | apply W.drw | apply DG.nil | refine W.done (QB.n ?_)) | refine W.cndT ?_ | refine W.cndF ?_))
          refine W.done (QC.n (⟨⟨h2, es2, ck2⟩, ⟨k2, r2, m2⟩⟩) ?_)
          exact Wk.rn ([0] ) ( [0])
      clear k2 r2 m2 hes2 hck2 ca cs hE hn
      rintro ⟨⟨h3, es3, ck3⟩, k3, r3, m3⟩
      dsimp only at k3 r3 m3 ⊢
      (repeat (first | ((with_reducible show RG _ _ (_ :: _) _ _ _); refine RG.go1 (k := ?_)) | ((with_reducible show DG _ _ (_ :: _) _ _ _ _ _); refine DG.go1 (k := ?_)) | (with_reducible first | apply RG.nil | apply W.seq | apply W.reg | apply W.skip | apply W.block | apply W.drw | apply DG.nil | refine W.done (QB.n ?_)) | refine W.cndT ?_ | refine W.cndF ?_))
      (refine RG.itN (mtA) (K := ?_))
      (repeat (first | ((with_reducible show RG _ _ (_ :: _) _ _ _); refine RG.go1 (k := ?_)) | ((with_reducible show DG _ _ (_ :: _) _ _ _ _ _); refine DG.go1 (k := ?_)) | (with_reducible first | apply RG.nil | apply W.seq | apply W.reg | apply W.skip | apply W.block | apply W.drw | apply DG.nil | refine W.done (QB.n ?_)) | refine W.cndT ?_ | refine W.cndF ?_))
      refine W.loop (ι := List Nat) (fun s => ⟨[(114, .itr 1 0), (47, .int .i64 i), (46, .int .i64 l.length), (45, .sl false 1 (l.map zi)), (7, .mptr 0), (5, .bptr 0 0), (1, .int .i64 turn)], [some [.sl false 1 (h3.s.map by8), .sl false 2 (h3.l.map bk), .sl false 1 (h3.d.map bo)]], [some (mapR .i64 es3 ck3), some (itR ck3 s ck3)], 1, 2⟩) (fun s => (es3.filter fun e => !decide (e.b ∈ s)).length) [] ?_ ?_
      · exact Wk.rn ([0] ) ( [0, 1])
      intro s
      (repeat (first | ((with_reducible show RG _ _ (_ :: _) _ _ _); refine RG.go1 (k := ?_)) | ((with_reducible show DG _ _ (_ :: _) _ _ _ _ _); refine DG.go1 (k := ?_)) | (with_reducible first | apply RG.nil | apply W.seq | apply W.reg | apply W.skip | apply W.block | apply W.drw | apply DG.nil | refine W.done (QB.n ?_)) | refine W.cndT ?_ | refine W.cndF ?_))
      (refine RG.nxt (m3.c) (K0 := ?_) (K1 := ?_))
      · intro _
        (repeat (first | ((with_reducible show RG _ _ (_ :: _) _ _ _); refine RG.go1 (k := ?_)) | ((with_reducible show DG _ _ (_ :: _) _ _ _ _ _); refine DG.go1 (k := ?_)) | (with_reducible first | apply RG.nil | apply W.seq | apply W.reg | apply W.skip | apply W.block | apply W.drw | apply DG.nil | refine W.done (QB.n ?_)) | refine W.cndT ?_ | refine W.cndF ?_))
        (refine W.exit ?_; (repeat (first | (with_reducible first | refine QL.x ?_ | refine QC.x ?_ | refine QB.x ?_) | (with_reducible refine QB.o (by decide) ?_))))
        (repeat (first | ((with_reducible show RG _ _ (_ :: _) _ _ _); refine RG.go1 (k := ?_)) | ((with_reducible show DG _ _ (_ :: _) _ _ _ _ _); refine DG.go1 (k := ?_)) | (with_reducible first | apply RG.nil | apply W.seq | apply W.reg | apply W.skip | apply W.block | apply W.drw | apply DG.nil | refine W.done (QB.n ?_)) | refine W.cndT ?_ | refine W.cndF ?_))
        refine W.done (QL.n (⟨⟨i + 1, ⟨h3, es3, ck3⟩⟩, by dsimp only; omega, ⟨k3, r3, m3⟩⟩) ?_ ?_)
        · dsimp only
          exact Wk.rn ([0] ) ( [0])
        · dsimp only; omega
      · intro e he hne rw' hrw
        dsimp only [setO] at hrw
        subst hrw
        obtain ⟨u, ld, hu, v0, v1⟩ := HR.load k3 r3 he
        have hve := r3.v e he
        obtain ⟨ke0, ke1⟩ := r3.k e he
        have cl := hLoadC_ok k3 (vA e.v) 1 (by omega)
        rw [ld] at cl
        unfold hv at cl
        dsimp only [List.map, List.length] at cl
        (repeat (first | ((with_reducible show RG _ _ (_ :: _) _ _ _); refine RG.go1 (k := ?_)) | ((with_reducible show DG _ _ (_ :: _) _ _ _ _ _); refine DG.go1 (k := ?_)) | (with_reducible first | apply RG.nil | apply W.seq | apply W.reg | apply W.skip | apply W.block | apply W.drw | apply DG.nil | refine W.done (QB.n ?_)) | refine W.cndT ?_ | refine W.cndF ?_))
        (refine RG.ent (he) (m3.b) ((show cst e.v = .int .i64 (vA e.v) by rw [hve]; rfl)) (K := ?_))
        (repeat (first | ((with_reducible show RG _ _ (_ :: _) _ _ _); refine RG.go1 (k := ?_)) | ((with_reducible show DG _ _ (_ :: _) _ _ _ _ _); refine DG.go1 (k := ?_)) | (with_reducible first | apply RG.nil | apply W.seq | apply W.reg | apply W.skip | apply W.block | apply W.drw | apply DG.nil | refine W.done (QB.n ?_)) | refine W.cndT ?_ | refine W.cndF ?_))
        (first | ((with_reducible show RG _ _ (_ :: _) _ _ _); refine RG.ca (cl) (k := ?_)) | ((with_reducible show DG _ _ (_ :: _) _ _ _ _ _); refine DG.ca (cl) (k := ?_)))
        (repeat (first | ((with_reducible show RG _ _ (_ :: _) _ _ _); refine RG.go1 (k := ?_)) | ((with_reducible show DG _ _ (_ :: _) _ _ _ _ _); refine DG.go1 (k := ?_)) | (with_reducible first | apply RG.nil | apply W.seq | apply W.reg | apply W.skip | apply W.block | apply W.drw | apply DG.nil | refine W.done (QB.n ?_)) | refine W.cndT ?_ | refine W.cndF ?_))
        (first | ((with_reducible show RG _ _ (_ :: _) _ _ _); refine RG.ewg ((ix_of (show 0 + (0 : Int).toNat = 0 from rfl))) (k := ?_)) | ((with_reducible show DG _ _ (_ :: _) _ _ _ _ _); refine DG.ewg ((ix_of (show 0 + (0 : Int).toNat = 0 from rfl))) (k := ?_)))
        (repeat (first | ((with_reducible show RG _ _ (_ :: _) _ _ _); refine RG.go1 (k := ?_)) | ((with_reducible show DG _ _ (_ :: _) _ _ _ _ _); refine DG.go1 (k := ?_)) | (with_reducible first | apply RG.nil | apply W.seq | apply W.reg | apply W.skip | apply W.block | apply W.drw | apply DG.nil | refine W.done (QB.n ?_))))
        (first | ((with_reducible show RG _ _ (_ :: _) _ _ _); refine RG.gld ((show ([by8 u] : List AV)[0]?.getD .any = .int .u8 (u.toNat : Int) from rfl)) (k := ?_)) | ((with_reducible show DG _ _ (_ :: _) _ _ _ _ _); refine DG.gld ((show ([by8 u] : List AV)[0]?.getD .any = .int .u8 (u.toNat : Int) from rfl)) (k := ?_)))
        (repeat (first | ((with_reducible show RG _ _ (_ :: _) _ _ _); refine RG.go1 (k := ?_)) | ((with_reducible show DG _ _ (_ :: _) _ _ _ _ _); refine DG.go1 (k := ?_)) | (with_reducible first | apply RG.nil | apply W.seq | apply W.reg | apply W.skip | apply W.block | apply W.drw | apply DG.nil | refine W.done (QB.n ?_)) | refine W.cndT ?_ | refine W.cndF ?_))
        refine W.done (QL.n ((s ++ [e.b])) ?_ ?_)
        · exact Wk.rn ([0] ) ( [0, 1])
        · exact unseen_lt he hne
    · have e1 : hAlloc h n = (h, 0, 5) := by
        have := hx.k.s
        dsimp only at this
        unfold hAlloc
        rw [if_neg (by omega), if_neg (by omega), if_neg hg]
      rw [e1] at ca
      dsimp only at ca
      (repeat (first | ((with_reducible show RG _ _ (_ :: _) _ _ _); refine RG.go1 (k := ?_)) | ((with_reducible show DG _ _ (_ :: _) _ _ _ _ _); refine DG.go1 (k := ?_)) | (with_reducible first | apply RG.nil | apply W.seq | apply W.reg | apply W.skip | apply W.block | apply W.drw | apply DG.nil | refine W.done (QB.n ?_)) | refine W.cndT ?_ | refine W.cndF ?_))
      (first | ((with_reducible show RG _ _ (_ :: _) _ _ _); refine RG.ew (cptr_of (hE) (by (conv => lhs; whnf) <;> exact rfl)) (k := ?_)) | ((with_reducible show DG _ _ (_ :: _) _ _ _ _ _); refine DG.ew (cptr_of (hE) (by (conv => lhs; whnf) <;> exact rfl)) (k := ?_)))
      (repeat (first | ((with_reducible show RG _ _ (_ :: _) _ _ _); refine RG.go1 (k := ?_)) | ((with_reducible show DG _ _ (_ :: _) _ _ _ _ _); refine DG.go1 (k := ?_)) | (with_reducible first | apply RG.nil | apply W.seq | apply W.reg | apply W.skip | apply W.block | apply W.drw | apply DG.nil | refine W.done (QB.n ?_)) | refine W.cndT ?_ | refine W.cndF ?_))
      rw [hn]
      (first | ((with_reducible show RG _ _ (_ :: _) _ _ _); refine RG.ca (ca) (k := ?_)) | ((with_reducible show DG _ _ (_ :: _) _ _ _ _ _); refine DG.ca (ca) (k := ?_)))
      (repeat (first | ((with_reducible show RG _ _ (_ :: _) _ _ _); refine RG.go1 (k := ?_)) | ((with_reducible show DG _ _ (_ :: _) _ _ _ _ _); refine DG.go1 (k := ?_)) | (with_reducible first | apply RG.nil | apply W.seq | apply W.reg | apply W.skip | apply W.block | apply W.drw | apply DG.nil | refine W.done (QB.n ?_)) | refine W.cndT ?_ | refine W.cndF ?_))
      (refine W.exit ?_; (repeat (first | (with_reducible first | refine QL.x ?_ | refine QC.x ?_ | refine QB.x ?_) | (with_reducible refine QB.o (by decide) ?_))))
      (repeat (first | ((with_reducible show RG _ _ (_ :: _) _ _ _); refine RG.go1 (k := ?_)) | ((with_reducible show DG _ _ (_ :: _) _ _ _ _ _); refine DG.go1 (k := ?_)) | (with_reducible first | apply RG.nil | apply W.seq | apply W.reg | apply W.skip | apply W.block | apply W.drw | apply DG.nil | refine W.done (QB.n ?_)) | refine W.cndT ?_ | refine W.cndF ?_))
      refine W.done (QL.n (⟨⟨i + 1, ⟨h, es, ck⟩⟩, by dsimp only; omega, ⟨hx.k, hx.r.more, hx.m⟩⟩) ?_ ?_)
      · dsimp only
        exact Wk.rn ([0] ) ( [0])
      · dsimp only; omega
  obtain rfl : i = l.length := by omega
  have hfr := HR.fr hx.k hx.r
  have m3 := hx.m
  have r3 := hx.r
  obtain ⟨h, es, ck⟩ := x
  dsimp only at hfr m3 r3 ⊢
  (repeat (first | ((with_reducible show RG _ _ (_ :: _) _ _ _); refine RG.go1 (k := ?_)) | ((with_reducible show DG _ _ (_ :: _) _ _ _ _ _); refine DG.go1 (k := ?_)) | (with_reducible first | apply RG.nil | apply W.seq | apply W.reg | apply W.skip | apply W.block | apply W.drw | apply DG.nil | refine W.done (QB.n ?_)) | refine W.cndT ?_ | refine W.cndF ?_))
  (refine W.exit ?_; (repeat (first | (with_reducible first | refine QL.x ?_ | refine QC.x ?_ | refine QB.x ?_) | (with_reducible refine QB.o (by decide) ?_))))
  (repeat (first | ((with_reducible show RG _ _ (_ :: _) _ _ _); refine RG.go1 (k := ?_)) | ((with_reducible show DG _ _ (_ :: _) _ _ _ _ _); refine DG.go1 (k := ?_)) | (with_reducible first | apply RG.nil | apply W.seq | apply W.reg | apply W.skip | apply W.block | apply W.drw | apply DG.nil | refine W.done (QB.n ?_)) | refine W.cndT ?_ | refine W.cndF ?_))
  (refine RG.itN (mtA) (K := ?_))
  (repeat (first | ((with_reducible show RG _ _ (_ :: _) _ _ _); refine RG.go1 (k := ?_)) | ((with_reducible show DG _ _ (_ :: _) _ _ _ _ _); refine DG.go1 (k := ?_)) | (with_reducible first | apply RG.nil | apply W.seq | apply W.reg | apply W.skip | apply W.block | apply W.drw | apply DG.nil | refine W.done (QB.n ?_)) | refine W.cndT ?_ | refine W.cndF ?_))
  refine W.loop (ι := {q : List Nat × Hp // FR q.2 es q.1}) (fun q => ⟨[(139, .itr 1 0), (7, .mptr 0), (5, .bptr 0 0)], [some [.sl false 1 (q.1.2.s.map by8), .sl false 2 (q.1.2.l.map bk), .sl false 1 (q.1.2.d.map bo)]], [some (mapR .i64 es ck), some (itR ck q.1.1 ck)], 1, 2⟩) (fun q => (es.filter fun e => !decide (e.b ∈ q.1.1)).length) ⟨⟨[], h⟩, hfr⟩ ?_ ?_
  · dsimp only
    exact Wk.rn ([0] ) ( [0, 1])
  rintro ⟨⟨s, h2⟩, hf⟩
  dsimp only at hf ⊢
  (repeat (first | ((with_reducible show RG _ _ (_ :: _) _ _ _); refine RG.go1 (k := ?_)) | ((with_reducible show DG _ _ (_ :: _) _ _ _ _ _); refine DG.go1 (k := ?_)) | (with_reducible first | apply RG.nil | apply W.seq | apply W.reg | apply W.skip | apply W.block | apply W.drw | apply DG.nil | refine W.done (QB.n ?_)) | refine W.cndT ?_ | refine W.cndF ?_))
  (refine RG.nxt (m3.c) (K0 := ?_) (K1 := ?_))
  · intro hall
    have hnil := hf.done hall
    obtain ⟨h3, e3⟩ := alloc_all hf.k hnil
    have ca := hAllocC_ok hf.k 512
    rw [e3] at ca
    unfold hv at ca
    rw [hnil] at ca ⊢
    dsimp only [List.map] at ca ⊢
    (repeat (first | ((with_reducible show RG _ _ (_ :: _) _ _ _); refine RG.go1 (k := ?_)) | ((with_reducible show DG _ _ (_ :: _) _ _ _ _ _); refine DG.go1 (k := ?_)) | (with_reducible first | apply RG.nil | apply W.seq | apply W.reg | apply W.skip | apply W.block | apply W.drw | apply DG.nil | refine W.done (QB.n ?_)) | refine W.cndT ?_ | refine W.cndF ?_))
    (refine W.exit ?_; (repeat (first | (with_reducible first | refine QL.x ?_ | refine QC.x ?_ | refine QB.x ?_) | (with_reducible refine QB.o (by decide) ?_))))
    (repeat (first | ((with_reducible show RG _ _ (_ :: _) _ _ _); refine RG.go1 (k := ?_)) | ((with_reducible show DG _ _ (_ :: _) _ _ _ _ _); refine DG.go1 (k := ?_)) | (with_reducible first | apply RG.nil | apply W.seq | apply W.reg | apply W.skip | apply W.block | apply W.drw | apply DG.nil | refine W.done (QB.n ?_)) | refine W.cndT ?_ | refine W.cndF ?_))
    (first | ((with_reducible show RG _ _ (_ :: _) _ _ _); refine RG.ca (ca) (k := ?_)) | ((with_reducible show DG _ _ (_ :: _) _ _ _ _ _); refine DG.ca (ca) (k := ?_)))
    (repeat (first | ((with_reducible show RG _ _ (_ :: _) _ _ _); refine RG.go1 (k := ?_)) | ((with_reducible show DG _ _ (_ :: _) _ _ _ _ _); refine DG.go1 (k := ?_)) | (with_reducible first | apply RG.nil | apply W.seq | apply W.reg | apply W.skip | apply W.block | apply W.drw | apply DG.nil | refine W.done (QB.n ?_)) | refine W.cndT ?_ | refine W.cndF ?_))
    (refine W.ret ?_; (repeat (with_reducible first | refine QB.r ?_ | refine QL.r ?_ | refine QC.r ?_)); refine QF.r ?_)
    exact RetOk.rs (vs := [_]) r_caravellaw10_HeapBlocks []
  · intro e he hne rw' hrw
    dsimp only [setO] at hrw
    subst hrw
    obtain ⟨h3, f1, f2⟩ := hf.step m3.b he hne
    have hve := r3.v e he
    have cf := hFreeC_ok hf.k (vA e.v)
    rw [f1] at cf
    unfold hv at cf
    dsimp only at cf
    (repeat (first | ((with_reducible show RG _ _ (_ :: _) _ _ _); refine RG.go1 (k := ?_)) | ((with_reducible show DG _ _ (_ :: _) _ _ _ _ _); refine DG.go1 (k := ?_)) | (with_reducible first | apply RG.nil | apply W.seq | apply W.reg | apply W.skip | apply W.block | apply W.drw | apply DG.nil | refine W.done (QB.n ?_)) | refine W.cndT ?_ | refine W.cndF ?_))
    (refine RG.ent (he) (m3.b) ((show cst e.v = .int .i64 (vA e.v) by rw [hve]; rfl)) (K := ?_))
    (repeat (first | ((with_reducible show RG _ _ (_ :: _) _ _ _); refine RG.go1 (k := ?_)) | ((with_reducible show DG _ _ (_ :: _) _ _ _ _ _); refine DG.go1 (k := ?_)) | (with_reducible first | apply RG.nil | apply W.seq | apply W.reg | apply W.skip | apply W.block | apply W.drw | apply DG.nil | refine W.done (QB.n ?_)) | refine W.cndT ?_ | refine W.cndF ?_))
    (first | ((with_reducible show RG _ _ (_ :: _) _ _ _); refine RG.ca (cf) (k := ?_)) | ((with_reducible show DG _ _ (_ :: _) _ _ _ _ _); refine DG.ca (cf) (k := ?_)))
    (repeat (first | ((with_reducible show RG _ _ (_ :: _) _ _ _); refine RG.go1 (k := ?_)) | ((with_reducible show DG _ _ (_ :: _) _ _ _ _ _); refine DG.go1 (k := ?_)) | (with_reducible first | apply RG.nil | apply W.seq | apply W.reg | apply W.skip | apply W.block | apply W.drw | apply DG.nil | refine W.done (QB.n ?_)) | refine W.cndT ?_ | refine W.cndF ?_))
    refine W.done (QL.n (⟨⟨s ++ [e.b], h3⟩, f2⟩) ?_ ?_)
    · dsimp only
      exact Wk.rn ([0] ) ( [0, 1])
    · dsimp only
      exact unseen_lt he hne
theorem Below.frame {W w' : World} (h : Below W.heap.size W w') (may : MemPlace → Prop) : W.keptBut w' may := by
  refine ⟨h.os, h.output, fun i hi => ?_⟩
  rw [h.block i hi]
  split <;> simp_all
theorem Below.same {W w' : World} (h : Below W.heap.size W w') {p : MemPlace} (hp : p.block < W.heap.size) : W.sameAt w' p := by
  cases p with
  | cell b o => exact World.cell?_of_block (w := W) (h.block b hp)
  | map b => exact h.block b hp
theorem Below.trod {H : Type} {enc : TypeId × Value → H} {P : Program} {t : TypeId} (hl : laidOutB P = true) (hr : P.readableRec t = true) (hrow : t < P.types.size) {W W' : World} {v : Value} {d : DataW H} {ps : List MemPlace}
    (h : DataW.Trod enc P W 0 (fun _ => true) true t v d ps) (hb : Below W.heap.size W W') (hlt : ∀ x ∈ ps, x.block < W.heap.size) :
    DataW.Trod enc P W' 0 (fun b => decide (b < W.heap.size)) true t v d ps :=
  WideElems.Trod_stays hl hr hrow h (fun x hx => hb.same (hlt x hx)) (fun x hx => by simpa using hlt x hx)
theorem HeapBlocks_walk {r : Reach} {b0 base : Nat} {H : Type} {enc : TypeId × Value → H} {spare : Nat → Bool} {held : Bool} {d : DataW H} {p : List MemPlace} (v : Value) (turn : Int) (W : World) (hv : Value.okWide Try.prog W r b0 31 v) (k : DataW.Trod enc Try.prog W base spare held 31 v d p) (ht : -9223372036854775808 ≤ turn ∧ turn ≤ 9223372036854775807) :
    Calls Try.prog 4 #[v, .int .i64 turn] W fun e W' => e = .returned (.bool true) ∧ Below W.heap.size W W' := by
  obtain ⟨av, hr, hf⟩ := arg_sl (n := 5) (ts := [.int .i64]) Try.underlying31 (by kernel_rfl) hv k
  obtain ⟨l, rfl, _, hl⟩ := hf.rows1 zi (fun _ => True) (fun c hc => by
    obtain ⟨z, rfl, hw⟩ := hc.int_inv
    exact ⟨z, rfl, trivial⟩)
  exact acall_lawF (heapBlocks_ok l (len_le hl) turn ht) W [_, _] ⟨.pure _ _ hr, .pure _ _ (.int _ _), trivial⟩
end Go.Proofs.Ytjacmhaeemhinaa
