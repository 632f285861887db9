/- WheelOnce, plainly: the wheel, and the map of what is due. -/
import Derived.Test.YtbkekpecfgmelaaWw4
import Derived.Test.YtbkekpecfgmelaaAxY
namespace Go.Proofs.Ytbkekpecfgmelaa
open Go.RowKit
set_option linter.unusedVariables false
set_option linter.unusedSimpArgs false
/-- A map whose entries stand apart. -/
structure MOk (es : List En) (ck : Nat) : Prop where
  k : (es.map (·.k)).Nodup
  b : (es.map (·.b)).Nodup
  c : ∀ e ∈ es, e.b < ck
theorem MOk.nil (ck : Nat) : MOk [] ck := ⟨by simp, by simp, fun e h => by cases h⟩
theorem set_ks (a : Int) (v : Value) : ∀ (l : List En), (setE a v l).map (·.k) = l.map (·.k) ∧ (setE a v l).map (·.b) = l.map (·.b)
  | [] => ⟨rfl, rfl⟩
  | e :: l => by
    unfold setE
    split
    · rename_i h
      exact ⟨by simp [h], by simp⟩
    · obtain ⟨h1, h2⟩ := set_ks a v l
      exact ⟨by simp [h1], by simp [h2]⟩
theorem has_iff {a : Int} {l : List En} : hasE a l = true ↔ ∃ e ∈ l, e.k = a := by
  unfold hasE
  rw [List.any_eq_true]
  constructor
  · rintro ⟨e, h1, h2⟩; exact ⟨e, h1, by simpa using (by simpa using h2 : a = e.k).symm⟩
  · rintro ⟨e, h1, h2⟩; exact ⟨e, h1, by simp [h2]⟩
theorem MOk.upd {es : List En} {ck : Nat} (h : MOk es ck) (a : Int) (v : Value) : MOk (updE a v ck es) (updC a ck es) := by
  unfold updE updC
  cases ha : hasE a es
  · rw [if_neg (by decide), if_neg (by decide)]
    refine ⟨?_, ?_, fun e he => ?_⟩
    · rw [List.map_append, List.nodup_append]
      refine ⟨h.k, by simp, fun x hx y hy => ?_⟩
      simp only [List.map_cons, List.map_nil, List.mem_singleton] at hy
      subst hy
      rintro rfl
      obtain ⟨e, he, e1⟩ := List.mem_map.1 hx
      have := has_iff.2 ⟨e, he, e1⟩
      rw [ha] at this; cases this
    · rw [List.map_append, List.nodup_append]
      refine ⟨h.b, by simp, fun x hx y hy => ?_⟩
      simp only [List.map_cons, List.map_nil, List.mem_singleton] at hy
      subst hy
      rintro rfl
      obtain ⟨e, he, e1⟩ := List.mem_map.1 hx
      have := h.c e he
      omega
    · rcases List.mem_append.1 he with he | he
      · have := h.c e he; omega
      · rw [List.mem_singleton.1 he]; exact Nat.lt_succ_self _
  · rw [if_pos rfl, if_pos rfl]
    obtain ⟨h1, h2⟩ := set_ks a v es
    refine ⟨by rw [h1]; exact h.k, by rw [h2]; exact h.b, fun e he => ?_⟩
    have : e.b ∈ (setE a v es).map (·.b) := List.mem_map.2 ⟨e, he, rfl⟩
    rw [h2] at this
    obtain ⟨e', h3, h4⟩ := List.mem_map.1 this
    rw [← h4]; exact h.c e' h3
theorem del_sub (a : Int) : ∀ (l : List En), (delE a l).Sublist l
  | [] => List.Sublist.slnil
  | e :: l => by
    unfold delE
    split
    · exact List.sublist_cons_self _ _
    · exact (del_sub a l).cons_cons _
theorem MOk.sub {es es' : List En} {ck : Nat} (h : MOk es ck) (hs : es'.Sublist es) : MOk es' ck :=
  ⟨h.k.sublist (hs.map _), h.b.sublist (hs.map _), fun e he => h.c e (hs.subset he)⟩
theorem get_none_iff {c : Int} {l : List En} : getE c l = none ↔ ∀ e ∈ l, e.k ≠ c := by
  have := get_has c l
  constructor
  · intro h e he q
    rw [h, has_iff.2 ⟨e, he, q⟩] at this; cases this
  · intro h
    cases hg : getE c l with
    | none => rfl
    | some v =>
      rw [hg] at this
      obtain ⟨e, he, q⟩ := has_iff.1 this.symm
      exact absurd q (h e he)
theorem get_mem {l : List En} (hn : (l.map (·.k)).Nodup) {e : En} (he : e ∈ l) : getE e.k l = some e.v := by
  induction l with
  | nil => cases he
  | cons x l ih =>
    rw [List.map_cons, List.nodup_cons] at hn
    unfold getE
    rcases List.mem_cons.1 he with q | q
    · rw [q, if_pos rfl]
    · rw [if_neg (fun h => hn.1 (List.mem_map.2 ⟨e, q, h⟩)), ih hn.2 q]
theorem get_del (a c : Int) {l : List En} (hn : (l.map (·.k)).Nodup) : getE c (delE a l) = if c = a then none else getE c l := by
  induction l with
  | nil => simp [delE, getE]
  | cons x l ih =>
    rw [List.map_cons, List.nodup_cons] at hn
    unfold delE
    by_cases h : a = x.k
    · rw [if_pos h]
      by_cases hc : c = a
      · rw [if_pos hc, get_none_iff]
        intro e he q
        exact hn.1 (List.mem_map.2 ⟨e, he, by show e.k = x.k; rw [q, hc, h]⟩)
      · rw [if_neg hc]
        conv => rhs; unfold getE
        rw [if_neg (by rw [← h]; exact hc)]
    · rw [if_neg h]
      unfold getE
      by_cases hc : c = x.k
      · rw [if_pos hc, if_pos hc, if_neg (fun q => h (q.symm.trans hc))]
      · rw [if_neg hc, if_neg hc, ih hn.2]
/-- Entries struck, one behind the other. -/
def dls (ids : List Int) (es : List En) : List En := ids.foldl (fun es c => delE c es) es
theorem dls_sub : ∀ (ids : List Int) (es : List En), (dls ids es).Sublist es
  | [], es => List.Sublist.refl _
  | c :: ids, es => (dls_sub ids (delE c es)).trans (del_sub c es)
theorem dls_get (c : Int) : ∀ (ids : List Int) {es : List En}, (es.map (·.k)).Nodup → getE c (dls ids es) = if c ∈ ids then none else getE c es
  | [], es, _ => by simp [dls]
  | a :: ids, es, hn => by
    show getE c (dls ids (delE a es)) = _
    rw [dls_get c ids (hn.sublist ((del_sub a es).map _)), get_del a c hn]
    by_cases h1 : c ∈ ids
    · rw [if_pos h1, if_pos (List.mem_cons_of_mem _ h1)]
    · rw [if_neg h1]
      by_cases h2 : c = a
      · rw [if_pos h2, if_pos (by rw [h2]; exact List.mem_cons_self ..)]
      · rw [if_neg h2, if_neg (by simp [h1, h2])]
theorem dls_snoc (ids : List Int) (c : Int) (es : List En) : dls (ids ++ [c]) es = delE c (dls ids es) := by simp [dls, List.foldl_append]
/-! ### The wheel -/
def tmA (l : List Tmr) (c : Int) : Option Tmr := l.find? fun t => decide (t.id = c)
theorem tm_some {l : List Tmr} (hd : Dif l) {t : Tmr} (ht : t ∈ l) : tmA l t.id = some t := by
  induction l with
  | nil => cases ht
  | cons x l ih =>
    unfold Dif at hd
    rw [List.pairwise_cons] at hd
    unfold tmA
    rw [List.find?_cons]
    rcases List.mem_cons.1 ht with q | q
    · rw [q]; simp
    · rw [decide_eq_false (hd.1 t q)]
      exact ih hd.2 q
theorem tm_none {l : List Tmr} {c : Int} : tmA l c = none ↔ ∀ t ∈ l, t.id ≠ c := by
  unfold tmA
  rw [List.find?_eq_none]
  simp
theorem tm_mem {l : List Tmr} {c : Int} {t : Tmr} (h : tmA l c = some t) : t ∈ l ∧ t.id = c :=
  ⟨List.mem_of_find?_eq_some h, by simpa using List.find?_some h⟩
theorem tm_app (l m : List Tmr) (c : Int) : tmA (l ++ m) c = (tmA l c).or (tmA m c) := by
  unfold tmA; rw [List.find?_append]
structure WI (now : Int) (l : List Tmr) : Prop where
  d : Dif l
  s : Srt l
  b : ∀ t ∈ l, now < t.at_ ∧ t.at_ ≤ now + 30
theorem WI.nil (now : Int) : WI now [] := ⟨List.Pairwise.nil, List.Pairwise.nil, fun t h => by cases h⟩
theorem WI.stop {now : Int} {l : List Tmr} (h : WI now l) (b : Int) : WI now (wout l b) :=
  ⟨List.Pairwise.sublist List.filter_sublist h.d, List.Pairwise.sublist List.filter_sublist h.s, fun t ht => h.b t (List.mem_filter.1 ht).1⟩
theorem wout_ne {l : List Tmr} {b : Int} : ∀ t ∈ wout l b, t.id ≠ b := fun t ht => by
  have := (List.mem_filter.1 ht).2
  simpa using this
theorem WI.set {now : Int} {l : List Tmr} (h : WI now l) (b a : Int) (ha : now < a ∧ a ≤ now + 30) : WI now (ins (wout l b) ⟨b, a⟩) :=
  ⟨ins_dif (h.stop b).d fun x hx => wout_ne x hx, ins_srt (h.stop b).s _, fun t ht => by
    rcases (mem_ins' (l := wout l b)).1 ht with rfl | ht
    · exact ha
    · exact (h.stop b).b t ht⟩
/-- What the map holds is what the wheel holds. -/
def Rl (l : List Tmr) (es : List En) : Prop := ∀ c, getE c es = (tmA l c).map fun t => .int .u64 t.at_
theorem Rl.nil : Rl [] [] := fun c => rfl
theorem tm_wout (l : List Tmr) (b c : Int) : tmA (wout l b) c = if c = b then none else tmA l c := by
  by_cases h : c = b
  · rw [if_pos h, tm_none]
    intro t ht
    rw [h]; exact wout_ne t ht
  · rw [if_neg h]
    unfold tmA wout
    rw [List.find?_filter]
    congr 1
    funext t
    by_cases q : t.id = c
    · simp [q, h]
    · simp [q]
theorem tm_ins (l : List Tmr) (t : Tmr) (hn : ∀ x ∈ l, x.id ≠ t.id) (c : Int) : tmA (ins l t) c = if c = t.id then some t else tmA l c := by
  unfold ins
  obtain ⟨p, hp⟩ : ∃ p, insPos l t.at_ = p := ⟨_, rfl⟩
  rw [hp, tm_app]
  by_cases h : c = t.id
  · rw [if_pos h]
    have : tmA (l.take p) c = none := tm_none.2 fun x hx => by rw [h]; exact hn x (List.mem_of_mem_take hx)
    rw [this]
    unfold tmA
    simp [h]
  · rw [if_neg h]
    have e : tmA (t :: l.drop p) c = tmA (l.drop p) c := by
      unfold tmA
      rw [List.find?_cons, decide_eq_false (fun q => h q.symm)]
    rw [e, ← tm_app, List.take_append_drop]
theorem Rl.stop {l : List Tmr} {es : List En} {ck : Nat} (h : Rl l es) (hm : MOk es ck) (b : Int) : Rl (wout l b) (delE b es) := fun c => by
  rw [get_del b c hm.k, tm_wout, h c]
  split <;> rfl
theorem Rl.set {l : List Tmr} {es : List En} {ck : Nat} (h : Rl l es) (b a : Int) : Rl (ins (wout l b) ⟨b, a⟩) (updE b (.int .u64 a) ck es) := fun c => by
  rw [get_upd, tm_ins (wout l b) ⟨b, a⟩ (fun x hx => wout_ne x hx), tm_wout, h c]
  dsimp only
  split
  · rfl
  · rfl
/-! ### A tick -/
theorem tick_spl (a : Int) : ∀ (l : List Tmr), Srt l → (∀ t ∈ l.take (tickK a l), t.at_ ≤ a) ∧ ∀ t ∈ l.drop (tickK a l), a < t.at_
  | [], _ => ⟨fun t h => by simp at h, fun t h => by simp at h⟩
  | x :: l, h => by
    unfold Srt at h
    rw [List.pairwise_cons] at h
    obtain ⟨h1, h2⟩ := tick_spl a l h.2
    unfold tickK at h1 h2 ⊢
    rw [List.takeWhile_cons]
    by_cases q : x.at_ ≤ a
    · rw [decide_eq_true q, if_pos rfl, List.length_cons, List.take_succ_cons, List.drop_succ_cons]
      exact ⟨fun t ht => (List.mem_cons.1 ht).elim (fun e => by rw [e]; exact q) (h1 t), h2⟩
    · rw [decide_eq_false q, if_neg (by decide)]
      refine ⟨fun t ht => by simp at ht, fun t ht => ?_⟩
      rcases List.mem_cons.1 ht with e | e
      · rw [e]; omega
      · have := h.1 t e; omega
theorem tick_at {now : Int} {l : List Tmr} (h : WI now l) : (∀ t ∈ l.take (tickK (now + 1) l), t.at_ = now + 1) ∧ ∀ t ∈ l.drop (tickK (now + 1) l), now + 1 < t.at_ := by
  obtain ⟨h1, h2⟩ := tick_spl (now + 1) l h.s
  exact ⟨fun t ht => by have := h1 t ht; have := (h.b t (List.mem_of_mem_take ht)).1; omega, h2⟩
theorem WI.tick {now : Int} {l : List Tmr} (h : WI now l) : WI (now + 1) (l.drop (tickK (now + 1) l)) :=
  ⟨List.Pairwise.sublist (List.drop_sublist _ _) h.d, List.Pairwise.sublist (List.drop_sublist _ _) h.s, fun t ht => ⟨(tick_at h).2 t ht, by have := (h.b t (List.mem_of_mem_drop ht)).2; omega⟩⟩
def idsT (l : List Tmr) : List Int := l.map (·.id)
theorem dif_app {l m : List Tmr} (h : Dif (l ++ m)) : ∀ x ∈ l, ∀ y ∈ m, x.id ≠ y.id := (List.pairwise_append.1 h).2.2
theorem Rl.cut {l : List Tmr} {es : List En} {ck : Nat} (h : Rl l es) (hd : Dif l) (hm : MOk es ck) (k : Nat) : Rl (l.drop k) (dls (idsT (l.take k)) es) := fun c => by
  have hd' : Dif (l.take k ++ l.drop k) := by rw [List.take_append_drop]; exact hd
  rw [dls_get c _ hm.k, h c]
  have e : tmA l c = (tmA (l.take k) c).or (tmA (l.drop k) c) := by rw [← tm_app, List.take_append_drop]
  by_cases hc : c ∈ idsT (l.take k)
  · rw [if_pos hc]
    obtain ⟨t, ht, rfl⟩ := List.mem_map.1 hc
    have : tmA (l.drop k) t.id = none := tm_none.2 fun y hy q => dif_app hd' t ht y hy q.symm
    rw [this]; rfl
  · rw [if_neg hc, e]
    have : tmA (l.take k) c = none := tm_none.2 fun t ht q => hc (List.mem_map.2 ⟨t, ht, q⟩)
    rw [this]; rfl
/-- The timer at j is still in the map when those ahead of it are struck. -/
theorem Rl.at_ {l : List Tmr} {es : List En} {ck : Nat} (h : Rl l es) (hd : Dif l) (hm : MOk es ck) {j : Nat} (hj : j < l.length) : getE l[j].id (dls (idsT (l.take j)) es) = some (.int .u64 l[j].at_) := by
  rw [dls_get _ _ hm.k, h]
  rw [if_neg ?_, tm_some hd (List.getElem_mem hj)]
  · rfl
  · intro hc
    obtain ⟨t, ht, q⟩ := List.mem_map.1 hc
    have hd' : Dif (l.take j ++ l.drop j) := by rw [List.take_append_drop]; exact hd
    exact dif_app hd' t ht l[j] (List.mem_drop_iff_getElem.2 ⟨0, by omega, by simp⟩) q
theorem idsT_snoc {l : List Tmr} {j : Nat} (hj : j < l.length) : idsT (l.take (j + 1)) = idsT (l.take j) ++ [l[j].id] := by
  unfold idsT
  rw [List.take_succ_eq_append_getElem hj, List.map_append]; rfl
/-- What an entry tells. -/
theorem Rl.val {l : List Tmr} {es : List En} {ck : Nat} (h : Rl l es) (hm : MOk es ck) {e : En} (he : e ∈ es) : ∃ t ∈ l, e.v = .int .u64 t.at_ := by
  have h1 := get_mem hm.k he
  rw [h] at h1
  cases ht : tmA l e.k with
  | none => rw [ht] at h1; cases h1
  | some t =>
    rw [ht] at h1
    exact ⟨t, (tm_mem ht).1, by simpa using h1.symm⟩
theorem Rl.empty {es : List En} (h : Rl [] es) : es = [] := by
  cases es with
  | nil => rfl
  | cons e es =>
    have := h e.k
    unfold getE at this
    rw [if_pos rfl] at this
    cases this
end Go.Proofs.Ytbkekpecfgmelaa

namespace Go.Proofs.Ytbkekpecfgmelaa
open Go.RowKit
set_option linter.unusedVariables false
set_option linter.unusedSimpArgs false
set_option maxRecDepth 100000
set_option maxHeartbeats 4000000
theorem mtU : MapT Try.prog 28 .i64 24 (.int .u64 0) := ⟨⟨_, Try.underlying28, Try.underlying3⟩, by kernel_rfl⟩
theorem idv_at2 (l : List Tmr) (i : Nat) (h : i < l.length) {j : Nat} (hj : j = i) : (l.map idv)[j]?.getD .any = .int .i64 l[i].id := by
  subst hj; simp [h, idv]
theorem unseen_lt {l : List En} {s : List Nat} {e : En} (he : e ∈ l) (hn : e.b ∉ s) : (l.filter fun x => !decide (x.b ∈ s ++ [e.b])).length < (l.filter fun x => !decide (x.b ∈ s)).length := by
  have : (l.filter fun x => !decide (x.b ∈ s ++ [e.b])) = (l.filter fun x => !decide (x.b ∈ s)).filter fun x => !decide (x.b = e.b) := by
    rw [List.filter_filter]
    congr 1
    funext x
    by_cases h1 : x.b ∈ s <;> by_cases h2 : x.b = e.b <;> simp [h1, h2]
  rw [this, List.length_filter_lt_length_iff_exists]
  exact ⟨e, List.mem_filter.2 ⟨he, by simp [hn]⟩, by simp⟩
theorem tick_ok {now : Int} {l : List Tmr} {es : List En} {ck : Nat} (h : WI now l) (hr : Rl l es) (hm : MOk es ck) (hn : 0 ≤ now ∧ now ≤ 1000) (hl : l.length ≤ 1000) :
    MCall Try.prog 10 [wv true now l, .mptr 0] [] [mapR .i64 es ck] (wv false (now + 1) (l.drop (tickK (now + 1) l))) [] [some (mapR .i64 (dls (idsT (l.take (tickK (now + 1) l))) es) ck)] [] := by
  have ct := wTick_ok now (by omega) l (by omega)
  obtain ⟨ta, tb⟩ := tick_at h
  have hcut := hr.cut h.d hm (tickK (now + 1) l)
  generalize tickK (now + 1) l = k at *
  have hdl := (l.take k).map idv
  have eld : ((l.take k).map idv).length = (l.take k).length := by simp
  unfold wv at ct ⊢
  refine mcall_walk (N := 44) Try.func10 (by kernel_rfl) p_caravellaw16_tick rfl rfl rfl ?_; intro gb pl; unfold c_caravellaw16_tick; dsimp only [enum, ghB, ghR, k_lc, k_ln, k_ap, k_an, k_m0, k_mc, Nat.reduceAdd, Nat.zero_add, Nat.add_zero]
  (repeat (first | ((with_reducible show RG _ _ (_ :: _) _ _ _); refine RG.go1 (k := ?_)) | ((with_reducible show DG _ _ (_ :: _) _ _ _ _ _); refine DG.go1 (k := ?_)) | (with_reducible first | apply RG.nil | apply W.seq | apply W.reg | apply W.skip | apply W.block | apply W.drw | apply DG.nil | refine W.done (QB.n ?_)) | refine W.cndT ?_ | refine W.cndF ?_))
  (first | ((with_reducible show RG _ _ (_ :: _) _ _ _); refine RG.ca (ct) (k := ?_)) | ((with_reducible show DG _ _ (_ :: _) _ _ _ _ _); refine DG.ca (ct) (k := ?_)))
  (repeat (first | ((with_reducible show RG _ _ (_ :: _) _ _ _); refine RG.go1 (k := ?_)) | ((with_reducible show DG _ _ (_ :: _) _ _ _ _ _); refine DG.go1 (k := ?_)) | (with_reducible first | apply RG.nil | apply W.seq | apply W.reg | apply W.skip | apply W.block | apply W.drw | apply DG.nil | refine W.done (QB.n ?_)) | refine W.cndT ?_ | refine W.cndF ?_))
  refine W.loop (ι := {j : Nat // j ≤ (l.take k).length}) (fun j => ⟨[(18, .int .i64 j.1), (17, .int .i64 (l.take k).length), (16, .sl false 1 ((l.take k).map idv)), (1, .mptr 0), (4, .bptr 0 0), (5, .bptr 1 0), (1100000, .ratt 0 (pl 0))], [some [.int .u64 0, .nil], some [.int .u64 (now + 1), .sl false 2 ((l.drop k).map tmr)]], [some (mapR .i64 (dls (idsT (l.take j.1)) es) ck)], 2, 1⟩) (fun j => (l.take k).length - j.1) ⟨0, Nat.zero_le _⟩ ?_ ?_
  · dsimp only
    rw [eld, show dls (idsT (l.take 0)) es = es from rfl]
    exact Wk.rn ([1, 2] ) ( [0])
  rintro ⟨j, hj⟩
  dsimp only
  by_cases hlt : j < (l.take k).length
  · have hjl : j < l.length := by have := List.length_take_le' k l; omega
    have hE := idv_at2 (l.take k) j hlt (j := ((j : Nat) : Int).toNat) (by simp)
    have hat := ta _ (List.getElem_mem hlt)
    rw [List.getElem_take] at hE hat
    have hg := hr.at_ h.d hm hjl
    have hsn := idsT_snoc hjl
    rw [hat] at hg
    generalize l[j] = t at *
    obtain ⟨ti, ta_⟩ := t
    dsimp only at hE hat hg hsn
    have hd2 : dls (idsT (l.take (j + 1))) es = delE ti (dls (idsT (l.take j)) es) := by rw [hsn, dls_snoc]
    clear hsn hcut ta tb
    generalize dls (idsT (l.take j)) es = e1 at *
    (repeat (first | ((with_reducible show RG _ _ (_ :: _) _ _ _); refine RG.go1 (k := ?_)) | ((with_reducible show DG _ _ (_ :: _) _ _ _ _ _); refine DG.go1 (k := ?_)) | (with_reducible first | apply RG.nil | apply W.seq | apply W.reg | apply W.skip | apply W.block | apply W.drw | apply DG.nil | refine W.done (QB.n ?_)) | refine W.cndT ?_ | refine W.cndF ?_))
    (first | ((with_reducible show RG _ _ (_ :: _) _ _ _); refine RG.ew (cptr_of (hE) (by (conv => lhs; whnf) <;> exact rfl)) (k := ?_)) | ((with_reducible show DG _ _ (_ :: _) _ _ _ _ _); refine DG.ew (cptr_of (hE) (by (conv => lhs; whnf) <;> exact rfl)) (k := ?_)))
    (repeat (first | ((with_reducible show RG _ _ (_ :: _) _ _ _); refine RG.go1 (k := ?_)) | ((with_reducible show DG _ _ (_ :: _) _ _ _ _ _); refine DG.go1 (k := ?_)) | (with_reducible first | apply RG.nil | apply W.seq | apply W.reg | apply W.skip | apply W.block | apply W.drw | apply DG.nil | refine W.done (QB.n ?_)) | refine W.cndT ?_ | refine W.cndF ?_))
    (refine RG.mpL (mtU) (show cst ((getE ti e1).getD (.int .u64 0)) = .int .u64 (now + 1) by rw [hg]; rfl) (K := ?_))
    (repeat (first | ((with_reducible show RG _ _ (_ :: _) _ _ _); refine RG.go1 (k := ?_)) | ((with_reducible show DG _ _ (_ :: _) _ _ _ _ _); refine DG.go1 (k := ?_)) | (with_reducible first | apply RG.nil | apply W.seq | apply W.reg | apply W.skip | apply W.block | apply W.drw | apply DG.nil | refine W.done (QB.n ?_)) | refine W.cndT ?_ | refine W.cndF ?_))
    (refine RG.mpD0 (mtU) (K := ?_))
    (repeat (first | ((with_reducible show RG _ _ (_ :: _) _ _ _); refine RG.go1 (k := ?_)) | ((with_reducible show DG _ _ (_ :: _) _ _ _ _ _); refine DG.go1 (k := ?_)) | (with_reducible first | apply RG.nil | apply W.seq | apply W.reg | apply W.skip | apply W.block | apply W.drw | apply DG.nil | refine W.done (QB.n ?_)) | refine W.cndT ?_ | refine W.cndF ?_))
    refine W.done (QL.n (⟨j + 1, by omega⟩) ?_ ?_)
    · dsimp only
      rw [hd2]
      exact Wk.rn ([0, 1] ) ( [0])
    · dsimp only; omega
  obtain rfl : j = (l.take k).length := by omega
  have hll : l.take (l.take k).length = l.take k := by
    rw [List.length_take]
    by_cases q : k ≤ l.length
    · rw [Nat.min_eq_left q]
    · rw [Nat.min_eq_right (by omega), List.take_of_length_le (Nat.le_refl _), List.take_of_length_le (by omega)]
  rw [hll]
  have hm2 := hm.sub (dls_sub (idsT (l.take k)) es)
  have hv := fun e (he : e ∈ dls (idsT (l.take k)) es) => hcut.val hm2 he
  clear hcut hr h ta hlt
  obtain ⟨e1, he1⟩ : ∃ e, dls (idsT (l.take k)) es = e := ⟨_, rfl⟩
  rw [he1] at hm2 hv ⊢
  clear he1
  (repeat (first | ((with_reducible show RG _ _ (_ :: _) _ _ _); refine RG.go1 (k := ?_)) | ((with_reducible show DG _ _ (_ :: _) _ _ _ _ _); refine DG.go1 (k := ?_)) | (with_reducible first | apply RG.nil | apply W.seq | apply W.reg | apply W.skip | apply W.block | apply W.drw | apply DG.nil | refine W.done (QB.n ?_)) | refine W.cndT ?_ | refine W.cndF ?_))
  (refine W.exit ?_; (repeat (first | (with_reducible first | refine QL.x ?_ | refine QC.x ?_ | refine QB.x ?_) | (with_reducible refine QB.o (by decide) ?_))))
  (repeat (first | ((with_reducible show RG _ _ (_ :: _) _ _ _); refine RG.go1 (k := ?_)) | ((with_reducible show DG _ _ (_ :: _) _ _ _ _ _); refine DG.go1 (k := ?_)) | (with_reducible first | apply RG.nil | apply W.seq | apply W.reg | apply W.skip | apply W.block | apply W.drw | apply DG.nil | refine W.done (QB.n ?_)) | refine W.cndT ?_ | refine W.cndF ?_))
  (refine RG.itN (mtU) (K := ?_))
  (repeat (first | ((with_reducible show RG _ _ (_ :: _) _ _ _); refine RG.go1 (k := ?_)) | ((with_reducible show DG _ _ (_ :: _) _ _ _ _ _); refine DG.go1 (k := ?_)) | (with_reducible first | apply RG.nil | apply W.seq | apply W.reg | apply W.skip | apply W.block | apply W.drw | apply DG.nil | refine W.done (QB.n ?_)) | refine W.cndT ?_ | refine W.cndF ?_))
  refine W.loop (ι := List Nat) (fun s => ⟨[(33, .itr 1 0), (1, .mptr 0), (4, .bptr 0 0), (5, .bptr 1 0), (1100000, .ratt 0 (pl 0))], [some [.int .u64 0, .nil], some [.int .u64 (now + 1), .sl false 2 ((l.drop k).map tmr)]], [some (mapR .i64 e1 ck), some (itR ck s ck)], 2, 2⟩) (fun s => (e1.filter fun e => !decide (e.b ∈ s)).length) [] ?_ ?_
  · exact Wk.rn ([0, 1] ) ( [0, 1])
  intro s
  (repeat (first | ((with_reducible show RG _ _ (_ :: _) _ _ _); refine RG.go1 (k := ?_)) | ((with_reducible show DG _ _ (_ :: _) _ _ _ _ _); refine DG.go1 (k := ?_)) | (with_reducible first | apply RG.nil | apply W.seq | apply W.reg | apply W.skip | apply W.block | apply W.drw | apply DG.nil | refine W.done (QB.n ?_)) | refine W.cndT ?_ | refine W.cndF ?_))
  (refine RG.nxt (hm2.c) (K0 := ?_) (K1 := ?_))
  · intro _
    (repeat (first | ((with_reducible show RG _ _ (_ :: _) _ _ _); refine RG.go1 (k := ?_)) | ((with_reducible show DG _ _ (_ :: _) _ _ _ _ _); refine DG.go1 (k := ?_)) | (with_reducible first | apply RG.nil | apply W.seq | apply W.reg | apply W.skip | apply W.block | apply W.drw | apply DG.nil | refine W.done (QB.n ?_)) | refine W.cndT ?_ | refine W.cndF ?_))
    (refine W.exit ?_; (repeat (first | (with_reducible first | refine QL.x ?_ | refine QC.x ?_ | refine QB.x ?_) | (with_reducible refine QB.o (by decide) ?_))))
    (repeat (first | ((with_reducible show RG _ _ (_ :: _) _ _ _); refine RG.go1 (k := ?_)) | ((with_reducible show DG _ _ (_ :: _) _ _ _ _ _); refine DG.go1 (k := ?_)) | (with_reducible first | apply RG.nil | apply W.seq | apply W.reg | apply W.skip | apply W.block | apply W.drw | apply DG.nil | refine W.done (QB.n ?_)) | refine W.cndT ?_ | refine W.cndF ?_))
    (refine W.ret ?_; (repeat (with_reducible first | refine QB.r ?_ | refine QL.r ?_ | refine QC.r ?_)); refine QM.r ?_)
    exact RetM.rsX (vs := [_]) (tm' := [(4, .bptr 0 0), (1100000, .ratt 0 (pl 0))]) ([some [.int .u64 (now + 1), .sl false 2 ((l.drop k).map tmr)]]) r_caravellaw16_tick ([0]) ([0]) 1 1
  · intro e he hne rw' hrw
    dsimp only [setO] at hrw
    subst hrw
    obtain ⟨t, ht, hve⟩ := hv e he
    have hta := tb t ht
    (repeat (first | ((with_reducible show RG _ _ (_ :: _) _ _ _); refine RG.go1 (k := ?_)) | ((with_reducible show DG _ _ (_ :: _) _ _ _ _ _); refine DG.go1 (k := ?_)) | (with_reducible first | apply RG.nil | apply W.seq | apply W.reg | apply W.skip | apply W.block | apply W.drw | apply DG.nil | refine W.done (QB.n ?_)) | refine W.cndT ?_ | refine W.cndF ?_))
    (refine RG.ent (he) (hm2.b) (show cst e.v = .int .u64 t.at_ by rw [hve]; rfl) (K := ?_))
    (repeat (first | ((with_reducible show RG _ _ (_ :: _) _ _ _); refine RG.go1 (k := ?_)) | ((with_reducible show DG _ _ (_ :: _) _ _ _ _ _); refine DG.go1 (k := ?_)) | (with_reducible first | apply RG.nil | apply W.seq | apply W.reg | apply W.skip | apply W.block | apply W.drw | apply DG.nil | refine W.done (QB.n ?_)) | refine W.cndT ?_ | refine W.cndF ?_))
    refine W.done (QL.n ((s ++ [e.b])) ?_ ?_)
    · exact Wk.rn ([0, 1] ) ( [0, 1])
    · exact unseen_lt he hne
end Go.Proofs.Ytbkekpecfgmelaa

namespace Go.Proofs.Ytbkekpecfgmelaa
open Go.RowKit
set_option linter.unusedVariables false
set_option linter.unusedSimpArgs false
set_option maxRecDepth 100000
set_option maxHeartbeats 4000000
/-- Wheel and map. -/
structure WS where
  now : Int
  l : List Tmr
  es : List En
  ck : Nat
structure WS.Ok (x : WS) (n : Nat) : Prop where
  n0 : 0 ≤ x.now ∧ x.now ≤ n
  l0 : x.l.length ≤ n
  w : WI x.now x.l
  r : Rl x.l x.es
  m : MOk x.es x.ck
def WS.stop (x : WS) (b : Int) : WS := ⟨x.now, wout x.l b, delE b x.es, x.ck⟩
def WS.set (x : WS) (b a : Int) : WS := ⟨x.now, ins (wout x.l b) ⟨b, a⟩, updE b (.int .u64 a) x.ck x.es, updC b x.ck x.es⟩
def WS.tick (x : WS) : WS := ⟨x.now + 1, x.l.drop (tickK (x.now + 1) x.l), dls (idsT (x.l.take (tickK (x.now + 1) x.l))) x.es, x.ck⟩
theorem WS.Ok.stop {x : WS} {n : Nat} (h : x.Ok n) (b : Int) : (x.stop b).Ok (n + 1) := by
  have h1 := h.n0; have h2 := h.l0; have := wout_len x.l b
  exact ⟨by show 0 ≤ x.now ∧ x.now ≤ _; omega, by show (wout x.l b).length ≤ _; omega, h.w.stop b, h.r.stop h.m b, h.m.sub (del_sub b x.es)⟩
theorem WS.Ok.set {x : WS} {n : Nat} (h : x.Ok n) (b a : Int) (ha : x.now < a ∧ a ≤ x.now + 30) : (x.set b a).Ok (n + 1) := by
  have h1 := h.n0; have h2 := h.l0; have := wout_len x.l b
  exact ⟨by show 0 ≤ x.now ∧ x.now ≤ _; omega, by show (ins (wout x.l b) ⟨b, a⟩).length ≤ _; rw [ins_len]; omega, h.w.set b a ha, h.r.set b a, h.m.upd b _⟩
theorem WS.Ok.tick {x : WS} {n : Nat} (h : x.Ok n) : x.tick.now = x.now + 1 ∧ 0 ≤ x.tick.now ∧ x.tick.now ≤ n + 1 ∧ x.tick.l.length ≤ n ∧ WI x.tick.now x.tick.l ∧ Rl x.tick.l x.tick.es ∧ MOk x.tick.es x.tick.ck := by
  have h1 := h.n0; have h2 := h.l0
  exact ⟨rfl, by show 0 ≤ x.now + 1; omega, by show x.now + 1 ≤ _; omega, by show (x.l.drop _).length ≤ _; simp; omega, h.w.tick, h.r.cut h.w.d h.m _, h.m.sub (dls_sub _ _)⟩
theorem wheelOnce_ok (os : List WOp) (hL : (os.length : Int) ≤ 9223372036854775807) (hos : ∀ o ∈ os, 0 ≤ o.af ∧ o.af ≤ 18446744073709551615) :
    ACall Try.prog 3 [.sl false 3 (os.map opW)] (.bool true) [] := by
  have hl := lives_ok
  have el : (os.map opW).length = os.length := by simp
  by_cases hlong : 50 < os.length
  · refine acall_walk (N := 93) Try.func3 (by kernel_rfl) p_caravellaw16_WheelOnce rfl ?_; unfold c_caravellaw16_WheelOnce; dsimp only [enum, Nat.reduceAdd]
    (repeat (first | ((with_reducible show RG _ _ (_ :: _) _ _ _); refine RG.go1 (k := ?_)) | ((with_reducible show DG _ _ (_ :: _) _ _ _ _ _); refine DG.go1 (k := ?_)) | (with_reducible first | apply RG.nil | apply W.seq | apply W.reg | apply W.skip | apply W.block | apply W.drw | apply DG.nil | refine W.done (QB.n ?_)) | refine W.cndT ?_ | refine W.cndF ?_))
    (first | ((with_reducible show RG _ _ (_ :: _) _ _ _); refine RG.ca (hl) (k := ?_)) | ((with_reducible show DG _ _ (_ :: _) _ _ _ _ _); refine DG.ca (hl) (k := ?_)))
    (repeat (first | ((with_reducible show RG _ _ (_ :: _) _ _ _); refine RG.go1 (k := ?_)) | ((with_reducible show DG _ _ (_ :: _) _ _ _ _ _); refine DG.go1 (k := ?_)) | (with_reducible first | apply RG.nil | apply W.seq | apply W.reg | apply W.skip | apply W.block | apply W.drw | apply DG.nil | refine W.done (QB.n ?_)) | refine W.cndT ?_ | refine W.cndF ?_))
    (first | ((with_reducible show RG _ _ (_ :: _) _ _ _); refine RG.ca (hl) (k := ?_)) | ((with_reducible show DG _ _ (_ :: _) _ _ _ _ _); refine DG.ca (hl) (k := ?_)))
    (repeat (first | ((with_reducible show RG _ _ (_ :: _) _ _ _); refine RG.go1 (k := ?_)) | ((with_reducible show DG _ _ (_ :: _) _ _ _ _ _); refine DG.go1 (k := ?_)) | (with_reducible first | apply RG.nil | apply W.seq | apply W.reg | apply W.skip | apply W.block | apply W.drw | apply DG.nil | refine W.done (QB.n ?_)) | refine W.cndT ?_ | refine W.cndF ?_))
    (refine W.ret ?_; (repeat (with_reducible first | refine QB.r ?_ | refine QL.r ?_ | refine QC.r ?_)); refine QF.r ?_)
    exact RetOk.rs (vs := [_]) r_caravellaw16_WheelOnce []
  refine acall_walk (N := 93) Try.func3 (by kernel_rfl) p_caravellaw16_WheelOnce rfl ?_; unfold c_caravellaw16_WheelOnce; dsimp only [enum, Nat.reduceAdd]
  (repeat (first | ((with_reducible show RG _ _ (_ :: _) _ _ _); refine RG.go1 (k := ?_)) | ((with_reducible show DG _ _ (_ :: _) _ _ _ _ _); refine DG.go1 (k := ?_)) | (with_reducible first | apply RG.nil | apply W.seq | apply W.reg | apply W.skip | apply W.block | apply W.drw | apply DG.nil | refine W.done (QB.n ?_)) | refine W.cndT ?_ | refine W.cndF ?_))
  (first | ((with_reducible show RG _ _ (_ :: _) _ _ _); refine RG.ca (hl) (k := ?_)) | ((with_reducible show DG _ _ (_ :: _) _ _ _ _ _); refine DG.ca (hl) (k := ?_)))
  (repeat (first | ((with_reducible show RG _ _ (_ :: _) _ _ _); refine RG.go1 (k := ?_)) | ((with_reducible show DG _ _ (_ :: _) _ _ _ _ _); refine DG.go1 (k := ?_)) | (with_reducible first | apply RG.nil | apply W.seq | apply W.reg | apply W.skip | apply W.block | apply W.drw | apply DG.nil | refine W.done (QB.n ?_)) | refine W.cndT ?_ | refine W.cndF ?_))
  (refine RG.mpN (mtU) (K := ?_))
  (repeat (first | ((with_reducible show RG _ _ (_ :: _) _ _ _); refine RG.go1 (k := ?_)) | ((with_reducible show DG _ _ (_ :: _) _ _ _ _ _); refine DG.go1 (k := ?_)) | (with_reducible first | apply RG.nil | apply W.seq | apply W.reg | apply W.skip | apply W.block | apply W.drw | apply DG.nil | refine W.done (QB.n ?_)) | refine W.cndT ?_ | refine W.cndF ?_))
  refine W.loop (ι := {q : Nat × WS // q.1 ≤ os.length ∧ q.2.Ok q.1}) (fun q => ⟨[(22, .int .i64 q.1.1), (21, .int .i64 os.length), (20, .sl false 3 (os.map opW)), (3, .bptr 0 0), (4, .mptr 0)], [some [.int .u64 q.1.2.now, .sl false 2 (q.1.2.l.map tmr)]], [some (mapR .i64 q.1.2.es q.1.2.ck)], 1, 1⟩) (fun q => os.length - q.1.1) ⟨⟨0, ⟨0, [], [], 0⟩⟩, Nat.zero_le _, ⟨by decide, Nat.le_refl _, WI.nil _, Rl.nil, MOk.nil _⟩⟩ ?_ ?_
  · have q2 : ALe .nil (.sl false 2 []) := ALe.nil _ _
    dsimp only [List.map]
    rw [el]
    exact Wk.rn ([0] ) ( [0])
  rintro ⟨⟨i, x⟩, hi, hx⟩
  dsimp only at hi hx ⊢
  by_cases hlt : i < os.length
  · have hE := opW_at os i hlt (j := ((i : Nat) : Int).toNat) (by simp)
    have hof := hos _ (List.getElem_mem hlt)
    generalize os[i] = op at hE hof
    obtain ⟨ok, oi, of_⟩ := op
    dsimp only at hE hof
    obtain ⟨n1, n2⟩ := hx.n0
    have n3 := hx.l0
    obtain ⟨c, hc⟩ : ∃ c, oi % 18446744073709551616 % 8 = c := ⟨_, rfl⟩
    obtain ⟨b, hb⟩ : ∃ b, of_ % 30 = b := ⟨_, rfl⟩
    have hc1 : 0 ≤ c ∧ c < 8 := by omega
    have hb1 : 0 ≤ b ∧ b < 30 := by omega
    by_cases h2 : ok % 18446744073709551616 % 5 = 2
    · have c1 := wStopF_ok x.now x.l (by omega) c
      have hs := hx.stop c
      obtain ⟨now, l, es, ck⟩ := x
      unfold WS.stop at hs
      dsimp only [wv] at c1 hs n1 n2 n3 ⊢
      (repeat (first | ((with_reducible show RG _ _ (_ :: _) _ _ _); refine RG.go1 (k := ?_)) | ((with_reducible show DG _ _ (_ :: _) _ _ _ _ _); refine DG.go1 (k := ?_)) | (with_reducible first | apply RG.nil | apply W.seq | apply W.reg | apply W.skip | apply W.block | apply W.drw | apply DG.nil | refine W.done (QB.n ?_)) | refine W.cndT ?_ | refine W.cndF ?_))
      (first | ((with_reducible show RG _ _ (_ :: _) _ _ _); refine RG.ew (cptr_of (hE) (by (conv => lhs; whnf) <;> exact rfl)) (k := ?_)) | ((with_reducible show DG _ _ (_ :: _) _ _ _ _ _); refine DG.ew (cptr_of (hE) (by (conv => lhs; whnf) <;> exact rfl)) (k := ?_)))
      (repeat (first | ((with_reducible show RG _ _ (_ :: _) _ _ _); refine RG.go1 (k := ?_)) | ((with_reducible show DG _ _ (_ :: _) _ _ _ _ _); refine DG.go1 (k := ?_)) | (with_reducible first | apply RG.nil | apply W.seq | apply W.reg | apply W.skip | apply W.block | apply W.drw | apply DG.nil | refine W.done (QB.n ?_)) | refine W.cndT ?_ | refine W.cndF ?_))
      rw [hc]
      (first | ((with_reducible show RG _ _ (_ :: _) _ _ _); refine RG.ca (c1) (k := ?_)) | ((with_reducible show DG _ _ (_ :: _) _ _ _ _ _); refine DG.ca (c1) (k := ?_)))
      (repeat (first | ((with_reducible show RG _ _ (_ :: _) _ _ _); refine RG.go1 (k := ?_)) | ((with_reducible show DG _ _ (_ :: _) _ _ _ _ _); refine DG.go1 (k := ?_)) | (with_reducible first | apply RG.nil | apply W.seq | apply W.reg | apply W.skip | apply W.block | apply W.drw | apply DG.nil | refine W.done (QB.n ?_)) | refine W.cndT ?_ | refine W.cndF ?_))
      (refine RG.mpD0 (mtU) (K := ?_))
      (repeat (first | ((with_reducible show RG _ _ (_ :: _) _ _ _); refine RG.go1 (k := ?_)) | ((with_reducible show DG _ _ (_ :: _) _ _ _ _ _); refine DG.go1 (k := ?_)) | (with_reducible first | apply RG.nil | apply W.seq | apply W.reg | apply W.skip | apply W.block | apply W.drw | apply DG.nil | refine W.done (QB.n ?_)) | refine W.cndT ?_ | refine W.cndF ?_))
      (refine W.exit ?_; (repeat (first | (with_reducible first | refine QL.x ?_ | refine QC.x ?_ | refine QB.x ?_) | (with_reducible refine QB.o (by decide) ?_))))
      (repeat (first | ((with_reducible show RG _ _ (_ :: _) _ _ _); refine RG.go1 (k := ?_)) | ((with_reducible show DG _ _ (_ :: _) _ _ _ _ _); refine DG.go1 (k := ?_)) | (with_reducible first | apply RG.nil | apply W.seq | apply W.reg | apply W.skip | apply W.block | apply W.drw | apply DG.nil | refine W.done (QB.n ?_)) | refine W.cndT ?_ | refine W.cndF ?_))
      refine W.done (QL.n (⟨⟨i + 1, _⟩, by dsimp only; omega, hs⟩) ?_ ?_)
      · dsimp only
        exact Wk.rn ([0] ) ( [0])
      · dsimp only; omega
    · have c1 := wSet_ok x.now (by omega) x.l (by omega) c b (by omega)
      have hs := hx.set c (x.now + max b 1) (by omega)
      have hw : wset x.now x.l c b = (ins (wout x.l c) ⟨c, x.now + max b 1⟩, 0) := by
        have := wout_len x.l c
        unfold wset
        rw [if_neg (by omega), if_neg (by omega)]
      rw [hw] at c1
      clear hw
      obtain ⟨now, l, es, ck⟩ := x
      unfold WS.set at hs
      dsimp only [wv] at c1 hs n1 n2 n3 ⊢
      obtain ⟨a, ha⟩ : ∃ a, now + max b 1 = a := ⟨_, rfl⟩
      rw [ha] at c1 hs
      have ha2 : now < a ∧ a ≤ now + 30 := by omega
      obtain ⟨l2, hl2⟩ : ∃ l2, ins (wout l c) ⟨c, a⟩ = l2 := ⟨_, rfl⟩
      rw [hl2] at c1 hs
      by_cases h4 : (i : Int) % 4 = 3
      · have ht := hs.tick
        have htk := tick_ok hs.w hs.r hs.m (by have := hs.n0; dsimp only at this ⊢; omega) (by have := hs.l0; dsimp only at this ⊢; omega)
        unfold WS.tick at ht
        dsimp only [wv] at ht htk
        obtain ⟨-, t1, t2, t3, t4, t5, t6⟩ := ht
        generalize tickK (now + 1) l2 = k at *
        (repeat (first | ((with_reducible show RG _ _ (_ :: _) _ _ _); refine RG.go1 (k := ?_)) | ((with_reducible show DG _ _ (_ :: _) _ _ _ _ _); refine DG.go1 (k := ?_)) | (with_reducible first | apply RG.nil | apply W.seq | apply W.reg | apply W.skip | apply W.block | apply W.drw | apply DG.nil | refine W.done (QB.n ?_)) | refine W.cndT ?_ | refine W.cndF ?_))
        (first | ((with_reducible show RG _ _ (_ :: _) _ _ _); refine RG.ew (cptr_of (hE) (by (conv => lhs; whnf) <;> exact rfl)) (k := ?_)) | ((with_reducible show DG _ _ (_ :: _) _ _ _ _ _); refine DG.ew (cptr_of (hE) (by (conv => lhs; whnf) <;> exact rfl)) (k := ?_)))
        (repeat (first | ((with_reducible show RG _ _ (_ :: _) _ _ _); refine RG.go1 (k := ?_)) | ((with_reducible show DG _ _ (_ :: _) _ _ _ _ _); refine DG.go1 (k := ?_)) | (with_reducible first | apply RG.nil | apply W.seq | apply W.reg | apply W.skip | apply W.block | apply W.drw | apply DG.nil | refine W.done (QB.n ?_)) | refine W.cndT ?_ | refine W.cndF ?_))
        rw [hc, hb]
        (first | ((with_reducible show RG _ _ (_ :: _) _ _ _); refine RG.ca (c1) (k := ?_)) | ((with_reducible show DG _ _ (_ :: _) _ _ _ _ _); refine DG.ca (c1) (k := ?_)))
        (repeat (first | ((with_reducible show RG _ _ (_ :: _) _ _ _); refine RG.go1 (k := ?_)) | ((with_reducible show DG _ _ (_ :: _) _ _ _ _ _); refine DG.go1 (k := ?_)) | (with_reducible first | apply RG.nil | apply W.seq | apply W.reg | apply W.skip | apply W.block | apply W.drw | apply DG.nil | refine W.done (QB.n ?_)) | refine W.cndT ?_ | refine W.cndF ?_))
        rw [ha]
        (refine RG.mpU (mtU) (K := ?_))
        (repeat (first | ((with_reducible show RG _ _ (_ :: _) _ _ _); refine RG.go1 (k := ?_)) | ((with_reducible show DG _ _ (_ :: _) _ _ _ _ _); refine DG.go1 (k := ?_)) | (with_reducible first | apply RG.nil | apply W.seq | apply W.reg | apply W.skip | apply W.block | apply W.drw | apply DG.nil | refine W.done (QB.n ?_)) | refine W.cndT ?_ | refine W.cndF ?_))
        refine RG.mca [] [0] htk (hle := ?hle) (k := ?_)
        case hle => exact ⟨m_agg ⟨m_iC rfl, m_slC rfl, trivial⟩, ALe.refl _, trivial⟩
        (repeat (first | ((with_reducible show RG _ _ (_ :: _) _ _ _); refine RG.go1 (k := ?_)) | ((with_reducible show DG _ _ (_ :: _) _ _ _ _ _); refine DG.go1 (k := ?_)) | (with_reducible first | apply RG.nil | apply W.seq | apply W.reg | apply W.skip | apply W.block | apply W.drw | apply DG.nil | refine W.done (QB.n ?_)) | refine W.cndT ?_ | refine W.cndF ?_))
        refine W.done (QL.n (⟨⟨i + 1, ⟨now + 1, l2.drop k, _, _⟩⟩, by dsimp only; omega, ⟨⟨t1, by dsimp only at t2 ⊢; omega⟩, by dsimp only at t3 ⊢; omega, t4, t5, t6⟩⟩) ?_ ?_)
        · dsimp only
          exact Wk.rn ([0] ) ( [0])
        · dsimp only; omega
      · (repeat (first | ((with_reducible show RG _ _ (_ :: _) _ _ _); refine RG.go1 (k := ?_)) | ((with_reducible show DG _ _ (_ :: _) _ _ _ _ _); refine DG.go1 (k := ?_)) | (with_reducible first | apply RG.nil | apply W.seq | apply W.reg | apply W.skip | apply W.block | apply W.drw | apply DG.nil | refine W.done (QB.n ?_)) | refine W.cndT ?_ | refine W.cndF ?_))
        (first | ((with_reducible show RG _ _ (_ :: _) _ _ _); refine RG.ew (cptr_of (hE) (by (conv => lhs; whnf) <;> exact rfl)) (k := ?_)) | ((with_reducible show DG _ _ (_ :: _) _ _ _ _ _); refine DG.ew (cptr_of (hE) (by (conv => lhs; whnf) <;> exact rfl)) (k := ?_)))
        (repeat (first | ((with_reducible show RG _ _ (_ :: _) _ _ _); refine RG.go1 (k := ?_)) | ((with_reducible show DG _ _ (_ :: _) _ _ _ _ _); refine DG.go1 (k := ?_)) | (with_reducible first | apply RG.nil | apply W.seq | apply W.reg | apply W.skip | apply W.block | apply W.drw | apply DG.nil | refine W.done (QB.n ?_)) | refine W.cndT ?_ | refine W.cndF ?_))
        rw [hc, hb]
        (first | ((with_reducible show RG _ _ (_ :: _) _ _ _); refine RG.ca (c1) (k := ?_)) | ((with_reducible show DG _ _ (_ :: _) _ _ _ _ _); refine DG.ca (c1) (k := ?_)))
        (repeat (first | ((with_reducible show RG _ _ (_ :: _) _ _ _); refine RG.go1 (k := ?_)) | ((with_reducible show DG _ _ (_ :: _) _ _ _ _ _); refine DG.go1 (k := ?_)) | (with_reducible first | apply RG.nil | apply W.seq | apply W.reg | apply W.skip | apply W.block | apply W.drw | apply DG.nil | refine W.done (QB.n ?_)) | refine W.cndT ?_ | refine W.cndF ?_))
        rw [ha]
        (refine RG.mpU (mtU) (K := ?_))
        (repeat (first | ((with_reducible show RG _ _ (_ :: _) _ _ _); refine RG.go1 (k := ?_)) | ((with_reducible show DG _ _ (_ :: _) _ _ _ _ _); refine DG.go1 (k := ?_)) | (with_reducible first | apply RG.nil | apply W.seq | apply W.reg | apply W.skip | apply W.block | apply W.drw | apply DG.nil | refine W.done (QB.n ?_)) | refine W.cndT ?_ | refine W.cndF ?_))
        refine W.done (QL.n (⟨⟨i + 1, _⟩, by dsimp only; omega, hs⟩) ?_ ?_)
        · dsimp only
          exact Wk.rn ([0] ) ( [0])
        · dsimp only; omega
  obtain rfl : i = os.length := by omega
  clear hlt hos hL
  obtain ⟨n1, n2⟩ := hx.n0
  have n3 := hx.l0
  have hbd : ∀ t ∈ x.l, t.at_ ≤ x.now + 30 := fun t ht => (hx.w.b t ht).2
  obtain ⟨now0, hnow0⟩ : ∃ z, x.now = z := ⟨_, rfl⟩
  (repeat (first | ((with_reducible show RG _ _ (_ :: _) _ _ _); refine RG.go1 (k := ?_)) | ((with_reducible show DG _ _ (_ :: _) _ _ _ _ _); refine DG.go1 (k := ?_)) | (with_reducible first | apply RG.nil | apply W.seq | apply W.reg | apply W.skip | apply W.block | apply W.drw | apply DG.nil | refine W.done (QB.n ?_)) | refine W.cndT ?_ | refine W.cndF ?_))
  (refine W.exit ?_; (repeat (first | (with_reducible first | refine QL.x ?_ | refine QC.x ?_ | refine QB.x ?_) | (with_reducible refine QB.o (by decide) ?_))))
  (repeat (first | ((with_reducible show RG _ _ (_ :: _) _ _ _); refine RG.go1 (k := ?_)) | ((with_reducible show DG _ _ (_ :: _) _ _ _ _ _); refine DG.go1 (k := ?_)) | (with_reducible first | apply RG.nil | apply W.seq | apply W.reg | apply W.skip | apply W.block | apply W.drw | apply DG.nil | refine W.done (QB.n ?_)) | refine W.cndT ?_ | refine W.cndF ?_))
  refine W.loop (ι := {q : Nat × WS // q.1 ≤ 40 ∧ q.2.Ok (50 + q.1) ∧ q.2.now = now0 + q.1 ∧ ∀ t ∈ q.2.l, t.at_ ≤ now0 + 30}) (fun q => ⟨[(75, .int .i64 q.1.1), (3, .bptr 0 0), (4, .mptr 0)], [some [.int .u64 q.1.2.now, .sl false 2 (q.1.2.l.map tmr)]], [some (mapR .i64 q.1.2.es q.1.2.ck)], 1, 1⟩) (fun q => 40 - q.1.1) ⟨⟨0, x⟩, Nat.zero_le _, ⟨by dsimp only; omega, by dsimp only; omega, hx.w, hx.r, hx.m⟩, by dsimp only; omega, by rw [← hnow0]; exact hbd⟩ ?_ ?_
  · dsimp only
    exact Wk.rn ([0] ) ( [0])
  rintro ⟨⟨j, y⟩, hj, hy, hyn, hyb⟩
  dsimp only at hj hy hyn hyb ⊢
  obtain ⟨m1, m2⟩ := hy.n0
  have m3 := hy.l0
  by_cases hlt : j < 40
  · have ht := hy.tick
    have htk := tick_ok hy.w hy.r hy.m (by omega) (by omega)
    obtain ⟨now, l, es, ck⟩ := y
    unfold WS.tick at ht
    dsimp only [wv] at ht htk hyn hyb m1 m2 m3 ⊢
    obtain ⟨-, t1, t2, t3, t4, t5, t6⟩ := ht
    generalize tickK (now + 1) l = k at *
    (repeat (first | ((with_reducible show RG _ _ (_ :: _) _ _ _); refine RG.go1 (k := ?_)) | ((with_reducible show DG _ _ (_ :: _) _ _ _ _ _); refine DG.go1 (k := ?_)) | (with_reducible first | apply RG.nil | apply W.seq | apply W.reg | apply W.skip | apply W.block | apply W.drw | apply DG.nil | refine W.done (QB.n ?_)) | refine W.cndT ?_ | refine W.cndF ?_))
    refine RG.mca [] [0] htk (hle := ?hle) (k := ?_)
    case hle => exact ⟨m_agg ⟨m_iC rfl, m_slC rfl, trivial⟩, ALe.refl _, trivial⟩
    (repeat (first | ((with_reducible show RG _ _ (_ :: _) _ _ _); refine RG.go1 (k := ?_)) | ((with_reducible show DG _ _ (_ :: _) _ _ _ _ _); refine DG.go1 (k := ?_)) | (with_reducible first | apply RG.nil | apply W.seq | apply W.reg | apply W.skip | apply W.block | apply W.drw | apply DG.nil | refine W.done (QB.n ?_)) | refine W.cndT ?_ | refine W.cndF ?_))
    refine W.done (QL.n (⟨⟨j + 1, ⟨now + 1, l.drop k, _, _⟩⟩, by dsimp only; omega, ⟨⟨t1, by dsimp only; omega⟩, by dsimp only; omega, t4, t5, t6⟩, by dsimp only; omega, fun t ht => hyb t (List.mem_of_mem_drop ht)⟩) ?_ ?_)
    · dsimp only
      exact Wk.rn ([0] ) ( [0])
    · dsimp only; omega
  · obtain rfl : j = 40 := by omega
    obtain ⟨now, l, es, ck⟩ := y
    dsimp only at hyn hyb m1 m2 m3 ⊢
    have hempty : l = [] := by
      cases l with
      | nil => rfl
      | cons t l =>
        have h1 := hyb t (List.mem_cons_self ..)
        have h2 := (hy.w.b t (List.mem_cons_self ..)).1
        dsimp only at h2
        omega
    subst hempty
    have hes : es = [] := Rl.empty hy.r
    subst hes
    (repeat (first | ((with_reducible show RG _ _ (_ :: _) _ _ _); refine RG.go1 (k := ?_)) | ((with_reducible show DG _ _ (_ :: _) _ _ _ _ _); refine DG.go1 (k := ?_)) | (with_reducible first | apply RG.nil | apply W.seq | apply W.reg | apply W.skip | apply W.block | apply W.drw | apply DG.nil | refine W.done (QB.n ?_)) | refine W.cndT ?_ | refine W.cndF ?_))
    (refine W.exit ?_; (repeat (first | (with_reducible first | refine QL.x ?_ | refine QC.x ?_ | refine QB.x ?_) | (with_reducible refine QB.o (by decide) ?_))))
    (repeat (first | ((with_reducible show RG _ _ (_ :: _) _ _ _); refine RG.go1 (k := ?_)) | ((with_reducible show DG _ _ (_ :: _) _ _ _ _ _); refine DG.go1 (k := ?_)) | (with_reducible first | apply RG.nil | apply W.seq | apply W.reg | apply W.skip | apply W.block | apply W.drw | apply DG.nil | refine W.done (QB.n ?_)) | refine W.cndT ?_ | refine W.cndF ?_))
    (refine RG.mpC (mtU) ((rfl : ([] : List En).length = 0)) (K := ?_))
    (repeat (first | ((with_reducible show RG _ _ (_ :: _) _ _ _); refine RG.go1 (k := ?_)) | ((with_reducible show DG _ _ (_ :: _) _ _ _ _ _); refine DG.go1 (k := ?_)) | (with_reducible first | apply RG.nil | apply W.seq | apply W.reg | apply W.skip | apply W.block | apply W.drw | apply DG.nil | refine W.done (QB.n ?_)) | refine W.cndT ?_ | refine W.cndF ?_))
    (refine W.ret ?_; (repeat (with_reducible first | refine QB.r ?_ | refine QL.r ?_ | refine QC.r ?_)); refine QF.r ?_)
    exact RetOk.rs (vs := [_]) r_caravellaw16_WheelOnce []
theorem Below.frame {W w' : World} (h : Below W.heap.size W w') (may : MemPlace → Prop) : W.keptBut w' may := by
  refine ⟨h.os, h.output, fun i hi => ?_⟩
  rw [h.block i hi]
  split <;> simp_all
theorem Below.same {W w' : World} (h : Below W.heap.size W w') {p : MemPlace} (hp : p.block < W.heap.size) : W.sameAt w' p := by
  cases p with
  | cell b o => exact World.cell?_of_block (w := W) (h.block b hp)
  | map b => exact h.block b hp
theorem Below.trod {H : Type} {enc : TypeId × Value → H} {P : Program} {t : TypeId} (hl : laidOutB P = true) (hr : P.readableRec t = true) (hrow : t < P.types.size) {W W' : World} {v : Value} {d : DataW H} {ps : List MemPlace}
    (h : DataW.Trod enc P W 0 (fun _ => true) true t v d ps) (hb : Below W.heap.size W W') (hlt : ∀ x ∈ ps, x.block < W.heap.size) :
    DataW.Trod enc P W' 0 (fun b => decide (b < W.heap.size)) true t v d ps :=
  WideElems.Trod_stays hl hr hrow h (fun x hx => hb.same (hlt x hx)) (fun x hx => by simpa using hlt x hx)
theorem WheelOnce_walk {r : Reach} {b0 base : Nat} {H : Type} {enc : TypeId × Value → H} {spare : Nat → Bool} {held : Bool} {d : DataW H} {p : List MemPlace} (v : Value) (W : World) (hv : Value.okWide Try.prog W r b0 22 v) (k : DataW.Trod enc Try.prog W base spare held 22 v d p) :
    Calls Try.prog 3 #[v] W fun e W' => e = .returned (.bool true) ∧ Below W.heap.size W W' := by
  obtain ⟨l, hr, hl, hq⟩ := wops_arg hv k
  exact acall_lawF (wheelOnce_ok l (len_le hl) hq) W [_] ⟨.pure _ _ hr, trivial⟩
end Go.Proofs.Ytbkekpecfgmelaa
