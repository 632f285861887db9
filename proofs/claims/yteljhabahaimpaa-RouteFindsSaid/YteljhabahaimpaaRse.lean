/- Routes that are right; the chapter's example; RouteRight, RoutePlays. -/
import Derived.Test.YteljhabahaimpaaRsd
namespace Go.Proofs.Yteljhabahaimpaa
open Go.RowKit
set_option linter.unusedVariables false
set_option linter.unusedSimpArgs false
set_option maxRecDepth 100000
set_option maxHeartbeats 4000000
theorem len_le {n : Nat} (h : n ≤ maxLen) : (n : Int) ≤ 9223372036854775807 := by
  have h2 : (maxLen : Int) ≤ 9223372036854775807 := by decide
  omega
structure RI (l : List Rt) : Prop where
  ok : ∀ r ∈ l, r.Ok
  s : Srt l
  g : ∀ r ∈ l, okR r = true
  n : l.length ≤ 8
theorem RI.right {l : List Rt} (h : RI l) : rightB l = true := by
  unfold rightB
  rw [Bool.and_eq_true]
  refine ⟨?_, by simpa using h.n⟩
  rw [List.all_eq_true]
  intro i hi
  have hi := List.mem_range.1 hi
  cases i with
  | zero => rw [okAt_0 hi]; exact h.g _ (List.getElem_mem _)
  | succ k =>
    rw [okAt_s hi, h.g _ (List.getElem_mem _), decide_eq_true (h.s k (k + 1) (by omega) hi (by omega))]; rfl
theorem right_RI {l : List Rt} (hok : ∀ r ∈ l, r.Ok) (h : rightB l = true) : RI l := by
  unfold rightB at h
  rw [Bool.and_eq_true, List.all_eq_true] at h
  obtain ⟨h1, h2⟩ := h
  have hg : ∀ (i : Nat) (hi : i < l.length), okR l[i] = true := fun i hi => by
    have := h1 i (List.mem_range.2 hi)
    cases i with
    | zero => rw [okAt_0 hi] at this; exact this
    | succ k => rw [okAt_s hi, Bool.and_eq_true] at this; exact this.1
  have hs : ∀ (k : Nat) (hk : k + 1 < l.length), l[k].key < l[k + 1].key := fun k hk => by
    have := h1 (k + 1) (List.mem_range.2 hk)
    rw [okAt_s hk, Bool.and_eq_true] at this; exact of_decide_eq_true this.2
  refine ⟨hok, ?_, fun r hr => ?_, by simpa using h2⟩
  · intro j i hj hi hji
    induction i with
    | zero => omega
    | succ k ih =>
      have h3 := hs k hi
      rcases Nat.lt_or_ge j k with q | q
      · have := ih (by omega) q; omega
      · obtain rfl : j = k := by omega
        exact h3
  · obtain ⟨i, hi, rfl⟩ := List.getElem_of_mem hr
    exact hg i hi
theorem okR_m {r : Rt} (hb : 0 ≤ r.b ∧ r.b ≤ 32) : okR r.m = true := by
  unfold okR
  rw [show r.m.b = r.b from rfl, decide_eq_true hb.1, decide_eq_true hb.2, netEq_m.2 (Rt.m_m r)]; rfl
theorem ins_srt {l : List Rt} (hs : Srt l) (x : Rt) (hf : fnd l x.key = false) : Srt (l.take (pos l x.key) ++ x :: l.drop (pos l x.key)) := by
  have hp := pos_le l x.key
  have hlo := fun j hj => pos_lt l x.key j hj
  have hge := fun j hj => pos_ge hs x.key j hj
  have hne : ∀ (j : Nat) (hj : j < l.length), l[j].key ≠ x.key := fun j hj q => by
    unfold fnd at hf
    rw [List.any_eq_false] at hf
    exact hf _ (List.getElem_mem hj) (by simpa using q)
  generalize pos l x.key = p at *
  have hl : (l.take p ++ x :: l.drop p).length = l.length + 1 := by simp; omega
  have g : ∀ (i : Nat) (hi : i < (l.take p ++ x :: l.drop p).length), (∃ h : i < l.length, i < p ∧ (l.take p ++ x :: l.drop p)[i] = l[i]) ∨ (i = p ∧ (l.take p ++ x :: l.drop p)[i] = x) ∨ (p < i ∧ ∃ h : i - 1 < l.length, (l.take p ++ x :: l.drop p)[i] = l[i - 1]) := fun i hi => by
    rw [hl] at hi
    have e0 : (l.take p).length = p := by simp; omega
    rcases Nat.lt_trichotomy i p with q | q | q
    · refine .inl ⟨by omega, q, ?_⟩
      rw [List.getElem_append_left (by omega), List.getElem_take]
    · refine .inr (.inl ⟨q, ?_⟩)
      rw [List.getElem_append_right (by omega)]
      simp [e0, q]
    · refine .inr (.inr ⟨q, by omega, ?_⟩)
      rw [List.getElem_append_right (by omega)]
      simp only [e0]
      obtain ⟨d, hd⟩ : ∃ d, i - p = d + 1 := ⟨i - p - 1, by omega⟩
      simp only [hd, List.getElem_cons_succ, List.getElem_drop]
      congr 1; omega
  intro j i hj hi hji
  rcases g j hj with ⟨a1, a2, a3⟩ | ⟨a2, a3⟩ | ⟨a2, a1, a3⟩ <;> rcases g i hi with ⟨b1, b2, b3⟩ | ⟨b2, b3⟩ | ⟨b2, b1, b3⟩ <;> rw [a3, b3]
  · exact hs j i a1 b1 hji
  · exact hlo j a1 a2
  · exact hs j (i - 1) a1 b1 (by omega)
  · omega
  · omega
  · have := hge (i - 1) b1 (by omega)
    have := hne (i - 1) b1
    omega
  · omega
  · omega
  · exact hs (j - 1) (i - 1) a1 b1 (by omega)
theorem radd_RI {l : List Rt} (h : RI l) {r : Rt} (hr : r.Ok) : RI (radd l r).l := by
  unfold radd
  by_cases h1 : r.b < 0 ∨ 32 < r.b
  · rw [if_pos h1]; exact h
  rw [if_neg h1]
  cases hf : fnd l r.m.key
  · rw [if_neg (by decide)]
    by_cases h8 : 8 ≤ l.length
    · rw [if_pos h8]; exact h
    rw [if_neg h8]
    have hp := pos_le l r.m.key
    refine ⟨fun x hx => ?_, ins_srt h.s r.m hf, fun x hx => ?_, by simp; omega⟩
    · rcases List.mem_append.1 hx with q | q
      · exact h.ok x (List.mem_of_mem_take q)
      · rcases List.mem_cons.1 q with rfl | q
        · exact hr.m
        · exact h.ok x (List.mem_of_mem_drop q)
    · rcases List.mem_append.1 hx with q | q
      · exact h.g x (List.mem_of_mem_take q)
      · rcases List.mem_cons.1 q with rfl | q
        · exact okR_m (by omega)
        · exact h.g x (List.mem_of_mem_drop q)
  · rw [if_pos rfl]; exact h
theorem filter_srt (p : Rt → Bool) : ∀ {l : List Rt}, l.Pairwise (fun a b => a.key < b.key) → (l.filter p).Pairwise (fun a b => a.key < b.key) := fun h => List.Pairwise.filter p h
theorem srt_pw {l : List Rt} : Srt l ↔ l.Pairwise (fun a b => a.key < b.key) := by
  rw [List.pairwise_iff_getElem]
  exact ⟨fun h i j hi hj hij => h i j hi hj hij, fun h j i hj hi hji => h j i hj hi hji⟩
theorem pdel_RI {l : List Rt} (h : RI l) (m : Nb) : RI (pdel l m).l := by
  unfold pdel
  refine ⟨fun x hx => h.ok x (List.mem_filter.1 hx).1, srt_pw.2 (filter_srt _ (srt_pw.1 h.s)), fun x hx => h.g x (List.mem_filter.1 hx).1, Nat.le_trans (List.length_filter_le _ _) h.n⟩
theorem dl_uniq {l : List Rt} (h : RI l) (m : Nb) (i j : Nat) (hi : i < l.length) (hj : j < l.length) (hij : i < j) (hd : dl m l[i] = true) : dl m l[j] = false := by
  rw [Bool.eq_false_iff]
  intro hd2
  have h1 := h.s i j hi hj hij
  have hk := (key_eq (h.ok _ (List.getElem_mem hi)) (h.ok _ (List.getElem_mem hj))).2 (by
    unfold dl nbEq at hd hd2
    simp only [Bool.and_eq_true, decide_eq_true_eq, and_true] at hd hd2
    obtain ⟨⟨a0, a1, a2, a3⟩, a4⟩ := hd
    obtain ⟨⟨b0, b1, b2, b3⟩, b4⟩ := hd2
    rw [a0, a1, a2, a3, a4, b0, b1, b2, b3, b4]
    exact ⟨rfl, rfl, rfl, rfl, rfl⟩)
  omega
theorem srt_nil : Srt [] := fun j i hj => absurd hj (by simp)
def g1 : Rt := ⟨0, 0, 0, 0, 0, 10, 0, 0, 1⟩
def g2 : Rt := ⟨10, 0, 0, 0, 8, 0, 0, 0, 0⟩
theorem g1_ok : g1.Ok := by constructor <;> decide
theorem g2_ok : g2.Ok := by constructor <;> decide
theorem lives_ok : ACall Try.prog 7 [] (.bool true) [] := by
  have o2 : ∀ r ∈ [g2, g1], r.Ok := by
    intro r hr; simp at hr; rcases hr with rfl | rfl
    · exact g2_ok
    · exact g1_ok
  have o1 : ∀ r ∈ [g1], r.Ok := by
    intro r hr; simp at hr; subst hr; exact g1_ok
  have s1 : Srt [g1] := fun j i hj hi h => by simp at hj hi; omega
  have c1 := add_ok [] (by decide) (fun r h => by cases h) srt_nil g1 g1_ok
  have c2 := add_ok [g1] (by decide) o1 s1 g2 g2_ok
  have c3 := find_ok [g2, g1] (by decide) o2 ⟨10, 2, 3, 4⟩ (by constructor <;> decide)
  have c4 := find_ok [g2, g1] (by decide) o2 ⟨1, 2, 3, 4⟩ (by constructor <;> decide)
  have c5 := right_ok [g2, g1] (by decide) o2
  rw [show radd [] g1 = ⟨[g1], 0⟩ from by kernel_rfl] at c1
  rw [show radd [g1] g2 = ⟨[g2, g1], 0⟩ from by kernel_rfl] at c2
  rw [show ans ⟨10, 2, 3, 4⟩ ([g2, g1].find? (wi ⟨10, 2, 3, 4⟩)) = ⟨⟨10, 2, 3, 4⟩, 0⟩ from by kernel_rfl] at c3
  rw [show ans ⟨1, 2, 3, 4⟩ ([g2, g1].find? (wi ⟨1, 2, 3, 4⟩)) = ⟨⟨10, 0, 0, 1⟩, 0⟩ from by kernel_rfl] at c4
  rw [show rightB [g2, g1] = true from by kernel_rfl] at c5
  simp only [List.map, rt, g1, g2, faV, Ip.l] at c1 c2 c3 c4 c5
  refine acall_walk (N := 63) Try.func7 (by kernel_rfl) p_caravellaw14_lives rfl ?_; unfold c_caravellaw14_lives; dsimp only [enum, Nat.reduceAdd]
  (repeat (first | ((with_reducible show RG _ _ (_ :: _) _ _ _); refine RG.go1 (k := ?_)) | ((with_reducible show DG _ _ (_ :: _) _ _ _ _ _); refine DG.go1 (k := ?_)) | with_reducible apply RG.nil | with_reducible apply W.seq | with_reducible apply W.reg | with_reducible apply W.skip | with_reducible apply W.block | with_reducible apply W.drw | with_reducible apply DG.nil | (with_reducible refine W.done (QB.n ?_)) | refine W.cndT ?_ | refine W.cndF ?_))
  (first | ((with_reducible show RG _ _ (_ :: _) _ _ _); refine RG.ca (c1) (k := ?_)) | ((with_reducible show DG _ _ (_ :: _) _ _ _ _ _); refine DG.ca (c1) (k := ?_)))
  (repeat (first | ((with_reducible show RG _ _ (_ :: _) _ _ _); refine RG.go1 (k := ?_)) | ((with_reducible show DG _ _ (_ :: _) _ _ _ _ _); refine DG.go1 (k := ?_)) | with_reducible apply RG.nil | with_reducible apply W.seq | with_reducible apply W.reg | with_reducible apply W.skip | with_reducible apply W.block | with_reducible apply W.drw | with_reducible apply DG.nil | (with_reducible refine W.done (QB.n ?_)) | refine W.cndT ?_ | refine W.cndF ?_))
  (first | ((with_reducible show RG _ _ (_ :: _) _ _ _); refine RG.ca (c2) (k := ?_)) | ((with_reducible show DG _ _ (_ :: _) _ _ _ _ _); refine DG.ca (c2) (k := ?_)))
  (repeat (first | ((with_reducible show RG _ _ (_ :: _) _ _ _); refine RG.go1 (k := ?_)) | ((with_reducible show DG _ _ (_ :: _) _ _ _ _ _); refine DG.go1 (k := ?_)) | with_reducible apply RG.nil | with_reducible apply W.seq | with_reducible apply W.reg | with_reducible apply W.skip | with_reducible apply W.block | with_reducible apply W.drw | with_reducible apply DG.nil | (with_reducible refine W.done (QB.n ?_)) | refine W.cndT ?_ | refine W.cndF ?_))
  (first | ((with_reducible show RG _ _ (_ :: _) _ _ _); refine RG.ca (c3) (k := ?_)) | ((with_reducible show DG _ _ (_ :: _) _ _ _ _ _); refine DG.ca (c3) (k := ?_)))
  (repeat (first | ((with_reducible show RG _ _ (_ :: _) _ _ _); refine RG.go1 (k := ?_)) | ((with_reducible show DG _ _ (_ :: _) _ _ _ _ _); refine DG.go1 (k := ?_)) | with_reducible apply RG.nil | with_reducible apply W.seq | with_reducible apply W.reg | with_reducible apply W.skip | with_reducible apply W.block | with_reducible apply W.drw | with_reducible apply DG.nil | (with_reducible refine W.done (QB.n ?_)) | refine W.cndT ?_ | refine W.cndF ?_))
  (first | ((with_reducible show RG _ _ (_ :: _) _ _ _); refine RG.ca (c4) (k := ?_)) | ((with_reducible show DG _ _ (_ :: _) _ _ _ _ _); refine DG.ca (c4) (k := ?_)))
  (repeat (first | ((with_reducible show RG _ _ (_ :: _) _ _ _); refine RG.go1 (k := ?_)) | ((with_reducible show DG _ _ (_ :: _) _ _ _ _ _); refine DG.go1 (k := ?_)) | with_reducible apply RG.nil | with_reducible apply W.seq | with_reducible apply W.reg | with_reducible apply W.skip | with_reducible apply W.block | with_reducible apply W.drw | with_reducible apply DG.nil | (with_reducible refine W.done (QB.n ?_)) | refine W.cndT ?_ | refine W.cndF ?_))
  (first | ((with_reducible show RG _ _ (_ :: _) _ _ _); refine RG.ewg (rfl) (k := ?_)) | ((with_reducible show DG _ _ (_ :: _) _ _ _ _ _); refine DG.ewg (rfl) (k := ?_)))
  (repeat (first | ((with_reducible show RG _ _ (_ :: _) _ _ _); refine RG.go1 (k := ?_)) | ((with_reducible show DG _ _ (_ :: _) _ _ _ _ _); refine DG.go1 (k := ?_)) | with_reducible apply RG.nil | with_reducible apply W.seq | with_reducible apply W.reg | with_reducible apply W.skip | with_reducible apply W.block | with_reducible apply W.drw | with_reducible apply DG.nil | (with_reducible refine W.done (QB.n ?_)) | refine W.cndT ?_ | refine W.cndF ?_))
  (first | ((with_reducible show RG _ _ (_ :: _) _ _ _); refine RG.gca (fun _ => c5) (k := ?_)) | ((with_reducible show DG _ _ (_ :: _) _ _ _ _ _); refine DG.gca (fun _ => c5) (k := ?_)))
  (repeat (first | ((with_reducible show RG _ _ (_ :: _) _ _ _); refine RG.go1 (k := ?_)) | ((with_reducible show DG _ _ (_ :: _) _ _ _ _ _); refine DG.go1 (k := ?_)) | with_reducible apply RG.nil | with_reducible apply W.seq | with_reducible apply W.reg | with_reducible apply W.skip | with_reducible apply W.block | with_reducible apply W.drw | with_reducible apply DG.nil | (with_reducible refine W.done (QB.n ?_)) | refine W.cndT ?_ | refine W.cndF ?_))
  (refine W.ret ?_; (repeat (with_reducible first | refine QB.r ?_ | refine QL.r ?_ | refine QC.r ?_)); refine QF.r ?_)
  exact RetOk.rs (vs := [_]) r_caravellaw14_lives []
theorem routes_arg {w : World} {r : Reach} {b0 base : Nat} {H : Type} {enc : TypeId × Value → H} {spare : Nat → Bool} {held : Bool} {v : Value} {d : DataW H} {p : List MemPlace} (hv : Value.okWide Try.prog w r b0 22 v) (k : DataW.Trod enc Try.prog w base spare held 22 v d p) :
    ∃ l : List Rt, Rep0 (fun x => x < w.heap.size) w v (.sl false 9 (l.map rt)) ∧ l.length ≤ maxLen ∧ ∀ r ∈ l, r.Ok := by
  obtain ⟨av, hr, hf⟩ := arg_sl (n := 5) (ts := [.int .u8, .int .u8, .int .u8, .int .u8, .int .i64, .int .u8, .int .u8, .int .u8, .int .u8]) Try.underlying22 (by kernel_rfl) hv k
  obtain ⟨l, rfl, hq, hl⟩ := hf.rows (fun x : Rt => [.int .u8 x.n0, .int .u8 x.n1, .int .u8 x.n2, .int .u8 x.n3, .int .i64 x.b, .int .u8 x.v0, .int .u8 x.v1, .int .u8 x.v2, .int .u8 x.v3]) (fun x => x.Ok) (by decide) (fun cs h => by
    obtain ⟨_, cs, rfl, h0, h⟩ := h.inv
    obtain ⟨_, cs, rfl, h1, h⟩ := h.inv
    obtain ⟨_, cs, rfl, h2, h⟩ := h.inv
    obtain ⟨_, cs, rfl, h3, h⟩ := h.inv
    obtain ⟨_, cs, rfl, h4, h⟩ := h.inv
    obtain ⟨_, cs, rfl, h5, h⟩ := h.inv
    obtain ⟨_, cs, rfl, h6, h⟩ := h.inv
    obtain ⟨_, cs, rfl, h7, h⟩ := h.inv
    obtain ⟨_, cs, rfl, h8, h⟩ := h.inv
    cases h.inv0
    obtain ⟨z0, rfl, w0⟩ := h0.int_inv
    obtain ⟨z1, rfl, w1⟩ := h1.int_inv
    obtain ⟨z2, rfl, w2⟩ := h2.int_inv
    obtain ⟨z3, rfl, w3⟩ := h3.int_inv
    obtain ⟨z4, rfl, w4⟩ := h4.int_inv
    obtain ⟨z5, rfl, w5⟩ := h5.int_inv
    obtain ⟨z6, rfl, w6⟩ := h6.int_inv
    obtain ⟨z7, rfl, w7⟩ := h7.int_inv
    obtain ⟨z8, rfl, w8⟩ := h8.int_inv
    exact ⟨⟨z0, z1, z2, z3, z4, z5, z6, z7, z8⟩, rfl, bounds_u8 w0, bounds_u8 w1, bounds_u8 w2, bounds_u8 w3, bounds_u8 w5, bounds_u8 w6, bounds_u8 w7, bounds_u8 w8, bounds_i64 w4⟩)
  exact ⟨l, hr, hl, hq⟩
theorem routeRight_ok (l : List Rt) (hL : (l.length : Int) ≤ 9223372036854775807) (hok : ∀ r ∈ l, r.Ok) : ACall Try.prog 4 [.sl false 9 (l.map rt)] (.bool true) [] := by
  have hl := lives_ok
  have el := rt_len l
  by_cases h60 : 60 < l.length
  · refine acall_walk (N := 16) Try.func4 (by kernel_rfl) p_caravellaw14_RouteRight rfl ?_; unfold c_caravellaw14_RouteRight; dsimp only [enum, Nat.reduceAdd]
    (repeat (first | ((with_reducible show RG _ _ (_ :: _) _ _ _); refine RG.go1 (k := ?_)) | ((with_reducible show DG _ _ (_ :: _) _ _ _ _ _); refine DG.go1 (k := ?_)) | with_reducible apply RG.nil | with_reducible apply W.seq | with_reducible apply W.reg | with_reducible apply W.skip | with_reducible apply W.block | with_reducible apply W.drw | with_reducible apply DG.nil | (with_reducible refine W.done (QB.n ?_)) | refine W.cndT ?_ | refine W.cndF ?_))
    (first | ((with_reducible show RG _ _ (_ :: _) _ _ _); refine RG.ca (hl) (k := ?_)) | ((with_reducible show DG _ _ (_ :: _) _ _ _ _ _); refine DG.ca (hl) (k := ?_)))
    (repeat (first | ((with_reducible show RG _ _ (_ :: _) _ _ _); refine RG.go1 (k := ?_)) | ((with_reducible show DG _ _ (_ :: _) _ _ _ _ _); refine DG.go1 (k := ?_)) | with_reducible apply RG.nil | with_reducible apply W.seq | with_reducible apply W.reg | with_reducible apply W.skip | with_reducible apply W.block | with_reducible apply W.drw | with_reducible apply DG.nil | (with_reducible refine W.done (QB.n ?_)) | refine W.cndT ?_ | refine W.cndF ?_))
    (first | ((with_reducible show RG _ _ (_ :: _) _ _ _); refine RG.ca (hl) (k := ?_)) | ((with_reducible show DG _ _ (_ :: _) _ _ _ _ _); refine DG.ca (hl) (k := ?_)))
    (repeat (first | ((with_reducible show RG _ _ (_ :: _) _ _ _); refine RG.go1 (k := ?_)) | ((with_reducible show DG _ _ (_ :: _) _ _ _ _ _); refine DG.go1 (k := ?_)) | with_reducible apply RG.nil | with_reducible apply W.seq | with_reducible apply W.reg | with_reducible apply W.skip | with_reducible apply W.block | with_reducible apply W.drw | with_reducible apply DG.nil | (with_reducible refine W.done (QB.n ?_)) | refine W.cndT ?_ | refine W.cndF ?_))
    (refine W.ret ?_; (repeat (with_reducible first | refine QB.r ?_ | refine QL.r ?_ | refine QC.r ?_)); refine QF.r ?_)
    exact RetOk.rs (vs := [_]) r_caravellaw14_RouteRight []
  · have c1 := right_ok l (by omega) hok
    have c2 := rright_ok l (by omega) hok
    refine acall_walk (N := 16) Try.func4 (by kernel_rfl) p_caravellaw14_RouteRight rfl ?_; unfold c_caravellaw14_RouteRight; dsimp only [enum, Nat.reduceAdd]
    (repeat (first | ((with_reducible show RG _ _ (_ :: _) _ _ _); refine RG.go1 (k := ?_)) | ((with_reducible show DG _ _ (_ :: _) _ _ _ _ _); refine DG.go1 (k := ?_)) | with_reducible apply RG.nil | with_reducible apply W.seq | with_reducible apply W.reg | with_reducible apply W.skip | with_reducible apply W.block | with_reducible apply W.drw | with_reducible apply DG.nil | (with_reducible refine W.done (QB.n ?_)) | refine W.cndT ?_ | refine W.cndF ?_))
    (first | ((with_reducible show RG _ _ (_ :: _) _ _ _); refine RG.ca (hl) (k := ?_)) | ((with_reducible show DG _ _ (_ :: _) _ _ _ _ _); refine DG.ca (hl) (k := ?_)))
    (repeat (first | ((with_reducible show RG _ _ (_ :: _) _ _ _); refine RG.go1 (k := ?_)) | ((with_reducible show DG _ _ (_ :: _) _ _ _ _ _); refine DG.go1 (k := ?_)) | with_reducible apply RG.nil | with_reducible apply W.seq | with_reducible apply W.reg | with_reducible apply W.skip | with_reducible apply W.block | with_reducible apply W.drw | with_reducible apply DG.nil | (with_reducible refine W.done (QB.n ?_)) | refine W.cndT ?_ | refine W.cndF ?_))
    (first | ((with_reducible show RG _ _ (_ :: _) _ _ _); refine RG.ca (c1) (k := ?_)) | ((with_reducible show DG _ _ (_ :: _) _ _ _ _ _); refine DG.ca (c1) (k := ?_)))
    (repeat (first | ((with_reducible show RG _ _ (_ :: _) _ _ _); refine RG.go1 (k := ?_)) | ((with_reducible show DG _ _ (_ :: _) _ _ _ _ _); refine DG.go1 (k := ?_)) | with_reducible apply RG.nil | with_reducible apply W.seq | with_reducible apply W.reg | with_reducible apply W.skip | with_reducible apply W.block | with_reducible apply W.drw | with_reducible apply DG.nil | (with_reducible refine W.done (QB.n ?_)) | refine W.cndT ?_ | refine W.cndF ?_))
    (first | ((with_reducible show RG _ _ (_ :: _) _ _ _); refine RG.ca (c2) (k := ?_)) | ((with_reducible show DG _ _ (_ :: _) _ _ _ _ _); refine DG.ca (c2) (k := ?_)))
    (repeat (first | ((with_reducible show RG _ _ (_ :: _) _ _ _); refine RG.go1 (k := ?_)) | ((with_reducible show DG _ _ (_ :: _) _ _ _ _ _); refine DG.go1 (k := ?_)) | with_reducible apply RG.nil | with_reducible apply W.seq | with_reducible apply W.reg | with_reducible apply W.skip | with_reducible apply W.block | with_reducible apply W.drw | with_reducible apply DG.nil | (with_reducible refine W.done (QB.n ?_)) | refine W.cndT ?_ | refine W.cndF ?_))
    (refine W.ret ?_; (repeat (with_reducible first | refine QB.r ?_ | refine QL.r ?_ | refine QC.r ?_)); refine QF.r ?_)
    exact RetOk.rs (vs := [_]) r_caravellaw14_RouteRight []
theorem RouteRight_walk {r : Reach} {b0 base : Nat} {H : Type} {enc : TypeId × Value → H} {spare : Nat → Bool} {held : Bool} {d : DataW H} {p : List MemPlace} (v : Value) (W : World) (hv : Value.okWide Try.prog W r b0 22 v) (k : DataW.Trod enc Try.prog W base spare held 22 v d p) :
    Calls Try.prog 4 #[v] W fun e W' => e = .returned (.bool true) ∧ Below W.heap.size W W' := by
  obtain ⟨l, hr, hl, hq⟩ := routes_arg hv k
  exact acall_lawF (routeRight_ok l (len_le hl) hq) W [_] ⟨.pure _ _ hr, trivial⟩
end Go.Proofs.Yteljhabahaimpaa
