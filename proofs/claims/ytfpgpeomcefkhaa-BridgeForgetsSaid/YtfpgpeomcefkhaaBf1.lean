/- BridgeForgets, plainly: which cards are known, which were seen. -/
import Derived.Test.YtfpgpeomcefkhaaBp1
import Derived.Test.YtfpgpeomcefkhaaAxX
import Derived.Test.YtfpgpeomcefkhaaAxR
namespace Go.Proofs.Ytfpgpeomcefkhaa
open Go.RowKit
set_option linter.unusedVariables false
set_option linter.unusedSimpArgs false
/-- A card that came, and its port. -/
abbrev CP := UInt8 × Int
def lr (e : CP) : Lrn := ⟨2, e.1.toNat, 0, 0, 0, 0, e.2⟩
def m2 (c : UInt8) : Mac := ⟨2, c.toNat, 0, 0, 0, 0⟩
theorem u8_iff {a b : UInt8} : (a.toNat : Int) = (b.toNat : Int) ↔ a = b :=
  ⟨fun h => UInt8.toNat_inj.1 (by omega), fun h => by rw [h]⟩
theorem m2_is (c : UInt8) (e : CP) : (m2 c).is (lr e) = (e.1 == c) := by
  rw [Bool.eq_iff_iff, is_iff, beq_iff_eq]
  show m2 e.1 = m2 c ↔ e.1 = c
  constructor
  · intro h
    exact u8_iff.1 (congrArg Mac.a1 h)
  · intro h
    rw [h]
theorem lr_mac (e : CP) : (lr e).mac = m2 e.1 := rfl
def dstep (D : List CP) (x : CP) : List CP := if D.any (fun e => e.1 == x.1) then D else D ++ [x]
def dd (r D : List CP) : List CP := r.foldl dstep D
theorem dd_ext : ∀ (r D : List CP), ∃ S, dd r D = D ++ S
  | [], D => ⟨[], by simp [dd]⟩
  | x :: r, D => by
    obtain ⟨S, h⟩ := dd_ext r (dstep D x)
    show ∃ S, dd r (dstep D x) = D ++ S
    rw [h]
    unfold dstep
    split
    · exact ⟨S, rfl⟩
    · exact ⟨x :: S, by simp⟩
theorem dd_take (r D : List CP) (h : 16 ≤ D.length) : (dd r D).take 16 = D.take 16 := by
  obtain ⟨S, e⟩ := dd_ext r D
  rw [e, List.take_append_of_le_length h]
theorem any_lr (D : List CP) (x : CP) : ((D.map lr).reverse).any (lr x).mac.is = D.any (fun e => e.1 == x.1) := by
  rw [List.any_reverse, List.any_map, lr_mac]
  congr 1
  funext e
  exact m2_is x.1 e
theorem kn_dd : ∀ (r D : List CP), kn (r.map lr) ((D.take 16).map lr).reverse = (((dd r D).take 16).map lr).reverse
  | [], D => rfl
  | x :: r, D => by
    rw [List.map_cons]
    show _ = (((dd r (dstep D x)).take 16).map lr).reverse
    by_cases h : D.length < 16
    · rw [List.take_of_length_le (by omega), kn_step (by simpa using h), any_lr]
      unfold dstep
      split
      · have := kn_dd r D
        rw [List.take_of_length_le (by omega)] at this
        exact this
      · have := kn_dd r (D ++ [x])
        rw [List.take_of_length_le (by simp; omega), List.map_append, List.reverse_append] at this
        exact this
    · rw [kn_full _ _ (by simp; omega)]
      have e : (dd r (dstep D x)).take 16 = D.take 16 := dd_take (x :: r) D (by omega)
      rw [e]
theorem known_dd (E : List CP) : known (E.map lr) = (((dd E.reverse []).take 16).map lr).reverse := by
  have := kn_dd E.reverse []
  unfold known
  rw [← List.map_reverse]
  exact this
/-- No key twice. -/
def DN (D : List CP) : Prop := (D.map (·.1)).Nodup
theorem dd_DN : ∀ (r D : List CP), DN D → DN (dd r D)
  | [], D, h => h
  | x :: r, D, h => by
    show DN (dd r (dstep D x))
    refine dd_DN r _ ?_
    unfold dstep
    split
    · exact h
    · rename_i q
      unfold DN
      rw [List.map_append, List.nodup_append]
      refine ⟨h, by simp, fun a ha b hb => ?_⟩
      simp only [List.map_cons, List.map_nil, List.mem_singleton] at hb
      subst hb
      rintro rfl
      obtain ⟨e, he, e1⟩ := List.mem_map.1 ha
      exact q (List.any_eq_true.2 ⟨e, he, by simp [e1]⟩)
theorem DN_eq {D : List CP} (h : DN D) {e x : CP} (he : e ∈ D) (hx : x ∈ D) (hk : e.1 = x.1) : e = x := by
  induction D with
  | nil => cases he
  | cons y D ih =>
    unfold DN at h
    rw [List.map_cons, List.nodup_cons] at h
    rcases List.mem_cons.1 he with q1 | q1
    · rcases List.mem_cons.1 hx with q2 | q2
      · rw [q1, q2]
      · exact absurd (List.mem_map.2 ⟨x, q2, hk.symm.trans (congrArg Prod.fst q1)⟩) h.1
    · rcases List.mem_cons.1 hx with q2 | q2
      · exact absurd (List.mem_map.2 ⟨e, q1, hk.trans (congrArg Prod.fst q2)⟩) h.1
      · exact ih h.2 q1 q2
theorem find_in {L : List CP} (h : DN L) {x : CP} (hx : x ∈ L) : bfind (L.map lr).reverse (m2 x.1) = (x.2, true) := by
  unfold bfind
  cases hf : (L.map lr).reverse.find? (m2 x.1).is with
  | none =>
    have := List.find?_eq_none.1 hf (lr x) (by simp; exact ⟨x.1, x.2, hx, rfl⟩)
    rw [m2_is] at this
    simp at this
  | some y =>
    have h1 := List.find?_some hf
    have h2 := List.mem_of_find?_eq_some hf
    rw [List.mem_reverse, List.mem_map] at h2
    obtain ⟨e, he, rfl⟩ := h2
    rw [m2_is] at h1
    have := DN_eq h he hx (by simpa using h1)
    subst this
    rfl
theorem find_out {L : List CP} {c : UInt8} (h : ∀ e ∈ L, e.1 ≠ c) : bfind (L.map lr).reverse (m2 c) = (0, false) := by
  unfold bfind
  have : (L.map lr).reverse.find? (m2 c).is = none := by
    rw [List.find?_eq_none]
    intro y hy
    rw [List.mem_reverse, List.mem_map] at hy
    obtain ⟨e, he, rfl⟩ := hy
    rw [m2_is]
    simpa using h e he
  rw [this]
theorem dd_any (c : UInt8) : ∀ (r D : List CP), (dd r D).any (fun e => e.1 == c) = (D.any (fun e => e.1 == c) || r.any fun e => e.1 == c)
  | [], D => by simp [dd]
  | x :: r, D => by
    show (dd r (dstep D x)).any _ = _
    rw [dd_any c r, List.any_cons]
    unfold dstep
    split
    · rename_i q
      by_cases hx : x.1 = c
      · subst hx
        rw [q]; simp
      · rw [beq_eq_false_iff_ne.2 hx, Bool.false_or]
    · simp [List.any_append, Bool.or_assoc]
theorem dd_snoc (r : List CP) (x : CP) (D : List CP) : dd (r ++ [x]) D = dstep (dd r D) x := by simp [dd, List.foldl_append]
/-- A step of the second loop: what Find tells of a card that was not seen behind. -/
theorem forget_step {E : List CP} {t : Nat} {x : CP} (hx : E.reverse[t]? = some x) (hn : (dd (E.reverse.take t) []).any (fun e => e.1 == x.1) = false) :
    ((dd (E.reverse.take t) []).length < 16 → bfind (known (E.map lr)) (m2 x.1) = (x.2, true)) ∧ (16 ≤ (dd (E.reverse.take t) []).length → bfind (known (E.map lr)) (m2 x.1) = (0, false)) := by
  obtain ⟨ht, hx'⟩ := List.getElem?_eq_some_iff.1 hx
  have e1 : E.reverse = (E.reverse.take t ++ [x]) ++ E.reverse.drop (t + 1) := by
    rw [← hx', ← List.take_succ_eq_append_getElem ht, List.take_append_drop]
  have e2 : dd E.reverse [] = dd (E.reverse.drop (t + 1)) (dd (E.reverse.take t ++ [x]) []) := by
    conv => lhs; rw [e1]
    unfold dd
    rw [List.foldl_append]
  have e3 : dd (E.reverse.take t ++ [x]) [] = dd (E.reverse.take t) [] ++ [x] := by
    rw [dd_snoc]
    unfold dstep
    rw [hn]; rfl
  rw [e3] at e2
  have hD := dd_DN E.reverse [] (by unfold DN; simp)
  obtain ⟨S, hS⟩ := dd_ext (E.reverse.drop (t + 1)) (dd (E.reverse.take t) [] ++ [x])
  rw [known_dd]
  rw [e2, hS] at hD ⊢
  generalize dd (E.reverse.take t) [] = D at *
  constructor
  · intro h
    have hDN : DN ((D ++ [x] ++ S).take 16) := by
      unfold DN at hD ⊢
      rw [List.map_take]
      exact hD.sublist (List.take_sublist _ _)
    refine find_in hDN ?_
    rw [List.append_assoc, List.take_append]
    refine List.mem_append_right _ ?_
    have : (List.take (16 - D.length) ([x] ++ S)) = x :: List.take (15 - D.length) S := by
      rw [show 16 - D.length = (15 - D.length) + 1 by omega]; rfl
    rw [this]
    exact List.mem_cons_self ..
  · intro h
    rw [List.append_assoc, List.take_append_of_le_length h]
    refine find_out fun e he => ?_
    have := List.mem_of_mem_take he
    intro q
    have : D.any (fun e => e.1 == x.1) = true := List.any_eq_true.2 ⟨e, this, by simp [q]⟩
    rw [hn] at this
    cases this
/-! ### The two maps -/
theorem get_set (a c : Int) (v : Value) : ∀ (l : List En), getE c (setE a v l) = if c = a ∧ hasE a l = true then some v else getE c l
  | [] => by simp [getE, setE, hasE]
  | e :: l => by
    unfold setE
    by_cases h : a = e.k
    · rw [if_pos h]
      unfold getE
      by_cases hc : c = a
      · subst hc
        simp [hasE, h]
      · dsimp only
        rw [if_neg hc, if_neg (fun q => hc q.1), if_neg (by rw [← h]; exact hc)]
    · rw [if_neg h]
      unfold getE
      by_cases hc : c = e.k
      · rw [if_pos hc, if_pos hc, if_neg (fun q => h (q.1.symm.trans hc))]
      · rw [if_neg hc, if_neg hc, get_set a c v l]
        unfold hasE
        rw [List.any_cons, beq_eq_false_iff_ne.2 h, Bool.false_or]
theorem get_app (c a : Int) (v : Value) (ck : Nat) : ∀ (l : List En), getE c (l ++ [⟨a, v, ck⟩]) = if hasE c l = true then getE c l else if c = a then some v else none
  | [] => by simp [getE, hasE]
  | e :: l => by
    rw [List.cons_append]
    unfold getE hasE
    rw [List.any_cons]
    by_cases hc : c = e.k
    · rw [if_pos hc, if_pos hc, if_pos (by simp [hc])]
    · rw [if_neg hc, if_neg hc, get_app c a v ck l, beq_eq_false_iff_ne.2 hc, Bool.false_or]; rfl
theorem get_upd (a c : Int) (v : Value) (ck : Nat) (l : List En) : getE c (updE a v ck l) = if c = a then some v else getE c l := by
  unfold updE
  cases h : hasE a l
  · rw [if_neg (by decide), get_app]
    by_cases hc : c = a
    · subst hc; rw [if_pos rfl, if_pos rfl, if_neg (by rw [h]; decide)]
    · rw [if_neg hc, if_neg hc]
      cases h2 : hasE c l
      · have := get_has c l
        rw [h2] at this
        rw [if_neg (by decide)]
        cases hg : getE c l with
        | none => rfl
        | some _ => rw [hg] at this; cases this
      · rw [if_pos rfl]
  · rw [if_pos rfl, get_set]
    by_cases hc : c = a
    · rw [if_pos ⟨hc, h⟩, if_pos hc]
    · rw [if_neg (fun q => hc q.1), if_neg hc]
def atS (s : List En × Nat) (e : CP) : List En × Nat := (updE e.1.toNat (.int .i64 e.2) s.2 s.1, updC e.1.toNat s.2 s.1)
def atF (E : List CP) : List En × Nat := E.foldl atS ([], 0)
theorem atF_snoc (E : List CP) (e : CP) : atF (E ++ [e]) = atS (atF E) e := by simp [atF, List.foldl_append]
theorem atF_get (c : UInt8) : ∀ (r : List CP), getE c.toNat (atF r.reverse).1 = (r.find? fun e => e.1 == c).map fun e => .int .i64 e.2
  | [] => rfl
  | x :: r => by
    rw [List.reverse_cons, atF_snoc]
    unfold atS
    dsimp only
    rw [get_upd, List.find?_cons]
    by_cases h : x.1 = c
    · subst h; simp
    · rw [if_neg (fun q => h (u8_iff.1 q).symm), atF_get c r, beq_eq_false_iff_ne.2 h]
theorem at_step {E : List CP} {t : Nat} {x : CP} (hx : E.reverse[t]? = some x) (hn : (dd (E.reverse.take t) []).any (fun e => e.1 == x.1) = false) : getE x.1.toNat (atF E).1 = some (.int .i64 x.2) := by
  obtain ⟨ht, hx'⟩ := List.getElem?_eq_some_iff.1 hx
  have := atF_get x.1 E.reverse
  rw [List.reverse_reverse] at this
  rw [this]
  rw [dd_any, List.any_nil, Bool.false_or] at hn
  have e1 : E.reverse = E.reverse.take t ++ (x :: E.reverse.drop (t + 1)) := by
    rw [← hx', List.getElem_cons_drop, List.take_append_drop]
  rw [e1, List.find?_append]
  have : (E.reverse.take t).find? (fun e => e.1 == x.1) = none := by
    rw [List.find?_eq_none]
    intro e he
    have := List.any_eq_false.1 hn e he
    exact this
  rw [this]
  simp
/-- The map of the cards seen. -/
def smk : Nat → List CP → List En
  | _, [] => []
  | k, e :: D => ⟨e.1.toNat, .bool true, k⟩ :: smk (k + 1) D
theorem smk_len : ∀ (k : Nat) (D : List CP), (smk k D).length = D.length
  | _, [] => rfl
  | k, e :: D => by simp [smk, smk_len (k + 1) D]
theorem smk_app (x : CP) : ∀ (k : Nat) (D : List CP), smk k (D ++ [x]) = smk k D ++ [⟨x.1.toNat, .bool true, k + D.length⟩]
  | k, [] => by simp [smk]
  | k, e :: D => by
    rw [List.cons_append]
    unfold smk
    rw [smk_app x (k + 1) D, List.cons_append, List.length_cons, show k + 1 + D.length = k + (D.length + 1) by omega]
theorem smk_has (c : UInt8) : ∀ (k : Nat) (D : List CP), hasE c.toNat (smk k D) = D.any (fun e => e.1 == c)
  | _, [] => rfl
  | k, e :: D => by
    unfold smk hasE
    rw [List.any_cons, List.any_cons]
    have := smk_has c (k + 1) D
    unfold hasE at this
    rw [this]
    by_cases h : e.1 = c
    · simp [h]
    · rw [beq_eq_false_iff_ne.2 h, beq_eq_false_iff_ne.2 (fun q => h (u8_iff.1 q).symm)]
theorem smk_get (c : UInt8) : ∀ (k : Nat) (D : List CP), getE c.toNat (smk k D) = if D.any (fun e => e.1 == c) = true then some (.bool true) else none
  | _, [] => rfl
  | k, e :: D => by
    unfold smk getE
    by_cases h : e.1 = c
    · subst h; simp
    · rw [if_neg (fun q => h (u8_iff.1 q).symm), smk_get c (k + 1) D, List.any_cons, beq_eq_false_iff_ne.2 h, Bool.false_or]
theorem smk_upd {D : List CP} {x : CP} (h : D.any (fun e => e.1 == x.1) = false) : updE x.1.toNat (.bool true) D.length (smk 0 D) = smk 0 (D ++ [x]) ∧ updC x.1.toNat D.length (smk 0 D) = (D ++ [x]).length := by
  unfold updE updC
  rw [smk_has, h, smk_app, Nat.zero_add]
  simp
end Go.Proofs.Ytfpgpeomcefkhaa

namespace Go.Proofs.Ytfpgpeomcefkhaa
open Go.RowKit
set_option linter.unusedVariables false
set_option linter.unusedSimpArgs false
set_option maxRecDepth 100000
set_option maxHeartbeats 4000000
theorem lives_ok : ACall Try.prog 6 [] (.bool true) [] := by
  have cn := bNew_ok 3
  rw [if_pos (by decide), if_pos (by decide)] at cn
  have ca := frame_ok ⟨2, 2, 0, 0, 0, 0⟩ ⟨2, 1, 0, 0, 0, 0⟩
  have cc := frame_ok ⟨2, 1, 0, 0, 0, 0⟩ ⟨2, 2, 0, 0, 0, 0⟩
  have f1 := bForward_ok 3 (by decide) [] (by decide) 0 [2, 2, 0, 0, 0, 0, 2, 1, 0, 0, 0, 0, 8, 0] (by decide)
  have f2 := bForward_ok 3 (by decide) [⟨2, 1, 0, 0, 0, 0, 0⟩] (by decide) 2 [2, 1, 0, 0, 0, 0, 2, 2, 0, 0, 0, 0, 8, 0] (by decide)
  have f3 := bForward_ok 3 (by decide) [⟨2, 1, 0, 0, 0, 0, 0⟩, ⟨2, 2, 0, 0, 0, 0, 2⟩] (by decide) 0 [2, 2, 0, 0, 0, 0, 2, 1, 0, 0, 0, 0, 8, 0] (by decide)
  rw [show bfwd 3 [] 0 [2, 2, 0, 0, 0, 0, 2, 1, 0, 0, 0, 0, 8, 0] = ⟨[⟨2, 1, 0, 0, 0, 0, 0⟩], [1, 2], 0⟩ from rfl] at f1
  rw [show bfwd 3 [⟨2, 1, 0, 0, 0, 0, 0⟩] 2 [2, 1, 0, 0, 0, 0, 2, 2, 0, 0, 0, 0, 8, 0] = ⟨[⟨2, 1, 0, 0, 0, 0, 0⟩, ⟨2, 2, 0, 0, 0, 0, 2⟩], [0], 0⟩ from rfl] at f2
  rw [show bfwd 3 [⟨2, 1, 0, 0, 0, 0, 0⟩, ⟨2, 2, 0, 0, 0, 0, 2⟩] 0 [2, 2, 0, 0, 0, 0, 2, 1, 0, 0, 0, 0, 8, 0] = ⟨[⟨2, 2, 0, 0, 0, 0, 2⟩, ⟨2, 1, 0, 0, 0, 0, 0⟩], [2], 0⟩ from rfl] at f3
  simp only [Mac.l, List.cons_append, List.nil_append] at ca cc
  simp only [List.map, lrn, iv] at f1 f2 f3
  refine acall_walk (N := 86) Try.func6 (by kernel_rfl) p_caravellaw12_lives rfl ?_; unfold c_caravellaw12_lives; dsimp only [enum, Nat.reduceAdd]
  (repeat (first | ((with_reducible show RG _ _ (_ :: _) _ _ _); refine RG.go1 (k := ?_)) | ((with_reducible show DG _ _ (_ :: _) _ _ _ _ _); refine DG.go1 (k := ?_)) | (with_reducible first | apply RG.nil | apply W.seq | apply W.reg | apply W.skip | apply W.block | apply W.drw | apply DG.nil | refine W.done (QB.n ?_)) | refine W.cndT ?_ | refine W.cndF ?_))
  (first | ((with_reducible show RG _ _ (_ :: _) _ _ _); refine RG.ca (cn) (k := ?_)) | ((with_reducible show DG _ _ (_ :: _) _ _ _ _ _); refine DG.ca (cn) (k := ?_)))
  (repeat (first | ((with_reducible show RG _ _ (_ :: _) _ _ _); refine RG.go1 (k := ?_)) | ((with_reducible show DG _ _ (_ :: _) _ _ _ _ _); refine DG.go1 (k := ?_)) | (with_reducible first | apply RG.nil | apply W.seq | apply W.reg | apply W.skip | apply W.block | apply W.drw | apply DG.nil | refine W.done (QB.n ?_)) | refine W.cndT ?_ | refine W.cndF ?_))
  (first | ((with_reducible show RG _ _ (_ :: _) _ _ _); refine RG.ca (ca) (k := ?_)) | ((with_reducible show DG _ _ (_ :: _) _ _ _ _ _); refine DG.ca (ca) (k := ?_)))
  (repeat (first | ((with_reducible show RG _ _ (_ :: _) _ _ _); refine RG.go1 (k := ?_)) | ((with_reducible show DG _ _ (_ :: _) _ _ _ _ _); refine DG.go1 (k := ?_)) | (with_reducible first | apply RG.nil | apply W.seq | apply W.reg | apply W.skip | apply W.block | apply W.drw | apply DG.nil | refine W.done (QB.n ?_)) | refine W.cndT ?_ | refine W.cndF ?_))
  (first | ((with_reducible show RG _ _ (_ :: _) _ _ _); refine RG.ca (f1) (k := ?_)) | ((with_reducible show DG _ _ (_ :: _) _ _ _ _ _); refine DG.ca (f1) (k := ?_)))
  (repeat (first | ((with_reducible show RG _ _ (_ :: _) _ _ _); refine RG.go1 (k := ?_)) | ((with_reducible show DG _ _ (_ :: _) _ _ _ _ _); refine DG.go1 (k := ?_)) | (with_reducible first | apply RG.nil | apply W.seq | apply W.reg | apply W.skip | apply W.block | apply W.drw | apply DG.nil | refine W.done (QB.n ?_)) | refine W.cndT ?_ | refine W.cndF ?_))
  (first | ((with_reducible show RG _ _ (_ :: _) _ _ _); refine RG.ca (cc) (k := ?_)) | ((with_reducible show DG _ _ (_ :: _) _ _ _ _ _); refine DG.ca (cc) (k := ?_)))
  (repeat (first | ((with_reducible show RG _ _ (_ :: _) _ _ _); refine RG.go1 (k := ?_)) | ((with_reducible show DG _ _ (_ :: _) _ _ _ _ _); refine DG.go1 (k := ?_)) | (with_reducible first | apply RG.nil | apply W.seq | apply W.reg | apply W.skip | apply W.block | apply W.drw | apply DG.nil | refine W.done (QB.n ?_)) | refine W.cndT ?_ | refine W.cndF ?_))
  (first | ((with_reducible show RG _ _ (_ :: _) _ _ _); refine RG.ca (f2) (k := ?_)) | ((with_reducible show DG _ _ (_ :: _) _ _ _ _ _); refine DG.ca (f2) (k := ?_)))
  (repeat (first | ((with_reducible show RG _ _ (_ :: _) _ _ _); refine RG.go1 (k := ?_)) | ((with_reducible show DG _ _ (_ :: _) _ _ _ _ _); refine DG.go1 (k := ?_)) | (with_reducible first | apply RG.nil | apply W.seq | apply W.reg | apply W.skip | apply W.block | apply W.drw | apply DG.nil | refine W.done (QB.n ?_)) | refine W.cndT ?_ | refine W.cndF ?_))
  (first | ((with_reducible show RG _ _ (_ :: _) _ _ _); refine RG.ca (ca) (k := ?_)) | ((with_reducible show DG _ _ (_ :: _) _ _ _ _ _); refine DG.ca (ca) (k := ?_)))
  (repeat (first | ((with_reducible show RG _ _ (_ :: _) _ _ _); refine RG.go1 (k := ?_)) | ((with_reducible show DG _ _ (_ :: _) _ _ _ _ _); refine DG.go1 (k := ?_)) | (with_reducible first | apply RG.nil | apply W.seq | apply W.reg | apply W.skip | apply W.block | apply W.drw | apply DG.nil | refine W.done (QB.n ?_)) | refine W.cndT ?_ | refine W.cndF ?_))
  (first | ((with_reducible show RG _ _ (_ :: _) _ _ _); refine RG.ca (f3) (k := ?_)) | ((with_reducible show DG _ _ (_ :: _) _ _ _ _ _); refine DG.ca (f3) (k := ?_)))
  (repeat (first | ((with_reducible show RG _ _ (_ :: _) _ _ _); refine RG.go1 (k := ?_)) | ((with_reducible show DG _ _ (_ :: _) _ _ _ _ _); refine DG.go1 (k := ?_)) | (with_reducible first | apply RG.nil | apply W.seq | apply W.reg | apply W.skip | apply W.block | apply W.drw | apply DG.nil | refine W.done (QB.n ?_)) | refine W.cndT ?_ | refine W.cndF ?_))
  (first | ((with_reducible show RG _ _ (_ :: _) _ _ _); refine RG.ewg (cptr_of ((show [AV.int IntKind.i64 0][(0 : Int).toNat]?.getD .any = .int .i64 0 from rfl)) (by (conv => lhs; whnf) <;> exact rfl)) (k := ?_)) | ((with_reducible show DG _ _ (_ :: _) _ _ _ _ _); refine DG.ewg (cptr_of ((show [AV.int IntKind.i64 0][(0 : Int).toNat]?.getD .any = .int .i64 0 from rfl)) (by (conv => lhs; whnf) <;> exact rfl)) (k := ?_)))
  (repeat (first | ((with_reducible show RG _ _ (_ :: _) _ _ _); refine RG.go1 (k := ?_)) | ((with_reducible show DG _ _ (_ :: _) _ _ _ _ _); refine DG.go1 (k := ?_)) | (with_reducible first | apply RG.nil | apply W.seq | apply W.reg | apply W.skip | apply W.block | apply W.drw | apply DG.nil | refine W.done (QB.n ?_)) | refine W.cndT ?_ | refine W.cndF ?_))
  (first | ((with_reducible show RG _ _ (_ :: _) _ _ _); refine RG.ewg (cptr_of ((show [AV.int IntKind.i64 2][(0 : Int).toNat]?.getD .any = .int .i64 2 from rfl)) (by (conv => lhs; whnf) <;> exact rfl)) (k := ?_)) | ((with_reducible show DG _ _ (_ :: _) _ _ _ _ _); refine DG.ewg (cptr_of ((show [AV.int IntKind.i64 2][(0 : Int).toNat]?.getD .any = .int .i64 2 from rfl)) (by (conv => lhs; whnf) <;> exact rfl)) (k := ?_)))
  (repeat (first | ((with_reducible show RG _ _ (_ :: _) _ _ _); refine RG.go1 (k := ?_)) | ((with_reducible show DG _ _ (_ :: _) _ _ _ _ _); refine DG.go1 (k := ?_)) | (with_reducible first | apply RG.nil | apply W.seq | apply W.reg | apply W.skip | apply W.block | apply W.drw | apply DG.nil | refine W.done (QB.n ?_)) | refine W.cndT ?_ | refine W.cndF ?_))
  (refine W.ret ?_; (repeat (with_reducible first | refine QB.r ?_ | refine QL.r ?_ | refine QC.r ?_)); refine QF.r ?_)
  exact RetOk.rs (vs := [_]) r_caravellaw12_lives []
end Go.Proofs.Ytfpgpeomcefkhaa

namespace Go.Proofs.Ytfpgpeomcefkhaa
open Go.RowKit
set_option linter.unusedVariables false
set_option linter.unusedSimpArgs false
set_option maxRecDepth 100000
set_option maxHeartbeats 4000000
theorem len_le {n : Nat} (h : n ≤ maxLen) : (n : Int) ≤ 9223372036854775807 := by
  have h2 : (maxLen : Int) ≤ 9223372036854775807 := by decide
  omega
structure PS where
  i : Nat
  l : List Lrn
end Go.Proofs.Ytfpgpeomcefkhaa

namespace Go.Proofs.Ytfpgpeomcefkhaa
open Go.RowKit
set_option linter.unusedVariables false
set_option linter.unusedSimpArgs false
set_option maxRecDepth 100000
set_option maxHeartbeats 4000000
def pE (ports : List UInt8) (i : Nat) : Int := if i < ports.length then ((ports[i]?.getD 0).toNat : Int) % 8 else 0
theorem pE_bd (ports : List UInt8) (i : Nat) : 0 ≤ pE ports i ∧ pE ports i < 8 := by
  unfold pE
  split
  · omega
  · omega
def evs (l ports : List UInt8) : List CP := l.mapIdx fun i c => (c, pE ports i)
theorem evs_len (l ports : List UInt8) : (evs l ports).length = l.length := by simp [evs]
theorem evs_at (l ports : List UInt8) {i : Nat} (h : i < l.length) : (evs l ports)[i]'(by rw [evs_len]; exact h) = (l[i], pE ports i) := by simp [evs]
theorem evs_snoc (l ports : List UInt8) {i : Nat} (h : i < l.length) : (evs l ports).take (i + 1) = (evs l ports).take i ++ [(l[i], pE ports i)] := by
  rw [List.take_succ_eq_append_getElem (by rw [evs_len]; exact h), evs_at l ports h]
theorem by8_at (l : List UInt8) (i : Nat) (h : i < l.length) {j : Nat} (hj : j = i) : (l.map by8)[j]?.getD .any = .int .u8 l[i].toNat := by
  subst hj; simp [h, by8]
theorem mtI : MapT Try.prog 53 .u8 3 (.int .i64 0) := ⟨⟨_, Try.underlying53, Try.underlying5⟩, by kernel_rfl⟩
theorem mtB : MapT Try.prog 54 .u8 4 (.bool false) := ⟨⟨_, Try.underlying54, Try.underlying5⟩, by kernel_rfl⟩
theorem fwd2 {K : List Lrn} {p : Int} (hp : 0 ≤ p ∧ p < 8) (c : UInt8) : ∃ out, bfwd 8 K p [4, 4, 0, 0, 0, 0, 2, c, 0, 0, 0, 0, 8, 0] = ⟨blearn K (m2 c) p, out, 0⟩ := by
  have e := bfwd_ok (np := 8) K hp (s := [4, 4, 0, 0, 0, 0, 2, c, 0, 0, 0, 0, 8, 0]) (by simp)
  have f : fseen K p [4, 4, 0, 0, 0, 0, 2, c, 0, 0, 0, 0, 8, 0] = blearn K (m2 c) p := rfl
  rw [f] at e
  exact ⟨_, e⟩
theorem bridgeForgets_ok (l ports : List UInt8) (hL : (l.length : Int) ≤ 9223372036854775807) (hP : (ports.length : Int) ≤ 9223372036854775807) :
    ACall Try.prog 5 [.sl false 1 (l.map by8), .sl false 1 (ports.map by8)] (.bool true) [] := by
  have hl := lives_ok
  have el : (l.map by8).length = l.length := by simp
  have ep : (ports.map by8).length = ports.length := by simp
  have cn := bNew_ok 8
  rw [if_pos (by decide), if_pos (by decide)] at cn
  by_cases h1 : 80 < l.length
  · refine acall_walk (N := 125) Try.func5 (by kernel_rfl) p_caravellaw12_BridgeForgets rfl ?_; unfold c_caravellaw12_BridgeForgets; dsimp only [enum, Nat.reduceAdd]
    (repeat (first | ((with_reducible show RG _ _ (_ :: _) _ _ _); refine RG.go1 (k := ?_)) | ((with_reducible show DG _ _ (_ :: _) _ _ _ _ _); refine DG.go1 (k := ?_)) | (with_reducible first | apply RG.nil | apply W.seq | apply W.reg | apply W.skip | apply W.block | apply W.drw | apply DG.nil | refine W.done (QB.n ?_)) | refine W.cndT ?_ | refine W.cndF ?_))
    (first | ((with_reducible show RG _ _ (_ :: _) _ _ _); refine RG.ca (hl) (k := ?_)) | ((with_reducible show DG _ _ (_ :: _) _ _ _ _ _); refine DG.ca (hl) (k := ?_)))
    (repeat (first | ((with_reducible show RG _ _ (_ :: _) _ _ _); refine RG.go1 (k := ?_)) | ((with_reducible show DG _ _ (_ :: _) _ _ _ _ _); refine DG.go1 (k := ?_)) | (with_reducible first | apply RG.nil | apply W.seq | apply W.reg | apply W.skip | apply W.block | apply W.drw | apply DG.nil | refine W.done (QB.n ?_)) | refine W.cndT ?_ | refine W.cndF ?_))
    (first | ((with_reducible show RG _ _ (_ :: _) _ _ _); refine RG.ca (hl) (k := ?_)) | ((with_reducible show DG _ _ (_ :: _) _ _ _ _ _); refine DG.ca (hl) (k := ?_)))
    (repeat (first | ((with_reducible show RG _ _ (_ :: _) _ _ _); refine RG.go1 (k := ?_)) | ((with_reducible show DG _ _ (_ :: _) _ _ _ _ _); refine DG.go1 (k := ?_)) | (with_reducible first | apply RG.nil | apply W.seq | apply W.reg | apply W.skip | apply W.block | apply W.drw | apply DG.nil | refine W.done (QB.n ?_)) | refine W.cndT ?_ | refine W.cndF ?_))
    (refine W.ret ?_; (repeat (with_reducible first | refine QB.r ?_ | refine QL.r ?_ | refine QC.r ?_)); refine QF.r ?_)
    exact RetOk.rs (vs := [_]) r_caravellaw12_BridgeForgets []
  by_cases h2 : 80 < ports.length
  · refine acall_walk (N := 125) Try.func5 (by kernel_rfl) p_caravellaw12_BridgeForgets rfl ?_; unfold c_caravellaw12_BridgeForgets; dsimp only [enum, Nat.reduceAdd]
    (repeat (first | ((with_reducible show RG _ _ (_ :: _) _ _ _); refine RG.go1 (k := ?_)) | ((with_reducible show DG _ _ (_ :: _) _ _ _ _ _); refine DG.go1 (k := ?_)) | (with_reducible first | apply RG.nil | apply W.seq | apply W.reg | apply W.skip | apply W.block | apply W.drw | apply DG.nil | refine W.done (QB.n ?_)) | refine W.cndT ?_ | refine W.cndF ?_))
    (first | ((with_reducible show RG _ _ (_ :: _) _ _ _); refine RG.ca (hl) (k := ?_)) | ((with_reducible show DG _ _ (_ :: _) _ _ _ _ _); refine DG.ca (hl) (k := ?_)))
    (repeat (first | ((with_reducible show RG _ _ (_ :: _) _ _ _); refine RG.go1 (k := ?_)) | ((with_reducible show DG _ _ (_ :: _) _ _ _ _ _); refine DG.go1 (k := ?_)) | (with_reducible first | apply RG.nil | apply W.seq | apply W.reg | apply W.skip | apply W.block | apply W.drw | apply DG.nil | refine W.done (QB.n ?_)) | refine W.cndT ?_ | refine W.cndF ?_))
    (first | ((with_reducible show RG _ _ (_ :: _) _ _ _); refine RG.ca (hl) (k := ?_)) | ((with_reducible show DG _ _ (_ :: _) _ _ _ _ _); refine DG.ca (hl) (k := ?_)))
    (repeat (first | ((with_reducible show RG _ _ (_ :: _) _ _ _); refine RG.go1 (k := ?_)) | ((with_reducible show DG _ _ (_ :: _) _ _ _ _ _); refine DG.go1 (k := ?_)) | (with_reducible first | apply RG.nil | apply W.seq | apply W.reg | apply W.skip | apply W.block | apply W.drw | apply DG.nil | refine W.done (QB.n ?_)) | refine W.cndT ?_ | refine W.cndF ?_))
    (refine W.ret ?_; (repeat (with_reducible first | refine QB.r ?_ | refine QL.r ?_ | refine QC.r ?_)); refine QF.r ?_)
    exact RetOk.rs (vs := [_]) r_caravellaw12_BridgeForgets []
  refine acall_walk (N := 125) Try.func5 (by kernel_rfl) p_caravellaw12_BridgeForgets rfl ?_; unfold c_caravellaw12_BridgeForgets; dsimp only [enum, Nat.reduceAdd]
  (repeat (first | ((with_reducible show RG _ _ (_ :: _) _ _ _); refine RG.go1 (k := ?_)) | ((with_reducible show DG _ _ (_ :: _) _ _ _ _ _); refine DG.go1 (k := ?_)) | (with_reducible first | apply RG.nil | apply W.seq | apply W.reg | apply W.skip | apply W.block | apply W.drw | apply DG.nil | refine W.done (QB.n ?_)) | refine W.cndT ?_ | refine W.cndF ?_))
  (first | ((with_reducible show RG _ _ (_ :: _) _ _ _); refine RG.ca (hl) (k := ?_)) | ((with_reducible show DG _ _ (_ :: _) _ _ _ _ _); refine DG.ca (hl) (k := ?_)))
  (repeat (first | ((with_reducible show RG _ _ (_ :: _) _ _ _); refine RG.go1 (k := ?_)) | ((with_reducible show DG _ _ (_ :: _) _ _ _ _ _); refine DG.go1 (k := ?_)) | (with_reducible first | apply RG.nil | apply W.seq | apply W.reg | apply W.skip | apply W.block | apply W.drw | apply DG.nil | refine W.done (QB.n ?_)) | refine W.cndT ?_ | refine W.cndF ?_))
  (first | ((with_reducible show RG _ _ (_ :: _) _ _ _); refine RG.ca (cn) (k := ?_)) | ((with_reducible show DG _ _ (_ :: _) _ _ _ _ _); refine DG.ca (cn) (k := ?_)))
  (repeat (first | ((with_reducible show RG _ _ (_ :: _) _ _ _); refine RG.go1 (k := ?_)) | ((with_reducible show DG _ _ (_ :: _) _ _ _ _ _); refine DG.go1 (k := ?_)) | (with_reducible first | apply RG.nil | apply W.seq | apply W.reg | apply W.skip | apply W.block | apply W.drw | apply DG.nil | refine W.done (QB.n ?_)) | refine W.cndT ?_ | refine W.cndF ?_))
  (refine RG.mpN (mtI) (K := ?_))
  (repeat (first | ((with_reducible show RG _ _ (_ :: _) _ _ _); refine RG.go1 (k := ?_)) | ((with_reducible show DG _ _ (_ :: _) _ _ _ _ _); refine DG.go1 (k := ?_)) | (with_reducible first | apply RG.nil | apply W.seq | apply W.reg | apply W.skip | apply W.block | apply W.drw | apply DG.nil | refine W.done (QB.n ?_)) | refine W.cndT ?_ | refine W.cndF ?_))
  refine W.loop (ι := {j : Nat // j ≤ l.length}) (fun j => ⟨[(42, .int .i64 j.1), (41, .int .i64 l.length), (40, .sl false 1 (l.map by8)), (8, .ref 1 1 0 j.1), (7, .mptr 0), (5, .bptr 0 0), (1, .sl false 1 (ports.map by8))], [some [.int .i64 8, .sl false 7 ((known (((evs l ports).take j.1).map lr)).map lrn)]], [some (mapR .u8 (atF ((evs l ports).take j.1)).1 (atF ((evs l ports).take j.1)).2), some ⟨false, 1, (l.take j.1).map by8⟩], 1, 2⟩) (fun j => l.length - j.1) ⟨0, Nat.zero_le _⟩ ?_ ?_
  · have q2 : ALe .nil (.sl false 7 []) := ALe.nil _ _
    dsimp only
    rw [el]
    refine Wk.trans (Wk.nilT (t := 8) 1 rfl) ?_
    rw [show (atF (List.take 0 (evs l ports))) = ([], 0) from rfl, show (known (List.map lr (List.take 0 (evs l ports)))).map lrn = [] from rfl, show (l.take 0).map by8 = [] from rfl]
    exact Wk.rn ([0] ) ( [0, 1])
  rintro ⟨j, hj⟩
  dsimp only
  by_cases hlt : j < l.length
  · have hE := by8_at l j hlt (j := ((j : Nat) : Int).toNat) (by simp)
    have hsn := evs_snoc l ports hlt
    have hp := pE_bd ports j
    have hord : (l.take j).map by8 ++ [.int .u8 l[j].toNat] = (l.take (j + 1)).map by8 := by rw [List.take_succ_eq_append_getElem hlt, List.map_append]; rfl
    have hkn := known_snoc (((evs l ports).take j).map lr) (m2 l[j]) (pE ports j)
    have hkn2 : known (((evs l ports).take (j + 1)).map lr) = blearn (known (((evs l ports).take j).map lr)) (m2 l[j]) (pE ports j) := by
      rw [hsn, List.map_append]; exact hkn
    have hat : atF ((evs l ports).take (j + 1)) = (updE l[j].toNat (.int .i64 (pE ports j)) (atF ((evs l ports).take j)).2 (atF ((evs l ports).take j)).1, updC l[j].toNat (atF ((evs l ports).take j)).2 (atF ((evs l ports).take j)).1) := by
      rw [hsn, atF_snoc]; rfl
    have hkl : (known (((evs l ports).take j).map lr)).length ≤ 16 := known_len _
    clear hkn hsn
    generalize l[j] = c at *
    obtain ⟨out, hout⟩ := fwd2 (K := known (((evs l ports).take j).map lr)) hp c
    have cfw := bForward_ok 8 (by decide) (known (((evs l ports).take j).map lr)) (by omega) (pE ports j) [4, 4, 0, 0, 0, 0, 2, c, 0, 0, 0, 0, 8, 0] (by simp)
    rw [hout, ← hkn2] at cfw
    clear hout hkn2
    have cfr := frame_ok ⟨4, 4, 0, 0, 0, 0⟩ ⟨2, c.toNat, 0, 0, 0, 0⟩
    simp only [Mac.l, List.cons_append, List.nil_append] at cfr
    generalize known (((evs l ports).take j).map lr) = K at *
    obtain ⟨K2, hK2⟩ : ∃ K2, known (((evs l ports).take (j + 1)).map lr) = K2 := ⟨_, rfl⟩
    rw [hK2] at cfw
    obtain ⟨A2, hA2⟩ : ∃ am2, atF ((evs l ports).take (j + 1)) = am2 := ⟨_, rfl⟩
    rw [hA2] at hat
    generalize atF ((evs l ports).take j) = am at *
    obtain ⟨am, ck⟩ := am
    dsimp only at hat cfw ⊢
    by_cases hpp : j < ports.length
    · have hE2 := by8_at ports j hpp (j := ((j : Nat) : Int).toNat) (by simp)
      have hpe : pE ports j = (ports[j].toNat : Int) % 8 := by unfold pE; rw [if_pos hpp]; simp [hpp]
      rw [hpe] at hp cfw hat
      clear hpe
      generalize ports[j] = pc at *
      (repeat (first | ((with_reducible show RG _ _ (_ :: _) _ _ _); refine RG.go1 (k := ?_)) | ((with_reducible show DG _ _ (_ :: _) _ _ _ _ _); refine DG.go1 (k := ?_)) | (with_reducible first | apply RG.nil | apply W.seq | apply W.reg | apply W.skip | apply W.block | apply W.drw | apply DG.nil | refine W.done (QB.n ?_)) | refine W.cndT ?_ | refine W.cndF ?_))
      (first | ((with_reducible show RG _ _ (_ :: _) _ _ _); refine RG.ew (cptr_of (hE) (by (conv => lhs; whnf) <;> exact rfl)) (k := ?_)) | ((with_reducible show DG _ _ (_ :: _) _ _ _ _ _); refine DG.ew (cptr_of (hE) (by (conv => lhs; whnf) <;> exact rfl)) (k := ?_)))
      (repeat (first | ((with_reducible show RG _ _ (_ :: _) _ _ _); refine RG.go1 (k := ?_)) | ((with_reducible show DG _ _ (_ :: _) _ _ _ _ _); refine DG.go1 (k := ?_)) | (with_reducible first | apply RG.nil | apply W.seq | apply W.reg | apply W.skip | apply W.block | apply W.drw | apply DG.nil | refine W.done (QB.n ?_)) | refine W.cndT ?_ | refine W.cndF ?_))
      (first | ((with_reducible show RG _ _ (_ :: _) _ _ _); refine RG.ew (cptr_of (hE2) (by (conv => lhs; whnf) <;> exact rfl)) (k := ?_)) | ((with_reducible show DG _ _ (_ :: _) _ _ _ _ _); refine DG.ew (cptr_of (hE2) (by (conv => lhs; whnf) <;> exact rfl)) (k := ?_)))
      (repeat (first | ((with_reducible show RG _ _ (_ :: _) _ _ _); refine RG.go1 (k := ?_)) | ((with_reducible show DG _ _ (_ :: _) _ _ _ _ _); refine DG.go1 (k := ?_)) | (with_reducible first | apply RG.nil | apply W.seq | apply W.reg | apply W.skip | apply W.block | apply W.drw | apply DG.nil | refine W.done (QB.n ?_)) | refine W.cndT ?_ | refine W.cndF ?_))
      (first | ((with_reducible show RG _ _ (_ :: _) _ _ _); refine RG.ca (cfr) (k := ?_)) | ((with_reducible show DG _ _ (_ :: _) _ _ _ _ _); refine DG.ca (cfr) (k := ?_)))
      (repeat (first | ((with_reducible show RG _ _ (_ :: _) _ _ _); refine RG.go1 (k := ?_)) | ((with_reducible show DG _ _ (_ :: _) _ _ _ _ _); refine DG.go1 (k := ?_)) | (with_reducible first | apply RG.nil | apply W.seq | apply W.reg | apply W.skip | apply W.block | apply W.drw | apply DG.nil | refine W.done (QB.n ?_)) | refine W.cndT ?_ | refine W.cndF ?_))
      (first | ((with_reducible show RG _ _ (_ :: _) _ _ _); refine RG.ca (cfw) (k := ?_)) | ((with_reducible show DG _ _ (_ :: _) _ _ _ _ _); refine DG.ca (cfw) (k := ?_)))
      (repeat (first | ((with_reducible show RG _ _ (_ :: _) _ _ _); refine RG.go1 (k := ?_)) | ((with_reducible show DG _ _ (_ :: _) _ _ _ _ _); refine DG.go1 (k := ?_)) | (with_reducible first | apply RG.nil | apply W.seq | apply W.reg | apply W.skip | apply W.block | apply W.drw | apply DG.nil | refine W.done (QB.n ?_)) | refine W.cndT ?_ | refine W.cndF ?_))
      (refine RG.mpU (mtI) (K := ?_))
      (repeat (first | ((with_reducible show RG _ _ (_ :: _) _ _ _); refine RG.go1 (k := ?_)) | ((with_reducible show DG _ _ (_ :: _) _ _ _ _ _); refine DG.go1 (k := ?_)) | (with_reducible first | apply RG.nil | apply W.seq | apply W.reg | apply W.skip | apply W.block | apply W.drw | apply DG.nil | refine W.done (QB.n ?_)) | refine W.cndT ?_ | refine W.cndF ?_))
      rw [hord]
      refine W.done (QL.n (⟨j + 1, by omega⟩) ?_ ?_)
      · dsimp only
        rw [hA2, hK2, hat]
        exact Wk.rn ([0] ) ( [0, 3])
      · dsimp only; omega
    · have hpe : pE ports j = 0 := by unfold pE; rw [if_neg hpp]
      rw [hpe] at hp cfw hat
      clear hpe
      (repeat (first | ((with_reducible show RG _ _ (_ :: _) _ _ _); refine RG.go1 (k := ?_)) | ((with_reducible show DG _ _ (_ :: _) _ _ _ _ _); refine DG.go1 (k := ?_)) | (with_reducible first | apply RG.nil | apply W.seq | apply W.reg | apply W.skip | apply W.block | apply W.drw | apply DG.nil | refine W.done (QB.n ?_)) | refine W.cndT ?_ | refine W.cndF ?_))
      (first | ((with_reducible show RG _ _ (_ :: _) _ _ _); refine RG.ew (cptr_of (hE) (by (conv => lhs; whnf) <;> exact rfl)) (k := ?_)) | ((with_reducible show DG _ _ (_ :: _) _ _ _ _ _); refine DG.ew (cptr_of (hE) (by (conv => lhs; whnf) <;> exact rfl)) (k := ?_)))
      (repeat (first | ((with_reducible show RG _ _ (_ :: _) _ _ _); refine RG.go1 (k := ?_)) | ((with_reducible show DG _ _ (_ :: _) _ _ _ _ _); refine DG.go1 (k := ?_)) | (with_reducible first | apply RG.nil | apply W.seq | apply W.reg | apply W.skip | apply W.block | apply W.drw | apply DG.nil | refine W.done (QB.n ?_)) | refine W.cndT ?_ | refine W.cndF ?_))
      (first | ((with_reducible show RG _ _ (_ :: _) _ _ _); refine RG.ca (cfr) (k := ?_)) | ((with_reducible show DG _ _ (_ :: _) _ _ _ _ _); refine DG.ca (cfr) (k := ?_)))
      (repeat (first | ((with_reducible show RG _ _ (_ :: _) _ _ _); refine RG.go1 (k := ?_)) | ((with_reducible show DG _ _ (_ :: _) _ _ _ _ _); refine DG.go1 (k := ?_)) | (with_reducible first | apply RG.nil | apply W.seq | apply W.reg | apply W.skip | apply W.block | apply W.drw | apply DG.nil | refine W.done (QB.n ?_)) | refine W.cndT ?_ | refine W.cndF ?_))
      (first | ((with_reducible show RG _ _ (_ :: _) _ _ _); refine RG.ca (cfw) (k := ?_)) | ((with_reducible show DG _ _ (_ :: _) _ _ _ _ _); refine DG.ca (cfw) (k := ?_)))
      (repeat (first | ((with_reducible show RG _ _ (_ :: _) _ _ _); refine RG.go1 (k := ?_)) | ((with_reducible show DG _ _ (_ :: _) _ _ _ _ _); refine DG.go1 (k := ?_)) | (with_reducible first | apply RG.nil | apply W.seq | apply W.reg | apply W.skip | apply W.block | apply W.drw | apply DG.nil | refine W.done (QB.n ?_)) | refine W.cndT ?_ | refine W.cndF ?_))
      (refine RG.mpU (mtI) (K := ?_))
      (repeat (first | ((with_reducible show RG _ _ (_ :: _) _ _ _); refine RG.go1 (k := ?_)) | ((with_reducible show DG _ _ (_ :: _) _ _ _ _ _); refine DG.go1 (k := ?_)) | (with_reducible first | apply RG.nil | apply W.seq | apply W.reg | apply W.skip | apply W.block | apply W.drw | apply DG.nil | refine W.done (QB.n ?_)) | refine W.cndT ?_ | refine W.cndF ?_))
      rw [hord]
      refine W.done (QL.n (⟨j + 1, by omega⟩) ?_ ?_)
      · dsimp only
        rw [hA2, hK2, hat]
        exact Wk.rn ([0] ) ( [0, 3])
      · dsimp only; omega
  obtain rfl : j = l.length := by omega
  clear hlt
  rw [List.take_length, show (evs l ports).take l.length = evs l ports from List.take_of_length_le (by rw [evs_len]; exact Nat.le_refl _)]
  obtain ⟨E, hEE⟩ : ∃ E, evs l ports = E := ⟨_, rfl⟩
  have hEl : E.length = l.length := by rw [← hEE, evs_len]
  have hxs : ∀ t, t < l.length → E.reverse[t]? = some (l[l.length - 1 - t]?.getD 0, pE ports (l.length - 1 - t)) := fun t ht => by
    rw [List.getElem?_reverse (by omega), hEl, ← hEE, List.getElem?_eq_getElem (by rw [evs_len]; omega), evs_at l ports (by omega), List.getElem?_eq_getElem (by omega)]; rfl
  rw [hEE]
  have hst := @forget_step E
  have hat := @at_step E
  have hkd := known_dd E
  have hkl : (known (E.map lr)).length ≤ 16 := known_len _
  have hbf := fun m => bFind_ok 8 (known (E.map lr)) (by omega) m
  have hkn : (known (E.map lr)).length = min 16 (dd E.reverse []).length := by rw [hkd]; simp
  clear hkd
  generalize known (E.map lr) = K at *
  generalize atF E = am at *
  obtain ⟨am, ck⟩ := am
  dsimp only at hat ⊢
  (repeat (first | ((with_reducible show RG _ _ (_ :: _) _ _ _); refine RG.go1 (k := ?_)) | ((with_reducible show DG _ _ (_ :: _) _ _ _ _ _); refine DG.go1 (k := ?_)) | (with_reducible first | apply RG.nil | apply W.seq | apply W.reg | apply W.skip | apply W.block | apply W.drw | apply DG.nil | refine W.done (QB.n ?_)) | refine W.cndT ?_ | refine W.cndF ?_))
  (refine W.exit ?_; (repeat (first | (with_reducible first | refine QL.x ?_ | refine QC.x ?_ | refine QB.x ?_) | (with_reducible refine QB.o (by decide) ?_))))
  (refine W.wk (Wk.frz (b := 1) rfl rfl) ?_ (by simp); refine W.wk (Wk.tmp (t := 8) (Cl.ice rfl rfl rfl (by first | assumption | decide | omega | (simp; (first | (all_goals fail) | fail)) | (simp <;> omega)) (by first | exact take_all _ | exact take_len (by first | (simp; (first | (all_goals fail) | fail)) | (simp <;> omega)) | exact rfl))) ?_ (by simp); dsimp only [setO])
  (repeat (first | ((with_reducible show RG _ _ (_ :: _) _ _ _); refine RG.go1 (k := ?_)) | ((with_reducible show DG _ _ (_ :: _) _ _ _ _ _); refine DG.go1 (k := ?_)) | (with_reducible first | apply RG.nil | apply W.seq | apply W.reg | apply W.skip | apply W.block | apply W.drw | apply DG.nil | refine W.done (QB.n ?_)) | refine W.cndT ?_ | refine W.cndF ?_))
  (refine RG.mpN (mtB) (K := ?_))
  (repeat (first | ((with_reducible show RG _ _ (_ :: _) _ _ _); refine RG.go1 (k := ?_)) | ((with_reducible show DG _ _ (_ :: _) _ _ _ _ _); refine DG.go1 (k := ?_)) | (with_reducible first | apply RG.nil | apply W.seq | apply W.reg | apply W.skip | apply W.block | apply W.drw | apply DG.nil | refine W.done (QB.n ?_)) | refine W.cndT ?_ | refine W.cndF ?_))
  refine W.loop (ι := {t : Nat // t ≤ l.length}) (fun t => ⟨[(16, .int .i64 ((l.length : Int) - 1 - t.1)), (15, .mptr 1), (8, .sl false 1 (l.map by8)), (7, .mptr 0), (5, .bptr 0 0)], [some [.int .i64 8, .sl false 7 (K.map lrn)]], [some (mapR .u8 am ck), some (mapR .u8 (smk 0 (dd (E.reverse.take t.1) [])) (dd (E.reverse.take t.1) []).length)], 1, 2⟩) (fun t => l.length - t.1) ⟨0, Nat.zero_le _⟩ ?_ ?_
  · dsimp only
    rw [show dd (E.reverse.take 0) [] = [] from rfl, show smk 0 [] = [] from rfl]
    exact Wk.rn ([0] ) ( [0, 2])
  rintro ⟨t, ht⟩
  dsimp only
  by_cases hlt : t < l.length
  · have hx := hxs t hlt
    have hE := by8_at l (l.length - 1 - t) (by omega) (j := ((l.length : Int) - 1 - (t : Int)).toNat) (by omega)
    rw [List.getElem?_eq_getElem (l := l) (i := l.length - 1 - t) (by omega), Option.getD_some] at hx
    have hD2 : dd (E.reverse.take (t + 1)) [] = dstep (dd (E.reverse.take t) []) (l[l.length - 1 - t], pE ports (l.length - 1 - t)) := by
      obtain ⟨h3, h4⟩ := List.getElem?_eq_some_iff.1 hx
      rw [List.take_succ_eq_append_getElem h3, dd_snoc, h4]
    have hst := @hst t _ hx
    have hat := @hat t _ hx
    have hp := pE_bd ports (l.length - 1 - t)
    clear hx hxs
    generalize l[l.length - 1 - t] = c at *
    generalize pE ports (l.length - 1 - t) = z at *
    generalize hDD : dd (E.reverse.take t) [] = D at *
    have hbf := hbf (m2 c)
    have hsg := smk_get c 0 D
    have hsl := smk_len 0 D
    unfold dstep at hD2
    dsimp only at hst hat hD2
    have hml : (m2 c).l = [.int .u8 2, .int .u8 c.toNat, .int .u8 0, .int .u8 0, .int .u8 0, .int .u8 0] := rfl
    rw [hml] at hbf
    by_cases hdb : (D.any fun e => e.1 == c) = true
    · rw [if_pos hdb] at hsg hD2
      clear hst hat hkn hbf
      (repeat (first | ((with_reducible show RG _ _ (_ :: _) _ _ _); refine RG.go1 (k := ?_)) | ((with_reducible show DG _ _ (_ :: _) _ _ _ _ _); refine DG.go1 (k := ?_)) | (with_reducible first | apply RG.nil | apply W.seq | apply W.reg | apply W.skip | apply W.block | apply W.drw | apply DG.nil | refine W.done (QB.n ?_)) | refine W.cndT ?_ | refine W.cndF ?_))
      (first | ((with_reducible show RG _ _ (_ :: _) _ _ _); refine RG.ew (cptr_of (hE) (by (conv => lhs; whnf) <;> exact rfl)) (k := ?_)) | ((with_reducible show DG _ _ (_ :: _) _ _ _ _ _); refine DG.ew (cptr_of (hE) (by (conv => lhs; whnf) <;> exact rfl)) (k := ?_)))
      (repeat (first | ((with_reducible show RG _ _ (_ :: _) _ _ _); refine RG.go1 (k := ?_)) | ((with_reducible show DG _ _ (_ :: _) _ _ _ _ _); refine DG.go1 (k := ?_)) | (with_reducible first | apply RG.nil | apply W.seq | apply W.reg | apply W.skip | apply W.block | apply W.drw | apply DG.nil | refine W.done (QB.n ?_)) | refine W.cndT ?_ | refine W.cndF ?_))
      (refine RG.mpL (mtB) (show cst ((getE (c.toNat : Int) (smk 0 D)).getD (.bool false)) = .bool true by rw [hsg]; rfl) (K := ?_))
      (repeat (first | ((with_reducible show RG _ _ (_ :: _) _ _ _); refine RG.go1 (k := ?_)) | ((with_reducible show DG _ _ (_ :: _) _ _ _ _ _); refine DG.go1 (k := ?_)) | (with_reducible first | apply RG.nil | apply W.seq | apply W.reg | apply W.skip | apply W.block | apply W.drw | apply DG.nil | refine W.done (QB.n ?_)) | refine W.cndT ?_ | refine W.cndF ?_))
      (refine W.exit ?_; (repeat (first | (with_reducible first | refine QL.x ?_ | refine QC.x ?_ | refine QB.x ?_) | (with_reducible refine QB.o (by decide) ?_))))
      (repeat (first | ((with_reducible show RG _ _ (_ :: _) _ _ _); refine RG.go1 (k := ?_)) | ((with_reducible show DG _ _ (_ :: _) _ _ _ _ _); refine DG.go1 (k := ?_)) | (with_reducible first | apply RG.nil | apply W.seq | apply W.reg | apply W.skip | apply W.block | apply W.drw | apply DG.nil | refine W.done (QB.n ?_)) | refine W.cndT ?_ | refine W.cndF ?_))
      refine W.done (QL.n (⟨t + 1, by omega⟩) ?_ ?_)
      · dsimp only
        rw [hD2, show (l.length : Int) - 1 - ((t + 1 : Nat) : Int) = (l.length : Int) - 1 - (t : Int) - 1 by omega]
        exact Wk.rn ([0] ) ( [0, 1])
      · dsimp only; omega
    · have hnb : (D.any fun e => e.1 == c) = false := Bool.eq_false_iff.2 hdb
      rw [if_neg hdb] at hsg hD2
      have hat := hat hnb
      obtain ⟨hs1, hs2⟩ := hst hnb
      obtain ⟨hu1, hu2⟩ := smk_upd (x := (c, z)) hnb
      dsimp only at hu1 hu2
      clear hst hkn hdb
      by_cases h16 : D.length < 16
      · rw [hs1 h16] at hbf
        dsimp only at hbf
        clear hs1 hs2
        (repeat (first | ((with_reducible show RG _ _ (_ :: _) _ _ _); refine RG.go1 (k := ?_)) | ((with_reducible show DG _ _ (_ :: _) _ _ _ _ _); refine DG.go1 (k := ?_)) | (with_reducible first | apply RG.nil | apply W.seq | apply W.reg | apply W.skip | apply W.block | apply W.drw | apply DG.nil | refine W.done (QB.n ?_)) | refine W.cndT ?_ | refine W.cndF ?_))
        (first | ((with_reducible show RG _ _ (_ :: _) _ _ _); refine RG.ew (cptr_of (hE) (by (conv => lhs; whnf) <;> exact rfl)) (k := ?_)) | ((with_reducible show DG _ _ (_ :: _) _ _ _ _ _); refine DG.ew (cptr_of (hE) (by (conv => lhs; whnf) <;> exact rfl)) (k := ?_)))
        (repeat (first | ((with_reducible show RG _ _ (_ :: _) _ _ _); refine RG.go1 (k := ?_)) | ((with_reducible show DG _ _ (_ :: _) _ _ _ _ _); refine DG.go1 (k := ?_)) | (with_reducible first | apply RG.nil | apply W.seq | apply W.reg | apply W.skip | apply W.block | apply W.drw | apply DG.nil | refine W.done (QB.n ?_)) | refine W.cndT ?_ | refine W.cndF ?_))
        (refine RG.mpL (mtB) (show cst ((getE (c.toNat : Int) (smk 0 D)).getD (.bool false)) = .bool false by rw [hsg]; rfl) (K := ?_))
        (repeat (first | ((with_reducible show RG _ _ (_ :: _) _ _ _); refine RG.go1 (k := ?_)) | ((with_reducible show DG _ _ (_ :: _) _ _ _ _ _); refine DG.go1 (k := ?_)) | (with_reducible first | apply RG.nil | apply W.seq | apply W.reg | apply W.skip | apply W.block | apply W.drw | apply DG.nil | refine W.done (QB.n ?_)) | refine W.cndT ?_ | refine W.cndF ?_))
        (first | ((with_reducible show RG _ _ (_ :: _) _ _ _); refine RG.ca (hbf) (k := ?_)) | ((with_reducible show DG _ _ (_ :: _) _ _ _ _ _); refine DG.ca (hbf) (k := ?_)))
        (repeat (first | ((with_reducible show RG _ _ (_ :: _) _ _ _); refine RG.go1 (k := ?_)) | ((with_reducible show DG _ _ (_ :: _) _ _ _ _ _); refine DG.go1 (k := ?_)) | (with_reducible first | apply RG.nil | apply W.seq | apply W.reg | apply W.skip | apply W.block | apply W.drw | apply DG.nil | refine W.done (QB.n ?_)) | refine W.cndT ?_ | refine W.cndF ?_))
        (refine RG.mpC (mtB) (hsl) (K := ?_))
        (repeat (first | ((with_reducible show RG _ _ (_ :: _) _ _ _); refine RG.go1 (k := ?_)) | ((with_reducible show DG _ _ (_ :: _) _ _ _ _ _); refine DG.go1 (k := ?_)) | (with_reducible first | apply RG.nil | apply W.seq | apply W.reg | apply W.skip | apply W.block | apply W.drw | apply DG.nil | refine W.done (QB.n ?_)) | refine W.cndT ?_ | refine W.cndF ?_))
        (refine RG.mpLg (mtI) (show cst ((getE (c.toNat : Int) am).getD (.int .i64 0)) = .int .i64 z by rw [hat]; rfl) (K := ?_))
        (repeat (first | ((with_reducible show RG _ _ (_ :: _) _ _ _); refine RG.go1 (k := ?_)) | ((with_reducible show DG _ _ (_ :: _) _ _ _ _ _); refine DG.go1 (k := ?_)) | (with_reducible first | apply RG.nil | apply W.seq | apply W.reg | apply W.skip | apply W.block | apply W.drw | apply DG.nil | refine W.done (QB.n ?_)) | refine W.cndT ?_ | refine W.cndF ?_))
        (refine RG.mpU (mtB) (K := ?_))
        (repeat (first | ((with_reducible show RG _ _ (_ :: _) _ _ _); refine RG.go1 (k := ?_)) | ((with_reducible show DG _ _ (_ :: _) _ _ _ _ _); refine DG.go1 (k := ?_)) | (with_reducible first | apply RG.nil | apply W.seq | apply W.reg | apply W.skip | apply W.block | apply W.drw | apply DG.nil | refine W.done (QB.n ?_)) | refine W.cndT ?_ | refine W.cndF ?_))
        refine W.done (QL.n (⟨t + 1, by omega⟩) ?_ ?_)
        · dsimp only
          rw [hu1, hu2, hD2, show (l.length : Int) - 1 - ((t + 1 : Nat) : Int) = (l.length : Int) - 1 - (t : Int) - 1 by omega]
          exact Wk.rn ([0] ) ( [0, 1])
        · dsimp only; omega
      · rw [hs2 (by omega)] at hbf
        dsimp only at hbf
        clear hs1 hs2
        (repeat (first | ((with_reducible show RG _ _ (_ :: _) _ _ _); refine RG.go1 (k := ?_)) | ((with_reducible show DG _ _ (_ :: _) _ _ _ _ _); refine DG.go1 (k := ?_)) | (with_reducible first | apply RG.nil | apply W.seq | apply W.reg | apply W.skip | apply W.block | apply W.drw | apply DG.nil | refine W.done (QB.n ?_)) | refine W.cndT ?_ | refine W.cndF ?_))
        (first | ((with_reducible show RG _ _ (_ :: _) _ _ _); refine RG.ew (cptr_of (hE) (by (conv => lhs; whnf) <;> exact rfl)) (k := ?_)) | ((with_reducible show DG _ _ (_ :: _) _ _ _ _ _); refine DG.ew (cptr_of (hE) (by (conv => lhs; whnf) <;> exact rfl)) (k := ?_)))
        (repeat (first | ((with_reducible show RG _ _ (_ :: _) _ _ _); refine RG.go1 (k := ?_)) | ((with_reducible show DG _ _ (_ :: _) _ _ _ _ _); refine DG.go1 (k := ?_)) | (with_reducible first | apply RG.nil | apply W.seq | apply W.reg | apply W.skip | apply W.block | apply W.drw | apply DG.nil | refine W.done (QB.n ?_)) | refine W.cndT ?_ | refine W.cndF ?_))
        (refine RG.mpL (mtB) (show cst ((getE (c.toNat : Int) (smk 0 D)).getD (.bool false)) = .bool false by rw [hsg]; rfl) (K := ?_))
        (repeat (first | ((with_reducible show RG _ _ (_ :: _) _ _ _); refine RG.go1 (k := ?_)) | ((with_reducible show DG _ _ (_ :: _) _ _ _ _ _); refine DG.go1 (k := ?_)) | (with_reducible first | apply RG.nil | apply W.seq | apply W.reg | apply W.skip | apply W.block | apply W.drw | apply DG.nil | refine W.done (QB.n ?_)) | refine W.cndT ?_ | refine W.cndF ?_))
        (first | ((with_reducible show RG _ _ (_ :: _) _ _ _); refine RG.ca (hbf) (k := ?_)) | ((with_reducible show DG _ _ (_ :: _) _ _ _ _ _); refine DG.ca (hbf) (k := ?_)))
        (repeat (first | ((with_reducible show RG _ _ (_ :: _) _ _ _); refine RG.go1 (k := ?_)) | ((with_reducible show DG _ _ (_ :: _) _ _ _ _ _); refine DG.go1 (k := ?_)) | (with_reducible first | apply RG.nil | apply W.seq | apply W.reg | apply W.skip | apply W.block | apply W.drw | apply DG.nil | refine W.done (QB.n ?_)) | refine W.cndT ?_ | refine W.cndF ?_))
        (refine RG.mpC (mtB) (hsl) (K := ?_))
        (repeat (first | ((with_reducible show RG _ _ (_ :: _) _ _ _); refine RG.go1 (k := ?_)) | ((with_reducible show DG _ _ (_ :: _) _ _ _ _ _); refine DG.go1 (k := ?_)) | (with_reducible first | apply RG.nil | apply W.seq | apply W.reg | apply W.skip | apply W.block | apply W.drw | apply DG.nil | refine W.done (QB.n ?_)) | refine W.cndT ?_ | refine W.cndF ?_))
        (refine RG.mpU (mtB) (K := ?_))
        (repeat (first | ((with_reducible show RG _ _ (_ :: _) _ _ _); refine RG.go1 (k := ?_)) | ((with_reducible show DG _ _ (_ :: _) _ _ _ _ _); refine DG.go1 (k := ?_)) | (with_reducible first | apply RG.nil | apply W.seq | apply W.reg | apply W.skip | apply W.block | apply W.drw | apply DG.nil | refine W.done (QB.n ?_)) | refine W.cndT ?_ | refine W.cndF ?_))
        refine W.done (QL.n (⟨t + 1, by omega⟩) ?_ ?_)
        · dsimp only
          rw [hu1, hu2, hD2, show (l.length : Int) - 1 - ((t + 1 : Nat) : Int) = (l.length : Int) - 1 - (t : Int) - 1 by omega]
          exact Wk.rn ([0] ) ( [0, 1])
        · dsimp only; omega
  · obtain rfl : t = l.length := by omega
    rw [show E.reverse.take l.length = E.reverse from List.take_of_length_le (by simp; omega)]
    have hsl := smk_len 0 (dd E.reverse [])
    clear hst hat hxs hbf
    generalize dd E.reverse [] = D at *
    have ek : (K.map lrn).length = K.length := by simp
    (repeat (first | ((with_reducible show RG _ _ (_ :: _) _ _ _); refine RG.go1 (k := ?_)) | ((with_reducible show DG _ _ (_ :: _) _ _ _ _ _); refine DG.go1 (k := ?_)) | (with_reducible first | apply RG.nil | apply W.seq | apply W.reg | apply W.skip | apply W.block | apply W.drw | apply DG.nil | refine W.done (QB.n ?_)) | refine W.cndT ?_ | refine W.cndF ?_))
    (refine W.exit ?_; (repeat (first | (with_reducible first | refine QL.x ?_ | refine QC.x ?_ | refine QB.x ?_) | (with_reducible refine QB.o (by decide) ?_))))
    (repeat (first | ((with_reducible show RG _ _ (_ :: _) _ _ _); refine RG.go1 (k := ?_)) | ((with_reducible show DG _ _ (_ :: _) _ _ _ _ _); refine DG.go1 (k := ?_)) | (with_reducible first | apply RG.nil | apply W.seq | apply W.reg | apply W.skip | apply W.block | apply W.drw | apply DG.nil | refine W.done (QB.n ?_)) | refine W.cndT ?_ | refine W.cndF ?_))
    (refine RG.mpC (mtB) (hsl) (K := ?_))
    (repeat (first | ((with_reducible show RG _ _ (_ :: _) _ _ _); refine RG.go1 (k := ?_)) | ((with_reducible show DG _ _ (_ :: _) _ _ _ _ _); refine DG.go1 (k := ?_)) | (with_reducible first | apply RG.nil | apply W.seq | apply W.reg | apply W.skip | apply W.block | apply W.drw | apply DG.nil | refine W.done (QB.n ?_)) | refine W.cndT ?_ | refine W.cndF ?_))
    (refine W.ret ?_; (repeat (with_reducible first | refine QB.r ?_ | refine QL.r ?_ | refine QC.r ?_)); refine QF.r ?_)
    exact RetOk.rs (vs := [_]) r_caravellaw12_BridgeForgets []
theorem Below.frame {W w' : World} (h : Below W.heap.size W w') (may : MemPlace → Prop) : W.keptBut w' may := by
  refine ⟨h.os, h.output, fun i hi => ?_⟩
  rw [h.block i hi]
  split <;> simp_all
theorem Below.same {W w' : World} (h : Below W.heap.size W w') {p : MemPlace} (hp : p.block < W.heap.size) : W.sameAt w' p := by
  cases p with
  | cell b o => exact World.cell?_of_block (w := W) (h.block b hp)
  | map b => exact h.block b hp
theorem Below.trod {H : Type} {enc : TypeId × Value → H} {P : Program} {t : TypeId} (hl : laidOutB P = true) (hr : P.readableRec t = true) (hrow : t < P.types.size) {W W' : World} {v : Value} {d : DataW H} {ps : List MemPlace}
    (h : DataW.Trod enc P W 0 (fun _ => true) true t v d ps) (hb : Below W.heap.size W W') (hlt : ∀ x ∈ ps, x.block < W.heap.size) :
    DataW.Trod enc P W' 0 (fun b => decide (b < W.heap.size)) true t v d ps :=
  WideElems.Trod_stays hl hr hrow h (fun x hx => hb.same (hlt x hx)) (fun x hx => by simpa using hlt x hx)
theorem BridgeForgets_walk {r : Reach} {b0 base : Nat} {H : Type} {enc : TypeId × Value → H} {spare : Nat → Bool} {held : Bool} {d1 d2 : DataW H} {p1 p2 : List MemPlace} (v u : Value) (W : World) (hv : Value.okWide Try.prog W r b0 33 v) (k : DataW.Trod enc Try.prog W base spare held 33 v d1 p1) (hu : Value.okWide Try.prog W r b0 33 u) (k2 : DataW.Trod enc Try.prog W base spare held 33 u d2 p2) :
    Calls Try.prog 5 #[v, u] W fun e W' => e = .returned (.bool true) ∧ Below W.heap.size W W' := by
  obtain ⟨av, hr, hf⟩ := arg_sl (n := 5) (ts := [.int .u8]) Try.underlying33 (by kernel_rfl) hv k
  obtain ⟨l, rfl, hl⟩ := hf.bytes
  obtain ⟨av2, hr2, hf2⟩ := arg_sl (n := 5) (ts := [.int .u8]) Try.underlying33 (by kernel_rfl) hu k2
  obtain ⟨l2, rfl, hl2⟩ := hf2.bytes
  exact acall_lawF (bridgeForgets_ok l l2 (len_le hl) (len_le hl2)) W [_, _] ⟨.pure _ _ hr, .pure _ _ hr2, trivial⟩
end Go.Proofs.Ytfpgpeomcefkhaa
