/- What the document's receiver computes: Like. -/
import Derived.Test.YtmohmcgcggenfaaRr5
namespace Go.Proofs.Ytmohmcgcggenfaa
open Go.RowKit
set_option linter.unusedVariables false
set_option linter.unusedSimpArgs false
set_option maxRecDepth 100000
set_option maxHeartbeats 4000000
theorem by8_up (g : List UInt8) (i : Nat) (hi : i < g.length) : (g.map by8).set i (.int .u8 (((g[i].toNat : Nat) + 1 : Int) % 256)) = (g.set i (g[i] + 1)).map by8 := by
  rw [List.map_set]; congr 1
theorem by8_at (g : List UInt8) (i : Nat) (hi : i < g.length) : (g.map by8)[((i : Nat) : Int).toNat]?.getD .any = .int .u8 ((g[i].toNat : Nat) : Int) := by
  rw [at_map by8 g i g[i] (List.getElem?_eq_getElem hi) (by simp)]; rfl
theorem by8_bd (c : UInt8) : (c.toNat : Int) ≤ 255 := by have := c.toNat_lt; omega
theorem sep_take : ∀ {l : List Pc} {a : Int}, Sep a l → ∀ (i : Nat) (h : i < l.length), ∀ y ∈ l.take i, pEnd y ≤ l[i].1
  | [], a, _, i, h => absurd h (by simp)
  | p :: l, a, hs, 0, h => fun y hy => by simp at hy
  | p :: l, a, hs, i + 1, h => fun y hy => by
    have h' : i < l.length := by simpa using h
    simp only [List.take_succ_cons] at hy
    simp only [List.getElem_cons_succ]
    rcases List.mem_cons.1 hy with rfl | hy
    · have := (sep_lt hs.2.2 _ (List.getElem_mem h')).1; omega
    · exact sep_take hs.2.2 i h' y hy
theorem part_0 (A : List Pc) (d : Nat) : gotOf (A ++ [(d, [])]) = gotOf A := by
  unfold gotOf
  apply List.map_congr_left
  intro j _
  rw [byteAt_app]
  by_cases h : byteAt A j < 0
  · rw [if_pos h, byteAt_out (by unfold pEnd; simp), byteAt_neg h]; rfl
  · rw [if_neg h]
theorem part_at (A : List Pc) (d : Nat) (D : List UInt8) (k : Nat) (hA : ∀ y ∈ A, pEnd y ≤ d) : byteAt (A ++ [(d, D.take k)]) (d + k) = -1 := by
  have h1 : byteAt A (d + k) = -1 := byteAt_high fun y hy => by have := hA y hy; omega
  rw [byteAt_app, h1, if_pos (by decide), byteAt_out (by unfold pEnd; simp; omega)]; rfl
theorem part_set (A : List Pc) (d : Nat) (D : List UInt8) (k : Nat) (hA : ∀ y ∈ A, pEnd y ≤ d) (hk : k < D.length) : (gotOf (A ++ [(d, D.take k)])).set (d + k) (D[k].toNat : Int) = gotOf (A ++ [(d, D.take (k + 1))]) := by
  have h1 : byteAt A (d + k) = -1 := byteAt_high fun y hy => by have := hA y hy; omega
  have l1 : (D.take k).length = k := by simp; omega
  have l2 : (D.take (k + 1)).length = k + 1 := by simp; omega
  apply List.ext_getElem
  · rw [List.length_set, gotOf_len, gotOf_len]
  · intro j h2 h3
    rw [List.getElem_set, gotOf_at, gotOf_at, byteAt_app, byteAt_app]
    by_cases q : d + k = j
    · subst q
      rw [if_pos rfl, h1, if_pos (by decide), byteAt_in (by unfold pEnd; dsimp only; omega)]
      dsimp only
      rw [show d + k - d = k by omega, List.getD_eq_getElem?_getD, List.getElem?_take_of_lt (by omega), List.getElem?_eq_getElem hk]
      rfl
    · rw [if_neg q]
      by_cases r : d ≤ j ∧ j < d + k
      · rw [byteAt_in (p := (d, D.take k)) (by unfold pEnd; dsimp only; omega), byteAt_in (p := (d, D.take (k + 1))) (by unfold pEnd; dsimp only; omega)]
        dsimp only
        rw [List.getD_eq_getElem?_getD, List.getD_eq_getElem?_getD, List.getElem?_take_of_lt (by omega), List.getElem?_take_of_lt (by omega)]
      · rw [byteAt_out (p := (d, D.take k)) (by unfold pEnd; dsimp only; omega), byteAt_out (p := (d, D.take (k + 1))) (by unfold pEnd; dsimp only; omega)]
theorem gi_set (l : List Int) (j : Nat) (z : Int) : (gi l).set j (.int .i64 z) = gi (l.set j z) := by simp [gi, List.map_set]
theorem gi_at' (l : List Int) (i : Nat) (h : i < l.length) {j : Nat} (hj : j = i) : (gi l)[j]?.getD .any = .int .i64 l[i] := at_map (fun z => AV.int .i64 z) l i _ (List.getElem?_eq_getElem h) hj
theorem like_ok {s : RS} (h : s.Ok) (b : Int) (hb : 0 ≤ b ∧ b ≤ 4294967295) : ACall Try.prog 18 [(xOf b s).av true, rq true b s] (.bool true) [] := by
  obtain ⟨data, ps, kn, en, dn⟩ := s
  obtain ⟨hd, hsep, hbd0, hlen, hkn, hdn⟩ := h
  dsimp only at hd hsep hbd0 hlen hkn hdn
  have hbd : ∀ x ∈ ps, pEnd x ≤ 256 := fun x hx => by have := hbd0 x hx; omega
  obtain ⟨E, hE⟩ : ∃ E, enOf ⟨data, ps, kn, en, dn⟩ = E := ⟨_, rfl⟩
  obtain ⟨V, hV⟩ : ∃ V, RS.ev ⟨data, ps, kn, en, dn⟩ b = V := ⟨_, rfl⟩
  have F : (dn = true ∧ kn = true ∧ E = 0 ∧ V = sAdd b (-1)) ∨ (dn = false ∧ kn = true ∧ (0 ≤ E ∧ E ≤ 256) ∧ V = sAdd b E) ∨ (dn = false ∧ kn = false ∧ E = -1 ∧ V = 0) := by
    unfold enOf at hE
    unfold RS.ev at hV
    dsimp only at hE hV
    cases dn
    · cases kn
      · simp at hE hV
        exact .inr (.inr ⟨rfl, rfl, hE.symm, hV.symm⟩)
      · have := hkn rfl rfl
        simp at hE hV
        subst hE
        exact .inr (.inl ⟨rfl, rfl, by omega, hV.symm⟩)
    · obtain ⟨rfl, rfl, rfl⟩ := hdn rfl
      simp at hE hV
      exact .inl ⟨rfl, rfl, hE.symm, hV.symm⟩
  have cb := blankO_ok 256 (by decide)
  rw [← gotOf_nil] at cb
  have cr := runs_ok (gotOf ps) (gotOf_by _) (by rw [gotOf_len]; decide) (by rw [gotOf_len]; decide)
  rw [runs_gotOf hsep hbd] at cr
  have egl : (gi (gotOf ps)).length = 256 := by rw [gi_len, gotOf_len]
  have el : (ps.map (pc b)).length = ps.length := by simp
  unfold xOf XS.av rf rq qv
  dsimp only
  rw [hE, hV]
  clear hkn hdn hbd0 hE hV
  refine acall_walk (N := 167) Try.func18 (by kernel_rfl) p_caravelref17_Like rfl ?_; unfold c_caravelref17_Like; dsimp only [enum, Nat.reduceAdd]
  with_reducible apply W.seq
  (with_reducible first | apply W.reg | apply W.drw)
  (repeat (first | ((with_reducible show RG _ _ (_ :: _) _ _ _); refine RG.go1 (k := ?_)) | ((with_reducible show DG _ _ (_ :: _) _ _ _ _ _); refine DG.go1 (k := ?_)) | with_reducible apply RG.nil | with_reducible apply DG.nil))
  with_reducible apply W.seq
  refine W.cut (ι := Unit) (fun _ => ⟨[(2, .bptr 0 0), (3, .bptr 1 0)], [some [.int .u32 b, .str data, .sl true 1 (gi (gotOf ps)), .int .i64 E, .bool dn], some [.int .u32 b, .sl true 1 (data.map by8), .sl true 2 (ps.map (pc b)), .bool kn, .int .u32 V, .bool dn]], [], 2, 0⟩) ?_ (by simp) ?_
  · rcases F with ⟨rfl, rfl, rfl, rfl⟩ | ⟨rfl, rfl, F, rfl⟩ | ⟨rfl, rfl, rfl, rfl⟩
    · generalize sAdd b (-1) = V
      (repeat (first | ((with_reducible show RG _ _ (_ :: _) _ _ _); refine RG.go1 (k := ?_)) | ((with_reducible show DG _ _ (_ :: _) _ _ _ _ _); refine DG.go1 (k := ?_)) | with_reducible apply RG.nil | with_reducible apply W.seq | with_reducible apply W.reg | with_reducible apply W.skip | with_reducible apply W.block | with_reducible apply W.drw | with_reducible apply DG.nil | (with_reducible refine W.done (QB.n ?_))))
      refine W.cndF ?_
      (repeat (first | ((with_reducible show RG _ _ (_ :: _) _ _ _); refine RG.go1 (k := ?_)) | ((with_reducible show DG _ _ (_ :: _) _ _ _ _ _); refine DG.go1 (k := ?_)) | with_reducible apply RG.nil | with_reducible apply W.seq | with_reducible apply W.reg | with_reducible apply W.skip | with_reducible apply W.block | with_reducible apply W.drw | with_reducible apply DG.nil | (with_reducible refine W.done (QB.n ?_))))
      refine W.done (QC.n (()) ?_)
      exact Wk.rn ([0, 1] ) ( [])
    · generalize sAdd b E = V
      (repeat (first | ((with_reducible show RG _ _ (_ :: _) _ _ _); refine RG.go1 (k := ?_)) | ((with_reducible show DG _ _ (_ :: _) _ _ _ _ _); refine DG.go1 (k := ?_)) | with_reducible apply RG.nil | with_reducible apply W.seq | with_reducible apply W.reg | with_reducible apply W.skip | with_reducible apply W.block | with_reducible apply W.drw | with_reducible apply DG.nil | (with_reducible refine W.done (QB.n ?_))))
      refine W.cndF ?_
      (repeat (first | ((with_reducible show RG _ _ (_ :: _) _ _ _); refine RG.go1 (k := ?_)) | ((with_reducible show DG _ _ (_ :: _) _ _ _ _ _); refine DG.go1 (k := ?_)) | with_reducible apply RG.nil | with_reducible apply W.seq | with_reducible apply W.reg | with_reducible apply W.skip | with_reducible apply W.block | with_reducible apply W.drw | with_reducible apply DG.nil | (with_reducible refine W.done (QB.n ?_))))
      refine W.done (QC.n (()) ?_)
      exact Wk.rn ([0, 1] ) ( [])
    · (repeat (first | ((with_reducible show RG _ _ (_ :: _) _ _ _); refine RG.go1 (k := ?_)) | ((with_reducible show DG _ _ (_ :: _) _ _ _ _ _); refine DG.go1 (k := ?_)) | with_reducible apply RG.nil | with_reducible apply W.seq | with_reducible apply W.reg | with_reducible apply W.skip | with_reducible apply W.block | with_reducible apply W.drw | with_reducible apply DG.nil | (with_reducible refine W.done (QB.n ?_))))
      refine W.cndF ?_
      (repeat (first | ((with_reducible show RG _ _ (_ :: _) _ _ _); refine RG.go1 (k := ?_)) | ((with_reducible show DG _ _ (_ :: _) _ _ _ _ _); refine DG.go1 (k := ?_)) | with_reducible apply RG.nil | with_reducible apply W.seq | with_reducible apply W.reg | with_reducible apply W.skip | with_reducible apply W.block | with_reducible apply W.drw | with_reducible apply DG.nil | (with_reducible refine W.done (QB.n ?_))))
      refine W.done (QC.n (()) ?_)
      exact Wk.rn ([0, 1] ) ( [])
  intro _
  with_reducible apply W.seq
  refine W.cut (ι := Unit) (fun _ => ⟨[(2, .bptr 0 0), (3, .bptr 1 0)], [some [.int .u32 b, .str data, .sl true 1 (gi (gotOf ps)), .int .i64 E, .bool dn], some [.int .u32 b, .sl true 1 (data.map by8), .sl true 2 (ps.map (pc b)), .bool kn, .int .u32 V, .bool dn]], [], 2, 0⟩) ?_ (by simp) ?_
  · rcases F with ⟨rfl, rfl, rfl, rfl⟩ | ⟨rfl, rfl, F, rfl⟩ | ⟨rfl, rfl, rfl, rfl⟩
    · have c := rAdd1_ok b hb
      generalize sAdd b (-1) = V at *
      (repeat (first | ((with_reducible show RG _ _ (_ :: _) _ _ _); refine RG.go1 (k := ?_)) | ((with_reducible show DG _ _ (_ :: _) _ _ _ _ _); refine DG.go1 (k := ?_)) | with_reducible apply RG.nil | with_reducible apply W.seq | with_reducible apply W.reg | with_reducible apply W.skip | with_reducible apply W.block | with_reducible apply W.drw | with_reducible apply DG.nil | (with_reducible refine W.done (QB.n ?_))))
      (first | ((with_reducible show RG _ _ (_ :: _) _ _ _); refine RG.gca (fun _ => c) (k := ?_)) | ((with_reducible show DG _ _ (_ :: _) _ _ _ _ _); refine DG.gca (fun _ => c) (k := ?_)))
      (repeat (first | ((with_reducible show RG _ _ (_ :: _) _ _ _); refine RG.go1 (k := ?_)) | ((with_reducible show DG _ _ (_ :: _) _ _ _ _ _); refine DG.go1 (k := ?_)) | with_reducible apply RG.nil | with_reducible apply W.seq | with_reducible apply W.reg | with_reducible apply W.skip | with_reducible apply W.block | with_reducible apply W.drw | with_reducible apply DG.nil | (with_reducible refine W.done (QB.n ?_))))
      refine W.cndF ?_
      (repeat (first | ((with_reducible show RG _ _ (_ :: _) _ _ _); refine RG.go1 (k := ?_)) | ((with_reducible show DG _ _ (_ :: _) _ _ _ _ _); refine DG.go1 (k := ?_)) | with_reducible apply RG.nil | with_reducible apply W.seq | with_reducible apply W.reg | with_reducible apply W.skip | with_reducible apply W.block | with_reducible apply W.drw | with_reducible apply DG.nil | (with_reducible refine W.done (QB.n ?_))))
      refine W.done (QC.n (()) ?_)
      exact Wk.rn ([0, 1] ) ( [])
    · have c := rAdd_ok b E hb (by omega)
      generalize sAdd b E = V at *
      (repeat (first | ((with_reducible show RG _ _ (_ :: _) _ _ _); refine RG.go1 (k := ?_)) | ((with_reducible show DG _ _ (_ :: _) _ _ _ _ _); refine DG.go1 (k := ?_)) | with_reducible apply RG.nil | with_reducible apply W.seq | with_reducible apply W.reg | with_reducible apply W.skip | with_reducible apply W.block | with_reducible apply W.drw | with_reducible apply DG.nil | (with_reducible refine W.done (QB.n ?_))))
      (first | ((with_reducible show RG _ _ (_ :: _) _ _ _); refine RG.gca (fun _ => c) (k := ?_)) | ((with_reducible show DG _ _ (_ :: _) _ _ _ _ _); refine DG.gca (fun _ => c) (k := ?_)))
      (repeat (first | ((with_reducible show RG _ _ (_ :: _) _ _ _); refine RG.go1 (k := ?_)) | ((with_reducible show DG _ _ (_ :: _) _ _ _ _ _); refine DG.go1 (k := ?_)) | with_reducible apply RG.nil | with_reducible apply W.seq | with_reducible apply W.reg | with_reducible apply W.skip | with_reducible apply W.block | with_reducible apply W.drw | with_reducible apply DG.nil | (with_reducible refine W.done (QB.n ?_))))
      refine W.cndF ?_
      (repeat (first | ((with_reducible show RG _ _ (_ :: _) _ _ _); refine RG.go1 (k := ?_)) | ((with_reducible show DG _ _ (_ :: _) _ _ _ _ _); refine DG.go1 (k := ?_)) | with_reducible apply RG.nil | with_reducible apply W.seq | with_reducible apply W.reg | with_reducible apply W.skip | with_reducible apply W.block | with_reducible apply W.drw | with_reducible apply DG.nil | (with_reducible refine W.done (QB.n ?_))))
      refine W.done (QC.n (()) ?_)
      exact Wk.rn ([0, 1] ) ( [])
    · (repeat (first | ((with_reducible show RG _ _ (_ :: _) _ _ _); refine RG.go1 (k := ?_)) | ((with_reducible show DG _ _ (_ :: _) _ _ _ _ _); refine DG.go1 (k := ?_)) | with_reducible apply RG.nil | with_reducible apply W.seq | with_reducible apply W.reg | with_reducible apply W.skip | with_reducible apply W.block | with_reducible apply W.drw | with_reducible apply DG.nil | (with_reducible refine W.done (QB.n ?_))))
      refine W.cndF ?_
      (repeat (first | ((with_reducible show RG _ _ (_ :: _) _ _ _); refine RG.go1 (k := ?_)) | ((with_reducible show DG _ _ (_ :: _) _ _ _ _ _); refine DG.go1 (k := ?_)) | with_reducible apply RG.nil | with_reducible apply W.seq | with_reducible apply W.reg | with_reducible apply W.skip | with_reducible apply W.block | with_reducible apply W.drw | with_reducible apply DG.nil | (with_reducible refine W.done (QB.n ?_))))
      refine W.done (QC.n (()) ?_)
      exact Wk.rn ([0, 1] ) ( [])
  intro _
  clear F
  (repeat (first | ((with_reducible show RG _ _ (_ :: _) _ _ _); refine RG.go1 (k := ?_)) | ((with_reducible show DG _ _ (_ :: _) _ _ _ _ _); refine DG.go1 (k := ?_)) | with_reducible apply RG.nil | with_reducible apply W.seq | with_reducible apply W.reg | with_reducible apply W.skip | with_reducible apply W.block | with_reducible apply W.drw | with_reducible apply DG.nil | (with_reducible refine W.done (QB.n ?_))))
  (first | ((with_reducible show RG _ _ (_ :: _) _ _ _); refine RG.ca (cb) (k := ?_)) | ((with_reducible show DG _ _ (_ :: _) _ _ _ _ _); refine DG.ca (cb) (k := ?_)))
  (repeat (first | ((with_reducible show RG _ _ (_ :: _) _ _ _); refine RG.go1 (k := ?_)) | ((with_reducible show DG _ _ (_ :: _) _ _ _ _ _); refine DG.go1 (k := ?_)) | with_reducible apply RG.nil | with_reducible apply W.seq | with_reducible apply W.reg | with_reducible apply W.skip | with_reducible apply W.block | with_reducible apply W.drw | with_reducible apply DG.nil | (with_reducible refine W.done (QB.n ?_))))
  refine W.loop (ι := {i : Nat // i ≤ ps.length}) (fun i => ⟨[(6, .int .i64 i.1), (5, .ref 0 1 0 256), (2, .bptr 0 0), (3, .bptr 1 0)], [some [.int .u32 b, .str data, .sl true 1 (gi (gotOf ps)), .int .i64 E, .bool dn], some [.int .u32 b, .sl true 1 (data.map by8), .sl true 2 (ps.map (pc b)), .bool kn, .int .u32 V, .bool dn]], [some ⟨false, 1, gi (gotOf (ps.take i.1))⟩], 2, 1⟩) (fun i => ps.length - i.1) ⟨0, Nat.zero_le _⟩ ?_ ?_
  · have e0 : gotOf (ps.take 0) = gotOf [] := rfl
    dsimp only
    rw [e0]
    exact Wk.rn ([0, 1] ) ( [0])
  rintro ⟨i, hi⟩
  dsimp only
  (repeat (first | ((with_reducible show RG _ _ (_ :: _) _ _ _); refine RG.go1 (k := ?_)) | ((with_reducible show DG _ _ (_ :: _) _ _ _ _ _); refine DG.go1 (k := ?_)) | with_reducible apply RG.nil | with_reducible apply W.seq | with_reducible apply W.reg | with_reducible apply W.skip | with_reducible apply W.block | with_reducible apply W.drw | with_reducible apply DG.nil | (with_reducible refine W.done (QB.n ?_))))
  refine W.cnd (fun h1 => ?_) (fun h1 => ?_)
  · have hlt : i < ps.length := by simp at h1; omega
    have hE := pc_at b ps i hlt
    have hA := sep_take hsep i hlt
    have hbx := hbd _ (List.getElem_mem hlt)
    have hsn : ps.take (i + 1) = ps.take i ++ [ps[i]] := List.take_succ_eq_append_getElem hlt
    generalize ps[i] = x at hE hA hbx hsn
    obtain ⟨xd, xs⟩ := x
    unfold pEnd at hbx
    dsimp only at hE hA hbx
    have cd := rDiff_ok (sAdd b xd) b (sAdd_bd _ _) hb
    rw [sDiff_self b _ hb (by omega)] at cd
    have ex : (xs.map by8).length = xs.length := by simp
    clear h1 cb cr
    (repeat (first | ((with_reducible show RG _ _ (_ :: _) _ _ _); refine RG.go1 (k := ?_)) | ((with_reducible show DG _ _ (_ :: _) _ _ _ _ _); refine DG.go1 (k := ?_)) | with_reducible apply RG.nil | with_reducible apply W.seq | with_reducible apply W.reg | with_reducible apply W.skip | with_reducible apply W.block | with_reducible apply W.drw | with_reducible apply DG.nil | (with_reducible refine W.done (QB.n ?_))))
    (first | ((with_reducible show RG _ _ (_ :: _) _ _ _); refine RG.ew (cptr_of (hE) (by (conv => lhs; whnf) <;> exact rfl)) (k := ?_)) | ((with_reducible show DG _ _ (_ :: _) _ _ _ _ _); refine DG.ew (cptr_of (hE) (by (conv => lhs; whnf) <;> exact rfl)) (k := ?_)))
    (first | ((with_reducible show RG _ _ (_ :: _) _ _ _); refine RG.ew (rfl) (k := ?_)) | ((with_reducible show DG _ _ (_ :: _) _ _ _ _ _); refine DG.ew (rfl) (k := ?_)))
    (repeat (first | ((with_reducible show RG _ _ (_ :: _) _ _ _); refine RG.go1 (k := ?_)) | ((with_reducible show DG _ _ (_ :: _) _ _ _ _ _); refine DG.go1 (k := ?_)) | with_reducible apply RG.nil | with_reducible apply W.seq | with_reducible apply W.reg | with_reducible apply W.skip | with_reducible apply W.block | with_reducible apply W.drw | with_reducible apply DG.nil | (with_reducible refine W.done (QB.n ?_))))
    (first | ((with_reducible show RG _ _ (_ :: _) _ _ _); refine RG.ca (cd) (k := ?_)) | ((with_reducible show DG _ _ (_ :: _) _ _ _ _ _); refine DG.ca (cd) (k := ?_)))
    (repeat (first | ((with_reducible show RG _ _ (_ :: _) _ _ _); refine RG.go1 (k := ?_)) | ((with_reducible show DG _ _ (_ :: _) _ _ _ _ _); refine DG.go1 (k := ?_)) | with_reducible apply RG.nil | with_reducible apply W.seq | with_reducible apply W.reg | with_reducible apply W.skip | with_reducible apply W.block | with_reducible apply W.drw | with_reducible apply DG.nil | (with_reducible refine W.done (QB.n ?_))))
    refine W.loop (ι := {k : Nat // k ≤ xs.length}) (fun k => ⟨[(8, .int .i64 k.1), (7, .int .i64 xd), (6, .int .i64 i), (5, .ref 0 1 0 256), (2, .bptr 0 0), (3, .bptr 1 0)], [some [.int .u32 b, .str data, .sl true 1 (gi (gotOf ps)), .int .i64 E, .bool dn], some [.int .u32 b, .sl true 1 (data.map by8), .sl true 2 (ps.map (pc b)), .bool kn, .int .u32 V, .bool dn]], [some ⟨false, 1, gi (gotOf (ps.take i ++ [(xd, xs.take k.1)]))⟩], 2, 1⟩) (fun k => xs.length - k.1) ⟨0, Nat.zero_le _⟩ ?_ ?_
    · have e0 : gotOf (ps.take i ++ [(xd, xs.take 0)]) = gotOf (ps.take i) := part_0 _ _
      dsimp only
      rw [e0]
      exact Wk.rn ([0, 1] ) ( [0])
    rintro ⟨j, hj⟩
    dsimp only
    (repeat (first | ((with_reducible show RG _ _ (_ :: _) _ _ _); refine RG.go1 (k := ?_)) | ((with_reducible show DG _ _ (_ :: _) _ _ _ _ _); refine DG.go1 (k := ?_)) | with_reducible apply RG.nil | with_reducible apply W.seq | with_reducible apply W.reg | with_reducible apply W.skip | with_reducible apply W.block | with_reducible apply W.drw | with_reducible apply DG.nil | (with_reducible refine W.done (QB.n ?_))))
    (first | ((with_reducible show RG _ _ (_ :: _) _ _ _); refine RG.ew (cptr_of (hE) (by (conv => lhs; whnf) <;> exact rfl)) (k := ?_)) | ((with_reducible show DG _ _ (_ :: _) _ _ _ _ _); refine DG.ew (cptr_of (hE) (by (conv => lhs; whnf) <;> exact rfl)) (k := ?_)))
    (first | ((with_reducible show RG _ _ (_ :: _) _ _ _); refine RG.ew (rfl) (k := ?_)) | ((with_reducible show DG _ _ (_ :: _) _ _ _ _ _); refine DG.ew (rfl) (k := ?_)))
    (repeat (first | ((with_reducible show RG _ _ (_ :: _) _ _ _); refine RG.go1 (k := ?_)) | ((with_reducible show DG _ _ (_ :: _) _ _ _ _ _); refine DG.go1 (k := ?_)) | with_reducible apply RG.nil | with_reducible apply W.seq | with_reducible apply W.reg | with_reducible apply W.skip | with_reducible apply W.block | with_reducible apply W.drw | with_reducible apply DG.nil | (with_reducible refine W.done (QB.n ?_))))
    refine W.cnd (fun h2 => ?_) (fun h2 => ?_)
    · have hjl : j < xs.length := by simp at h2; omega
      have hR := gi_at' (gotOf (ps.take i ++ [(xd, xs.take j)])) (xd + j) (by rw [gotOf_len]; omega) (j := xd + j) rfl
      rw [gotOf_at, part_at _ _ _ _ hA] at hR
      have hS := part_set (ps.take i) xd xs j hA hjl
      have hB := by8_at xs j hjl
      have hbb := by8_bd xs[j]
      have hb0 : 0 ≤ (xs[j].toNat : Int) := Int.natCast_nonneg _
      have hgl : (gi (gotOf (ps.take i ++ [(xd, xs.take j)]))).length = 256 := by rw [gi_len, gotOf_len]
      have hU : (gi (gotOf (ps.take i ++ [(xd, xs.take j)]))).set (xd + j) (.int .i64 (xs[j].toNat : Int)) = gi (gotOf (ps.take i ++ [(xd, xs.take (j + 1))])) := by rw [gi_set, hS]
      clear h2 hS
      generalize (xs[j].toNat : Int) = u at hB hbb hU hb0
      generalize gotOf (ps.take i ++ [(xd, xs.take j)]) = G at *
      (repeat (first | ((with_reducible show RG _ _ (_ :: _) _ _ _); refine RG.go1 (k := ?_)) | ((with_reducible show DG _ _ (_ :: _) _ _ _ _ _); refine DG.go1 (k := ?_)) | with_reducible apply RG.nil | with_reducible apply W.seq | with_reducible apply W.reg | with_reducible apply W.skip | with_reducible apply W.block | with_reducible apply W.drw | with_reducible apply DG.nil | (with_reducible refine W.done (QB.n ?_))))
      (first | ((with_reducible show RG _ _ (_ :: _) _ _ _); refine RG.ewg ((ix_of (show 0 + ((xd : Int) + (j : Int)).toNat = xd + j by omega))) (k := ?_)) | ((with_reducible show DG _ _ (_ :: _) _ _ _ _ _); refine DG.ewg ((ix_of (show 0 + ((xd : Int) + (j : Int)).toNat = xd + j by omega))) (k := ?_)))
      (repeat (first | ((with_reducible show RG _ _ (_ :: _) _ _ _); refine RG.go1 (k := ?_)) | ((with_reducible show DG _ _ (_ :: _) _ _ _ _ _); refine DG.go1 (k := ?_)) | with_reducible apply RG.nil | with_reducible apply W.seq | with_reducible apply W.reg | with_reducible apply W.skip | with_reducible apply W.block | with_reducible apply W.drw | with_reducible apply DG.nil | (with_reducible refine W.done (QB.n ?_))))
      (refine RG.gld hR (k := ?_))
      (repeat (first | ((with_reducible show RG _ _ (_ :: _) _ _ _); refine RG.go1 (k := ?_)) | ((with_reducible show DG _ _ (_ :: _) _ _ _ _ _); refine DG.go1 (k := ?_)) | with_reducible apply RG.nil | with_reducible apply W.seq | with_reducible apply W.reg | with_reducible apply W.skip | with_reducible apply W.block | with_reducible apply W.drw | with_reducible apply DG.nil | (with_reducible refine W.done (QB.n ?_))))
      refine W.cndF ?_
      (repeat (first | ((with_reducible show RG _ _ (_ :: _) _ _ _); refine RG.go1 (k := ?_)) | ((with_reducible show DG _ _ (_ :: _) _ _ _ _ _); refine DG.go1 (k := ?_)) | with_reducible apply RG.nil | with_reducible apply W.seq | with_reducible apply W.reg | with_reducible apply W.skip | with_reducible apply W.block | with_reducible apply W.drw | with_reducible apply DG.nil | (with_reducible refine W.done (QB.n ?_))))
      (first | ((with_reducible show RG _ _ (_ :: _) _ _ _); refine RG.ew (cptr_of (hE) (by (conv => lhs; whnf) <;> exact rfl)) (k := ?_)) | ((with_reducible show DG _ _ (_ :: _) _ _ _ _ _); refine DG.ew (cptr_of (hE) (by (conv => lhs; whnf) <;> exact rfl)) (k := ?_)))
      (first | ((with_reducible show RG _ _ (_ :: _) _ _ _); refine RG.ew (rfl) (k := ?_)) | ((with_reducible show DG _ _ (_ :: _) _ _ _ _ _); refine DG.ew (rfl) (k := ?_)))
      (repeat (first | ((with_reducible show RG _ _ (_ :: _) _ _ _); refine RG.go1 (k := ?_)) | ((with_reducible show DG _ _ (_ :: _) _ _ _ _ _); refine DG.go1 (k := ?_)) | with_reducible apply RG.nil | with_reducible apply W.seq | with_reducible apply W.reg | with_reducible apply W.skip | with_reducible apply W.block | with_reducible apply W.drw | with_reducible apply DG.nil | (with_reducible refine W.done (QB.n ?_))))
      (first | ((with_reducible show RG _ _ (_ :: _) _ _ _); refine RG.ew (cptr_of (hB) (by (conv => lhs; whnf) <;> exact rfl)) (k := ?_)) | ((with_reducible show DG _ _ (_ :: _) _ _ _ _ _); refine DG.ew (cptr_of (hB) (by (conv => lhs; whnf) <;> exact rfl)) (k := ?_)))
      (repeat (first | ((with_reducible show RG _ _ (_ :: _) _ _ _); refine RG.go1 (k := ?_)) | ((with_reducible show DG _ _ (_ :: _) _ _ _ _ _); refine DG.go1 (k := ?_)) | with_reducible apply RG.nil | with_reducible apply W.seq | with_reducible apply W.reg | with_reducible apply W.skip | with_reducible apply W.block | with_reducible apply W.drw | with_reducible apply DG.nil | (with_reducible refine W.done (QB.n ?_))))
      (first | ((with_reducible show RG _ _ (_ :: _) _ _ _); refine RG.ew (ix_of ((show 0 + ((xd : Int) + (j : Int)).toNat = xd + j by omega))) (k := ?_)) | ((with_reducible show DG _ _ (_ :: _) _ _ _ _ _); refine DG.ew (ix_of ((show 0 + ((xd : Int) + (j : Int)).toNat = xd + j by omega))) (k := ?_)))
      (repeat (first | ((with_reducible show RG _ _ (_ :: _) _ _ _); refine RG.go1 (k := ?_)) | ((with_reducible show DG _ _ (_ :: _) _ _ _ _ _); refine DG.go1 (k := ?_)) | with_reducible apply RG.nil | with_reducible apply W.seq | with_reducible apply W.reg | with_reducible apply W.skip | with_reducible apply W.block | with_reducible apply W.drw | with_reducible apply DG.nil | (with_reducible refine W.done (QB.n ?_))))
      (first | ((with_reducible show RG _ _ (_ :: _) _ _ _); refine RG.sn (A.str (hU)) (k := ?_)) | ((with_reducible show DG _ _ (_ :: _) _ _ _ _ _); refine DG.sn (A.str (hU)) (k := ?_)))
      (repeat (first | ((with_reducible show RG _ _ (_ :: _) _ _ _); refine RG.go1 (k := ?_)) | ((with_reducible show DG _ _ (_ :: _) _ _ _ _ _); refine DG.go1 (k := ?_)) | with_reducible apply RG.nil | with_reducible apply W.seq | with_reducible apply W.reg | with_reducible apply W.skip | with_reducible apply W.block | with_reducible apply W.drw | with_reducible apply DG.nil | (with_reducible refine W.done (QB.n ?_))))
      refine W.done (QL.n (⟨j + 1, by omega⟩) ?_ ?_)
      · exact Wk.rn ([0, 1] ) ( [0])
      · dsimp only; omega
    · have hj2 : j = xs.length := by simp at h2; omega
      have e1 : gotOf (ps.take i ++ [(xd, xs.take j)]) = gotOf (ps.take (i + 1)) := by rw [hsn, hj2, List.take_length]
      rw [e1]
      (refine W.exit ?_; (repeat (first | (with_reducible first | refine QL.x ?_ | refine QC.x ?_ | refine QB.x ?_) | (with_reducible refine QB.o (by decide) ?_))))
      (repeat (first | ((with_reducible show RG _ _ (_ :: _) _ _ _); refine RG.go1 (k := ?_)) | ((with_reducible show DG _ _ (_ :: _) _ _ _ _ _); refine DG.go1 (k := ?_)) | with_reducible apply RG.nil | with_reducible apply W.seq | with_reducible apply W.reg | with_reducible apply W.skip | with_reducible apply W.block | with_reducible apply W.drw | with_reducible apply DG.nil | (with_reducible refine W.done (QB.n ?_))))
      refine W.done (QL.n (⟨i + 1, by omega⟩) ?_ ?_)
      · exact Wk.rn ([0, 1] ) ( [0])
      · dsimp only; omega
  · have hi2 : i = ps.length := by simp at h1; omega
    have e1 : gotOf (ps.take i) = gotOf ps := by rw [hi2, List.take_length]
    rw [e1]
    have hgl := gotOf_len ps
    generalize gotOf ps = G at *
    clear h1 e1 cb hi2
    (refine W.exit ?_; (repeat (first | (with_reducible first | refine QL.x ?_ | refine QC.x ?_ | refine QB.x ?_) | (with_reducible refine QB.o (by decide) ?_))))
    (repeat (first | ((with_reducible show RG _ _ (_ :: _) _ _ _); refine RG.go1 (k := ?_)) | ((with_reducible show DG _ _ (_ :: _) _ _ _ _ _); refine DG.go1 (k := ?_)) | with_reducible apply RG.nil | with_reducible apply W.seq | with_reducible apply W.reg | with_reducible apply W.skip | with_reducible apply W.block | with_reducible apply W.drw | with_reducible apply DG.nil | (with_reducible refine W.done (QB.n ?_))))
    (first | ((with_reducible show RG _ _ (_ :: _) _ _ _); refine RG.ca (cr) (k := ?_)) | ((with_reducible show DG _ _ (_ :: _) _ _ _ _ _); refine DG.ca (cr) (k := ?_)))
    (repeat (first | ((with_reducible show RG _ _ (_ :: _) _ _ _); refine RG.go1 (k := ?_)) | ((with_reducible show DG _ _ (_ :: _) _ _ _ _ _); refine DG.go1 (k := ?_)) | with_reducible apply RG.nil | with_reducible apply W.seq | with_reducible apply W.reg | with_reducible apply W.skip | with_reducible apply W.block | with_reducible apply W.drw | with_reducible apply DG.nil | (with_reducible refine W.done (QB.n ?_))))
    refine W.cndF ?_
    (repeat (first | ((with_reducible show RG _ _ (_ :: _) _ _ _); refine RG.go1 (k := ?_)) | ((with_reducible show DG _ _ (_ :: _) _ _ _ _ _); refine DG.go1 (k := ?_)) | with_reducible apply RG.nil | with_reducible apply W.seq | with_reducible apply W.reg | with_reducible apply W.skip | with_reducible apply W.block | with_reducible apply W.drw | with_reducible apply DG.nil | (with_reducible refine W.done (QB.n ?_))))
    refine W.loop (ι := {j : Nat // j ≤ 256}) (fun j => ⟨[(9, .int .i64 j.1), (5, .ref 0 1 0 256), (2, .bptr 0 0), (3, .bptr 1 0)], [some [.int .u32 b, .str data, .sl true 1 (gi G), .int .i64 E, .bool dn], some [.int .u32 b, .sl true 1 (data.map by8), .sl true 2 (ps.map (pc b)), .bool kn, .int .u32 V, .bool dn]], [some ⟨false, 1, gi G⟩], 2, 1⟩) (fun j => 256 - j.1) ⟨0, Nat.zero_le _⟩ ?_ ?_
    · exact Wk.rn ([0, 1] ) ( [0])
    rintro ⟨j, hj⟩
    dsimp only
    by_cases hjl : j < 256
    · have hR := gi_at' G j (by omega) (j := j) rfl
      have hS := gi_at G j (by omega)
      generalize G[j] = u at hR hS
      (repeat (first | ((with_reducible show RG _ _ (_ :: _) _ _ _); refine RG.go1 (k := ?_)) | ((with_reducible show DG _ _ (_ :: _) _ _ _ _ _); refine DG.go1 (k := ?_)) | with_reducible apply RG.nil | with_reducible apply W.seq | with_reducible apply W.reg | with_reducible apply W.skip | with_reducible apply W.block | with_reducible apply W.drw | with_reducible apply DG.nil | (with_reducible refine W.done (QB.n ?_))))
      refine W.cndT ?_
      (repeat (first | ((with_reducible show RG _ _ (_ :: _) _ _ _); refine RG.go1 (k := ?_)) | ((with_reducible show DG _ _ (_ :: _) _ _ _ _ _); refine DG.go1 (k := ?_)) | with_reducible apply RG.nil | with_reducible apply W.seq | with_reducible apply W.reg | with_reducible apply W.skip | with_reducible apply W.block | with_reducible apply W.drw | with_reducible apply DG.nil | (with_reducible refine W.done (QB.n ?_))))
      (first | ((with_reducible show RG _ _ (_ :: _) _ _ _); refine RG.ew (ix_of ((show 0 + ((j : Nat) : Int).toNat = j by simp))) (k := ?_)) | ((with_reducible show DG _ _ (_ :: _) _ _ _ _ _); refine DG.ew (ix_of ((show 0 + ((j : Nat) : Int).toNat = j by simp))) (k := ?_)))
      (repeat (first | ((with_reducible show RG _ _ (_ :: _) _ _ _); refine RG.go1 (k := ?_)) | ((with_reducible show DG _ _ (_ :: _) _ _ _ _ _); refine DG.go1 (k := ?_)) | with_reducible apply RG.nil | with_reducible apply W.seq | with_reducible apply W.reg | with_reducible apply W.skip | with_reducible apply W.block | with_reducible apply W.drw | with_reducible apply DG.nil | (with_reducible refine W.done (QB.n ?_))))
      (first | ((with_reducible show RG _ _ (_ :: _) _ _ _); refine RG.sm (A.ldr (hR)) (k := ?_)) | ((with_reducible show DG _ _ (_ :: _) _ _ _ _ _); refine DG.sm (A.ldr (hR)) (k := ?_)))
      (repeat (first | ((with_reducible show RG _ _ (_ :: _) _ _ _); refine RG.go1 (k := ?_)) | ((with_reducible show DG _ _ (_ :: _) _ _ _ _ _); refine DG.go1 (k := ?_)) | with_reducible apply RG.nil | with_reducible apply W.seq | with_reducible apply W.reg | with_reducible apply W.skip | with_reducible apply W.block | with_reducible apply W.drw | with_reducible apply DG.nil | (with_reducible refine W.done (QB.n ?_))))
      (first | ((with_reducible show RG _ _ (_ :: _) _ _ _); refine RG.ew (cptr_of (hS) (by (conv => lhs; whnf) <;> exact rfl)) (k := ?_)) | ((with_reducible show DG _ _ (_ :: _) _ _ _ _ _); refine DG.ew (cptr_of (hS) (by (conv => lhs; whnf) <;> exact rfl)) (k := ?_)))
      (repeat (first | ((with_reducible show RG _ _ (_ :: _) _ _ _); refine RG.go1 (k := ?_)) | ((with_reducible show DG _ _ (_ :: _) _ _ _ _ _); refine DG.go1 (k := ?_)) | with_reducible apply RG.nil | with_reducible apply W.seq | with_reducible apply W.reg | with_reducible apply W.skip | with_reducible apply W.block | with_reducible apply W.drw | with_reducible apply DG.nil | (with_reducible refine W.done (QB.n ?_))))
      refine W.cndF ?_
      (repeat (first | ((with_reducible show RG _ _ (_ :: _) _ _ _); refine RG.go1 (k := ?_)) | ((with_reducible show DG _ _ (_ :: _) _ _ _ _ _); refine DG.go1 (k := ?_)) | with_reducible apply RG.nil | with_reducible apply W.seq | with_reducible apply W.reg | with_reducible apply W.skip | with_reducible apply W.block | with_reducible apply W.drw | with_reducible apply DG.nil | (with_reducible refine W.done (QB.n ?_))))
      refine W.done (QL.n (⟨j + 1, by omega⟩) ?_ ?_)
      · exact Wk.rn ([0, 1] ) ( [0])
      · dsimp only; omega
    · (repeat (first | ((with_reducible show RG _ _ (_ :: _) _ _ _); refine RG.go1 (k := ?_)) | ((with_reducible show DG _ _ (_ :: _) _ _ _ _ _); refine DG.go1 (k := ?_)) | with_reducible apply RG.nil | with_reducible apply W.seq | with_reducible apply W.reg | with_reducible apply W.skip | with_reducible apply W.block | with_reducible apply W.drw | with_reducible apply DG.nil | (with_reducible refine W.done (QB.n ?_))))
      refine W.cndF ?_
      (refine W.exit ?_; (repeat (first | (with_reducible first | refine QL.x ?_ | refine QC.x ?_ | refine QB.x ?_) | (with_reducible refine QB.o (by decide) ?_))))
      (repeat (first | ((with_reducible show RG _ _ (_ :: _) _ _ _); refine RG.go1 (k := ?_)) | ((with_reducible show DG _ _ (_ :: _) _ _ _ _ _); refine DG.go1 (k := ?_)) | with_reducible apply RG.nil | with_reducible apply W.seq | with_reducible apply W.reg | with_reducible apply W.skip | with_reducible apply W.block | with_reducible apply W.drw | with_reducible apply DG.nil | (with_reducible refine W.done (QB.n ?_))))
      (refine W.ret ?_; (repeat (with_reducible first | refine QB.r ?_ | refine QL.r ?_ | refine QC.r ?_)); refine QF.r ?_)
      exact RetOk.rs (vs := [_]) r_caravelref17_Like []
end Go.Proofs.Ytmohmcgcggenfaa
