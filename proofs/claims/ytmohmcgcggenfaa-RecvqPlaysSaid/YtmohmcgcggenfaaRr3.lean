/- What the document's receiver computes: Accept. -/
import Derived.Test.YtmohmcgcggenfaaRr2
namespace Go.Proofs.Ytmohmcgcggenfaa
open Go.RowKit
set_option linter.unusedVariables false
set_option linter.unusedSimpArgs false
set_option maxRecDepth 100000
set_option maxHeartbeats 4000000
section
variable {P : Program} {N : Nat} {tm : List (Nat × AV)} {bx : List (Option (List AV))} {rw : List (Option ARow)} {nb nr : Nat}
/-- a byte of a string -/
theorem ST.idxT {x i : Opd} {s : List UInt8} {ik : IntKind} {j n : Int} (hn : ((s[j.toNat]?.getD 0).toNat : Int) = n) (h0 : 0 ≤ j ∧ j < s.length) (hx : lookT (gT tm) x = .str s) (hi : lookT (gT tm) i = .int ik j) :
    ST tm bx rw nb nr (.idxT x i) (.int .u8 n) 0 0 [] := by
  subst hn
  refine ⟨rfl, ?_, ?_, ?_, ?_, ?_⟩ <;> simp only [aistep, hx, hi, AV.val, AV.cond]
  exact ⟨trivial, trivial, h0⟩
end
def refE (got : List Int) (W E e : Int) (fin : Bool) : Int := if (fin && decide (E < 0) && decide (0 ≤ e) && decide (e ≤ W)) = true ∧ (got.drop e.toNat).any (fun z => decide (0 ≤ z)) = false then e else E
def refC (c : Int) (i : Nat) (d e W E : Int) (ds : List UInt8) : Int := if c < 0 ∧ d ≤ i ∧ i < e ∧ i < W ∧ (E < 0 ∨ i < E) then ((ds.getD (i - d).toNat 0).toNat : Int) else c
def refG (got : List Int) (d e W E : Int) (ds : List UInt8) : List Int := (List.range 256).map fun i => refC (got.getD i 0) i d e W E ds
structure XS where
  nx : Int
  data : List UInt8
  got : List Int
  en : Int
  dn : Bool
def XS.lay (x : XS) (E : Int) (G : List Int) : XS := if frontI G ≠ [] ∨ runsI G ≤ 8 then ⟨sAdd x.nx (frontI G).length, x.data ++ frontI G, G.drop (frontI G).length ++ List.replicate (frontI G).length (-1), if 0 ≤ E then E - (frontI G).length else E, x.dn⟩ else ⟨x.nx, x.data, x.got, E, x.dn⟩
def XS.fin (x : XS) : XS := if x.en = 0 then ⟨sAdd x.nx 1, x.data, x.got, x.en, true⟩ else x
def XS.acc (x : XS) (d : Int) (ds : List UInt8) (fin : Bool) : XS :=
  if x.dn then x else (x.lay (refE x.got (256 - (x.data.length : Int)) x.en (d + ds.length) fin) (refG x.got d (d + ds.length) (256 - (x.data.length : Int)) (refE x.got (256 - (x.data.length : Int)) x.en (d + ds.length) fin) ds)).fin
def XS.av (v : Bool) (x : XS) : AV := rf v x.nx x.data x.got x.en x.dn
structure XS.Ok (x : XS) : Prop where
  nx : 0 ≤ x.nx ∧ x.nx ≤ 4294967295
  d : x.data.length ≤ 256
  got : ByI x.got
  len : x.got.length = 256
  en : -1 ≤ x.en ∧ x.en ≤ 256
theorem refC_by {c : Int} (h : -1 ≤ c ∧ c ≤ 255) (i : Nat) (d e W E : Int) (ds : List UInt8) : -1 ≤ refC c i d e W E ds ∧ refC c i d e W E ds ≤ 255 := by
  unfold refC
  split
  · have := (ds.getD (i - d).toNat 0).toNat_lt; omega
  · exact h
theorem refG_len (got : List Int) (d e W E : Int) (ds : List UInt8) : (refG got d e W E ds).length = 256 := by simp [refG]
theorem refG_by {got : List Int} (h : ByI got) (d e W E : Int) (ds : List UInt8) : ByI (refG got d e W E ds) := by
  intro z hz
  unfold refG at hz
  obtain ⟨i, hi, rfl⟩ := List.mem_map.1 hz
  refine refC_by ?_ ..
  by_cases hl : i < got.length
  · rw [getD_lt _ _ hl]; exact h _ (List.getElem_mem hl)
  · rw [List.getD_eq_getElem?_getD, List.getElem?_eq_none (by omega)]; decide
theorem any_snoc (got : List Int) (e i : Nat) (he : e ≤ i) (hi : i < got.length) : ((got.take (i + 1)).drop e).any (fun z => decide (0 ≤ z)) = (((got.take i).drop e).any (fun z => decide (0 ≤ z)) || decide (0 ≤ got[i])) := by
  rw [List.take_succ_eq_append_getElem hi, List.drop_append_of_le_length (by simp; omega), List.any_append]; simp
theorem refE_bd {got : List Int} {W E e : Int} {fin : Bool} (hW : W ≤ 256) (hE : -1 ≤ E ∧ E ≤ 256) : -1 ≤ refE got W E e fin ∧ refE got W E e fin ≤ 256 := by
  unfold refE
  split
  · rename_i h
    simp only [Bool.and_eq_true, decide_eq_true_eq] at h
    omega
  · exact hE
theorem refG_snoc (got : List Int) (d e W E : Int) (ds : List UInt8) (i : Nat) (hi : i < 256) (hl : i < got.length) : gi ((refG got d e W E ds).take i) ++ [.int .i64 (refC got[i] i d e W E ds)] = gi ((refG got d e W E ds).take (i + 1)) := by
  rw [gi_snoc]; congr 1
  unfold refG
  rw [← List.map_take, ← List.map_take, List.take_range, List.take_range, Nat.min_eq_left (by omega), Nat.min_eq_left (by omega), List.range_succ, List.map_append]
  simp only [List.map_cons, List.map_nil]
  rw [getD_lt _ _ hl]
theorem accR_ok (x : XS) (hx : x.Ok) (hdn : x.dn = false) (at_ : Int) (hat : 0 ≤ at_ ∧ at_ ≤ 4294967295) (ds : List UInt8) (hds : ds.length ≤ 400) (fin : Bool) :
    ACall Try.prog 17 [x.av false, .int .u32 at_, .str ds, .bool fin] ((x.acc (sDiff at_ x.nx) ds fin).av false) [] := by
  obtain ⟨nx, data, got, en, dn⟩ := x
  obtain ⟨hnx, hd, hgot, hgl, hen⟩ := hx
  dsimp only at hdn hnx hd hgot hgl hen ⊢
  subst hdn
  have cd := rDiff_ok at_ nx hat hnx
  have hdb := sDiff_bd at_ nx
  have cw := fun (E : Int) => rWindow_ok false nx data got E false (by omega)
  dsimp only [rf] at cw
  obtain ⟨d, hdd⟩ : ∃ d, sDiff at_ nx = d := ⟨_, rfl⟩
  rw [hdd] at cd hdb ⊢
  have egl := gi_len got
  rw [hgl] at egl
  obtain ⟨y, hy⟩ : ∃ y, XS.acc ⟨nx, data, got, en, false⟩ d ds fin = y := ⟨_, rfl⟩
  rw [hy]
  unfold XS.acc at hy
  dsimp only at hy
  rw [if_neg Bool.false_ne_true] at hy
  unfold XS.av rf
  dsimp only
  refine acall_walk (N := 164) Try.func17 (by kernel_rfl) p_caravelref17_Accept rfl ?_; unfold c_caravelref17_Accept; dsimp only [enum, Nat.reduceAdd]
  (repeat (first | ((with_reducible show RG _ _ (_ :: _) _ _ _); refine RG.go1 (k := ?_)) | ((with_reducible show DG _ _ (_ :: _) _ _ _ _ _); refine DG.go1 (k := ?_)) | with_reducible apply RG.nil | with_reducible apply W.seq | with_reducible apply W.reg | with_reducible apply W.skip | with_reducible apply W.block | with_reducible apply W.drw | with_reducible apply DG.nil | (with_reducible refine W.done (QB.n ?_))))
  refine W.cndF ?_
  (repeat (first | ((with_reducible show RG _ _ (_ :: _) _ _ _); refine RG.go1 (k := ?_)) | ((with_reducible show DG _ _ (_ :: _) _ _ _ _ _); refine DG.go1 (k := ?_)) | with_reducible apply RG.nil | with_reducible apply W.seq | with_reducible apply W.reg | with_reducible apply W.skip | with_reducible apply W.block | with_reducible apply W.drw | with_reducible apply DG.nil | (with_reducible refine W.done (QB.n ?_))))
  (first | ((with_reducible show RG _ _ (_ :: _) _ _ _); refine RG.ca (cd) (k := ?_)) | ((with_reducible show DG _ _ (_ :: _) _ _ _ _ _); refine DG.ca (cd) (k := ?_)))
  (repeat (first | ((with_reducible show RG _ _ (_ :: _) _ _ _); refine RG.go1 (k := ?_)) | ((with_reducible show DG _ _ (_ :: _) _ _ _ _ _); refine DG.go1 (k := ?_)) | with_reducible apply RG.nil | with_reducible apply W.seq | with_reducible apply W.reg | with_reducible apply W.skip | with_reducible apply W.block | with_reducible apply W.drw | with_reducible apply DG.nil | (with_reducible refine W.done (QB.n ?_))))
  (first | ((with_reducible show RG _ _ (_ :: _) _ _ _); refine RG.gca (fun _ => cw en) (k := ?_)) | ((with_reducible show DG _ _ (_ :: _) _ _ _ _ _); refine DG.gca (fun _ => cw en) (k := ?_)))
  (repeat (first | ((with_reducible show RG _ _ (_ :: _) _ _ _); refine RG.go1 (k := ?_)) | ((with_reducible show DG _ _ (_ :: _) _ _ _ _ _); refine DG.go1 (k := ?_)) | with_reducible apply RG.nil | with_reducible apply W.seq | with_reducible apply W.reg | with_reducible apply W.skip | with_reducible apply W.block | with_reducible apply W.drw | with_reducible apply DG.nil | (with_reducible refine W.done (QB.n ?_))))
  refine W.cut (ι := Unit) (fun _ => ⟨[(2, .str ds), (9, .int .i64 d), (10, .int .i64 (d + ds.length)), (4, .bptr 0 0), (8, .bptr 1 0)], [some [.int .u32 nx, .str data, .sl false 1 (gi got), .int .i64 (refE got (256 - (data.length : Int)) en (d + ds.length) fin), .bool false], some [.int .u32 0, .str [], .nil, .int .i64 0, .bool false]], [], 2, 0⟩) ?_ (by simp) ?_
  · refine W.cnd (fun hc => ?_) (fun hc => ?_)
    · have hc2 := hc
      simp only [Bool.and_eq_true, decide_eq_true_eq] at hc2
      obtain ⟨⟨⟨f1, f2⟩, f3⟩, f4⟩ := hc2
      obtain ⟨e, he⟩ : ∃ e : Nat, d + ds.length = e := ⟨(d + ds.length).toNat, by omega⟩
      have hE := fun b (h : ((got.drop e).any fun z => decide (0 ≤ z)) = b) => (show refE got (256 - (data.length : Int)) en (d + ds.length) fin = if b = false then (e : Int) else en by
        unfold refE; rw [hc, he, Int.toNat_natCast, h]; simp)
      clear hy
      generalize refE got (256 - (data.length : Int)) en (d + ds.length) fin = RE at hE ⊢
      rw [he] at f3 f4 ⊢
      clear hc
      (repeat (first | ((with_reducible show RG _ _ (_ :: _) _ _ _); refine RG.go1 (k := ?_)) | ((with_reducible show DG _ _ (_ :: _) _ _ _ _ _); refine DG.go1 (k := ?_)) | with_reducible apply RG.nil | with_reducible apply W.seq | with_reducible apply W.reg | with_reducible apply W.skip | with_reducible apply W.block | with_reducible apply W.drw | with_reducible apply DG.nil | (with_reducible refine W.done (QB.n ?_))))
      refine W.loop (ι := {q : Nat × Bool // e ≤ q.1 ∧ q.1 ≤ 256 ∧ ((got.take q.1).drop e).any (fun z => decide (0 ≤ z)) = q.2}) (fun q => ⟨[(12, .int .i64 q.1.1), (11, .bool q.1.2), (2, .str ds), (9, .int .i64 d), (10, .int .i64 e), (4, .bptr 0 0), (8, .bptr 1 0)], [some [.int .u32 nx, .str data, .sl false 1 (gi got), .int .i64 en, .bool false], some [.int .u32 0, .str [], .nil, .int .i64 0, .bool false]], [], 2, 0⟩) (fun q => 256 - q.1.1) ⟨(e, false), Nat.le_refl _, by dsimp only; omega, by simp⟩ ?_ ?_
      · exact Wk.rn ([0, 1] ) ( [])
      rintro ⟨⟨i, b⟩, hi1, hi2, hb⟩
      dsimp only at hi1 hi2 hb ⊢
      by_cases hlt : i < 256
      · have hEl := gi_at got i (by omega)
        have hsn := any_snoc got e i hi1 (by omega)
        rw [hb] at hsn
        generalize got[i] = z at hEl hsn
        (repeat (first | ((with_reducible show RG _ _ (_ :: _) _ _ _); refine RG.go1 (k := ?_)) | ((with_reducible show DG _ _ (_ :: _) _ _ _ _ _); refine DG.go1 (k := ?_)) | with_reducible apply RG.nil | with_reducible apply W.seq | with_reducible apply W.reg | with_reducible apply W.skip | with_reducible apply W.block | with_reducible apply W.drw | with_reducible apply DG.nil | (with_reducible refine W.done (QB.n ?_))))
        refine W.cndT ?_
        (repeat (first | ((with_reducible show RG _ _ (_ :: _) _ _ _); refine RG.go1 (k := ?_)) | ((with_reducible show DG _ _ (_ :: _) _ _ _ _ _); refine DG.go1 (k := ?_)) | with_reducible apply RG.nil | with_reducible apply W.seq | with_reducible apply W.reg | with_reducible apply W.skip | with_reducible apply W.block | with_reducible apply W.drw | with_reducible apply DG.nil | (with_reducible refine W.done (QB.n ?_))))
        cases b
        · (repeat (first | ((with_reducible show RG _ _ (_ :: _) _ _ _); refine RG.go1 (k := ?_)) | ((with_reducible show DG _ _ (_ :: _) _ _ _ _ _); refine DG.go1 (k := ?_)) | with_reducible apply RG.nil | with_reducible apply W.seq | with_reducible apply W.reg | with_reducible apply W.skip | with_reducible apply W.block | with_reducible apply W.drw | with_reducible apply DG.nil | (with_reducible refine W.done (QB.n ?_))))
          (first | ((with_reducible show RG _ _ (_ :: _) _ _ _); refine RG.ewg (cptr_of (hEl) (by (conv => lhs; whnf) <;> exact rfl)) (k := ?_)) | ((with_reducible show DG _ _ (_ :: _) _ _ _ _ _); refine DG.ewg (cptr_of (hEl) (by (conv => lhs; whnf) <;> exact rfl)) (k := ?_)))
          (repeat (first | ((with_reducible show RG _ _ (_ :: _) _ _ _); refine RG.go1 (k := ?_)) | ((with_reducible show DG _ _ (_ :: _) _ _ _ _ _); refine DG.go1 (k := ?_)) | with_reducible apply RG.nil | with_reducible apply W.seq | with_reducible apply W.reg | with_reducible apply W.skip | with_reducible apply W.block | with_reducible apply W.drw | with_reducible apply DG.nil | (with_reducible refine W.done (QB.n ?_))))
          refine W.done (QL.n (⟨(i + 1, decide (0 ≤ z)), by dsimp only; omega, by dsimp only; omega, by rw [hsn, Bool.false_or]⟩) ?_ ?_)
          · exact Wk.rn ([0, 1] ) ( [])
          · dsimp only; omega
        · (repeat (first | ((with_reducible show RG _ _ (_ :: _) _ _ _); refine RG.go1 (k := ?_)) | ((with_reducible show DG _ _ (_ :: _) _ _ _ _ _); refine DG.go1 (k := ?_)) | with_reducible apply RG.nil | with_reducible apply W.seq | with_reducible apply W.reg | with_reducible apply W.skip | with_reducible apply W.block | with_reducible apply W.drw | with_reducible apply DG.nil | (with_reducible refine W.done (QB.n ?_))))
          refine W.done (QL.n (⟨(i + 1, true), by dsimp only; omega, by dsimp only; omega, by rw [hsn, Bool.true_or]⟩) ?_ ?_)
          · exact Wk.rn ([0, 1] ) ( [])
          · dsimp only; omega
      · have hi3 : i = 256 := by omega
        have hE2 := hE b (by rw [← hb, hi3, ← hgl, List.take_length])
        (repeat (first | ((with_reducible show RG _ _ (_ :: _) _ _ _); refine RG.go1 (k := ?_)) | ((with_reducible show DG _ _ (_ :: _) _ _ _ _ _); refine DG.go1 (k := ?_)) | with_reducible apply RG.nil | with_reducible apply W.seq | with_reducible apply W.reg | with_reducible apply W.skip | with_reducible apply W.block | with_reducible apply W.drw | with_reducible apply DG.nil | (with_reducible refine W.done (QB.n ?_))))
        refine W.cndF ?_
        (refine W.exit ?_; (repeat (first | (with_reducible first | refine QL.x ?_ | refine QC.x ?_ | refine QB.x ?_) | (with_reducible refine QB.o (by decide) ?_))))
        (repeat (first | ((with_reducible show RG _ _ (_ :: _) _ _ _); refine RG.go1 (k := ?_)) | ((with_reducible show DG _ _ (_ :: _) _ _ _ _ _); refine DG.go1 (k := ?_)) | with_reducible apply RG.nil | with_reducible apply W.seq | with_reducible apply W.reg | with_reducible apply W.skip | with_reducible apply W.block | with_reducible apply W.drw | with_reducible apply DG.nil | (with_reducible refine W.done (QB.n ?_))))
        cases b
        · refine W.cndT ?_
          (repeat (first | ((with_reducible show RG _ _ (_ :: _) _ _ _); refine RG.go1 (k := ?_)) | ((with_reducible show DG _ _ (_ :: _) _ _ _ _ _); refine DG.go1 (k := ?_)) | with_reducible apply RG.nil | with_reducible apply W.seq | with_reducible apply W.reg | with_reducible apply W.skip | with_reducible apply W.block | with_reducible apply W.drw | with_reducible apply DG.nil | (with_reducible refine W.done (QB.n ?_))))
          rw [if_pos rfl] at hE2
          rw [← hE2]
          refine W.done (QC.n (()) ?_)
          exact Wk.rn ([0, 1] ) ( [])
        · refine W.cndF ?_
          (repeat (first | ((with_reducible show RG _ _ (_ :: _) _ _ _); refine RG.go1 (k := ?_)) | ((with_reducible show DG _ _ (_ :: _) _ _ _ _ _); refine DG.go1 (k := ?_)) | with_reducible apply RG.nil | with_reducible apply W.seq | with_reducible apply W.reg | with_reducible apply W.skip | with_reducible apply W.block | with_reducible apply W.drw | with_reducible apply DG.nil | (with_reducible refine W.done (QB.n ?_))))
          rw [if_neg (by decide)] at hE2
          rw [hE2]
          refine W.done (QC.n (()) ?_)
          exact Wk.rn ([0, 1] ) ( [])
    · have hE : refE got (256 - (data.length : Int)) en (d + ds.length) fin = en := by unfold refE; rw [hc]; simp
      rw [hE]
      (repeat (first | ((with_reducible show RG _ _ (_ :: _) _ _ _); refine RG.go1 (k := ?_)) | ((with_reducible show DG _ _ (_ :: _) _ _ _ _ _); refine DG.go1 (k := ?_)) | with_reducible apply RG.nil | with_reducible apply W.seq | with_reducible apply W.reg | with_reducible apply W.skip | with_reducible apply W.block | with_reducible apply W.drw | with_reducible apply DG.nil | (with_reducible refine W.done (QB.n ?_))))
      refine W.done (QC.n (()) ?_)
      exact Wk.rn ([0, 1] ) ( [])
  intro _
  have hEb := refE_bd (got := got) (W := 256 - (data.length : Int)) (E := en) (e := d + ds.length) (fin := fin) (by omega) hen
  generalize refE got (256 - (data.length : Int)) en (d + ds.length) fin = E at hEb hy ⊢
  have cw := cw E
  have hsn := fun i (hi : i < 256) => refG_snoc got d (d + ds.length) (256 - (data.length : Int)) E ds i hi (by omega)
  have hGl := refG_len got d (d + ds.length) (256 - (data.length : Int)) E ds
  have hGb := refG_by hgot d (d + ds.length) (256 - (data.length : Int)) E ds
  generalize refG got d (d + ds.length) (256 - (data.length : Int)) E ds = G at *
  (repeat (first | ((with_reducible show RG _ _ (_ :: _) _ _ _); refine RG.go1 (k := ?_)) | ((with_reducible show DG _ _ (_ :: _) _ _ _ _ _); refine DG.go1 (k := ?_)) | with_reducible apply RG.nil | with_reducible apply W.seq | with_reducible apply W.reg | with_reducible apply W.skip | with_reducible apply W.block | with_reducible apply W.drw | with_reducible apply DG.nil | (with_reducible refine W.done (QB.n ?_))))
  refine W.wk (Wk.nilT (t := 13) 1 rfl) ?_ (by simp)
  refine W.loop (ι := {i : Nat // i ≤ 256}) (fun i => ⟨[(14, .int .i64 i.1), (13, .ref 0 1 0 i.1), (2, .str ds), (9, .int .i64 d), (10, .int .i64 (d + ds.length)), (4, .bptr 0 0), (8, .bptr 1 0)], [some [.int .u32 nx, .str data, .sl false 1 (gi got), .int .i64 E, .bool false], some [.int .u32 0, .str [], .nil, .int .i64 0, .bool false]], [some ⟨false, 1, gi (G.take i.1)⟩], 2, 1⟩) (fun i => 256 - i.1) ⟨0, by decide⟩ ?_ ?_
  · exact Wk.rn ([0, 1] ) ( [0])
  rintro ⟨i, hi⟩
  dsimp only
  have hpp := gi_pure (G.take i)
  have hpl : (gi (G.take i)).length = i := by rw [gi_len]; simp; omega
  by_cases hlt : i < 256
  · have hEl := gi_at got i (by omega)
    have hsn := hsn i hlt
    generalize got[i] = z at hEl hsn
    (repeat (first | ((with_reducible show RG _ _ (_ :: _) _ _ _); refine RG.go1 (k := ?_)) | ((with_reducible show DG _ _ (_ :: _) _ _ _ _ _); refine DG.go1 (k := ?_)) | with_reducible apply RG.nil | with_reducible apply W.seq | with_reducible apply W.reg | with_reducible apply W.skip | with_reducible apply W.block | with_reducible apply W.drw | with_reducible apply DG.nil | (with_reducible refine W.done (QB.n ?_))))
    refine W.cndT ?_
    (repeat (first | ((with_reducible show RG _ _ (_ :: _) _ _ _); refine RG.go1 (k := ?_)) | ((with_reducible show DG _ _ (_ :: _) _ _ _ _ _); refine DG.go1 (k := ?_)) | with_reducible apply RG.nil | with_reducible apply W.seq | with_reducible apply W.reg | with_reducible apply W.skip | with_reducible apply W.block | with_reducible apply W.drw | with_reducible apply DG.nil | (with_reducible refine W.done (QB.n ?_))))
    (first | ((with_reducible show RG _ _ (_ :: _) _ _ _); refine RG.ew (cptr_of (hEl) (by (conv => lhs; whnf) <;> exact rfl)) (k := ?_)) | ((with_reducible show DG _ _ (_ :: _) _ _ _ _ _); refine DG.ew (cptr_of (hEl) (by (conv => lhs; whnf) <;> exact rfl)) (k := ?_)))
    (repeat (first | ((with_reducible show RG _ _ (_ :: _) _ _ _); refine RG.go1 (k := ?_)) | ((with_reducible show DG _ _ (_ :: _) _ _ _ _ _); refine DG.go1 (k := ?_)) | with_reducible apply RG.nil | with_reducible apply W.seq | with_reducible apply W.reg | with_reducible apply W.skip | with_reducible apply W.block | with_reducible apply W.drw | with_reducible apply DG.nil | (with_reducible refine W.done (QB.n ?_))))
    (first | ((with_reducible show RG _ _ (_ :: _) _ _ _); refine RG.gca (fun _ => cw) (k := ?_)) | ((with_reducible show DG _ _ (_ :: _) _ _ _ _ _); refine DG.gca (fun _ => cw) (k := ?_)))
    (repeat (first | ((with_reducible show RG _ _ (_ :: _) _ _ _); refine RG.go1 (k := ?_)) | ((with_reducible show DG _ _ (_ :: _) _ _ _ _ _); refine DG.go1 (k := ?_)) | with_reducible apply RG.nil | with_reducible apply W.seq | with_reducible apply W.reg | with_reducible apply W.skip | with_reducible apply W.block | with_reducible apply W.drw | with_reducible apply DG.nil | (with_reducible refine W.done (QB.n ?_))))
    refine W.cnd (fun hc => ?_) (fun hc => ?_)
    · have hc2 := hc
      simp only [Bool.and_eq_true, decide_eq_true_eq] at hc2
      obtain ⟨⟨⟨⟨c1, c2⟩, c3⟩, c4⟩, c5⟩ := hc2
      clear hc
      have hrc : refC z i d (d + ds.length) (256 - (data.length : Int)) E ds = ((ds.getD (i - d).toNat 0).toNat : Int) := by
        unfold refC; rw [if_pos ⟨c1, c2, c3, c4, by
          by_cases hE : E < 0
          · exact .inl hE
          · rw [if_neg (by simpa using hE)] at c5; exact .inr (by simpa using c5)⟩]
      have hby := (ds.getD (i - d).toNat 0).toNat_lt
      have hix : (((ds[((i : Int) - d).toNat]?.getD 0).toNat : Nat) : Int) = refC z i d (d + ds.length) (256 - (data.length : Int)) E ds := by rw [hrc]; simp
      have hrb : 0 ≤ refC z i d (d + ds.length) (256 - (data.length : Int)) E ds ∧ refC z i d (d + ds.length) (256 - (data.length : Int)) E ds ≤ 255 := by rw [hrc]; omega
      generalize refC z i d (d + ds.length) (256 - (data.length : Int)) E ds = c at hix hsn hrb
      clear hrc hby c5
      (repeat (first | ((with_reducible show RG _ _ (_ :: _) _ _ _); refine RG.go1 (k := ?_)) | ((with_reducible show DG _ _ (_ :: _) _ _ _ _ _); refine DG.go1 (k := ?_)) | with_reducible apply RG.nil | with_reducible apply W.seq | with_reducible apply W.reg | with_reducible apply W.skip | with_reducible apply W.block | with_reducible apply W.drw | with_reducible apply DG.nil | (with_reducible refine W.done (QB.n ?_))))
      (first | ((with_reducible show RG _ _ (_ :: _) _ _ _); refine RG.sm (ST.idxT hix (by omega) (by (conv => lhs; whnf) <;> exact rfl) (by (conv => lhs; whnf) <;> exact rfl)) (k := ?_)) | ((with_reducible show DG _ _ (_ :: _) _ _ _ _ _); refine DG.sm (ST.idxT hix (by omega) (by (conv => lhs; whnf) <;> exact rfl) (by (conv => lhs; whnf) <;> exact rfl)) (k := ?_)))
      (repeat (first | ((with_reducible show RG _ _ (_ :: _) _ _ _); refine RG.go1 (k := ?_)) | ((with_reducible show DG _ _ (_ :: _) _ _ _ _ _); refine DG.go1 (k := ?_)) | with_reducible apply RG.nil | with_reducible apply W.seq | with_reducible apply W.reg | with_reducible apply W.skip | with_reducible apply W.block | with_reducible apply W.drw | with_reducible apply DG.nil | (with_reducible refine W.done (QB.n ?_))))
      rw [hsn]
      refine W.done (QL.n (⟨i + 1, by omega⟩) ?_ ?_)
      · exact Wk.rn ([0, 1] ) ( [2])
      · dsimp only; omega
    · have hrc : refC z i d (d + ds.length) (256 - (data.length : Int)) E ds = z := by
        unfold refC; rw [if_neg]
        rintro ⟨c1, c2, c3, c4, c5⟩
        simp only [Bool.and_eq_false_iff, decide_eq_false_iff_not] at hc
        by_cases hE : E < 0
        · rw [if_pos (by simpa using hE)] at hc
          simp [c1, c2, c3, c4] at hc
        · have := c5.resolve_left hE
          rw [if_neg (by simpa using hE)] at hc
          simp [c1, c2, c3, c4, this] at hc
      rw [hrc] at hsn
      clear hrc hc
      (repeat (first | ((with_reducible show RG _ _ (_ :: _) _ _ _); refine RG.go1 (k := ?_)) | ((with_reducible show DG _ _ (_ :: _) _ _ _ _ _); refine DG.go1 (k := ?_)) | with_reducible apply RG.nil | with_reducible apply W.seq | with_reducible apply W.reg | with_reducible apply W.skip | with_reducible apply W.block | with_reducible apply W.drw | with_reducible apply DG.nil | (with_reducible refine W.done (QB.n ?_))))
      rw [hsn]
      refine W.done (QL.n (⟨i + 1, by omega⟩) ?_ ?_)
      · exact Wk.rn ([0, 1] ) ( [2])
      · dsimp only; omega
  have hi2 : i = 256 := by omega
  have htk : G.take i = G := by rw [hi2, ← hGl, List.take_length]
  rw [htk] at hpp hpl ⊢
  have cf := front_ok G hGb (by omega)
  have cr := runs_ok G hGb (by omega) (by omega)
  have hFl := frontI_len G
  have cb := blank_ok (frontI G).length (by omega)
  have hall : (gi G).drop (frontI G).length ++ gi (List.replicate (frontI G).length (-1)) = gi (G.drop (frontI G).length ++ List.replicate (frontI G).length (-1)) := by
    simp [gi]
  have hpr := gi_pure (List.replicate (frontI G).length (-1))
  have hrl : (gi (List.replicate (frontI G).length (-1))).length = (frontI G).length := by rw [gi_len]; simp
  have hfl : (gi (G.drop (frontI G).length ++ List.replicate (frontI G).length (-1))).length = 256 := by rw [gi_len]; simp; omega
  have cad := rAdd_ok nx (frontI G).length hnx (by omega)
  unfold XS.lay at hy
  dsimp only at hy
  clear hsn cw hgot hat cd
  generalize runsI G = R at *
  generalize frontI G = F at *
  (repeat (first | ((with_reducible show RG _ _ (_ :: _) _ _ _); refine RG.go1 (k := ?_)) | ((with_reducible show DG _ _ (_ :: _) _ _ _ _ _); refine DG.go1 (k := ?_)) | with_reducible apply RG.nil | with_reducible apply W.seq | with_reducible apply W.reg | with_reducible apply W.skip | with_reducible apply W.block | with_reducible apply W.drw | with_reducible apply DG.nil | (with_reducible refine W.done (QB.n ?_))))
  refine W.cndF ?_
  (refine W.exit ?_; (repeat (first | (with_reducible first | refine QL.x ?_ | refine QC.x ?_ | refine QB.x ?_) | (with_reducible refine QB.o (by decide) ?_))))
  (repeat (first | ((with_reducible show RG _ _ (_ :: _) _ _ _); refine RG.go1 (k := ?_)) | ((with_reducible show DG _ _ (_ :: _) _ _ _ _ _); refine DG.go1 (k := ?_)) | with_reducible apply RG.nil | with_reducible apply W.seq | with_reducible apply W.reg | with_reducible apply W.skip | with_reducible apply W.block | with_reducible apply W.drw | with_reducible apply DG.nil | (with_reducible refine W.done (QB.n ?_))))
  (first | ((with_reducible show RG _ _ (_ :: _) _ _ _); refine RG.ca (cf) (k := ?_)) | ((with_reducible show DG _ _ (_ :: _) _ _ _ _ _); refine DG.ca (cf) (k := ?_)))
  (repeat (first | ((with_reducible show RG _ _ (_ :: _) _ _ _); refine RG.go1 (k := ?_)) | ((with_reducible show DG _ _ (_ :: _) _ _ _ _ _); refine DG.go1 (k := ?_)) | with_reducible apply RG.nil | with_reducible apply W.seq | with_reducible apply W.reg | with_reducible apply W.skip | with_reducible apply W.block | with_reducible apply W.drw | with_reducible apply DG.nil | (with_reducible refine W.done (QB.n ?_))))
  (first | ((with_reducible show RG _ _ (_ :: _) _ _ _); refine RG.gca (fun _ => cr) (k := ?_)) | ((with_reducible show DG _ _ (_ :: _) _ _ _ _ _); refine DG.gca (fun _ => cr) (k := ?_)))
  (repeat (first | ((with_reducible show RG _ _ (_ :: _) _ _ _); refine RG.go1 (k := ?_)) | ((with_reducible show DG _ _ (_ :: _) _ _ _ _ _); refine DG.go1 (k := ?_)) | with_reducible apply RG.nil | with_reducible apply W.seq | with_reducible apply W.reg | with_reducible apply W.skip | with_reducible apply W.block | with_reducible apply W.drw | with_reducible apply DG.nil | (with_reducible refine W.done (QB.n ?_))))
  obtain ⟨y0, hy0⟩ : ∃ y0 : XS, (if F ≠ [] ∨ R ≤ 8 then (⟨sAdd nx F.length, data ++ F, G.drop F.length ++ List.replicate F.length (-1), if 0 ≤ E then E - F.length else E, false⟩ : XS) else ⟨nx, data, got, E, false⟩) = y0 := ⟨_, rfl⟩
  rw [hy0] at hy
  refine W.cut (ι := Unit) (fun _ => ⟨[(4, .bptr 0 0), (8, .bptr 1 0)], [some [.int .u32 y0.nx, .str y0.data, .sl false 1 (gi y0.got), .int .i64 y0.en, .bool y0.dn], some [.int .u32 0, .str [], .nil, .int .i64 0, .bool false]], [], 2, 0⟩) ?_ (by simp) ?_
  · refine W.cnd (fun hc => ?_) (fun hc => ?_)
    · have hc2 : F ≠ [] ∨ R ≤ 8 := by
        simp only [Bool.or_eq_true, decide_eq_true_eq] at hc
        exact hc.imp id fun h => by omega
      rw [if_pos hc2] at hy0
      subst hy0
      dsimp only
      subst hi2
      clear hy hc
      (repeat (first | ((with_reducible show RG _ _ (_ :: _) _ _ _); refine RG.go1 (k := ?_)) | ((with_reducible show DG _ _ (_ :: _) _ _ _ _ _); refine DG.go1 (k := ?_)) | with_reducible apply RG.nil | with_reducible apply W.seq | with_reducible apply W.reg | with_reducible apply W.skip | with_reducible apply W.block | with_reducible apply W.drw | with_reducible apply DG.nil | (with_reducible refine W.done (QB.n ?_))))
      (first | ((with_reducible show RG _ _ (_ :: _) _ _ _); refine RG.ew ((show AV.ref 0 1 (0 + ((F.length : Nat) : Int).toNat) (((256 : Nat) : Int) - (F.length : Int)).toNat = AV.ref 0 1 F.length (256 - F.length) by congr 1 <;> omega)) (k := ?_)) | ((with_reducible show DG _ _ (_ :: _) _ _ _ _ _); refine DG.ew ((show AV.ref 0 1 (0 + ((F.length : Nat) : Int).toNat) (((256 : Nat) : Int) - (F.length : Int)).toNat = AV.ref 0 1 F.length (256 - F.length) by congr 1 <;> omega)) (k := ?_)))
      (repeat (first | ((with_reducible show RG _ _ (_ :: _) _ _ _); refine RG.go1 (k := ?_)) | ((with_reducible show DG _ _ (_ :: _) _ _ _ _ _); refine DG.go1 (k := ?_)) | with_reducible apply RG.nil | with_reducible apply W.seq | with_reducible apply W.reg | with_reducible apply W.skip | with_reducible apply W.block | with_reducible apply W.drw | with_reducible apply DG.nil | (with_reducible refine W.done (QB.n ?_))))
      (first | ((with_reducible show RG _ _ (_ :: _) _ _ _); refine RG.ca (cb) (k := ?_)) | ((with_reducible show DG _ _ (_ :: _) _ _ _ _ _); refine DG.ca (cb) (k := ?_)))
      (repeat (first | ((with_reducible show RG _ _ (_ :: _) _ _ _); refine RG.go1 (k := ?_)) | ((with_reducible show DG _ _ (_ :: _) _ _ _ _ _); refine DG.go1 (k := ?_)) | with_reducible apply RG.nil | with_reducible apply W.seq | with_reducible apply W.reg | with_reducible apply W.skip | with_reducible apply W.block | with_reducible apply W.drw | with_reducible apply DG.nil | (with_reducible refine W.done (QB.n ?_))))
      rw [hall, hrl, show 256 - F.length + F.length = 256 by omega]
      (first | ((with_reducible show RG _ _ (_ :: _) _ _ _); refine RG.ca (cad) (k := ?_)) | ((with_reducible show DG _ _ (_ :: _) _ _ _ _ _); refine DG.ca (cad) (k := ?_)))
      (repeat (first | ((with_reducible show RG _ _ (_ :: _) _ _ _); refine RG.go1 (k := ?_)) | ((with_reducible show DG _ _ (_ :: _) _ _ _ _ _); refine DG.go1 (k := ?_)) | with_reducible apply RG.nil | with_reducible apply W.seq | with_reducible apply W.reg | with_reducible apply W.skip | with_reducible apply W.block | with_reducible apply W.drw | with_reducible apply DG.nil | (with_reducible refine W.done (QB.n ?_))))
      (refine W.wk (Wk.frz (b := 1) rfl rfl) ?_ (by simp); refine W.wk (Wk.box (b := 0) (cs' := [_, _, _, _, _]) rfl (by dsimp only [ClL]; (repeat' (first | exact True.intro | exact Cl.ice rfl rfl rfl (by first | assumption | decide | omega | (simp; (first | (all_goals fail) | fail)) | (simp <;> omega)) (by first | exact take_all _ | exact take_len (by first | (simp; (first | (all_goals fail) | fail)) | (simp <;> omega)) | exact rfl) | exact Cl.le (.refl _) | apply And.intro)); (first | (all_goals fail) | fail))) ?_ (by simp); dsimp only [setO])
      refine W.cnd (fun hE => ?_) (fun hE => ?_)
      · rw [if_pos (by simpa using hE)]
        (repeat (first | ((with_reducible show RG _ _ (_ :: _) _ _ _); refine RG.go1 (k := ?_)) | ((with_reducible show DG _ _ (_ :: _) _ _ _ _ _); refine DG.go1 (k := ?_)) | with_reducible apply RG.nil | with_reducible apply W.seq | with_reducible apply W.reg | with_reducible apply W.skip | with_reducible apply W.block | with_reducible apply W.drw | with_reducible apply DG.nil | (with_reducible refine W.done (QB.n ?_))))
        refine W.done (QC.n (()) ?_)
        exact Wk.rn ([0, 1] ) ( [])
      · rw [if_neg (by simpa using hE)]
        (repeat (first | ((with_reducible show RG _ _ (_ :: _) _ _ _); refine RG.go1 (k := ?_)) | ((with_reducible show DG _ _ (_ :: _) _ _ _ _ _); refine DG.go1 (k := ?_)) | with_reducible apply RG.nil | with_reducible apply W.seq | with_reducible apply W.reg | with_reducible apply W.skip | with_reducible apply W.block | with_reducible apply W.drw | with_reducible apply DG.nil | (with_reducible refine W.done (QB.n ?_))))
        refine W.done (QC.n (()) ?_)
        exact Wk.rn ([0, 1] ) ( [])
    · have hc2 : ¬ (F ≠ [] ∨ R ≤ 8) := by
        simp only [Bool.or_eq_false_iff, decide_eq_false_iff_not] at hc
        rintro (h | h)
        · exact hc.1 h
        · exact hc.2 (by omega)
      rw [if_neg hc2] at hy0
      subst hy0
      (repeat (first | ((with_reducible show RG _ _ (_ :: _) _ _ _); refine RG.go1 (k := ?_)) | ((with_reducible show DG _ _ (_ :: _) _ _ _ _ _); refine DG.go1 (k := ?_)) | with_reducible apply RG.nil | with_reducible apply W.seq | with_reducible apply W.reg | with_reducible apply W.skip | with_reducible apply W.block | with_reducible apply W.drw | with_reducible apply DG.nil | (with_reducible refine W.done (QB.n ?_))))
      refine W.done (QC.n (()) ?_)
      exact Wk.rn ([0, 1] ) ( [])
  have hyn : 0 ≤ y0.nx ∧ y0.nx ≤ 4294967295 := by
    rw [← hy0]
    split
    · exact sAdd_bd _ _
    · exact hnx
  clear hy0 hall hfl hpr hrl cf cr cb cad hFl
  intro _
  have ca2 := rAdd_ok y0.nx 1 hyn (by decide)
  unfold XS.fin at hy
  by_cases h0 : y0.en = 0
  · rw [if_pos h0] at hy
    subst hy
    obtain ⟨nx0, data0, got0, en0, dn0⟩ := y0
    dsimp only at *
    (repeat (first | ((with_reducible show RG _ _ (_ :: _) _ _ _); refine RG.go1 (k := ?_)) | ((with_reducible show DG _ _ (_ :: _) _ _ _ _ _); refine DG.go1 (k := ?_)) | with_reducible apply RG.nil | with_reducible apply W.seq | with_reducible apply W.reg | with_reducible apply W.skip | with_reducible apply W.block | with_reducible apply W.drw | with_reducible apply DG.nil | (with_reducible refine W.done (QB.n ?_))))
    refine W.cndT ?_
    (repeat (first | ((with_reducible show RG _ _ (_ :: _) _ _ _); refine RG.go1 (k := ?_)) | ((with_reducible show DG _ _ (_ :: _) _ _ _ _ _); refine DG.go1 (k := ?_)) | with_reducible apply RG.nil | with_reducible apply W.seq | with_reducible apply W.reg | with_reducible apply W.skip | with_reducible apply W.block | with_reducible apply W.drw | with_reducible apply DG.nil | (with_reducible refine W.done (QB.n ?_))))
    (first | ((with_reducible show RG _ _ (_ :: _) _ _ _); refine RG.ca (ca2) (k := ?_)) | ((with_reducible show DG _ _ (_ :: _) _ _ _ _ _); refine DG.ca (ca2) (k := ?_)))
    (repeat (first | ((with_reducible show RG _ _ (_ :: _) _ _ _); refine RG.go1 (k := ?_)) | ((with_reducible show DG _ _ (_ :: _) _ _ _ _ _); refine DG.go1 (k := ?_)) | with_reducible apply RG.nil | with_reducible apply W.seq | with_reducible apply W.reg | with_reducible apply W.skip | with_reducible apply W.block | with_reducible apply W.drw | with_reducible apply DG.nil | (with_reducible refine W.done (QB.n ?_))))
    (refine W.ret ?_; (repeat (with_reducible first | refine QB.r ?_ | refine QL.r ?_ | refine QC.r ?_)); refine QF.r ?_)
    exact RetOk.rs (vs := [_]) r_caravelref17_Accept []
  · rw [if_neg h0] at hy
    subst hy
    obtain ⟨nx0, data0, got0, en0, dn0⟩ := y0
    dsimp only at *
    (repeat (first | ((with_reducible show RG _ _ (_ :: _) _ _ _); refine RG.go1 (k := ?_)) | ((with_reducible show DG _ _ (_ :: _) _ _ _ _ _); refine DG.go1 (k := ?_)) | with_reducible apply RG.nil | with_reducible apply W.seq | with_reducible apply W.reg | with_reducible apply W.skip | with_reducible apply W.block | with_reducible apply W.drw | with_reducible apply DG.nil | (with_reducible refine W.done (QB.n ?_))))
    refine W.cndF ?_
    (repeat (first | ((with_reducible show RG _ _ (_ :: _) _ _ _); refine RG.go1 (k := ?_)) | ((with_reducible show DG _ _ (_ :: _) _ _ _ _ _); refine DG.go1 (k := ?_)) | with_reducible apply RG.nil | with_reducible apply W.seq | with_reducible apply W.reg | with_reducible apply W.skip | with_reducible apply W.block | with_reducible apply W.drw | with_reducible apply DG.nil | (with_reducible refine W.done (QB.n ?_))))
    (refine W.ret ?_; (repeat (with_reducible first | refine QB.r ?_ | refine QL.r ?_ | refine QC.r ?_)); refine QF.r ?_)
    exact RetOk.rs (vs := [_]) r_caravelref17_Accept []
end Go.Proofs.Ytmohmcgcggenfaa
