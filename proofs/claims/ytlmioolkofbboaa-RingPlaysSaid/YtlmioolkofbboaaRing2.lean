/- What the ring's functions compute: the rest of package ring. -/
import Derived.Test.YtlmioolkofbboaaRing
namespace Go.Proofs.Ytlmioolkofbboaa
open Go.RowKit
set_option linter.unusedVariables false
set_option linter.unusedSimpArgs false
set_option maxRecDepth 100000
set_option maxHeartbeats 4000000
/-! ### The rest of package ring -/
def zr : List AV := [.nil, .int .u16 0, .int .u16 0, .int .u16 0, .int .u16 0]
theorem frames_le {l : List AV} {s : List (List UInt8)} (hl : l.length = s.length) (h : ∀ (i : Nat) (x : AV) (y : List UInt8), l[i]? = some x → s[i]? = some y → x = bs y ∨ (x = .nil ∧ y = [])) : ALe (.sl false 1 l) (.sl false 1 (s.map bs)) := by
  refine ALe.sl1 (by simpa using hl) (fun x hx => ?_) (fun y hy => ?_) fun i x y e1 e2 => ?_
  · obtain ⟨i, hi, rfl⟩ := List.getElem_of_mem hx
    rcases h i _ _ (List.getElem?_eq_getElem hi) (List.getElem?_eq_getElem (by omega)) with q | ⟨q, _⟩ <;> rw [q] <;> rfl
  · obtain ⟨z, _, rfl⟩ := List.mem_map.1 hy; exact ⟨rfl, rfl⟩
  · rw [List.getElem?_map] at e2
    cases hz : s[i]? with
    | none => rw [hz] at e2; cases e2
    | some z =>
      rw [hz] at e2; cases e2
      rcases h i x z e1 hz with rfl | ⟨rfl, rfl⟩
      · exact .refl _
      · exact .nil _ _
theorem ringNew_ok (n : Int) (hn : 1 ≤ n ∧ n ≤ 16) (hd : (65536 : Int) % n = 0) :
    ACall Try.prog 20 [.int .i64 n] (.tup [.agg [.sl false 1 ((List.replicate n.toNat []).map bs), .int .u16 0, .int .u16 0, .int .u16 0, .int .u16 0], .int .i64 0]) [] := by
  refine acall_walk (N := 19) Try.func20 (by kernel_rfl) p_ring_New rfl ?_; unfold c_ring_New; dsimp only [enum, Nat.reduceAdd]
  (repeat (first | ((with_reducible show RG _ _ (_ :: _) _ _ _); refine RG.go1 (k := ?_)) | ((with_reducible show DG _ _ (_ :: _) _ _ _ _ _); refine DG.go1 (k := ?_)) | with_reducible apply RG.nil | with_reducible apply W.seq | with_reducible apply W.reg | with_reducible apply W.skip | with_reducible apply W.block | with_reducible apply W.drw | with_reducible apply DG.nil | (with_reducible refine W.done (QB.n ?_))))
  refine W.cndF ?_
  (repeat (first | ((with_reducible show RG _ _ (_ :: _) _ _ _); refine RG.go1 (k := ?_)) | ((with_reducible show DG _ _ (_ :: _) _ _ _ _ _); refine DG.go1 (k := ?_)) | with_reducible apply RG.nil | with_reducible apply W.seq | with_reducible apply W.reg | with_reducible apply W.skip | with_reducible apply W.block | with_reducible apply W.drw | with_reducible apply DG.nil | (with_reducible refine W.done (QB.n ?_))))
  (refine W.ret ?_; (repeat (with_reducible first | refine QB.r ?_ | refine QL.r ?_ | refine QC.r ?_)); refine QF.r ?_)
  (refine RetOk.wk (Wk.frz (b := 0) rfl rfl) ?_; refine RetOk.wk (Wk.box (b := 0) (cs' := [_, _, _, _, _]) rfl (by dsimp only [ClL]; (repeat' (first | exact True.intro | exact Cl.ice rfl rfl rfl (by first | assumption | decide | omega | (simp; (first | (all_goals fail) | fail)) | (simp <;> omega)) (by first | exact take_all _ | exact take_len (by first | (simp; (first | (all_goals fail) | fail)) | (simp <;> omega)) | exact rfl) | exact Cl.le (.refl _) | apply And.intro)); (first | (all_goals fail) | fail))) ?_; dsimp only [setO])
  have hle : ALe (.sl false 1 (List.replicate n.toNat .nil)) (.sl false 1 ((List.replicate n.toNat []).map bs)) := frames_le (by simp) fun i x y e1 e2 => by
    simp only [List.getElem?_replicate] at e1 e2
    split at e1 <;> simp_all
  exact RetOk.rs (vs := [_, _]) r_ring_New []

/-- The spec. -/
def Rg.post (x : Rg) (f : List UInt8) : Rg × Int :=
  if 214 < f.length then (x, 4) else if (x.s.length : Int) ≤ (x.p - x.r) % 65536 then (x, 5) else ({ x with s := x.s.set (x.p % x.s.length).toNat f, p := (x.p + 1) % 65536 }, 0)
def Rg.take (x : Rg) : Rg × List UInt8 × Int :=
  if x.t = x.p then (x, [], 2) else ({ x with t := (x.t + 1) % 65536 }, x.s.getD (x.t % x.s.length).toNat [], 0)
def Rg.finish (x : Rg) : Rg × Int := if x.d = x.t then (x, 2) else ({ x with d := (x.d + 1) % 65536 }, 0)
def Rg.reap (x : Rg) : Rg × List UInt8 × Int :=
  if x.r = x.d then (x, [], 2) else ({ x with s := x.s.set (x.r % x.s.length).toNat [], r := (x.r + 1) % 65536 }, x.s.getD (x.r % x.s.length).toNat [], 0)
def Rg.fr (x : Rg) : AV := .agg [.sl false 1 (x.s.map bs), .int .u16 x.p, .int .u16 x.t, .int .u16 x.d, .int .u16 x.r]
/-- A ring as it may come. -/
structure Rg.Ok (x : Rg) : Prop where
  n : 1 ≤ x.s.length ∧ x.s.length ≤ 16
  b : ∀ b ∈ x.s, b.length ≤ 1000000
  p : 0 ≤ x.p ∧ x.p < 65536
  t : 0 ≤ x.t ∧ x.t < 65536
  d : 0 ≤ x.d ∧ x.d < 65536
  r : 0 ≤ x.r ∧ x.r < 65536
theorem ringPost_ok (x : Rg) (hx : x.Ok) (f : List UInt8) (hf : f.length ≤ 1000000) :
    ACall Try.prog 8 [x.av, .sl true 1 (f.map by8)] (.tup [(x.post f).1.fr, .int .i64 (x.post f).2]) [] := by
  obtain ⟨hn, hb, hp, ht, hd, hr⟩ := hx
  have el : (f.map by8).length = f.length := by simp
  have es : (x.s.map bs).length = x.s.length := by simp
  have cl := ringClone_ok x (by omega) hb
  unfold Rg.av at cl ⊢
  refine acall_walk (N := 43) Try.func8 (by kernel_rfl) p_ring_Post rfl ?_; unfold c_ring_Post; dsimp only [enum, Nat.reduceAdd]
  (repeat (first | ((with_reducible show RG _ _ (_ :: _) _ _ _); refine RG.go1 (k := ?_)) | ((with_reducible show DG _ _ (_ :: _) _ _ _ _ _); refine DG.go1 (k := ?_)) | with_reducible apply RG.nil | with_reducible apply W.seq | with_reducible apply W.reg | with_reducible apply W.skip | with_reducible apply W.block | with_reducible apply W.drw | with_reducible apply DG.nil | (with_reducible refine W.done (QB.n ?_))))
  refine W.cnd (fun h1 => ?_) (fun h1 => ?_)
  · have hs : x.post f = (x, 4) := by simp at h1; unfold Rg.post; rw [if_pos (by omega)]
    rw [hs]; unfold Rg.fr
    (repeat (first | ((with_reducible show RG _ _ (_ :: _) _ _ _); refine RG.go1 (k := ?_)) | ((with_reducible show DG _ _ (_ :: _) _ _ _ _ _); refine DG.go1 (k := ?_)) | with_reducible apply RG.nil | with_reducible apply W.seq | with_reducible apply W.reg | with_reducible apply W.skip | with_reducible apply W.block | with_reducible apply W.drw | with_reducible apply DG.nil | (with_reducible refine W.done (QB.n ?_))))
    (first | ((with_reducible show RG _ _ (_ :: _) _ _ _); refine RG.ca (cl) (k := ?_)) | ((with_reducible show DG _ _ (_ :: _) _ _ _ _ _); refine DG.ca (cl) (k := ?_)))
    (repeat (first | ((with_reducible show RG _ _ (_ :: _) _ _ _); refine RG.go1 (k := ?_)) | ((with_reducible show DG _ _ (_ :: _) _ _ _ _ _); refine DG.go1 (k := ?_)) | with_reducible apply RG.nil | with_reducible apply W.seq | with_reducible apply W.reg | with_reducible apply W.skip | with_reducible apply W.block | with_reducible apply W.drw | with_reducible apply DG.nil | (with_reducible refine W.done (QB.n ?_))))
    (refine W.ret ?_; (repeat (with_reducible first | refine QB.r ?_ | refine QL.r ?_ | refine QC.r ?_)); refine QF.r ?_)
    (refine RetOk.wk (Wk.frz (b := 0) rfl rfl) ?_; refine RetOk.wk (Wk.box (b := 1) (cs' := [_, _, _, _, _]) rfl (by dsimp only [ClL]; (repeat' (first | exact True.intro | exact Cl.ice rfl rfl rfl (by first | assumption | decide | omega | (simp; (first | (all_goals fail) | fail)) | (simp <;> omega)) (by first | exact take_all _ | exact take_len (by first | (simp; (first | (all_goals fail) | fail)) | (simp <;> omega)) | exact rfl) | exact Cl.le (.refl _) | apply And.intro)); (first | (all_goals fail) | fail))) ?_; dsimp only [setO])
    exact RetOk.rs (vs := [_, _]) r_ring_Post []
  · (repeat (first | ((with_reducible show RG _ _ (_ :: _) _ _ _); refine RG.go1 (k := ?_)) | ((with_reducible show DG _ _ (_ :: _) _ _ _ _ _); refine DG.go1 (k := ?_)) | with_reducible apply RG.nil | with_reducible apply W.seq | with_reducible apply W.reg | with_reducible apply W.skip | with_reducible apply W.block | with_reducible apply W.drw | with_reducible apply DG.nil | (with_reducible refine W.done (QB.n ?_))))
    refine W.cnd (fun h2 => ?_) (fun h2 => ?_)
    · have hs : x.post f = (x, 5) := by simp at h1 h2; unfold Rg.post; rw [if_neg (by omega), if_pos (by omega)]
      rw [hs]; unfold Rg.fr
      (repeat (first | ((with_reducible show RG _ _ (_ :: _) _ _ _); refine RG.go1 (k := ?_)) | ((with_reducible show DG _ _ (_ :: _) _ _ _ _ _); refine DG.go1 (k := ?_)) | with_reducible apply RG.nil | with_reducible apply W.seq | with_reducible apply W.reg | with_reducible apply W.skip | with_reducible apply W.block | with_reducible apply W.drw | with_reducible apply DG.nil | (with_reducible refine W.done (QB.n ?_))))
      (first | ((with_reducible show RG _ _ (_ :: _) _ _ _); refine RG.ca (cl) (k := ?_)) | ((with_reducible show DG _ _ (_ :: _) _ _ _ _ _); refine DG.ca (cl) (k := ?_)))
      (repeat (first | ((with_reducible show RG _ _ (_ :: _) _ _ _); refine RG.go1 (k := ?_)) | ((with_reducible show DG _ _ (_ :: _) _ _ _ _ _); refine DG.go1 (k := ?_)) | with_reducible apply RG.nil | with_reducible apply W.seq | with_reducible apply W.reg | with_reducible apply W.skip | with_reducible apply W.block | with_reducible apply W.drw | with_reducible apply DG.nil | (with_reducible refine W.done (QB.n ?_))))
      (refine W.ret ?_; (repeat (with_reducible first | refine QB.r ?_ | refine QL.r ?_ | refine QC.r ?_)); refine QF.r ?_)
      (refine RetOk.wk (Wk.frz (b := 0) rfl rfl) ?_; refine RetOk.wk (Wk.box (b := 1) (cs' := [_, _, _, _, _]) rfl (by dsimp only [ClL]; (repeat' (first | exact True.intro | exact Cl.ice rfl rfl rfl (by first | assumption | decide | omega | (simp; (first | (all_goals fail) | fail)) | (simp <;> omega)) (by first | exact take_all _ | exact take_len (by first | (simp; (first | (all_goals fail) | fail)) | (simp <;> omega)) | exact rfl) | exact Cl.le (.refl _) | apply And.intro)); (first | (all_goals fail) | fail))) ?_; dsimp only [setO])
      exact RetOk.rs (vs := [_, _]) r_ring_Post []
    · have hs : x.post f = ({ x with s := x.s.set (x.p % x.s.length).toNat f, p := (x.p + 1) % 65536 }, 0) := by simp at h1 h2; unfold Rg.post; rw [if_neg (by omega), if_neg (by omega)]
      rw [hs]; unfold Rg.fr
      have hm := Int.emod_lt_of_pos x.p (show (0 : Int) < x.s.length by omega)
      have hm0 := Int.emod_nonneg x.p (show (x.s.length : Int) ≠ 0 by omega)
      have hi : (x.p % x.s.length).toNat < (x.s.map bs).length := by omega
      have hset : (x.s.map bs).set (x.p % x.s.length).toNat (.sl false 1 (f.map by8)) = (x.s.set (x.p % x.s.length).toNat f).map bs := by rw [List.map_set]; rfl
      have hat := at_ok (x.s.map bs) x.p x.t x.d x.r x.p hp (by omega)
      rw [es] at hat
      (repeat (first | ((with_reducible show RG _ _ (_ :: _) _ _ _); refine RG.go1 (k := ?_)) | ((with_reducible show DG _ _ (_ :: _) _ _ _ _ _); refine DG.go1 (k := ?_)) | with_reducible apply RG.nil | with_reducible apply W.seq | with_reducible apply W.reg | with_reducible apply W.skip | with_reducible apply W.block | with_reducible apply W.drw | with_reducible apply DG.nil | (with_reducible refine W.done (QB.n ?_))))
      (first | ((with_reducible show RG _ _ (_ :: _) _ _ _); refine RG.ca (cl) (k := ?_)) | ((with_reducible show DG _ _ (_ :: _) _ _ _ _ _); refine DG.ca (cl) (k := ?_)))
      (repeat (first | ((with_reducible show RG _ _ (_ :: _) _ _ _); refine RG.go1 (k := ?_)) | ((with_reducible show DG _ _ (_ :: _) _ _ _ _ _); refine DG.go1 (k := ?_)) | with_reducible apply RG.nil | with_reducible apply W.seq | with_reducible apply W.reg | with_reducible apply W.skip | with_reducible apply W.block | with_reducible apply W.drw | with_reducible apply DG.nil | (with_reducible refine W.done (QB.n ?_))))
      (first | ((with_reducible show RG _ _ (_ :: _) _ _ _); refine RG.ca (hat) (k := ?_)) | ((with_reducible show DG _ _ (_ :: _) _ _ _ _ _); refine DG.ca (hat) (k := ?_)))
      (repeat (first | ((with_reducible show RG _ _ (_ :: _) _ _ _); refine RG.go1 (k := ?_)) | ((with_reducible show DG _ _ (_ :: _) _ _ _ _ _); refine DG.go1 (k := ?_)) | with_reducible apply RG.nil | with_reducible apply W.seq | with_reducible apply W.reg | with_reducible apply W.skip | with_reducible apply W.block | with_reducible apply W.drw | with_reducible apply DG.nil | (with_reducible refine W.done (QB.n ?_))))
      (first | ((with_reducible show RG _ _ (_ :: _) _ _ _); refine RG.ew (ix_of (Nat.zero_add _)) (k := ?_)) | ((with_reducible show DG _ _ (_ :: _) _ _ _ _ _); refine DG.ew (ix_of (Nat.zero_add _)) (k := ?_)))
      (first | ((with_reducible show RG _ _ (_ :: _) _ _ _); refine RG.sn (A.str (hset)) (k := ?_)) | ((with_reducible show DG _ _ (_ :: _) _ _ _ _ _); refine DG.sn (A.str (hset)) (k := ?_)))
      (repeat (first | ((with_reducible show RG _ _ (_ :: _) _ _ _); refine RG.go1 (k := ?_)) | ((with_reducible show DG _ _ (_ :: _) _ _ _ _ _); refine DG.go1 (k := ?_)) | with_reducible apply RG.nil | with_reducible apply W.seq | with_reducible apply W.reg | with_reducible apply W.skip | with_reducible apply W.block | with_reducible apply W.drw | with_reducible apply DG.nil | (with_reducible refine W.done (QB.n ?_))))
      (refine W.ret ?_; (repeat (with_reducible first | refine QB.r ?_ | refine QL.r ?_ | refine QC.r ?_)); refine QF.r ?_)
      (refine RetOk.wk (Wk.frz (b := 0) rfl rfl) ?_; refine RetOk.wk (Wk.box (b := 1) (cs' := [_, _, _, _, _]) rfl (by dsimp only [ClL]; (repeat' (first | exact True.intro | exact Cl.ice rfl rfl rfl (by first | assumption | decide | omega | (simp; (first | (all_goals fail) | fail)) | (simp <;> omega)) (by first | exact take_all _ | exact take_len (by first | (simp; (first | (all_goals fail) | fail)) | (simp <;> omega)) | exact rfl) | exact Cl.le (.refl _) | apply And.intro)); (first | (all_goals fail) | fail))) ?_; dsimp only [setO])
      exact RetOk.rs (vs := [_, _]) r_ring_Post []
end Go.Proofs.Ytlmioolkofbboaa
