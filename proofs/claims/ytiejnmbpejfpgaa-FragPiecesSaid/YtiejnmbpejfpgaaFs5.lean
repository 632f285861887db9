/- FragSplits: the walk. -/
import Derived.Test.YtiejnmbpejfpgaaFs4
namespace Go.Proofs.Ytiejnmbpejfpgaa
open Go.RowKit
set_option linter.unusedVariables false
set_option linter.unusedSimpArgs false
set_option maxRecDepth 100000
set_option maxHeartbeats 4000000
theorem Below.frame {W w' : World} (h : Below W.heap.size W w') (may : MemPlace → Prop) : W.keptBut w' may := by
  refine ⟨h.os, h.output, fun i hi => ?_⟩
  rw [h.block i hi]
  split <;> simp_all
theorem Below.same {W w' : World} (h : Below W.heap.size W w') {p : MemPlace} (hp : p.block < W.heap.size) : W.sameAt w' p := by
  cases p with
  | cell b o => exact World.cell?_of_block (w := W) (h.block b hp)
  | map b => exact h.block b hp
theorem Below.trod {H : Type} {enc : TypeId × Value → H} {P : Program} {t : TypeId} (hl : laidOutB P = true) (hr : P.readableRec t = true) (hrow : t < P.types.size) {W W' : World} {v : Value} {d : DataW H} {ps : List MemPlace}
    (h : DataW.Trod enc P W 0 (fun _ => true) true t v d ps) (hb : Below W.heap.size W W') (hlt : ∀ x ∈ ps, x.block < W.heap.size) :
    DataW.Trod enc P W' 0 (fun b => decide (b < W.heap.size)) true t v d ps :=
  WideElems.Trod_stays hl hr hrow h (fun x hx => hb.same (hlt x hx)) (fun x hx => by simpa using hlt x hx)
theorem sames_nil : ACall Try.prog 10 [.nil, .nil] (.bool true) [] := (sames_ok [] (by decide) (by simp)).mono ⟨ALe.nil _ _, ALe.nil _ _, trivial⟩
theorem pieces_dt (q : Pk) (m : Nat) : ∀ p ∈ pieces q m, p.dt.length ≤ 176 := by
  intro p hp
  unfold pieces at hp
  obtain ⟨j, _, rfl⟩ := List.mem_map.1 hp
  simp only [piece, List.length_take]
  omega
theorem fragSplits_ok (p : Pk) (hL : (p.dt.length : Int) ≤ 9223372036854775807) : ACall Try.prog 3 [pk false p] (.bool true) [] := by
  have hl := lives_ok
  have cs := sames_nil
  by_cases h15 : 1500 < p.dt.length
  · obtain ⟨i, mo, o, tt, pr, s0, s1, s2, s3, d0, d1, d2, d3, dt⟩ := p
    unfold pk pkc
    dsimp only at hL h15 ⊢
    have el := by8_len dt
    refine acall_walk (N := 34) Try.func3 (by kernel_rfl) p_caravellaw07_FragSplits rfl ?_; unfold c_caravellaw07_FragSplits; dsimp only [enum, Nat.reduceAdd]
    (repeat (first | ((with_reducible show RG _ _ (_ :: _) _ _ _); refine RG.go1 (k := ?_)) | ((with_reducible show DG _ _ (_ :: _) _ _ _ _ _); refine DG.go1 (k := ?_)) | (with_reducible first | apply RG.nil | apply W.seq | apply W.reg | apply W.skip | apply W.block | apply W.drw | apply DG.nil | refine W.done (QB.n ?_)) | refine W.cndT ?_ | refine W.cndF ?_))
    (first | ((with_reducible show RG _ _ (_ :: _) _ _ _); refine RG.ca (hl) (k := ?_)) | ((with_reducible show DG _ _ (_ :: _) _ _ _ _ _); refine DG.ca (hl) (k := ?_)))
    (repeat (first | ((with_reducible show RG _ _ (_ :: _) _ _ _); refine RG.go1 (k := ?_)) | ((with_reducible show DG _ _ (_ :: _) _ _ _ _ _); refine DG.go1 (k := ?_)) | (with_reducible first | apply RG.nil | apply W.seq | apply W.reg | apply W.skip | apply W.block | apply W.drw | apply DG.nil | refine W.done (QB.n ?_)) | refine W.cndT ?_ | refine W.cndF ?_))
    (first | ((with_reducible show RG _ _ (_ :: _) _ _ _); refine RG.ca (hl) (k := ?_)) | ((with_reducible show DG _ _ (_ :: _) _ _ _ _ _); refine DG.ca (hl) (k := ?_)))
    (repeat (first | ((with_reducible show RG _ _ (_ :: _) _ _ _); refine RG.go1 (k := ?_)) | ((with_reducible show DG _ _ (_ :: _) _ _ _ _ _); refine DG.go1 (k := ?_)) | (with_reducible first | apply RG.nil | apply W.seq | apply W.reg | apply W.skip | apply W.block | apply W.drw | apply DG.nil | refine W.done (QB.n ?_)) | refine W.cndT ?_ | refine W.cndF ?_))
    (refine W.ret ?_; (repeat (with_reducible first | refine QB.r ?_ | refine QL.r ?_ | refine QC.r ?_)); refine QF.r ?_)
    exact RetOk.rs (vs := [_]) r_caravellaw07_FragSplits []
  by_cases he : p.o ≠ 0 ∨ p.mo = true
  · have c1 := split_err false p he
    have c2 := dSplit_err p he
    clear he
    obtain ⟨i, mo, o, tt, pr, s0, s1, s2, s3, d0, d1, d2, d3, dt⟩ := p
    unfold pk pkc at c1 c2 ⊢
    dsimp only at hL h15 c1 c2 ⊢
    have el := by8_len dt
    refine acall_walk (N := 34) Try.func3 (by kernel_rfl) p_caravellaw07_FragSplits rfl ?_; unfold c_caravellaw07_FragSplits; dsimp only [enum, Nat.reduceAdd]
    (repeat (first | ((with_reducible show RG _ _ (_ :: _) _ _ _); refine RG.go1 (k := ?_)) | ((with_reducible show DG _ _ (_ :: _) _ _ _ _ _); refine DG.go1 (k := ?_)) | (with_reducible first | apply RG.nil | apply W.seq | apply W.reg | apply W.skip | apply W.block | apply W.drw | apply DG.nil | refine W.done (QB.n ?_)) | refine W.cndT ?_ | refine W.cndF ?_))
    (first | ((with_reducible show RG _ _ (_ :: _) _ _ _); refine RG.ca (hl) (k := ?_)) | ((with_reducible show DG _ _ (_ :: _) _ _ _ _ _); refine DG.ca (hl) (k := ?_)))
    (repeat (first | ((with_reducible show RG _ _ (_ :: _) _ _ _); refine RG.go1 (k := ?_)) | ((with_reducible show DG _ _ (_ :: _) _ _ _ _ _); refine DG.go1 (k := ?_)) | (with_reducible first | apply RG.nil | apply W.seq | apply W.reg | apply W.skip | apply W.block | apply W.drw | apply DG.nil | refine W.done (QB.n ?_)) | refine W.cndT ?_ | refine W.cndF ?_))
    (first | ((with_reducible show RG _ _ (_ :: _) _ _ _); refine RG.ca (c1) (k := ?_)) | ((with_reducible show DG _ _ (_ :: _) _ _ _ _ _); refine DG.ca (c1) (k := ?_)))
    (repeat (first | ((with_reducible show RG _ _ (_ :: _) _ _ _); refine RG.go1 (k := ?_)) | ((with_reducible show DG _ _ (_ :: _) _ _ _ _ _); refine DG.go1 (k := ?_)) | (with_reducible first | apply RG.nil | apply W.seq | apply W.reg | apply W.skip | apply W.block | apply W.drw | apply DG.nil | refine W.done (QB.n ?_)) | refine W.cndT ?_ | refine W.cndF ?_))
    (first | ((with_reducible show RG _ _ (_ :: _) _ _ _); refine RG.ca (c2) (k := ?_)) | ((with_reducible show DG _ _ (_ :: _) _ _ _ _ _); refine DG.ca (c2) (k := ?_)))
    (repeat (first | ((with_reducible show RG _ _ (_ :: _) _ _ _); refine RG.go1 (k := ?_)) | ((with_reducible show DG _ _ (_ :: _) _ _ _ _ _); refine DG.go1 (k := ?_)) | (with_reducible first | apply RG.nil | apply W.seq | apply W.reg | apply W.skip | apply W.block | apply W.drw | apply DG.nil | refine W.done (QB.n ?_)) | refine W.cndT ?_ | refine W.cndF ?_))
    (first | ((with_reducible show RG _ _ (_ :: _) _ _ _); refine RG.gca (fun _ => cs) (k := ?_)) | ((with_reducible show DG _ _ (_ :: _) _ _ _ _ _); refine DG.gca (fun _ => cs) (k := ?_)))
    (repeat (first | ((with_reducible show RG _ _ (_ :: _) _ _ _); refine RG.go1 (k := ?_)) | ((with_reducible show DG _ _ (_ :: _) _ _ _ _ _); refine DG.go1 (k := ?_)) | (with_reducible first | apply RG.nil | apply W.seq | apply W.reg | apply W.skip | apply W.block | apply W.drw | apply DG.nil | refine W.done (QB.n ?_)) | refine W.cndT ?_ | refine W.cndF ?_))
    (refine W.ret ?_; (repeat (with_reducible first | refine QB.r ?_ | refine QL.r ?_ | refine QC.r ?_)); refine QF.r ?_)
    exact RetOk.rs (vs := [_]) r_caravellaw07_FragSplits []
  have h0 : p.o = 0 := Classical.byContradiction fun h => he (.inl h)
  have hm : p.mo = false := by cases h : p.mo with
    | false => rfl
    | true => exact (he (.inr h)).elim
  clear he
  by_cases hn : 1000 < p.dt.length
  · have c1 := split_long false p h0 hm hn
    have c2 := dSplit_long p h0 hm hn
    clear h0 hm
    obtain ⟨i, mo, o, tt, pr, s0, s1, s2, s3, d0, d1, d2, d3, dt⟩ := p
    unfold pk pkc at c1 c2 ⊢
    dsimp only at hL h15 hn c1 c2 ⊢
    have el := by8_len dt
    refine acall_walk (N := 34) Try.func3 (by kernel_rfl) p_caravellaw07_FragSplits rfl ?_; unfold c_caravellaw07_FragSplits; dsimp only [enum, Nat.reduceAdd]
    (repeat (first | ((with_reducible show RG _ _ (_ :: _) _ _ _); refine RG.go1 (k := ?_)) | ((with_reducible show DG _ _ (_ :: _) _ _ _ _ _); refine DG.go1 (k := ?_)) | (with_reducible first | apply RG.nil | apply W.seq | apply W.reg | apply W.skip | apply W.block | apply W.drw | apply DG.nil | refine W.done (QB.n ?_)) | refine W.cndT ?_ | refine W.cndF ?_))
    (first | ((with_reducible show RG _ _ (_ :: _) _ _ _); refine RG.ca (hl) (k := ?_)) | ((with_reducible show DG _ _ (_ :: _) _ _ _ _ _); refine DG.ca (hl) (k := ?_)))
    (repeat (first | ((with_reducible show RG _ _ (_ :: _) _ _ _); refine RG.go1 (k := ?_)) | ((with_reducible show DG _ _ (_ :: _) _ _ _ _ _); refine DG.go1 (k := ?_)) | (with_reducible first | apply RG.nil | apply W.seq | apply W.reg | apply W.skip | apply W.block | apply W.drw | apply DG.nil | refine W.done (QB.n ?_)) | refine W.cndT ?_ | refine W.cndF ?_))
    (first | ((with_reducible show RG _ _ (_ :: _) _ _ _); refine RG.ca (c1) (k := ?_)) | ((with_reducible show DG _ _ (_ :: _) _ _ _ _ _); refine DG.ca (c1) (k := ?_)))
    (repeat (first | ((with_reducible show RG _ _ (_ :: _) _ _ _); refine RG.go1 (k := ?_)) | ((with_reducible show DG _ _ (_ :: _) _ _ _ _ _); refine DG.go1 (k := ?_)) | (with_reducible first | apply RG.nil | apply W.seq | apply W.reg | apply W.skip | apply W.block | apply W.drw | apply DG.nil | refine W.done (QB.n ?_)) | refine W.cndT ?_ | refine W.cndF ?_))
    (first | ((with_reducible show RG _ _ (_ :: _) _ _ _); refine RG.ca (c2) (k := ?_)) | ((with_reducible show DG _ _ (_ :: _) _ _ _ _ _); refine DG.ca (c2) (k := ?_)))
    (repeat (first | ((with_reducible show RG _ _ (_ :: _) _ _ _); refine RG.go1 (k := ?_)) | ((with_reducible show DG _ _ (_ :: _) _ _ _ _ _); refine DG.go1 (k := ?_)) | (with_reducible first | apply RG.nil | apply W.seq | apply W.reg | apply W.skip | apply W.block | apply W.drw | apply DG.nil | refine W.done (QB.n ?_)) | refine W.cndT ?_ | refine W.cndF ?_))
    (first | ((with_reducible show RG _ _ (_ :: _) _ _ _); refine RG.gca (fun _ => cs) (k := ?_)) | ((with_reducible show DG _ _ (_ :: _) _ _ _ _ _); refine DG.gca (fun _ => cs) (k := ?_)))
    (repeat (first | ((with_reducible show RG _ _ (_ :: _) _ _ _); refine RG.go1 (k := ?_)) | ((with_reducible show DG _ _ (_ :: _) _ _ _ _ _); refine DG.go1 (k := ?_)) | (with_reducible first | apply RG.nil | apply W.seq | apply W.reg | apply W.skip | apply W.block | apply W.drw | apply DG.nil | refine W.done (QB.n ?_)) | refine W.cndT ?_ | refine W.cndF ?_))
    (refine W.ret ?_; (repeat (with_reducible first | refine QB.r ?_ | refine QL.r ?_ | refine QC.r ?_)); refine QF.r ?_)
    exact RetOk.rs (vs := [_]) r_caravellaw07_FragSplits []
  · have c1 := splitF_ok p h0 hm (by omega)
    have c2 := dSplit_ok p h0 hm (by omega)
    have hM : cntD p.dt.length ≤ 10 := by unfold cntD cntP; omega
    have cs : ACall Try.prog 10 [.sl false 14 ((pieces p (cntD p.dt.length)).map (pk false)), .sl false 14 ((pieces p (cntD p.dt.length)).map (pk false))] (.bool true) [] := (sames_ok (pieces p (cntD p.dt.length)) (by rw [pieces_len]; omega) (fun q hq => by have := pieces_dt _ _ q hq; omega)).mono ⟨ALe.slv rfl, ALe.slv rfl, trivial⟩
    generalize (pieces p (cntD p.dt.length)).map (pk false) = L at *
    clear h0 hm hM
    obtain ⟨i, mo, o, tt, pr, s0, s1, s2, s3, d0, d1, d2, d3, dt⟩ := p
    unfold pk pkc at c1 c2 ⊢
    dsimp only at hL h15 hn c1 c2 ⊢
    have el := by8_len dt
    refine acall_walk (N := 34) Try.func3 (by kernel_rfl) p_caravellaw07_FragSplits rfl ?_; unfold c_caravellaw07_FragSplits; dsimp only [enum, Nat.reduceAdd]
    (repeat (first | ((with_reducible show RG _ _ (_ :: _) _ _ _); refine RG.go1 (k := ?_)) | ((with_reducible show DG _ _ (_ :: _) _ _ _ _ _); refine DG.go1 (k := ?_)) | (with_reducible first | apply RG.nil | apply W.seq | apply W.reg | apply W.skip | apply W.block | apply W.drw | apply DG.nil | refine W.done (QB.n ?_)) | refine W.cndT ?_ | refine W.cndF ?_))
    (first | ((with_reducible show RG _ _ (_ :: _) _ _ _); refine RG.ca (hl) (k := ?_)) | ((with_reducible show DG _ _ (_ :: _) _ _ _ _ _); refine DG.ca (hl) (k := ?_)))
    (repeat (first | ((with_reducible show RG _ _ (_ :: _) _ _ _); refine RG.go1 (k := ?_)) | ((with_reducible show DG _ _ (_ :: _) _ _ _ _ _); refine DG.go1 (k := ?_)) | (with_reducible first | apply RG.nil | apply W.seq | apply W.reg | apply W.skip | apply W.block | apply W.drw | apply DG.nil | refine W.done (QB.n ?_)) | refine W.cndT ?_ | refine W.cndF ?_))
    (first | ((with_reducible show RG _ _ (_ :: _) _ _ _); refine RG.ca (c1) (k := ?_)) | ((with_reducible show DG _ _ (_ :: _) _ _ _ _ _); refine DG.ca (c1) (k := ?_)))
    (repeat (first | ((with_reducible show RG _ _ (_ :: _) _ _ _); refine RG.go1 (k := ?_)) | ((with_reducible show DG _ _ (_ :: _) _ _ _ _ _); refine DG.go1 (k := ?_)) | (with_reducible first | apply RG.nil | apply W.seq | apply W.reg | apply W.skip | apply W.block | apply W.drw | apply DG.nil | refine W.done (QB.n ?_)) | refine W.cndT ?_ | refine W.cndF ?_))
    (first | ((with_reducible show RG _ _ (_ :: _) _ _ _); refine RG.ca (c2) (k := ?_)) | ((with_reducible show DG _ _ (_ :: _) _ _ _ _ _); refine DG.ca (c2) (k := ?_)))
    (repeat (first | ((with_reducible show RG _ _ (_ :: _) _ _ _); refine RG.go1 (k := ?_)) | ((with_reducible show DG _ _ (_ :: _) _ _ _ _ _); refine DG.go1 (k := ?_)) | (with_reducible first | apply RG.nil | apply W.seq | apply W.reg | apply W.skip | apply W.block | apply W.drw | apply DG.nil | refine W.done (QB.n ?_)) | refine W.cndT ?_ | refine W.cndF ?_))
    (first | ((with_reducible show RG _ _ (_ :: _) _ _ _); refine RG.gca (fun _ => cs) (k := ?_)) | ((with_reducible show DG _ _ (_ :: _) _ _ _ _ _); refine DG.gca (fun _ => cs) (k := ?_)))
    (repeat (first | ((with_reducible show RG _ _ (_ :: _) _ _ _); refine RG.go1 (k := ?_)) | ((with_reducible show DG _ _ (_ :: _) _ _ _ _ _); refine DG.go1 (k := ?_)) | (with_reducible first | apply RG.nil | apply W.seq | apply W.reg | apply W.skip | apply W.block | apply W.drw | apply DG.nil | refine W.done (QB.n ?_)) | refine W.cndT ?_ | refine W.cndF ?_))
    (refine W.ret ?_; (repeat (with_reducible first | refine QB.r ?_ | refine QL.r ?_ | refine QC.r ?_)); refine QF.r ?_)
    exact RetOk.rs (vs := [_]) r_caravellaw07_FragSplits []
theorem pk_arg {w : World} {r : Reach} {b0 base : Nat} {H : Type} {enc : TypeId × Value → H} {spare : Nat → Bool} {held : Bool} {v : Value} {d : DataW H} {p : List MemPlace} (hv : Value.okWide Try.prog w r b0 27 v) (k : DataW.Trod enc Try.prog w base spare held 27 v d p) :
    ∃ q : Pk, Rep0 (fun x => x < w.heap.size) w v (pk false q) ∧ q.dt.length ≤ maxLen := by
  obtain ⟨cs0, hr, hf⟩ := arg_agg (n := 5) (ts := [.int .u16, .bool, .int .i64, .int .u8, .int .u8, .int .u8, .int .u8, .int .u8, .int .u8, .int .u8, .int .u8, .int .u8, .int .u8, .sl [.int .u8]]) (.inl ⟨_, Try.underlying27⟩) (by kernel_rfl) hv k
  obtain ⟨_, cs, rfl, h0, h⟩ := hf.inv
  obtain ⟨_, cs, rfl, h1, h⟩ := h.inv
  obtain ⟨_, cs, rfl, h2, h⟩ := h.inv
  obtain ⟨_, cs, rfl, h3, h⟩ := h.inv
  obtain ⟨_, cs, rfl, h4, h⟩ := h.inv
  obtain ⟨_, cs, rfl, h5, h⟩ := h.inv
  obtain ⟨_, cs, rfl, h6, h⟩ := h.inv
  obtain ⟨_, cs, rfl, h7, h⟩ := h.inv
  obtain ⟨_, cs, rfl, h8, h⟩ := h.inv
  obtain ⟨_, cs, rfl, h9, h⟩ := h.inv
  obtain ⟨_, cs, rfl, ha, h⟩ := h.inv
  obtain ⟨_, cs, rfl, hb, h⟩ := h.inv
  obtain ⟨_, cs, rfl, hc, h⟩ := h.inv
  obtain ⟨_, cs, rfl, hd, h⟩ := h.inv
  cases h.inv0
  obtain ⟨z0, rfl, _⟩ := h0.int_inv
  obtain ⟨z1, rfl⟩ := h1.bool_inv
  obtain ⟨z2, rfl, _⟩ := h2.int_inv
  obtain ⟨z3, rfl, _⟩ := h3.int_inv
  obtain ⟨z4, rfl, _⟩ := h4.int_inv
  obtain ⟨z5, rfl, _⟩ := h5.int_inv
  obtain ⟨z6, rfl, _⟩ := h6.int_inv
  obtain ⟨z7, rfl, _⟩ := h7.int_inv
  obtain ⟨z8, rfl, _⟩ := h8.int_inv
  obtain ⟨z9, rfl, _⟩ := h9.int_inv
  obtain ⟨za, rfl, _⟩ := ha.int_inv
  obtain ⟨zb, rfl, _⟩ := hb.int_inv
  obtain ⟨zc, rfl, _⟩ := hc.int_inv
  obtain ⟨dt, rfl, hl⟩ := hd.bytes
  exact ⟨⟨z0, z1, z2, z3, z4, z5, z6, z7, z8, z9, za, zb, zc, dt⟩, hr, hl⟩
theorem len_le {α : Type} {l : List α} (h : l.length ≤ maxLen) : (l.length : Int) ≤ 9223372036854775807 := by
  unfold maxLen at h
  omega
theorem FragSplits_walk {r : Reach} {b0 base : Nat} {H : Type} {enc : TypeId × Value → H} {spare : Nat → Bool} {held : Bool} {d : DataW H} {p : List MemPlace} (v : Value) (W : World) (hv : Value.okWide Try.prog W r b0 27 v) (k : DataW.Trod enc Try.prog W base spare held 27 v d p) :
    Calls Try.prog 3 #[v] W fun e W' => e = .returned (.bool true) ∧ Below W.heap.size W W' := by
  obtain ⟨q, hr, hl⟩ := pk_arg hv k
  exact acall_lawF (fragSplits_ok q (len_le hl)) W [_] ⟨.pure _ _ hr, trivial⟩
end Go.Proofs.Ytiejnmbpejfpgaa
