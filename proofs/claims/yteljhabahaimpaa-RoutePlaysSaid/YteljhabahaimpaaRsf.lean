/- RoutePlays: the walk. -/
import Derived.Test.YteljhabahaimpaaRse
namespace Go.Proofs.Yteljhabahaimpaa
open Go.RowKit
set_option linter.unusedVariables false
set_option linter.unusedSimpArgs false
set_option maxRecDepth 100000
set_option maxHeartbeats 4000000
structure Act where
  d : Bool
  r : Rt
def acA (a : Act) : AV := .agg [.bool a.d, .int .u8 a.r.n0, .int .u8 a.r.n1, .int .u8 a.r.n2, .int .u8 a.r.n3, .int .i64 a.r.b, .int .u8 a.r.v0, .int .u8 a.r.v1, .int .u8 a.r.v2, .int .u8 a.r.v3]
theorem acA_at (l : List Act) (i : Nat) (h : i < l.length) {j : Nat} (hj : j = i) : (l.map acA)[j]?.getD .any = .agg [.bool l[i].d, .int .u8 l[i].r.n0, .int .u8 l[i].r.n1, .int .u8 l[i].r.n2, .int .u8 l[i].r.n3, .int .i64 l[i].r.b, .int .u8 l[i].r.v0, .int .u8 l[i].r.v1, .int .u8 l[i].r.v2, .int .u8 l[i].r.v3] := at_map acA l i _ (List.getElem?_eq_getElem h) hj
theorem acts_arg {w : World} {r : Reach} {b0 base : Nat} {H : Type} {enc : TypeId × Value → H} {spare : Nat → Bool} {held : Bool} {v : Value} {d : DataW H} {p : List MemPlace} (hv : Value.okWide Try.prog w r b0 36 v) (k : DataW.Trod enc Try.prog w base spare held 36 v d p) :
    ∃ l : List Act, Rep0 (fun x => x < w.heap.size) w v (.sl false 10 (l.map acA)) ∧ l.length ≤ maxLen ∧ ∀ a ∈ l, a.r.Ok := by
  obtain ⟨av, hr, hf⟩ := arg_sl (n := 5) (ts := [.bool, .int .u8, .int .u8, .int .u8, .int .u8, .int .i64, .int .u8, .int .u8, .int .u8, .int .u8]) Try.underlying36 (by kernel_rfl) hv k
  obtain ⟨l, rfl, hq, hl⟩ := hf.rows (fun x : Act => [.bool x.d, .int .u8 x.r.n0, .int .u8 x.r.n1, .int .u8 x.r.n2, .int .u8 x.r.n3, .int .i64 x.r.b, .int .u8 x.r.v0, .int .u8 x.r.v1, .int .u8 x.r.v2, .int .u8 x.r.v3]) (fun x => x.r.Ok) (by decide) (fun cs h => by
    obtain ⟨_, cs, rfl, hb, h⟩ := h.inv
    obtain ⟨_, cs, rfl, h0, h⟩ := h.inv
    obtain ⟨_, cs, rfl, h1, h⟩ := h.inv
    obtain ⟨_, cs, rfl, h2, h⟩ := h.inv
    obtain ⟨_, cs, rfl, h3, h⟩ := h.inv
    obtain ⟨_, cs, rfl, h4, h⟩ := h.inv
    obtain ⟨_, cs, rfl, h5, h⟩ := h.inv
    obtain ⟨_, cs, rfl, h6, h⟩ := h.inv
    obtain ⟨_, cs, rfl, h7, h⟩ := h.inv
    obtain ⟨_, cs, rfl, h8, h⟩ := h.inv
    cases h.inv0
    obtain ⟨zb, rfl⟩ := hb.bool_inv
    obtain ⟨z0, rfl, w0⟩ := h0.int_inv
    obtain ⟨z1, rfl, w1⟩ := h1.int_inv
    obtain ⟨z2, rfl, w2⟩ := h2.int_inv
    obtain ⟨z3, rfl, w3⟩ := h3.int_inv
    obtain ⟨z4, rfl, w4⟩ := h4.int_inv
    obtain ⟨z5, rfl, w5⟩ := h5.int_inv
    obtain ⟨z6, rfl, w6⟩ := h6.int_inv
    obtain ⟨z7, rfl, w7⟩ := h7.int_inv
    obtain ⟨z8, rfl, w8⟩ := h8.int_inv
    exact ⟨⟨zb, ⟨z0, z1, z2, z3, z4, z5, z6, z7, z8⟩⟩, rfl, bounds_u8 w0, bounds_u8 w1, bounds_u8 w2, bounds_u8 w3, bounds_u8 w5, bounds_u8 w6, bounds_u8 w7, bounds_u8 w8, bounds_i64 w4⟩)
  exact ⟨l, hr, hl, hq⟩
structure PI where
  i : Nat
  l : List Rt
theorem routePlays_ok (l : List Act) (hL : (l.length : Int) ≤ 9223372036854775807) (hok : ∀ a ∈ l, a.r.Ok) : ACall Try.prog 5 [.sl false 10 (l.map acA)] (.bool true) [] := by
  have hl := lives_ok
  have el : (l.map acA).length = l.length := by simp
  by_cases h60 : 60 < l.length
  · refine acall_walk (N := 111) Try.func5 (by kernel_rfl) p_caravellaw14_RoutePlays rfl ?_; unfold c_caravellaw14_RoutePlays; dsimp only [enum, Nat.reduceAdd]
    (repeat (first | ((with_reducible show RG _ _ (_ :: _) _ _ _); refine RG.go1 (k := ?_)) | ((with_reducible show DG _ _ (_ :: _) _ _ _ _ _); refine DG.go1 (k := ?_)) | with_reducible apply RG.nil | with_reducible apply W.seq | with_reducible apply W.reg | with_reducible apply W.skip | with_reducible apply W.block | with_reducible apply W.drw | with_reducible apply DG.nil | (with_reducible refine W.done (QB.n ?_)) | refine W.cndT ?_ | refine W.cndF ?_))
    (first | ((with_reducible show RG _ _ (_ :: _) _ _ _); refine RG.ca (hl) (k := ?_)) | ((with_reducible show DG _ _ (_ :: _) _ _ _ _ _); refine DG.ca (hl) (k := ?_)))
    (repeat (first | ((with_reducible show RG _ _ (_ :: _) _ _ _); refine RG.go1 (k := ?_)) | ((with_reducible show DG _ _ (_ :: _) _ _ _ _ _); refine DG.go1 (k := ?_)) | with_reducible apply RG.nil | with_reducible apply W.seq | with_reducible apply W.reg | with_reducible apply W.skip | with_reducible apply W.block | with_reducible apply W.drw | with_reducible apply DG.nil | (with_reducible refine W.done (QB.n ?_)) | refine W.cndT ?_ | refine W.cndF ?_))
    (first | ((with_reducible show RG _ _ (_ :: _) _ _ _); refine RG.ca (hl) (k := ?_)) | ((with_reducible show DG _ _ (_ :: _) _ _ _ _ _); refine DG.ca (hl) (k := ?_)))
    (repeat (first | ((with_reducible show RG _ _ (_ :: _) _ _ _); refine RG.go1 (k := ?_)) | ((with_reducible show DG _ _ (_ :: _) _ _ _ _ _); refine DG.go1 (k := ?_)) | with_reducible apply RG.nil | with_reducible apply W.seq | with_reducible apply W.reg | with_reducible apply W.skip | with_reducible apply W.block | with_reducible apply W.drw | with_reducible apply DG.nil | (with_reducible refine W.done (QB.n ?_)) | refine W.cndT ?_ | refine W.cndF ?_))
    (refine W.ret ?_; (repeat (with_reducible first | refine QB.r ?_ | refine QL.r ?_ | refine QC.r ?_)); refine QF.r ?_)
    exact RetOk.rs (vs := [_]) r_caravellaw14_RoutePlays []
  refine acall_walk (N := 111) Try.func5 (by kernel_rfl) p_caravellaw14_RoutePlays rfl ?_; unfold c_caravellaw14_RoutePlays; dsimp only [enum, Nat.reduceAdd]
  (repeat (first | ((with_reducible show RG _ _ (_ :: _) _ _ _); refine RG.go1 (k := ?_)) | ((with_reducible show DG _ _ (_ :: _) _ _ _ _ _); refine DG.go1 (k := ?_)) | with_reducible apply RG.nil | with_reducible apply W.seq | with_reducible apply W.reg | with_reducible apply W.skip | with_reducible apply W.block | with_reducible apply W.drw | with_reducible apply DG.nil | (with_reducible refine W.done (QB.n ?_)) | refine W.cndT ?_ | refine W.cndF ?_))
  (first | ((with_reducible show RG _ _ (_ :: _) _ _ _); refine RG.ca (hl) (k := ?_)) | ((with_reducible show DG _ _ (_ :: _) _ _ _ _ _); refine DG.ca (hl) (k := ?_)))
  (repeat (first | ((with_reducible show RG _ _ (_ :: _) _ _ _); refine RG.go1 (k := ?_)) | ((with_reducible show DG _ _ (_ :: _) _ _ _ _ _); refine DG.go1 (k := ?_)) | with_reducible apply RG.nil | with_reducible apply W.seq | with_reducible apply W.reg | with_reducible apply W.skip | with_reducible apply W.block | with_reducible apply W.drw | with_reducible apply DG.nil | (with_reducible refine W.done (QB.n ?_)) | refine W.cndT ?_ | refine W.cndF ?_))
  refine W.loop (ι := {q : PI // q.i ≤ l.length ∧ RI q.l}) (fun q => ⟨[(26, .int .i64 q.1.i), (25, .int .i64 l.length), (24, .sl false 10 (l.map acA)), (3, .sl false 9 (q.1.l.map rt)), (4, .sl false 9 (q.1.l.map rt))], [], [], 0, 0⟩) (fun q => l.length - q.1.i) ⟨⟨0, []⟩, Nat.zero_le _, (fun r h => by cases h), srt_nil, (fun r h => by cases h), by decide⟩ ?_ ?_
  · have q2 : ALe .nil (.sl false 9 []) := ALe.nil _ _
    dsimp only
    rw [el]
    dsimp only [List.map]
    exact Wk.rn ([] ) ( [])
  rintro ⟨⟨i, s⟩, hi, hinv⟩
  dsimp only at hi hinv ⊢
  have hn := hinv.n
  have es := rt_len s
  have ps := rt_pure s
  (repeat (first | ((with_reducible show RG _ _ (_ :: _) _ _ _); refine RG.go1 (k := ?_)) | ((with_reducible show DG _ _ (_ :: _) _ _ _ _ _); refine DG.go1 (k := ?_)) | with_reducible apply RG.nil | with_reducible apply W.seq | with_reducible apply W.reg | with_reducible apply W.skip | with_reducible apply W.block | with_reducible apply W.drw | with_reducible apply DG.nil | (with_reducible refine W.done (QB.n ?_))))
  refine W.cnd (fun h1 => ?_) (fun h1 => ?_)
  · have hlt : i < l.length := by simp at h1; omega
    have hE := acA_at l i hlt (j := ((i : Nat) : Int).toNat) (by simp)
    have hrk := hok _ (List.getElem_mem hlt)
    clear h1
    generalize l[i] = a at hE hrk
    obtain ⟨d, r⟩ := a
    dsimp only at hE hrk
    have cs := same_ok s (by omega)
    cases d
    · have c1 := add_ok s (by omega) hinv.ok hinv.s r hrk
      have c2 := rAdd_ok s (by omega) hinv.ok hinv.s r hrk
      have hinv' := radd_RI hinv hrk
      rw [rtE] at c1 c2
      generalize radd s r = R at c1 c2 hinv'
      obtain ⟨s', e⟩ := R
      dsimp only at c1 c2 hinv'
      have hn' := hinv'.n
      have cs' := same_ok s' (by omega)
      have cr := right_ok s' (by omega) hinv'.ok
      rw [hinv'.right] at cr
      (repeat (first | ((with_reducible show RG _ _ (_ :: _) _ _ _); refine RG.go1 (k := ?_)) | ((with_reducible show DG _ _ (_ :: _) _ _ _ _ _); refine DG.go1 (k := ?_)) | with_reducible apply RG.nil | with_reducible apply W.seq | with_reducible apply W.reg | with_reducible apply W.skip | with_reducible apply W.block | with_reducible apply W.drw | with_reducible apply DG.nil | (with_reducible refine W.done (QB.n ?_)) | refine W.cndT ?_ | refine W.cndF ?_))
      (first | ((with_reducible show RG _ _ (_ :: _) _ _ _); refine RG.ew (cptr_of (hE) (by (conv => lhs; whnf) <;> exact rfl)) (k := ?_)) | ((with_reducible show DG _ _ (_ :: _) _ _ _ _ _); refine DG.ew (cptr_of (hE) (by (conv => lhs; whnf) <;> exact rfl)) (k := ?_)))
      (repeat (first | ((with_reducible show RG _ _ (_ :: _) _ _ _); refine RG.go1 (k := ?_)) | ((with_reducible show DG _ _ (_ :: _) _ _ _ _ _); refine DG.go1 (k := ?_)) | with_reducible apply RG.nil | with_reducible apply W.seq | with_reducible apply W.reg | with_reducible apply W.skip | with_reducible apply W.block | with_reducible apply W.drw | with_reducible apply DG.nil | (with_reducible refine W.done (QB.n ?_)) | refine W.cndT ?_ | refine W.cndF ?_))
      (first | ((with_reducible show RG _ _ (_ :: _) _ _ _); refine RG.ca (c1) (k := ?_)) | ((with_reducible show DG _ _ (_ :: _) _ _ _ _ _); refine DG.ca (c1) (k := ?_)))
      (repeat (first | ((with_reducible show RG _ _ (_ :: _) _ _ _); refine RG.go1 (k := ?_)) | ((with_reducible show DG _ _ (_ :: _) _ _ _ _ _); refine DG.go1 (k := ?_)) | with_reducible apply RG.nil | with_reducible apply W.seq | with_reducible apply W.reg | with_reducible apply W.skip | with_reducible apply W.block | with_reducible apply W.drw | with_reducible apply DG.nil | (with_reducible refine W.done (QB.n ?_)) | refine W.cndT ?_ | refine W.cndF ?_))
      (first | ((with_reducible show RG _ _ (_ :: _) _ _ _); refine RG.ca (c2) (k := ?_)) | ((with_reducible show DG _ _ (_ :: _) _ _ _ _ _); refine DG.ca (c2) (k := ?_)))
      (repeat (first | ((with_reducible show RG _ _ (_ :: _) _ _ _); refine RG.go1 (k := ?_)) | ((with_reducible show DG _ _ (_ :: _) _ _ _ _ _); refine DG.go1 (k := ?_)) | with_reducible apply RG.nil | with_reducible apply W.seq | with_reducible apply W.reg | with_reducible apply W.skip | with_reducible apply W.block | with_reducible apply W.drw | with_reducible apply DG.nil | (with_reducible refine W.done (QB.n ?_)) | refine W.cndT ?_ | refine W.cndF ?_))
      (first | ((with_reducible show RG _ _ (_ :: _) _ _ _); refine RG.gca (fun _ => cs') (k := ?_)) | ((with_reducible show DG _ _ (_ :: _) _ _ _ _ _); refine DG.gca (fun _ => cs') (k := ?_)))
      (repeat (first | ((with_reducible show RG _ _ (_ :: _) _ _ _); refine RG.go1 (k := ?_)) | ((with_reducible show DG _ _ (_ :: _) _ _ _ _ _); refine DG.go1 (k := ?_)) | with_reducible apply RG.nil | with_reducible apply W.seq | with_reducible apply W.reg | with_reducible apply W.skip | with_reducible apply W.block | with_reducible apply W.drw | with_reducible apply DG.nil | (with_reducible refine W.done (QB.n ?_)) | refine W.cndT ?_ | refine W.cndF ?_))
      (first | ((with_reducible show RG _ _ (_ :: _) _ _ _); refine RG.gca (fun _ => cs) (k := ?_)) | ((with_reducible show DG _ _ (_ :: _) _ _ _ _ _); refine DG.gca (fun _ => cs) (k := ?_)))
      (repeat (first | ((with_reducible show RG _ _ (_ :: _) _ _ _); refine RG.go1 (k := ?_)) | ((with_reducible show DG _ _ (_ :: _) _ _ _ _ _); refine DG.go1 (k := ?_)) | with_reducible apply RG.nil | with_reducible apply W.seq | with_reducible apply W.reg | with_reducible apply W.skip | with_reducible apply W.block | with_reducible apply W.drw | with_reducible apply DG.nil | (with_reducible refine W.done (QB.n ?_)) | refine W.cndT ?_ | refine W.cndF ?_))
      (first | ((with_reducible show RG _ _ (_ :: _) _ _ _); refine RG.gca (fun _ => cr) (k := ?_)) | ((with_reducible show DG _ _ (_ :: _) _ _ _ _ _); refine DG.gca (fun _ => cr) (k := ?_)))
      (repeat (first | ((with_reducible show RG _ _ (_ :: _) _ _ _); refine RG.go1 (k := ?_)) | ((with_reducible show DG _ _ (_ :: _) _ _ _ _ _); refine DG.go1 (k := ?_)) | with_reducible apply RG.nil | with_reducible apply W.seq | with_reducible apply W.reg | with_reducible apply W.skip | with_reducible apply W.block | with_reducible apply W.drw | with_reducible apply DG.nil | (with_reducible refine W.done (QB.n ?_)) | refine W.cndT ?_ | refine W.cndF ?_))
      refine W.done (QL.n (⟨⟨i + 1, s'⟩, by dsimp only; omega, hinv'⟩) ?_ ?_)
      · exact Wk.rn ([] ) ( [])
      · dsimp only; omega
    · have c1 := del_ok s (by omega) ⟨r.n0, r.n1, r.n2, r.n3, r.b⟩
      have c2 := rDel_ok s (by omega) ⟨r.n0, r.n1, r.n2, r.n3, r.b⟩ (dl_uniq hinv _)
      have hinv' := pdel_RI hinv ⟨r.n0, r.n1, r.n2, r.n3, r.b⟩
      generalize pdel s ⟨r.n0, r.n1, r.n2, r.n3, r.b⟩ = R at c1 c2 hinv'
      obtain ⟨s', e⟩ := R
      dsimp only at c1 c2 hinv'
      have hn' := hinv'.n
      have cs' := same_ok s' (by omega)
      (repeat (first | ((with_reducible show RG _ _ (_ :: _) _ _ _); refine RG.go1 (k := ?_)) | ((with_reducible show DG _ _ (_ :: _) _ _ _ _ _); refine DG.go1 (k := ?_)) | with_reducible apply RG.nil | with_reducible apply W.seq | with_reducible apply W.reg | with_reducible apply W.skip | with_reducible apply W.block | with_reducible apply W.drw | with_reducible apply DG.nil | (with_reducible refine W.done (QB.n ?_)) | refine W.cndT ?_ | refine W.cndF ?_))
      (first | ((with_reducible show RG _ _ (_ :: _) _ _ _); refine RG.ew (cptr_of (hE) (by (conv => lhs; whnf) <;> exact rfl)) (k := ?_)) | ((with_reducible show DG _ _ (_ :: _) _ _ _ _ _); refine DG.ew (cptr_of (hE) (by (conv => lhs; whnf) <;> exact rfl)) (k := ?_)))
      (repeat (first | ((with_reducible show RG _ _ (_ :: _) _ _ _); refine RG.go1 (k := ?_)) | ((with_reducible show DG _ _ (_ :: _) _ _ _ _ _); refine DG.go1 (k := ?_)) | with_reducible apply RG.nil | with_reducible apply W.seq | with_reducible apply W.reg | with_reducible apply W.skip | with_reducible apply W.block | with_reducible apply W.drw | with_reducible apply DG.nil | (with_reducible refine W.done (QB.n ?_)) | refine W.cndT ?_ | refine W.cndF ?_))
      (first | ((with_reducible show RG _ _ (_ :: _) _ _ _); refine RG.ca (c1) (k := ?_)) | ((with_reducible show DG _ _ (_ :: _) _ _ _ _ _); refine DG.ca (c1) (k := ?_)))
      (repeat (first | ((with_reducible show RG _ _ (_ :: _) _ _ _); refine RG.go1 (k := ?_)) | ((with_reducible show DG _ _ (_ :: _) _ _ _ _ _); refine DG.go1 (k := ?_)) | with_reducible apply RG.nil | with_reducible apply W.seq | with_reducible apply W.reg | with_reducible apply W.skip | with_reducible apply W.block | with_reducible apply W.drw | with_reducible apply DG.nil | (with_reducible refine W.done (QB.n ?_)) | refine W.cndT ?_ | refine W.cndF ?_))
      (first | ((with_reducible show RG _ _ (_ :: _) _ _ _); refine RG.ca (c2) (k := ?_)) | ((with_reducible show DG _ _ (_ :: _) _ _ _ _ _); refine DG.ca (c2) (k := ?_)))
      (repeat (first | ((with_reducible show RG _ _ (_ :: _) _ _ _); refine RG.go1 (k := ?_)) | ((with_reducible show DG _ _ (_ :: _) _ _ _ _ _); refine DG.go1 (k := ?_)) | with_reducible apply RG.nil | with_reducible apply W.seq | with_reducible apply W.reg | with_reducible apply W.skip | with_reducible apply W.block | with_reducible apply W.drw | with_reducible apply DG.nil | (with_reducible refine W.done (QB.n ?_)) | refine W.cndT ?_ | refine W.cndF ?_))
      (first | ((with_reducible show RG _ _ (_ :: _) _ _ _); refine RG.gca (fun _ => cs') (k := ?_)) | ((with_reducible show DG _ _ (_ :: _) _ _ _ _ _); refine DG.gca (fun _ => cs') (k := ?_)))
      (repeat (first | ((with_reducible show RG _ _ (_ :: _) _ _ _); refine RG.go1 (k := ?_)) | ((with_reducible show DG _ _ (_ :: _) _ _ _ _ _); refine DG.go1 (k := ?_)) | with_reducible apply RG.nil | with_reducible apply W.seq | with_reducible apply W.reg | with_reducible apply W.skip | with_reducible apply W.block | with_reducible apply W.drw | with_reducible apply DG.nil | (with_reducible refine W.done (QB.n ?_)) | refine W.cndT ?_ | refine W.cndF ?_))
      (first | ((with_reducible show RG _ _ (_ :: _) _ _ _); refine RG.gca (fun _ => cs) (k := ?_)) | ((with_reducible show DG _ _ (_ :: _) _ _ _ _ _); refine DG.gca (fun _ => cs) (k := ?_)))
      (repeat (first | ((with_reducible show RG _ _ (_ :: _) _ _ _); refine RG.go1 (k := ?_)) | ((with_reducible show DG _ _ (_ :: _) _ _ _ _ _); refine DG.go1 (k := ?_)) | with_reducible apply RG.nil | with_reducible apply W.seq | with_reducible apply W.reg | with_reducible apply W.skip | with_reducible apply W.block | with_reducible apply W.drw | with_reducible apply DG.nil | (with_reducible refine W.done (QB.n ?_)) | refine W.cndT ?_ | refine W.cndF ?_))
      (refine W.exit ?_; (repeat (first | (with_reducible first | refine QL.x ?_ | refine QC.x ?_ | refine QB.x ?_) | (with_reducible refine QB.o (by decide) ?_))))
      (repeat (first | ((with_reducible show RG _ _ (_ :: _) _ _ _); refine RG.go1 (k := ?_)) | ((with_reducible show DG _ _ (_ :: _) _ _ _ _ _); refine DG.go1 (k := ?_)) | with_reducible apply RG.nil | with_reducible apply W.seq | with_reducible apply W.reg | with_reducible apply W.skip | with_reducible apply W.block | with_reducible apply W.drw | with_reducible apply DG.nil | (with_reducible refine W.done (QB.n ?_)) | refine W.cndT ?_ | refine W.cndF ?_))
      refine W.done (QL.n (⟨⟨i + 1, s'⟩, by dsimp only; omega, hinv'⟩) ?_ ?_)
      · exact Wk.rn ([] ) ( [])
      · dsimp only; omega
  clear h1
  (refine W.exit ?_; (repeat (first | (with_reducible first | refine QL.x ?_ | refine QC.x ?_ | refine QB.x ?_) | (with_reducible refine QB.o (by decide) ?_))))
  (repeat (first | ((with_reducible show RG _ _ (_ :: _) _ _ _); refine RG.go1 (k := ?_)) | ((with_reducible show DG _ _ (_ :: _) _ _ _ _ _); refine DG.go1 (k := ?_)) | with_reducible apply RG.nil | with_reducible apply W.seq | with_reducible apply W.reg | with_reducible apply W.skip | with_reducible apply W.block | with_reducible apply W.drw | with_reducible apply DG.nil | (with_reducible refine W.done (QB.n ?_)) | refine W.cndT ?_ | refine W.cndF ?_))
  (refine W.ret ?_; (repeat (with_reducible first | refine QB.r ?_ | refine QL.r ?_ | refine QC.r ?_)); refine QF.r ?_)
  exact RetOk.rs (vs := [_]) r_caravellaw14_RoutePlays []
theorem RoutePlays_walk {r : Reach} {b0 base : Nat} {H : Type} {enc : TypeId × Value → H} {spare : Nat → Bool} {held : Bool} {d : DataW H} {p : List MemPlace} (v : Value) (W : World) (hv : Value.okWide Try.prog W r b0 36 v) (k : DataW.Trod enc Try.prog W base spare held 36 v d p) :
    Calls Try.prog 5 #[v] W fun e W' => e = .returned (.bool true) ∧ Below W.heap.size W W' := by
  obtain ⟨l, hr, hl, hq⟩ := acts_arg hv k
  exact acall_lawF (routePlays_ok l (len_le hl) hq) W [_] ⟨.pure _ _ hr, trivial⟩
end Go.Proofs.Yteljhabahaimpaa
