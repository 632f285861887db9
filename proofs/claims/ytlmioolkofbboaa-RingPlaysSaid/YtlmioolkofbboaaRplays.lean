/- RingPlays: the walk. -/
import Derived.Test.YtlmioolkofbboaaRstep2
import Derived.Test.YtlmioolkofbboaaRingOrder
namespace Go.Proofs.Ytlmioolkofbboaa
open Go.RowKit
set_option linter.unusedVariables false
set_option linter.unusedSimpArgs false
set_option maxRecDepth 100000
set_option maxHeartbeats 4000000
theorem step_ok {x : Rg} {n : Nat} {c : Int} {L : List (List UInt8)} {b e f : Nat} (h : Log x n c L b e f) (hL : L.length ≤ 150) (z : Int) (g : List UInt8) (hg : g.length ≤ 300) :
    ∃ (x' : Rg) (L' : List (List UInt8)) (b' e' f' : Nat), Log x' n c L' b' e' f' ∧ L'.length ≤ L.length + 1 ∧ ACall Try.prog 15 [x.fr, refOf n c L b e f, .agg [.int .i64 z, .sl true 1 (g.map by8)]] (.tup [x'.fr, refOf n c L' b' e' f', .bool true]) [] := by
  have h7 : (z % 18446744073709551616 % 6 = 0 ∨ z % 18446744073709551616 % 6 = 1) ∨ z % 18446744073709551616 % 6 = 2 ∨ z % 18446744073709551616 % 6 = 3 ∨ z % 18446744073709551616 % 6 = 4 ∨ z % 18446744073709551616 % 6 = 5 := by omega
  have k1 := h.l1; have k2 := h.l2; have k3 := h.l3; have k4 := h.l4
  rcases h7 with h7 | h7 | h7 | h7 | h7
  · have cp := ringPost_ok x h.ok g (by omega)
    by_cases q1 : 214 < g.length
    · rw [Log.post_long q1] at cp
      exact ⟨x, L, b, e, f, h, by omega, walk_post x x n _ _ _ _ n _ _ _ _ z g hg 4 h7 cp (refPost_long n (L.drop b) ((L.take b).drop e) ((L.take e).drop f) ((c + L.length) % 65536) g q1 (by omega))⟩
    · by_cases q2 : L.length < f + n
      · obtain ⟨e0, h'⟩ := h.post_ok (g := g) (by omega) q2
        rw [e0] at cp
        exact ⟨_, L ++ [g], b, e, f, h', by simp, walk_post x _ n _ _ _ _ n _ _ _ _ z g hg 0 h7 cp (refPost_log h hL g (by omega) q2)⟩
      · rw [h.post_full (g := g) (by omega) (by omega)] at cp
        exact ⟨x, L, b, e, f, h, by omega, walk_post x x n _ _ _ _ n _ _ _ _ z g hg 5 h7 cp (refPost_no h hL g (by omega) (by omega))⟩
  · have ct := ringTake_ok x h.ok
    by_cases q : b < L.length
    · obtain ⟨e0, h'⟩ := h.take_some q
      rw [e0] at ct
      exact ⟨_, L, b + 1, e, f, h', by omega, walk_take x _ n _ _ _ _ n _ _ _ _ z g 0 h7 (L.getD b []) (log_bytes h b (by omega) q) ct (refTake_log h hL q)⟩
    · rw [h.take_none (by omega)] at ct
      exact ⟨x, L, b, e, f, h, by omega, walk_take x x n _ _ _ _ n _ _ _ _ z g 2 h7 [] (by simp) ct (refTake_no (by omega))⟩
  · have ct := ringFinish_ok x h.ok
    by_cases q : e < b
    · obtain ⟨e0, h'⟩ := h.finish_some q
      rw [e0] at ct
      exact ⟨_, L, b, e + 1, f, h', by omega, walk_finish x _ n _ _ _ _ n _ _ _ _ z g 0 h7 ct (refFinish_log h hL q)⟩
    · rw [h.finish_none (by omega)] at ct
      exact ⟨x, L, b, e, f, h, by omega, walk_finish x x n _ _ _ _ n _ _ _ _ z g 2 h7 ct (refFinish_no (by omega))⟩
  · have ct := ringReap_ok x h.ok
    by_cases q : f < e
    · obtain ⟨e0, h'⟩ := h.reap_some q
      rw [e0] at ct
      exact ⟨_, L, b, e, f + 1, h', by omega, walk_reap x _ n _ _ _ _ n _ _ _ _ z g 0 h7 (L.getD f []) (log_bytes h f (Nat.le_refl _) (by omega)) ct (refReap_log h hL q)⟩
    · rw [h.reap_none (by omega)] at ct
      exact ⟨x, L, b, e, f, h, by omega, walk_reap x x n _ _ _ _ n _ _ _ _ z g 2 h7 [] (by simp) ct (refReap_no (by omega))⟩
  · have ct := ringQuiet_ok h
    refine ⟨Rg.at n x.p, L, L.length, L.length, L.length, log_quiet h, by omega, walk_quiet x (Rg.at n x.p) n _ _ _ _ n _ _ _ _ z g h7 (L.drop b) (by simp; omega) (fun j hj => ?_) ct refQuiet_log⟩
    have hj2 : b + j < L.length := by simp at hj; omega
    have := log_bytes h (b + j) (by omega) hj2
    rw [getD_lt _ _ hj2] at this
    rw [getD_lt _ _ hj]; simpa using this
theorem right_ok {x : Rg} {n : Nat} {c : Int} {L : List (List UInt8)} {b e f : Nat} (h : Log x n c L b e f) : ACall Try.prog 17 [x.av] (.bool true) [] := by
  have k1 := h.l1; have k2 := h.l2; have k3 := h.l3; have k4 := h.l4; have hn := h.n1
  have hp := h.p; have ht := h.t; have hd := h.d; have hr := h.r
  refine ringRight_ok x h.ok (by rw [h.sl]; exact h.nd) ?_ ?_
  · rw [h.sl]; omega
  · omega
theorem ringPlays_ok (a c : Int) (hc : 0 ≤ c ∧ c < 65536) (l : List (Int × List UInt8)) (hL : (l.length : Int) ≤ 9223372036854775807) : ACall Try.prog 5 [.int .i64 a, .int .u16 c, .sl false 2 (l.map opA)] (.bool true) [] := by
  have hl := lives_ok
  obtain ⟨hn, hd⟩ := places_ok (a % 18446744073709551616) (by omega)
  have hsh := shl_places' (a % 18446744073709551616)
  generalize (2 : Nat) ^ (a % 18446744073709551616 % 5).toNat = n at hn hd hsh
  have hat := lawAt_ok n c hn hd hc
  have hlog := log_at hn hd hc
  have cf := fits_ok l hL
  have el : (l.map opA).length = l.length := by simp
  refine acall_walk (N := 80) Try.func5 (by kernel_rfl) p_caravellaw11_RingPlays rfl ?_; unfold c_caravellaw11_RingPlays; dsimp only [enum, Nat.reduceAdd]
  (repeat (first | ((with_reducible show RG _ _ (_ :: _) _ _ _); refine RG.go1 (k := ?_)) | ((with_reducible show DG _ _ (_ :: _) _ _ _ _ _); refine DG.go1 (k := ?_)) | with_reducible apply RG.nil | with_reducible apply W.seq | with_reducible apply W.reg | with_reducible apply W.skip | with_reducible apply W.block | with_reducible apply W.drw | with_reducible apply DG.nil | (with_reducible refine W.done (QB.n ?_))))
  (first | ((with_reducible show RG _ _ (_ :: _) _ _ _); refine RG.ca (hl) (k := ?_)) | ((with_reducible show DG _ _ (_ :: _) _ _ _ _ _); refine DG.ca (hl) (k := ?_)))
  (repeat (first | ((with_reducible show RG _ _ (_ :: _) _ _ _); refine RG.go1 (k := ?_)) | ((with_reducible show DG _ _ (_ :: _) _ _ _ _ _); refine DG.go1 (k := ?_)) | with_reducible apply RG.nil | with_reducible apply W.seq | with_reducible apply W.reg | with_reducible apply W.skip | with_reducible apply W.block | with_reducible apply W.drw | with_reducible apply DG.nil | (with_reducible refine W.done (QB.n ?_))))
  (first | ((with_reducible show RG _ _ (_ :: _) _ _ _); refine RG.gca (fun _ => cf) (k := ?_)) | ((with_reducible show DG _ _ (_ :: _) _ _ _ _ _); refine DG.gca (fun _ => cf) (k := ?_)))
  (repeat (first | ((with_reducible show RG _ _ (_ :: _) _ _ _); refine RG.go1 (k := ?_)) | ((with_reducible show DG _ _ (_ :: _) _ _ _ _ _); refine DG.go1 (k := ?_)) | with_reducible apply RG.nil | with_reducible apply W.seq | with_reducible apply W.reg | with_reducible apply W.skip | with_reducible apply W.block | with_reducible apply W.drw | with_reducible apply DG.nil | (with_reducible refine W.done (QB.n ?_))))
  refine W.cnd (fun h1 => ?_) (fun h1 => ?_)
  · (repeat (first | ((with_reducible show RG _ _ (_ :: _) _ _ _); refine RG.go1 (k := ?_)) | ((with_reducible show DG _ _ (_ :: _) _ _ _ _ _); refine DG.go1 (k := ?_)) | with_reducible apply RG.nil | with_reducible apply W.seq | with_reducible apply W.reg | with_reducible apply W.skip | with_reducible apply W.block | with_reducible apply W.drw | with_reducible apply DG.nil | (with_reducible refine W.done (QB.n ?_))))
    (first | ((with_reducible show RG _ _ (_ :: _) _ _ _); refine RG.ca (hl) (k := ?_)) | ((with_reducible show DG _ _ (_ :: _) _ _ _ _ _); refine DG.ca (hl) (k := ?_)))
    (repeat (first | ((with_reducible show RG _ _ (_ :: _) _ _ _); refine RG.go1 (k := ?_)) | ((with_reducible show DG _ _ (_ :: _) _ _ _ _ _); refine DG.go1 (k := ?_)) | with_reducible apply RG.nil | with_reducible apply W.seq | with_reducible apply W.reg | with_reducible apply W.skip | with_reducible apply W.block | with_reducible apply W.drw | with_reducible apply DG.nil | (with_reducible refine W.done (QB.n ?_))))
    (refine W.ret ?_; (repeat (with_reducible first | refine QB.r ?_ | refine QL.r ?_ | refine QC.r ?_)); refine QF.r ?_)
    exact RetOk.rs (vs := [_]) r_caravellaw11_RingPlays []
  have hfit : fitsB l = true := by simpa using h1
  obtain ⟨hf1, hf2⟩ := fitsB_inv hfit
  (repeat (first | ((with_reducible show RG _ _ (_ :: _) _ _ _); refine RG.go1 (k := ?_)) | ((with_reducible show DG _ _ (_ :: _) _ _ _ _ _); refine DG.go1 (k := ?_)) | with_reducible apply RG.nil | with_reducible apply W.seq | with_reducible apply W.reg | with_reducible apply W.skip | with_reducible apply W.block | with_reducible apply W.drw | with_reducible apply DG.nil | (with_reducible refine W.done (QB.n ?_))))
  rw [hsh]
  (first | ((with_reducible show RG _ _ (_ :: _) _ _ _); refine RG.ca (hat) (k := ?_)) | ((with_reducible show DG _ _ (_ :: _) _ _ _ _ _); refine DG.ca (hat) (k := ?_)))
  (repeat (first | ((with_reducible show RG _ _ (_ :: _) _ _ _); refine RG.go1 (k := ?_)) | ((with_reducible show DG _ _ (_ :: _) _ _ _ _ _); refine DG.go1 (k := ?_)) | with_reducible apply RG.nil | with_reducible apply W.seq | with_reducible apply W.reg | with_reducible apply W.skip | with_reducible apply W.block | with_reducible apply W.drw | with_reducible apply DG.nil | (with_reducible refine W.done (QB.n ?_))))
  refine W.loop (ι := {q : OrdSt // q.i ≤ l.length ∧ Log q.x n c q.L q.b q.e q.f ∧ q.L.length ≤ q.i}) (fun q => ⟨[(35, .int .i64 q.1.i), (34, .int .i64 l.length), (33, .sl false 2 (l.map opA)), (8, .bptr 0 0), (9, .bptr 1 0)], [some [.sl false 1 (q.1.x.s.map bs), .int .u16 q.1.x.p, .int .u16 q.1.x.t, .int .u16 q.1.x.d, .int .u16 q.1.x.r], some [.int .i64 n, .sl false 1 ((q.1.L.drop q.1.b).map .str), .sl false 1 (((q.1.L.take q.1.b).drop q.1.e).map .str), .sl false 1 (((q.1.L.take q.1.e).drop q.1.f).map .str), .int .i64 ((c + q.1.L.length) % 65536)]], [], 2, 0⟩) (fun q => l.length - q.1.i) ⟨⟨0, 0, 0, 0, 0, Rg.at n c, []⟩, Nat.zero_le _, hlog, Nat.le_refl _⟩ ?_ ?_
  · have e0 : (c + (([] : List (List UInt8)).length : Nat)) % 65536 = c := by simp; omega
    dsimp only
    rw [e0]
    exact Wk.rn ([0, 1] ) ( [])
  rintro ⟨⟨i, p, b, e, f, x, L⟩, hi, hx, hLi⟩
  dsimp only at hi hx hLi ⊢
  (repeat (first | ((with_reducible show RG _ _ (_ :: _) _ _ _); refine RG.go1 (k := ?_)) | ((with_reducible show DG _ _ (_ :: _) _ _ _ _ _); refine DG.go1 (k := ?_)) | with_reducible apply RG.nil | with_reducible apply W.seq | with_reducible apply W.reg | with_reducible apply W.skip | with_reducible apply W.block | with_reducible apply W.drw | with_reducible apply DG.nil | (with_reducible refine W.done (QB.n ?_))))
  refine W.cnd (fun h1 => ?_) (fun h1 => ?_)
  · have hlt : i < l.length := by simpa using h1
    have hE := opA_at l i hlt
    have hfr := hf1 _ (List.getElem_mem hlt)
    generalize l[i] = o at hE hfr
    obtain ⟨z, g⟩ := o
    dsimp only at hE hfr
    obtain ⟨x', L', b', e', f', hx', hl', cs⟩ := step_ok hx (by omega) z g hfr
    have cl1 := like_ok hx
    have cl2 := like_ok hx'
    have cr := right_ok hx'
    have cn1 := ringLen_ok x' hx'.ok
    obtain ⟨r1, r2, r3, r4, r5⟩ := refs_len hx' (by omega)
    have cn2 := refLen_ok n (L'.drop b') ((L'.take b').drop e') ((L'.take e').drop f') ((c + L'.length) % 65536) r1 r2 r3
    rw [hx'.len] at cn1
    rw [r4] at cn2
    have hi' : L'.length ≤ i + 1 := by omega
    dsimp only [Rg.av, Rg.fr, refOf, rR, ss] at cs cl1 cl2 cr cn1 cn2
    clear r1 r2 r3 r4 r5 hlog hat hl cf
    (repeat (first | ((with_reducible show RG _ _ (_ :: _) _ _ _); refine RG.go1 (k := ?_)) | ((with_reducible show DG _ _ (_ :: _) _ _ _ _ _); refine DG.go1 (k := ?_)) | with_reducible apply RG.nil | with_reducible apply W.seq | with_reducible apply W.reg | with_reducible apply W.skip | with_reducible apply W.block | with_reducible apply W.drw | with_reducible apply DG.nil | (with_reducible refine W.done (QB.n ?_))))
    (first | ((with_reducible show RG _ _ (_ :: _) _ _ _); refine RG.ew (cptr_of (hE) (by (conv => lhs; whnf) <;> exact rfl)) (k := ?_)) | ((with_reducible show DG _ _ (_ :: _) _ _ _ _ _); refine DG.ew (cptr_of (hE) (by (conv => lhs; whnf) <;> exact rfl)) (k := ?_)))
    (repeat (first | ((with_reducible show RG _ _ (_ :: _) _ _ _); refine RG.go1 (k := ?_)) | ((with_reducible show DG _ _ (_ :: _) _ _ _ _ _); refine DG.go1 (k := ?_)) | with_reducible apply RG.nil | with_reducible apply W.seq | with_reducible apply W.reg | with_reducible apply W.skip | with_reducible apply W.block | with_reducible apply W.drw | with_reducible apply DG.nil | (with_reducible refine W.done (QB.n ?_))))
    (first | ((with_reducible show RG _ _ (_ :: _) _ _ _); refine RG.ca (cs) (k := ?_)) | ((with_reducible show DG _ _ (_ :: _) _ _ _ _ _); refine DG.ca (cs) (k := ?_)))
    (repeat (first | ((with_reducible show RG _ _ (_ :: _) _ _ _); refine RG.go1 (k := ?_)) | ((with_reducible show DG _ _ (_ :: _) _ _ _ _ _); refine DG.go1 (k := ?_)) | with_reducible apply RG.nil | with_reducible apply W.seq | with_reducible apply W.reg | with_reducible apply W.skip | with_reducible apply W.block | with_reducible apply W.drw | with_reducible apply DG.nil | (with_reducible refine W.done (QB.n ?_))))
    (first | ((with_reducible show RG _ _ (_ :: _) _ _ _); refine RG.gca (fun _ => cl1) (k := ?_)) | ((with_reducible show DG _ _ (_ :: _) _ _ _ _ _); refine DG.gca (fun _ => cl1) (k := ?_)))
    (repeat (first | ((with_reducible show RG _ _ (_ :: _) _ _ _); refine RG.go1 (k := ?_)) | ((with_reducible show DG _ _ (_ :: _) _ _ _ _ _); refine DG.go1 (k := ?_)) | with_reducible apply RG.nil | with_reducible apply W.seq | with_reducible apply W.reg | with_reducible apply W.skip | with_reducible apply W.block | with_reducible apply W.drw | with_reducible apply DG.nil | (with_reducible refine W.done (QB.n ?_))))
    (first | ((with_reducible show RG _ _ (_ :: _) _ _ _); refine RG.gca (fun _ => cl2) (k := ?_)) | ((with_reducible show DG _ _ (_ :: _) _ _ _ _ _); refine DG.gca (fun _ => cl2) (k := ?_)))
    (repeat (first | ((with_reducible show RG _ _ (_ :: _) _ _ _); refine RG.go1 (k := ?_)) | ((with_reducible show DG _ _ (_ :: _) _ _ _ _ _); refine DG.go1 (k := ?_)) | with_reducible apply RG.nil | with_reducible apply W.seq | with_reducible apply W.reg | with_reducible apply W.skip | with_reducible apply W.block | with_reducible apply W.drw | with_reducible apply DG.nil | (with_reducible refine W.done (QB.n ?_))))
    (first | ((with_reducible show RG _ _ (_ :: _) _ _ _); refine RG.gca (fun _ => cr) (k := ?_)) | ((with_reducible show DG _ _ (_ :: _) _ _ _ _ _); refine DG.gca (fun _ => cr) (k := ?_)))
    (repeat (first | ((with_reducible show RG _ _ (_ :: _) _ _ _); refine RG.go1 (k := ?_)) | ((with_reducible show DG _ _ (_ :: _) _ _ _ _ _); refine DG.go1 (k := ?_)) | with_reducible apply RG.nil | with_reducible apply W.seq | with_reducible apply W.reg | with_reducible apply W.skip | with_reducible apply W.block | with_reducible apply W.drw | with_reducible apply DG.nil | (with_reducible refine W.done (QB.n ?_))))
    (first | ((with_reducible show RG _ _ (_ :: _) _ _ _); refine RG.gca (fun _ => cn1) (k := ?_)) | ((with_reducible show DG _ _ (_ :: _) _ _ _ _ _); refine DG.gca (fun _ => cn1) (k := ?_)))
    (repeat (first | ((with_reducible show RG _ _ (_ :: _) _ _ _); refine RG.go1 (k := ?_)) | ((with_reducible show DG _ _ (_ :: _) _ _ _ _ _); refine DG.go1 (k := ?_)) | with_reducible apply RG.nil | with_reducible apply W.seq | with_reducible apply W.reg | with_reducible apply W.skip | with_reducible apply W.block | with_reducible apply W.drw | with_reducible apply DG.nil | (with_reducible refine W.done (QB.n ?_))))
    (first | ((with_reducible show RG _ _ (_ :: _) _ _ _); refine RG.gca (fun _ => cn2) (k := ?_)) | ((with_reducible show DG _ _ (_ :: _) _ _ _ _ _); refine DG.gca (fun _ => cn2) (k := ?_)))
    (repeat (first | ((with_reducible show RG _ _ (_ :: _) _ _ _); refine RG.go1 (k := ?_)) | ((with_reducible show DG _ _ (_ :: _) _ _ _ _ _); refine DG.go1 (k := ?_)) | with_reducible apply RG.nil | with_reducible apply W.seq | with_reducible apply W.reg | with_reducible apply W.skip | with_reducible apply W.block | with_reducible apply W.drw | with_reducible apply DG.nil | (with_reducible refine W.done (QB.n ?_))))
    refine W.cndF ?_
    (repeat (first | ((with_reducible show RG _ _ (_ :: _) _ _ _); refine RG.go1 (k := ?_)) | ((with_reducible show DG _ _ (_ :: _) _ _ _ _ _); refine DG.go1 (k := ?_)) | with_reducible apply RG.nil | with_reducible apply W.seq | with_reducible apply W.reg | with_reducible apply W.skip | with_reducible apply W.block | with_reducible apply W.drw | with_reducible apply DG.nil | (with_reducible refine W.done (QB.n ?_))))
    refine W.done (QL.n (⟨⟨i + 1, 0, b', e', f', x', L'⟩, by dsimp only; omega, hx', hi'⟩) ?_ ?_)
    · exact Wk.rn ([0, 1] ) ( [])
    · dsimp only; omega
  have cl := like_ok hx
  have cc := ringClone_ok x (by have := hx.ok.n; omega) hx.ok.b
  dsimp only [Rg.av, Rg.fr, refOf, rR, ss] at cl cc
  have esl : (x.s.map bs).length = x.s.length := by simp
  (refine W.exit ?_; (repeat (first | (with_reducible first | refine QL.x ?_ | refine QC.x ?_ | refine QB.x ?_) | (with_reducible refine QB.o (by decide) ?_))))
  (repeat (first | ((with_reducible show RG _ _ (_ :: _) _ _ _); refine RG.go1 (k := ?_)) | ((with_reducible show DG _ _ (_ :: _) _ _ _ _ _); refine DG.go1 (k := ?_)) | with_reducible apply RG.nil | with_reducible apply W.seq | with_reducible apply W.reg | with_reducible apply W.skip | with_reducible apply W.block | with_reducible apply W.drw | with_reducible apply DG.nil | (with_reducible refine W.done (QB.n ?_))))
  (first | ((with_reducible show RG _ _ (_ :: _) _ _ _); refine RG.ca (cc) (k := ?_)) | ((with_reducible show DG _ _ (_ :: _) _ _ _ _ _); refine DG.ca (cc) (k := ?_)))
  (repeat (first | ((with_reducible show RG _ _ (_ :: _) _ _ _); refine RG.go1 (k := ?_)) | ((with_reducible show DG _ _ (_ :: _) _ _ _ _ _); refine DG.go1 (k := ?_)) | with_reducible apply RG.nil | with_reducible apply W.seq | with_reducible apply W.reg | with_reducible apply W.skip | with_reducible apply W.block | with_reducible apply W.drw | with_reducible apply DG.nil | (with_reducible refine W.done (QB.n ?_))))
  (first | ((with_reducible show RG _ _ (_ :: _) _ _ _); refine RG.ca (cl) (k := ?_)) | ((with_reducible show DG _ _ (_ :: _) _ _ _ _ _); refine DG.ca (cl) (k := ?_)))
  (repeat (first | ((with_reducible show RG _ _ (_ :: _) _ _ _); refine RG.go1 (k := ?_)) | ((with_reducible show DG _ _ (_ :: _) _ _ _ _ _); refine DG.go1 (k := ?_)) | with_reducible apply RG.nil | with_reducible apply W.seq | with_reducible apply W.reg | with_reducible apply W.skip | with_reducible apply W.block | with_reducible apply W.drw | with_reducible apply DG.nil | (with_reducible refine W.done (QB.n ?_))))
  (refine W.ret ?_; (repeat (with_reducible first | refine QB.r ?_ | refine QL.r ?_ | refine QC.r ?_)); refine QF.r ?_)
  exact RetOk.rs (vs := [_]) r_caravellaw11_RingPlays []
theorem RingPlays_walk {r : Reach} {b0 base : Nat} {H : Type} {enc : TypeId × Value → H} {spare : Nat → Bool} {held : Bool} {d : DataW H} {p : List MemPlace} (a c : Int) (v : Value) (W : World) (ha : -9223372036854775808 ≤ a ∧ a ≤ 9223372036854775807) (hc : 0 ≤ c ∧ c ≤ 65535) (hv : Value.okWide Try.prog W r b0 42 v) (k : DataW.Trod enc Try.prog W base spare held 42 v d p) :
    Calls Try.prog 5 #[.int .i64 a, .int .u16 c, v] W fun e W' => e = .returned (.bool true) ∧ Below W.heap.size W W' := by
  obtain ⟨l, hr, hl⟩ := ops_arg hv k
  exact acall_lawF (ringPlays_ok a c (by omega) l (len_le hl)) W [_, _, _] ⟨.pure _ _ (.int _ _), .pure _ _ (.int _ _), .pure _ _ hr, trivial⟩
end Go.Proofs.Ytlmioolkofbboaa
