/- RecvqMoved: the walk. -/
import Derived.Test.YtmohmcgcggenfaaRq8
namespace Go.Proofs.Ytmohmcgcggenfaa
open Go.RowKit
set_option linter.unusedVariables false
set_option linter.unusedSimpArgs false
set_option maxRecDepth 100000
set_option maxHeartbeats 4000000
structure MvSt where
  s : RS
  p : Int
  q : Int
structure MvSt.Ok (a b : Int) (x : MvSt) : Prop where
  s : x.s.Ok
  p : 0 ≤ x.p ∧ x.p ≤ 4294967295
  q : 0 ≤ x.q ∧ x.q ≤ 4294967295
  m : (x.p - a) % 4294967296 = (x.q - b) % 4294967296
theorem moved_add {a b p q : Int} (n : Int) (h : (p - a) % 4294967296 = (q - b) % 4294967296) : (sAdd p n - a) % 4294967296 = (sAdd q n - b) % 4294967296 := by unfold sAdd; omega
theorem moved_ev {a b p q : Int} (s : RS) (hk : s.kn = true) (h : (p - a) % 4294967296 = (q - b) % 4294967296) : (s.ev p - a) % 4294967296 = (s.ev q - b) % 4294967296 := by
  unfold RS.ev; rw [if_pos hk, if_pos hk]; exact moved_add _ h
theorem recvqMoved_ok (a b : Int) (ha : 0 ≤ a ∧ a ≤ 4294967295) (hb : 0 ≤ b ∧ b ≤ 4294967295) (l : List ROp) (hL : (l.length : Int) ≤ 9223372036854775807) (hok : ∀ o ∈ l, -9223372036854775808 ≤ o.r ∧ o.r ≤ 9223372036854775807) :
    ACall Try.prog 3 [.int .u32 a, .int .u32 b, .sl false 4 (l.map opR)] (.bool true) [] := by
  have hl := lives_ok
  have cf := fits_ok l hL
  have el : (l.map opR).length = l.length := by simp
  have cna := qNewS_ok a
  have cnb := qNewS_ok b
  dsimp only [rq, qv] at cna cnb
  refine acall_walk (N := 169) Try.func3 (by kernel_rfl) p_caravellaw17_RecvqMoved rfl ?_; unfold c_caravellaw17_RecvqMoved; dsimp only [enum, Nat.reduceAdd]
  (repeat (first | ((with_reducible show RG _ _ (_ :: _) _ _ _); refine RG.go1 (k := ?_)) | ((with_reducible show DG _ _ (_ :: _) _ _ _ _ _); refine DG.go1 (k := ?_)) | with_reducible apply RG.nil | with_reducible apply W.seq | with_reducible apply W.reg | with_reducible apply W.skip | with_reducible apply W.block | with_reducible apply W.drw | with_reducible apply DG.nil | (with_reducible refine W.done (QB.n ?_))))
  (first | ((with_reducible show RG _ _ (_ :: _) _ _ _); refine RG.ca (hl) (k := ?_)) | ((with_reducible show DG _ _ (_ :: _) _ _ _ _ _); refine DG.ca (hl) (k := ?_)))
  (repeat (first | ((with_reducible show RG _ _ (_ :: _) _ _ _); refine RG.go1 (k := ?_)) | ((with_reducible show DG _ _ (_ :: _) _ _ _ _ _); refine DG.go1 (k := ?_)) | with_reducible apply RG.nil | with_reducible apply W.seq | with_reducible apply W.reg | with_reducible apply W.skip | with_reducible apply W.block | with_reducible apply W.drw | with_reducible apply DG.nil | (with_reducible refine W.done (QB.n ?_))))
  (first | ((with_reducible show RG _ _ (_ :: _) _ _ _); refine RG.gca (fun _ => cf) (k := ?_)) | ((with_reducible show DG _ _ (_ :: _) _ _ _ _ _); refine DG.gca (fun _ => cf) (k := ?_)))
  (repeat (first | ((with_reducible show RG _ _ (_ :: _) _ _ _); refine RG.go1 (k := ?_)) | ((with_reducible show DG _ _ (_ :: _) _ _ _ _ _); refine DG.go1 (k := ?_)) | with_reducible apply RG.nil | with_reducible apply W.seq | with_reducible apply W.reg | with_reducible apply W.skip | with_reducible apply W.block | with_reducible apply W.drw | with_reducible apply DG.nil | (with_reducible refine W.done (QB.n ?_))))
  refine W.cnd (fun h1 => ?_) (fun h1 => ?_)
  · (repeat (first | ((with_reducible show RG _ _ (_ :: _) _ _ _); refine RG.go1 (k := ?_)) | ((with_reducible show DG _ _ (_ :: _) _ _ _ _ _); refine DG.go1 (k := ?_)) | with_reducible apply RG.nil | with_reducible apply W.seq | with_reducible apply W.reg | with_reducible apply W.skip | with_reducible apply W.block | with_reducible apply W.drw | with_reducible apply DG.nil | (with_reducible refine W.done (QB.n ?_))))
    (first | ((with_reducible show RG _ _ (_ :: _) _ _ _); refine RG.ca (hl) (k := ?_)) | ((with_reducible show DG _ _ (_ :: _) _ _ _ _ _); refine DG.ca (hl) (k := ?_)))
    (repeat (first | ((with_reducible show RG _ _ (_ :: _) _ _ _); refine RG.go1 (k := ?_)) | ((with_reducible show DG _ _ (_ :: _) _ _ _ _ _); refine DG.go1 (k := ?_)) | with_reducible apply RG.nil | with_reducible apply W.seq | with_reducible apply W.reg | with_reducible apply W.skip | with_reducible apply W.block | with_reducible apply W.drw | with_reducible apply DG.nil | (with_reducible refine W.done (QB.n ?_))))
    (refine W.ret ?_; (repeat (with_reducible first | refine QB.r ?_ | refine QL.r ?_ | refine QC.r ?_)); refine QF.r ?_)
    exact RetOk.rs (vs := [_]) r_caravellaw17_RecvqMoved []
  have hfit : fitsB l = true := by simpa using h1
  obtain ⟨hf1, hf2⟩ := fitsB_inv hfit
  (repeat (first | ((with_reducible show RG _ _ (_ :: _) _ _ _); refine RG.go1 (k := ?_)) | ((with_reducible show DG _ _ (_ :: _) _ _ _ _ _); refine DG.go1 (k := ?_)) | with_reducible apply RG.nil | with_reducible apply W.seq | with_reducible apply W.reg | with_reducible apply W.skip | with_reducible apply W.block | with_reducible apply W.drw | with_reducible apply DG.nil | (with_reducible refine W.done (QB.n ?_))))
  (first | ((with_reducible show RG _ _ (_ :: _) _ _ _); refine RG.ca (cna) (k := ?_)) | ((with_reducible show DG _ _ (_ :: _) _ _ _ _ _); refine DG.ca (cna) (k := ?_)))
  (repeat (first | ((with_reducible show RG _ _ (_ :: _) _ _ _); refine RG.go1 (k := ?_)) | ((with_reducible show DG _ _ (_ :: _) _ _ _ _ _); refine DG.go1 (k := ?_)) | with_reducible apply RG.nil | with_reducible apply W.seq | with_reducible apply W.reg | with_reducible apply W.skip | with_reducible apply W.block | with_reducible apply W.drw | with_reducible apply DG.nil | (with_reducible refine W.done (QB.n ?_))))
  (first | ((with_reducible show RG _ _ (_ :: _) _ _ _); refine RG.ca (cnb) (k := ?_)) | ((with_reducible show DG _ _ (_ :: _) _ _ _ _ _); refine DG.ca (cnb) (k := ?_)))
  (repeat (first | ((with_reducible show RG _ _ (_ :: _) _ _ _); refine RG.go1 (k := ?_)) | ((with_reducible show DG _ _ (_ :: _) _ _ _ _ _); refine DG.go1 (k := ?_)) | with_reducible apply RG.nil | with_reducible apply W.seq | with_reducible apply W.reg | with_reducible apply W.skip | with_reducible apply W.block | with_reducible apply W.drw | with_reducible apply DG.nil | (with_reducible refine W.done (QB.n ?_))))
  refine W.loop (ι := {q : Nat × MvSt // q.1 ≤ l.length ∧ q.2.Ok a b}) (fun q => ⟨[(26, .int .i64 q.1.1), (25, .int .i64 l.length), (24, .sl false 4 (l.map opR)), (0, .int .u32 a), (1, .int .u32 b), (7, .bptr 0 0), (8, .bptr 1 0)], [some [.int .u32 q.1.2.p, .sl false 1 (q.1.2.s.data.map by8), .sl false 2 (q.1.2.s.ps.map (pc q.1.2.p)), .bool q.1.2.s.kn, .int .u32 (q.1.2.s.ev q.1.2.p), .bool q.1.2.s.dn], some [.int .u32 q.1.2.q, .sl false 1 (q.1.2.s.data.map by8), .sl false 2 (q.1.2.s.ps.map (pc q.1.2.q)), .bool q.1.2.s.kn, .int .u32 (q.1.2.s.ev q.1.2.q), .bool q.1.2.s.dn]], [], 2, 0⟩) (fun q => l.length - q.1.1) ⟨(0, ⟨RS.new, a, b⟩), Nat.zero_le _, ⟨new_ok, ha, hb, by simp⟩⟩ ?_ ?_
  · exact Wk.rn ([0, 1] ) ( [])
  rintro ⟨⟨i, ⟨s, p, q⟩⟩, hi, hx⟩
  obtain ⟨hs, hp, hq, hm⟩ := hx
  dsimp only at hi hs hp hq hm ⊢
  (repeat (first | ((with_reducible show RG _ _ (_ :: _) _ _ _); refine RG.go1 (k := ?_)) | ((with_reducible show DG _ _ (_ :: _) _ _ _ _ _); refine DG.go1 (k := ?_)) | with_reducible apply RG.nil | with_reducible apply W.seq | with_reducible apply W.reg | with_reducible apply W.skip | with_reducible apply W.block | with_reducible apply W.drw | with_reducible apply DG.nil | (with_reducible refine W.done (QB.n ?_))))
  refine W.cnd (fun h1 => ?_) (fun h1 => ?_)
  · have hlt : i < l.length := by simpa using h1
    have hE := opR_at l i hlt
    have hfr := hf1 _ (List.getElem_mem hlt)
    have hor := hok _ (List.getElem_mem hlt)
    generalize l[i] = op at hE hfr hor
    obtain ⟨z, ds, fin, n⟩ := op
    dsimp only at hE hfr hor
    (repeat (first | ((with_reducible show RG _ _ (_ :: _) _ _ _); refine RG.go1 (k := ?_)) | ((with_reducible show DG _ _ (_ :: _) _ _ _ _ _); refine DG.go1 (k := ?_)) | with_reducible apply RG.nil | with_reducible apply W.seq | with_reducible apply W.reg | with_reducible apply W.skip | with_reducible apply W.block | with_reducible apply W.drw | with_reducible apply DG.nil | (with_reducible refine W.done (QB.n ?_))))
    (first | ((with_reducible show RG _ _ (_ :: _) _ _ _); refine RG.ew (cptr_of (hE) (by (conv => lhs; whnf) <;> exact rfl)) (k := ?_)) | ((with_reducible show DG _ _ (_ :: _) _ _ _ _ _); refine DG.ew (cptr_of (hE) (by (conv => lhs; whnf) <;> exact rfl)) (k := ?_)))
    (repeat (first | ((with_reducible show RG _ _ (_ :: _) _ _ _); refine RG.go1 (k := ?_)) | ((with_reducible show DG _ _ (_ :: _) _ _ _ _ _); refine DG.go1 (k := ?_)) | with_reducible apply RG.nil | with_reducible apply DG.nil))
    with_reducible apply W.seq
    refine W.cut (ι := {x : MvSt // x.Ok a b}) (fun q => ⟨[(26, .int .i64 i), (25, .int .i64 l.length), (24, .sl false 4 (l.map opR)), (0, .int .u32 a), (1, .int .u32 b), (7, .bptr 0 0), (8, .bptr 1 0)], [some [.int .u32 q.1.p, .sl false 1 (q.1.s.data.map by8), .sl false 2 (q.1.s.ps.map (pc q.1.p)), .bool q.1.s.kn, .int .u32 (q.1.s.ev q.1.p), .bool q.1.s.dn], some [.int .u32 q.1.q, .sl false 1 (q.1.s.data.map by8), .sl false 2 (q.1.s.ps.map (pc q.1.q)), .bool q.1.s.kn, .int .u32 (q.1.s.ev q.1.q), .bool q.1.s.dn]], [], 2, 0⟩) ?_ (by simp) ?_
    · by_cases hn : 0 < n
      · have c1 := readq_ok p hs n
        have c2 := readq_ok q hs n
        have hs' := read_ok hs (s.kR n)
        dsimp only [rq, qv] at c1 c2
        generalize s.read (s.kR n) = s' at c1 c2 hs'
        generalize s.kR n = kr at c1 c2
        (repeat (first | ((with_reducible show RG _ _ (_ :: _) _ _ _); refine RG.go1 (k := ?_)) | ((with_reducible show DG _ _ (_ :: _) _ _ _ _ _); refine DG.go1 (k := ?_)) | with_reducible apply RG.nil | with_reducible apply W.seq | with_reducible apply W.reg | with_reducible apply W.skip | with_reducible apply W.block | with_reducible apply W.drw | with_reducible apply DG.nil | (with_reducible refine W.done (QB.n ?_))))
        refine W.cndT ?_
        (repeat (first | ((with_reducible show RG _ _ (_ :: _) _ _ _); refine RG.go1 (k := ?_)) | ((with_reducible show DG _ _ (_ :: _) _ _ _ _ _); refine DG.go1 (k := ?_)) | with_reducible apply RG.nil | with_reducible apply W.seq | with_reducible apply W.reg | with_reducible apply W.skip | with_reducible apply W.block | with_reducible apply W.drw | with_reducible apply DG.nil | (with_reducible refine W.done (QB.n ?_))))
        (first | ((with_reducible show RG _ _ (_ :: _) _ _ _); refine RG.ca (c1) (k := ?_)) | ((with_reducible show DG _ _ (_ :: _) _ _ _ _ _); refine DG.ca (c1) (k := ?_)))
        (repeat (first | ((with_reducible show RG _ _ (_ :: _) _ _ _); refine RG.go1 (k := ?_)) | ((with_reducible show DG _ _ (_ :: _) _ _ _ _ _); refine DG.go1 (k := ?_)) | with_reducible apply RG.nil | with_reducible apply W.seq | with_reducible apply W.reg | with_reducible apply W.skip | with_reducible apply W.block | with_reducible apply W.drw | with_reducible apply DG.nil | (with_reducible refine W.done (QB.n ?_))))
        (first | ((with_reducible show RG _ _ (_ :: _) _ _ _); refine RG.ca (c2) (k := ?_)) | ((with_reducible show DG _ _ (_ :: _) _ _ _ _ _); refine DG.ca (c2) (k := ?_)))
        (repeat (first | ((with_reducible show RG _ _ (_ :: _) _ _ _); refine RG.go1 (k := ?_)) | ((with_reducible show DG _ _ (_ :: _) _ _ _ _ _); refine DG.go1 (k := ?_)) | with_reducible apply RG.nil | with_reducible apply W.seq | with_reducible apply W.reg | with_reducible apply W.skip | with_reducible apply W.block | with_reducible apply W.drw | with_reducible apply DG.nil | (with_reducible refine W.done (QB.n ?_))))
        refine W.done (QC.n (⟨⟨s', p, q⟩, ⟨hs', hp, hq, hm⟩⟩) ?_)
        exact Wk.rn ([0, 1] ) ( [])
      · have hdp : sDiff ((p + z % 4294967296) % 4294967296) p = sDiff ((q + z % 4294967296) % 4294967296) q := by unfold sDiff; omega
        have c1 := accept_ok p hp s hs ((p + z % 4294967296) % 4294967296) (by omega) ds hfr fin
        have c2 := accept_ok q hq s hs ((q + z % 4294967296) % 4294967296) (by omega) ds hfr fin
        rw [hdp] at c1
        generalize sDiff ((q + z % 4294967296) % 4294967296) q = dd at c1 c2
        have hs' := (acc_ok hs dd ds fin).1
        dsimp only [rq, qv] at c1 c2
        generalize s.acc dd ds fin = r at c1 c2 hs'
        obtain ⟨s', k⟩ := r
        have hp' := sAdd_bd p k
        have hq' := sAdd_bd q k
        have hm' := moved_add (k : Int) hm
        dsimp only at c1 c2 hs'
        generalize sAdd p k = p' at c1 hp' hm'
        generalize sAdd q k = q' at c2 hq' hm'
        (repeat (first | ((with_reducible show RG _ _ (_ :: _) _ _ _); refine RG.go1 (k := ?_)) | ((with_reducible show DG _ _ (_ :: _) _ _ _ _ _); refine DG.go1 (k := ?_)) | with_reducible apply RG.nil | with_reducible apply W.seq | with_reducible apply W.reg | with_reducible apply W.skip | with_reducible apply W.block | with_reducible apply W.drw | with_reducible apply DG.nil | (with_reducible refine W.done (QB.n ?_))))
        refine W.cndF ?_
        (repeat (first | ((with_reducible show RG _ _ (_ :: _) _ _ _); refine RG.go1 (k := ?_)) | ((with_reducible show DG _ _ (_ :: _) _ _ _ _ _); refine DG.go1 (k := ?_)) | with_reducible apply RG.nil | with_reducible apply W.seq | with_reducible apply W.reg | with_reducible apply W.skip | with_reducible apply W.block | with_reducible apply W.drw | with_reducible apply DG.nil | (with_reducible refine W.done (QB.n ?_))))
        (first | ((with_reducible show RG _ _ (_ :: _) _ _ _); refine RG.ca (c1) (k := ?_)) | ((with_reducible show DG _ _ (_ :: _) _ _ _ _ _); refine DG.ca (c1) (k := ?_)))
        (repeat (first | ((with_reducible show RG _ _ (_ :: _) _ _ _); refine RG.go1 (k := ?_)) | ((with_reducible show DG _ _ (_ :: _) _ _ _ _ _); refine DG.go1 (k := ?_)) | with_reducible apply RG.nil | with_reducible apply W.seq | with_reducible apply W.reg | with_reducible apply W.skip | with_reducible apply W.block | with_reducible apply W.drw | with_reducible apply DG.nil | (with_reducible refine W.done (QB.n ?_))))
        (first | ((with_reducible show RG _ _ (_ :: _) _ _ _); refine RG.ca (c2) (k := ?_)) | ((with_reducible show DG _ _ (_ :: _) _ _ _ _ _); refine DG.ca (c2) (k := ?_)))
        (repeat (first | ((with_reducible show RG _ _ (_ :: _) _ _ _); refine RG.go1 (k := ?_)) | ((with_reducible show DG _ _ (_ :: _) _ _ _ _ _); refine DG.go1 (k := ?_)) | with_reducible apply RG.nil | with_reducible apply W.seq | with_reducible apply W.reg | with_reducible apply W.skip | with_reducible apply W.block | with_reducible apply W.drw | with_reducible apply DG.nil | (with_reducible refine W.done (QB.n ?_))))
        refine W.done (QC.n (⟨⟨s', p', q'⟩, ⟨hs', hp', hq', hm'⟩⟩) ?_)
        exact Wk.rn ([0, 1] ) ( [])
    clear hE hfr hor
    rintro ⟨⟨s, p, q⟩, hs, hp, hq, hm⟩
    dsimp only at hs hp hq hm ⊢
    have hlen := hs.len
    have hdl := hs.d
    have hlp : (s.ps.map (pc p)).length = s.ps.length := by simp
    have hlq : (s.ps.map (pc q)).length = s.ps.length := by simp
    have hev : s.kn = true → (s.ev p - a) % 4294967296 = (s.ev q - b) % 4294967296 := fun hk => moved_ev s hk hm
    obtain ⟨ep, hep⟩ : ∃ e, e = s.ev p := ⟨_, rfl⟩
    obtain ⟨eq, heq⟩ : ∃ e, e = s.ev q := ⟨_, rfl⟩
    rw [← hep, ← heq] at hev ⊢
    cases hkn : s.kn
    · clear hev
      (repeat (first | ((with_reducible show RG _ _ (_ :: _) _ _ _); refine RG.go1 (k := ?_)) | ((with_reducible show DG _ _ (_ :: _) _ _ _ _ _); refine DG.go1 (k := ?_)) | with_reducible apply RG.nil | with_reducible apply W.seq | with_reducible apply W.reg | with_reducible apply W.skip | with_reducible apply W.block | with_reducible apply W.drw | with_reducible apply DG.nil | (with_reducible refine W.done (QB.n ?_))))
      refine W.cndF ?_
      (repeat (first | ((with_reducible show RG _ _ (_ :: _) _ _ _); refine RG.go1 (k := ?_)) | ((with_reducible show DG _ _ (_ :: _) _ _ _ _ _); refine DG.go1 (k := ?_)) | with_reducible apply RG.nil | with_reducible apply W.seq | with_reducible apply W.reg | with_reducible apply W.skip | with_reducible apply W.block | with_reducible apply W.drw | with_reducible apply DG.nil | (with_reducible refine W.done (QB.n ?_))))
      refine W.loop (ι := {j : Nat // j ≤ s.ps.length}) (fun j => ⟨[(130, .int .i64 j.1), (129, .int .i64 s.ps.length), (26, .int .i64 i), (25, .int .i64 l.length), (24, .sl false 4 (l.map opR)), (0, .int .u32 a), (1, .int .u32 b), (7, .bptr 0 0), (8, .bptr 1 0)], [some [.int .u32 p, .sl false 1 (s.data.map by8), .sl false 2 (s.ps.map (pc p)), .bool false, .int .u32 ep, .bool s.dn], some [.int .u32 q, .sl false 1 (s.data.map by8), .sl false 2 (s.ps.map (pc q)), .bool false, .int .u32 eq, .bool s.dn]], [], 2, 0⟩) (fun j => s.ps.length - j.1) ⟨0, Nat.zero_le _⟩ ?_ ?_
      · exact Wk.rn ([0, 1] ) ( [])
      rintro ⟨j, hj⟩
      dsimp only
      (repeat (first | ((with_reducible show RG _ _ (_ :: _) _ _ _); refine RG.go1 (k := ?_)) | ((with_reducible show DG _ _ (_ :: _) _ _ _ _ _); refine DG.go1 (k := ?_)) | with_reducible apply RG.nil | with_reducible apply W.seq | with_reducible apply W.reg | with_reducible apply W.skip | with_reducible apply W.block | with_reducible apply W.drw | with_reducible apply DG.nil | (with_reducible refine W.done (QB.n ?_))))
      refine W.cnd (fun h2 => ?_) (fun h2 => ?_)
      · have hjl : j < s.ps.length := by simp at h2; omega
        have hEp := pc_at p s.ps j hjl
        have hEq := pc_at q s.ps j hjl
        have hmj := moved_add (s.ps[j].1 : Int) hm
        have hgj : (s.ps[j].2).length ≤ 1000 := by have := hs.bd _ (List.getElem_mem hjl); unfold pEnd at this; omega
        generalize s.ps[j] = x at hEp hEq hmj hgj
        generalize sAdd p x.1 = xp at hEp hmj
        generalize sAdd q x.1 = xq at hEq hmj
        (repeat (first | ((with_reducible show RG _ _ (_ :: _) _ _ _); refine RG.go1 (k := ?_)) | ((with_reducible show DG _ _ (_ :: _) _ _ _ _ _); refine DG.go1 (k := ?_)) | with_reducible apply RG.nil | with_reducible apply W.seq | with_reducible apply W.reg | with_reducible apply W.skip | with_reducible apply W.block | with_reducible apply W.drw | with_reducible apply DG.nil | (with_reducible refine W.done (QB.n ?_))))
        (first | ((with_reducible show RG _ _ (_ :: _) _ _ _); refine RG.ew (cptr_of (hEp) (by (conv => lhs; whnf) <;> exact rfl)) (k := ?_)) | ((with_reducible show DG _ _ (_ :: _) _ _ _ _ _); refine DG.ew (cptr_of (hEp) (by (conv => lhs; whnf) <;> exact rfl)) (k := ?_)))
        (first | ((with_reducible show RG _ _ (_ :: _) _ _ _); refine RG.ew (rfl) (k := ?_)) | ((with_reducible show DG _ _ (_ :: _) _ _ _ _ _); refine DG.ew (rfl) (k := ?_)))
        (repeat (first | ((with_reducible show RG _ _ (_ :: _) _ _ _); refine RG.go1 (k := ?_)) | ((with_reducible show DG _ _ (_ :: _) _ _ _ _ _); refine DG.go1 (k := ?_)) | with_reducible apply RG.nil | with_reducible apply W.seq | with_reducible apply W.reg | with_reducible apply W.skip | with_reducible apply W.block | with_reducible apply W.drw | with_reducible apply DG.nil | (with_reducible refine W.done (QB.n ?_))))
        (first | ((with_reducible show RG _ _ (_ :: _) _ _ _); refine RG.ew (cptr_of (hEq) (by (conv => lhs; whnf) <;> exact rfl)) (k := ?_)) | ((with_reducible show DG _ _ (_ :: _) _ _ _ _ _); refine DG.ew (cptr_of (hEq) (by (conv => lhs; whnf) <;> exact rfl)) (k := ?_)))
        (first | ((with_reducible show RG _ _ (_ :: _) _ _ _); refine RG.ew (rfl) (k := ?_)) | ((with_reducible show DG _ _ (_ :: _) _ _ _ _ _); refine DG.ew (rfl) (k := ?_)))
        (repeat (first | ((with_reducible show RG _ _ (_ :: _) _ _ _); refine RG.go1 (k := ?_)) | ((with_reducible show DG _ _ (_ :: _) _ _ _ _ _); refine DG.go1 (k := ?_)) | with_reducible apply RG.nil | with_reducible apply W.seq | with_reducible apply W.reg | with_reducible apply W.skip | with_reducible apply W.block | with_reducible apply W.drw | with_reducible apply DG.nil | (with_reducible refine W.done (QB.n ?_))))
        (first | ((with_reducible show RG _ _ (_ :: _) _ _ _); refine RG.ewg (cptr_of (hEp) (by (conv => lhs; whnf) <;> exact rfl)) (k := ?_)) | ((with_reducible show DG _ _ (_ :: _) _ _ _ _ _); refine DG.ewg (cptr_of (hEp) (by (conv => lhs; whnf) <;> exact rfl)) (k := ?_)))
        (first | ((with_reducible show RG _ _ (_ :: _) _ _ _); refine RG.ewg (rfl) (k := ?_)) | ((with_reducible show DG _ _ (_ :: _) _ _ _ _ _); refine DG.ewg (rfl) (k := ?_)))
        (repeat (first | ((with_reducible show RG _ _ (_ :: _) _ _ _); refine RG.go1 (k := ?_)) | ((with_reducible show DG _ _ (_ :: _) _ _ _ _ _); refine DG.go1 (k := ?_)) | with_reducible apply RG.nil | with_reducible apply W.seq | with_reducible apply W.reg | with_reducible apply W.skip | with_reducible apply W.block | with_reducible apply W.drw | with_reducible apply DG.nil | (with_reducible refine W.done (QB.n ?_))))
        (first | ((with_reducible show RG _ _ (_ :: _) _ _ _); refine RG.ewg (cptr_of (hEq) (by (conv => lhs; whnf) <;> exact rfl)) (k := ?_)) | ((with_reducible show DG _ _ (_ :: _) _ _ _ _ _); refine DG.ewg (cptr_of (hEq) (by (conv => lhs; whnf) <;> exact rfl)) (k := ?_)))
        (first | ((with_reducible show RG _ _ (_ :: _) _ _ _); refine RG.ewg (rfl) (k := ?_)) | ((with_reducible show DG _ _ (_ :: _) _ _ _ _ _); refine DG.ewg (rfl) (k := ?_)))
        (repeat (first | ((with_reducible show RG _ _ (_ :: _) _ _ _); refine RG.go1 (k := ?_)) | ((with_reducible show DG _ _ (_ :: _) _ _ _ _ _); refine DG.go1 (k := ?_)) | with_reducible apply RG.nil | with_reducible apply W.seq | with_reducible apply W.reg | with_reducible apply W.skip | with_reducible apply W.block | with_reducible apply W.drw | with_reducible apply DG.nil | (with_reducible refine W.done (QB.n ?_))))
        refine W.cndF ?_
        (repeat (first | ((with_reducible show RG _ _ (_ :: _) _ _ _); refine RG.go1 (k := ?_)) | ((with_reducible show DG _ _ (_ :: _) _ _ _ _ _); refine DG.go1 (k := ?_)) | with_reducible apply RG.nil | with_reducible apply W.seq | with_reducible apply W.reg | with_reducible apply W.skip | with_reducible apply W.block | with_reducible apply W.drw | with_reducible apply DG.nil | (with_reducible refine W.done (QB.n ?_))))
        refine W.done (QL.n (⟨j + 1, hjl⟩) ?_ ?_)
        · exact Wk.rn ([0, 1] ) ( [])
        · dsimp only; omega
      (refine W.exit ?_; (repeat (first | (with_reducible first | refine QL.x ?_ | refine QC.x ?_ | refine QB.x ?_) | (with_reducible refine QB.o (by decide) ?_))))
      (repeat (first | ((with_reducible show RG _ _ (_ :: _) _ _ _); refine RG.go1 (k := ?_)) | ((with_reducible show DG _ _ (_ :: _) _ _ _ _ _); refine DG.go1 (k := ?_)) | with_reducible apply RG.nil | with_reducible apply W.seq | with_reducible apply W.reg | with_reducible apply W.skip | with_reducible apply W.block | with_reducible apply W.drw | with_reducible apply DG.nil | (with_reducible refine W.done (QB.n ?_))))
      refine W.done (QL.n (⟨(i + 1, ⟨s, p, q⟩), by dsimp only; omega, ⟨hs, hp, hq, hm⟩⟩) ?_ ?_)
      · have qa : ALe (.int .u32 ep) (.int .u32 (s.ev p)) := ALe.int hep
        have qb : ALe (.int .u32 eq) (.int .u32 (s.ev q)) := ALe.int heq
        have qc : ALe (.bool false) (.bool s.kn) := ALe.bool hkn.symm
        exact Wk.rn ([0, 1] ) ( [])
      · dsimp only; omega
    · have hev := hev hkn
      (repeat (first | ((with_reducible show RG _ _ (_ :: _) _ _ _); refine RG.go1 (k := ?_)) | ((with_reducible show DG _ _ (_ :: _) _ _ _ _ _); refine DG.go1 (k := ?_)) | with_reducible apply RG.nil | with_reducible apply W.seq | with_reducible apply W.reg | with_reducible apply W.skip | with_reducible apply W.block | with_reducible apply W.drw | with_reducible apply DG.nil | (with_reducible refine W.done (QB.n ?_))))
      refine W.cndF ?_
      (repeat (first | ((with_reducible show RG _ _ (_ :: _) _ _ _); refine RG.go1 (k := ?_)) | ((with_reducible show DG _ _ (_ :: _) _ _ _ _ _); refine DG.go1 (k := ?_)) | with_reducible apply RG.nil | with_reducible apply W.seq | with_reducible apply W.reg | with_reducible apply W.skip | with_reducible apply W.block | with_reducible apply W.drw | with_reducible apply DG.nil | (with_reducible refine W.done (QB.n ?_))))
      refine W.loop (ι := {j : Nat // j ≤ s.ps.length}) (fun j => ⟨[(130, .int .i64 j.1), (129, .int .i64 s.ps.length), (26, .int .i64 i), (25, .int .i64 l.length), (24, .sl false 4 (l.map opR)), (0, .int .u32 a), (1, .int .u32 b), (7, .bptr 0 0), (8, .bptr 1 0)], [some [.int .u32 p, .sl false 1 (s.data.map by8), .sl false 2 (s.ps.map (pc p)), .bool true, .int .u32 ep, .bool s.dn], some [.int .u32 q, .sl false 1 (s.data.map by8), .sl false 2 (s.ps.map (pc q)), .bool true, .int .u32 eq, .bool s.dn]], [], 2, 0⟩) (fun j => s.ps.length - j.1) ⟨0, Nat.zero_le _⟩ ?_ ?_
      · exact Wk.rn ([0, 1] ) ( [])
      rintro ⟨j, hj⟩
      dsimp only
      (repeat (first | ((with_reducible show RG _ _ (_ :: _) _ _ _); refine RG.go1 (k := ?_)) | ((with_reducible show DG _ _ (_ :: _) _ _ _ _ _); refine DG.go1 (k := ?_)) | with_reducible apply RG.nil | with_reducible apply W.seq | with_reducible apply W.reg | with_reducible apply W.skip | with_reducible apply W.block | with_reducible apply W.drw | with_reducible apply DG.nil | (with_reducible refine W.done (QB.n ?_))))
      refine W.cnd (fun h2 => ?_) (fun h2 => ?_)
      · have hjl : j < s.ps.length := by simp at h2; omega
        have hEp := pc_at p s.ps j hjl
        have hEq := pc_at q s.ps j hjl
        have hmj := moved_add (s.ps[j].1 : Int) hm
        have hgj : (s.ps[j].2).length ≤ 1000 := by have := hs.bd _ (List.getElem_mem hjl); unfold pEnd at this; omega
        generalize s.ps[j] = x at hEp hEq hmj hgj
        generalize sAdd p x.1 = xp at hEp hmj
        generalize sAdd q x.1 = xq at hEq hmj
        (repeat (first | ((with_reducible show RG _ _ (_ :: _) _ _ _); refine RG.go1 (k := ?_)) | ((with_reducible show DG _ _ (_ :: _) _ _ _ _ _); refine DG.go1 (k := ?_)) | with_reducible apply RG.nil | with_reducible apply W.seq | with_reducible apply W.reg | with_reducible apply W.skip | with_reducible apply W.block | with_reducible apply W.drw | with_reducible apply DG.nil | (with_reducible refine W.done (QB.n ?_))))
        (first | ((with_reducible show RG _ _ (_ :: _) _ _ _); refine RG.ew (cptr_of (hEp) (by (conv => lhs; whnf) <;> exact rfl)) (k := ?_)) | ((with_reducible show DG _ _ (_ :: _) _ _ _ _ _); refine DG.ew (cptr_of (hEp) (by (conv => lhs; whnf) <;> exact rfl)) (k := ?_)))
        (first | ((with_reducible show RG _ _ (_ :: _) _ _ _); refine RG.ew (rfl) (k := ?_)) | ((with_reducible show DG _ _ (_ :: _) _ _ _ _ _); refine DG.ew (rfl) (k := ?_)))
        (repeat (first | ((with_reducible show RG _ _ (_ :: _) _ _ _); refine RG.go1 (k := ?_)) | ((with_reducible show DG _ _ (_ :: _) _ _ _ _ _); refine DG.go1 (k := ?_)) | with_reducible apply RG.nil | with_reducible apply W.seq | with_reducible apply W.reg | with_reducible apply W.skip | with_reducible apply W.block | with_reducible apply W.drw | with_reducible apply DG.nil | (with_reducible refine W.done (QB.n ?_))))
        (first | ((with_reducible show RG _ _ (_ :: _) _ _ _); refine RG.ew (cptr_of (hEq) (by (conv => lhs; whnf) <;> exact rfl)) (k := ?_)) | ((with_reducible show DG _ _ (_ :: _) _ _ _ _ _); refine DG.ew (cptr_of (hEq) (by (conv => lhs; whnf) <;> exact rfl)) (k := ?_)))
        (first | ((with_reducible show RG _ _ (_ :: _) _ _ _); refine RG.ew (rfl) (k := ?_)) | ((with_reducible show DG _ _ (_ :: _) _ _ _ _ _); refine DG.ew (rfl) (k := ?_)))
        (repeat (first | ((with_reducible show RG _ _ (_ :: _) _ _ _); refine RG.go1 (k := ?_)) | ((with_reducible show DG _ _ (_ :: _) _ _ _ _ _); refine DG.go1 (k := ?_)) | with_reducible apply RG.nil | with_reducible apply W.seq | with_reducible apply W.reg | with_reducible apply W.skip | with_reducible apply W.block | with_reducible apply W.drw | with_reducible apply DG.nil | (with_reducible refine W.done (QB.n ?_))))
        (first | ((with_reducible show RG _ _ (_ :: _) _ _ _); refine RG.ewg (cptr_of (hEp) (by (conv => lhs; whnf) <;> exact rfl)) (k := ?_)) | ((with_reducible show DG _ _ (_ :: _) _ _ _ _ _); refine DG.ewg (cptr_of (hEp) (by (conv => lhs; whnf) <;> exact rfl)) (k := ?_)))
        (first | ((with_reducible show RG _ _ (_ :: _) _ _ _); refine RG.ewg (rfl) (k := ?_)) | ((with_reducible show DG _ _ (_ :: _) _ _ _ _ _); refine DG.ewg (rfl) (k := ?_)))
        (repeat (first | ((with_reducible show RG _ _ (_ :: _) _ _ _); refine RG.go1 (k := ?_)) | ((with_reducible show DG _ _ (_ :: _) _ _ _ _ _); refine DG.go1 (k := ?_)) | with_reducible apply RG.nil | with_reducible apply W.seq | with_reducible apply W.reg | with_reducible apply W.skip | with_reducible apply W.block | with_reducible apply W.drw | with_reducible apply DG.nil | (with_reducible refine W.done (QB.n ?_))))
        (first | ((with_reducible show RG _ _ (_ :: _) _ _ _); refine RG.ewg (cptr_of (hEq) (by (conv => lhs; whnf) <;> exact rfl)) (k := ?_)) | ((with_reducible show DG _ _ (_ :: _) _ _ _ _ _); refine DG.ewg (cptr_of (hEq) (by (conv => lhs; whnf) <;> exact rfl)) (k := ?_)))
        (first | ((with_reducible show RG _ _ (_ :: _) _ _ _); refine RG.ewg (rfl) (k := ?_)) | ((with_reducible show DG _ _ (_ :: _) _ _ _ _ _); refine DG.ewg (rfl) (k := ?_)))
        (repeat (first | ((with_reducible show RG _ _ (_ :: _) _ _ _); refine RG.go1 (k := ?_)) | ((with_reducible show DG _ _ (_ :: _) _ _ _ _ _); refine DG.go1 (k := ?_)) | with_reducible apply RG.nil | with_reducible apply W.seq | with_reducible apply W.reg | with_reducible apply W.skip | with_reducible apply W.block | with_reducible apply W.drw | with_reducible apply DG.nil | (with_reducible refine W.done (QB.n ?_))))
        refine W.cndF ?_
        (repeat (first | ((with_reducible show RG _ _ (_ :: _) _ _ _); refine RG.go1 (k := ?_)) | ((with_reducible show DG _ _ (_ :: _) _ _ _ _ _); refine DG.go1 (k := ?_)) | with_reducible apply RG.nil | with_reducible apply W.seq | with_reducible apply W.reg | with_reducible apply W.skip | with_reducible apply W.block | with_reducible apply W.drw | with_reducible apply DG.nil | (with_reducible refine W.done (QB.n ?_))))
        refine W.done (QL.n (⟨j + 1, hjl⟩) ?_ ?_)
        · exact Wk.rn ([0, 1] ) ( [])
        · dsimp only; omega
      (refine W.exit ?_; (repeat (first | (with_reducible first | refine QL.x ?_ | refine QC.x ?_ | refine QB.x ?_) | (with_reducible refine QB.o (by decide) ?_))))
      (repeat (first | ((with_reducible show RG _ _ (_ :: _) _ _ _); refine RG.go1 (k := ?_)) | ((with_reducible show DG _ _ (_ :: _) _ _ _ _ _); refine DG.go1 (k := ?_)) | with_reducible apply RG.nil | with_reducible apply W.seq | with_reducible apply W.reg | with_reducible apply W.skip | with_reducible apply W.block | with_reducible apply W.drw | with_reducible apply DG.nil | (with_reducible refine W.done (QB.n ?_))))
      refine W.done (QL.n (⟨(i + 1, ⟨s, p, q⟩), by dsimp only; omega, ⟨hs, hp, hq, hm⟩⟩) ?_ ?_)
      · have qa : ALe (.int .u32 ep) (.int .u32 (s.ev p)) := ALe.int hep
        have qb : ALe (.int .u32 eq) (.int .u32 (s.ev q)) := ALe.int heq
        have qc : ALe (.bool true) (.bool s.kn) := ALe.bool hkn.symm
        exact Wk.rn ([0, 1] ) ( [])
      · dsimp only; omega
  (refine W.exit ?_; (repeat (first | (with_reducible first | refine QL.x ?_ | refine QC.x ?_ | refine QB.x ?_) | (with_reducible refine QB.o (by decide) ?_))))
  (repeat (first | ((with_reducible show RG _ _ (_ :: _) _ _ _); refine RG.go1 (k := ?_)) | ((with_reducible show DG _ _ (_ :: _) _ _ _ _ _); refine DG.go1 (k := ?_)) | with_reducible apply RG.nil | with_reducible apply W.seq | with_reducible apply W.reg | with_reducible apply W.skip | with_reducible apply W.block | with_reducible apply W.drw | with_reducible apply DG.nil | (with_reducible refine W.done (QB.n ?_))))
  (refine W.ret ?_; (repeat (with_reducible first | refine QB.r ?_ | refine QL.r ?_ | refine QC.r ?_)); refine QF.r ?_)
  exact RetOk.rs (vs := [_]) r_caravellaw17_RecvqMoved []
theorem RecvqMoved_walk {r : Reach} {b0 base : Nat} {H : Type} {enc : TypeId × Value → H} {spare : Nat → Bool} {held : Bool} {d : DataW H} {p : List MemPlace} (a b : Int) (v : Value) (W : World) (ha : 0 ≤ a ∧ a ≤ 4294967295) (hb : 0 ≤ b ∧ b ≤ 4294967295) (hv : Value.okWide Try.prog W r b0 23 v) (k : DataW.Trod enc Try.prog W base spare held 23 v d p) :
    Calls Try.prog 3 #[.int .u32 a, .int .u32 b, v] W fun e W' => e = .returned (.bool true) ∧ Below W.heap.size W W' := by
  obtain ⟨l, hr, hl, hq⟩ := ops_arg hv k
  exact acall_lawF (recvqMoved_ok a b ha hb l (len_le hl) hq) W [_, _, _] ⟨.pure _ _ (.int _ _), .pure _ _ (.int _ _), .pure _ _ hr, trivial⟩
end Go.Proofs.Ytmohmcgcggenfaa
