/- Add: the last piece of a packet. -/
import Derived.Test.YtiejnmbpejfpgaaFh9
import Derived.Test.YtiejnmbpejfpgaaAxD
import Derived.Test.YtiejnmbpejfpgaaFs3
namespace Go.Proofs.Ytiejnmbpejfpgaa
open Go.RowKit
set_option linter.unusedVariables false
set_option linter.unusedSimpArgs false
set_option maxRecDepth 100000
set_option maxHeartbeats 4000000
theorem add_whl {l Y : List Hl} {now : Int} (b : Been l now Y) (p : Pk) (v : p.V) (k : Nat) (h : Hl) (m : More Y p k h) (g0 : Prt) (hgi : (moreH h p).got = [g0]) (h0f : g0.off = 0) (heq : (g0.dt.length : Int) = (moreH h p).en) :
    ACall Try.prog 11 [.sl true 14 (l.map hol), pk false p, .int .u64 now] (.tup [.sl false 14 ((Y.eraseIdx k).map hol), pk false (wholeP h g0.dt), .bool true, .int .i64 0]) [] := by
  have ca := b.age
  have ci := b.index p
  rw [m.idx] at ci
  have yl := ho_len Y
  have yp := ho_pure Y
  have yn := b.yn
  have vc := v.cases
  have hlt := m.lt
  have hx0 : (Y.map hol)[k]?.getD .any = .agg [.int .u8 h.s0, .int .u8 h.s1, .int .u8 h.s2, .int .u8 h.s3, .int .u8 h.d0, .int .u8 h.d1, .int .u8 h.d2, .int .u8 h.d3, .int .u8 h.pr, .int .u16 h.i, .int .u8 h.tt, .int .u64 h.since, .int .i64 h.en, .sl false 2 (h.got.map prt)] := by rw [List.getElem?_map, m.at_]; rfl
  have hgd := b.yg h (List.mem_of_getElem? m.at_)
  have clay := fragLay_ok h.got (by have := hgd.n; omega) hgd.o ⟨p.o, p.dt⟩ ⟨v.lo, v.hi⟩
  have cf := fragFits_ok h p (p.o + p.dt.length) (by have := hgd.n; omega) hgd.o m.f
  obtain ⟨v1, v2, v3, -, v5, -⟩ := v
  have cc := ybCloneF_ok p.dt (by omega) v5
  have hgl := pr_len (moreH h p).got
  have cd := hoDel1_ok (Y.set k (moreH h p)) (by rw [List.length_set]; omega) k (by rw [List.length_set]; exact hlt)
  rw [List.length_set, List.map_set, List.eraseIdx_set_eq] at cd
  have le3 : ((Y.eraseIdx k).map hol).length = Y.length - 1 := by rw [List.length_map, List.length_eraseIdx, if_pos hlt]
  clear b m hgd
  unfold moreH at *
  obtain ⟨i, mo, o, tt, pr, s0, s1, s2, s3, d0, d1, d2, d3, dt⟩ := p
  obtain ⟨x0, x1, x2, x3, x4, x5, x6, x7, xp, xi, xt, xs, xe, got⟩ := h
  dsimp only at *
  have el := by8_len dt
  unfold pkc at ci
  unfold prt at clay
  unfold hol pk pkc at cf
  try unfold pkz
  unfold pk pkc
  rw [show (List.map (fun x => AV.agg [.int .i64 x.off, .sl false 1 (x.dt.map by8)]) got) = got.map prt from rfl, show (List.map (fun x => AV.agg [.int .i64 x.off, .sl false 1 (x.dt.map by8)]) (layS got ⟨o, dt⟩)) = (layS got ⟨o, dt⟩).map prt from rfl] at clay
  dsimp only at ci clay cf hx0 ⊢
  unfold wholeP
  dsimp only [hol] at cd ⊢
  have e0 : ((layS got ⟨o, dt⟩).map prt)[Int.toNat 0]?.getD .any = .agg [.int .i64 g0.off, .sl false 1 (g0.dt.map by8)] := by rw [hgi]; rfl
  have l1 : ((layS got ⟨o, dt⟩).map prt).length = 1 := by rw [hgi]; rfl
  clear hgi hgl
  rw [h0f] at e0
  generalize (layS got ⟨o, dt⟩).map prt = G2 at *
  generalize Y.map hol = es at *
  generalize Y.length = n at *
  have kl : k < es.length := by omega
  have el0 := by8_len g0.dt
  generalize (Y.eraseIdx k).map hol = E3 at *
  rcases vc with ⟨rfl, w1⟩ | ⟨rfl, rfl, w2⟩ | ⟨rfl, w1, w2⟩
  · have hx1 := set_get (x := (.agg [.int .u8 x0, .int .u8 x1, .int .u8 x2, .int .u8 x3, .int .u8 x4, .int .u8 x5, .int .u8 x6, .int .u8 x7, .int .u8 xp, .int .u16 xi, .int .u8 xt, .int .u64 xs, .int .i64 (o + dt.length), .sl false 2 (got.map prt)])) (y := .any) kl
    have sl1 := set_len2 (l := es) (k := k) (x := (.agg [.int .u8 x0, .int .u8 x1, .int .u8 x2, .int .u8 x3, .int .u8 x4, .int .u8 x5, .int .u8 x6, .int .u8 x7, .int .u8 xp, .int .u16 xi, .int .u8 xt, .int .u64 xs, .int .i64 (o + dt.length), .sl false 2 (got.map prt)]))
    have hx2 := set_get (x := (.agg [.int .u8 x0, .int .u8 x1, .int .u8 x2, .int .u8 x3, .int .u8 x4, .int .u8 x5, .int .u8 x6, .int .u8 x7, .int .u8 xp, .int .u16 xi, .int .u8 xt, .int .u64 xs, .int .i64 (o + dt.length), .sl false 2 G2])) (y := .any) kl
    have sl2 := set_len2 (l := es) (k := k) (x := (.agg [.int .u8 x0, .int .u8 x1, .int .u8 x2, .int .u8 x3, .int .u8 x4, .int .u8 x5, .int .u8 x6, .int .u8 x7, .int .u8 xp, .int .u16 xi, .int .u8 xt, .int .u64 xs, .int .i64 (o + dt.length), .sl false 2 G2]))
    have ip : ∀ a b : Int, (if (true = true) then a else b) = a := fun a b => if_pos rfl
    have iq : ∀ a b : Int, (if (false = true) then a else b) = b := fun a b => if_neg (by decide)
    try rw [ip] at *
    try rw [iq] at *
    clear ip iq
    refine acall_walk (N := 208) Try.func11 (by kernel_rfl) p_frag_Add rfl ?_; unfold c_frag_Add; dsimp only [enum, Nat.reduceAdd]
    (repeat (first | ((with_reducible show RG _ _ (_ :: _) _ _ _); refine RG.go1 (k := ?_)) | ((with_reducible show DG _ _ (_ :: _) _ _ _ _ _); refine DG.go1 (k := ?_)) | (with_reducible first | apply RG.nil | apply W.seq | apply W.reg | apply W.skip | apply W.block | apply W.drw | apply DG.nil | refine W.done (QB.n ?_)) | refine W.cndT ?_ | refine W.cndF ?_))
    (first | ((with_reducible show RG _ _ (_ :: _) _ _ _); refine RG.ca (ca) (k := ?_)) | ((with_reducible show DG _ _ (_ :: _) _ _ _ _ _); refine DG.ca (ca) (k := ?_)))
    (repeat (first | ((with_reducible show RG _ _ (_ :: _) _ _ _); refine RG.go1 (k := ?_)) | ((with_reducible show DG _ _ (_ :: _) _ _ _ _ _); refine DG.go1 (k := ?_)) | (with_reducible first | apply RG.nil | apply W.seq | apply W.reg | apply W.skip | apply W.block | apply W.drw | apply DG.nil | refine W.done (QB.n ?_)) | refine W.cndT ?_ | refine W.cndF ?_))
    (first | ((with_reducible show RG _ _ (_ :: _) _ _ _); refine RG.ca (ci) (k := ?_)) | ((with_reducible show DG _ _ (_ :: _) _ _ _ _ _); refine DG.ca (ci) (k := ?_)))
    (repeat (first | ((with_reducible show RG _ _ (_ :: _) _ _ _); refine RG.go1 (k := ?_)) | ((with_reducible show DG _ _ (_ :: _) _ _ _ _ _); refine DG.go1 (k := ?_)) | (with_reducible first | apply RG.nil | apply W.seq | apply W.reg | apply W.skip | apply W.block | apply W.drw | apply DG.nil | refine W.done (QB.n ?_)) | refine W.cndT ?_ | refine W.cndF ?_))
    (first | ((with_reducible show RG _ _ (_ :: _) _ _ _); refine RG.ew (ix_of ((show 0 + ((k : Int)).toNat = k by simp))) (k := ?_)) | ((with_reducible show DG _ _ (_ :: _) _ _ _ _ _); refine DG.ew (ix_of ((show 0 + ((k : Int)).toNat = k by simp))) (k := ?_)))
    (repeat (first | ((with_reducible show RG _ _ (_ :: _) _ _ _); refine RG.go1 (k := ?_)) | ((with_reducible show DG _ _ (_ :: _) _ _ _ _ _); refine DG.go1 (k := ?_)) | (with_reducible first | apply RG.nil | apply W.seq | apply W.reg | apply W.skip | apply W.block | apply W.drw | apply DG.nil | refine W.done (QB.n ?_)) | refine W.cndT ?_ | refine W.cndF ?_))
    (first | ((with_reducible show RG _ _ (_ :: _) _ _ _); refine RG.sm (A.ldr (hx0)) (k := ?_)) | ((with_reducible show DG _ _ (_ :: _) _ _ _ _ _); refine DG.sm (A.ldr (hx0)) (k := ?_)))
    (repeat (first | ((with_reducible show RG _ _ (_ :: _) _ _ _); refine RG.go1 (k := ?_)) | ((with_reducible show DG _ _ (_ :: _) _ _ _ _ _); refine DG.go1 (k := ?_)) | (with_reducible first | apply RG.nil | apply W.seq | apply W.reg | apply W.skip | apply W.block | apply W.drw | apply DG.nil | refine W.done (QB.n ?_)) | refine W.cndT ?_ | refine W.cndF ?_))
    (first | ((with_reducible show RG _ _ (_ :: _) _ _ _); refine RG.ca (cf) (k := ?_)) | ((with_reducible show DG _ _ (_ :: _) _ _ _ _ _); refine DG.ca (cf) (k := ?_)))
    (repeat (first | ((with_reducible show RG _ _ (_ :: _) _ _ _); refine RG.go1 (k := ?_)) | ((with_reducible show DG _ _ (_ :: _) _ _ _ _ _); refine DG.go1 (k := ?_)) | (with_reducible first | apply RG.nil | apply W.seq | apply W.reg | apply W.skip | apply W.block | apply W.drw | apply DG.nil | refine W.done (QB.n ?_)) | refine W.cndT ?_ | refine W.cndF ?_))
    rw [el]
    (first | ((with_reducible show RG _ _ (_ :: _) _ _ _); refine RG.sn (A.strF hx0 (rfl : es.set k (.agg [.int .u8 x0, .int .u8 x1, .int .u8 x2, .int .u8 x3, .int .u8 x4, .int .u8 x5, .int .u8 x6, .int .u8 x7, .int .u8 xp, .int .u16 xi, .int .u8 xt, .int .u64 xs, .int .i64 (o + dt.length), .sl false 2 (got.map prt)]) = _)) (k := ?_)) | ((with_reducible show DG _ _ (_ :: _) _ _ _ _ _); refine DG.sn (A.strF hx0 (rfl : es.set k (.agg [.int .u8 x0, .int .u8 x1, .int .u8 x2, .int .u8 x3, .int .u8 x4, .int .u8 x5, .int .u8 x6, .int .u8 x7, .int .u8 xp, .int .u16 xi, .int .u8 xt, .int .u64 xs, .int .i64 (o + dt.length), .sl false 2 (got.map prt)]) = _)) (k := ?_)))
    (repeat (first | ((with_reducible show RG _ _ (_ :: _) _ _ _); refine RG.go1 (k := ?_)) | ((with_reducible show DG _ _ (_ :: _) _ _ _ _ _); refine DG.go1 (k := ?_)) | (with_reducible first | apply RG.nil | apply W.seq | apply W.reg | apply W.skip | apply W.block | apply W.drw | apply DG.nil | refine W.done (QB.n ?_)) | refine W.cndT ?_ | refine W.cndF ?_))
    (first | ((with_reducible show RG _ _ (_ :: _) _ _ _); refine RG.sm (A.ldr (hx1)) (k := ?_)) | ((with_reducible show DG _ _ (_ :: _) _ _ _ _ _); refine DG.sm (A.ldr (hx1)) (k := ?_)))
    (repeat (first | ((with_reducible show RG _ _ (_ :: _) _ _ _); refine RG.go1 (k := ?_)) | ((with_reducible show DG _ _ (_ :: _) _ _ _ _ _); refine DG.go1 (k := ?_)) | (with_reducible first | apply RG.nil | apply W.seq | apply W.reg | apply W.skip | apply W.block | apply W.drw | apply DG.nil | refine W.done (QB.n ?_)) | refine W.cndT ?_ | refine W.cndF ?_))
    (first | ((with_reducible show RG _ _ (_ :: _) _ _ _); refine RG.ca (cc) (k := ?_)) | ((with_reducible show DG _ _ (_ :: _) _ _ _ _ _); refine DG.ca (cc) (k := ?_)))
    (repeat (first | ((with_reducible show RG _ _ (_ :: _) _ _ _); refine RG.go1 (k := ?_)) | ((with_reducible show DG _ _ (_ :: _) _ _ _ _ _); refine DG.go1 (k := ?_)) | (with_reducible first | apply RG.nil | apply W.seq | apply W.reg | apply W.skip | apply W.block | apply W.drw | apply DG.nil | refine W.done (QB.n ?_)) | refine W.cndT ?_ | refine W.cndF ?_))
    (first | ((with_reducible show RG _ _ (_ :: _) _ _ _); refine RG.ca (clay) (k := ?_)) | ((with_reducible show DG _ _ (_ :: _) _ _ _ _ _); refine DG.ca (clay) (k := ?_)))
    (repeat (first | ((with_reducible show RG _ _ (_ :: _) _ _ _); refine RG.go1 (k := ?_)) | ((with_reducible show DG _ _ (_ :: _) _ _ _ _ _); refine DG.go1 (k := ?_)) | (with_reducible first | apply RG.nil | apply W.seq | apply W.reg | apply W.skip | apply W.block | apply W.drw | apply DG.nil | refine W.done (QB.n ?_)) | refine W.cndT ?_ | refine W.cndF ?_))
    (first | ((with_reducible show RG _ _ (_ :: _) _ _ _); refine RG.sn (A.strF hx1 (set_set2 (l := es) (k := k) (y := (.agg [.int .u8 x0, .int .u8 x1, .int .u8 x2, .int .u8 x3, .int .u8 x4, .int .u8 x5, .int .u8 x6, .int .u8 x7, .int .u8 xp, .int .u16 xi, .int .u8 xt, .int .u64 xs, .int .i64 (o + dt.length), .sl false 2 G2])))) (k := ?_)) | ((with_reducible show DG _ _ (_ :: _) _ _ _ _ _); refine DG.sn (A.strF hx1 (set_set2 (l := es) (k := k) (y := (.agg [.int .u8 x0, .int .u8 x1, .int .u8 x2, .int .u8 x3, .int .u8 x4, .int .u8 x5, .int .u8 x6, .int .u8 x7, .int .u8 xp, .int .u16 xi, .int .u8 xt, .int .u64 xs, .int .i64 (o + dt.length), .sl false 2 G2])))) (k := ?_)))
    (repeat (first | ((with_reducible show RG _ _ (_ :: _) _ _ _); refine RG.go1 (k := ?_)) | ((with_reducible show DG _ _ (_ :: _) _ _ _ _ _); refine DG.go1 (k := ?_)) | (with_reducible first | apply RG.nil | apply W.seq | apply W.reg | apply W.skip | apply W.block | apply W.drw | apply DG.nil | refine W.done (QB.n ?_)) | refine W.cndT ?_ | refine W.cndF ?_))
    (first | ((with_reducible show RG _ _ (_ :: _) _ _ _); refine RG.sm (A.ldr (hx2)) (k := ?_)) | ((with_reducible show DG _ _ (_ :: _) _ _ _ _ _); refine DG.sm (A.ldr (hx2)) (k := ?_)))
    (repeat (first | ((with_reducible show RG _ _ (_ :: _) _ _ _); refine RG.go1 (k := ?_)) | ((with_reducible show DG _ _ (_ :: _) _ _ _ _ _); refine DG.go1 (k := ?_)) | (with_reducible first | apply RG.nil | apply W.seq | apply W.reg | apply W.skip | apply W.block | apply W.drw | apply DG.nil | refine W.done (QB.n ?_)) | refine W.cndT ?_ | refine W.cndF ?_))
    (first | ((with_reducible show RG _ _ (_ :: _) _ _ _); refine RG.gld (hx2) (k := ?_)) | ((with_reducible show DG _ _ (_ :: _) _ _ _ _ _); refine DG.gld (hx2) (k := ?_)))
    (repeat (first | ((with_reducible show RG _ _ (_ :: _) _ _ _); refine RG.go1 (k := ?_)) | ((with_reducible show DG _ _ (_ :: _) _ _ _ _ _); refine DG.go1 (k := ?_)) | (with_reducible first | apply RG.nil | apply W.seq | apply W.reg | apply W.skip | apply W.block | apply W.drw | apply DG.nil | refine W.done (QB.n ?_)) | refine W.cndT ?_ | refine W.cndF ?_))
    (first | ((with_reducible show RG _ _ (_ :: _) _ _ _); refine RG.ewg (cptr_of (e0) (by (conv => lhs; whnf) <;> exact rfl)) (k := ?_)) | ((with_reducible show DG _ _ (_ :: _) _ _ _ _ _); refine DG.ewg (cptr_of (e0) (by (conv => lhs; whnf) <;> exact rfl)) (k := ?_)))
    (repeat (first | ((with_reducible show RG _ _ (_ :: _) _ _ _); refine RG.go1 (k := ?_)) | ((with_reducible show DG _ _ (_ :: _) _ _ _ _ _); refine DG.go1 (k := ?_)) | (with_reducible first | apply RG.nil | apply W.seq | apply W.reg | apply W.skip | apply W.block | apply W.drw | apply DG.nil | refine W.done (QB.n ?_)) | refine W.cndT ?_ | refine W.cndF ?_))
    (first | ((with_reducible show RG _ _ (_ :: _) _ _ _); refine RG.gld (hx2) (k := ?_)) | ((with_reducible show DG _ _ (_ :: _) _ _ _ _ _); refine DG.gld (hx2) (k := ?_)))
    (repeat (first | ((with_reducible show RG _ _ (_ :: _) _ _ _); refine RG.go1 (k := ?_)) | ((with_reducible show DG _ _ (_ :: _) _ _ _ _ _); refine DG.go1 (k := ?_)) | (with_reducible first | apply RG.nil | apply W.seq | apply W.reg | apply W.skip | apply W.block | apply W.drw | apply DG.nil | refine W.done (QB.n ?_)) | refine W.cndT ?_ | refine W.cndF ?_))
    (first | ((with_reducible show RG _ _ (_ :: _) _ _ _); refine RG.ewg (cptr_of (e0) (by (conv => lhs; whnf) <;> exact rfl)) (k := ?_)) | ((with_reducible show DG _ _ (_ :: _) _ _ _ _ _); refine DG.ewg (cptr_of (e0) (by (conv => lhs; whnf) <;> exact rfl)) (k := ?_)))
    (repeat (first | ((with_reducible show RG _ _ (_ :: _) _ _ _); refine RG.go1 (k := ?_)) | ((with_reducible show DG _ _ (_ :: _) _ _ _ _ _); refine DG.go1 (k := ?_)) | (with_reducible first | apply RG.nil | apply W.seq | apply W.reg | apply W.skip | apply W.block | apply W.drw | apply DG.nil | refine W.done (QB.n ?_)) | refine W.cndT ?_ | refine W.cndF ?_))
    (first | ((with_reducible show RG _ _ (_ :: _) _ _ _); refine RG.gld (hx2) (k := ?_)) | ((with_reducible show DG _ _ (_ :: _) _ _ _ _ _); refine DG.gld (hx2) (k := ?_)))
    (repeat (first | ((with_reducible show RG _ _ (_ :: _) _ _ _); refine RG.go1 (k := ?_)) | ((with_reducible show DG _ _ (_ :: _) _ _ _ _ _); refine DG.go1 (k := ?_)) | (with_reducible first | apply RG.nil | apply W.seq | apply W.reg | apply W.skip | apply W.block | apply W.drw | apply DG.nil | refine W.done (QB.n ?_)) | refine W.cndT ?_ | refine W.cndF ?_))
    (first | ((with_reducible show RG _ _ (_ :: _) _ _ _); refine RG.sm (A.ldr (hx2)) (k := ?_)) | ((with_reducible show DG _ _ (_ :: _) _ _ _ _ _); refine DG.sm (A.ldr (hx2)) (k := ?_)))
    (repeat (first | ((with_reducible show RG _ _ (_ :: _) _ _ _); refine RG.go1 (k := ?_)) | ((with_reducible show DG _ _ (_ :: _) _ _ _ _ _); refine DG.go1 (k := ?_)) | (with_reducible first | apply RG.nil | apply W.seq | apply W.reg | apply W.skip | apply W.block | apply W.drw | apply DG.nil | refine W.done (QB.n ?_)) | refine W.cndT ?_ | refine W.cndF ?_))
    (first | ((with_reducible show RG _ _ (_ :: _) _ _ _); refine RG.sm (A.ldr (hx2)) (k := ?_)) | ((with_reducible show DG _ _ (_ :: _) _ _ _ _ _); refine DG.sm (A.ldr (hx2)) (k := ?_)))
    (repeat (first | ((with_reducible show RG _ _ (_ :: _) _ _ _); refine RG.go1 (k := ?_)) | ((with_reducible show DG _ _ (_ :: _) _ _ _ _ _); refine DG.go1 (k := ?_)) | (with_reducible first | apply RG.nil | apply W.seq | apply W.reg | apply W.skip | apply W.block | apply W.drw | apply DG.nil | refine W.done (QB.n ?_)) | refine W.cndT ?_ | refine W.cndF ?_))
    (first | ((with_reducible show RG _ _ (_ :: _) _ _ _); refine RG.sm (A.ldr (hx2)) (k := ?_)) | ((with_reducible show DG _ _ (_ :: _) _ _ _ _ _); refine DG.sm (A.ldr (hx2)) (k := ?_)))
    (repeat (first | ((with_reducible show RG _ _ (_ :: _) _ _ _); refine RG.go1 (k := ?_)) | ((with_reducible show DG _ _ (_ :: _) _ _ _ _ _); refine DG.go1 (k := ?_)) | (with_reducible first | apply RG.nil | apply W.seq | apply W.reg | apply W.skip | apply W.block | apply W.drw | apply DG.nil | refine W.done (QB.n ?_)) | refine W.cndT ?_ | refine W.cndF ?_))
    (first | ((with_reducible show RG _ _ (_ :: _) _ _ _); refine RG.sm (A.ldr (hx2)) (k := ?_)) | ((with_reducible show DG _ _ (_ :: _) _ _ _ _ _); refine DG.sm (A.ldr (hx2)) (k := ?_)))
    (repeat (first | ((with_reducible show RG _ _ (_ :: _) _ _ _); refine RG.go1 (k := ?_)) | ((with_reducible show DG _ _ (_ :: _) _ _ _ _ _); refine DG.go1 (k := ?_)) | (with_reducible first | apply RG.nil | apply W.seq | apply W.reg | apply W.skip | apply W.block | apply W.drw | apply DG.nil | refine W.done (QB.n ?_)) | refine W.cndT ?_ | refine W.cndF ?_))
    (first | ((with_reducible show RG _ _ (_ :: _) _ _ _); refine RG.sm (A.ldr (hx2)) (k := ?_)) | ((with_reducible show DG _ _ (_ :: _) _ _ _ _ _); refine DG.sm (A.ldr (hx2)) (k := ?_)))
    (repeat (first | ((with_reducible show RG _ _ (_ :: _) _ _ _); refine RG.go1 (k := ?_)) | ((with_reducible show DG _ _ (_ :: _) _ _ _ _ _); refine DG.go1 (k := ?_)) | (with_reducible first | apply RG.nil | apply W.seq | apply W.reg | apply W.skip | apply W.block | apply W.drw | apply DG.nil | refine W.done (QB.n ?_)) | refine W.cndT ?_ | refine W.cndF ?_))
    (first | ((with_reducible show RG _ _ (_ :: _) _ _ _); refine RG.sm (A.ldr (hx2)) (k := ?_)) | ((with_reducible show DG _ _ (_ :: _) _ _ _ _ _); refine DG.sm (A.ldr (hx2)) (k := ?_)))
    (repeat (first | ((with_reducible show RG _ _ (_ :: _) _ _ _); refine RG.go1 (k := ?_)) | ((with_reducible show DG _ _ (_ :: _) _ _ _ _ _); refine DG.go1 (k := ?_)) | (with_reducible first | apply RG.nil | apply W.seq | apply W.reg | apply W.skip | apply W.block | apply W.drw | apply DG.nil | refine W.done (QB.n ?_)) | refine W.cndT ?_ | refine W.cndF ?_))
    (first | ((with_reducible show RG _ _ (_ :: _) _ _ _); refine RG.ew (cptr_of (e0) (by (conv => lhs; whnf) <;> exact rfl)) (k := ?_)) | ((with_reducible show DG _ _ (_ :: _) _ _ _ _ _); refine DG.ew (cptr_of (e0) (by (conv => lhs; whnf) <;> exact rfl)) (k := ?_)))
    (repeat (first | ((with_reducible show RG _ _ (_ :: _) _ _ _); refine RG.go1 (k := ?_)) | ((with_reducible show DG _ _ (_ :: _) _ _ _ _ _); refine DG.go1 (k := ?_)) | with_reducible apply RG.nil | with_reducible apply DG.nil))
    refine W.seq ?_
    refine W.drwM 4 rfl ?_
    iterate 4 refine LG.s (k := ?_)
    refine LG.mca [0] cd (k := ?_)
    repeat refine LG.n (k := ?_)
    refine LG.nil ?_
    (repeat (first | ((with_reducible show RG _ _ (_ :: _) _ _ _); refine RG.go1 (k := ?_)) | ((with_reducible show DG _ _ (_ :: _) _ _ _ _ _); refine DG.go1 (k := ?_)) | (with_reducible first | apply RG.nil | apply W.seq | apply W.reg | apply W.skip | apply W.block | apply W.drw | apply DG.nil | refine W.done (QB.n ?_)) | refine W.cndT ?_ | refine W.cndF ?_))
    (refine W.ret ?_; (repeat (with_reducible first | refine QB.r ?_ | refine QL.r ?_ | refine QC.r ?_)); refine QF.r ?_)
    (refine RetOk.wk (Wk.frz (b := 0) rfl rfl) ?_; refine RetOk.wk (Wk.tmp (t := 6) (Cl.ice rfl rfl rfl (by first | assumption | decide | omega | (simp; (first | (all_goals fail) | fail)) | (simp <;> omega)) (by first | exact take_all _ | exact take_len (by first | (simp; (first | (all_goals fail) | fail)) | (simp <;> omega)) | exact rfl))) ?_; dsimp only [setO])
    exact RetOk.rs (vs := [_, _, _, _]) r_frag_Add []
  · skip
    have hx2 := set_get (x := (.agg [.int .u8 x0, .int .u8 x1, .int .u8 x2, .int .u8 x3, .int .u8 x4, .int .u8 x5, .int .u8 x6, .int .u8 x7, .int .u8 xp, .int .u16 xi, .int .u8 xt, .int .u64 xs, .int .i64 xe, .sl false 2 G2])) (y := .any) kl
    have sl2 := set_len2 (l := es) (k := k) (x := (.agg [.int .u8 x0, .int .u8 x1, .int .u8 x2, .int .u8 x3, .int .u8 x4, .int .u8 x5, .int .u8 x6, .int .u8 x7, .int .u8 xp, .int .u16 xi, .int .u8 xt, .int .u64 xs, .int .i64 xe, .sl false 2 G2]))
    have ip : ∀ a b : Int, (if (true = true) then a else b) = a := fun a b => if_pos rfl
    have iq : ∀ a b : Int, (if (false = true) then a else b) = b := fun a b => if_neg (by decide)
    try rw [ip] at *
    try rw [iq] at *
    clear ip iq
    refine acall_walk (N := 208) Try.func11 (by kernel_rfl) p_frag_Add rfl ?_; unfold c_frag_Add; dsimp only [enum, Nat.reduceAdd]
    (repeat (first | ((with_reducible show RG _ _ (_ :: _) _ _ _); refine RG.go1 (k := ?_)) | ((with_reducible show DG _ _ (_ :: _) _ _ _ _ _); refine DG.go1 (k := ?_)) | (with_reducible first | apply RG.nil | apply W.seq | apply W.reg | apply W.skip | apply W.block | apply W.drw | apply DG.nil | refine W.done (QB.n ?_)) | refine W.cndT ?_ | refine W.cndF ?_))
    (first | ((with_reducible show RG _ _ (_ :: _) _ _ _); refine RG.ca (ca) (k := ?_)) | ((with_reducible show DG _ _ (_ :: _) _ _ _ _ _); refine DG.ca (ca) (k := ?_)))
    (repeat (first | ((with_reducible show RG _ _ (_ :: _) _ _ _); refine RG.go1 (k := ?_)) | ((with_reducible show DG _ _ (_ :: _) _ _ _ _ _); refine DG.go1 (k := ?_)) | (with_reducible first | apply RG.nil | apply W.seq | apply W.reg | apply W.skip | apply W.block | apply W.drw | apply DG.nil | refine W.done (QB.n ?_)) | refine W.cndT ?_ | refine W.cndF ?_))
    (first | ((with_reducible show RG _ _ (_ :: _) _ _ _); refine RG.ca (ci) (k := ?_)) | ((with_reducible show DG _ _ (_ :: _) _ _ _ _ _); refine DG.ca (ci) (k := ?_)))
    (repeat (first | ((with_reducible show RG _ _ (_ :: _) _ _ _); refine RG.go1 (k := ?_)) | ((with_reducible show DG _ _ (_ :: _) _ _ _ _ _); refine DG.go1 (k := ?_)) | (with_reducible first | apply RG.nil | apply W.seq | apply W.reg | apply W.skip | apply W.block | apply W.drw | apply DG.nil | refine W.done (QB.n ?_)) | refine W.cndT ?_ | refine W.cndF ?_))
    (first | ((with_reducible show RG _ _ (_ :: _) _ _ _); refine RG.ew (ix_of ((show 0 + ((k : Int)).toNat = k by simp))) (k := ?_)) | ((with_reducible show DG _ _ (_ :: _) _ _ _ _ _); refine DG.ew (ix_of ((show 0 + ((k : Int)).toNat = k by simp))) (k := ?_)))
    (repeat (first | ((with_reducible show RG _ _ (_ :: _) _ _ _); refine RG.go1 (k := ?_)) | ((with_reducible show DG _ _ (_ :: _) _ _ _ _ _); refine DG.go1 (k := ?_)) | (with_reducible first | apply RG.nil | apply W.seq | apply W.reg | apply W.skip | apply W.block | apply W.drw | apply DG.nil | refine W.done (QB.n ?_)) | refine W.cndT ?_ | refine W.cndF ?_))
    (first | ((with_reducible show RG _ _ (_ :: _) _ _ _); refine RG.sm (A.ldr (hx0)) (k := ?_)) | ((with_reducible show DG _ _ (_ :: _) _ _ _ _ _); refine DG.sm (A.ldr (hx0)) (k := ?_)))
    (repeat (first | ((with_reducible show RG _ _ (_ :: _) _ _ _); refine RG.go1 (k := ?_)) | ((with_reducible show DG _ _ (_ :: _) _ _ _ _ _); refine DG.go1 (k := ?_)) | (with_reducible first | apply RG.nil | apply W.seq | apply W.reg | apply W.skip | apply W.block | apply W.drw | apply DG.nil | refine W.done (QB.n ?_)) | refine W.cndT ?_ | refine W.cndF ?_))
    (first | ((with_reducible show RG _ _ (_ :: _) _ _ _); refine RG.ca (cf) (k := ?_)) | ((with_reducible show DG _ _ (_ :: _) _ _ _ _ _); refine DG.ca (cf) (k := ?_)))
    (repeat (first | ((with_reducible show RG _ _ (_ :: _) _ _ _); refine RG.go1 (k := ?_)) | ((with_reducible show DG _ _ (_ :: _) _ _ _ _ _); refine DG.go1 (k := ?_)) | (with_reducible first | apply RG.nil | apply W.seq | apply W.reg | apply W.skip | apply W.block | apply W.drw | apply DG.nil | refine W.done (QB.n ?_)) | refine W.cndT ?_ | refine W.cndF ?_))
    (first | ((with_reducible show RG _ _ (_ :: _) _ _ _); refine RG.sm (A.ldr (hx0)) (k := ?_)) | ((with_reducible show DG _ _ (_ :: _) _ _ _ _ _); refine DG.sm (A.ldr (hx0)) (k := ?_)))
    (repeat (first | ((with_reducible show RG _ _ (_ :: _) _ _ _); refine RG.go1 (k := ?_)) | ((with_reducible show DG _ _ (_ :: _) _ _ _ _ _); refine DG.go1 (k := ?_)) | (with_reducible first | apply RG.nil | apply W.seq | apply W.reg | apply W.skip | apply W.block | apply W.drw | apply DG.nil | refine W.done (QB.n ?_)) | refine W.cndT ?_ | refine W.cndF ?_))
    (first | ((with_reducible show RG _ _ (_ :: _) _ _ _); refine RG.ca (cc) (k := ?_)) | ((with_reducible show DG _ _ (_ :: _) _ _ _ _ _); refine DG.ca (cc) (k := ?_)))
    (repeat (first | ((with_reducible show RG _ _ (_ :: _) _ _ _); refine RG.go1 (k := ?_)) | ((with_reducible show DG _ _ (_ :: _) _ _ _ _ _); refine DG.go1 (k := ?_)) | (with_reducible first | apply RG.nil | apply W.seq | apply W.reg | apply W.skip | apply W.block | apply W.drw | apply DG.nil | refine W.done (QB.n ?_)) | refine W.cndT ?_ | refine W.cndF ?_))
    (first | ((with_reducible show RG _ _ (_ :: _) _ _ _); refine RG.ca (clay) (k := ?_)) | ((with_reducible show DG _ _ (_ :: _) _ _ _ _ _); refine DG.ca (clay) (k := ?_)))
    (repeat (first | ((with_reducible show RG _ _ (_ :: _) _ _ _); refine RG.go1 (k := ?_)) | ((with_reducible show DG _ _ (_ :: _) _ _ _ _ _); refine DG.go1 (k := ?_)) | (with_reducible first | apply RG.nil | apply W.seq | apply W.reg | apply W.skip | apply W.block | apply W.drw | apply DG.nil | refine W.done (QB.n ?_)) | refine W.cndT ?_ | refine W.cndF ?_))
    (first | ((with_reducible show RG _ _ (_ :: _) _ _ _); refine RG.sn (A.strF hx0 (rfl : es.set k (.agg [.int .u8 x0, .int .u8 x1, .int .u8 x2, .int .u8 x3, .int .u8 x4, .int .u8 x5, .int .u8 x6, .int .u8 x7, .int .u8 xp, .int .u16 xi, .int .u8 xt, .int .u64 xs, .int .i64 xe, .sl false 2 G2]) = _)) (k := ?_)) | ((with_reducible show DG _ _ (_ :: _) _ _ _ _ _); refine DG.sn (A.strF hx0 (rfl : es.set k (.agg [.int .u8 x0, .int .u8 x1, .int .u8 x2, .int .u8 x3, .int .u8 x4, .int .u8 x5, .int .u8 x6, .int .u8 x7, .int .u8 xp, .int .u16 xi, .int .u8 xt, .int .u64 xs, .int .i64 xe, .sl false 2 G2]) = _)) (k := ?_)))
    (repeat (first | ((with_reducible show RG _ _ (_ :: _) _ _ _); refine RG.go1 (k := ?_)) | ((with_reducible show DG _ _ (_ :: _) _ _ _ _ _); refine DG.go1 (k := ?_)) | (with_reducible first | apply RG.nil | apply W.seq | apply W.reg | apply W.skip | apply W.block | apply W.drw | apply DG.nil | refine W.done (QB.n ?_)) | refine W.cndT ?_ | refine W.cndF ?_))
    (first | ((with_reducible show RG _ _ (_ :: _) _ _ _); refine RG.sm (A.ldr (hx2)) (k := ?_)) | ((with_reducible show DG _ _ (_ :: _) _ _ _ _ _); refine DG.sm (A.ldr (hx2)) (k := ?_)))
    (repeat (first | ((with_reducible show RG _ _ (_ :: _) _ _ _); refine RG.go1 (k := ?_)) | ((with_reducible show DG _ _ (_ :: _) _ _ _ _ _); refine DG.go1 (k := ?_)) | (with_reducible first | apply RG.nil | apply W.seq | apply W.reg | apply W.skip | apply W.block | apply W.drw | apply DG.nil | refine W.done (QB.n ?_)) | refine W.cndT ?_ | refine W.cndF ?_))
    (first | ((with_reducible show RG _ _ (_ :: _) _ _ _); refine RG.gld (hx2) (k := ?_)) | ((with_reducible show DG _ _ (_ :: _) _ _ _ _ _); refine DG.gld (hx2) (k := ?_)))
    (repeat (first | ((with_reducible show RG _ _ (_ :: _) _ _ _); refine RG.go1 (k := ?_)) | ((with_reducible show DG _ _ (_ :: _) _ _ _ _ _); refine DG.go1 (k := ?_)) | (with_reducible first | apply RG.nil | apply W.seq | apply W.reg | apply W.skip | apply W.block | apply W.drw | apply DG.nil | refine W.done (QB.n ?_)) | refine W.cndT ?_ | refine W.cndF ?_))
    (first | ((with_reducible show RG _ _ (_ :: _) _ _ _); refine RG.ewg (cptr_of (e0) (by (conv => lhs; whnf) <;> exact rfl)) (k := ?_)) | ((with_reducible show DG _ _ (_ :: _) _ _ _ _ _); refine DG.ewg (cptr_of (e0) (by (conv => lhs; whnf) <;> exact rfl)) (k := ?_)))
    (repeat (first | ((with_reducible show RG _ _ (_ :: _) _ _ _); refine RG.go1 (k := ?_)) | ((with_reducible show DG _ _ (_ :: _) _ _ _ _ _); refine DG.go1 (k := ?_)) | (with_reducible first | apply RG.nil | apply W.seq | apply W.reg | apply W.skip | apply W.block | apply W.drw | apply DG.nil | refine W.done (QB.n ?_)) | refine W.cndT ?_ | refine W.cndF ?_))
    (first | ((with_reducible show RG _ _ (_ :: _) _ _ _); refine RG.gld (hx2) (k := ?_)) | ((with_reducible show DG _ _ (_ :: _) _ _ _ _ _); refine DG.gld (hx2) (k := ?_)))
    (repeat (first | ((with_reducible show RG _ _ (_ :: _) _ _ _); refine RG.go1 (k := ?_)) | ((with_reducible show DG _ _ (_ :: _) _ _ _ _ _); refine DG.go1 (k := ?_)) | (with_reducible first | apply RG.nil | apply W.seq | apply W.reg | apply W.skip | apply W.block | apply W.drw | apply DG.nil | refine W.done (QB.n ?_)) | refine W.cndT ?_ | refine W.cndF ?_))
    (first | ((with_reducible show RG _ _ (_ :: _) _ _ _); refine RG.ewg (cptr_of (e0) (by (conv => lhs; whnf) <;> exact rfl)) (k := ?_)) | ((with_reducible show DG _ _ (_ :: _) _ _ _ _ _); refine DG.ewg (cptr_of (e0) (by (conv => lhs; whnf) <;> exact rfl)) (k := ?_)))
    (repeat (first | ((with_reducible show RG _ _ (_ :: _) _ _ _); refine RG.go1 (k := ?_)) | ((with_reducible show DG _ _ (_ :: _) _ _ _ _ _); refine DG.go1 (k := ?_)) | (with_reducible first | apply RG.nil | apply W.seq | apply W.reg | apply W.skip | apply W.block | apply W.drw | apply DG.nil | refine W.done (QB.n ?_)) | refine W.cndT ?_ | refine W.cndF ?_))
    (first | ((with_reducible show RG _ _ (_ :: _) _ _ _); refine RG.gld (hx2) (k := ?_)) | ((with_reducible show DG _ _ (_ :: _) _ _ _ _ _); refine DG.gld (hx2) (k := ?_)))
    (repeat (first | ((with_reducible show RG _ _ (_ :: _) _ _ _); refine RG.go1 (k := ?_)) | ((with_reducible show DG _ _ (_ :: _) _ _ _ _ _); refine DG.go1 (k := ?_)) | (with_reducible first | apply RG.nil | apply W.seq | apply W.reg | apply W.skip | apply W.block | apply W.drw | apply DG.nil | refine W.done (QB.n ?_)) | refine W.cndT ?_ | refine W.cndF ?_))
    (first | ((with_reducible show RG _ _ (_ :: _) _ _ _); refine RG.sm (A.ldr (hx2)) (k := ?_)) | ((with_reducible show DG _ _ (_ :: _) _ _ _ _ _); refine DG.sm (A.ldr (hx2)) (k := ?_)))
    (repeat (first | ((with_reducible show RG _ _ (_ :: _) _ _ _); refine RG.go1 (k := ?_)) | ((with_reducible show DG _ _ (_ :: _) _ _ _ _ _); refine DG.go1 (k := ?_)) | (with_reducible first | apply RG.nil | apply W.seq | apply W.reg | apply W.skip | apply W.block | apply W.drw | apply DG.nil | refine W.done (QB.n ?_)) | refine W.cndT ?_ | refine W.cndF ?_))
    (first | ((with_reducible show RG _ _ (_ :: _) _ _ _); refine RG.sm (A.ldr (hx2)) (k := ?_)) | ((with_reducible show DG _ _ (_ :: _) _ _ _ _ _); refine DG.sm (A.ldr (hx2)) (k := ?_)))
    (repeat (first | ((with_reducible show RG _ _ (_ :: _) _ _ _); refine RG.go1 (k := ?_)) | ((with_reducible show DG _ _ (_ :: _) _ _ _ _ _); refine DG.go1 (k := ?_)) | (with_reducible first | apply RG.nil | apply W.seq | apply W.reg | apply W.skip | apply W.block | apply W.drw | apply DG.nil | refine W.done (QB.n ?_)) | refine W.cndT ?_ | refine W.cndF ?_))
    (first | ((with_reducible show RG _ _ (_ :: _) _ _ _); refine RG.sm (A.ldr (hx2)) (k := ?_)) | ((with_reducible show DG _ _ (_ :: _) _ _ _ _ _); refine DG.sm (A.ldr (hx2)) (k := ?_)))
    (repeat (first | ((with_reducible show RG _ _ (_ :: _) _ _ _); refine RG.go1 (k := ?_)) | ((with_reducible show DG _ _ (_ :: _) _ _ _ _ _); refine DG.go1 (k := ?_)) | (with_reducible first | apply RG.nil | apply W.seq | apply W.reg | apply W.skip | apply W.block | apply W.drw | apply DG.nil | refine W.done (QB.n ?_)) | refine W.cndT ?_ | refine W.cndF ?_))
    (first | ((with_reducible show RG _ _ (_ :: _) _ _ _); refine RG.sm (A.ldr (hx2)) (k := ?_)) | ((with_reducible show DG _ _ (_ :: _) _ _ _ _ _); refine DG.sm (A.ldr (hx2)) (k := ?_)))
    (repeat (first | ((with_reducible show RG _ _ (_ :: _) _ _ _); refine RG.go1 (k := ?_)) | ((with_reducible show DG _ _ (_ :: _) _ _ _ _ _); refine DG.go1 (k := ?_)) | (with_reducible first | apply RG.nil | apply W.seq | apply W.reg | apply W.skip | apply W.block | apply W.drw | apply DG.nil | refine W.done (QB.n ?_)) | refine W.cndT ?_ | refine W.cndF ?_))
    (first | ((with_reducible show RG _ _ (_ :: _) _ _ _); refine RG.sm (A.ldr (hx2)) (k := ?_)) | ((with_reducible show DG _ _ (_ :: _) _ _ _ _ _); refine DG.sm (A.ldr (hx2)) (k := ?_)))
    (repeat (first | ((with_reducible show RG _ _ (_ :: _) _ _ _); refine RG.go1 (k := ?_)) | ((with_reducible show DG _ _ (_ :: _) _ _ _ _ _); refine DG.go1 (k := ?_)) | (with_reducible first | apply RG.nil | apply W.seq | apply W.reg | apply W.skip | apply W.block | apply W.drw | apply DG.nil | refine W.done (QB.n ?_)) | refine W.cndT ?_ | refine W.cndF ?_))
    (first | ((with_reducible show RG _ _ (_ :: _) _ _ _); refine RG.sm (A.ldr (hx2)) (k := ?_)) | ((with_reducible show DG _ _ (_ :: _) _ _ _ _ _); refine DG.sm (A.ldr (hx2)) (k := ?_)))
    (repeat (first | ((with_reducible show RG _ _ (_ :: _) _ _ _); refine RG.go1 (k := ?_)) | ((with_reducible show DG _ _ (_ :: _) _ _ _ _ _); refine DG.go1 (k := ?_)) | (with_reducible first | apply RG.nil | apply W.seq | apply W.reg | apply W.skip | apply W.block | apply W.drw | apply DG.nil | refine W.done (QB.n ?_)) | refine W.cndT ?_ | refine W.cndF ?_))
    (first | ((with_reducible show RG _ _ (_ :: _) _ _ _); refine RG.ew (cptr_of (e0) (by (conv => lhs; whnf) <;> exact rfl)) (k := ?_)) | ((with_reducible show DG _ _ (_ :: _) _ _ _ _ _); refine DG.ew (cptr_of (e0) (by (conv => lhs; whnf) <;> exact rfl)) (k := ?_)))
    (repeat (first | ((with_reducible show RG _ _ (_ :: _) _ _ _); refine RG.go1 (k := ?_)) | ((with_reducible show DG _ _ (_ :: _) _ _ _ _ _); refine DG.go1 (k := ?_)) | with_reducible apply RG.nil | with_reducible apply DG.nil))
    refine W.seq ?_
    refine W.drwM 4 rfl ?_
    iterate 4 refine LG.s (k := ?_)
    refine LG.mca [0] cd (k := ?_)
    repeat refine LG.n (k := ?_)
    refine LG.nil ?_
    (repeat (first | ((with_reducible show RG _ _ (_ :: _) _ _ _); refine RG.go1 (k := ?_)) | ((with_reducible show DG _ _ (_ :: _) _ _ _ _ _); refine DG.go1 (k := ?_)) | (with_reducible first | apply RG.nil | apply W.seq | apply W.reg | apply W.skip | apply W.block | apply W.drw | apply DG.nil | refine W.done (QB.n ?_)) | refine W.cndT ?_ | refine W.cndF ?_))
    (refine W.ret ?_; (repeat (with_reducible first | refine QB.r ?_ | refine QL.r ?_ | refine QC.r ?_)); refine QF.r ?_)
    (refine RetOk.wk (Wk.frz (b := 0) rfl rfl) ?_; refine RetOk.wk (Wk.tmp (t := 6) (Cl.ice rfl rfl rfl (by first | assumption | decide | omega | (simp; (first | (all_goals fail) | fail)) | (simp <;> omega)) (by first | exact take_all _ | exact take_len (by first | (simp; (first | (all_goals fail) | fail)) | (simp <;> omega)) | exact rfl))) ?_; dsimp only [setO])
    exact RetOk.rs (vs := [_, _, _, _]) r_frag_Add []
  · skip
    have hx2 := set_get (x := (.agg [.int .u8 x0, .int .u8 x1, .int .u8 x2, .int .u8 x3, .int .u8 x4, .int .u8 x5, .int .u8 x6, .int .u8 x7, .int .u8 xp, .int .u16 xi, .int .u8 xt, .int .u64 xs, .int .i64 xe, .sl false 2 G2])) (y := .any) kl
    have sl2 := set_len2 (l := es) (k := k) (x := (.agg [.int .u8 x0, .int .u8 x1, .int .u8 x2, .int .u8 x3, .int .u8 x4, .int .u8 x5, .int .u8 x6, .int .u8 x7, .int .u8 xp, .int .u16 xi, .int .u8 xt, .int .u64 xs, .int .i64 xe, .sl false 2 G2]))
    have ip : ∀ a b : Int, (if (true = true) then a else b) = a := fun a b => if_pos rfl
    have iq : ∀ a b : Int, (if (false = true) then a else b) = b := fun a b => if_neg (by decide)
    try rw [ip] at *
    try rw [iq] at *
    clear ip iq
    refine acall_walk (N := 208) Try.func11 (by kernel_rfl) p_frag_Add rfl ?_; unfold c_frag_Add; dsimp only [enum, Nat.reduceAdd]
    (repeat (first | ((with_reducible show RG _ _ (_ :: _) _ _ _); refine RG.go1 (k := ?_)) | ((with_reducible show DG _ _ (_ :: _) _ _ _ _ _); refine DG.go1 (k := ?_)) | (with_reducible first | apply RG.nil | apply W.seq | apply W.reg | apply W.skip | apply W.block | apply W.drw | apply DG.nil | refine W.done (QB.n ?_)) | refine W.cndT ?_ | refine W.cndF ?_))
    (first | ((with_reducible show RG _ _ (_ :: _) _ _ _); refine RG.ca (ca) (k := ?_)) | ((with_reducible show DG _ _ (_ :: _) _ _ _ _ _); refine DG.ca (ca) (k := ?_)))
    (repeat (first | ((with_reducible show RG _ _ (_ :: _) _ _ _); refine RG.go1 (k := ?_)) | ((with_reducible show DG _ _ (_ :: _) _ _ _ _ _); refine DG.go1 (k := ?_)) | (with_reducible first | apply RG.nil | apply W.seq | apply W.reg | apply W.skip | apply W.block | apply W.drw | apply DG.nil | refine W.done (QB.n ?_)) | refine W.cndT ?_ | refine W.cndF ?_))
    (first | ((with_reducible show RG _ _ (_ :: _) _ _ _); refine RG.ca (ci) (k := ?_)) | ((with_reducible show DG _ _ (_ :: _) _ _ _ _ _); refine DG.ca (ci) (k := ?_)))
    (repeat (first | ((with_reducible show RG _ _ (_ :: _) _ _ _); refine RG.go1 (k := ?_)) | ((with_reducible show DG _ _ (_ :: _) _ _ _ _ _); refine DG.go1 (k := ?_)) | (with_reducible first | apply RG.nil | apply W.seq | apply W.reg | apply W.skip | apply W.block | apply W.drw | apply DG.nil | refine W.done (QB.n ?_)) | refine W.cndT ?_ | refine W.cndF ?_))
    (first | ((with_reducible show RG _ _ (_ :: _) _ _ _); refine RG.ew (ix_of ((show 0 + ((k : Int)).toNat = k by simp))) (k := ?_)) | ((with_reducible show DG _ _ (_ :: _) _ _ _ _ _); refine DG.ew (ix_of ((show 0 + ((k : Int)).toNat = k by simp))) (k := ?_)))
    (repeat (first | ((with_reducible show RG _ _ (_ :: _) _ _ _); refine RG.go1 (k := ?_)) | ((with_reducible show DG _ _ (_ :: _) _ _ _ _ _); refine DG.go1 (k := ?_)) | (with_reducible first | apply RG.nil | apply W.seq | apply W.reg | apply W.skip | apply W.block | apply W.drw | apply DG.nil | refine W.done (QB.n ?_)) | refine W.cndT ?_ | refine W.cndF ?_))
    (first | ((with_reducible show RG _ _ (_ :: _) _ _ _); refine RG.sm (A.ldr (hx0)) (k := ?_)) | ((with_reducible show DG _ _ (_ :: _) _ _ _ _ _); refine DG.sm (A.ldr (hx0)) (k := ?_)))
    (repeat (first | ((with_reducible show RG _ _ (_ :: _) _ _ _); refine RG.go1 (k := ?_)) | ((with_reducible show DG _ _ (_ :: _) _ _ _ _ _); refine DG.go1 (k := ?_)) | (with_reducible first | apply RG.nil | apply W.seq | apply W.reg | apply W.skip | apply W.block | apply W.drw | apply DG.nil | refine W.done (QB.n ?_)) | refine W.cndT ?_ | refine W.cndF ?_))
    (first | ((with_reducible show RG _ _ (_ :: _) _ _ _); refine RG.ca (cf) (k := ?_)) | ((with_reducible show DG _ _ (_ :: _) _ _ _ _ _); refine DG.ca (cf) (k := ?_)))
    (repeat (first | ((with_reducible show RG _ _ (_ :: _) _ _ _); refine RG.go1 (k := ?_)) | ((with_reducible show DG _ _ (_ :: _) _ _ _ _ _); refine DG.go1 (k := ?_)) | (with_reducible first | apply RG.nil | apply W.seq | apply W.reg | apply W.skip | apply W.block | apply W.drw | apply DG.nil | refine W.done (QB.n ?_)) | refine W.cndT ?_ | refine W.cndF ?_))
    (first | ((with_reducible show RG _ _ (_ :: _) _ _ _); refine RG.sm (A.ldr (hx0)) (k := ?_)) | ((with_reducible show DG _ _ (_ :: _) _ _ _ _ _); refine DG.sm (A.ldr (hx0)) (k := ?_)))
    (repeat (first | ((with_reducible show RG _ _ (_ :: _) _ _ _); refine RG.go1 (k := ?_)) | ((with_reducible show DG _ _ (_ :: _) _ _ _ _ _); refine DG.go1 (k := ?_)) | (with_reducible first | apply RG.nil | apply W.seq | apply W.reg | apply W.skip | apply W.block | apply W.drw | apply DG.nil | refine W.done (QB.n ?_)) | refine W.cndT ?_ | refine W.cndF ?_))
    (first | ((with_reducible show RG _ _ (_ :: _) _ _ _); refine RG.ca (cc) (k := ?_)) | ((with_reducible show DG _ _ (_ :: _) _ _ _ _ _); refine DG.ca (cc) (k := ?_)))
    (repeat (first | ((with_reducible show RG _ _ (_ :: _) _ _ _); refine RG.go1 (k := ?_)) | ((with_reducible show DG _ _ (_ :: _) _ _ _ _ _); refine DG.go1 (k := ?_)) | (with_reducible first | apply RG.nil | apply W.seq | apply W.reg | apply W.skip | apply W.block | apply W.drw | apply DG.nil | refine W.done (QB.n ?_)) | refine W.cndT ?_ | refine W.cndF ?_))
    (first | ((with_reducible show RG _ _ (_ :: _) _ _ _); refine RG.ca (clay) (k := ?_)) | ((with_reducible show DG _ _ (_ :: _) _ _ _ _ _); refine DG.ca (clay) (k := ?_)))
    (repeat (first | ((with_reducible show RG _ _ (_ :: _) _ _ _); refine RG.go1 (k := ?_)) | ((with_reducible show DG _ _ (_ :: _) _ _ _ _ _); refine DG.go1 (k := ?_)) | (with_reducible first | apply RG.nil | apply W.seq | apply W.reg | apply W.skip | apply W.block | apply W.drw | apply DG.nil | refine W.done (QB.n ?_)) | refine W.cndT ?_ | refine W.cndF ?_))
    (first | ((with_reducible show RG _ _ (_ :: _) _ _ _); refine RG.sn (A.strF hx0 (rfl : es.set k (.agg [.int .u8 x0, .int .u8 x1, .int .u8 x2, .int .u8 x3, .int .u8 x4, .int .u8 x5, .int .u8 x6, .int .u8 x7, .int .u8 xp, .int .u16 xi, .int .u8 xt, .int .u64 xs, .int .i64 xe, .sl false 2 G2]) = _)) (k := ?_)) | ((with_reducible show DG _ _ (_ :: _) _ _ _ _ _); refine DG.sn (A.strF hx0 (rfl : es.set k (.agg [.int .u8 x0, .int .u8 x1, .int .u8 x2, .int .u8 x3, .int .u8 x4, .int .u8 x5, .int .u8 x6, .int .u8 x7, .int .u8 xp, .int .u16 xi, .int .u8 xt, .int .u64 xs, .int .i64 xe, .sl false 2 G2]) = _)) (k := ?_)))
    (repeat (first | ((with_reducible show RG _ _ (_ :: _) _ _ _); refine RG.go1 (k := ?_)) | ((with_reducible show DG _ _ (_ :: _) _ _ _ _ _); refine DG.go1 (k := ?_)) | (with_reducible first | apply RG.nil | apply W.seq | apply W.reg | apply W.skip | apply W.block | apply W.drw | apply DG.nil | refine W.done (QB.n ?_)) | refine W.cndT ?_ | refine W.cndF ?_))
    (first | ((with_reducible show RG _ _ (_ :: _) _ _ _); refine RG.sm (A.ldr (hx2)) (k := ?_)) | ((with_reducible show DG _ _ (_ :: _) _ _ _ _ _); refine DG.sm (A.ldr (hx2)) (k := ?_)))
    (repeat (first | ((with_reducible show RG _ _ (_ :: _) _ _ _); refine RG.go1 (k := ?_)) | ((with_reducible show DG _ _ (_ :: _) _ _ _ _ _); refine DG.go1 (k := ?_)) | (with_reducible first | apply RG.nil | apply W.seq | apply W.reg | apply W.skip | apply W.block | apply W.drw | apply DG.nil | refine W.done (QB.n ?_)) | refine W.cndT ?_ | refine W.cndF ?_))
    (first | ((with_reducible show RG _ _ (_ :: _) _ _ _); refine RG.gld (hx2) (k := ?_)) | ((with_reducible show DG _ _ (_ :: _) _ _ _ _ _); refine DG.gld (hx2) (k := ?_)))
    (repeat (first | ((with_reducible show RG _ _ (_ :: _) _ _ _); refine RG.go1 (k := ?_)) | ((with_reducible show DG _ _ (_ :: _) _ _ _ _ _); refine DG.go1 (k := ?_)) | (with_reducible first | apply RG.nil | apply W.seq | apply W.reg | apply W.skip | apply W.block | apply W.drw | apply DG.nil | refine W.done (QB.n ?_)) | refine W.cndT ?_ | refine W.cndF ?_))
    (first | ((with_reducible show RG _ _ (_ :: _) _ _ _); refine RG.ewg (cptr_of (e0) (by (conv => lhs; whnf) <;> exact rfl)) (k := ?_)) | ((with_reducible show DG _ _ (_ :: _) _ _ _ _ _); refine DG.ewg (cptr_of (e0) (by (conv => lhs; whnf) <;> exact rfl)) (k := ?_)))
    (repeat (first | ((with_reducible show RG _ _ (_ :: _) _ _ _); refine RG.go1 (k := ?_)) | ((with_reducible show DG _ _ (_ :: _) _ _ _ _ _); refine DG.go1 (k := ?_)) | (with_reducible first | apply RG.nil | apply W.seq | apply W.reg | apply W.skip | apply W.block | apply W.drw | apply DG.nil | refine W.done (QB.n ?_)) | refine W.cndT ?_ | refine W.cndF ?_))
    (first | ((with_reducible show RG _ _ (_ :: _) _ _ _); refine RG.gld (hx2) (k := ?_)) | ((with_reducible show DG _ _ (_ :: _) _ _ _ _ _); refine DG.gld (hx2) (k := ?_)))
    (repeat (first | ((with_reducible show RG _ _ (_ :: _) _ _ _); refine RG.go1 (k := ?_)) | ((with_reducible show DG _ _ (_ :: _) _ _ _ _ _); refine DG.go1 (k := ?_)) | (with_reducible first | apply RG.nil | apply W.seq | apply W.reg | apply W.skip | apply W.block | apply W.drw | apply DG.nil | refine W.done (QB.n ?_)) | refine W.cndT ?_ | refine W.cndF ?_))
    (first | ((with_reducible show RG _ _ (_ :: _) _ _ _); refine RG.ewg (cptr_of (e0) (by (conv => lhs; whnf) <;> exact rfl)) (k := ?_)) | ((with_reducible show DG _ _ (_ :: _) _ _ _ _ _); refine DG.ewg (cptr_of (e0) (by (conv => lhs; whnf) <;> exact rfl)) (k := ?_)))
    (repeat (first | ((with_reducible show RG _ _ (_ :: _) _ _ _); refine RG.go1 (k := ?_)) | ((with_reducible show DG _ _ (_ :: _) _ _ _ _ _); refine DG.go1 (k := ?_)) | (with_reducible first | apply RG.nil | apply W.seq | apply W.reg | apply W.skip | apply W.block | apply W.drw | apply DG.nil | refine W.done (QB.n ?_)) | refine W.cndT ?_ | refine W.cndF ?_))
    (first | ((with_reducible show RG _ _ (_ :: _) _ _ _); refine RG.gld (hx2) (k := ?_)) | ((with_reducible show DG _ _ (_ :: _) _ _ _ _ _); refine DG.gld (hx2) (k := ?_)))
    (repeat (first | ((with_reducible show RG _ _ (_ :: _) _ _ _); refine RG.go1 (k := ?_)) | ((with_reducible show DG _ _ (_ :: _) _ _ _ _ _); refine DG.go1 (k := ?_)) | (with_reducible first | apply RG.nil | apply W.seq | apply W.reg | apply W.skip | apply W.block | apply W.drw | apply DG.nil | refine W.done (QB.n ?_)) | refine W.cndT ?_ | refine W.cndF ?_))
    (first | ((with_reducible show RG _ _ (_ :: _) _ _ _); refine RG.sm (A.ldr (hx2)) (k := ?_)) | ((with_reducible show DG _ _ (_ :: _) _ _ _ _ _); refine DG.sm (A.ldr (hx2)) (k := ?_)))
    (repeat (first | ((with_reducible show RG _ _ (_ :: _) _ _ _); refine RG.go1 (k := ?_)) | ((with_reducible show DG _ _ (_ :: _) _ _ _ _ _); refine DG.go1 (k := ?_)) | (with_reducible first | apply RG.nil | apply W.seq | apply W.reg | apply W.skip | apply W.block | apply W.drw | apply DG.nil | refine W.done (QB.n ?_)) | refine W.cndT ?_ | refine W.cndF ?_))
    (first | ((with_reducible show RG _ _ (_ :: _) _ _ _); refine RG.sm (A.ldr (hx2)) (k := ?_)) | ((with_reducible show DG _ _ (_ :: _) _ _ _ _ _); refine DG.sm (A.ldr (hx2)) (k := ?_)))
    (repeat (first | ((with_reducible show RG _ _ (_ :: _) _ _ _); refine RG.go1 (k := ?_)) | ((with_reducible show DG _ _ (_ :: _) _ _ _ _ _); refine DG.go1 (k := ?_)) | (with_reducible first | apply RG.nil | apply W.seq | apply W.reg | apply W.skip | apply W.block | apply W.drw | apply DG.nil | refine W.done (QB.n ?_)) | refine W.cndT ?_ | refine W.cndF ?_))
    (first | ((with_reducible show RG _ _ (_ :: _) _ _ _); refine RG.sm (A.ldr (hx2)) (k := ?_)) | ((with_reducible show DG _ _ (_ :: _) _ _ _ _ _); refine DG.sm (A.ldr (hx2)) (k := ?_)))
    (repeat (first | ((with_reducible show RG _ _ (_ :: _) _ _ _); refine RG.go1 (k := ?_)) | ((with_reducible show DG _ _ (_ :: _) _ _ _ _ _); refine DG.go1 (k := ?_)) | (with_reducible first | apply RG.nil | apply W.seq | apply W.reg | apply W.skip | apply W.block | apply W.drw | apply DG.nil | refine W.done (QB.n ?_)) | refine W.cndT ?_ | refine W.cndF ?_))
    (first | ((with_reducible show RG _ _ (_ :: _) _ _ _); refine RG.sm (A.ldr (hx2)) (k := ?_)) | ((with_reducible show DG _ _ (_ :: _) _ _ _ _ _); refine DG.sm (A.ldr (hx2)) (k := ?_)))
    (repeat (first | ((with_reducible show RG _ _ (_ :: _) _ _ _); refine RG.go1 (k := ?_)) | ((with_reducible show DG _ _ (_ :: _) _ _ _ _ _); refine DG.go1 (k := ?_)) | (with_reducible first | apply RG.nil | apply W.seq | apply W.reg | apply W.skip | apply W.block | apply W.drw | apply DG.nil | refine W.done (QB.n ?_)) | refine W.cndT ?_ | refine W.cndF ?_))
    (first | ((with_reducible show RG _ _ (_ :: _) _ _ _); refine RG.sm (A.ldr (hx2)) (k := ?_)) | ((with_reducible show DG _ _ (_ :: _) _ _ _ _ _); refine DG.sm (A.ldr (hx2)) (k := ?_)))
    (repeat (first | ((with_reducible show RG _ _ (_ :: _) _ _ _); refine RG.go1 (k := ?_)) | ((with_reducible show DG _ _ (_ :: _) _ _ _ _ _); refine DG.go1 (k := ?_)) | (with_reducible first | apply RG.nil | apply W.seq | apply W.reg | apply W.skip | apply W.block | apply W.drw | apply DG.nil | refine W.done (QB.n ?_)) | refine W.cndT ?_ | refine W.cndF ?_))
    (first | ((with_reducible show RG _ _ (_ :: _) _ _ _); refine RG.sm (A.ldr (hx2)) (k := ?_)) | ((with_reducible show DG _ _ (_ :: _) _ _ _ _ _); refine DG.sm (A.ldr (hx2)) (k := ?_)))
    (repeat (first | ((with_reducible show RG _ _ (_ :: _) _ _ _); refine RG.go1 (k := ?_)) | ((with_reducible show DG _ _ (_ :: _) _ _ _ _ _); refine DG.go1 (k := ?_)) | (with_reducible first | apply RG.nil | apply W.seq | apply W.reg | apply W.skip | apply W.block | apply W.drw | apply DG.nil | refine W.done (QB.n ?_)) | refine W.cndT ?_ | refine W.cndF ?_))
    (first | ((with_reducible show RG _ _ (_ :: _) _ _ _); refine RG.ew (cptr_of (e0) (by (conv => lhs; whnf) <;> exact rfl)) (k := ?_)) | ((with_reducible show DG _ _ (_ :: _) _ _ _ _ _); refine DG.ew (cptr_of (e0) (by (conv => lhs; whnf) <;> exact rfl)) (k := ?_)))
    (repeat (first | ((with_reducible show RG _ _ (_ :: _) _ _ _); refine RG.go1 (k := ?_)) | ((with_reducible show DG _ _ (_ :: _) _ _ _ _ _); refine DG.go1 (k := ?_)) | with_reducible apply RG.nil | with_reducible apply DG.nil))
    refine W.seq ?_
    refine W.drwM 4 rfl ?_
    iterate 4 refine LG.s (k := ?_)
    refine LG.mca [0] cd (k := ?_)
    repeat refine LG.n (k := ?_)
    refine LG.nil ?_
    (repeat (first | ((with_reducible show RG _ _ (_ :: _) _ _ _); refine RG.go1 (k := ?_)) | ((with_reducible show DG _ _ (_ :: _) _ _ _ _ _); refine DG.go1 (k := ?_)) | (with_reducible first | apply RG.nil | apply W.seq | apply W.reg | apply W.skip | apply W.block | apply W.drw | apply DG.nil | refine W.done (QB.n ?_)) | refine W.cndT ?_ | refine W.cndF ?_))
    (refine W.ret ?_; (repeat (with_reducible first | refine QB.r ?_ | refine QL.r ?_ | refine QC.r ?_)); refine QF.r ?_)
    (refine RetOk.wk (Wk.frz (b := 0) rfl rfl) ?_; refine RetOk.wk (Wk.tmp (t := 6) (Cl.ice rfl rfl rfl (by first | assumption | decide | omega | (simp; (first | (all_goals fail) | fail)) | (simp <;> omega)) (by first | exact take_all _ | exact take_len (by first | (simp; (first | (all_goals fail) | fail)) | (simp <;> omega)) | exact rfl))) ?_; dsimp only [setO])
    exact RetOk.rs (vs := [_, _, _, _]) r_frag_Add []
end Go.Proofs.Ytiejnmbpejfpgaa

namespace Go.Proofs.Ytiejnmbpejfpgaa
open Go.RowKit
set_option linter.unusedVariables false
set_option linter.unusedSimpArgs false
theorem putS_at (s v : List UInt8) (a i : Nat) (h : a + v.length ≤ s.length) : (putS s a v)[i]?.getD 0 = if i < a then s[i]?.getD 0 else if i < a + v.length then v[i - a]?.getD 0 else s[i]?.getD 0 := by
  unfold putS
  by_cases h1 : i < a
  · rw [if_pos h1, List.getElem?_append_left (by simp; omega), List.getElem?_take_of_lt h1]
  · rw [if_neg h1, List.getElem?_append_right (by simp; omega)]
    have e : (s.take a).length = a := by simp; omega
    rw [e]
    by_cases h2 : i < a + v.length
    · rw [if_pos h2, List.getElem?_append_left (by omega)]
    · rw [if_neg h2, List.getElem?_append_right (by omega), List.getElem?_drop]
      congr 2; omega
/-- A part of the bytes d, from a up to b. -/
def sg (d : List UInt8) (a b : Nat) : Prt := ⟨a, (d.take b).drop a⟩
theorem sg_len (d : List UInt8) {a b : Nat} (h : b ≤ d.length) : (sg d a b).dt.length = b - a := by
  simp only [sg, List.length_drop, List.length_take]; omega
theorem sg_at (d : List UInt8) (a b i : Nat) : (sg d a b).dt[i]?.getD 0 = if a + i < b then d[a + i]?.getD 0 else 0 := by
  simp only [sg, List.getElem?_drop]
  by_cases h : a + i < b
  · rw [if_pos h, List.getElem?_take_of_lt h]
  · rw [if_neg h, List.getElem?_eq_none (by simp; omega)]; rfl
theorem ext_getD {l m : List UInt8} (h : l.length = m.length) (he : ∀ i, i < l.length → l[i]?.getD 0 = m[i]?.getD 0) : l = m := by
  refine List.ext_getElem h fun i h1 h2 => ?_
  have := he i h1
  rwa [List.getElem?_eq_getElem h1, List.getElem?_eq_getElem h2, Option.getD_some, Option.getD_some] at this
theorem sg_Ok {d : List UInt8} {a b : Nat} (hd : d.length ≤ 1000) (hb : b ≤ d.length) (hab : a ≤ b) : (sg d a b).Ok := by
  have h1 := sg_len d (a := a) hb
  constructor
  · show (0 : Int) ≤ (a : Int); omega
  · rw [h1]; show (a : Int) + ((b - a : Nat) : Int) ≤ 1000; omega
theorem both_sg (d : List UInt8) (hd : d.length ≤ 1000) {a b c e : Nat} (hab : a ≤ b) (hb : b ≤ d.length) (hce : c ≤ e) (he : e ≤ d.length) (h1 : c ≤ b) (h2 : a ≤ e) : bothS (sg d a b) (sg d c e) = sg d (min a c) (max b e) := by
  have l1 := sg_len d (a := a) hb
  have l2 := sg_len d (a := c) he
  have l3 := sg_len d (a := min a c) (b := max b e) (by omega)
  have f : bFrom (sg d a b) (sg d c e) = ((min a c : Nat) : Int) := by
    show min (a : Int) (c : Int) = _; omega
  have t : bTo (sg d a b) (sg d c e) = ((max b e : Nat) : Int) := by
    unfold bTo
    rw [l1, l2]
    show max ((a : Int) + ((b - a : Nat) : Int)) ((c : Int) + ((e - c : Nat) : Int)) = _; omega
  have hl := bothS_len (sg_Ok hd hb hab) (sg_Ok hd he hce)
  rw [f, t] at hl
  have key : (bothS (sg d a b) (sg d c e)).dt = (sg d (min a c) (max b e)).dt := by
    refine ext_getD (by rw [l3]; omega) fun i hi => ?_
    rw [sg_at]
    have hi2 : i < max b e - min a c := by omega
    unfold bothS
    dsimp only
    rw [f, t]
    have e1 : (((max b e : Nat) : Int) - ((min a c : Nat) : Int)).toNat = max b e - min a c := by omega
    have e2 : ((sg d c e).off - ((min a c : Nat) : Int)).toNat = c - min a c := by show ((c : Int) - _).toNat = _; omega
    have e3 : ((sg d a b).off - ((min a c : Nat) : Int)).toNat = a - min a c := by show ((a : Int) - _).toNat = _; omega
    rw [e1, e2, e3]
    have z : (List.replicate (max b e - min a c) (0 : UInt8)).length = max b e - min a c := by simp
    have z1 : (putS (List.replicate (max b e - min a c) (0 : UInt8)) (c - min a c) (sg d c e).dt).length = max b e - min a c := by rw [putS_len (by rw [z, l2]; omega), z]
    rw [putS_at _ _ _ _ (by rw [z1, l1]; omega), putS_at _ _ _ _ (by rw [z, l2]; omega), l1, l2, sg_at, sg_at]
    rw [if_pos (show min a c + i < max b e by omega)]
    by_cases q1 : i < a - min a c
    · rw [if_pos q1, if_neg (by omega), if_pos (by omega), if_pos (by omega)]
      congr 2; omega
    · rw [if_neg q1]
      by_cases q2 : i < a - min a c + (b - a)
      · rw [if_pos q2, if_pos (by omega)]
        congr 2; omega
      · rw [if_neg q2, if_neg (by omega), if_pos (by omega), if_pos (by omega)]
        congr 2; omega
  have o : (bothS (sg d a b) (sg d c e)).off = (sg d (min a c) (max b e)).off := f
  generalize bothS (sg d a b) (sg d c e) = x at key o
  obtain ⟨xo, xd⟩ := x
  dsimp only at key o
  subst key o
  rfl
theorem lay_sg (d : List UInt8) (hd : d.length ≤ 1000) {a b c e : Nat} (hab : a ≤ b) (hb : b ≤ d.length) (hce : c ≤ e) (he : e ≤ d.length) (l : List Prt) :
    layS (sg d a b :: l) (sg d c e) = if b < c then sg d a b :: layS l (sg d c e) else if e < a then sg d c e :: layS l (sg d a b) else layS l (sg d (min a c) (max b e)) := by
  have l1 := sg_len d (a := a) hb
  have l2 := sg_len d (a := c) he
  have p1 : ((sg d a b).off + ((sg d a b).dt.length : Int) < (sg d c e).off) ↔ b < c := by
    rw [l1]; show ((a : Int) + ((b - a : Nat) : Int) < (c : Int)) ↔ b < c; omega
  have p2 : ((sg d c e).off + ((sg d c e).dt.length : Int) < (sg d a b).off) ↔ e < a := by
    rw [l2]; show ((c : Int) + ((e - c : Nat) : Int) < (a : Int)) ↔ e < a; omega
  rw [layS]
  by_cases q1 : b < c
  · rw [if_pos (p1.2 q1), if_pos q1]
  · rw [if_neg (fun h => q1 (p1.1 h)), if_neg q1]
    by_cases q2 : e < a
    · rw [if_pos (p2.2 q2), if_pos q2]
    · rw [if_neg (fun h => q2 (p2.1 h)), if_neg q2, both_sg d hd hab hb hce he (by omega) (by omega)]
end Go.Proofs.Ytiejnmbpejfpgaa

namespace Go.Proofs.Ytiejnmbpejfpgaa
open Go.RowKit
set_option linter.unusedVariables false
set_option linter.unusedSimpArgs false
set_option linter.unusedSectionVars false
def ps (n j : Nat) : Nat := min (176 * j) n
theorem piece_sg (q : Pk) (j : Nat) (h : 176 * j ≤ q.dt.length) : (⟨(piece q j).o, (piece q j).dt⟩ : Prt) = sg q.dt (ps q.dt.length j) (ps q.dt.length (j + 1)) := by
  have e1 : ps q.dt.length j = 176 * j := by unfold ps; omega
  unfold sg
  rw [e1]
  have e2 : (piece q j).dt = (q.dt.take (ps q.dt.length (j + 1))).drop (176 * j) := by
    show (q.dt.drop (176 * j)).take 176 = _
    rw [List.drop_take]
    unfold ps
    by_cases h5 : 176 * (j + 1) ≤ q.dt.length
    · rw [show min (176 * (j + 1)) q.dt.length - 176 * j = 176 by omega]
    · rw [show min (176 * (j + 1)) q.dt.length - 176 * j = q.dt.length - 176 * j by omega, List.take_of_length_le (by simp; omega), List.take_of_length_le (by simp)]
  rw [e2]
  show (⟨(176 * (j : Nat) : Int), _⟩ : Prt) = ⟨((176 * j : Nat) : Int), _⟩
  congr 1
theorem piece_end (q : Pk) (j : Nat) (h : 176 * j ≤ q.dt.length) : (piece q j).o + (piece q j).dt.length = (ps q.dt.length (j + 1) : Int) := by
  show 176 * (j : Int) + (((q.dt.drop (176 * j)).take 176).length : Int) = _
  rw [List.length_take, List.length_drop]
  unfold ps
  omega
def HX (q : Pk) (en : Int) (got : List Prt) : Hl := ⟨q.s0, q.s1, q.s2, q.s3, q.d0, q.d1, q.d2, q.d3, q.pr, q.i, q.tt, 5, en, got⟩
def enA (n M a i : Nat) : Int := if a + 1 = M ∨ a + 2 ≤ i then n else -1
def gotA (d : List UInt8) (M a i : Nat) : List Prt := if i ≤ a + 1 then [sg d (ps d.length (a + 1 - i)) (ps d.length (a + 1))] else [sg d 0 (ps d.length (a + 1)), sg d (ps d.length (M + a + 1 - i)) d.length]
def HA (q : Pk) (M a i : Nat) : Hl := HX q (enA q.dt.length M a i) (gotA q.dt M a i)
def sA (M a i : Nat) : Nat := if i ≤ a then a - i else M + a - i
theorem moreH_HX (q : Pk) (en : Int) (got : List Prt) (j : Nat) (h : 176 * j ≤ q.dt.length) : moreH (HX q en got) (piece q j) = HX q (if 176 * j + 176 < q.dt.length then en else ps q.dt.length (j + 1)) (layS got (sg q.dt (ps q.dt.length j) (ps q.dt.length (j + 1)))) := by
  rw [← piece_sg q j h, ← piece_end q j h]
  unfold moreH HX
  congr 1
  show (if decide (176 * j + 176 < q.dt.length) = true then en else _) = _
  simp
section
variable {q : Pk} {M a : Nat} (hM : ∀ j, j < M → 176 * j < q.dt.length) (hn : q.dt.length ≤ 176 * M) (hd : q.dt.length ≤ 1000) (ha : a < M)
include hM hn hd ha
theorem sA_lt {i : Nat} (hi : i < M) : sA M a i < M := by unfold sA; split <;> omega
theorem f_en {i : Nat} (hi : i < M) (h0 : 1 ≤ i) : (if 176 * sA M a i + 176 < q.dt.length then enA q.dt.length M a i else ps q.dt.length (sA M a i + 1)) = enA q.dt.length M a (i + 1) ∨ (i + 1 = M ∧ (if 176 * sA M a i + 176 < q.dt.length then enA q.dt.length M a i else ps q.dt.length (sA M a i + 1)) = q.dt.length) := by
  have h1 := hM (M - 1) (by omega)
  by_cases c1 : i ≤ a
  · have e : sA M a i = a - i := by unfold sA; rw [if_pos c1]
    rw [e]
    rw [if_pos (by omega)]
    refine .inl ?_
    unfold enA
    by_cases c : a + 1 = M
    · rw [if_pos (.inl c), if_pos (.inl c)]
    · rw [if_neg (by omega), if_neg (by omega)]
  · have e : sA M a i = M + a - i := by unfold sA; rw [if_neg c1]
    rw [e]
    refine .inl ?_
    unfold enA
    rw [if_pos (show a + 1 = M ∨ a + 2 ≤ i + 1 by omega)]
    by_cases c2 : i = a + 1
    · rw [if_neg (by omega)]
      unfold ps; omega
    · rw [if_pos (by omega), if_pos (by omega)]
theorem f_enD {i : Nat} (hi : i + 1 < M) : (if 176 * sA M a i + 176 < q.dt.length then enA q.dt.length M a (i + 1) else ps q.dt.length (sA M a i + 1)) = enA q.dt.length M a (i + 1) := by
  have h1 := hM (M - 1) (by omega)
  by_cases c : 176 * sA M a i + 176 < q.dt.length
  · rw [if_pos c]
  · rw [if_neg c]
    have h2 : sA M a i = M - 1 := by
      have := sA_lt hM hn hd ha (i := i) (by omega)
      have := fun h => hM (sA M a i + 1) h
      by_cases q1 : sA M a i + 1 < M
      · have := hM _ q1; omega
      · omega
    rw [h2]
    have h3 : a + 1 = M ∨ a + 2 ≤ i + 1 := by
      unfold sA at h2
      split at h2 <;> omega
    unfold enA
    rw [if_pos h3]
    unfold ps; omega
theorem f_got {i : Nat} (hi : i + 1 < M) (h0 : 1 ≤ i) : layS (gotA q.dt M a i) (sg q.dt (ps q.dt.length (sA M a i)) (ps q.dt.length (sA M a i + 1))) = gotA q.dt M a (i + 1) := by
  have h1 := hM (M - 1) (by omega)
  have hps : ∀ j, ps q.dt.length j ≤ q.dt.length := fun j => by unfold ps; omega
  have hpl : ∀ j, j < M → ps q.dt.length j = 176 * j := fun j hj => by have := hM j hj; unfold ps; omega
  have hpm : ∀ i j, i ≤ j → ps q.dt.length i ≤ ps q.dt.length j := fun i j h => by unfold ps; omega
  have hp0 : ps q.dt.length 0 = 0 := by unfold ps; omega
  have hpM : ps q.dt.length M = q.dt.length := by unfold ps; omega
  by_cases c1 : i ≤ a
  · have e : sA M a i = a - i := by unfold sA; rw [if_pos c1]
    rw [e]
    unfold gotA
    rw [if_pos (by omega), if_pos (by omega), lay_sg q.dt hd (hpm _ _ (by omega)) (hps _) (hpm _ _ (by omega)) (hps _)]
    have m1 := hpm (a - i) (a + 1) (by omega)
    have m2 := hpm (a - i) (a + 1 - i) (by omega)
    have m3 := hpm (a + 1 - i) (a + 1) (by omega)
    rw [show a - i + 1 = a + 1 - i by omega, if_neg (by omega), if_neg (by omega), Nat.min_eq_right m2, Nat.max_eq_left m3, show a + 1 - (i + 1) = a - i by omega]
    rfl
  · have e : sA M a i = M + a - i := by unfold sA; rw [if_neg c1]
    rw [e]
    by_cases c2 : i = a + 1
    · subst c2
      unfold gotA
      rw [if_pos (by omega), if_neg (by omega), lay_sg q.dt hd (hpm _ _ (by omega)) (hps _) (hpm _ _ (by omega)) (hps _)]
      have p1 := hpl (a + 1) (by omega)
      have p2 := hpl (M - 1) (by omega)
      rw [show M + a - (a + 1) = M - 1 by omega, show M - 1 + 1 = M by omega, hpM, if_pos (by omega), show a + 1 - (a + 1) = 0 by omega, hp0, show M + a + 1 - (a + 1 + 1) = M - 1 by omega]
      rfl
    · unfold gotA
      rw [if_neg (by omega), if_neg (by omega), lay_sg q.dt hd (Nat.zero_le _) (hps _) (hpm _ _ (by omega)) (hps _)]
      have p1 := hpl (a + 1) (by omega)
      have p2 := hpl (M + a - i) (by omega)
      have m1 := hps (M + a - i)
      have m2 := hpm (M + a - i) (M + a + 1 - i) (by omega)
      have m3 := hps (M + a + 1 - i)
      rw [if_pos (by omega), lay_sg q.dt hd (hps _) (Nat.le_refl _) (hpm _ _ (by omega)) (hps _), show M + a - i + 1 = M + a + 1 - i by omega, if_neg (by omega), if_neg (by omega), Nat.min_eq_right m2, Nat.max_eq_left m3, show M + a + 1 - (i + 1) = M + a - i by omega]
      rfl
theorem f_gotD {i : Nat} (hi : i + 1 < M) : layS (gotA q.dt M a (i + 1)) (sg q.dt (ps q.dt.length (sA M a i)) (ps q.dt.length (sA M a i + 1))) = gotA q.dt M a (i + 1) := by
  have h1 := hM (M - 1) (by omega)
  have hps : ∀ j, ps q.dt.length j ≤ q.dt.length := fun j => by unfold ps; omega
  have hpl : ∀ j, j < M → ps q.dt.length j = 176 * j := fun j hj => by have := hM j hj; unfold ps; omega
  have hpm : ∀ i j, i ≤ j → ps q.dt.length i ≤ ps q.dt.length j := fun i j h => by unfold ps; omega
  by_cases c1 : i ≤ a
  · have e : sA M a i = a - i := by unfold sA; rw [if_pos c1]
    rw [e]
    unfold gotA
    have m1 := hpm (a - i) (a + 1) (by omega)
    have m2 := hpm (a - i) (a - i + 1) (by omega)
    have m3 := hpm (a - i + 1) (a + 1) (by omega)
    rw [if_pos (by omega), show a + 1 - (i + 1) = a - i by omega, lay_sg q.dt hd m1 (hps _) m2 (hps _), if_neg (by omega), if_neg (by omega), Nat.min_self, Nat.max_eq_left m3]
    rfl
  · have e : sA M a i = M + a - i := by unfold sA; rw [if_neg c1]
    rw [e]
    unfold gotA
    have p1 := hpl (a + 1) (by omega)
    have p2 := hpl (M + a - i) (by omega)
    have m1 := hps (M + a - i)
    have m2 := hpm (M + a - i) (M + a - i + 1) (by omega)
    have m3 := hps (M + a - i + 1)
    rw [if_neg (by omega), show M + a + 1 - (i + 1) = M + a - i by omega, lay_sg q.dt hd (Nat.zero_le _) (hps _) m2 (hps _), if_pos (by omega), lay_sg q.dt hd (hps _) (Nat.le_refl _) m2 (hps _), if_neg (by omega), if_neg (by omega), Nat.min_self, Nat.max_eq_left m3]
    rfl
theorem f_gotL {i : Nat} (hi : i + 1 = M) (h0 : 1 ≤ i) : layS (gotA q.dt M a i) (sg q.dt (ps q.dt.length (sA M a i)) (ps q.dt.length (sA M a i + 1))) = [sg q.dt 0 q.dt.length] := by
  have h1 := hM (M - 1) (by omega)
  have hps : ∀ j, ps q.dt.length j ≤ q.dt.length := fun j => by unfold ps; omega
  have hpl : ∀ j, j < M → ps q.dt.length j = 176 * j := fun j hj => by have := hM j hj; unfold ps; omega
  have hpm : ∀ i j, i ≤ j → ps q.dt.length i ≤ ps q.dt.length j := fun i j h => by unfold ps; omega
  have hp0 : ps q.dt.length 0 = 0 := by unfold ps; omega
  have hpM : ps q.dt.length M = q.dt.length := by unfold ps; omega
  by_cases c1 : i ≤ a
  · have e : sA M a i = 0 := by unfold sA; rw [if_pos c1]; omega
    rw [e]
    unfold gotA
    have m1 := hps 1
    rw [if_pos (by omega), show a + 1 - i = 1 by omega, show a + 1 = M by omega, hp0, hpM, Nat.zero_add, lay_sg q.dt hd m1 (Nat.le_refl _) (Nat.zero_le _) (hps _), if_neg (by omega), if_neg (by omega), Nat.min_zero, Nat.max_eq_left m1]
    rfl
  · have e : sA M a i = a + 1 := by unfold sA; rw [if_neg c1]; omega
    rw [e]
    by_cases c2 : i = a + 1
    · unfold gotA
      have m1 := hps (a + 1)
      rw [if_pos (by omega), show a + 1 - i = 0 by omega, show a + 1 + 1 = M by omega, hp0, hpM, lay_sg q.dt hd (Nat.zero_le _) m1 m1 (Nat.le_refl _), if_neg (by omega), if_neg (by omega), Nat.zero_min, Nat.max_eq_right m1]
      rfl
    · unfold gotA
      have m1 := hps (a + 1)
      have m2 := hps (a + 2)
      have m3 := hpm (a + 1) (a + 2) (by omega)
      rw [if_neg (by omega), show M + a + 1 - i = a + 2 by omega, show a + 1 + 1 = a + 2 by omega, lay_sg q.dt hd (Nat.zero_le _) m1 m3 m2, if_neg (by omega), if_neg (by omega), Nat.zero_min, Nat.max_eq_right m3, lay_sg q.dt hd m2 (Nat.le_refl _) (Nat.zero_le _) m2, if_neg (by omega), if_neg (by omega), Nat.min_zero, Nat.max_eq_left m2]
      rfl
end
end Go.Proofs.Ytiejnmbpejfpgaa

namespace Go.Proofs.Ytiejnmbpejfpgaa
open Go.RowKit
set_option linter.unusedVariables false
set_option linter.unusedSimpArgs false
set_option linter.unusedSectionVars false
set_option maxRecDepth 100000
set_option maxHeartbeats 4000000
theorem sg_end (d : List UInt8) {a b : Nat} (hab : a ≤ b) (hb : b ≤ d.length) : (sg d a b).off + ((sg d a b).dt.length : Int) = b := by
  rw [sg_len d hb]; show (a : Int) + ((b - a : Nat) : Int) = b; omega
theorem been0 (now : Int) (h0 : 0 ≤ now) (h1 : now ≤ 18446744073709551615) : Been [] now [] := ⟨by decide, (fun h hh => by cases hh), h0, h1, rfl⟩
section
variable {q : Pk} {M a : Nat} (h2 : 176 < q.dt.length) (hM : ∀ j, j < M → 176 * j < q.dt.length) (hn : q.dt.length ≤ 176 * M) (hd : q.dt.length ≤ 1000) (ha : a < M)
include h2 hM hn hd ha
theorem piece_V {j : Nat} (hj : j < M) : (piece q j).V := by
  have h3 := hM j hj
  have hl : (piece q j).dt.length = min 176 (q.dt.length - 176 * j) := by simp [piece]
  have ho : (piece q j).o = 176 * (j : Int) := rfl
  have hm : (piece q j).mo = decide (176 * j + 176 < q.dt.length) := rfl
  refine ⟨by rw [ho]; omega, by rw [ho, hl]; omega, by rw [ho]; omega, fun h => ?_, by rw [hl]; omega, ?_⟩
  · rw [hm] at h
    have := of_decide_eq_true h
    rw [hl]; omega
  · by_cases h0 : j = 0
    · subst h0
      exact .inl (by rw [hm]; exact decide_eq_true (by omega))
    · exact .inr (by rw [ho]; omega)
theorem got_ok {i : Nat} (h0 : 1 ≤ i) (hi : i ≤ M) : (gotA q.dt M a i).length ≤ 2 ∧ ∀ g ∈ gotA q.dt M a i, g.Ok ∧ g.off + g.dt.length ≤ q.dt.length := by
  have hps : ∀ j, ps q.dt.length j ≤ q.dt.length := fun j => by unfold ps; omega
  have hpm : ∀ i j, i ≤ j → ps q.dt.length i ≤ ps q.dt.length j := fun i j h => by unfold ps; omega
  have key : ∀ x y, x ≤ y → y ≤ q.dt.length → (sg q.dt x y).Ok ∧ (sg q.dt x y).off + ((sg q.dt x y).dt.length : Int) ≤ q.dt.length := fun x y hxy hy =>
    ⟨sg_Ok hd hy hxy, by rw [sg_end q.dt hxy hy]; omega⟩
  unfold gotA
  split
  · refine ⟨by simp, fun g hg => ?_⟩
    simp only [List.mem_singleton] at hg
    subst hg
    exact key _ _ (hpm _ _ (by omega)) (hps _)
  · refine ⟨by simp, fun g hg => ?_⟩
    simp only [List.mem_cons, List.not_mem_nil, or_false] at hg
    rcases hg with rfl | rfl
    · exact key _ _ (Nat.zero_le _) (hps _)
    · exact key _ _ (hps _) (Nat.le_refl _)
theorem beenA {i : Nat} (h0 : 1 ≤ i) (hi : i ≤ M) : Been [HA q M a i] 5 [HA q M a i] := by
  obtain ⟨g1, g2⟩ := got_ok h2 hM hn hd ha h0 hi
  refine ⟨by simp, fun h hh => ?_, by decide, by decide, rfl⟩
  simp only [List.mem_singleton] at hh
  subst hh
  exact ⟨by show (gotA q.dt M a i).length ≤ 100; omega, fun g hg => (g2 g hg).1, ⟨by show (0 : Int) ≤ 5; decide, by show (5 : Int) ≤ _; decide⟩⟩
theorem moreA {i j : Nat} (h0 : 1 ≤ i) (hi : i ≤ M) (hj : j < M) : More [HA q M a i] (piece q j) 0 (HA q M a i) := by
  obtain ⟨g1, g2⟩ := got_ok h2 hM hn hd ha h0 hi
  have h3 := hM j hj
  have he := piece_end q j (by omega)
  have hm : (piece q j).mo = decide (176 * j + 176 < q.dt.length) := rfl
  refine ⟨Nat.zero_lt_one, rfl, ?_, fun k g hk => by omega, ?_⟩
  · exact decide_eq_true ⟨⟨rfl, rfl, rfl, rfl⟩, ⟨rfl, rfl, rfl, rfl⟩, rfl, rfl⟩
  · rw [he]
    have hps : ps q.dt.length (j + 1) ≤ q.dt.length := by unfold ps; omega
    have hmo : (piece q j).mo = true ∨ ps q.dt.length (j + 1) = q.dt.length := by
      rw [hm]
      by_cases c : 176 * j + 176 < q.dt.length
      · exact .inl (decide_eq_true c)
      · exact .inr (by unfold ps; omega)
    have hen : (HA q M a i).en = q.dt.length ∨ (HA q M a i).en = -1 := by
      show enA q.dt.length M a i = _ ∨ enA q.dt.length M a i = _
      unfold enA
      split
      · exact .inl rfl
      · exact .inr rfl
    rcases hen with e | e
    · rw [e]
      exact .inl ⟨by omega, by omega, hmo.imp id fun h => by rw [h]⟩
    · rw [e]
      refine .inr ⟨by decide, hmo.imp id fun h g hg => ?_⟩
      rw [h]; exact (g2 g hg).2
theorem add_inc {i j k : Nat} (h0 : 1 ≤ i) (hi : i ≤ M) (hj : j < M) (hk0 : 1 ≤ k) (hk : k < M) (he : moreH (HA q M a i) (piece q j) = HA q M a k) :
    ACall Try.prog 11 [.sl true 14 ([HA q M a i].map hol), pk false (piece q j), .int .u64 5] (.tup [.sl false 14 ([HA q M a k].map hol), pkz, .bool false, .int .i64 0]) [] := by
  have b := beenA h2 hM hn hd ha h0 hi
  have v := piece_V h2 hM hn hd ha hj
  have m := moreA h2 hM hn hd ha h0 hi hj
  have hps : ∀ j, ps q.dt.length j ≤ q.dt.length := fun j => by unfold ps; omega
  have hpm : ∀ i j, i ≤ j → ps q.dt.length i ≤ ps q.dt.length j := fun i j h => by unfold ps; omega
  rw [← he]
  by_cases c1 : k ≤ a + 1
  · have hg : (moreH (HA q M a i) (piece q j)).got = [sg q.dt (ps q.dt.length (a + 1 - k)) (ps q.dt.length (a + 1))] := by
      rw [he]; show gotA q.dt M a k = _; unfold gotA; rw [if_pos c1]
    by_cases c2 : ps q.dt.length (a + 1 - k) = 0
    · refine add_incC b (piece q j) v 0 _ m _ hg ?_ ?_
      · rw [c2]; rfl
      · rw [he]
        have hk1 : k = a + 1 := by
          have := hM (a + 1 - k)
          unfold ps at c2
          omega
        rw [show (HA q M a k).en = -1 by show enA _ _ _ _ = _; unfold enA; rw [if_neg (by omega)]]
        omega
    · refine add_incB b (piece q j) v 0 _ m _ hg ?_
      show ((ps q.dt.length (a + 1 - k) : Nat) : Int) ≠ 0
      omega
  · refine add_incA b (piece q j) v 0 _ m ?_
    rw [he]
    show (gotA q.dt M a k).length ≠ 1
    unfold gotA
    rw [if_neg c1]
    simp
theorem add0_ok : ACall Try.prog 11 [.sl true 14 [], pk false (piece q (sA M a 0)), .int .u64 5] (.tup [.sl false 14 ([HA q M a 1].map hol), pkz, .bool false, .int .i64 0]) [] := by
  have e0 : sA M a 0 = a := by unfold sA; rw [if_pos (Nat.zero_le _)]; omega
  rw [e0]
  have h := add_new (been0 5 (by decide) (by decide)) (piece q a) (piece_V h2 hM hn hd ha ha) rfl (by decide)
  have e : newH (piece q a) 5 = HA q M a 1 := by
    have h3 := hM a ha
    have g : gotA q.dt M a 1 = [⟨(piece q a).o, (piece q a).dt⟩] := by
      unfold gotA
      rw [if_pos (by omega), piece_sg q a (by omega), show a + 1 - 1 = a by omega]
    have n : enA q.dt.length M a 1 = if (piece q a).mo = true then -1 else (piece q a).o + (piece q a).dt.length := by
      rw [piece_end q a (by omega)]
      show _ = if decide (176 * a + 176 < q.dt.length) = true then _ else _
      unfold enA
      by_cases c : a + 1 = M
      · rw [if_pos (.inl c), if_neg (by simp; omega)]
        unfold ps; omega
      · have := hM (a + 1) (by omega)
        rw [if_neg (by omega), if_pos (by simp; omega)]
    unfold HA
    rw [g, n]
    rfl
  rw [e] at h
  exact h
theorem addS_ok {i : Nat} (h0 : 1 ≤ i) (hi : i + 1 < M) : ACall Try.prog 11 [.sl true 14 ([HA q M a i].map hol), pk false (piece q (sA M a i)), .int .u64 5] (.tup [.sl false 14 ([HA q M a (i + 1)].map hol), pkz, .bool false, .int .i64 0]) [] := by
  have hs := sA_lt hM hn hd ha (i := i) (by omega)
  refine add_inc h2 hM hn hd ha h0 (by omega) hs (by omega) hi ?_
  have := hM _ hs
  unfold HA
  rw [moreH_HX q _ _ _ (by omega), f_got hM hn hd ha hi h0]
  rcases f_en hM hn hd ha (i := i) (by omega) h0 with e | e
  · rw [e]
  · omega
theorem addD_ok {i : Nat} (hi : i + 1 < M) : ACall Try.prog 11 [.sl true 14 ([HA q M a (i + 1)].map hol), pk false (piece q (sA M a i)), .int .u64 5] (.tup [.sl false 14 ([HA q M a (i + 1)].map hol), pkz, .bool false, .int .i64 0]) [] := by
  have hs := sA_lt hM hn hd ha (i := i) (by omega)
  refine add_inc h2 hM hn hd ha (by omega) (by omega) hs (by omega) hi ?_
  have := hM _ hs
  unfold HA
  rw [moreH_HX q _ _ _ (by omega), f_gotD hM hn hd ha hi, f_enD hM hn hd ha hi]
theorem addL_ok (hq0 : q.o = 0) (hqm : q.mo = false) {i : Nat} (h0 : 1 ≤ i) (hi : i + 1 = M) : ACall Try.prog 11 [.sl true 14 ([HA q M a i].map hol), pk false (piece q (sA M a i)), .int .u64 5] (.tup [.sl false 14 [], pk false q, .bool true, .int .i64 0]) [] := by
  have hs := sA_lt hM hn hd ha (i := i) (by omega)
  have h3 := hM _ hs
  have hmo := moreH_HX q (enA q.dt.length M a i) (gotA q.dt M a i) (sA M a i) (by omega)
  rw [f_gotL hM hn hd ha hi h0] at hmo
  have hen : (if 176 * sA M a i + 176 < q.dt.length then enA q.dt.length M a i else ps q.dt.length (sA M a i + 1)) = (q.dt.length : Int) := by
    rcases f_en hM hn hd ha (i := i) (by omega) h0 with e | e
    · rw [e]; unfold enA; rw [if_pos (by omega)]
    · exact e.2
  rw [hen] at hmo
  have h := add_whl (beenA h2 hM hn hd ha h0 (by omega)) (piece q (sA M a i)) (piece_V h2 hM hn hd ha hs) 0 (HA q M a i) (moreA h2 hM hn hd ha h0 (by omega) hs) (sg q.dt 0 q.dt.length) (by rw [show HA q M a i = HX q (enA q.dt.length M a i) (gotA q.dt M a i) from rfl, hmo]; rfl) rfl (by
    rw [show HA q M a i = HX q (enA q.dt.length M a i) (gotA q.dt M a i) from rfl, hmo, sg_len q.dt (Nat.le_refl _)]; rfl)
  have e : wholeP (HA q M a i) (sg q.dt 0 q.dt.length).dt = q := by
    obtain ⟨x1, x2, x3, x4, x5, x6, x7, x8, x9, xa, xb, xc, xd, dt⟩ := q
    dsimp only at hq0 hqm
    subst hq0 hqm
    show (⟨x1, false, 0, x4, x5, x6, x7, x8, x9, xa, xb, xc, xd, (dt.take dt.length).drop 0⟩ : Pk) = _
    rw [List.take_length]; rfl
  rw [e] at h
  exact h
end
end Go.Proofs.Ytiejnmbpejfpgaa

namespace Go.Proofs.Ytiejnmbpejfpgaa
open Go.RowKit
set_option linter.unusedVariables false
set_option linter.unusedSimpArgs false
set_option maxRecDepth 100000
set_option maxHeartbeats 4000000
end Go.Proofs.Ytiejnmbpejfpgaa

namespace Go.Proofs.Ytiejnmbpejfpgaa
open Go.RowKit
set_option linter.unusedVariables false
set_option linter.unusedSimpArgs false
set_option maxRecDepth 100000
set_option maxHeartbeats 4000000
theorem Below.frame {W w' : World} (h : Below W.heap.size W w') (may : MemPlace → Prop) : W.keptBut w' may := by
  refine ⟨h.os, h.output, fun i hi => ?_⟩
  rw [h.block i hi]
  split <;> simp_all
theorem Below.same {W w' : World} (h : Below W.heap.size W w') {p : MemPlace} (hp : p.block < W.heap.size) : W.sameAt w' p := by
  cases p with
  | cell b o => exact World.cell?_of_block (w := W) (h.block b hp)
  | map b => exact h.block b hp
theorem Below.trod {H : Type} {enc : TypeId × Value → H} {P : Program} {t : TypeId} (hl : laidOutB P = true) (hr : P.readableRec t = true) (hrow : t < P.types.size) {W W' : World} {v : Value} {d : DataW H} {ps : List MemPlace}
    (h : DataW.Trod enc P W 0 (fun _ => true) true t v d ps) (hb : Below W.heap.size W W') (hlt : ∀ x ∈ ps, x.block < W.heap.size) :
    DataW.Trod enc P W' 0 (fun b => decide (b < W.heap.size)) true t v d ps :=
  WideElems.Trod_stays hl hr hrow h (fun x hx => hb.same (hlt x hx)) (fun x hx => by simpa using hlt x hx)
theorem pk_arg {w : World} {r : Reach} {b0 base : Nat} {H : Type} {enc : TypeId × Value → H} {spare : Nat → Bool} {held : Bool} {v : Value} {d : DataW H} {p : List MemPlace} (hv : Value.okWide Try.prog w r b0 27 v) (k : DataW.Trod enc Try.prog w base spare held 27 v d p) :
    ∃ q : Pk, Rep0 (fun x => x < w.heap.size) w v (pk false q) ∧ q.dt.length ≤ maxLen := by
  obtain ⟨cs0, hr, hf⟩ := arg_agg (n := 5) (ts := [.int .u16, .bool, .int .i64, .int .u8, .int .u8, .int .u8, .int .u8, .int .u8, .int .u8, .int .u8, .int .u8, .int .u8, .int .u8, .sl [.int .u8]]) (.inl ⟨_, Try.underlying27⟩) (by kernel_rfl) hv k
  obtain ⟨_, cs, rfl, h0, h⟩ := hf.inv
  obtain ⟨_, cs, rfl, h1, h⟩ := h.inv
  obtain ⟨_, cs, rfl, h2, h⟩ := h.inv
  obtain ⟨_, cs, rfl, h3, h⟩ := h.inv
  obtain ⟨_, cs, rfl, h4, h⟩ := h.inv
  obtain ⟨_, cs, rfl, h5, h⟩ := h.inv
  obtain ⟨_, cs, rfl, h6, h⟩ := h.inv
  obtain ⟨_, cs, rfl, h7, h⟩ := h.inv
  obtain ⟨_, cs, rfl, h8, h⟩ := h.inv
  obtain ⟨_, cs, rfl, h9, h⟩ := h.inv
  obtain ⟨_, cs, rfl, ha, h⟩ := h.inv
  obtain ⟨_, cs, rfl, hb, h⟩ := h.inv
  obtain ⟨_, cs, rfl, hc, h⟩ := h.inv
  obtain ⟨_, cs, rfl, hd, h⟩ := h.inv
  cases h.inv0
  obtain ⟨z0, rfl, _⟩ := h0.int_inv
  obtain ⟨z1, rfl⟩ := h1.bool_inv
  obtain ⟨z2, rfl, _⟩ := h2.int_inv
  obtain ⟨z3, rfl, _⟩ := h3.int_inv
  obtain ⟨z4, rfl, _⟩ := h4.int_inv
  obtain ⟨z5, rfl, _⟩ := h5.int_inv
  obtain ⟨z6, rfl, _⟩ := h6.int_inv
  obtain ⟨z7, rfl, _⟩ := h7.int_inv
  obtain ⟨z8, rfl, _⟩ := h8.int_inv
  obtain ⟨z9, rfl, _⟩ := h9.int_inv
  obtain ⟨za, rfl, _⟩ := ha.int_inv
  obtain ⟨zb, rfl, _⟩ := hb.int_inv
  obtain ⟨zc, rfl, _⟩ := hc.int_inv
  obtain ⟨dt, rfl, hl⟩ := hd.bytes
  exact ⟨⟨z0, z1, z2, z3, z4, z5, z6, z7, z8, z9, za, zb, zc, dt⟩, hr, hl⟩
theorem len_le {α : Type} {l : List α} (h : l.length ≤ maxLen) : (l.length : Int) ≤ 9223372036854775807 := by
  unfold maxLen at h
  omega
end Go.Proofs.Ytiejnmbpejfpgaa

namespace Go.Proofs.Ytiejnmbpejfpgaa
open Go.RowKit
set_option linter.unusedVariables false
set_option linter.unusedSimpArgs false
set_option maxRecDepth 100000
set_option maxHeartbeats 4000000
theorem pieces_at (q : Pk) (m j : Nat) (h : j < (pieces q m).length) : (pieces q m)[j] = piece q j := by simp [pieces]
end Go.Proofs.Ytiejnmbpejfpgaa
