/- Add: the last piece of a packet. -/
import Derived.Test.YtiejnmbpejfpgaaFh8
import Derived.Test.YtiejnmbpejfpgaaAxD
import Derived.Test.YtiejnmbpejfpgaaFh2
namespace Go.Proofs.Ytiejnmbpejfpgaa
open Go.RowKit
set_option linter.unusedVariables false
set_option linter.unusedSimpArgs false
set_option maxRecDepth 100000
set_option maxHeartbeats 4000000
theorem add_whl {l Y : List Hl} {now : Int} (b : Been l now Y) (p : Pk) (v : p.V) (k : Nat) (h : Hl) (m : More Y p k h) (g0 : Prt) (hgi : (moreH h p).got = [g0]) (h0f : g0.off = 0) (heq : (g0.dt.length : Int) = (moreH h p).en) :
    ACall Try.prog 11 [.sl true 14 (l.map hol), pk false p, .int .u64 now] (.tup [.sl false 14 ((Y.eraseIdx k).map hol), pk false (wholeP h g0.dt), .bool true, .int .i64 0]) [] := by
  have ca := b.age
  have ci := b.index p
  rw [m.idx] at ci
  have yl := ho_len Y
  have yp := ho_pure Y
  have yn := b.yn
  have vc := v.cases
  have hlt := m.lt
  have hx0 : (Y.map hol)[k]?.getD .any = .agg [.int .u8 h.s0, .int .u8 h.s1, .int .u8 h.s2, .int .u8 h.s3, .int .u8 h.d0, .int .u8 h.d1, .int .u8 h.d2, .int .u8 h.d3, .int .u8 h.pr, .int .u16 h.i, .int .u8 h.tt, .int .u64 h.since, .int .i64 h.en, .sl false 2 (h.got.map prt)] := by rw [List.getElem?_map, m.at_]; rfl
  have hgd := b.yg h (List.mem_of_getElem? m.at_)
  have clay := fragLay_ok h.got (by have := hgd.n; omega) hgd.o ⟨p.o, p.dt⟩ ⟨v.lo, v.hi⟩
  have cf := fragFits_ok h p (p.o + p.dt.length) (by have := hgd.n; omega) hgd.o m.f
  obtain ⟨v1, v2, v3, -, v5, -⟩ := v
  have cc := ybCloneF_ok p.dt (by omega) v5
  have hgl := pr_len (moreH h p).got
  have cd := hoDel1_ok (Y.set k (moreH h p)) (by rw [List.length_set]; omega) k (by rw [List.length_set]; exact hlt)
  rw [List.length_set, List.map_set, List.eraseIdx_set_eq] at cd
  have le3 : ((Y.eraseIdx k).map hol).length = Y.length - 1 := by rw [List.length_map, List.length_eraseIdx, if_pos hlt]
  clear b m hgd
  unfold moreH at *
  obtain ⟨i, mo, o, tt, pr, s0, s1, s2, s3, d0, d1, d2, d3, dt⟩ := p
  obtain ⟨x0, x1, x2, x3, x4, x5, x6, x7, xp, xi, xt, xs, xe, got⟩ := h
  dsimp only at *
  have el := by8_len dt
  unfold pkc at ci
  unfold prt at clay
  unfold hol pk pkc at cf
  try unfold pkz
  unfold pk pkc
  rw [show (List.map (fun x => AV.agg [.int .i64 x.off, .sl false 1 (x.dt.map by8)]) got) = got.map prt from rfl, show (List.map (fun x => AV.agg [.int .i64 x.off, .sl false 1 (x.dt.map by8)]) (layS got ⟨o, dt⟩)) = (layS got ⟨o, dt⟩).map prt from rfl] at clay
  dsimp only at ci clay cf hx0 ⊢
  unfold wholeP
  dsimp only [hol] at cd ⊢
  have e0 : ((layS got ⟨o, dt⟩).map prt)[Int.toNat 0]?.getD .any = .agg [.int .i64 g0.off, .sl false 1 (g0.dt.map by8)] := by rw [hgi]; rfl
  have l1 : ((layS got ⟨o, dt⟩).map prt).length = 1 := by rw [hgi]; rfl
  clear hgi hgl
  rw [h0f] at e0
  generalize (layS got ⟨o, dt⟩).map prt = G2 at *
  generalize Y.map hol = es at *
  generalize Y.length = n at *
  have kl : k < es.length := by omega
  have el0 := by8_len g0.dt
  generalize (Y.eraseIdx k).map hol = E3 at *
  rcases vc with ⟨rfl, w1⟩ | ⟨rfl, rfl, w2⟩ | ⟨rfl, w1, w2⟩
  · have hx1 := set_get (x := (.agg [.int .u8 x0, .int .u8 x1, .int .u8 x2, .int .u8 x3, .int .u8 x4, .int .u8 x5, .int .u8 x6, .int .u8 x7, .int .u8 xp, .int .u16 xi, .int .u8 xt, .int .u64 xs, .int .i64 (o + dt.length), .sl false 2 (got.map prt)])) (y := .any) kl
    have sl1 := set_len2 (l := es) (k := k) (x := (.agg [.int .u8 x0, .int .u8 x1, .int .u8 x2, .int .u8 x3, .int .u8 x4, .int .u8 x5, .int .u8 x6, .int .u8 x7, .int .u8 xp, .int .u16 xi, .int .u8 xt, .int .u64 xs, .int .i64 (o + dt.length), .sl false 2 (got.map prt)]))
    have hx2 := set_get (x := (.agg [.int .u8 x0, .int .u8 x1, .int .u8 x2, .int .u8 x3, .int .u8 x4, .int .u8 x5, .int .u8 x6, .int .u8 x7, .int .u8 xp, .int .u16 xi, .int .u8 xt, .int .u64 xs, .int .i64 (o + dt.length), .sl false 2 G2])) (y := .any) kl
    have sl2 := set_len2 (l := es) (k := k) (x := (.agg [.int .u8 x0, .int .u8 x1, .int .u8 x2, .int .u8 x3, .int .u8 x4, .int .u8 x5, .int .u8 x6, .int .u8 x7, .int .u8 xp, .int .u16 xi, .int .u8 xt, .int .u64 xs, .int .i64 (o + dt.length), .sl false 2 G2]))
    have ip : ∀ a b : Int, (if (true = true) then a else b) = a := fun a b => if_pos rfl
    have iq : ∀ a b : Int, (if (false = true) then a else b) = b := fun a b => if_neg (by decide)
    try rw [ip] at *
    try rw [iq] at *
    clear ip iq
    refine acall_walk (N := 208) Try.func11 (by kernel_rfl) p_frag_Add rfl ?_; unfold c_frag_Add; dsimp only [enum, Nat.reduceAdd]
    (repeat (first | ((with_reducible show RG _ _ (_ :: _) _ _ _); refine RG.go1 (k := ?_)) | ((with_reducible show DG _ _ (_ :: _) _ _ _ _ _); refine DG.go1 (k := ?_)) | (with_reducible first | apply RG.nil | apply W.seq | apply W.reg | apply W.skip | apply W.block | apply W.drw | apply DG.nil | refine W.done (QB.n ?_)) | refine W.cndT ?_ | refine W.cndF ?_))
    (first | ((with_reducible show RG _ _ (_ :: _) _ _ _); refine RG.ca (ca) (k := ?_)) | ((with_reducible show DG _ _ (_ :: _) _ _ _ _ _); refine DG.ca (ca) (k := ?_)))
    (repeat (first | ((with_reducible show RG _ _ (_ :: _) _ _ _); refine RG.go1 (k := ?_)) | ((with_reducible show DG _ _ (_ :: _) _ _ _ _ _); refine DG.go1 (k := ?_)) | (with_reducible first | apply RG.nil | apply W.seq | apply W.reg | apply W.skip | apply W.block | apply W.drw | apply DG.nil | refine W.done (QB.n ?_)) | refine W.cndT ?_ | refine W.cndF ?_))
    (first | ((with_reducible show RG _ _ (_ :: _) _ _ _); refine RG.ca (ci) (k := ?_)) | ((with_reducible show DG _ _ (_ :: _) _ _ _ _ _); refine DG.ca (ci) (k := ?_)))
    (repeat (first | ((with_reducible show RG _ _ (_ :: _) _ _ _); refine RG.go1 (k := ?_)) | ((with_reducible show DG _ _ (_ :: _) _ _ _ _ _); refine DG.go1 (k := ?_)) | (with_reducible first | apply RG.nil | apply W.seq | apply W.reg | apply W.skip | apply W.block | apply W.drw | apply DG.nil | refine W.done (QB.n ?_)) | refine W.cndT ?_ | refine W.cndF ?_))
    (first | ((with_reducible show RG _ _ (_ :: _) _ _ _); refine RG.ew (ix_of ((show 0 + ((k : Int)).toNat = k by simp))) (k := ?_)) | ((with_reducible show DG _ _ (_ :: _) _ _ _ _ _); refine DG.ew (ix_of ((show 0 + ((k : Int)).toNat = k by simp))) (k := ?_)))
    (repeat (first | ((with_reducible show RG _ _ (_ :: _) _ _ _); refine RG.go1 (k := ?_)) | ((with_reducible show DG _ _ (_ :: _) _ _ _ _ _); refine DG.go1 (k := ?_)) | (with_reducible first | apply RG.nil | apply W.seq | apply W.reg | apply W.skip | apply W.block | apply W.drw | apply DG.nil | refine W.done (QB.n ?_)) | refine W.cndT ?_ | refine W.cndF ?_))
    (first | ((with_reducible show RG _ _ (_ :: _) _ _ _); refine RG.sm (A.ldr (hx0)) (k := ?_)) | ((with_reducible show DG _ _ (_ :: _) _ _ _ _ _); refine DG.sm (A.ldr (hx0)) (k := ?_)))
    (repeat (first | ((with_reducible show RG _ _ (_ :: _) _ _ _); refine RG.go1 (k := ?_)) | ((with_reducible show DG _ _ (_ :: _) _ _ _ _ _); refine DG.go1 (k := ?_)) | (with_reducible first | apply RG.nil | apply W.seq | apply W.reg | apply W.skip | apply W.block | apply W.drw | apply DG.nil | refine W.done (QB.n ?_)) | refine W.cndT ?_ | refine W.cndF ?_))
    (first | ((with_reducible show RG _ _ (_ :: _) _ _ _); refine RG.ca (cf) (k := ?_)) | ((with_reducible show DG _ _ (_ :: _) _ _ _ _ _); refine DG.ca (cf) (k := ?_)))
    (repeat (first | ((with_reducible show RG _ _ (_ :: _) _ _ _); refine RG.go1 (k := ?_)) | ((with_reducible show DG _ _ (_ :: _) _ _ _ _ _); refine DG.go1 (k := ?_)) | (with_reducible first | apply RG.nil | apply W.seq | apply W.reg | apply W.skip | apply W.block | apply W.drw | apply DG.nil | refine W.done (QB.n ?_)) | refine W.cndT ?_ | refine W.cndF ?_))
    rw [el]
    (first | ((with_reducible show RG _ _ (_ :: _) _ _ _); refine RG.sn (A.strF hx0 (rfl : es.set k (.agg [.int .u8 x0, .int .u8 x1, .int .u8 x2, .int .u8 x3, .int .u8 x4, .int .u8 x5, .int .u8 x6, .int .u8 x7, .int .u8 xp, .int .u16 xi, .int .u8 xt, .int .u64 xs, .int .i64 (o + dt.length), .sl false 2 (got.map prt)]) = _)) (k := ?_)) | ((with_reducible show DG _ _ (_ :: _) _ _ _ _ _); refine DG.sn (A.strF hx0 (rfl : es.set k (.agg [.int .u8 x0, .int .u8 x1, .int .u8 x2, .int .u8 x3, .int .u8 x4, .int .u8 x5, .int .u8 x6, .int .u8 x7, .int .u8 xp, .int .u16 xi, .int .u8 xt, .int .u64 xs, .int .i64 (o + dt.length), .sl false 2 (got.map prt)]) = _)) (k := ?_)))
    (repeat (first | ((with_reducible show RG _ _ (_ :: _) _ _ _); refine RG.go1 (k := ?_)) | ((with_reducible show DG _ _ (_ :: _) _ _ _ _ _); refine DG.go1 (k := ?_)) | (with_reducible first | apply RG.nil | apply W.seq | apply W.reg | apply W.skip | apply W.block | apply W.drw | apply DG.nil | refine W.done (QB.n ?_)) | refine W.cndT ?_ | refine W.cndF ?_))
    (first | ((with_reducible show RG _ _ (_ :: _) _ _ _); refine RG.sm (A.ldr (hx1)) (k := ?_)) | ((with_reducible show DG _ _ (_ :: _) _ _ _ _ _); refine DG.sm (A.ldr (hx1)) (k := ?_)))
    (repeat (first | ((with_reducible show RG _ _ (_ :: _) _ _ _); refine RG.go1 (k := ?_)) | ((with_reducible show DG _ _ (_ :: _) _ _ _ _ _); refine DG.go1 (k := ?_)) | (with_reducible first | apply RG.nil | apply W.seq | apply W.reg | apply W.skip | apply W.block | apply W.drw | apply DG.nil | refine W.done (QB.n ?_)) | refine W.cndT ?_ | refine W.cndF ?_))
    (first | ((with_reducible show RG _ _ (_ :: _) _ _ _); refine RG.ca (cc) (k := ?_)) | ((with_reducible show DG _ _ (_ :: _) _ _ _ _ _); refine DG.ca (cc) (k := ?_)))
    (repeat (first | ((with_reducible show RG _ _ (_ :: _) _ _ _); refine RG.go1 (k := ?_)) | ((with_reducible show DG _ _ (_ :: _) _ _ _ _ _); refine DG.go1 (k := ?_)) | (with_reducible first | apply RG.nil | apply W.seq | apply W.reg | apply W.skip | apply W.block | apply W.drw | apply DG.nil | refine W.done (QB.n ?_)) | refine W.cndT ?_ | refine W.cndF ?_))
    (first | ((with_reducible show RG _ _ (_ :: _) _ _ _); refine RG.ca (clay) (k := ?_)) | ((with_reducible show DG _ _ (_ :: _) _ _ _ _ _); refine DG.ca (clay) (k := ?_)))
    (repeat (first | ((with_reducible show RG _ _ (_ :: _) _ _ _); refine RG.go1 (k := ?_)) | ((with_reducible show DG _ _ (_ :: _) _ _ _ _ _); refine DG.go1 (k := ?_)) | (with_reducible first | apply RG.nil | apply W.seq | apply W.reg | apply W.skip | apply W.block | apply W.drw | apply DG.nil | refine W.done (QB.n ?_)) | refine W.cndT ?_ | refine W.cndF ?_))
    (first | ((with_reducible show RG _ _ (_ :: _) _ _ _); refine RG.sn (A.strF hx1 (set_set2 (l := es) (k := k) (y := (.agg [.int .u8 x0, .int .u8 x1, .int .u8 x2, .int .u8 x3, .int .u8 x4, .int .u8 x5, .int .u8 x6, .int .u8 x7, .int .u8 xp, .int .u16 xi, .int .u8 xt, .int .u64 xs, .int .i64 (o + dt.length), .sl false 2 G2])))) (k := ?_)) | ((with_reducible show DG _ _ (_ :: _) _ _ _ _ _); refine DG.sn (A.strF hx1 (set_set2 (l := es) (k := k) (y := (.agg [.int .u8 x0, .int .u8 x1, .int .u8 x2, .int .u8 x3, .int .u8 x4, .int .u8 x5, .int .u8 x6, .int .u8 x7, .int .u8 xp, .int .u16 xi, .int .u8 xt, .int .u64 xs, .int .i64 (o + dt.length), .sl false 2 G2])))) (k := ?_)))
    (repeat (first | ((with_reducible show RG _ _ (_ :: _) _ _ _); refine RG.go1 (k := ?_)) | ((with_reducible show DG _ _ (_ :: _) _ _ _ _ _); refine DG.go1 (k := ?_)) | (with_reducible first | apply RG.nil | apply W.seq | apply W.reg | apply W.skip | apply W.block | apply W.drw | apply DG.nil | refine W.done (QB.n ?_)) | refine W.cndT ?_ | refine W.cndF ?_))
    (first | ((with_reducible show RG _ _ (_ :: _) _ _ _); refine RG.sm (A.ldr (hx2)) (k := ?_)) | ((with_reducible show DG _ _ (_ :: _) _ _ _ _ _); refine DG.sm (A.ldr (hx2)) (k := ?_)))
    (repeat (first | ((with_reducible show RG _ _ (_ :: _) _ _ _); refine RG.go1 (k := ?_)) | ((with_reducible show DG _ _ (_ :: _) _ _ _ _ _); refine DG.go1 (k := ?_)) | (with_reducible first | apply RG.nil | apply W.seq | apply W.reg | apply W.skip | apply W.block | apply W.drw | apply DG.nil | refine W.done (QB.n ?_)) | refine W.cndT ?_ | refine W.cndF ?_))
    (first | ((with_reducible show RG _ _ (_ :: _) _ _ _); refine RG.gld (hx2) (k := ?_)) | ((with_reducible show DG _ _ (_ :: _) _ _ _ _ _); refine DG.gld (hx2) (k := ?_)))
    (repeat (first | ((with_reducible show RG _ _ (_ :: _) _ _ _); refine RG.go1 (k := ?_)) | ((with_reducible show DG _ _ (_ :: _) _ _ _ _ _); refine DG.go1 (k := ?_)) | (with_reducible first | apply RG.nil | apply W.seq | apply W.reg | apply W.skip | apply W.block | apply W.drw | apply DG.nil | refine W.done (QB.n ?_)) | refine W.cndT ?_ | refine W.cndF ?_))
    (first | ((with_reducible show RG _ _ (_ :: _) _ _ _); refine RG.ewg (cptr_of (e0) (by (conv => lhs; whnf) <;> exact rfl)) (k := ?_)) | ((with_reducible show DG _ _ (_ :: _) _ _ _ _ _); refine DG.ewg (cptr_of (e0) (by (conv => lhs; whnf) <;> exact rfl)) (k := ?_)))
    (repeat (first | ((with_reducible show RG _ _ (_ :: _) _ _ _); refine RG.go1 (k := ?_)) | ((with_reducible show DG _ _ (_ :: _) _ _ _ _ _); refine DG.go1 (k := ?_)) | (with_reducible first | apply RG.nil | apply W.seq | apply W.reg | apply W.skip | apply W.block | apply W.drw | apply DG.nil | refine W.done (QB.n ?_)) | refine W.cndT ?_ | refine W.cndF ?_))
    (first | ((with_reducible show RG _ _ (_ :: _) _ _ _); refine RG.gld (hx2) (k := ?_)) | ((with_reducible show DG _ _ (_ :: _) _ _ _ _ _); refine DG.gld (hx2) (k := ?_)))
    (repeat (first | ((with_reducible show RG _ _ (_ :: _) _ _ _); refine RG.go1 (k := ?_)) | ((with_reducible show DG _ _ (_ :: _) _ _ _ _ _); refine DG.go1 (k := ?_)) | (with_reducible first | apply RG.nil | apply W.seq | apply W.reg | apply W.skip | apply W.block | apply W.drw | apply DG.nil | refine W.done (QB.n ?_)) | refine W.cndT ?_ | refine W.cndF ?_))
    (first | ((with_reducible show RG _ _ (_ :: _) _ _ _); refine RG.ewg (cptr_of (e0) (by (conv => lhs; whnf) <;> exact rfl)) (k := ?_)) | ((with_reducible show DG _ _ (_ :: _) _ _ _ _ _); refine DG.ewg (cptr_of (e0) (by (conv => lhs; whnf) <;> exact rfl)) (k := ?_)))
    (repeat (first | ((with_reducible show RG _ _ (_ :: _) _ _ _); refine RG.go1 (k := ?_)) | ((with_reducible show DG _ _ (_ :: _) _ _ _ _ _); refine DG.go1 (k := ?_)) | (with_reducible first | apply RG.nil | apply W.seq | apply W.reg | apply W.skip | apply W.block | apply W.drw | apply DG.nil | refine W.done (QB.n ?_)) | refine W.cndT ?_ | refine W.cndF ?_))
    (first | ((with_reducible show RG _ _ (_ :: _) _ _ _); refine RG.gld (hx2) (k := ?_)) | ((with_reducible show DG _ _ (_ :: _) _ _ _ _ _); refine DG.gld (hx2) (k := ?_)))
    (repeat (first | ((with_reducible show RG _ _ (_ :: _) _ _ _); refine RG.go1 (k := ?_)) | ((with_reducible show DG _ _ (_ :: _) _ _ _ _ _); refine DG.go1 (k := ?_)) | (with_reducible first | apply RG.nil | apply W.seq | apply W.reg | apply W.skip | apply W.block | apply W.drw | apply DG.nil | refine W.done (QB.n ?_)) | refine W.cndT ?_ | refine W.cndF ?_))
    (first | ((with_reducible show RG _ _ (_ :: _) _ _ _); refine RG.sm (A.ldr (hx2)) (k := ?_)) | ((with_reducible show DG _ _ (_ :: _) _ _ _ _ _); refine DG.sm (A.ldr (hx2)) (k := ?_)))
    (repeat (first | ((with_reducible show RG _ _ (_ :: _) _ _ _); refine RG.go1 (k := ?_)) | ((with_reducible show DG _ _ (_ :: _) _ _ _ _ _); refine DG.go1 (k := ?_)) | (with_reducible first | apply RG.nil | apply W.seq | apply W.reg | apply W.skip | apply W.block | apply W.drw | apply DG.nil | refine W.done (QB.n ?_)) | refine W.cndT ?_ | refine W.cndF ?_))
    (first | ((with_reducible show RG _ _ (_ :: _) _ _ _); refine RG.sm (A.ldr (hx2)) (k := ?_)) | ((with_reducible show DG _ _ (_ :: _) _ _ _ _ _); refine DG.sm (A.ldr (hx2)) (k := ?_)))
    (repeat (first | ((with_reducible show RG _ _ (_ :: _) _ _ _); refine RG.go1 (k := ?_)) | ((with_reducible show DG _ _ (_ :: _) _ _ _ _ _); refine DG.go1 (k := ?_)) | (with_reducible first | apply RG.nil | apply W.seq | apply W.reg | apply W.skip | apply W.block | apply W.drw | apply DG.nil | refine W.done (QB.n ?_)) | refine W.cndT ?_ | refine W.cndF ?_))
    (first | ((with_reducible show RG _ _ (_ :: _) _ _ _); refine RG.sm (A.ldr (hx2)) (k := ?_)) | ((with_reducible show DG _ _ (_ :: _) _ _ _ _ _); refine DG.sm (A.ldr (hx2)) (k := ?_)))
    (repeat (first | ((with_reducible show RG _ _ (_ :: _) _ _ _); refine RG.go1 (k := ?_)) | ((with_reducible show DG _ _ (_ :: _) _ _ _ _ _); refine DG.go1 (k := ?_)) | (with_reducible first | apply RG.nil | apply W.seq | apply W.reg | apply W.skip | apply W.block | apply W.drw | apply DG.nil | refine W.done (QB.n ?_)) | refine W.cndT ?_ | refine W.cndF ?_))
    (first | ((with_reducible show RG _ _ (_ :: _) _ _ _); refine RG.sm (A.ldr (hx2)) (k := ?_)) | ((with_reducible show DG _ _ (_ :: _) _ _ _ _ _); refine DG.sm (A.ldr (hx2)) (k := ?_)))
    (repeat (first | ((with_reducible show RG _ _ (_ :: _) _ _ _); refine RG.go1 (k := ?_)) | ((with_reducible show DG _ _ (_ :: _) _ _ _ _ _); refine DG.go1 (k := ?_)) | (with_reducible first | apply RG.nil | apply W.seq | apply W.reg | apply W.skip | apply W.block | apply W.drw | apply DG.nil | refine W.done (QB.n ?_)) | refine W.cndT ?_ | refine W.cndF ?_))
    (first | ((with_reducible show RG _ _ (_ :: _) _ _ _); refine RG.sm (A.ldr (hx2)) (k := ?_)) | ((with_reducible show DG _ _ (_ :: _) _ _ _ _ _); refine DG.sm (A.ldr (hx2)) (k := ?_)))
    (repeat (first | ((with_reducible show RG _ _ (_ :: _) _ _ _); refine RG.go1 (k := ?_)) | ((with_reducible show DG _ _ (_ :: _) _ _ _ _ _); refine DG.go1 (k := ?_)) | (with_reducible first | apply RG.nil | apply W.seq | apply W.reg | apply W.skip | apply W.block | apply W.drw | apply DG.nil | refine W.done (QB.n ?_)) | refine W.cndT ?_ | refine W.cndF ?_))
    (first | ((with_reducible show RG _ _ (_ :: _) _ _ _); refine RG.sm (A.ldr (hx2)) (k := ?_)) | ((with_reducible show DG _ _ (_ :: _) _ _ _ _ _); refine DG.sm (A.ldr (hx2)) (k := ?_)))
    (repeat (first | ((with_reducible show RG _ _ (_ :: _) _ _ _); refine RG.go1 (k := ?_)) | ((with_reducible show DG _ _ (_ :: _) _ _ _ _ _); refine DG.go1 (k := ?_)) | (with_reducible first | apply RG.nil | apply W.seq | apply W.reg | apply W.skip | apply W.block | apply W.drw | apply DG.nil | refine W.done (QB.n ?_)) | refine W.cndT ?_ | refine W.cndF ?_))
    (first | ((with_reducible show RG _ _ (_ :: _) _ _ _); refine RG.ew (cptr_of (e0) (by (conv => lhs; whnf) <;> exact rfl)) (k := ?_)) | ((with_reducible show DG _ _ (_ :: _) _ _ _ _ _); refine DG.ew (cptr_of (e0) (by (conv => lhs; whnf) <;> exact rfl)) (k := ?_)))
    (repeat (first | ((with_reducible show RG _ _ (_ :: _) _ _ _); refine RG.go1 (k := ?_)) | ((with_reducible show DG _ _ (_ :: _) _ _ _ _ _); refine DG.go1 (k := ?_)) | with_reducible apply RG.nil | with_reducible apply DG.nil))
    refine W.seq ?_
    refine W.drwM 4 rfl ?_
    iterate 4 refine LG.s (k := ?_)
    refine LG.mca [0] cd (k := ?_)
    repeat refine LG.n (k := ?_)
    refine LG.nil ?_
    (repeat (first | ((with_reducible show RG _ _ (_ :: _) _ _ _); refine RG.go1 (k := ?_)) | ((with_reducible show DG _ _ (_ :: _) _ _ _ _ _); refine DG.go1 (k := ?_)) | (with_reducible first | apply RG.nil | apply W.seq | apply W.reg | apply W.skip | apply W.block | apply W.drw | apply DG.nil | refine W.done (QB.n ?_)) | refine W.cndT ?_ | refine W.cndF ?_))
    (refine W.ret ?_; (repeat (with_reducible first | refine QB.r ?_ | refine QL.r ?_ | refine QC.r ?_)); refine QF.r ?_)
    (refine RetOk.wk (Wk.frz (b := 0) rfl rfl) ?_; refine RetOk.wk (Wk.tmp (t := 6) (Cl.ice rfl rfl rfl (by first | assumption | decide | omega | (simp; (first | (all_goals fail) | fail)) | (simp <;> omega)) (by first | exact take_all _ | exact take_len (by first | (simp; (first | (all_goals fail) | fail)) | (simp <;> omega)) | exact rfl))) ?_; dsimp only [setO])
    exact RetOk.rs (vs := [_, _, _, _]) r_frag_Add []
  · skip
    have hx2 := set_get (x := (.agg [.int .u8 x0, .int .u8 x1, .int .u8 x2, .int .u8 x3, .int .u8 x4, .int .u8 x5, .int .u8 x6, .int .u8 x7, .int .u8 xp, .int .u16 xi, .int .u8 xt, .int .u64 xs, .int .i64 xe, .sl false 2 G2])) (y := .any) kl
    have sl2 := set_len2 (l := es) (k := k) (x := (.agg [.int .u8 x0, .int .u8 x1, .int .u8 x2, .int .u8 x3, .int .u8 x4, .int .u8 x5, .int .u8 x6, .int .u8 x7, .int .u8 xp, .int .u16 xi, .int .u8 xt, .int .u64 xs, .int .i64 xe, .sl false 2 G2]))
    have ip : ∀ a b : Int, (if (true = true) then a else b) = a := fun a b => if_pos rfl
    have iq : ∀ a b : Int, (if (false = true) then a else b) = b := fun a b => if_neg (by decide)
    try rw [ip] at *
    try rw [iq] at *
    clear ip iq
    refine acall_walk (N := 208) Try.func11 (by kernel_rfl) p_frag_Add rfl ?_; unfold c_frag_Add; dsimp only [enum, Nat.reduceAdd]
    (repeat (first | ((with_reducible show RG _ _ (_ :: _) _ _ _); refine RG.go1 (k := ?_)) | ((with_reducible show DG _ _ (_ :: _) _ _ _ _ _); refine DG.go1 (k := ?_)) | (with_reducible first | apply RG.nil | apply W.seq | apply W.reg | apply W.skip | apply W.block | apply W.drw | apply DG.nil | refine W.done (QB.n ?_)) | refine W.cndT ?_ | refine W.cndF ?_))
    (first | ((with_reducible show RG _ _ (_ :: _) _ _ _); refine RG.ca (ca) (k := ?_)) | ((with_reducible show DG _ _ (_ :: _) _ _ _ _ _); refine DG.ca (ca) (k := ?_)))
    (repeat (first | ((with_reducible show RG _ _ (_ :: _) _ _ _); refine RG.go1 (k := ?_)) | ((with_reducible show DG _ _ (_ :: _) _ _ _ _ _); refine DG.go1 (k := ?_)) | (with_reducible first | apply RG.nil | apply W.seq | apply W.reg | apply W.skip | apply W.block | apply W.drw | apply DG.nil | refine W.done (QB.n ?_)) | refine W.cndT ?_ | refine W.cndF ?_))
    (first | ((with_reducible show RG _ _ (_ :: _) _ _ _); refine RG.ca (ci) (k := ?_)) | ((with_reducible show DG _ _ (_ :: _) _ _ _ _ _); refine DG.ca (ci) (k := ?_)))
    (repeat (first | ((with_reducible show RG _ _ (_ :: _) _ _ _); refine RG.go1 (k := ?_)) | ((with_reducible show DG _ _ (_ :: _) _ _ _ _ _); refine DG.go1 (k := ?_)) | (with_reducible first | apply RG.nil | apply W.seq | apply W.reg | apply W.skip | apply W.block | apply W.drw | apply DG.nil | refine W.done (QB.n ?_)) | refine W.cndT ?_ | refine W.cndF ?_))
    (first | ((with_reducible show RG _ _ (_ :: _) _ _ _); refine RG.ew (ix_of ((show 0 + ((k : Int)).toNat = k by simp))) (k := ?_)) | ((with_reducible show DG _ _ (_ :: _) _ _ _ _ _); refine DG.ew (ix_of ((show 0 + ((k : Int)).toNat = k by simp))) (k := ?_)))
    (repeat (first | ((with_reducible show RG _ _ (_ :: _) _ _ _); refine RG.go1 (k := ?_)) | ((with_reducible show DG _ _ (_ :: _) _ _ _ _ _); refine DG.go1 (k := ?_)) | (with_reducible first | apply RG.nil | apply W.seq | apply W.reg | apply W.skip | apply W.block | apply W.drw | apply DG.nil | refine W.done (QB.n ?_)) | refine W.cndT ?_ | refine W.cndF ?_))
    (first | ((with_reducible show RG _ _ (_ :: _) _ _ _); refine RG.sm (A.ldr (hx0)) (k := ?_)) | ((with_reducible show DG _ _ (_ :: _) _ _ _ _ _); refine DG.sm (A.ldr (hx0)) (k := ?_)))
    (repeat (first | ((with_reducible show RG _ _ (_ :: _) _ _ _); refine RG.go1 (k := ?_)) | ((with_reducible show DG _ _ (_ :: _) _ _ _ _ _); refine DG.go1 (k := ?_)) | (with_reducible first | apply RG.nil | apply W.seq | apply W.reg | apply W.skip | apply W.block | apply W.drw | apply DG.nil | refine W.done (QB.n ?_)) | refine W.cndT ?_ | refine W.cndF ?_))
    (first | ((with_reducible show RG _ _ (_ :: _) _ _ _); refine RG.ca (cf) (k := ?_)) | ((with_reducible show DG _ _ (_ :: _) _ _ _ _ _); refine DG.ca (cf) (k := ?_)))
    (repeat (first | ((with_reducible show RG _ _ (_ :: _) _ _ _); refine RG.go1 (k := ?_)) | ((with_reducible show DG _ _ (_ :: _) _ _ _ _ _); refine DG.go1 (k := ?_)) | (with_reducible first | apply RG.nil | apply W.seq | apply W.reg | apply W.skip | apply W.block | apply W.drw | apply DG.nil | refine W.done (QB.n ?_)) | refine W.cndT ?_ | refine W.cndF ?_))
    (first | ((with_reducible show RG _ _ (_ :: _) _ _ _); refine RG.sm (A.ldr (hx0)) (k := ?_)) | ((with_reducible show DG _ _ (_ :: _) _ _ _ _ _); refine DG.sm (A.ldr (hx0)) (k := ?_)))
    (repeat (first | ((with_reducible show RG _ _ (_ :: _) _ _ _); refine RG.go1 (k := ?_)) | ((with_reducible show DG _ _ (_ :: _) _ _ _ _ _); refine DG.go1 (k := ?_)) | (with_reducible first | apply RG.nil | apply W.seq | apply W.reg | apply W.skip | apply W.block | apply W.drw | apply DG.nil | refine W.done (QB.n ?_)) | refine W.cndT ?_ | refine W.cndF ?_))
    (first | ((with_reducible show RG _ _ (_ :: _) _ _ _); refine RG.ca (cc) (k := ?_)) | ((with_reducible show DG _ _ (_ :: _) _ _ _ _ _); refine DG.ca (cc) (k := ?_)))
    (repeat (first | ((with_reducible show RG _ _ (_ :: _) _ _ _); refine RG.go1 (k := ?_)) | ((with_reducible show DG _ _ (_ :: _) _ _ _ _ _); refine DG.go1 (k := ?_)) | (with_reducible first | apply RG.nil | apply W.seq | apply W.reg | apply W.skip | apply W.block | apply W.drw | apply DG.nil | refine W.done (QB.n ?_)) | refine W.cndT ?_ | refine W.cndF ?_))
    (first | ((with_reducible show RG _ _ (_ :: _) _ _ _); refine RG.ca (clay) (k := ?_)) | ((with_reducible show DG _ _ (_ :: _) _ _ _ _ _); refine DG.ca (clay) (k := ?_)))
    (repeat (first | ((with_reducible show RG _ _ (_ :: _) _ _ _); refine RG.go1 (k := ?_)) | ((with_reducible show DG _ _ (_ :: _) _ _ _ _ _); refine DG.go1 (k := ?_)) | (with_reducible first | apply RG.nil | apply W.seq | apply W.reg | apply W.skip | apply W.block | apply W.drw | apply DG.nil | refine W.done (QB.n ?_)) | refine W.cndT ?_ | refine W.cndF ?_))
    (first | ((with_reducible show RG _ _ (_ :: _) _ _ _); refine RG.sn (A.strF hx0 (rfl : es.set k (.agg [.int .u8 x0, .int .u8 x1, .int .u8 x2, .int .u8 x3, .int .u8 x4, .int .u8 x5, .int .u8 x6, .int .u8 x7, .int .u8 xp, .int .u16 xi, .int .u8 xt, .int .u64 xs, .int .i64 xe, .sl false 2 G2]) = _)) (k := ?_)) | ((with_reducible show DG _ _ (_ :: _) _ _ _ _ _); refine DG.sn (A.strF hx0 (rfl : es.set k (.agg [.int .u8 x0, .int .u8 x1, .int .u8 x2, .int .u8 x3, .int .u8 x4, .int .u8 x5, .int .u8 x6, .int .u8 x7, .int .u8 xp, .int .u16 xi, .int .u8 xt, .int .u64 xs, .int .i64 xe, .sl false 2 G2]) = _)) (k := ?_)))
    (repeat (first | ((with_reducible show RG _ _ (_ :: _) _ _ _); refine RG.go1 (k := ?_)) | ((with_reducible show DG _ _ (_ :: _) _ _ _ _ _); refine DG.go1 (k := ?_)) | (with_reducible first | apply RG.nil | apply W.seq | apply W.reg | apply W.skip | apply W.block | apply W.drw | apply DG.nil | refine W.done (QB.n ?_)) | refine W.cndT ?_ | refine W.cndF ?_))
    (first | ((with_reducible show RG _ _ (_ :: _) _ _ _); refine RG.sm (A.ldr (hx2)) (k := ?_)) | ((with_reducible show DG _ _ (_ :: _) _ _ _ _ _); refine DG.sm (A.ldr (hx2)) (k := ?_)))
    (repeat (first | ((with_reducible show RG _ _ (_ :: _) _ _ _); refine RG.go1 (k := ?_)) | ((with_reducible show DG _ _ (_ :: _) _ _ _ _ _); refine DG.go1 (k := ?_)) | (with_reducible first | apply RG.nil | apply W.seq | apply W.reg | apply W.skip | apply W.block | apply W.drw | apply DG.nil | refine W.done (QB.n ?_)) | refine W.cndT ?_ | refine W.cndF ?_))
    (first | ((with_reducible show RG _ _ (_ :: _) _ _ _); refine RG.gld (hx2) (k := ?_)) | ((with_reducible show DG _ _ (_ :: _) _ _ _ _ _); refine DG.gld (hx2) (k := ?_)))
    (repeat (first | ((with_reducible show RG _ _ (_ :: _) _ _ _); refine RG.go1 (k := ?_)) | ((with_reducible show DG _ _ (_ :: _) _ _ _ _ _); refine DG.go1 (k := ?_)) | (with_reducible first | apply RG.nil | apply W.seq | apply W.reg | apply W.skip | apply W.block | apply W.drw | apply DG.nil | refine W.done (QB.n ?_)) | refine W.cndT ?_ | refine W.cndF ?_))
    (first | ((with_reducible show RG _ _ (_ :: _) _ _ _); refine RG.ewg (cptr_of (e0) (by (conv => lhs; whnf) <;> exact rfl)) (k := ?_)) | ((with_reducible show DG _ _ (_ :: _) _ _ _ _ _); refine DG.ewg (cptr_of (e0) (by (conv => lhs; whnf) <;> exact rfl)) (k := ?_)))
    (repeat (first | ((with_reducible show RG _ _ (_ :: _) _ _ _); refine RG.go1 (k := ?_)) | ((with_reducible show DG _ _ (_ :: _) _ _ _ _ _); refine DG.go1 (k := ?_)) | (with_reducible first | apply RG.nil | apply W.seq | apply W.reg | apply W.skip | apply W.block | apply W.drw | apply DG.nil | refine W.done (QB.n ?_)) | refine W.cndT ?_ | refine W.cndF ?_))
    (first | ((with_reducible show RG _ _ (_ :: _) _ _ _); refine RG.gld (hx2) (k := ?_)) | ((with_reducible show DG _ _ (_ :: _) _ _ _ _ _); refine DG.gld (hx2) (k := ?_)))
    (repeat (first | ((with_reducible show RG _ _ (_ :: _) _ _ _); refine RG.go1 (k := ?_)) | ((with_reducible show DG _ _ (_ :: _) _ _ _ _ _); refine DG.go1 (k := ?_)) | (with_reducible first | apply RG.nil | apply W.seq | apply W.reg | apply W.skip | apply W.block | apply W.drw | apply DG.nil | refine W.done (QB.n ?_)) | refine W.cndT ?_ | refine W.cndF ?_))
    (first | ((with_reducible show RG _ _ (_ :: _) _ _ _); refine RG.ewg (cptr_of (e0) (by (conv => lhs; whnf) <;> exact rfl)) (k := ?_)) | ((with_reducible show DG _ _ (_ :: _) _ _ _ _ _); refine DG.ewg (cptr_of (e0) (by (conv => lhs; whnf) <;> exact rfl)) (k := ?_)))
    (repeat (first | ((with_reducible show RG _ _ (_ :: _) _ _ _); refine RG.go1 (k := ?_)) | ((with_reducible show DG _ _ (_ :: _) _ _ _ _ _); refine DG.go1 (k := ?_)) | (with_reducible first | apply RG.nil | apply W.seq | apply W.reg | apply W.skip | apply W.block | apply W.drw | apply DG.nil | refine W.done (QB.n ?_)) | refine W.cndT ?_ | refine W.cndF ?_))
    (first | ((with_reducible show RG _ _ (_ :: _) _ _ _); refine RG.gld (hx2) (k := ?_)) | ((with_reducible show DG _ _ (_ :: _) _ _ _ _ _); refine DG.gld (hx2) (k := ?_)))
    (repeat (first | ((with_reducible show RG _ _ (_ :: _) _ _ _); refine RG.go1 (k := ?_)) | ((with_reducible show DG _ _ (_ :: _) _ _ _ _ _); refine DG.go1 (k := ?_)) | (with_reducible first | apply RG.nil | apply W.seq | apply W.reg | apply W.skip | apply W.block | apply W.drw | apply DG.nil | refine W.done (QB.n ?_)) | refine W.cndT ?_ | refine W.cndF ?_))
    (first | ((with_reducible show RG _ _ (_ :: _) _ _ _); refine RG.sm (A.ldr (hx2)) (k := ?_)) | ((with_reducible show DG _ _ (_ :: _) _ _ _ _ _); refine DG.sm (A.ldr (hx2)) (k := ?_)))
    (repeat (first | ((with_reducible show RG _ _ (_ :: _) _ _ _); refine RG.go1 (k := ?_)) | ((with_reducible show DG _ _ (_ :: _) _ _ _ _ _); refine DG.go1 (k := ?_)) | (with_reducible first | apply RG.nil | apply W.seq | apply W.reg | apply W.skip | apply W.block | apply W.drw | apply DG.nil | refine W.done (QB.n ?_)) | refine W.cndT ?_ | refine W.cndF ?_))
    (first | ((with_reducible show RG _ _ (_ :: _) _ _ _); refine RG.sm (A.ldr (hx2)) (k := ?_)) | ((with_reducible show DG _ _ (_ :: _) _ _ _ _ _); refine DG.sm (A.ldr (hx2)) (k := ?_)))
    (repeat (first | ((with_reducible show RG _ _ (_ :: _) _ _ _); refine RG.go1 (k := ?_)) | ((with_reducible show DG _ _ (_ :: _) _ _ _ _ _); refine DG.go1 (k := ?_)) | (with_reducible first | apply RG.nil | apply W.seq | apply W.reg | apply W.skip | apply W.block | apply W.drw | apply DG.nil | refine W.done (QB.n ?_)) | refine W.cndT ?_ | refine W.cndF ?_))
    (first | ((with_reducible show RG _ _ (_ :: _) _ _ _); refine RG.sm (A.ldr (hx2)) (k := ?_)) | ((with_reducible show DG _ _ (_ :: _) _ _ _ _ _); refine DG.sm (A.ldr (hx2)) (k := ?_)))
    (repeat (first | ((with_reducible show RG _ _ (_ :: _) _ _ _); refine RG.go1 (k := ?_)) | ((with_reducible show DG _ _ (_ :: _) _ _ _ _ _); refine DG.go1 (k := ?_)) | (with_reducible first | apply RG.nil | apply W.seq | apply W.reg | apply W.skip | apply W.block | apply W.drw | apply DG.nil | refine W.done (QB.n ?_)) | refine W.cndT ?_ | refine W.cndF ?_))
    (first | ((with_reducible show RG _ _ (_ :: _) _ _ _); refine RG.sm (A.ldr (hx2)) (k := ?_)) | ((with_reducible show DG _ _ (_ :: _) _ _ _ _ _); refine DG.sm (A.ldr (hx2)) (k := ?_)))
    (repeat (first | ((with_reducible show RG _ _ (_ :: _) _ _ _); refine RG.go1 (k := ?_)) | ((with_reducible show DG _ _ (_ :: _) _ _ _ _ _); refine DG.go1 (k := ?_)) | (with_reducible first | apply RG.nil | apply W.seq | apply W.reg | apply W.skip | apply W.block | apply W.drw | apply DG.nil | refine W.done (QB.n ?_)) | refine W.cndT ?_ | refine W.cndF ?_))
    (first | ((with_reducible show RG _ _ (_ :: _) _ _ _); refine RG.sm (A.ldr (hx2)) (k := ?_)) | ((with_reducible show DG _ _ (_ :: _) _ _ _ _ _); refine DG.sm (A.ldr (hx2)) (k := ?_)))
    (repeat (first | ((with_reducible show RG _ _ (_ :: _) _ _ _); refine RG.go1 (k := ?_)) | ((with_reducible show DG _ _ (_ :: _) _ _ _ _ _); refine DG.go1 (k := ?_)) | (with_reducible first | apply RG.nil | apply W.seq | apply W.reg | apply W.skip | apply W.block | apply W.drw | apply DG.nil | refine W.done (QB.n ?_)) | refine W.cndT ?_ | refine W.cndF ?_))
    (first | ((with_reducible show RG _ _ (_ :: _) _ _ _); refine RG.sm (A.ldr (hx2)) (k := ?_)) | ((with_reducible show DG _ _ (_ :: _) _ _ _ _ _); refine DG.sm (A.ldr (hx2)) (k := ?_)))
    (repeat (first | ((with_reducible show RG _ _ (_ :: _) _ _ _); refine RG.go1 (k := ?_)) | ((with_reducible show DG _ _ (_ :: _) _ _ _ _ _); refine DG.go1 (k := ?_)) | (with_reducible first | apply RG.nil | apply W.seq | apply W.reg | apply W.skip | apply W.block | apply W.drw | apply DG.nil | refine W.done (QB.n ?_)) | refine W.cndT ?_ | refine W.cndF ?_))
    (first | ((with_reducible show RG _ _ (_ :: _) _ _ _); refine RG.ew (cptr_of (e0) (by (conv => lhs; whnf) <;> exact rfl)) (k := ?_)) | ((with_reducible show DG _ _ (_ :: _) _ _ _ _ _); refine DG.ew (cptr_of (e0) (by (conv => lhs; whnf) <;> exact rfl)) (k := ?_)))
    (repeat (first | ((with_reducible show RG _ _ (_ :: _) _ _ _); refine RG.go1 (k := ?_)) | ((with_reducible show DG _ _ (_ :: _) _ _ _ _ _); refine DG.go1 (k := ?_)) | with_reducible apply RG.nil | with_reducible apply DG.nil))
    refine W.seq ?_
    refine W.drwM 4 rfl ?_
    iterate 4 refine LG.s (k := ?_)
    refine LG.mca [0] cd (k := ?_)
    repeat refine LG.n (k := ?_)
    refine LG.nil ?_
    (repeat (first | ((with_reducible show RG _ _ (_ :: _) _ _ _); refine RG.go1 (k := ?_)) | ((with_reducible show DG _ _ (_ :: _) _ _ _ _ _); refine DG.go1 (k := ?_)) | (with_reducible first | apply RG.nil | apply W.seq | apply W.reg | apply W.skip | apply W.block | apply W.drw | apply DG.nil | refine W.done (QB.n ?_)) | refine W.cndT ?_ | refine W.cndF ?_))
    (refine W.ret ?_; (repeat (with_reducible first | refine QB.r ?_ | refine QL.r ?_ | refine QC.r ?_)); refine QF.r ?_)
    (refine RetOk.wk (Wk.frz (b := 0) rfl rfl) ?_; refine RetOk.wk (Wk.tmp (t := 6) (Cl.ice rfl rfl rfl (by first | assumption | decide | omega | (simp; (first | (all_goals fail) | fail)) | (simp <;> omega)) (by first | exact take_all _ | exact take_len (by first | (simp; (first | (all_goals fail) | fail)) | (simp <;> omega)) | exact rfl))) ?_; dsimp only [setO])
    exact RetOk.rs (vs := [_, _, _, _]) r_frag_Add []
  · skip
    have hx2 := set_get (x := (.agg [.int .u8 x0, .int .u8 x1, .int .u8 x2, .int .u8 x3, .int .u8 x4, .int .u8 x5, .int .u8 x6, .int .u8 x7, .int .u8 xp, .int .u16 xi, .int .u8 xt, .int .u64 xs, .int .i64 xe, .sl false 2 G2])) (y := .any) kl
    have sl2 := set_len2 (l := es) (k := k) (x := (.agg [.int .u8 x0, .int .u8 x1, .int .u8 x2, .int .u8 x3, .int .u8 x4, .int .u8 x5, .int .u8 x6, .int .u8 x7, .int .u8 xp, .int .u16 xi, .int .u8 xt, .int .u64 xs, .int .i64 xe, .sl false 2 G2]))
    have ip : ∀ a b : Int, (if (true = true) then a else b) = a := fun a b => if_pos rfl
    have iq : ∀ a b : Int, (if (false = true) then a else b) = b := fun a b => if_neg (by decide)
    try rw [ip] at *
    try rw [iq] at *
    clear ip iq
    refine acall_walk (N := 208) Try.func11 (by kernel_rfl) p_frag_Add rfl ?_; unfold c_frag_Add; dsimp only [enum, Nat.reduceAdd]
    (repeat (first | ((with_reducible show RG _ _ (_ :: _) _ _ _); refine RG.go1 (k := ?_)) | ((with_reducible show DG _ _ (_ :: _) _ _ _ _ _); refine DG.go1 (k := ?_)) | (with_reducible first | apply RG.nil | apply W.seq | apply W.reg | apply W.skip | apply W.block | apply W.drw | apply DG.nil | refine W.done (QB.n ?_)) | refine W.cndT ?_ | refine W.cndF ?_))
    (first | ((with_reducible show RG _ _ (_ :: _) _ _ _); refine RG.ca (ca) (k := ?_)) | ((with_reducible show DG _ _ (_ :: _) _ _ _ _ _); refine DG.ca (ca) (k := ?_)))
    (repeat (first | ((with_reducible show RG _ _ (_ :: _) _ _ _); refine RG.go1 (k := ?_)) | ((with_reducible show DG _ _ (_ :: _) _ _ _ _ _); refine DG.go1 (k := ?_)) | (with_reducible first | apply RG.nil | apply W.seq | apply W.reg | apply W.skip | apply W.block | apply W.drw | apply DG.nil | refine W.done (QB.n ?_)) | refine W.cndT ?_ | refine W.cndF ?_))
    (first | ((with_reducible show RG _ _ (_ :: _) _ _ _); refine RG.ca (ci) (k := ?_)) | ((with_reducible show DG _ _ (_ :: _) _ _ _ _ _); refine DG.ca (ci) (k := ?_)))
    (repeat (first | ((with_reducible show RG _ _ (_ :: _) _ _ _); refine RG.go1 (k := ?_)) | ((with_reducible show DG _ _ (_ :: _) _ _ _ _ _); refine DG.go1 (k := ?_)) | (with_reducible first | apply RG.nil | apply W.seq | apply W.reg | apply W.skip | apply W.block | apply W.drw | apply DG.nil | refine W.done (QB.n ?_)) | refine W.cndT ?_ | refine W.cndF ?_))
    (first | ((with_reducible show RG _ _ (_ :: _) _ _ _); refine RG.ew (ix_of ((show 0 + ((k : Int)).toNat = k by simp))) (k := ?_)) | ((with_reducible show DG _ _ (_ :: _) _ _ _ _ _); refine DG.ew (ix_of ((show 0 + ((k : Int)).toNat = k by simp))) (k := ?_)))
    (repeat (first | ((with_reducible show RG _ _ (_ :: _) _ _ _); refine RG.go1 (k := ?_)) | ((with_reducible show DG _ _ (_ :: _) _ _ _ _ _); refine DG.go1 (k := ?_)) | (with_reducible first | apply RG.nil | apply W.seq | apply W.reg | apply W.skip | apply W.block | apply W.drw | apply DG.nil | refine W.done (QB.n ?_)) | refine W.cndT ?_ | refine W.cndF ?_))
    (first | ((with_reducible show RG _ _ (_ :: _) _ _ _); refine RG.sm (A.ldr (hx0)) (k := ?_)) | ((with_reducible show DG _ _ (_ :: _) _ _ _ _ _); refine DG.sm (A.ldr (hx0)) (k := ?_)))
    (repeat (first | ((with_reducible show RG _ _ (_ :: _) _ _ _); refine RG.go1 (k := ?_)) | ((with_reducible show DG _ _ (_ :: _) _ _ _ _ _); refine DG.go1 (k := ?_)) | (with_reducible first | apply RG.nil | apply W.seq | apply W.reg | apply W.skip | apply W.block | apply W.drw | apply DG.nil | refine W.done (QB.n ?_)) | refine W.cndT ?_ | refine W.cndF ?_))
    (first | ((with_reducible show RG _ _ (_ :: _) _ _ _); refine RG.ca (cf) (k := ?_)) | ((with_reducible show DG _ _ (_ :: _) _ _ _ _ _); refine DG.ca (cf) (k := ?_)))
    (repeat (first | ((with_reducible show RG _ _ (_ :: _) _ _ _); refine RG.go1 (k := ?_)) | ((with_reducible show DG _ _ (_ :: _) _ _ _ _ _); refine DG.go1 (k := ?_)) | (with_reducible first | apply RG.nil | apply W.seq | apply W.reg | apply W.skip | apply W.block | apply W.drw | apply DG.nil | refine W.done (QB.n ?_)) | refine W.cndT ?_ | refine W.cndF ?_))
    (first | ((with_reducible show RG _ _ (_ :: _) _ _ _); refine RG.sm (A.ldr (hx0)) (k := ?_)) | ((with_reducible show DG _ _ (_ :: _) _ _ _ _ _); refine DG.sm (A.ldr (hx0)) (k := ?_)))
    (repeat (first | ((with_reducible show RG _ _ (_ :: _) _ _ _); refine RG.go1 (k := ?_)) | ((with_reducible show DG _ _ (_ :: _) _ _ _ _ _); refine DG.go1 (k := ?_)) | (with_reducible first | apply RG.nil | apply W.seq | apply W.reg | apply W.skip | apply W.block | apply W.drw | apply DG.nil | refine W.done (QB.n ?_)) | refine W.cndT ?_ | refine W.cndF ?_))
    (first | ((with_reducible show RG _ _ (_ :: _) _ _ _); refine RG.ca (cc) (k := ?_)) | ((with_reducible show DG _ _ (_ :: _) _ _ _ _ _); refine DG.ca (cc) (k := ?_)))
    (repeat (first | ((with_reducible show RG _ _ (_ :: _) _ _ _); refine RG.go1 (k := ?_)) | ((with_reducible show DG _ _ (_ :: _) _ _ _ _ _); refine DG.go1 (k := ?_)) | (with_reducible first | apply RG.nil | apply W.seq | apply W.reg | apply W.skip | apply W.block | apply W.drw | apply DG.nil | refine W.done (QB.n ?_)) | refine W.cndT ?_ | refine W.cndF ?_))
    (first | ((with_reducible show RG _ _ (_ :: _) _ _ _); refine RG.ca (clay) (k := ?_)) | ((with_reducible show DG _ _ (_ :: _) _ _ _ _ _); refine DG.ca (clay) (k := ?_)))
    (repeat (first | ((with_reducible show RG _ _ (_ :: _) _ _ _); refine RG.go1 (k := ?_)) | ((with_reducible show DG _ _ (_ :: _) _ _ _ _ _); refine DG.go1 (k := ?_)) | (with_reducible first | apply RG.nil | apply W.seq | apply W.reg | apply W.skip | apply W.block | apply W.drw | apply DG.nil | refine W.done (QB.n ?_)) | refine W.cndT ?_ | refine W.cndF ?_))
    (first | ((with_reducible show RG _ _ (_ :: _) _ _ _); refine RG.sn (A.strF hx0 (rfl : es.set k (.agg [.int .u8 x0, .int .u8 x1, .int .u8 x2, .int .u8 x3, .int .u8 x4, .int .u8 x5, .int .u8 x6, .int .u8 x7, .int .u8 xp, .int .u16 xi, .int .u8 xt, .int .u64 xs, .int .i64 xe, .sl false 2 G2]) = _)) (k := ?_)) | ((with_reducible show DG _ _ (_ :: _) _ _ _ _ _); refine DG.sn (A.strF hx0 (rfl : es.set k (.agg [.int .u8 x0, .int .u8 x1, .int .u8 x2, .int .u8 x3, .int .u8 x4, .int .u8 x5, .int .u8 x6, .int .u8 x7, .int .u8 xp, .int .u16 xi, .int .u8 xt, .int .u64 xs, .int .i64 xe, .sl false 2 G2]) = _)) (k := ?_)))
    (repeat (first | ((with_reducible show RG _ _ (_ :: _) _ _ _); refine RG.go1 (k := ?_)) | ((with_reducible show DG _ _ (_ :: _) _ _ _ _ _); refine DG.go1 (k := ?_)) | (with_reducible first | apply RG.nil | apply W.seq | apply W.reg | apply W.skip | apply W.block | apply W.drw | apply DG.nil | refine W.done (QB.n ?_)) | refine W.cndT ?_ | refine W.cndF ?_))
    (first | ((with_reducible show RG _ _ (_ :: _) _ _ _); refine RG.sm (A.ldr (hx2)) (k := ?_)) | ((with_reducible show DG _ _ (_ :: _) _ _ _ _ _); refine DG.sm (A.ldr (hx2)) (k := ?_)))
    (repeat (first | ((with_reducible show RG _ _ (_ :: _) _ _ _); refine RG.go1 (k := ?_)) | ((with_reducible show DG _ _ (_ :: _) _ _ _ _ _); refine DG.go1 (k := ?_)) | (with_reducible first | apply RG.nil | apply W.seq | apply W.reg | apply W.skip | apply W.block | apply W.drw | apply DG.nil | refine W.done (QB.n ?_)) | refine W.cndT ?_ | refine W.cndF ?_))
    (first | ((with_reducible show RG _ _ (_ :: _) _ _ _); refine RG.gld (hx2) (k := ?_)) | ((with_reducible show DG _ _ (_ :: _) _ _ _ _ _); refine DG.gld (hx2) (k := ?_)))
    (repeat (first | ((with_reducible show RG _ _ (_ :: _) _ _ _); refine RG.go1 (k := ?_)) | ((with_reducible show DG _ _ (_ :: _) _ _ _ _ _); refine DG.go1 (k := ?_)) | (with_reducible first | apply RG.nil | apply W.seq | apply W.reg | apply W.skip | apply W.block | apply W.drw | apply DG.nil | refine W.done (QB.n ?_)) | refine W.cndT ?_ | refine W.cndF ?_))
    (first | ((with_reducible show RG _ _ (_ :: _) _ _ _); refine RG.ewg (cptr_of (e0) (by (conv => lhs; whnf) <;> exact rfl)) (k := ?_)) | ((with_reducible show DG _ _ (_ :: _) _ _ _ _ _); refine DG.ewg (cptr_of (e0) (by (conv => lhs; whnf) <;> exact rfl)) (k := ?_)))
    (repeat (first | ((with_reducible show RG _ _ (_ :: _) _ _ _); refine RG.go1 (k := ?_)) | ((with_reducible show DG _ _ (_ :: _) _ _ _ _ _); refine DG.go1 (k := ?_)) | (with_reducible first | apply RG.nil | apply W.seq | apply W.reg | apply W.skip | apply W.block | apply W.drw | apply DG.nil | refine W.done (QB.n ?_)) | refine W.cndT ?_ | refine W.cndF ?_))
    (first | ((with_reducible show RG _ _ (_ :: _) _ _ _); refine RG.gld (hx2) (k := ?_)) | ((with_reducible show DG _ _ (_ :: _) _ _ _ _ _); refine DG.gld (hx2) (k := ?_)))
    (repeat (first | ((with_reducible show RG _ _ (_ :: _) _ _ _); refine RG.go1 (k := ?_)) | ((with_reducible show DG _ _ (_ :: _) _ _ _ _ _); refine DG.go1 (k := ?_)) | (with_reducible first | apply RG.nil | apply W.seq | apply W.reg | apply W.skip | apply W.block | apply W.drw | apply DG.nil | refine W.done (QB.n ?_)) | refine W.cndT ?_ | refine W.cndF ?_))
    (first | ((with_reducible show RG _ _ (_ :: _) _ _ _); refine RG.ewg (cptr_of (e0) (by (conv => lhs; whnf) <;> exact rfl)) (k := ?_)) | ((with_reducible show DG _ _ (_ :: _) _ _ _ _ _); refine DG.ewg (cptr_of (e0) (by (conv => lhs; whnf) <;> exact rfl)) (k := ?_)))
    (repeat (first | ((with_reducible show RG _ _ (_ :: _) _ _ _); refine RG.go1 (k := ?_)) | ((with_reducible show DG _ _ (_ :: _) _ _ _ _ _); refine DG.go1 (k := ?_)) | (with_reducible first | apply RG.nil | apply W.seq | apply W.reg | apply W.skip | apply W.block | apply W.drw | apply DG.nil | refine W.done (QB.n ?_)) | refine W.cndT ?_ | refine W.cndF ?_))
    (first | ((with_reducible show RG _ _ (_ :: _) _ _ _); refine RG.gld (hx2) (k := ?_)) | ((with_reducible show DG _ _ (_ :: _) _ _ _ _ _); refine DG.gld (hx2) (k := ?_)))
    (repeat (first | ((with_reducible show RG _ _ (_ :: _) _ _ _); refine RG.go1 (k := ?_)) | ((with_reducible show DG _ _ (_ :: _) _ _ _ _ _); refine DG.go1 (k := ?_)) | (with_reducible first | apply RG.nil | apply W.seq | apply W.reg | apply W.skip | apply W.block | apply W.drw | apply DG.nil | refine W.done (QB.n ?_)) | refine W.cndT ?_ | refine W.cndF ?_))
    (first | ((with_reducible show RG _ _ (_ :: _) _ _ _); refine RG.sm (A.ldr (hx2)) (k := ?_)) | ((with_reducible show DG _ _ (_ :: _) _ _ _ _ _); refine DG.sm (A.ldr (hx2)) (k := ?_)))
    (repeat (first | ((with_reducible show RG _ _ (_ :: _) _ _ _); refine RG.go1 (k := ?_)) | ((with_reducible show DG _ _ (_ :: _) _ _ _ _ _); refine DG.go1 (k := ?_)) | (with_reducible first | apply RG.nil | apply W.seq | apply W.reg | apply W.skip | apply W.block | apply W.drw | apply DG.nil | refine W.done (QB.n ?_)) | refine W.cndT ?_ | refine W.cndF ?_))
    (first | ((with_reducible show RG _ _ (_ :: _) _ _ _); refine RG.sm (A.ldr (hx2)) (k := ?_)) | ((with_reducible show DG _ _ (_ :: _) _ _ _ _ _); refine DG.sm (A.ldr (hx2)) (k := ?_)))
    (repeat (first | ((with_reducible show RG _ _ (_ :: _) _ _ _); refine RG.go1 (k := ?_)) | ((with_reducible show DG _ _ (_ :: _) _ _ _ _ _); refine DG.go1 (k := ?_)) | (with_reducible first | apply RG.nil | apply W.seq | apply W.reg | apply W.skip | apply W.block | apply W.drw | apply DG.nil | refine W.done (QB.n ?_)) | refine W.cndT ?_ | refine W.cndF ?_))
    (first | ((with_reducible show RG _ _ (_ :: _) _ _ _); refine RG.sm (A.ldr (hx2)) (k := ?_)) | ((with_reducible show DG _ _ (_ :: _) _ _ _ _ _); refine DG.sm (A.ldr (hx2)) (k := ?_)))
    (repeat (first | ((with_reducible show RG _ _ (_ :: _) _ _ _); refine RG.go1 (k := ?_)) | ((with_reducible show DG _ _ (_ :: _) _ _ _ _ _); refine DG.go1 (k := ?_)) | (with_reducible first | apply RG.nil | apply W.seq | apply W.reg | apply W.skip | apply W.block | apply W.drw | apply DG.nil | refine W.done (QB.n ?_)) | refine W.cndT ?_ | refine W.cndF ?_))
    (first | ((with_reducible show RG _ _ (_ :: _) _ _ _); refine RG.sm (A.ldr (hx2)) (k := ?_)) | ((with_reducible show DG _ _ (_ :: _) _ _ _ _ _); refine DG.sm (A.ldr (hx2)) (k := ?_)))
    (repeat (first | ((with_reducible show RG _ _ (_ :: _) _ _ _); refine RG.go1 (k := ?_)) | ((with_reducible show DG _ _ (_ :: _) _ _ _ _ _); refine DG.go1 (k := ?_)) | (with_reducible first | apply RG.nil | apply W.seq | apply W.reg | apply W.skip | apply W.block | apply W.drw | apply DG.nil | refine W.done (QB.n ?_)) | refine W.cndT ?_ | refine W.cndF ?_))
    (first | ((with_reducible show RG _ _ (_ :: _) _ _ _); refine RG.sm (A.ldr (hx2)) (k := ?_)) | ((with_reducible show DG _ _ (_ :: _) _ _ _ _ _); refine DG.sm (A.ldr (hx2)) (k := ?_)))
    (repeat (first | ((with_reducible show RG _ _ (_ :: _) _ _ _); refine RG.go1 (k := ?_)) | ((with_reducible show DG _ _ (_ :: _) _ _ _ _ _); refine DG.go1 (k := ?_)) | (with_reducible first | apply RG.nil | apply W.seq | apply W.reg | apply W.skip | apply W.block | apply W.drw | apply DG.nil | refine W.done (QB.n ?_)) | refine W.cndT ?_ | refine W.cndF ?_))
    (first | ((with_reducible show RG _ _ (_ :: _) _ _ _); refine RG.sm (A.ldr (hx2)) (k := ?_)) | ((with_reducible show DG _ _ (_ :: _) _ _ _ _ _); refine DG.sm (A.ldr (hx2)) (k := ?_)))
    (repeat (first | ((with_reducible show RG _ _ (_ :: _) _ _ _); refine RG.go1 (k := ?_)) | ((with_reducible show DG _ _ (_ :: _) _ _ _ _ _); refine DG.go1 (k := ?_)) | (with_reducible first | apply RG.nil | apply W.seq | apply W.reg | apply W.skip | apply W.block | apply W.drw | apply DG.nil | refine W.done (QB.n ?_)) | refine W.cndT ?_ | refine W.cndF ?_))
    (first | ((with_reducible show RG _ _ (_ :: _) _ _ _); refine RG.ew (cptr_of (e0) (by (conv => lhs; whnf) <;> exact rfl)) (k := ?_)) | ((with_reducible show DG _ _ (_ :: _) _ _ _ _ _); refine DG.ew (cptr_of (e0) (by (conv => lhs; whnf) <;> exact rfl)) (k := ?_)))
    (repeat (first | ((with_reducible show RG _ _ (_ :: _) _ _ _); refine RG.go1 (k := ?_)) | ((with_reducible show DG _ _ (_ :: _) _ _ _ _ _); refine DG.go1 (k := ?_)) | with_reducible apply RG.nil | with_reducible apply DG.nil))
    refine W.seq ?_
    refine W.drwM 4 rfl ?_
    iterate 4 refine LG.s (k := ?_)
    refine LG.mca [0] cd (k := ?_)
    repeat refine LG.n (k := ?_)
    refine LG.nil ?_
    (repeat (first | ((with_reducible show RG _ _ (_ :: _) _ _ _); refine RG.go1 (k := ?_)) | ((with_reducible show DG _ _ (_ :: _) _ _ _ _ _); refine DG.go1 (k := ?_)) | (with_reducible first | apply RG.nil | apply W.seq | apply W.reg | apply W.skip | apply W.block | apply W.drw | apply DG.nil | refine W.done (QB.n ?_)) | refine W.cndT ?_ | refine W.cndF ?_))
    (refine W.ret ?_; (repeat (with_reducible first | refine QB.r ?_ | refine QL.r ?_ | refine QC.r ?_)); refine QF.r ?_)
    (refine RetOk.wk (Wk.frz (b := 0) rfl rfl) ?_; refine RetOk.wk (Wk.tmp (t := 6) (Cl.ice rfl rfl rfl (by first | assumption | decide | omega | (simp; (first | (all_goals fail) | fail)) | (simp <;> omega)) (by first | exact take_all _ | exact take_len (by first | (simp; (first | (all_goals fail) | fail)) | (simp <;> omega)) | exact rfl))) ?_; dsimp only [setO])
    exact RetOk.rs (vs := [_, _, _, _]) r_frag_Add []
end Go.Proofs.Ytiejnmbpejfpgaa

namespace Go.Proofs.Ytiejnmbpejfpgaa
open Go.RowKit
set_option linter.unusedVariables false
set_option linter.unusedSimpArgs false
theorem putS_at (s v : List UInt8) (a i : Nat) (h : a + v.length ≤ s.length) : (putS s a v)[i]?.getD 0 = if i < a then s[i]?.getD 0 else if i < a + v.length then v[i - a]?.getD 0 else s[i]?.getD 0 := by
  unfold putS
  by_cases h1 : i < a
  · rw [if_pos h1, List.getElem?_append_left (by simp; omega), List.getElem?_take_of_lt h1]
  · rw [if_neg h1, List.getElem?_append_right (by simp; omega)]
    have e : (s.take a).length = a := by simp; omega
    rw [e]
    by_cases h2 : i < a + v.length
    · rw [if_pos h2, List.getElem?_append_left (by omega)]
    · rw [if_neg h2, List.getElem?_append_right (by omega), List.getElem?_drop]
      congr 2; omega
/-- A part of the bytes d, from a up to b. -/
def sg (d : List UInt8) (a b : Nat) : Prt := ⟨a, (d.take b).drop a⟩
theorem sg_len (d : List UInt8) {a b : Nat} (h : b ≤ d.length) : (sg d a b).dt.length = b - a := by
  simp only [sg, List.length_drop, List.length_take]; omega
theorem sg_at (d : List UInt8) (a b i : Nat) : (sg d a b).dt[i]?.getD 0 = if a + i < b then d[a + i]?.getD 0 else 0 := by
  simp only [sg, List.getElem?_drop]
  by_cases h : a + i < b
  · rw [if_pos h, List.getElem?_take_of_lt h]
  · rw [if_neg h, List.getElem?_eq_none (by simp; omega)]; rfl
theorem ext_getD {l m : List UInt8} (h : l.length = m.length) (he : ∀ i, i < l.length → l[i]?.getD 0 = m[i]?.getD 0) : l = m := by
  refine List.ext_getElem h fun i h1 h2 => ?_
  have := he i h1
  rwa [List.getElem?_eq_getElem h1, List.getElem?_eq_getElem h2, Option.getD_some, Option.getD_some] at this
theorem sg_Ok {d : List UInt8} {a b : Nat} (hd : d.length ≤ 1000) (hb : b ≤ d.length) (hab : a ≤ b) : (sg d a b).Ok := by
  have h1 := sg_len d (a := a) hb
  constructor
  · show (0 : Int) ≤ (a : Int); omega
  · rw [h1]; show (a : Int) + ((b - a : Nat) : Int) ≤ 1000; omega
theorem both_sg (d : List UInt8) (hd : d.length ≤ 1000) {a b c e : Nat} (hab : a ≤ b) (hb : b ≤ d.length) (hce : c ≤ e) (he : e ≤ d.length) (h1 : c ≤ b) (h2 : a ≤ e) : bothS (sg d a b) (sg d c e) = sg d (min a c) (max b e) := by
  have l1 := sg_len d (a := a) hb
  have l2 := sg_len d (a := c) he
  have l3 := sg_len d (a := min a c) (b := max b e) (by omega)
  have f : bFrom (sg d a b) (sg d c e) = ((min a c : Nat) : Int) := by
    show min (a : Int) (c : Int) = _; omega
  have t : bTo (sg d a b) (sg d c e) = ((max b e : Nat) : Int) := by
    unfold bTo
    rw [l1, l2]
    show max ((a : Int) + ((b - a : Nat) : Int)) ((c : Int) + ((e - c : Nat) : Int)) = _; omega
  have hl := bothS_len (sg_Ok hd hb hab) (sg_Ok hd he hce)
  rw [f, t] at hl
  have key : (bothS (sg d a b) (sg d c e)).dt = (sg d (min a c) (max b e)).dt := by
    refine ext_getD (by rw [l3]; omega) fun i hi => ?_
    rw [sg_at]
    have hi2 : i < max b e - min a c := by omega
    unfold bothS
    dsimp only
    rw [f, t]
    have e1 : (((max b e : Nat) : Int) - ((min a c : Nat) : Int)).toNat = max b e - min a c := by omega
    have e2 : ((sg d c e).off - ((min a c : Nat) : Int)).toNat = c - min a c := by show ((c : Int) - _).toNat = _; omega
    have e3 : ((sg d a b).off - ((min a c : Nat) : Int)).toNat = a - min a c := by show ((a : Int) - _).toNat = _; omega
    rw [e1, e2, e3]
    have z : (List.replicate (max b e - min a c) (0 : UInt8)).length = max b e - min a c := by simp
    have z1 : (putS (List.replicate (max b e - min a c) (0 : UInt8)) (c - min a c) (sg d c e).dt).length = max b e - min a c := by rw [putS_len (by rw [z, l2]; omega), z]
    rw [putS_at _ _ _ _ (by rw [z1, l1]; omega), putS_at _ _ _ _ (by rw [z, l2]; omega), l1, l2, sg_at, sg_at]
    rw [if_pos (show min a c + i < max b e by omega)]
    by_cases q1 : i < a - min a c
    · rw [if_pos q1, if_neg (by omega), if_pos (by omega), if_pos (by omega)]
      congr 2; omega
    · rw [if_neg q1]
      by_cases q2 : i < a - min a c + (b - a)
      · rw [if_pos q2, if_pos (by omega)]
        congr 2; omega
      · rw [if_neg q2, if_neg (by omega), if_pos (by omega), if_pos (by omega)]
        congr 2; omega
  have o : (bothS (sg d a b) (sg d c e)).off = (sg d (min a c) (max b e)).off := f
  generalize bothS (sg d a b) (sg d c e) = x at key o
  obtain ⟨xo, xd⟩ := x
  dsimp only at key o
  subst key o
  rfl
theorem lay_sg (d : List UInt8) (hd : d.length ≤ 1000) {a b c e : Nat} (hab : a ≤ b) (hb : b ≤ d.length) (hce : c ≤ e) (he : e ≤ d.length) (l : List Prt) :
    layS (sg d a b :: l) (sg d c e) = if b < c then sg d a b :: layS l (sg d c e) else if e < a then sg d c e :: layS l (sg d a b) else layS l (sg d (min a c) (max b e)) := by
  have l1 := sg_len d (a := a) hb
  have l2 := sg_len d (a := c) he
  have p1 : ((sg d a b).off + ((sg d a b).dt.length : Int) < (sg d c e).off) ↔ b < c := by
    rw [l1]; show ((a : Int) + ((b - a : Nat) : Int) < (c : Int)) ↔ b < c; omega
  have p2 : ((sg d c e).off + ((sg d c e).dt.length : Int) < (sg d a b).off) ↔ e < a := by
    rw [l2]; show ((c : Int) + ((e - c : Nat) : Int) < (a : Int)) ↔ e < a; omega
  rw [layS]
  by_cases q1 : b < c
  · rw [if_pos (p1.2 q1), if_pos q1]
  · rw [if_neg (fun h => q1 (p1.1 h)), if_neg q1]
    by_cases q2 : e < a
    · rw [if_pos (p2.2 q2), if_pos q2]
    · rw [if_neg (fun h => q2 (p2.1 h)), if_neg q2, both_sg d hd hab hb hce he (by omega) (by omega)]
end Go.Proofs.Ytiejnmbpejfpgaa

namespace Go.Proofs.Ytiejnmbpejfpgaa
open Go.RowKit
set_option linter.unusedVariables false
set_option linter.unusedSimpArgs false
set_option linter.unusedSectionVars false
section
variable {q : Pk} {M a : Nat} (hM : ∀ j, j < M → 176 * j < q.dt.length) (hn : q.dt.length ≤ 176 * M) (hd : q.dt.length ≤ 1000) (ha : a < M)
include hM hn hd ha
end
end Go.Proofs.Ytiejnmbpejfpgaa

namespace Go.Proofs.Ytiejnmbpejfpgaa
open Go.RowKit
set_option linter.unusedVariables false
set_option linter.unusedSimpArgs false
set_option linter.unusedSectionVars false
set_option maxRecDepth 100000
set_option maxHeartbeats 4000000
section
variable {q : Pk} {M a : Nat} (h2 : 176 < q.dt.length) (hM : ∀ j, j < M → 176 * j < q.dt.length) (hn : q.dt.length ≤ 176 * M) (hd : q.dt.length ≤ 1000) (ha : a < M)
include h2 hM hn hd ha
end
end Go.Proofs.Ytiejnmbpejfpgaa

namespace Go.Proofs.Ytiejnmbpejfpgaa
open Go.RowKit
set_option linter.unusedVariables false
set_option linter.unusedSimpArgs false
set_option maxRecDepth 100000
set_option maxHeartbeats 4000000
end Go.Proofs.Ytiejnmbpejfpgaa

namespace Go.Proofs.Ytiejnmbpejfpgaa
open Go.RowKit
set_option linter.unusedVariables false
set_option linter.unusedSimpArgs false
set_option maxRecDepth 100000
set_option maxHeartbeats 4000000
theorem Below.frame {W w' : World} (h : Below W.heap.size W w') (may : MemPlace → Prop) : W.keptBut w' may := by
  refine ⟨h.os, h.output, fun i hi => ?_⟩
  rw [h.block i hi]
  split <;> simp_all
theorem Below.same {W w' : World} (h : Below W.heap.size W w') {p : MemPlace} (hp : p.block < W.heap.size) : W.sameAt w' p := by
  cases p with
  | cell b o => exact World.cell?_of_block (w := W) (h.block b hp)
  | map b => exact h.block b hp
theorem Below.trod {H : Type} {enc : TypeId × Value → H} {P : Program} {t : TypeId} (hl : laidOutB P = true) (hr : P.readableRec t = true) (hrow : t < P.types.size) {W W' : World} {v : Value} {d : DataW H} {ps : List MemPlace}
    (h : DataW.Trod enc P W 0 (fun _ => true) true t v d ps) (hb : Below W.heap.size W W') (hlt : ∀ x ∈ ps, x.block < W.heap.size) :
    DataW.Trod enc P W' 0 (fun b => decide (b < W.heap.size)) true t v d ps :=
  WideElems.Trod_stays hl hr hrow h (fun x hx => hb.same (hlt x hx)) (fun x hx => by simpa using hlt x hx)
theorem len_le {α : Type} {l : List α} (h : l.length ≤ maxLen) : (l.length : Int) ≤ 9223372036854775807 := by
  unfold maxLen at h
  omega
end Go.Proofs.Ytiejnmbpejfpgaa

namespace Go.Proofs.Ytiejnmbpejfpgaa
open Go.RowKit
set_option linter.unusedVariables false
set_option linter.unusedSimpArgs false
set_option maxRecDepth 100000
set_option maxHeartbeats 4000000
end Go.Proofs.Ytiejnmbpejfpgaa

namespace Go.Proofs.Ytiejnmbpejfpgaa
open Go.RowKit
set_option linter.unusedVariables false
set_option linter.unusedSimpArgs false
set_option maxRecDepth 100000
set_option maxHeartbeats 4000000
end Go.Proofs.Ytiejnmbpejfpgaa

namespace Go.Proofs.Ytiejnmbpejfpgaa
open Go.RowKit
set_option linter.unusedVariables false
set_option linter.unusedSimpArgs false
set_option maxRecDepth 100000
set_option maxHeartbeats 4000000
/-- The first piece of the packet i. -/
def pcF (i : Int) : Pk := ⟨i, true, 0, 0, 0, 0, 0, 0, 0, 0, 0, 0, 0, List.replicate 176 0⟩
/-- The last piece of the packet i. -/
def pcL (i : Int) (d : List UInt8) : Pk := ⟨i, false, 176, 0, 0, 0, 0, 0, 0, 0, 0, 0, 0, 1 :: d⟩
theorem pieceF_ok (d : List UInt8) (i : Int) (h0 : 0 ≤ i) (h1 : i ≤ 99) : ACall Try.prog 13 [.int .i64 i, .bool false, .cptr true [.sl false 1 (d.map by8)]] (pk false (pcF i)) [] := by
  unfold pk pkc pcF
  dsimp only
  refine acall_walk (N := 19) Try.func13 (by kernel_rfl) p_caravellaw07_FragHolds_1 rfl ?_; unfold c_caravellaw07_FragHolds_1; dsimp only [enum, Nat.reduceAdd]
  (repeat (first | ((with_reducible show RG _ _ (_ :: _) _ _ _); refine RG.go1 (k := ?_)) | ((with_reducible show DG _ _ (_ :: _) _ _ _ _ _); refine DG.go1 (k := ?_)) | (with_reducible first | apply RG.nil | apply W.seq | apply W.reg | apply W.skip | apply W.block | apply W.drw | apply DG.nil | refine W.done (QB.n ?_)) | refine W.cndT ?_ | refine W.cndF ?_))
  rw [show Int.toNat 176 = 176 from rfl, rep_by8]
  (repeat (first | ((with_reducible show RG _ _ (_ :: _) _ _ _); refine RG.go1 (k := ?_)) | ((with_reducible show DG _ _ (_ :: _) _ _ _ _ _); refine DG.go1 (k := ?_)) | (with_reducible first | apply RG.nil | apply W.seq | apply W.reg | apply W.skip | apply W.block | apply W.drw | apply DG.nil | refine W.done (QB.n ?_)) | refine W.cndT ?_ | refine W.cndF ?_))
  (refine W.ret ?_; (repeat (with_reducible first | refine QB.r ?_ | refine QL.r ?_ | refine QC.r ?_)); refine QF.r ?_)
  (refine RetOk.wk (Wk.frz (b := 0) rfl rfl) ?_; refine RetOk.wk (Wk.box (b := 0) (cs' := [_, _, _, _, _, _, _, _, _, _, _, _, _, _]) rfl (by dsimp only [ClL]; (repeat' (first | exact True.intro | exact Cl.ice rfl rfl rfl (by first | assumption | decide | omega | (simp; (first | (all_goals fail) | fail)) | (simp <;> omega)) (by first | exact take_all _ | exact take_len (by first | (simp; (first | (all_goals fail) | fail)) | (simp <;> omega)) | exact rfl) | exact Cl.le (.refl _) | apply And.intro)); (first | (all_goals fail) | fail))) ?_; dsimp only [setO])
  exact RetOk.rs (vs := [_]) r_caravellaw07_FragHolds_1 []
theorem pieceL_ok (d : List UInt8) (hd : d.length ≤ 200) (i : Int) (h0 : 0 ≤ i) (h1 : i ≤ 99) : ACall Try.prog 13 [.int .i64 i, .bool true, .cptr true [.sl false 1 (d.map by8)]] (pk false (pcL i d)) [] := by
  unfold pk pkc pcL
  dsimp only
  have el := by8_len d
  rw [List.map_cons]
  refine acall_walk (N := 19) Try.func13 (by kernel_rfl) p_caravellaw07_FragHolds_1 rfl ?_; unfold c_caravellaw07_FragHolds_1; dsimp only [enum, Nat.reduceAdd]
  (repeat (first | ((with_reducible show RG _ _ (_ :: _) _ _ _); refine RG.go1 (k := ?_)) | ((with_reducible show DG _ _ (_ :: _) _ _ _ _ _); refine DG.go1 (k := ?_)) | (with_reducible first | apply RG.nil | apply W.seq | apply W.reg | apply W.skip | apply W.block | apply W.drw | apply DG.nil | refine W.done (QB.n ?_)) | refine W.cndT ?_ | refine W.cndF ?_))
  (refine W.ret ?_; (repeat (with_reducible first | refine QB.r ?_ | refine QL.r ?_ | refine QC.r ?_)); refine QF.r ?_)
  (refine RetOk.wk (Wk.frz (b := 2) rfl rfl) ?_; refine RetOk.wk (Wk.box (b := 0) (cs' := [_, _, _, _, _, _, _, _, _, _, _, _, _, _]) rfl (by dsimp only [ClL]; (repeat' (first | exact True.intro | exact Cl.ice rfl rfl rfl (by first | assumption | decide | omega | (simp; (first | (all_goals fail) | fail)) | (simp <;> omega)) (by first | exact take_all _ | exact take_len (by first | (simp; (first | (all_goals fail) | fail)) | (simp <;> omega)) | exact rfl) | exact Cl.le (.refl _) | apply And.intro)); (first | (all_goals fail) | fail))) ?_; dsimp only [setO])
  exact RetOk.rs (vs := [_]) r_caravellaw07_FragHolds_1 []
end Go.Proofs.Ytiejnmbpejfpgaa

namespace Go.Proofs.Ytiejnmbpejfpgaa
open Go.RowKit
set_option linter.unusedVariables false
set_option linter.unusedSimpArgs false
set_option maxRecDepth 100000
set_option maxHeartbeats 4000000
/-- The holes of the first n packets. -/
def hs (n : Nat) : List Hl := (List.range n).map fun (i : Nat) => newH (pcF (i : Int)) 5
theorem hs_len (n : Nat) : (hs n).length = n := by simp [hs]
theorem hs_succ (n : Nat) : hs n ++ [newH (pcF (n : Int)) 5] = hs (n + 1) := by simp [hs, List.range_succ]
theorem z176 : (⟨0, List.replicate 176 0⟩ : Prt).Ok := by
  constructor
  · show (0 : Int) ≤ 0; decide
  · rw [List.length_replicate]; show (0 : Int) + 176 ≤ 1000; decide
theorem newF_gd (i now : Int) (h0 : 0 ≤ now) (h1 : now ≤ 18446744073709551615) : (newH (pcF i) now).Gd := by
  refine ⟨by show 1 ≤ 100; decide, fun g hg => ?_, ⟨h0, h1⟩⟩
  have hg : g ∈ [(⟨0, List.replicate 176 0⟩ : Prt)] := hg
  simp only [List.mem_singleton] at hg
  subst hg
  exact z176
theorem hs_mem {n : Nat} {h : Hl} (m : h ∈ hs n) : ∃ i : Nat, i < n ∧ h = newH (pcF (i : Int)) 5 := by
  simp only [hs, List.mem_map, List.mem_range] at m
  obtain ⟨i, hi, rfl⟩ := m
  exact ⟨i, hi, rfl⟩
theorem been_of {l : List Hl} (hn : l.length ≤ 8) (hm : ∀ h ∈ l, ∃ i : Nat, i < 8 ∧ h = newH (pcF (i : Int)) 5) (now : Int) (h0 : 5 ≤ now) (h1 : now < 35) : Been l now l := by
  refine ⟨by omega, fun h m => ?_, by omega, by omega, ?_⟩
  · obtain ⟨i, -, rfl⟩ := hm h m
    exact newF_gd _ _ (by decide) (by decide)
  · unfold young
    rw [List.filter_eq_self]
    intro h m
    obtain ⟨i, -, rfl⟩ := hm h m
    have : oldB now (newH (pcF (i : Int)) 5) = false := decide_eq_false fun c => by
      have c2 : 30 ≤ now - 5 := c.2
      omega
    rw [this]; rfl
theorem hs_been (n : Nat) (hn : n ≤ 8) (now : Int) (h0 : 5 ≤ now) (h1 : now < 35) : Been (hs n) now (hs n) :=
  been_of (by rw [hs_len]; exact hn) (fun h m => by obtain ⟨i, hi, e⟩ := hs_mem m; exact ⟨i, by omega, e⟩) now h0 h1
theorem hs_old : Been (hs 8) 35 [] := by
  refine ⟨by rw [hs_len]; decide, fun h m => ?_, by decide, by decide, ?_⟩
  · obtain ⟨i, -, rfl⟩ := hs_mem m
    exact newF_gd _ _ (by decide) (by decide)
  · unfold young
    rw [List.filter_eq_nil_iff]
    intro h m
    obtain ⟨i, -, rfl⟩ := hs_mem m
    have : oldB 35 (newH (pcF (i : Int)) 5) = true := decide_eq_true ⟨by show (5 : Int) ≤ 35; decide, by show (30 : Int) ≤ 35 - 5; decide⟩
    rw [this]; decide
theorem no_mat {l : List Hl} (n : Nat) (hm : ∀ h ∈ l, ∃ i : Nat, i < n ∧ h = newH (pcF (i : Int)) 5) (j : Int) (hj : (n : Int) ≤ j) : l.any (fun h => matB h (pcF j)) = false := by
  rw [List.any_eq_false]
  intro h m
  obtain ⟨i, hi, rfl⟩ := hm h m
  rw [Bool.not_eq_true]
  refine decide_eq_false fun c => ?_
  have : (i : Int) = j := c.i
  omega
theorem pcF_V (i : Int) : (pcF i).V := by
  have l : (pcF i).dt.length = 176 := by simp [pcF]
  refine ⟨by show (0 : Int) ≤ 0; decide, by rw [l]; show (0 : Int) + 176 ≤ 1000; decide, by show (0 : Int) % 8 = 0; decide, fun _ => by rw [l], by rw [l]; decide, .inl rfl⟩
theorem pcL_V (i : Int) (d : List UInt8) (hd : d.length ≤ 200) : (pcL i d).V := by
  have l : (pcL i d).dt.length = d.length + 1 := by simp [pcL]
  refine ⟨by show (0 : Int) ≤ 176; decide, by rw [l]; show (176 : Int) + _ ≤ 1000; omega, by show (176 : Int) % 8 = 0; decide, fun h => absurd (show false = true from h) Bool.false_ne_true, by rw [l]; omega, .inr (by show (0 : Int) < 176; decide)⟩
/-- All bytes of the packet. -/
def allD (d : List UInt8) : List UInt8 := List.replicate 176 0 ++ 1 :: d
theorem allD_len (d : List UInt8) : (allD d).length = 177 + d.length := by simp [allD]; omega
theorem more3 (d : List UInt8) (hd : d.length ≤ 200) : More (hs 8) (pcL 3 d) 3 (newH (pcF 3) 5) := by
  refine ⟨by rw [hs_len]; decide, rfl, decide_eq_true ⟨⟨rfl, rfl, rfl, rfl⟩, ⟨rfl, rfl, rfl, rfl⟩, rfl, rfl⟩, fun j g hj hg => ?_, .inr ⟨by decide, .inr fun g hg => ?_⟩⟩
  · have m := List.mem_of_getElem? hg
    have : (hs 8)[j]? = some (newH (pcF (j : Int)) 5) := by
      simp only [hs, List.getElem?_map, List.getElem?_range (show j < 8 by omega), Option.map_some]
    rw [this] at hg
    cases hg
    exact decide_eq_false fun c => by
      have : (j : Int) = 3 := c.i
      omega
  · have hg : g ∈ [(⟨0, List.replicate 176 0⟩ : Prt)] := hg
    simp only [List.mem_singleton] at hg
    subst hg
    rw [List.length_replicate]
    show (0 : Int) + 176 ≤ 176 + _
    omega
theorem got3 (d : List UInt8) (hd : d.length ≤ 200) : (moreH (newH (pcF 3) 5) (pcL 3 d)).got = [⟨0, allD d⟩] := by
  show layS [⟨0, List.replicate 176 0⟩] ⟨176, 1 :: d⟩ = _
  have l := allD_len d
  have e1 : (⟨0, List.replicate 176 0⟩ : Prt) = sg (allD d) 0 176 := by simp [sg, allD]
  have e2 : (⟨176, 1 :: d⟩ : Prt) = sg (allD d) 176 (177 + d.length) := by
    unfold sg
    rw [List.take_of_length_le (by omega)]
    simp [allD]
  have e3 : (⟨0, allD d⟩ : Prt) = sg (allD d) 0 (177 + d.length) := by
    unfold sg
    rw [List.take_of_length_le (by omega)]
    simp
  rw [e1, e2, e3, lay_sg _ (by omega) (by omega) (by omega) (by omega) (by omega), if_neg (by omega), if_neg (by omega)]
  rw [show min 0 176 = 0 from rfl, show max 176 (177 + d.length) = 177 + d.length by omega]
  rfl
theorem en3 (d : List UInt8) : (((⟨0, allD d⟩ : Prt).dt.length : Nat) : Int) = (moreH (newH (pcF 3) 5) (pcL 3 d)).en := by
  show (((allD d).length : Nat) : Int) = 176 + (((1 :: d).length : Nat) : Int)
  rw [allD_len, List.length_cons]; omega
/-- The holes but the fourth. -/
def hs7 : List Hl := (hs 8).eraseIdx 3
theorem hs7_mem {h : Hl} (m : h ∈ hs7) : ∃ i : Nat, i < 8 ∧ h = newH (pcF (i : Int)) 5 := hs_mem (List.mem_of_mem_eraseIdx m)
theorem hs7_len : hs7.length = 7 := by
  unfold hs7
  rw [List.length_eraseIdx, hs_len]; rfl
/-- The packet that was put together. -/
def pcW (d : List UInt8) : Pk := ⟨3, false, 0, 0, 0, 0, 0, 0, 0, 0, 0, 0, 0, allD d⟩
theorem addF_new (n : Nat) (hn : n < 8) : ACall Try.prog 11 [.sl true 14 ((hs n).map hol), pk false (pcF n), .int .u64 5] (.tup [.sl false 14 ((hs (n + 1)).map hol), pkz, .bool false, .int .i64 0]) [] := by
  have := add_new (hs_been n (by omega) 5 (by decide) (by decide)) (pcF n) (pcF_V _) (no_mat n (fun h m => hs_mem m) _ (Int.le_refl _)) (by rw [hs_len]; exact hn)
  rw [hs_succ] at this
  exact this
theorem addF_full (j : Int) (hj : 8 ≤ j) : ACall Try.prog 11 [.sl true 14 ((hs 8).map hol), pk false (pcF j), .int .u64 5] (.tup [.sl false 14 ((hs 8).map hol), pkz, .bool false, .int .i64 5]) [] :=
  add_full (hs_been 8 (by omega) 5 (by decide) (by decide)) (pcF j) (pcF_V _) (no_mat 8 (fun h m => hs_mem m) _ hj) (by rw [hs_len]; decide)
theorem addF_old : ACall Try.prog 11 [.sl true 14 ((hs 8).map hol), pk false (pcF 99), .int .u64 35] (.tup [.sl false 14 ([newH (pcF 99) 35].map hol), pkz, .bool false, .int .i64 0]) [] :=
  add_new hs_old (pcF 99) (pcF_V _) rfl (by decide)
theorem addF_whl (d : List UInt8) (hd : d.length ≤ 200) : ACall Try.prog 11 [.sl true 14 ((hs 8).map hol), pk false (pcL 3 d), .int .u64 6] (.tup [.sl false 14 (hs7.map hol), pk false (pcW d), .bool true, .int .i64 0]) [] :=
  add_whl (hs_been 8 (by omega) 6 (by decide) (by decide)) (pcL 3 d) (pcL_V 3 d hd) 3 _ (more3 d hd) ⟨0, allD d⟩ (got3 d hd) rfl (en3 d)
theorem addF_then : ACall Try.prog 11 [.sl true 14 (hs7.map hol), pk false (pcF 99), .int .u64 6] (.tup [.sl false 14 ((hs7 ++ [newH (pcF 99) 6]).map hol), pkz, .bool false, .int .i64 0]) [] :=
  add_new (been_of (by rw [hs7_len]; decide) (fun h m => hs7_mem m) 6 (by decide) (by decide)) (pcF 99) (pcF_V _) (no_mat 8 (fun h m => hs7_mem m) _ (by decide)) (by rw [hs7_len]; decide)
end Go.Proofs.Ytiejnmbpejfpgaa

namespace Go.Proofs.Ytiejnmbpejfpgaa
open Go.RowKit
set_option linter.unusedVariables false
set_option linter.unusedSimpArgs false
set_option maxRecDepth 100000
set_option maxHeartbeats 4000000
theorem fragHolds_ok (d : List UInt8) (hL : (d.length : Int) ≤ 9223372036854775807) (old : Bool) : ACall Try.prog 6 [.sl false 1 (d.map by8), .bool old] (.bool true) [] := by
  have hl := lives_ok
  have el := by8_len d
  by_cases h10 : 200 < d.length
  · refine acall_walk (N := 125) Try.func6 (by kernel_rfl) p_caravellaw07_FragHolds rfl ?_; unfold c_caravellaw07_FragHolds; dsimp only [enum, Nat.reduceAdd]
    (repeat (first | ((with_reducible show RG _ _ (_ :: _) _ _ _); refine RG.go1 (k := ?_)) | ((with_reducible show DG _ _ (_ :: _) _ _ _ _ _); refine DG.go1 (k := ?_)) | (with_reducible first | apply RG.nil | apply W.seq | apply W.reg | apply W.skip | apply W.block | apply W.drw | apply DG.nil | refine W.done (QB.n ?_)) | refine W.cndT ?_ | refine W.cndF ?_))
    (first | ((with_reducible show RG _ _ (_ :: _) _ _ _); refine RG.ca (hl) (k := ?_)) | ((with_reducible show DG _ _ (_ :: _) _ _ _ _ _); refine DG.ca (hl) (k := ?_)))
    (repeat (first | ((with_reducible show RG _ _ (_ :: _) _ _ _); refine RG.go1 (k := ?_)) | ((with_reducible show DG _ _ (_ :: _) _ _ _ _ _); refine DG.go1 (k := ?_)) | (with_reducible first | apply RG.nil | apply W.seq | apply W.reg | apply W.skip | apply W.block | apply W.drw | apply DG.nil | refine W.done (QB.n ?_)) | refine W.cndT ?_ | refine W.cndF ?_))
    (first | ((with_reducible show RG _ _ (_ :: _) _ _ _); refine RG.ca (hl) (k := ?_)) | ((with_reducible show DG _ _ (_ :: _) _ _ _ _ _); refine DG.ca (hl) (k := ?_)))
    (repeat (first | ((with_reducible show RG _ _ (_ :: _) _ _ _); refine RG.go1 (k := ?_)) | ((with_reducible show DG _ _ (_ :: _) _ _ _ _ _); refine DG.go1 (k := ?_)) | (with_reducible first | apply RG.nil | apply W.seq | apply W.reg | apply W.skip | apply W.block | apply W.drw | apply DG.nil | refine W.done (QB.n ?_)) | refine W.cndT ?_ | refine W.cndF ?_))
    (refine W.ret ?_; (repeat (with_reducible first | refine QB.r ?_ | refine QL.r ?_ | refine QC.r ?_)); refine QF.r ?_)
    exact RetOk.rs (vs := [_]) r_caravellaw07_FragHolds []
  have hd : d.length ≤ 200 := by omega
  have cp := pieceF_ok d
  have cq := pieceL_ok d hd 3 (by decide) (by decide)
  have cn := addF_new
  have cf := addF_full 8 (by decide)
  have co := addF_old
  have cw := addF_whl d hd
  have ct := addF_then
  have hal := allD_len d
  have cs : ACall Try.prog 12 [pk false (pcW d), pk true (pcW d)] (.bool true) [] := (same_ok (pcW d) (by show (allD d).length ≤ 100000; omega)).mono ⟨pk_le _, ALe.refl _, trivial⟩
  have hE : ∀ n, ((hs n).map hol).length = n := fun n => by rw [List.length_map, hs_len]
  have h7 : ((hs7 ++ [newH (pcF 99) 6]).map hol).length = 8 := by rw [List.length_map, List.length_append, hs7_len]; rfl
  refine acall_walk (N := 125) Try.func6 (by kernel_rfl) p_caravellaw07_FragHolds rfl ?_; unfold c_caravellaw07_FragHolds; dsimp only [enum, Nat.reduceAdd]
  (repeat (first | ((with_reducible show RG _ _ (_ :: _) _ _ _); refine RG.go1 (k := ?_)) | ((with_reducible show DG _ _ (_ :: _) _ _ _ _ _); refine DG.go1 (k := ?_)) | (with_reducible first | apply RG.nil | apply W.seq | apply W.reg | apply W.skip | apply W.block | apply W.drw | apply DG.nil | refine W.done (QB.n ?_)) | refine W.cndT ?_ | refine W.cndF ?_))
  (first | ((with_reducible show RG _ _ (_ :: _) _ _ _); refine RG.ca (hl) (k := ?_)) | ((with_reducible show DG _ _ (_ :: _) _ _ _ _ _); refine DG.ca (hl) (k := ?_)))
  (repeat (first | ((with_reducible show RG _ _ (_ :: _) _ _ _); refine RG.go1 (k := ?_)) | ((with_reducible show DG _ _ (_ :: _) _ _ _ _ _); refine DG.go1 (k := ?_)) | (with_reducible first | apply RG.nil | apply W.seq | apply W.reg | apply W.skip | apply W.block | apply W.drw | apply DG.nil | refine W.done (QB.n ?_)) | refine W.cndT ?_ | refine W.cndF ?_))
  refine W.loop (ι := {j : Nat // j ≤ 9}) (fun j => ⟨[(34, .int .i64 j.1), (5, .sl false 14 ((hs (min j.1 8)).map hol)), (6, .fn 13 [.bptr 0 0]), (1, .bool old), (2, .bptr 0 0)], [some [.sl false 1 (d.map by8)]], [], 1, 0⟩) (fun j => 9 - j.1) ⟨0, Nat.zero_le _⟩ ?_ ?_
  · have q2 : ALe .nil (.sl false 14 []) := ALe.nil _ _
    dsimp only
    rw [show (hs (min 0 8)).map hol = [] from rfl]
    exact Wk.rn ([0] ) ( [])
  rintro ⟨j, hj⟩
  dsimp only
  by_cases hlt : j < 9
  · have cp := cp (j : Int) (by omega) (by omega)
    have hj8 : j < 8 ∨ j = 8 := by omega
    rcases hj8 with hj8 | rfl
    · have cn := cn j hj8
      rw [show min j 8 = j by omega]
      have e2 : min (j + 1) 8 = j + 1 := by omega
      unfold pk pkc at cp cn
      unfold pkz at cn
      clear hE h7 cq cf co cw ct cs
      generalize (hs j).map hol = h1s at *
      obtain ⟨h2s, hh2⟩ : ∃ h, (hs (j + 1)).map hol = h := ⟨_, rfl⟩
      rw [hh2] at cn
      (repeat (first | ((with_reducible show RG _ _ (_ :: _) _ _ _); refine RG.go1 (k := ?_)) | ((with_reducible show DG _ _ (_ :: _) _ _ _ _ _); refine DG.go1 (k := ?_)) | (with_reducible first | apply RG.nil | apply W.seq | apply W.reg | apply W.skip | apply W.block | apply W.drw | apply DG.nil | refine W.done (QB.n ?_)) | refine W.cndT ?_ | refine W.cndF ?_))
      (first | ((with_reducible show RG _ _ (_ :: _) _ _ _); refine RG.cav (cp) (k := ?_)) | ((with_reducible show DG _ _ (_ :: _) _ _ _ _ _); refine DG.cav (cp) (k := ?_)))
      (repeat (first | ((with_reducible show RG _ _ (_ :: _) _ _ _); refine RG.go1 (k := ?_)) | ((with_reducible show DG _ _ (_ :: _) _ _ _ _ _); refine DG.go1 (k := ?_)) | (with_reducible first | apply RG.nil | apply W.seq | apply W.reg | apply W.skip | apply W.block | apply W.drw | apply DG.nil | refine W.done (QB.n ?_)) | refine W.cndT ?_ | refine W.cndF ?_))
      (first | ((with_reducible show RG _ _ (_ :: _) _ _ _); refine RG.ca (cn) (k := ?_)) | ((with_reducible show DG _ _ (_ :: _) _ _ _ _ _); refine DG.ca (cn) (k := ?_)))
      (repeat (first | ((with_reducible show RG _ _ (_ :: _) _ _ _); refine RG.go1 (k := ?_)) | ((with_reducible show DG _ _ (_ :: _) _ _ _ _ _); refine DG.go1 (k := ?_)) | (with_reducible first | apply RG.nil | apply W.seq | apply W.reg | apply W.skip | apply W.block | apply W.drw | apply DG.nil | refine W.done (QB.n ?_)) | refine W.cndT ?_ | refine W.cndF ?_))
      refine W.done (QL.n (⟨j + 1, by omega⟩) ?_ ?_)
      · dsimp only
        rw [e2, hh2]
        exact Wk.rn ([0] ) ( [])
      · dsimp only; omega
    · unfold pk pkc at cp cf
      unfold pkz at cf
      rw [show min 8 8 = 8 from rfl]
      clear hE h7 cq cn co cw ct cs
      obtain ⟨h1s, hh2⟩ : ∃ h, (hs 8).map hol = h := ⟨_, rfl⟩
      rw [hh2] at cf ⊢
      (repeat (first | ((with_reducible show RG _ _ (_ :: _) _ _ _); refine RG.go1 (k := ?_)) | ((with_reducible show DG _ _ (_ :: _) _ _ _ _ _); refine DG.go1 (k := ?_)) | (with_reducible first | apply RG.nil | apply W.seq | apply W.reg | apply W.skip | apply W.block | apply W.drw | apply DG.nil | refine W.done (QB.n ?_)) | refine W.cndT ?_ | refine W.cndF ?_))
      (first | ((with_reducible show RG _ _ (_ :: _) _ _ _); refine RG.cav (cp) (k := ?_)) | ((with_reducible show DG _ _ (_ :: _) _ _ _ _ _); refine DG.cav (cp) (k := ?_)))
      (repeat (first | ((with_reducible show RG _ _ (_ :: _) _ _ _); refine RG.go1 (k := ?_)) | ((with_reducible show DG _ _ (_ :: _) _ _ _ _ _); refine DG.go1 (k := ?_)) | (with_reducible first | apply RG.nil | apply W.seq | apply W.reg | apply W.skip | apply W.block | apply W.drw | apply DG.nil | refine W.done (QB.n ?_)) | refine W.cndT ?_ | refine W.cndF ?_))
      (first | ((with_reducible show RG _ _ (_ :: _) _ _ _); refine RG.ca (cf) (k := ?_)) | ((with_reducible show DG _ _ (_ :: _) _ _ _ _ _); refine DG.ca (cf) (k := ?_)))
      (repeat (first | ((with_reducible show RG _ _ (_ :: _) _ _ _); refine RG.go1 (k := ?_)) | ((with_reducible show DG _ _ (_ :: _) _ _ _ _ _); refine DG.go1 (k := ?_)) | (with_reducible first | apply RG.nil | apply W.seq | apply W.reg | apply W.skip | apply W.block | apply W.drw | apply DG.nil | refine W.done (QB.n ?_)) | refine W.cndT ?_ | refine W.cndF ?_))
      refine W.done (QL.n (⟨9, by omega⟩) ?_ ?_)
      · dsimp only
        rw [show min 9 8 = 8 from rfl, hh2]
        exact Wk.rn ([0] ) ( [])
      · dsimp only; omega
  · obtain rfl : j = 9 := by omega
    rw [show min 9 8 = 8 from rfl]
    have cp := cp 99 (by decide) (by decide)
    cases old
    · clear co cf cn hl
      unfold pcW at cs
      unfold pk pkc at cp cq cw ct cs
      unfold pkz at ct
      unfold pcW at cw
      obtain ⟨h3s, hh3⟩ : ∃ h, (hs7 ++ [newH (pcF 99) 6]).map hol = h := ⟨_, rfl⟩
      rw [hh3] at ct h7
      clear hh3 hE
      unfold pcL pcF at *
      dsimp only at cp cq cw ct cs
      generalize (hs 8).map hol = h1s at *
      generalize hs7.map hol = h2s at *
      (repeat (first | ((with_reducible show RG _ _ (_ :: _) _ _ _); refine RG.go1 (k := ?_)) | ((with_reducible show DG _ _ (_ :: _) _ _ _ _ _); refine DG.go1 (k := ?_)) | (with_reducible first | apply RG.nil | apply W.seq | apply W.reg | apply W.skip | apply W.block | apply W.drw | apply DG.nil | refine W.done (QB.n ?_)) | refine W.cndT ?_ | refine W.cndF ?_))
      (refine W.exit ?_; (repeat (first | (with_reducible first | refine QL.x ?_ | refine QC.x ?_ | refine QB.x ?_) | (with_reducible refine QB.o (by decide) ?_))))
      (repeat (first | ((with_reducible show RG _ _ (_ :: _) _ _ _); refine RG.go1 (k := ?_)) | ((with_reducible show DG _ _ (_ :: _) _ _ _ _ _); refine DG.go1 (k := ?_)) | (with_reducible first | apply RG.nil | apply W.seq | apply W.reg | apply W.skip | apply W.block | apply W.drw | apply DG.nil | refine W.done (QB.n ?_)) | refine W.cndT ?_ | refine W.cndF ?_))
      (first | ((with_reducible show RG _ _ (_ :: _) _ _ _); refine RG.cav (cq) (k := ?_)) | ((with_reducible show DG _ _ (_ :: _) _ _ _ _ _); refine DG.cav (cq) (k := ?_)))
      (repeat (first | ((with_reducible show RG _ _ (_ :: _) _ _ _); refine RG.go1 (k := ?_)) | ((with_reducible show DG _ _ (_ :: _) _ _ _ _ _); refine DG.go1 (k := ?_)) | (with_reducible first | apply RG.nil | apply W.seq | apply W.reg | apply W.skip | apply W.block | apply W.drw | apply DG.nil | refine W.done (QB.n ?_)) | refine W.cndT ?_ | refine W.cndF ?_))
      (first | ((with_reducible show RG _ _ (_ :: _) _ _ _); refine RG.ca (cw) (k := ?_)) | ((with_reducible show DG _ _ (_ :: _) _ _ _ _ _); refine DG.ca (cw) (k := ?_)))
      (repeat (first | ((with_reducible show RG _ _ (_ :: _) _ _ _); refine RG.go1 (k := ?_)) | ((with_reducible show DG _ _ (_ :: _) _ _ _ _ _); refine DG.go1 (k := ?_)) | (with_reducible first | apply RG.nil | apply W.seq | apply W.reg | apply W.skip | apply W.block | apply W.drw | apply DG.nil | refine W.done (QB.n ?_)) | refine W.cndT ?_ | refine W.cndF ?_))
      (first | ((with_reducible show RG _ _ (_ :: _) _ _ _); refine RG.cav (cp) (k := ?_)) | ((with_reducible show DG _ _ (_ :: _) _ _ _ _ _); refine DG.cav (cp) (k := ?_)))
      (repeat (first | ((with_reducible show RG _ _ (_ :: _) _ _ _); refine RG.go1 (k := ?_)) | ((with_reducible show DG _ _ (_ :: _) _ _ _ _ _); refine DG.go1 (k := ?_)) | (with_reducible first | apply RG.nil | apply W.seq | apply W.reg | apply W.skip | apply W.block | apply W.drw | apply DG.nil | refine W.done (QB.n ?_)) | refine W.cndT ?_ | refine W.cndF ?_))
      (first | ((with_reducible show RG _ _ (_ :: _) _ _ _); refine RG.ca (ct) (k := ?_)) | ((with_reducible show DG _ _ (_ :: _) _ _ _ _ _); refine DG.ca (ct) (k := ?_)))
      (repeat (first | ((with_reducible show RG _ _ (_ :: _) _ _ _); refine RG.go1 (k := ?_)) | ((with_reducible show DG _ _ (_ :: _) _ _ _ _ _); refine DG.go1 (k := ?_)) | (with_reducible first | apply RG.nil | apply W.seq | apply W.reg | apply W.skip | apply W.block | apply W.drw | apply DG.nil | refine W.done (QB.n ?_)) | refine W.cndT ?_ | refine W.cndF ?_))
      rw [show List.replicate (Int.toNat 176) (AV.int IntKind.u8 0) ++ [AV.int IntKind.u8 1] ++ List.map by8 d = (allD d).map by8 by
        rw [show Int.toNat 176 = 176 from rfl, rep_by8]; simp [allD, by8], show Int.toNat 176 + 1 + (List.map by8 d).length = ((allD d).map by8).length by rw [by8_len, by8_len, hal]; show 176 + 1 + _ = _; omega]
      (first | ((with_reducible show RG _ _ (_ :: _) _ _ _); refine RG.gca (fun _ => cs) (k := ?_)) | ((with_reducible show DG _ _ (_ :: _) _ _ _ _ _); refine DG.gca (fun _ => cs) (k := ?_)))
      (repeat (first | ((with_reducible show RG _ _ (_ :: _) _ _ _); refine RG.go1 (k := ?_)) | ((with_reducible show DG _ _ (_ :: _) _ _ _ _ _); refine DG.go1 (k := ?_)) | (with_reducible first | apply RG.nil | apply W.seq | apply W.reg | apply W.skip | apply W.block | apply W.drw | apply DG.nil | refine W.done (QB.n ?_)) | refine W.cndT ?_ | refine W.cndF ?_))
      (refine W.ret ?_; (repeat (with_reducible first | refine QB.r ?_ | refine QL.r ?_ | refine QC.r ?_)); refine QF.r ?_)
      exact RetOk.rs (vs := [_]) r_caravellaw07_FragHolds []
    · unfold pk pkc at cp co
      unfold pkz at co
      clear hE h7 cq cn cf cw ct cs
      obtain ⟨h1s, hh2⟩ : ∃ h, (hs 8).map hol = h := ⟨_, rfl⟩
      obtain ⟨h2s, hh3⟩ : ∃ h, [newH (pcF 99) 35].map hol = h := ⟨_, rfl⟩
      have e2 : h2s.length = 1 := by rw [← hh3]; rfl
      rw [hh2] at co ⊢
      rw [hh3] at co
      (repeat (first | ((with_reducible show RG _ _ (_ :: _) _ _ _); refine RG.go1 (k := ?_)) | ((with_reducible show DG _ _ (_ :: _) _ _ _ _ _); refine DG.go1 (k := ?_)) | (with_reducible first | apply RG.nil | apply W.seq | apply W.reg | apply W.skip | apply W.block | apply W.drw | apply DG.nil | refine W.done (QB.n ?_)) | refine W.cndT ?_ | refine W.cndF ?_))
      (refine W.exit ?_; (repeat (first | (with_reducible first | refine QL.x ?_ | refine QC.x ?_ | refine QB.x ?_) | (with_reducible refine QB.o (by decide) ?_))))
      (repeat (first | ((with_reducible show RG _ _ (_ :: _) _ _ _); refine RG.go1 (k := ?_)) | ((with_reducible show DG _ _ (_ :: _) _ _ _ _ _); refine DG.go1 (k := ?_)) | (with_reducible first | apply RG.nil | apply W.seq | apply W.reg | apply W.skip | apply W.block | apply W.drw | apply DG.nil | refine W.done (QB.n ?_)) | refine W.cndT ?_ | refine W.cndF ?_))
      (first | ((with_reducible show RG _ _ (_ :: _) _ _ _); refine RG.cav (cp) (k := ?_)) | ((with_reducible show DG _ _ (_ :: _) _ _ _ _ _); refine DG.cav (cp) (k := ?_)))
      (repeat (first | ((with_reducible show RG _ _ (_ :: _) _ _ _); refine RG.go1 (k := ?_)) | ((with_reducible show DG _ _ (_ :: _) _ _ _ _ _); refine DG.go1 (k := ?_)) | (with_reducible first | apply RG.nil | apply W.seq | apply W.reg | apply W.skip | apply W.block | apply W.drw | apply DG.nil | refine W.done (QB.n ?_)) | refine W.cndT ?_ | refine W.cndF ?_))
      (first | ((with_reducible show RG _ _ (_ :: _) _ _ _); refine RG.ca (co) (k := ?_)) | ((with_reducible show DG _ _ (_ :: _) _ _ _ _ _); refine DG.ca (co) (k := ?_)))
      (repeat (first | ((with_reducible show RG _ _ (_ :: _) _ _ _); refine RG.go1 (k := ?_)) | ((with_reducible show DG _ _ (_ :: _) _ _ _ _ _); refine DG.go1 (k := ?_)) | (with_reducible first | apply RG.nil | apply W.seq | apply W.reg | apply W.skip | apply W.block | apply W.drw | apply DG.nil | refine W.done (QB.n ?_)) | refine W.cndT ?_ | refine W.cndF ?_))
      (refine W.ret ?_; (repeat (with_reducible first | refine QB.r ?_ | refine QL.r ?_ | refine QC.r ?_)); refine QF.r ?_)
      exact RetOk.rs (vs := [_]) r_caravellaw07_FragHolds []
theorem FragHolds_walk {r : Reach} {b0 base : Nat} {H : Type} {enc : TypeId × Value → H} {spare : Nat → Bool} {held : Bool} {d : DataW H} {p : List MemPlace} (v : Value) (old : Bool) (W : World) (hv : Value.okWide Try.prog W r b0 25 v) (k : DataW.Trod enc Try.prog W base spare held 25 v d p) :
    Calls Try.prog 6 #[v, .bool old] W fun e W' => e = .returned (.bool true) ∧ Below W.heap.size W W' := by
  obtain ⟨av, hr, hf⟩ := arg_sl (n := 5) (ts := [.int .u8]) Try.underlying25 (by kernel_rfl) hv k
  obtain ⟨l, rfl, hl⟩ := hf.bytes
  exact acall_lawF (fragHolds_ok l (len_le hl) old) W [_, _] ⟨.pure _ _ hr, .pure _ _ (.bool _), trivial⟩
end Go.Proofs.Ytiejnmbpejfpgaa
