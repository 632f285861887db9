/- Add: a further piece of a packet. -/
import Derived.Test.YtiejnmbpejfpgaaFs3
namespace Go.Proofs.Ytiejnmbpejfpgaa
open Go.RowKit
set_option linter.unusedVariables false
set_option linter.unusedSimpArgs false
set_option maxRecDepth 100000
set_option maxHeartbeats 4000000
/-- The hole when a further piece has come. -/
def moreH (h : Hl) (p : Pk) : Hl := { h with en := if p.mo then h.en else p.o + p.dt.length, got := layS h.got ⟨p.o, p.dt⟩ }
/-- The packet that a hole became. -/
def wholeP (h : Hl) (dt : List UInt8) : Pk := ⟨h.i, false, 0, h.tt, h.pr, h.s0, h.s1, h.s2, h.s3, h.d0, h.d1, h.d2, h.d3, dt⟩
theorem set_get {l : List AV} {k : Nat} {x y : AV} (h : k < l.length) : (l.set k x)[k]?.getD y = x := by simp [h]
theorem set_set2 {l : List AV} {k : Nat} {x y : AV} : (l.set k x).set k y = l.set k y := by simp
theorem set_len2 {l : List AV} {k : Nat} {x : AV} : (l.set k x).length = l.length := by simp
/-- A further piece: at what hole, and that it fits. -/
structure More (Y : List Hl) (p : Pk) (k : Nat) (h : Hl) : Prop where
  lt : k < Y.length
  at_ : Y[k]? = some h
  m : matB h p = true
  b : ∀ (j : Nat) (g : Hl), j < k → Y[j]? = some g → matB g p = false
  f : (0 ≤ h.en ∧ p.o + p.dt.length ≤ h.en ∧ (p.mo = true ∨ p.o + p.dt.length = h.en)) ∨ (h.en < 0 ∧ (p.mo = true ∨ ∀ g ∈ h.got, g.off + g.dt.length ≤ p.o + p.dt.length))
theorem More.idx {Y : List Hl} {p : Pk} {k : Nat} {h : Hl} (m : More Y p k h) : (if Y.any (fun h => matB h p) then (Y.findIdx (fun h => matB h p) : Int) else -1) = k := by
  have e : Y[k]'m.lt = h := by have := m.at_; rw [List.getElem?_eq_getElem m.lt] at this; exact Option.some.inj this
  have h1 : Y.any (fun h => matB h p) = true := by
    rw [List.any_eq_true]
    exact ⟨_, List.getElem_mem m.lt, by rw [e]; exact m.m⟩
  have h2 : Y.findIdx (fun h => matB h p) = k := (List.findIdx_eq m.lt).2 ⟨by rw [e]; exact m.m, fun j hj => m.b j _ hj (List.getElem?_eq_getElem (by have := m.lt; omega))⟩
  rw [h1, h2, if_pos rfl]
theorem add_incA {l Y : List Hl} {now : Int} (b : Been l now Y) (p : Pk) (v : p.V) (k : Nat) (h : Hl) (m : More Y p k h) (hgi : (moreH h p).got.length ≠ 1) :
    ACall Try.prog 11 [.sl true 14 (l.map hol), pk false p, .int .u64 now] (.tup [.sl false 14 ((Y.set k (moreH h p)).map hol), pkz, .bool false, .int .i64 0]) [] := by
  have ca := b.age
  have ci := b.index p
  rw [m.idx] at ci
  have yl := ho_len Y
  have yp := ho_pure Y
  have yn := b.yn
  have vc := v.cases
  have hlt := m.lt
  have hx0 : (Y.map hol)[k]?.getD .any = .agg [.int .u8 h.s0, .int .u8 h.s1, .int .u8 h.s2, .int .u8 h.s3, .int .u8 h.d0, .int .u8 h.d1, .int .u8 h.d2, .int .u8 h.d3, .int .u8 h.pr, .int .u16 h.i, .int .u8 h.tt, .int .u64 h.since, .int .i64 h.en, .sl false 2 (h.got.map prt)] := by rw [List.getElem?_map, m.at_]; rfl
  have hgd := b.yg h (List.mem_of_getElem? m.at_)
  have clay := fragLay_ok h.got (by have := hgd.n; omega) hgd.o ⟨p.o, p.dt⟩ ⟨v.lo, v.hi⟩
  have cf := fragFits_ok h p (p.o + p.dt.length) (by have := hgd.n; omega) hgd.o m.f
  obtain ⟨v1, v2, v3, -, v5, -⟩ := v
  have cc := ybCloneF_ok p.dt (by omega) v5
  have hgl := pr_len (moreH h p).got
  clear b m hgd
  unfold moreH at *
  obtain ⟨i, mo, o, tt, pr, s0, s1, s2, s3, d0, d1, d2, d3, dt⟩ := p
  obtain ⟨x0, x1, x2, x3, x4, x5, x6, x7, xp, xi, xt, xs, xe, got⟩ := h
  dsimp only at *
  have el := by8_len dt
  unfold pkc at ci
  unfold prt at clay
  unfold hol pk pkc at cf
  try unfold pkz
  unfold pk pkc
  rw [show (List.map (fun x => AV.agg [.int .i64 x.off, .sl false 1 (x.dt.map by8)]) got) = got.map prt from rfl, show (List.map (fun x => AV.agg [.int .i64 x.off, .sl false 1 (x.dt.map by8)]) (layS got ⟨o, dt⟩)) = (layS got ⟨o, dt⟩).map prt from rfl] at clay
  dsimp only at ci clay cf hx0 ⊢
  rw [List.map_set]
  dsimp only [hol]
  generalize (layS got ⟨o, dt⟩).map prt = G2 at *
  generalize Y.map hol = es at *
  generalize Y.length = n at *
  have kl : k < es.length := by omega
  rcases vc with ⟨rfl, w1⟩ | ⟨rfl, rfl, w2⟩ | ⟨rfl, w1, w2⟩
  · have hx1 := set_get (x := (.agg [.int .u8 x0, .int .u8 x1, .int .u8 x2, .int .u8 x3, .int .u8 x4, .int .u8 x5, .int .u8 x6, .int .u8 x7, .int .u8 xp, .int .u16 xi, .int .u8 xt, .int .u64 xs, .int .i64 (o + dt.length), .sl false 2 (got.map prt)])) (y := .any) kl
    have sl1 := set_len2 (l := es) (k := k) (x := (.agg [.int .u8 x0, .int .u8 x1, .int .u8 x2, .int .u8 x3, .int .u8 x4, .int .u8 x5, .int .u8 x6, .int .u8 x7, .int .u8 xp, .int .u16 xi, .int .u8 xt, .int .u64 xs, .int .i64 (o + dt.length), .sl false 2 (got.map prt)]))
    have hx2 := set_get (x := (.agg [.int .u8 x0, .int .u8 x1, .int .u8 x2, .int .u8 x3, .int .u8 x4, .int .u8 x5, .int .u8 x6, .int .u8 x7, .int .u8 xp, .int .u16 xi, .int .u8 xt, .int .u64 xs, .int .i64 (o + dt.length), .sl false 2 G2])) (y := .any) kl
    have sl2 := set_len2 (l := es) (k := k) (x := (.agg [.int .u8 x0, .int .u8 x1, .int .u8 x2, .int .u8 x3, .int .u8 x4, .int .u8 x5, .int .u8 x6, .int .u8 x7, .int .u8 xp, .int .u16 xi, .int .u8 xt, .int .u64 xs, .int .i64 (o + dt.length), .sl false 2 G2]))
    have ip : ∀ a b : Int, (if (true = true) then a else b) = a := fun a b => if_pos rfl
    have iq : ∀ a b : Int, (if (false = true) then a else b) = b := fun a b => if_neg (by decide)
    try rw [ip] at *
    try rw [iq] at *
    clear ip iq
    refine acall_walk (N := 208) Try.func11 (by kernel_rfl) p_frag_Add rfl ?_; unfold c_frag_Add; dsimp only [enum, Nat.reduceAdd]
    (repeat (first | ((with_reducible show RG _ _ (_ :: _) _ _ _); refine RG.go1 (k := ?_)) | ((with_reducible show DG _ _ (_ :: _) _ _ _ _ _); refine DG.go1 (k := ?_)) | (with_reducible first | apply RG.nil | apply W.seq | apply W.reg | apply W.skip | apply W.block | apply W.drw | apply DG.nil | refine W.done (QB.n ?_)) | refine W.cndT ?_ | refine W.cndF ?_))
    (first | ((with_reducible show RG _ _ (_ :: _) _ _ _); refine RG.ca (ca) (k := ?_)) | ((with_reducible show DG _ _ (_ :: _) _ _ _ _ _); refine DG.ca (ca) (k := ?_)))
    (repeat (first | ((with_reducible show RG _ _ (_ :: _) _ _ _); refine RG.go1 (k := ?_)) | ((with_reducible show DG _ _ (_ :: _) _ _ _ _ _); refine DG.go1 (k := ?_)) | (with_reducible first | apply RG.nil | apply W.seq | apply W.reg | apply W.skip | apply W.block | apply W.drw | apply DG.nil | refine W.done (QB.n ?_)) | refine W.cndT ?_ | refine W.cndF ?_))
    (first | ((with_reducible show RG _ _ (_ :: _) _ _ _); refine RG.ca (ci) (k := ?_)) | ((with_reducible show DG _ _ (_ :: _) _ _ _ _ _); refine DG.ca (ci) (k := ?_)))
    (repeat (first | ((with_reducible show RG _ _ (_ :: _) _ _ _); refine RG.go1 (k := ?_)) | ((with_reducible show DG _ _ (_ :: _) _ _ _ _ _); refine DG.go1 (k := ?_)) | (with_reducible first | apply RG.nil | apply W.seq | apply W.reg | apply W.skip | apply W.block | apply W.drw | apply DG.nil | refine W.done (QB.n ?_)) | refine W.cndT ?_ | refine W.cndF ?_))
    (first | ((with_reducible show RG _ _ (_ :: _) _ _ _); refine RG.ew (ix_of ((show 0 + ((k : Int)).toNat = k by simp))) (k := ?_)) | ((with_reducible show DG _ _ (_ :: _) _ _ _ _ _); refine DG.ew (ix_of ((show 0 + ((k : Int)).toNat = k by simp))) (k := ?_)))
    (repeat (first | ((with_reducible show RG _ _ (_ :: _) _ _ _); refine RG.go1 (k := ?_)) | ((with_reducible show DG _ _ (_ :: _) _ _ _ _ _); refine DG.go1 (k := ?_)) | (with_reducible first | apply RG.nil | apply W.seq | apply W.reg | apply W.skip | apply W.block | apply W.drw | apply DG.nil | refine W.done (QB.n ?_)) | refine W.cndT ?_ | refine W.cndF ?_))
    (first | ((with_reducible show RG _ _ (_ :: _) _ _ _); refine RG.sm (A.ldr (hx0)) (k := ?_)) | ((with_reducible show DG _ _ (_ :: _) _ _ _ _ _); refine DG.sm (A.ldr (hx0)) (k := ?_)))
    (repeat (first | ((with_reducible show RG _ _ (_ :: _) _ _ _); refine RG.go1 (k := ?_)) | ((with_reducible show DG _ _ (_ :: _) _ _ _ _ _); refine DG.go1 (k := ?_)) | (with_reducible first | apply RG.nil | apply W.seq | apply W.reg | apply W.skip | apply W.block | apply W.drw | apply DG.nil | refine W.done (QB.n ?_)) | refine W.cndT ?_ | refine W.cndF ?_))
    (first | ((with_reducible show RG _ _ (_ :: _) _ _ _); refine RG.ca (cf) (k := ?_)) | ((with_reducible show DG _ _ (_ :: _) _ _ _ _ _); refine DG.ca (cf) (k := ?_)))
    (repeat (first | ((with_reducible show RG _ _ (_ :: _) _ _ _); refine RG.go1 (k := ?_)) | ((with_reducible show DG _ _ (_ :: _) _ _ _ _ _); refine DG.go1 (k := ?_)) | (with_reducible first | apply RG.nil | apply W.seq | apply W.reg | apply W.skip | apply W.block | apply W.drw | apply DG.nil | refine W.done (QB.n ?_)) | refine W.cndT ?_ | refine W.cndF ?_))
    rw [el]
    (first | ((with_reducible show RG _ _ (_ :: _) _ _ _); refine RG.sn (A.strF hx0 (rfl : es.set k (.agg [.int .u8 x0, .int .u8 x1, .int .u8 x2, .int .u8 x3, .int .u8 x4, .int .u8 x5, .int .u8 x6, .int .u8 x7, .int .u8 xp, .int .u16 xi, .int .u8 xt, .int .u64 xs, .int .i64 (o + dt.length), .sl false 2 (got.map prt)]) = _)) (k := ?_)) | ((with_reducible show DG _ _ (_ :: _) _ _ _ _ _); refine DG.sn (A.strF hx0 (rfl : es.set k (.agg [.int .u8 x0, .int .u8 x1, .int .u8 x2, .int .u8 x3, .int .u8 x4, .int .u8 x5, .int .u8 x6, .int .u8 x7, .int .u8 xp, .int .u16 xi, .int .u8 xt, .int .u64 xs, .int .i64 (o + dt.length), .sl false 2 (got.map prt)]) = _)) (k := ?_)))
    (repeat (first | ((with_reducible show RG _ _ (_ :: _) _ _ _); refine RG.go1 (k := ?_)) | ((with_reducible show DG _ _ (_ :: _) _ _ _ _ _); refine DG.go1 (k := ?_)) | (with_reducible first | apply RG.nil | apply W.seq | apply W.reg | apply W.skip | apply W.block | apply W.drw | apply DG.nil | refine W.done (QB.n ?_)) | refine W.cndT ?_ | refine W.cndF ?_))
    (first | ((with_reducible show RG _ _ (_ :: _) _ _ _); refine RG.sm (A.ldr (hx1)) (k := ?_)) | ((with_reducible show DG _ _ (_ :: _) _ _ _ _ _); refine DG.sm (A.ldr (hx1)) (k := ?_)))
    (repeat (first | ((with_reducible show RG _ _ (_ :: _) _ _ _); refine RG.go1 (k := ?_)) | ((with_reducible show DG _ _ (_ :: _) _ _ _ _ _); refine DG.go1 (k := ?_)) | (with_reducible first | apply RG.nil | apply W.seq | apply W.reg | apply W.skip | apply W.block | apply W.drw | apply DG.nil | refine W.done (QB.n ?_)) | refine W.cndT ?_ | refine W.cndF ?_))
    (first | ((with_reducible show RG _ _ (_ :: _) _ _ _); refine RG.ca (cc) (k := ?_)) | ((with_reducible show DG _ _ (_ :: _) _ _ _ _ _); refine DG.ca (cc) (k := ?_)))
    (repeat (first | ((with_reducible show RG _ _ (_ :: _) _ _ _); refine RG.go1 (k := ?_)) | ((with_reducible show DG _ _ (_ :: _) _ _ _ _ _); refine DG.go1 (k := ?_)) | (with_reducible first | apply RG.nil | apply W.seq | apply W.reg | apply W.skip | apply W.block | apply W.drw | apply DG.nil | refine W.done (QB.n ?_)) | refine W.cndT ?_ | refine W.cndF ?_))
    (first | ((with_reducible show RG _ _ (_ :: _) _ _ _); refine RG.ca (clay) (k := ?_)) | ((with_reducible show DG _ _ (_ :: _) _ _ _ _ _); refine DG.ca (clay) (k := ?_)))
    (repeat (first | ((with_reducible show RG _ _ (_ :: _) _ _ _); refine RG.go1 (k := ?_)) | ((with_reducible show DG _ _ (_ :: _) _ _ _ _ _); refine DG.go1 (k := ?_)) | (with_reducible first | apply RG.nil | apply W.seq | apply W.reg | apply W.skip | apply W.block | apply W.drw | apply DG.nil | refine W.done (QB.n ?_)) | refine W.cndT ?_ | refine W.cndF ?_))
    (first | ((with_reducible show RG _ _ (_ :: _) _ _ _); refine RG.sn (A.strF hx1 (set_set2 (l := es) (k := k) (y := (.agg [.int .u8 x0, .int .u8 x1, .int .u8 x2, .int .u8 x3, .int .u8 x4, .int .u8 x5, .int .u8 x6, .int .u8 x7, .int .u8 xp, .int .u16 xi, .int .u8 xt, .int .u64 xs, .int .i64 (o + dt.length), .sl false 2 G2])))) (k := ?_)) | ((with_reducible show DG _ _ (_ :: _) _ _ _ _ _); refine DG.sn (A.strF hx1 (set_set2 (l := es) (k := k) (y := (.agg [.int .u8 x0, .int .u8 x1, .int .u8 x2, .int .u8 x3, .int .u8 x4, .int .u8 x5, .int .u8 x6, .int .u8 x7, .int .u8 xp, .int .u16 xi, .int .u8 xt, .int .u64 xs, .int .i64 (o + dt.length), .sl false 2 G2])))) (k := ?_)))
    (repeat (first | ((with_reducible show RG _ _ (_ :: _) _ _ _); refine RG.go1 (k := ?_)) | ((with_reducible show DG _ _ (_ :: _) _ _ _ _ _); refine DG.go1 (k := ?_)) | (with_reducible first | apply RG.nil | apply W.seq | apply W.reg | apply W.skip | apply W.block | apply W.drw | apply DG.nil | refine W.done (QB.n ?_)) | refine W.cndT ?_ | refine W.cndF ?_))
    (first | ((with_reducible show RG _ _ (_ :: _) _ _ _); refine RG.sm (A.ldr (hx2)) (k := ?_)) | ((with_reducible show DG _ _ (_ :: _) _ _ _ _ _); refine DG.sm (A.ldr (hx2)) (k := ?_)))
    (repeat (first | ((with_reducible show RG _ _ (_ :: _) _ _ _); refine RG.go1 (k := ?_)) | ((with_reducible show DG _ _ (_ :: _) _ _ _ _ _); refine DG.go1 (k := ?_)) | (with_reducible first | apply RG.nil | apply W.seq | apply W.reg | apply W.skip | apply W.block | apply W.drw | apply DG.nil | refine W.done (QB.n ?_)) | refine W.cndT ?_ | refine W.cndF ?_))
    (refine W.ret ?_; (repeat (with_reducible first | refine QB.r ?_ | refine QL.r ?_ | refine QC.r ?_)); refine QF.r ?_)
    (refine RetOk.wk (Wk.frz (b := 0) rfl rfl) ?_; refine RetOk.wk (Wk.tmp (t := 6) (Cl.ice rfl rfl rfl (by first | assumption | decide | omega | (simp; (first | (all_goals fail) | fail)) | (simp <;> omega)) (by first | exact take_all _ | exact take_len (by first | (simp; (first | (all_goals fail) | fail)) | (simp <;> omega)) | exact rfl))) ?_; dsimp only [setO])
    exact RetOk.rs (vs := [_, _, _, _]) r_frag_Add []
  · skip
    have hx2 := set_get (x := (.agg [.int .u8 x0, .int .u8 x1, .int .u8 x2, .int .u8 x3, .int .u8 x4, .int .u8 x5, .int .u8 x6, .int .u8 x7, .int .u8 xp, .int .u16 xi, .int .u8 xt, .int .u64 xs, .int .i64 xe, .sl false 2 G2])) (y := .any) kl
    have sl2 := set_len2 (l := es) (k := k) (x := (.agg [.int .u8 x0, .int .u8 x1, .int .u8 x2, .int .u8 x3, .int .u8 x4, .int .u8 x5, .int .u8 x6, .int .u8 x7, .int .u8 xp, .int .u16 xi, .int .u8 xt, .int .u64 xs, .int .i64 xe, .sl false 2 G2]))
    have ip : ∀ a b : Int, (if (true = true) then a else b) = a := fun a b => if_pos rfl
    have iq : ∀ a b : Int, (if (false = true) then a else b) = b := fun a b => if_neg (by decide)
    try rw [ip] at *
    try rw [iq] at *
    clear ip iq
    refine acall_walk (N := 208) Try.func11 (by kernel_rfl) p_frag_Add rfl ?_; unfold c_frag_Add; dsimp only [enum, Nat.reduceAdd]
    (repeat (first | ((with_reducible show RG _ _ (_ :: _) _ _ _); refine RG.go1 (k := ?_)) | ((with_reducible show DG _ _ (_ :: _) _ _ _ _ _); refine DG.go1 (k := ?_)) | (with_reducible first | apply RG.nil | apply W.seq | apply W.reg | apply W.skip | apply W.block | apply W.drw | apply DG.nil | refine W.done (QB.n ?_)) | refine W.cndT ?_ | refine W.cndF ?_))
    (first | ((with_reducible show RG _ _ (_ :: _) _ _ _); refine RG.ca (ca) (k := ?_)) | ((with_reducible show DG _ _ (_ :: _) _ _ _ _ _); refine DG.ca (ca) (k := ?_)))
    (repeat (first | ((with_reducible show RG _ _ (_ :: _) _ _ _); refine RG.go1 (k := ?_)) | ((with_reducible show DG _ _ (_ :: _) _ _ _ _ _); refine DG.go1 (k := ?_)) | (with_reducible first | apply RG.nil | apply W.seq | apply W.reg | apply W.skip | apply W.block | apply W.drw | apply DG.nil | refine W.done (QB.n ?_)) | refine W.cndT ?_ | refine W.cndF ?_))
    (first | ((with_reducible show RG _ _ (_ :: _) _ _ _); refine RG.ca (ci) (k := ?_)) | ((with_reducible show DG _ _ (_ :: _) _ _ _ _ _); refine DG.ca (ci) (k := ?_)))
    (repeat (first | ((with_reducible show RG _ _ (_ :: _) _ _ _); refine RG.go1 (k := ?_)) | ((with_reducible show DG _ _ (_ :: _) _ _ _ _ _); refine DG.go1 (k := ?_)) | (with_reducible first | apply RG.nil | apply W.seq | apply W.reg | apply W.skip | apply W.block | apply W.drw | apply DG.nil | refine W.done (QB.n ?_)) | refine W.cndT ?_ | refine W.cndF ?_))
    (first | ((with_reducible show RG _ _ (_ :: _) _ _ _); refine RG.ew (ix_of ((show 0 + ((k : Int)).toNat = k by simp))) (k := ?_)) | ((with_reducible show DG _ _ (_ :: _) _ _ _ _ _); refine DG.ew (ix_of ((show 0 + ((k : Int)).toNat = k by simp))) (k := ?_)))
    (repeat (first | ((with_reducible show RG _ _ (_ :: _) _ _ _); refine RG.go1 (k := ?_)) | ((with_reducible show DG _ _ (_ :: _) _ _ _ _ _); refine DG.go1 (k := ?_)) | (with_reducible first | apply RG.nil | apply W.seq | apply W.reg | apply W.skip | apply W.block | apply W.drw | apply DG.nil | refine W.done (QB.n ?_)) | refine W.cndT ?_ | refine W.cndF ?_))
    (first | ((with_reducible show RG _ _ (_ :: _) _ _ _); refine RG.sm (A.ldr (hx0)) (k := ?_)) | ((with_reducible show DG _ _ (_ :: _) _ _ _ _ _); refine DG.sm (A.ldr (hx0)) (k := ?_)))
    (repeat (first | ((with_reducible show RG _ _ (_ :: _) _ _ _); refine RG.go1 (k := ?_)) | ((with_reducible show DG _ _ (_ :: _) _ _ _ _ _); refine DG.go1 (k := ?_)) | (with_reducible first | apply RG.nil | apply W.seq | apply W.reg | apply W.skip | apply W.block | apply W.drw | apply DG.nil | refine W.done (QB.n ?_)) | refine W.cndT ?_ | refine W.cndF ?_))
    (first | ((with_reducible show RG _ _ (_ :: _) _ _ _); refine RG.ca (cf) (k := ?_)) | ((with_reducible show DG _ _ (_ :: _) _ _ _ _ _); refine DG.ca (cf) (k := ?_)))
    (repeat (first | ((with_reducible show RG _ _ (_ :: _) _ _ _); refine RG.go1 (k := ?_)) | ((with_reducible show DG _ _ (_ :: _) _ _ _ _ _); refine DG.go1 (k := ?_)) | (with_reducible first | apply RG.nil | apply W.seq | apply W.reg | apply W.skip | apply W.block | apply W.drw | apply DG.nil | refine W.done (QB.n ?_)) | refine W.cndT ?_ | refine W.cndF ?_))
    (first | ((with_reducible show RG _ _ (_ :: _) _ _ _); refine RG.sm (A.ldr (hx0)) (k := ?_)) | ((with_reducible show DG _ _ (_ :: _) _ _ _ _ _); refine DG.sm (A.ldr (hx0)) (k := ?_)))
    (repeat (first | ((with_reducible show RG _ _ (_ :: _) _ _ _); refine RG.go1 (k := ?_)) | ((with_reducible show DG _ _ (_ :: _) _ _ _ _ _); refine DG.go1 (k := ?_)) | (with_reducible first | apply RG.nil | apply W.seq | apply W.reg | apply W.skip | apply W.block | apply W.drw | apply DG.nil | refine W.done (QB.n ?_)) | refine W.cndT ?_ | refine W.cndF ?_))
    (first | ((with_reducible show RG _ _ (_ :: _) _ _ _); refine RG.ca (cc) (k := ?_)) | ((with_reducible show DG _ _ (_ :: _) _ _ _ _ _); refine DG.ca (cc) (k := ?_)))
    (repeat (first | ((with_reducible show RG _ _ (_ :: _) _ _ _); refine RG.go1 (k := ?_)) | ((with_reducible show DG _ _ (_ :: _) _ _ _ _ _); refine DG.go1 (k := ?_)) | (with_reducible first | apply RG.nil | apply W.seq | apply W.reg | apply W.skip | apply W.block | apply W.drw | apply DG.nil | refine W.done (QB.n ?_)) | refine W.cndT ?_ | refine W.cndF ?_))
    (first | ((with_reducible show RG _ _ (_ :: _) _ _ _); refine RG.ca (clay) (k := ?_)) | ((with_reducible show DG _ _ (_ :: _) _ _ _ _ _); refine DG.ca (clay) (k := ?_)))
    (repeat (first | ((with_reducible show RG _ _ (_ :: _) _ _ _); refine RG.go1 (k := ?_)) | ((with_reducible show DG _ _ (_ :: _) _ _ _ _ _); refine DG.go1 (k := ?_)) | (with_reducible first | apply RG.nil | apply W.seq | apply W.reg | apply W.skip | apply W.block | apply W.drw | apply DG.nil | refine W.done (QB.n ?_)) | refine W.cndT ?_ | refine W.cndF ?_))
    (first | ((with_reducible show RG _ _ (_ :: _) _ _ _); refine RG.sn (A.strF hx0 (rfl : es.set k (.agg [.int .u8 x0, .int .u8 x1, .int .u8 x2, .int .u8 x3, .int .u8 x4, .int .u8 x5, .int .u8 x6, .int .u8 x7, .int .u8 xp, .int .u16 xi, .int .u8 xt, .int .u64 xs, .int .i64 xe, .sl false 2 G2]) = _)) (k := ?_)) | ((with_reducible show DG _ _ (_ :: _) _ _ _ _ _); refine DG.sn (A.strF hx0 (rfl : es.set k (.agg [.int .u8 x0, .int .u8 x1, .int .u8 x2, .int .u8 x3, .int .u8 x4, .int .u8 x5, .int .u8 x6, .int .u8 x7, .int .u8 xp, .int .u16 xi, .int .u8 xt, .int .u64 xs, .int .i64 xe, .sl false 2 G2]) = _)) (k := ?_)))
    (repeat (first | ((with_reducible show RG _ _ (_ :: _) _ _ _); refine RG.go1 (k := ?_)) | ((with_reducible show DG _ _ (_ :: _) _ _ _ _ _); refine DG.go1 (k := ?_)) | (with_reducible first | apply RG.nil | apply W.seq | apply W.reg | apply W.skip | apply W.block | apply W.drw | apply DG.nil | refine W.done (QB.n ?_)) | refine W.cndT ?_ | refine W.cndF ?_))
    (first | ((with_reducible show RG _ _ (_ :: _) _ _ _); refine RG.sm (A.ldr (hx2)) (k := ?_)) | ((with_reducible show DG _ _ (_ :: _) _ _ _ _ _); refine DG.sm (A.ldr (hx2)) (k := ?_)))
    (repeat (first | ((with_reducible show RG _ _ (_ :: _) _ _ _); refine RG.go1 (k := ?_)) | ((with_reducible show DG _ _ (_ :: _) _ _ _ _ _); refine DG.go1 (k := ?_)) | (with_reducible first | apply RG.nil | apply W.seq | apply W.reg | apply W.skip | apply W.block | apply W.drw | apply DG.nil | refine W.done (QB.n ?_)) | refine W.cndT ?_ | refine W.cndF ?_))
    (refine W.ret ?_; (repeat (with_reducible first | refine QB.r ?_ | refine QL.r ?_ | refine QC.r ?_)); refine QF.r ?_)
    (refine RetOk.wk (Wk.frz (b := 0) rfl rfl) ?_; refine RetOk.wk (Wk.tmp (t := 6) (Cl.ice rfl rfl rfl (by first | assumption | decide | omega | (simp; (first | (all_goals fail) | fail)) | (simp <;> omega)) (by first | exact take_all _ | exact take_len (by first | (simp; (first | (all_goals fail) | fail)) | (simp <;> omega)) | exact rfl))) ?_; dsimp only [setO])
    exact RetOk.rs (vs := [_, _, _, _]) r_frag_Add []
  · skip
    have hx2 := set_get (x := (.agg [.int .u8 x0, .int .u8 x1, .int .u8 x2, .int .u8 x3, .int .u8 x4, .int .u8 x5, .int .u8 x6, .int .u8 x7, .int .u8 xp, .int .u16 xi, .int .u8 xt, .int .u64 xs, .int .i64 xe, .sl false 2 G2])) (y := .any) kl
    have sl2 := set_len2 (l := es) (k := k) (x := (.agg [.int .u8 x0, .int .u8 x1, .int .u8 x2, .int .u8 x3, .int .u8 x4, .int .u8 x5, .int .u8 x6, .int .u8 x7, .int .u8 xp, .int .u16 xi, .int .u8 xt, .int .u64 xs, .int .i64 xe, .sl false 2 G2]))
    have ip : ∀ a b : Int, (if (true = true) then a else b) = a := fun a b => if_pos rfl
    have iq : ∀ a b : Int, (if (false = true) then a else b) = b := fun a b => if_neg (by decide)
    try rw [ip] at *
    try rw [iq] at *
    clear ip iq
    refine acall_walk (N := 208) Try.func11 (by kernel_rfl) p_frag_Add rfl ?_; unfold c_frag_Add; dsimp only [enum, Nat.reduceAdd]
    (repeat (first | ((with_reducible show RG _ _ (_ :: _) _ _ _); refine RG.go1 (k := ?_)) | ((with_reducible show DG _ _ (_ :: _) _ _ _ _ _); refine DG.go1 (k := ?_)) | (with_reducible first | apply RG.nil | apply W.seq | apply W.reg | apply W.skip | apply W.block | apply W.drw | apply DG.nil | refine W.done (QB.n ?_)) | refine W.cndT ?_ | refine W.cndF ?_))
    (first | ((with_reducible show RG _ _ (_ :: _) _ _ _); refine RG.ca (ca) (k := ?_)) | ((with_reducible show DG _ _ (_ :: _) _ _ _ _ _); refine DG.ca (ca) (k := ?_)))
    (repeat (first | ((with_reducible show RG _ _ (_ :: _) _ _ _); refine RG.go1 (k := ?_)) | ((with_reducible show DG _ _ (_ :: _) _ _ _ _ _); refine DG.go1 (k := ?_)) | (with_reducible first | apply RG.nil | apply W.seq | apply W.reg | apply W.skip | apply W.block | apply W.drw | apply DG.nil | refine W.done (QB.n ?_)) | refine W.cndT ?_ | refine W.cndF ?_))
    (first | ((with_reducible show RG _ _ (_ :: _) _ _ _); refine RG.ca (ci) (k := ?_)) | ((with_reducible show DG _ _ (_ :: _) _ _ _ _ _); refine DG.ca (ci) (k := ?_)))
    (repeat (first | ((with_reducible show RG _ _ (_ :: _) _ _ _); refine RG.go1 (k := ?_)) | ((with_reducible show DG _ _ (_ :: _) _ _ _ _ _); refine DG.go1 (k := ?_)) | (with_reducible first | apply RG.nil | apply W.seq | apply W.reg | apply W.skip | apply W.block | apply W.drw | apply DG.nil | refine W.done (QB.n ?_)) | refine W.cndT ?_ | refine W.cndF ?_))
    (first | ((with_reducible show RG _ _ (_ :: _) _ _ _); refine RG.ew (ix_of ((show 0 + ((k : Int)).toNat = k by simp))) (k := ?_)) | ((with_reducible show DG _ _ (_ :: _) _ _ _ _ _); refine DG.ew (ix_of ((show 0 + ((k : Int)).toNat = k by simp))) (k := ?_)))
    (repeat (first | ((with_reducible show RG _ _ (_ :: _) _ _ _); refine RG.go1 (k := ?_)) | ((with_reducible show DG _ _ (_ :: _) _ _ _ _ _); refine DG.go1 (k := ?_)) | (with_reducible first | apply RG.nil | apply W.seq | apply W.reg | apply W.skip | apply W.block | apply W.drw | apply DG.nil | refine W.done (QB.n ?_)) | refine W.cndT ?_ | refine W.cndF ?_))
    (first | ((with_reducible show RG _ _ (_ :: _) _ _ _); refine RG.sm (A.ldr (hx0)) (k := ?_)) | ((with_reducible show DG _ _ (_ :: _) _ _ _ _ _); refine DG.sm (A.ldr (hx0)) (k := ?_)))
    (repeat (first | ((with_reducible show RG _ _ (_ :: _) _ _ _); refine RG.go1 (k := ?_)) | ((with_reducible show DG _ _ (_ :: _) _ _ _ _ _); refine DG.go1 (k := ?_)) | (with_reducible first | apply RG.nil | apply W.seq | apply W.reg | apply W.skip | apply W.block | apply W.drw | apply DG.nil | refine W.done (QB.n ?_)) | refine W.cndT ?_ | refine W.cndF ?_))
    (first | ((with_reducible show RG _ _ (_ :: _) _ _ _); refine RG.ca (cf) (k := ?_)) | ((with_reducible show DG _ _ (_ :: _) _ _ _ _ _); refine DG.ca (cf) (k := ?_)))
    (repeat (first | ((with_reducible show RG _ _ (_ :: _) _ _ _); refine RG.go1 (k := ?_)) | ((with_reducible show DG _ _ (_ :: _) _ _ _ _ _); refine DG.go1 (k := ?_)) | (with_reducible first | apply RG.nil | apply W.seq | apply W.reg | apply W.skip | apply W.block | apply W.drw | apply DG.nil | refine W.done (QB.n ?_)) | refine W.cndT ?_ | refine W.cndF ?_))
    (first | ((with_reducible show RG _ _ (_ :: _) _ _ _); refine RG.sm (A.ldr (hx0)) (k := ?_)) | ((with_reducible show DG _ _ (_ :: _) _ _ _ _ _); refine DG.sm (A.ldr (hx0)) (k := ?_)))
    (repeat (first | ((with_reducible show RG _ _ (_ :: _) _ _ _); refine RG.go1 (k := ?_)) | ((with_reducible show DG _ _ (_ :: _) _ _ _ _ _); refine DG.go1 (k := ?_)) | (with_reducible first | apply RG.nil | apply W.seq | apply W.reg | apply W.skip | apply W.block | apply W.drw | apply DG.nil | refine W.done (QB.n ?_)) | refine W.cndT ?_ | refine W.cndF ?_))
    (first | ((with_reducible show RG _ _ (_ :: _) _ _ _); refine RG.ca (cc) (k := ?_)) | ((with_reducible show DG _ _ (_ :: _) _ _ _ _ _); refine DG.ca (cc) (k := ?_)))
    (repeat (first | ((with_reducible show RG _ _ (_ :: _) _ _ _); refine RG.go1 (k := ?_)) | ((with_reducible show DG _ _ (_ :: _) _ _ _ _ _); refine DG.go1 (k := ?_)) | (with_reducible first | apply RG.nil | apply W.seq | apply W.reg | apply W.skip | apply W.block | apply W.drw | apply DG.nil | refine W.done (QB.n ?_)) | refine W.cndT ?_ | refine W.cndF ?_))
    (first | ((with_reducible show RG _ _ (_ :: _) _ _ _); refine RG.ca (clay) (k := ?_)) | ((with_reducible show DG _ _ (_ :: _) _ _ _ _ _); refine DG.ca (clay) (k := ?_)))
    (repeat (first | ((with_reducible show RG _ _ (_ :: _) _ _ _); refine RG.go1 (k := ?_)) | ((with_reducible show DG _ _ (_ :: _) _ _ _ _ _); refine DG.go1 (k := ?_)) | (with_reducible first | apply RG.nil | apply W.seq | apply W.reg | apply W.skip | apply W.block | apply W.drw | apply DG.nil | refine W.done (QB.n ?_)) | refine W.cndT ?_ | refine W.cndF ?_))
    (first | ((with_reducible show RG _ _ (_ :: _) _ _ _); refine RG.sn (A.strF hx0 (rfl : es.set k (.agg [.int .u8 x0, .int .u8 x1, .int .u8 x2, .int .u8 x3, .int .u8 x4, .int .u8 x5, .int .u8 x6, .int .u8 x7, .int .u8 xp, .int .u16 xi, .int .u8 xt, .int .u64 xs, .int .i64 xe, .sl false 2 G2]) = _)) (k := ?_)) | ((with_reducible show DG _ _ (_ :: _) _ _ _ _ _); refine DG.sn (A.strF hx0 (rfl : es.set k (.agg [.int .u8 x0, .int .u8 x1, .int .u8 x2, .int .u8 x3, .int .u8 x4, .int .u8 x5, .int .u8 x6, .int .u8 x7, .int .u8 xp, .int .u16 xi, .int .u8 xt, .int .u64 xs, .int .i64 xe, .sl false 2 G2]) = _)) (k := ?_)))
    (repeat (first | ((with_reducible show RG _ _ (_ :: _) _ _ _); refine RG.go1 (k := ?_)) | ((with_reducible show DG _ _ (_ :: _) _ _ _ _ _); refine DG.go1 (k := ?_)) | (with_reducible first | apply RG.nil | apply W.seq | apply W.reg | apply W.skip | apply W.block | apply W.drw | apply DG.nil | refine W.done (QB.n ?_)) | refine W.cndT ?_ | refine W.cndF ?_))
    (first | ((with_reducible show RG _ _ (_ :: _) _ _ _); refine RG.sm (A.ldr (hx2)) (k := ?_)) | ((with_reducible show DG _ _ (_ :: _) _ _ _ _ _); refine DG.sm (A.ldr (hx2)) (k := ?_)))
    (repeat (first | ((with_reducible show RG _ _ (_ :: _) _ _ _); refine RG.go1 (k := ?_)) | ((with_reducible show DG _ _ (_ :: _) _ _ _ _ _); refine DG.go1 (k := ?_)) | (with_reducible first | apply RG.nil | apply W.seq | apply W.reg | apply W.skip | apply W.block | apply W.drw | apply DG.nil | refine W.done (QB.n ?_)) | refine W.cndT ?_ | refine W.cndF ?_))
    (refine W.ret ?_; (repeat (with_reducible first | refine QB.r ?_ | refine QL.r ?_ | refine QC.r ?_)); refine QF.r ?_)
    (refine RetOk.wk (Wk.frz (b := 0) rfl rfl) ?_; refine RetOk.wk (Wk.tmp (t := 6) (Cl.ice rfl rfl rfl (by first | assumption | decide | omega | (simp; (first | (all_goals fail) | fail)) | (simp <;> omega)) (by first | exact take_all _ | exact take_len (by first | (simp; (first | (all_goals fail) | fail)) | (simp <;> omega)) | exact rfl))) ?_; dsimp only [setO])
    exact RetOk.rs (vs := [_, _, _, _]) r_frag_Add []
theorem add_incB {l Y : List Hl} {now : Int} (b : Been l now Y) (p : Pk) (v : p.V) (k : Nat) (h : Hl) (m : More Y p k h) (g0 : Prt) (hgi : (moreH h p).got = [g0]) (h0f : g0.off ≠ 0) :
    ACall Try.prog 11 [.sl true 14 (l.map hol), pk false p, .int .u64 now] (.tup [.sl false 14 ((Y.set k (moreH h p)).map hol), pkz, .bool false, .int .i64 0]) [] := by
  have ca := b.age
  have ci := b.index p
  rw [m.idx] at ci
  have yl := ho_len Y
  have yp := ho_pure Y
  have yn := b.yn
  have vc := v.cases
  have hlt := m.lt
  have hx0 : (Y.map hol)[k]?.getD .any = .agg [.int .u8 h.s0, .int .u8 h.s1, .int .u8 h.s2, .int .u8 h.s3, .int .u8 h.d0, .int .u8 h.d1, .int .u8 h.d2, .int .u8 h.d3, .int .u8 h.pr, .int .u16 h.i, .int .u8 h.tt, .int .u64 h.since, .int .i64 h.en, .sl false 2 (h.got.map prt)] := by rw [List.getElem?_map, m.at_]; rfl
  have hgd := b.yg h (List.mem_of_getElem? m.at_)
  have clay := fragLay_ok h.got (by have := hgd.n; omega) hgd.o ⟨p.o, p.dt⟩ ⟨v.lo, v.hi⟩
  have cf := fragFits_ok h p (p.o + p.dt.length) (by have := hgd.n; omega) hgd.o m.f
  obtain ⟨v1, v2, v3, -, v5, -⟩ := v
  have cc := ybCloneF_ok p.dt (by omega) v5
  have hgl := pr_len (moreH h p).got
  clear b m hgd
  unfold moreH at *
  obtain ⟨i, mo, o, tt, pr, s0, s1, s2, s3, d0, d1, d2, d3, dt⟩ := p
  obtain ⟨x0, x1, x2, x3, x4, x5, x6, x7, xp, xi, xt, xs, xe, got⟩ := h
  dsimp only at *
  have el := by8_len dt
  unfold pkc at ci
  unfold prt at clay
  unfold hol pk pkc at cf
  try unfold pkz
  unfold pk pkc
  rw [show (List.map (fun x => AV.agg [.int .i64 x.off, .sl false 1 (x.dt.map by8)]) got) = got.map prt from rfl, show (List.map (fun x => AV.agg [.int .i64 x.off, .sl false 1 (x.dt.map by8)]) (layS got ⟨o, dt⟩)) = (layS got ⟨o, dt⟩).map prt from rfl] at clay
  dsimp only at ci clay cf hx0 ⊢
  rw [List.map_set]
  dsimp only [hol]
  have e0 : ((layS got ⟨o, dt⟩).map prt)[Int.toNat 0]?.getD .any = .agg [.int .i64 g0.off, .sl false 1 (g0.dt.map by8)] := by rw [hgi]; rfl
  have l1 : ((layS got ⟨o, dt⟩).map prt).length = 1 := by rw [hgi]; rfl
  clear hgi hgl
  generalize (layS got ⟨o, dt⟩).map prt = G2 at *
  generalize Y.map hol = es at *
  generalize Y.length = n at *
  have kl : k < es.length := by omega
  rcases vc with ⟨rfl, w1⟩ | ⟨rfl, rfl, w2⟩ | ⟨rfl, w1, w2⟩
  · have hx1 := set_get (x := (.agg [.int .u8 x0, .int .u8 x1, .int .u8 x2, .int .u8 x3, .int .u8 x4, .int .u8 x5, .int .u8 x6, .int .u8 x7, .int .u8 xp, .int .u16 xi, .int .u8 xt, .int .u64 xs, .int .i64 (o + dt.length), .sl false 2 (got.map prt)])) (y := .any) kl
    have sl1 := set_len2 (l := es) (k := k) (x := (.agg [.int .u8 x0, .int .u8 x1, .int .u8 x2, .int .u8 x3, .int .u8 x4, .int .u8 x5, .int .u8 x6, .int .u8 x7, .int .u8 xp, .int .u16 xi, .int .u8 xt, .int .u64 xs, .int .i64 (o + dt.length), .sl false 2 (got.map prt)]))
    have hx2 := set_get (x := (.agg [.int .u8 x0, .int .u8 x1, .int .u8 x2, .int .u8 x3, .int .u8 x4, .int .u8 x5, .int .u8 x6, .int .u8 x7, .int .u8 xp, .int .u16 xi, .int .u8 xt, .int .u64 xs, .int .i64 (o + dt.length), .sl false 2 G2])) (y := .any) kl
    have sl2 := set_len2 (l := es) (k := k) (x := (.agg [.int .u8 x0, .int .u8 x1, .int .u8 x2, .int .u8 x3, .int .u8 x4, .int .u8 x5, .int .u8 x6, .int .u8 x7, .int .u8 xp, .int .u16 xi, .int .u8 xt, .int .u64 xs, .int .i64 (o + dt.length), .sl false 2 G2]))
    have ip : ∀ a b : Int, (if (true = true) then a else b) = a := fun a b => if_pos rfl
    have iq : ∀ a b : Int, (if (false = true) then a else b) = b := fun a b => if_neg (by decide)
    try rw [ip] at *
    try rw [iq] at *
    clear ip iq
    refine acall_walk (N := 208) Try.func11 (by kernel_rfl) p_frag_Add rfl ?_; unfold c_frag_Add; dsimp only [enum, Nat.reduceAdd]
    (repeat (first | ((with_reducible show RG _ _ (_ :: _) _ _ _); refine RG.go1 (k := ?_)) | ((with_reducible show DG _ _ (_ :: _) _ _ _ _ _); refine DG.go1 (k := ?_)) | (with_reducible first | apply RG.nil | apply W.seq | apply W.reg | apply W.skip | apply W.block | apply W.drw | apply DG.nil | refine W.done (QB.n ?_)) | refine W.cndT ?_ | refine W.cndF ?_))
    (first | ((with_reducible show RG _ _ (_ :: _) _ _ _); refine RG.ca (ca) (k := ?_)) | ((with_reducible show DG _ _ (_ :: _) _ _ _ _ _); refine DG.ca (ca) (k := ?_)))
    (repeat (first | ((with_reducible show RG _ _ (_ :: _) _ _ _); refine RG.go1 (k := ?_)) | ((with_reducible show DG _ _ (_ :: _) _ _ _ _ _); refine DG.go1 (k := ?_)) | (with_reducible first | apply RG.nil | apply W.seq | apply W.reg | apply W.skip | apply W.block | apply W.drw | apply DG.nil | refine W.done (QB.n ?_)) | refine W.cndT ?_ | refine W.cndF ?_))
    (first | ((with_reducible show RG _ _ (_ :: _) _ _ _); refine RG.ca (ci) (k := ?_)) | ((with_reducible show DG _ _ (_ :: _) _ _ _ _ _); refine DG.ca (ci) (k := ?_)))
    (repeat (first | ((with_reducible show RG _ _ (_ :: _) _ _ _); refine RG.go1 (k := ?_)) | ((with_reducible show DG _ _ (_ :: _) _ _ _ _ _); refine DG.go1 (k := ?_)) | (with_reducible first | apply RG.nil | apply W.seq | apply W.reg | apply W.skip | apply W.block | apply W.drw | apply DG.nil | refine W.done (QB.n ?_)) | refine W.cndT ?_ | refine W.cndF ?_))
    (first | ((with_reducible show RG _ _ (_ :: _) _ _ _); refine RG.ew (ix_of ((show 0 + ((k : Int)).toNat = k by simp))) (k := ?_)) | ((with_reducible show DG _ _ (_ :: _) _ _ _ _ _); refine DG.ew (ix_of ((show 0 + ((k : Int)).toNat = k by simp))) (k := ?_)))
    (repeat (first | ((with_reducible show RG _ _ (_ :: _) _ _ _); refine RG.go1 (k := ?_)) | ((with_reducible show DG _ _ (_ :: _) _ _ _ _ _); refine DG.go1 (k := ?_)) | (with_reducible first | apply RG.nil | apply W.seq | apply W.reg | apply W.skip | apply W.block | apply W.drw | apply DG.nil | refine W.done (QB.n ?_)) | refine W.cndT ?_ | refine W.cndF ?_))
    (first | ((with_reducible show RG _ _ (_ :: _) _ _ _); refine RG.sm (A.ldr (hx0)) (k := ?_)) | ((with_reducible show DG _ _ (_ :: _) _ _ _ _ _); refine DG.sm (A.ldr (hx0)) (k := ?_)))
    (repeat (first | ((with_reducible show RG _ _ (_ :: _) _ _ _); refine RG.go1 (k := ?_)) | ((with_reducible show DG _ _ (_ :: _) _ _ _ _ _); refine DG.go1 (k := ?_)) | (with_reducible first | apply RG.nil | apply W.seq | apply W.reg | apply W.skip | apply W.block | apply W.drw | apply DG.nil | refine W.done (QB.n ?_)) | refine W.cndT ?_ | refine W.cndF ?_))
    (first | ((with_reducible show RG _ _ (_ :: _) _ _ _); refine RG.ca (cf) (k := ?_)) | ((with_reducible show DG _ _ (_ :: _) _ _ _ _ _); refine DG.ca (cf) (k := ?_)))
    (repeat (first | ((with_reducible show RG _ _ (_ :: _) _ _ _); refine RG.go1 (k := ?_)) | ((with_reducible show DG _ _ (_ :: _) _ _ _ _ _); refine DG.go1 (k := ?_)) | (with_reducible first | apply RG.nil | apply W.seq | apply W.reg | apply W.skip | apply W.block | apply W.drw | apply DG.nil | refine W.done (QB.n ?_)) | refine W.cndT ?_ | refine W.cndF ?_))
    rw [el]
    (first | ((with_reducible show RG _ _ (_ :: _) _ _ _); refine RG.sn (A.strF hx0 (rfl : es.set k (.agg [.int .u8 x0, .int .u8 x1, .int .u8 x2, .int .u8 x3, .int .u8 x4, .int .u8 x5, .int .u8 x6, .int .u8 x7, .int .u8 xp, .int .u16 xi, .int .u8 xt, .int .u64 xs, .int .i64 (o + dt.length), .sl false 2 (got.map prt)]) = _)) (k := ?_)) | ((with_reducible show DG _ _ (_ :: _) _ _ _ _ _); refine DG.sn (A.strF hx0 (rfl : es.set k (.agg [.int .u8 x0, .int .u8 x1, .int .u8 x2, .int .u8 x3, .int .u8 x4, .int .u8 x5, .int .u8 x6, .int .u8 x7, .int .u8 xp, .int .u16 xi, .int .u8 xt, .int .u64 xs, .int .i64 (o + dt.length), .sl false 2 (got.map prt)]) = _)) (k := ?_)))
    (repeat (first | ((with_reducible show RG _ _ (_ :: _) _ _ _); refine RG.go1 (k := ?_)) | ((with_reducible show DG _ _ (_ :: _) _ _ _ _ _); refine DG.go1 (k := ?_)) | (with_reducible first | apply RG.nil | apply W.seq | apply W.reg | apply W.skip | apply W.block | apply W.drw | apply DG.nil | refine W.done (QB.n ?_)) | refine W.cndT ?_ | refine W.cndF ?_))
    (first | ((with_reducible show RG _ _ (_ :: _) _ _ _); refine RG.sm (A.ldr (hx1)) (k := ?_)) | ((with_reducible show DG _ _ (_ :: _) _ _ _ _ _); refine DG.sm (A.ldr (hx1)) (k := ?_)))
    (repeat (first | ((with_reducible show RG _ _ (_ :: _) _ _ _); refine RG.go1 (k := ?_)) | ((with_reducible show DG _ _ (_ :: _) _ _ _ _ _); refine DG.go1 (k := ?_)) | (with_reducible first | apply RG.nil | apply W.seq | apply W.reg | apply W.skip | apply W.block | apply W.drw | apply DG.nil | refine W.done (QB.n ?_)) | refine W.cndT ?_ | refine W.cndF ?_))
    (first | ((with_reducible show RG _ _ (_ :: _) _ _ _); refine RG.ca (cc) (k := ?_)) | ((with_reducible show DG _ _ (_ :: _) _ _ _ _ _); refine DG.ca (cc) (k := ?_)))
    (repeat (first | ((with_reducible show RG _ _ (_ :: _) _ _ _); refine RG.go1 (k := ?_)) | ((with_reducible show DG _ _ (_ :: _) _ _ _ _ _); refine DG.go1 (k := ?_)) | (with_reducible first | apply RG.nil | apply W.seq | apply W.reg | apply W.skip | apply W.block | apply W.drw | apply DG.nil | refine W.done (QB.n ?_)) | refine W.cndT ?_ | refine W.cndF ?_))
    (first | ((with_reducible show RG _ _ (_ :: _) _ _ _); refine RG.ca (clay) (k := ?_)) | ((with_reducible show DG _ _ (_ :: _) _ _ _ _ _); refine DG.ca (clay) (k := ?_)))
    (repeat (first | ((with_reducible show RG _ _ (_ :: _) _ _ _); refine RG.go1 (k := ?_)) | ((with_reducible show DG _ _ (_ :: _) _ _ _ _ _); refine DG.go1 (k := ?_)) | (with_reducible first | apply RG.nil | apply W.seq | apply W.reg | apply W.skip | apply W.block | apply W.drw | apply DG.nil | refine W.done (QB.n ?_)) | refine W.cndT ?_ | refine W.cndF ?_))
    (first | ((with_reducible show RG _ _ (_ :: _) _ _ _); refine RG.sn (A.strF hx1 (set_set2 (l := es) (k := k) (y := (.agg [.int .u8 x0, .int .u8 x1, .int .u8 x2, .int .u8 x3, .int .u8 x4, .int .u8 x5, .int .u8 x6, .int .u8 x7, .int .u8 xp, .int .u16 xi, .int .u8 xt, .int .u64 xs, .int .i64 (o + dt.length), .sl false 2 G2])))) (k := ?_)) | ((with_reducible show DG _ _ (_ :: _) _ _ _ _ _); refine DG.sn (A.strF hx1 (set_set2 (l := es) (k := k) (y := (.agg [.int .u8 x0, .int .u8 x1, .int .u8 x2, .int .u8 x3, .int .u8 x4, .int .u8 x5, .int .u8 x6, .int .u8 x7, .int .u8 xp, .int .u16 xi, .int .u8 xt, .int .u64 xs, .int .i64 (o + dt.length), .sl false 2 G2])))) (k := ?_)))
    (repeat (first | ((with_reducible show RG _ _ (_ :: _) _ _ _); refine RG.go1 (k := ?_)) | ((with_reducible show DG _ _ (_ :: _) _ _ _ _ _); refine DG.go1 (k := ?_)) | (with_reducible first | apply RG.nil | apply W.seq | apply W.reg | apply W.skip | apply W.block | apply W.drw | apply DG.nil | refine W.done (QB.n ?_)) | refine W.cndT ?_ | refine W.cndF ?_))
    (first | ((with_reducible show RG _ _ (_ :: _) _ _ _); refine RG.sm (A.ldr (hx2)) (k := ?_)) | ((with_reducible show DG _ _ (_ :: _) _ _ _ _ _); refine DG.sm (A.ldr (hx2)) (k := ?_)))
    (repeat (first | ((with_reducible show RG _ _ (_ :: _) _ _ _); refine RG.go1 (k := ?_)) | ((with_reducible show DG _ _ (_ :: _) _ _ _ _ _); refine DG.go1 (k := ?_)) | (with_reducible first | apply RG.nil | apply W.seq | apply W.reg | apply W.skip | apply W.block | apply W.drw | apply DG.nil | refine W.done (QB.n ?_)) | refine W.cndT ?_ | refine W.cndF ?_))
    (first | ((with_reducible show RG _ _ (_ :: _) _ _ _); refine RG.gld (hx2) (k := ?_)) | ((with_reducible show DG _ _ (_ :: _) _ _ _ _ _); refine DG.gld (hx2) (k := ?_)))
    (repeat (first | ((with_reducible show RG _ _ (_ :: _) _ _ _); refine RG.go1 (k := ?_)) | ((with_reducible show DG _ _ (_ :: _) _ _ _ _ _); refine DG.go1 (k := ?_)) | (with_reducible first | apply RG.nil | apply W.seq | apply W.reg | apply W.skip | apply W.block | apply W.drw | apply DG.nil | refine W.done (QB.n ?_)) | refine W.cndT ?_ | refine W.cndF ?_))
    (first | ((with_reducible show RG _ _ (_ :: _) _ _ _); refine RG.ewg (cptr_of (e0) (by (conv => lhs; whnf) <;> exact rfl)) (k := ?_)) | ((with_reducible show DG _ _ (_ :: _) _ _ _ _ _); refine DG.ewg (cptr_of (e0) (by (conv => lhs; whnf) <;> exact rfl)) (k := ?_)))
    (repeat (first | ((with_reducible show RG _ _ (_ :: _) _ _ _); refine RG.go1 (k := ?_)) | ((with_reducible show DG _ _ (_ :: _) _ _ _ _ _); refine DG.go1 (k := ?_)) | (with_reducible first | apply RG.nil | apply W.seq | apply W.reg | apply W.skip | apply W.block | apply W.drw | apply DG.nil | refine W.done (QB.n ?_)) | refine W.cndT ?_ | refine W.cndF ?_))
    (refine W.ret ?_; (repeat (with_reducible first | refine QB.r ?_ | refine QL.r ?_ | refine QC.r ?_)); refine QF.r ?_)
    (refine RetOk.wk (Wk.frz (b := 0) rfl rfl) ?_; refine RetOk.wk (Wk.tmp (t := 6) (Cl.ice rfl rfl rfl (by first | assumption | decide | omega | (simp; (first | (all_goals fail) | fail)) | (simp <;> omega)) (by first | exact take_all _ | exact take_len (by first | (simp; (first | (all_goals fail) | fail)) | (simp <;> omega)) | exact rfl))) ?_; dsimp only [setO])
    exact RetOk.rs (vs := [_, _, _, _]) r_frag_Add []
  · skip
    have hx2 := set_get (x := (.agg [.int .u8 x0, .int .u8 x1, .int .u8 x2, .int .u8 x3, .int .u8 x4, .int .u8 x5, .int .u8 x6, .int .u8 x7, .int .u8 xp, .int .u16 xi, .int .u8 xt, .int .u64 xs, .int .i64 xe, .sl false 2 G2])) (y := .any) kl
    have sl2 := set_len2 (l := es) (k := k) (x := (.agg [.int .u8 x0, .int .u8 x1, .int .u8 x2, .int .u8 x3, .int .u8 x4, .int .u8 x5, .int .u8 x6, .int .u8 x7, .int .u8 xp, .int .u16 xi, .int .u8 xt, .int .u64 xs, .int .i64 xe, .sl false 2 G2]))
    have ip : ∀ a b : Int, (if (true = true) then a else b) = a := fun a b => if_pos rfl
    have iq : ∀ a b : Int, (if (false = true) then a else b) = b := fun a b => if_neg (by decide)
    try rw [ip] at *
    try rw [iq] at *
    clear ip iq
    refine acall_walk (N := 208) Try.func11 (by kernel_rfl) p_frag_Add rfl ?_; unfold c_frag_Add; dsimp only [enum, Nat.reduceAdd]
    (repeat (first | ((with_reducible show RG _ _ (_ :: _) _ _ _); refine RG.go1 (k := ?_)) | ((with_reducible show DG _ _ (_ :: _) _ _ _ _ _); refine DG.go1 (k := ?_)) | (with_reducible first | apply RG.nil | apply W.seq | apply W.reg | apply W.skip | apply W.block | apply W.drw | apply DG.nil | refine W.done (QB.n ?_)) | refine W.cndT ?_ | refine W.cndF ?_))
    (first | ((with_reducible show RG _ _ (_ :: _) _ _ _); refine RG.ca (ca) (k := ?_)) | ((with_reducible show DG _ _ (_ :: _) _ _ _ _ _); refine DG.ca (ca) (k := ?_)))
    (repeat (first | ((with_reducible show RG _ _ (_ :: _) _ _ _); refine RG.go1 (k := ?_)) | ((with_reducible show DG _ _ (_ :: _) _ _ _ _ _); refine DG.go1 (k := ?_)) | (with_reducible first | apply RG.nil | apply W.seq | apply W.reg | apply W.skip | apply W.block | apply W.drw | apply DG.nil | refine W.done (QB.n ?_)) | refine W.cndT ?_ | refine W.cndF ?_))
    (first | ((with_reducible show RG _ _ (_ :: _) _ _ _); refine RG.ca (ci) (k := ?_)) | ((with_reducible show DG _ _ (_ :: _) _ _ _ _ _); refine DG.ca (ci) (k := ?_)))
    (repeat (first | ((with_reducible show RG _ _ (_ :: _) _ _ _); refine RG.go1 (k := ?_)) | ((with_reducible show DG _ _ (_ :: _) _ _ _ _ _); refine DG.go1 (k := ?_)) | (with_reducible first | apply RG.nil | apply W.seq | apply W.reg | apply W.skip | apply W.block | apply W.drw | apply DG.nil | refine W.done (QB.n ?_)) | refine W.cndT ?_ | refine W.cndF ?_))
    (first | ((with_reducible show RG _ _ (_ :: _) _ _ _); refine RG.ew (ix_of ((show 0 + ((k : Int)).toNat = k by simp))) (k := ?_)) | ((with_reducible show DG _ _ (_ :: _) _ _ _ _ _); refine DG.ew (ix_of ((show 0 + ((k : Int)).toNat = k by simp))) (k := ?_)))
    (repeat (first | ((with_reducible show RG _ _ (_ :: _) _ _ _); refine RG.go1 (k := ?_)) | ((with_reducible show DG _ _ (_ :: _) _ _ _ _ _); refine DG.go1 (k := ?_)) | (with_reducible first | apply RG.nil | apply W.seq | apply W.reg | apply W.skip | apply W.block | apply W.drw | apply DG.nil | refine W.done (QB.n ?_)) | refine W.cndT ?_ | refine W.cndF ?_))
    (first | ((with_reducible show RG _ _ (_ :: _) _ _ _); refine RG.sm (A.ldr (hx0)) (k := ?_)) | ((with_reducible show DG _ _ (_ :: _) _ _ _ _ _); refine DG.sm (A.ldr (hx0)) (k := ?_)))
    (repeat (first | ((with_reducible show RG _ _ (_ :: _) _ _ _); refine RG.go1 (k := ?_)) | ((with_reducible show DG _ _ (_ :: _) _ _ _ _ _); refine DG.go1 (k := ?_)) | (with_reducible first | apply RG.nil | apply W.seq | apply W.reg | apply W.skip | apply W.block | apply W.drw | apply DG.nil | refine W.done (QB.n ?_)) | refine W.cndT ?_ | refine W.cndF ?_))
    (first | ((with_reducible show RG _ _ (_ :: _) _ _ _); refine RG.ca (cf) (k := ?_)) | ((with_reducible show DG _ _ (_ :: _) _ _ _ _ _); refine DG.ca (cf) (k := ?_)))
    (repeat (first | ((with_reducible show RG _ _ (_ :: _) _ _ _); refine RG.go1 (k := ?_)) | ((with_reducible show DG _ _ (_ :: _) _ _ _ _ _); refine DG.go1 (k := ?_)) | (with_reducible first | apply RG.nil | apply W.seq | apply W.reg | apply W.skip | apply W.block | apply W.drw | apply DG.nil | refine W.done (QB.n ?_)) | refine W.cndT ?_ | refine W.cndF ?_))
    (first | ((with_reducible show RG _ _ (_ :: _) _ _ _); refine RG.sm (A.ldr (hx0)) (k := ?_)) | ((with_reducible show DG _ _ (_ :: _) _ _ _ _ _); refine DG.sm (A.ldr (hx0)) (k := ?_)))
    (repeat (first | ((with_reducible show RG _ _ (_ :: _) _ _ _); refine RG.go1 (k := ?_)) | ((with_reducible show DG _ _ (_ :: _) _ _ _ _ _); refine DG.go1 (k := ?_)) | (with_reducible first | apply RG.nil | apply W.seq | apply W.reg | apply W.skip | apply W.block | apply W.drw | apply DG.nil | refine W.done (QB.n ?_)) | refine W.cndT ?_ | refine W.cndF ?_))
    (first | ((with_reducible show RG _ _ (_ :: _) _ _ _); refine RG.ca (cc) (k := ?_)) | ((with_reducible show DG _ _ (_ :: _) _ _ _ _ _); refine DG.ca (cc) (k := ?_)))
    (repeat (first | ((with_reducible show RG _ _ (_ :: _) _ _ _); refine RG.go1 (k := ?_)) | ((with_reducible show DG _ _ (_ :: _) _ _ _ _ _); refine DG.go1 (k := ?_)) | (with_reducible first | apply RG.nil | apply W.seq | apply W.reg | apply W.skip | apply W.block | apply W.drw | apply DG.nil | refine W.done (QB.n ?_)) | refine W.cndT ?_ | refine W.cndF ?_))
    (first | ((with_reducible show RG _ _ (_ :: _) _ _ _); refine RG.ca (clay) (k := ?_)) | ((with_reducible show DG _ _ (_ :: _) _ _ _ _ _); refine DG.ca (clay) (k := ?_)))
    (repeat (first | ((with_reducible show RG _ _ (_ :: _) _ _ _); refine RG.go1 (k := ?_)) | ((with_reducible show DG _ _ (_ :: _) _ _ _ _ _); refine DG.go1 (k := ?_)) | (with_reducible first | apply RG.nil | apply W.seq | apply W.reg | apply W.skip | apply W.block | apply W.drw | apply DG.nil | refine W.done (QB.n ?_)) | refine W.cndT ?_ | refine W.cndF ?_))
    (first | ((with_reducible show RG _ _ (_ :: _) _ _ _); refine RG.sn (A.strF hx0 (rfl : es.set k (.agg [.int .u8 x0, .int .u8 x1, .int .u8 x2, .int .u8 x3, .int .u8 x4, .int .u8 x5, .int .u8 x6, .int .u8 x7, .int .u8 xp, .int .u16 xi, .int .u8 xt, .int .u64 xs, .int .i64 xe, .sl false 2 G2]) = _)) (k := ?_)) | ((with_reducible show DG _ _ (_ :: _) _ _ _ _ _); refine DG.sn (A.strF hx0 (rfl : es.set k (.agg [.int .u8 x0, .int .u8 x1, .int .u8 x2, .int .u8 x3, .int .u8 x4, .int .u8 x5, .int .u8 x6, .int .u8 x7, .int .u8 xp, .int .u16 xi, .int .u8 xt, .int .u64 xs, .int .i64 xe, .sl false 2 G2]) = _)) (k := ?_)))
    (repeat (first | ((with_reducible show RG _ _ (_ :: _) _ _ _); refine RG.go1 (k := ?_)) | ((with_reducible show DG _ _ (_ :: _) _ _ _ _ _); refine DG.go1 (k := ?_)) | (with_reducible first | apply RG.nil | apply W.seq | apply W.reg | apply W.skip | apply W.block | apply W.drw | apply DG.nil | refine W.done (QB.n ?_)) | refine W.cndT ?_ | refine W.cndF ?_))
    (first | ((with_reducible show RG _ _ (_ :: _) _ _ _); refine RG.sm (A.ldr (hx2)) (k := ?_)) | ((with_reducible show DG _ _ (_ :: _) _ _ _ _ _); refine DG.sm (A.ldr (hx2)) (k := ?_)))
    (repeat (first | ((with_reducible show RG _ _ (_ :: _) _ _ _); refine RG.go1 (k := ?_)) | ((with_reducible show DG _ _ (_ :: _) _ _ _ _ _); refine DG.go1 (k := ?_)) | (with_reducible first | apply RG.nil | apply W.seq | apply W.reg | apply W.skip | apply W.block | apply W.drw | apply DG.nil | refine W.done (QB.n ?_)) | refine W.cndT ?_ | refine W.cndF ?_))
    (first | ((with_reducible show RG _ _ (_ :: _) _ _ _); refine RG.gld (hx2) (k := ?_)) | ((with_reducible show DG _ _ (_ :: _) _ _ _ _ _); refine DG.gld (hx2) (k := ?_)))
    (repeat (first | ((with_reducible show RG _ _ (_ :: _) _ _ _); refine RG.go1 (k := ?_)) | ((with_reducible show DG _ _ (_ :: _) _ _ _ _ _); refine DG.go1 (k := ?_)) | (with_reducible first | apply RG.nil | apply W.seq | apply W.reg | apply W.skip | apply W.block | apply W.drw | apply DG.nil | refine W.done (QB.n ?_)) | refine W.cndT ?_ | refine W.cndF ?_))
    (first | ((with_reducible show RG _ _ (_ :: _) _ _ _); refine RG.ewg (cptr_of (e0) (by (conv => lhs; whnf) <;> exact rfl)) (k := ?_)) | ((with_reducible show DG _ _ (_ :: _) _ _ _ _ _); refine DG.ewg (cptr_of (e0) (by (conv => lhs; whnf) <;> exact rfl)) (k := ?_)))
    (repeat (first | ((with_reducible show RG _ _ (_ :: _) _ _ _); refine RG.go1 (k := ?_)) | ((with_reducible show DG _ _ (_ :: _) _ _ _ _ _); refine DG.go1 (k := ?_)) | (with_reducible first | apply RG.nil | apply W.seq | apply W.reg | apply W.skip | apply W.block | apply W.drw | apply DG.nil | refine W.done (QB.n ?_)) | refine W.cndT ?_ | refine W.cndF ?_))
    (refine W.ret ?_; (repeat (with_reducible first | refine QB.r ?_ | refine QL.r ?_ | refine QC.r ?_)); refine QF.r ?_)
    (refine RetOk.wk (Wk.frz (b := 0) rfl rfl) ?_; refine RetOk.wk (Wk.tmp (t := 6) (Cl.ice rfl rfl rfl (by first | assumption | decide | omega | (simp; (first | (all_goals fail) | fail)) | (simp <;> omega)) (by first | exact take_all _ | exact take_len (by first | (simp; (first | (all_goals fail) | fail)) | (simp <;> omega)) | exact rfl))) ?_; dsimp only [setO])
    exact RetOk.rs (vs := [_, _, _, _]) r_frag_Add []
  · skip
    have hx2 := set_get (x := (.agg [.int .u8 x0, .int .u8 x1, .int .u8 x2, .int .u8 x3, .int .u8 x4, .int .u8 x5, .int .u8 x6, .int .u8 x7, .int .u8 xp, .int .u16 xi, .int .u8 xt, .int .u64 xs, .int .i64 xe, .sl false 2 G2])) (y := .any) kl
    have sl2 := set_len2 (l := es) (k := k) (x := (.agg [.int .u8 x0, .int .u8 x1, .int .u8 x2, .int .u8 x3, .int .u8 x4, .int .u8 x5, .int .u8 x6, .int .u8 x7, .int .u8 xp, .int .u16 xi, .int .u8 xt, .int .u64 xs, .int .i64 xe, .sl false 2 G2]))
    have ip : ∀ a b : Int, (if (true = true) then a else b) = a := fun a b => if_pos rfl
    have iq : ∀ a b : Int, (if (false = true) then a else b) = b := fun a b => if_neg (by decide)
    try rw [ip] at *
    try rw [iq] at *
    clear ip iq
    refine acall_walk (N := 208) Try.func11 (by kernel_rfl) p_frag_Add rfl ?_; unfold c_frag_Add; dsimp only [enum, Nat.reduceAdd]
    (repeat (first | ((with_reducible show RG _ _ (_ :: _) _ _ _); refine RG.go1 (k := ?_)) | ((with_reducible show DG _ _ (_ :: _) _ _ _ _ _); refine DG.go1 (k := ?_)) | (with_reducible first | apply RG.nil | apply W.seq | apply W.reg | apply W.skip | apply W.block | apply W.drw | apply DG.nil | refine W.done (QB.n ?_)) | refine W.cndT ?_ | refine W.cndF ?_))
    (first | ((with_reducible show RG _ _ (_ :: _) _ _ _); refine RG.ca (ca) (k := ?_)) | ((with_reducible show DG _ _ (_ :: _) _ _ _ _ _); refine DG.ca (ca) (k := ?_)))
    (repeat (first | ((with_reducible show RG _ _ (_ :: _) _ _ _); refine RG.go1 (k := ?_)) | ((with_reducible show DG _ _ (_ :: _) _ _ _ _ _); refine DG.go1 (k := ?_)) | (with_reducible first | apply RG.nil | apply W.seq | apply W.reg | apply W.skip | apply W.block | apply W.drw | apply DG.nil | refine W.done (QB.n ?_)) | refine W.cndT ?_ | refine W.cndF ?_))
    (first | ((with_reducible show RG _ _ (_ :: _) _ _ _); refine RG.ca (ci) (k := ?_)) | ((with_reducible show DG _ _ (_ :: _) _ _ _ _ _); refine DG.ca (ci) (k := ?_)))
    (repeat (first | ((with_reducible show RG _ _ (_ :: _) _ _ _); refine RG.go1 (k := ?_)) | ((with_reducible show DG _ _ (_ :: _) _ _ _ _ _); refine DG.go1 (k := ?_)) | (with_reducible first | apply RG.nil | apply W.seq | apply W.reg | apply W.skip | apply W.block | apply W.drw | apply DG.nil | refine W.done (QB.n ?_)) | refine W.cndT ?_ | refine W.cndF ?_))
    (first | ((with_reducible show RG _ _ (_ :: _) _ _ _); refine RG.ew (ix_of ((show 0 + ((k : Int)).toNat = k by simp))) (k := ?_)) | ((with_reducible show DG _ _ (_ :: _) _ _ _ _ _); refine DG.ew (ix_of ((show 0 + ((k : Int)).toNat = k by simp))) (k := ?_)))
    (repeat (first | ((with_reducible show RG _ _ (_ :: _) _ _ _); refine RG.go1 (k := ?_)) | ((with_reducible show DG _ _ (_ :: _) _ _ _ _ _); refine DG.go1 (k := ?_)) | (with_reducible first | apply RG.nil | apply W.seq | apply W.reg | apply W.skip | apply W.block | apply W.drw | apply DG.nil | refine W.done (QB.n ?_)) | refine W.cndT ?_ | refine W.cndF ?_))
    (first | ((with_reducible show RG _ _ (_ :: _) _ _ _); refine RG.sm (A.ldr (hx0)) (k := ?_)) | ((with_reducible show DG _ _ (_ :: _) _ _ _ _ _); refine DG.sm (A.ldr (hx0)) (k := ?_)))
    (repeat (first | ((with_reducible show RG _ _ (_ :: _) _ _ _); refine RG.go1 (k := ?_)) | ((with_reducible show DG _ _ (_ :: _) _ _ _ _ _); refine DG.go1 (k := ?_)) | (with_reducible first | apply RG.nil | apply W.seq | apply W.reg | apply W.skip | apply W.block | apply W.drw | apply DG.nil | refine W.done (QB.n ?_)) | refine W.cndT ?_ | refine W.cndF ?_))
    (first | ((with_reducible show RG _ _ (_ :: _) _ _ _); refine RG.ca (cf) (k := ?_)) | ((with_reducible show DG _ _ (_ :: _) _ _ _ _ _); refine DG.ca (cf) (k := ?_)))
    (repeat (first | ((with_reducible show RG _ _ (_ :: _) _ _ _); refine RG.go1 (k := ?_)) | ((with_reducible show DG _ _ (_ :: _) _ _ _ _ _); refine DG.go1 (k := ?_)) | (with_reducible first | apply RG.nil | apply W.seq | apply W.reg | apply W.skip | apply W.block | apply W.drw | apply DG.nil | refine W.done (QB.n ?_)) | refine W.cndT ?_ | refine W.cndF ?_))
    (first | ((with_reducible show RG _ _ (_ :: _) _ _ _); refine RG.sm (A.ldr (hx0)) (k := ?_)) | ((with_reducible show DG _ _ (_ :: _) _ _ _ _ _); refine DG.sm (A.ldr (hx0)) (k := ?_)))
    (repeat (first | ((with_reducible show RG _ _ (_ :: _) _ _ _); refine RG.go1 (k := ?_)) | ((with_reducible show DG _ _ (_ :: _) _ _ _ _ _); refine DG.go1 (k := ?_)) | (with_reducible first | apply RG.nil | apply W.seq | apply W.reg | apply W.skip | apply W.block | apply W.drw | apply DG.nil | refine W.done (QB.n ?_)) | refine W.cndT ?_ | refine W.cndF ?_))
    (first | ((with_reducible show RG _ _ (_ :: _) _ _ _); refine RG.ca (cc) (k := ?_)) | ((with_reducible show DG _ _ (_ :: _) _ _ _ _ _); refine DG.ca (cc) (k := ?_)))
    (repeat (first | ((with_reducible show RG _ _ (_ :: _) _ _ _); refine RG.go1 (k := ?_)) | ((with_reducible show DG _ _ (_ :: _) _ _ _ _ _); refine DG.go1 (k := ?_)) | (with_reducible first | apply RG.nil | apply W.seq | apply W.reg | apply W.skip | apply W.block | apply W.drw | apply DG.nil | refine W.done (QB.n ?_)) | refine W.cndT ?_ | refine W.cndF ?_))
    (first | ((with_reducible show RG _ _ (_ :: _) _ _ _); refine RG.ca (clay) (k := ?_)) | ((with_reducible show DG _ _ (_ :: _) _ _ _ _ _); refine DG.ca (clay) (k := ?_)))
    (repeat (first | ((with_reducible show RG _ _ (_ :: _) _ _ _); refine RG.go1 (k := ?_)) | ((with_reducible show DG _ _ (_ :: _) _ _ _ _ _); refine DG.go1 (k := ?_)) | (with_reducible first | apply RG.nil | apply W.seq | apply W.reg | apply W.skip | apply W.block | apply W.drw | apply DG.nil | refine W.done (QB.n ?_)) | refine W.cndT ?_ | refine W.cndF ?_))
    (first | ((with_reducible show RG _ _ (_ :: _) _ _ _); refine RG.sn (A.strF hx0 (rfl : es.set k (.agg [.int .u8 x0, .int .u8 x1, .int .u8 x2, .int .u8 x3, .int .u8 x4, .int .u8 x5, .int .u8 x6, .int .u8 x7, .int .u8 xp, .int .u16 xi, .int .u8 xt, .int .u64 xs, .int .i64 xe, .sl false 2 G2]) = _)) (k := ?_)) | ((with_reducible show DG _ _ (_ :: _) _ _ _ _ _); refine DG.sn (A.strF hx0 (rfl : es.set k (.agg [.int .u8 x0, .int .u8 x1, .int .u8 x2, .int .u8 x3, .int .u8 x4, .int .u8 x5, .int .u8 x6, .int .u8 x7, .int .u8 xp, .int .u16 xi, .int .u8 xt, .int .u64 xs, .int .i64 xe, .sl false 2 G2]) = _)) (k := ?_)))
    (repeat (first | ((with_reducible show RG _ _ (_ :: _) _ _ _); refine RG.go1 (k := ?_)) | ((with_reducible show DG _ _ (_ :: _) _ _ _ _ _); refine DG.go1 (k := ?_)) | (with_reducible first | apply RG.nil | apply W.seq | apply W.reg | apply W.skip | apply W.block | apply W.drw | apply DG.nil | refine W.done (QB.n ?_)) | refine W.cndT ?_ | refine W.cndF ?_))
    (first | ((with_reducible show RG _ _ (_ :: _) _ _ _); refine RG.sm (A.ldr (hx2)) (k := ?_)) | ((with_reducible show DG _ _ (_ :: _) _ _ _ _ _); refine DG.sm (A.ldr (hx2)) (k := ?_)))
    (repeat (first | ((with_reducible show RG _ _ (_ :: _) _ _ _); refine RG.go1 (k := ?_)) | ((with_reducible show DG _ _ (_ :: _) _ _ _ _ _); refine DG.go1 (k := ?_)) | (with_reducible first | apply RG.nil | apply W.seq | apply W.reg | apply W.skip | apply W.block | apply W.drw | apply DG.nil | refine W.done (QB.n ?_)) | refine W.cndT ?_ | refine W.cndF ?_))
    (first | ((with_reducible show RG _ _ (_ :: _) _ _ _); refine RG.gld (hx2) (k := ?_)) | ((with_reducible show DG _ _ (_ :: _) _ _ _ _ _); refine DG.gld (hx2) (k := ?_)))
    (repeat (first | ((with_reducible show RG _ _ (_ :: _) _ _ _); refine RG.go1 (k := ?_)) | ((with_reducible show DG _ _ (_ :: _) _ _ _ _ _); refine DG.go1 (k := ?_)) | (with_reducible first | apply RG.nil | apply W.seq | apply W.reg | apply W.skip | apply W.block | apply W.drw | apply DG.nil | refine W.done (QB.n ?_)) | refine W.cndT ?_ | refine W.cndF ?_))
    (first | ((with_reducible show RG _ _ (_ :: _) _ _ _); refine RG.ewg (cptr_of (e0) (by (conv => lhs; whnf) <;> exact rfl)) (k := ?_)) | ((with_reducible show DG _ _ (_ :: _) _ _ _ _ _); refine DG.ewg (cptr_of (e0) (by (conv => lhs; whnf) <;> exact rfl)) (k := ?_)))
    (repeat (first | ((with_reducible show RG _ _ (_ :: _) _ _ _); refine RG.go1 (k := ?_)) | ((with_reducible show DG _ _ (_ :: _) _ _ _ _ _); refine DG.go1 (k := ?_)) | (with_reducible first | apply RG.nil | apply W.seq | apply W.reg | apply W.skip | apply W.block | apply W.drw | apply DG.nil | refine W.done (QB.n ?_)) | refine W.cndT ?_ | refine W.cndF ?_))
    (refine W.ret ?_; (repeat (with_reducible first | refine QB.r ?_ | refine QL.r ?_ | refine QC.r ?_)); refine QF.r ?_)
    (refine RetOk.wk (Wk.frz (b := 0) rfl rfl) ?_; refine RetOk.wk (Wk.tmp (t := 6) (Cl.ice rfl rfl rfl (by first | assumption | decide | omega | (simp; (first | (all_goals fail) | fail)) | (simp <;> omega)) (by first | exact take_all _ | exact take_len (by first | (simp; (first | (all_goals fail) | fail)) | (simp <;> omega)) | exact rfl))) ?_; dsimp only [setO])
    exact RetOk.rs (vs := [_, _, _, _]) r_frag_Add []
theorem add_incC {l Y : List Hl} {now : Int} (b : Been l now Y) (p : Pk) (v : p.V) (k : Nat) (h : Hl) (m : More Y p k h) (g0 : Prt) (hgi : (moreH h p).got = [g0]) (h0f : g0.off = 0) (hne : (g0.dt.length : Int) ≠ (moreH h p).en) :
    ACall Try.prog 11 [.sl true 14 (l.map hol), pk false p, .int .u64 now] (.tup [.sl false 14 ((Y.set k (moreH h p)).map hol), pkz, .bool false, .int .i64 0]) [] := by
  have ca := b.age
  have ci := b.index p
  rw [m.idx] at ci
  have yl := ho_len Y
  have yp := ho_pure Y
  have yn := b.yn
  have vc := v.cases
  have hlt := m.lt
  have hx0 : (Y.map hol)[k]?.getD .any = .agg [.int .u8 h.s0, .int .u8 h.s1, .int .u8 h.s2, .int .u8 h.s3, .int .u8 h.d0, .int .u8 h.d1, .int .u8 h.d2, .int .u8 h.d3, .int .u8 h.pr, .int .u16 h.i, .int .u8 h.tt, .int .u64 h.since, .int .i64 h.en, .sl false 2 (h.got.map prt)] := by rw [List.getElem?_map, m.at_]; rfl
  have hgd := b.yg h (List.mem_of_getElem? m.at_)
  have clay := fragLay_ok h.got (by have := hgd.n; omega) hgd.o ⟨p.o, p.dt⟩ ⟨v.lo, v.hi⟩
  have cf := fragFits_ok h p (p.o + p.dt.length) (by have := hgd.n; omega) hgd.o m.f
  obtain ⟨v1, v2, v3, -, v5, -⟩ := v
  have cc := ybCloneF_ok p.dt (by omega) v5
  have hgl := pr_len (moreH h p).got
  clear b m hgd
  unfold moreH at *
  obtain ⟨i, mo, o, tt, pr, s0, s1, s2, s3, d0, d1, d2, d3, dt⟩ := p
  obtain ⟨x0, x1, x2, x3, x4, x5, x6, x7, xp, xi, xt, xs, xe, got⟩ := h
  dsimp only at *
  have el := by8_len dt
  unfold pkc at ci
  unfold prt at clay
  unfold hol pk pkc at cf
  try unfold pkz
  unfold pk pkc
  rw [show (List.map (fun x => AV.agg [.int .i64 x.off, .sl false 1 (x.dt.map by8)]) got) = got.map prt from rfl, show (List.map (fun x => AV.agg [.int .i64 x.off, .sl false 1 (x.dt.map by8)]) (layS got ⟨o, dt⟩)) = (layS got ⟨o, dt⟩).map prt from rfl] at clay
  dsimp only at ci clay cf hx0 ⊢
  rw [List.map_set]
  dsimp only [hol]
  have e0 : ((layS got ⟨o, dt⟩).map prt)[Int.toNat 0]?.getD .any = .agg [.int .i64 g0.off, .sl false 1 (g0.dt.map by8)] := by rw [hgi]; rfl
  have l1 : ((layS got ⟨o, dt⟩).map prt).length = 1 := by rw [hgi]; rfl
  clear hgi hgl
  rw [h0f] at e0
  generalize (layS got ⟨o, dt⟩).map prt = G2 at *
  generalize Y.map hol = es at *
  generalize Y.length = n at *
  have kl : k < es.length := by omega
  have el0 := by8_len g0.dt
  rcases vc with ⟨rfl, w1⟩ | ⟨rfl, rfl, w2⟩ | ⟨rfl, w1, w2⟩
  · have hx1 := set_get (x := (.agg [.int .u8 x0, .int .u8 x1, .int .u8 x2, .int .u8 x3, .int .u8 x4, .int .u8 x5, .int .u8 x6, .int .u8 x7, .int .u8 xp, .int .u16 xi, .int .u8 xt, .int .u64 xs, .int .i64 (o + dt.length), .sl false 2 (got.map prt)])) (y := .any) kl
    have sl1 := set_len2 (l := es) (k := k) (x := (.agg [.int .u8 x0, .int .u8 x1, .int .u8 x2, .int .u8 x3, .int .u8 x4, .int .u8 x5, .int .u8 x6, .int .u8 x7, .int .u8 xp, .int .u16 xi, .int .u8 xt, .int .u64 xs, .int .i64 (o + dt.length), .sl false 2 (got.map prt)]))
    have hx2 := set_get (x := (.agg [.int .u8 x0, .int .u8 x1, .int .u8 x2, .int .u8 x3, .int .u8 x4, .int .u8 x5, .int .u8 x6, .int .u8 x7, .int .u8 xp, .int .u16 xi, .int .u8 xt, .int .u64 xs, .int .i64 (o + dt.length), .sl false 2 G2])) (y := .any) kl
    have sl2 := set_len2 (l := es) (k := k) (x := (.agg [.int .u8 x0, .int .u8 x1, .int .u8 x2, .int .u8 x3, .int .u8 x4, .int .u8 x5, .int .u8 x6, .int .u8 x7, .int .u8 xp, .int .u16 xi, .int .u8 xt, .int .u64 xs, .int .i64 (o + dt.length), .sl false 2 G2]))
    have ip : ∀ a b : Int, (if (true = true) then a else b) = a := fun a b => if_pos rfl
    have iq : ∀ a b : Int, (if (false = true) then a else b) = b := fun a b => if_neg (by decide)
    try rw [ip] at *
    try rw [iq] at *
    clear ip iq
    refine acall_walk (N := 208) Try.func11 (by kernel_rfl) p_frag_Add rfl ?_; unfold c_frag_Add; dsimp only [enum, Nat.reduceAdd]
    (repeat (first | ((with_reducible show RG _ _ (_ :: _) _ _ _); refine RG.go1 (k := ?_)) | ((with_reducible show DG _ _ (_ :: _) _ _ _ _ _); refine DG.go1 (k := ?_)) | (with_reducible first | apply RG.nil | apply W.seq | apply W.reg | apply W.skip | apply W.block | apply W.drw | apply DG.nil | refine W.done (QB.n ?_)) | refine W.cndT ?_ | refine W.cndF ?_))
    (first | ((with_reducible show RG _ _ (_ :: _) _ _ _); refine RG.ca (ca) (k := ?_)) | ((with_reducible show DG _ _ (_ :: _) _ _ _ _ _); refine DG.ca (ca) (k := ?_)))
    (repeat (first | ((with_reducible show RG _ _ (_ :: _) _ _ _); refine RG.go1 (k := ?_)) | ((with_reducible show DG _ _ (_ :: _) _ _ _ _ _); refine DG.go1 (k := ?_)) | (with_reducible first | apply RG.nil | apply W.seq | apply W.reg | apply W.skip | apply W.block | apply W.drw | apply DG.nil | refine W.done (QB.n ?_)) | refine W.cndT ?_ | refine W.cndF ?_))
    (first | ((with_reducible show RG _ _ (_ :: _) _ _ _); refine RG.ca (ci) (k := ?_)) | ((with_reducible show DG _ _ (_ :: _) _ _ _ _ _); refine DG.ca (ci) (k := ?_)))
    (repeat (first | ((with_reducible show RG _ _ (_ :: _) _ _ _); refine RG.go1 (k := ?_)) | ((with_reducible show DG _ _ (_ :: _) _ _ _ _ _); refine DG.go1 (k := ?_)) | (with_reducible first | apply RG.nil | apply W.seq | apply W.reg | apply W.skip | apply W.block | apply W.drw | apply DG.nil | refine W.done (QB.n ?_)) | refine W.cndT ?_ | refine W.cndF ?_))
    (first | ((with_reducible show RG _ _ (_ :: _) _ _ _); refine RG.ew (ix_of ((show 0 + ((k : Int)).toNat = k by simp))) (k := ?_)) | ((with_reducible show DG _ _ (_ :: _) _ _ _ _ _); refine DG.ew (ix_of ((show 0 + ((k : Int)).toNat = k by simp))) (k := ?_)))
    (repeat (first | ((with_reducible show RG _ _ (_ :: _) _ _ _); refine RG.go1 (k := ?_)) | ((with_reducible show DG _ _ (_ :: _) _ _ _ _ _); refine DG.go1 (k := ?_)) | (with_reducible first | apply RG.nil | apply W.seq | apply W.reg | apply W.skip | apply W.block | apply W.drw | apply DG.nil | refine W.done (QB.n ?_)) | refine W.cndT ?_ | refine W.cndF ?_))
    (first | ((with_reducible show RG _ _ (_ :: _) _ _ _); refine RG.sm (A.ldr (hx0)) (k := ?_)) | ((with_reducible show DG _ _ (_ :: _) _ _ _ _ _); refine DG.sm (A.ldr (hx0)) (k := ?_)))
    (repeat (first | ((with_reducible show RG _ _ (_ :: _) _ _ _); refine RG.go1 (k := ?_)) | ((with_reducible show DG _ _ (_ :: _) _ _ _ _ _); refine DG.go1 (k := ?_)) | (with_reducible first | apply RG.nil | apply W.seq | apply W.reg | apply W.skip | apply W.block | apply W.drw | apply DG.nil | refine W.done (QB.n ?_)) | refine W.cndT ?_ | refine W.cndF ?_))
    (first | ((with_reducible show RG _ _ (_ :: _) _ _ _); refine RG.ca (cf) (k := ?_)) | ((with_reducible show DG _ _ (_ :: _) _ _ _ _ _); refine DG.ca (cf) (k := ?_)))
    (repeat (first | ((with_reducible show RG _ _ (_ :: _) _ _ _); refine RG.go1 (k := ?_)) | ((with_reducible show DG _ _ (_ :: _) _ _ _ _ _); refine DG.go1 (k := ?_)) | (with_reducible first | apply RG.nil | apply W.seq | apply W.reg | apply W.skip | apply W.block | apply W.drw | apply DG.nil | refine W.done (QB.n ?_)) | refine W.cndT ?_ | refine W.cndF ?_))
    rw [el]
    (first | ((with_reducible show RG _ _ (_ :: _) _ _ _); refine RG.sn (A.strF hx0 (rfl : es.set k (.agg [.int .u8 x0, .int .u8 x1, .int .u8 x2, .int .u8 x3, .int .u8 x4, .int .u8 x5, .int .u8 x6, .int .u8 x7, .int .u8 xp, .int .u16 xi, .int .u8 xt, .int .u64 xs, .int .i64 (o + dt.length), .sl false 2 (got.map prt)]) = _)) (k := ?_)) | ((with_reducible show DG _ _ (_ :: _) _ _ _ _ _); refine DG.sn (A.strF hx0 (rfl : es.set k (.agg [.int .u8 x0, .int .u8 x1, .int .u8 x2, .int .u8 x3, .int .u8 x4, .int .u8 x5, .int .u8 x6, .int .u8 x7, .int .u8 xp, .int .u16 xi, .int .u8 xt, .int .u64 xs, .int .i64 (o + dt.length), .sl false 2 (got.map prt)]) = _)) (k := ?_)))
    (repeat (first | ((with_reducible show RG _ _ (_ :: _) _ _ _); refine RG.go1 (k := ?_)) | ((with_reducible show DG _ _ (_ :: _) _ _ _ _ _); refine DG.go1 (k := ?_)) | (with_reducible first | apply RG.nil | apply W.seq | apply W.reg | apply W.skip | apply W.block | apply W.drw | apply DG.nil | refine W.done (QB.n ?_)) | refine W.cndT ?_ | refine W.cndF ?_))
    (first | ((with_reducible show RG _ _ (_ :: _) _ _ _); refine RG.sm (A.ldr (hx1)) (k := ?_)) | ((with_reducible show DG _ _ (_ :: _) _ _ _ _ _); refine DG.sm (A.ldr (hx1)) (k := ?_)))
    (repeat (first | ((with_reducible show RG _ _ (_ :: _) _ _ _); refine RG.go1 (k := ?_)) | ((with_reducible show DG _ _ (_ :: _) _ _ _ _ _); refine DG.go1 (k := ?_)) | (with_reducible first | apply RG.nil | apply W.seq | apply W.reg | apply W.skip | apply W.block | apply W.drw | apply DG.nil | refine W.done (QB.n ?_)) | refine W.cndT ?_ | refine W.cndF ?_))
    (first | ((with_reducible show RG _ _ (_ :: _) _ _ _); refine RG.ca (cc) (k := ?_)) | ((with_reducible show DG _ _ (_ :: _) _ _ _ _ _); refine DG.ca (cc) (k := ?_)))
    (repeat (first | ((with_reducible show RG _ _ (_ :: _) _ _ _); refine RG.go1 (k := ?_)) | ((with_reducible show DG _ _ (_ :: _) _ _ _ _ _); refine DG.go1 (k := ?_)) | (with_reducible first | apply RG.nil | apply W.seq | apply W.reg | apply W.skip | apply W.block | apply W.drw | apply DG.nil | refine W.done (QB.n ?_)) | refine W.cndT ?_ | refine W.cndF ?_))
    (first | ((with_reducible show RG _ _ (_ :: _) _ _ _); refine RG.ca (clay) (k := ?_)) | ((with_reducible show DG _ _ (_ :: _) _ _ _ _ _); refine DG.ca (clay) (k := ?_)))
    (repeat (first | ((with_reducible show RG _ _ (_ :: _) _ _ _); refine RG.go1 (k := ?_)) | ((with_reducible show DG _ _ (_ :: _) _ _ _ _ _); refine DG.go1 (k := ?_)) | (with_reducible first | apply RG.nil | apply W.seq | apply W.reg | apply W.skip | apply W.block | apply W.drw | apply DG.nil | refine W.done (QB.n ?_)) | refine W.cndT ?_ | refine W.cndF ?_))
    (first | ((with_reducible show RG _ _ (_ :: _) _ _ _); refine RG.sn (A.strF hx1 (set_set2 (l := es) (k := k) (y := (.agg [.int .u8 x0, .int .u8 x1, .int .u8 x2, .int .u8 x3, .int .u8 x4, .int .u8 x5, .int .u8 x6, .int .u8 x7, .int .u8 xp, .int .u16 xi, .int .u8 xt, .int .u64 xs, .int .i64 (o + dt.length), .sl false 2 G2])))) (k := ?_)) | ((with_reducible show DG _ _ (_ :: _) _ _ _ _ _); refine DG.sn (A.strF hx1 (set_set2 (l := es) (k := k) (y := (.agg [.int .u8 x0, .int .u8 x1, .int .u8 x2, .int .u8 x3, .int .u8 x4, .int .u8 x5, .int .u8 x6, .int .u8 x7, .int .u8 xp, .int .u16 xi, .int .u8 xt, .int .u64 xs, .int .i64 (o + dt.length), .sl false 2 G2])))) (k := ?_)))
    (repeat (first | ((with_reducible show RG _ _ (_ :: _) _ _ _); refine RG.go1 (k := ?_)) | ((with_reducible show DG _ _ (_ :: _) _ _ _ _ _); refine DG.go1 (k := ?_)) | (with_reducible first | apply RG.nil | apply W.seq | apply W.reg | apply W.skip | apply W.block | apply W.drw | apply DG.nil | refine W.done (QB.n ?_)) | refine W.cndT ?_ | refine W.cndF ?_))
    (first | ((with_reducible show RG _ _ (_ :: _) _ _ _); refine RG.sm (A.ldr (hx2)) (k := ?_)) | ((with_reducible show DG _ _ (_ :: _) _ _ _ _ _); refine DG.sm (A.ldr (hx2)) (k := ?_)))
    (repeat (first | ((with_reducible show RG _ _ (_ :: _) _ _ _); refine RG.go1 (k := ?_)) | ((with_reducible show DG _ _ (_ :: _) _ _ _ _ _); refine DG.go1 (k := ?_)) | (with_reducible first | apply RG.nil | apply W.seq | apply W.reg | apply W.skip | apply W.block | apply W.drw | apply DG.nil | refine W.done (QB.n ?_)) | refine W.cndT ?_ | refine W.cndF ?_))
    (first | ((with_reducible show RG _ _ (_ :: _) _ _ _); refine RG.gld (hx2) (k := ?_)) | ((with_reducible show DG _ _ (_ :: _) _ _ _ _ _); refine DG.gld (hx2) (k := ?_)))
    (repeat (first | ((with_reducible show RG _ _ (_ :: _) _ _ _); refine RG.go1 (k := ?_)) | ((with_reducible show DG _ _ (_ :: _) _ _ _ _ _); refine DG.go1 (k := ?_)) | (with_reducible first | apply RG.nil | apply W.seq | apply W.reg | apply W.skip | apply W.block | apply W.drw | apply DG.nil | refine W.done (QB.n ?_)) | refine W.cndT ?_ | refine W.cndF ?_))
    (first | ((with_reducible show RG _ _ (_ :: _) _ _ _); refine RG.ewg (cptr_of (e0) (by (conv => lhs; whnf) <;> exact rfl)) (k := ?_)) | ((with_reducible show DG _ _ (_ :: _) _ _ _ _ _); refine DG.ewg (cptr_of (e0) (by (conv => lhs; whnf) <;> exact rfl)) (k := ?_)))
    (repeat (first | ((with_reducible show RG _ _ (_ :: _) _ _ _); refine RG.go1 (k := ?_)) | ((with_reducible show DG _ _ (_ :: _) _ _ _ _ _); refine DG.go1 (k := ?_)) | (with_reducible first | apply RG.nil | apply W.seq | apply W.reg | apply W.skip | apply W.block | apply W.drw | apply DG.nil | refine W.done (QB.n ?_)) | refine W.cndT ?_ | refine W.cndF ?_))
    (first | ((with_reducible show RG _ _ (_ :: _) _ _ _); refine RG.gld (hx2) (k := ?_)) | ((with_reducible show DG _ _ (_ :: _) _ _ _ _ _); refine DG.gld (hx2) (k := ?_)))
    (repeat (first | ((with_reducible show RG _ _ (_ :: _) _ _ _); refine RG.go1 (k := ?_)) | ((with_reducible show DG _ _ (_ :: _) _ _ _ _ _); refine DG.go1 (k := ?_)) | (with_reducible first | apply RG.nil | apply W.seq | apply W.reg | apply W.skip | apply W.block | apply W.drw | apply DG.nil | refine W.done (QB.n ?_)) | refine W.cndT ?_ | refine W.cndF ?_))
    (first | ((with_reducible show RG _ _ (_ :: _) _ _ _); refine RG.ewg (cptr_of (e0) (by (conv => lhs; whnf) <;> exact rfl)) (k := ?_)) | ((with_reducible show DG _ _ (_ :: _) _ _ _ _ _); refine DG.ewg (cptr_of (e0) (by (conv => lhs; whnf) <;> exact rfl)) (k := ?_)))
    (repeat (first | ((with_reducible show RG _ _ (_ :: _) _ _ _); refine RG.go1 (k := ?_)) | ((with_reducible show DG _ _ (_ :: _) _ _ _ _ _); refine DG.go1 (k := ?_)) | (with_reducible first | apply RG.nil | apply W.seq | apply W.reg | apply W.skip | apply W.block | apply W.drw | apply DG.nil | refine W.done (QB.n ?_)) | refine W.cndT ?_ | refine W.cndF ?_))
    (first | ((with_reducible show RG _ _ (_ :: _) _ _ _); refine RG.gld (hx2) (k := ?_)) | ((with_reducible show DG _ _ (_ :: _) _ _ _ _ _); refine DG.gld (hx2) (k := ?_)))
    (repeat (first | ((with_reducible show RG _ _ (_ :: _) _ _ _); refine RG.go1 (k := ?_)) | ((with_reducible show DG _ _ (_ :: _) _ _ _ _ _); refine DG.go1 (k := ?_)) | (with_reducible first | apply RG.nil | apply W.seq | apply W.reg | apply W.skip | apply W.block | apply W.drw | apply DG.nil | refine W.done (QB.n ?_)) | refine W.cndT ?_ | refine W.cndF ?_))
    (refine W.ret ?_; (repeat (with_reducible first | refine QB.r ?_ | refine QL.r ?_ | refine QC.r ?_)); refine QF.r ?_)
    (refine RetOk.wk (Wk.frz (b := 0) rfl rfl) ?_; refine RetOk.wk (Wk.tmp (t := 6) (Cl.ice rfl rfl rfl (by first | assumption | decide | omega | (simp; (first | (all_goals fail) | fail)) | (simp <;> omega)) (by first | exact take_all _ | exact take_len (by first | (simp; (first | (all_goals fail) | fail)) | (simp <;> omega)) | exact rfl))) ?_; dsimp only [setO])
    exact RetOk.rs (vs := [_, _, _, _]) r_frag_Add []
  · skip
    have hx2 := set_get (x := (.agg [.int .u8 x0, .int .u8 x1, .int .u8 x2, .int .u8 x3, .int .u8 x4, .int .u8 x5, .int .u8 x6, .int .u8 x7, .int .u8 xp, .int .u16 xi, .int .u8 xt, .int .u64 xs, .int .i64 xe, .sl false 2 G2])) (y := .any) kl
    have sl2 := set_len2 (l := es) (k := k) (x := (.agg [.int .u8 x0, .int .u8 x1, .int .u8 x2, .int .u8 x3, .int .u8 x4, .int .u8 x5, .int .u8 x6, .int .u8 x7, .int .u8 xp, .int .u16 xi, .int .u8 xt, .int .u64 xs, .int .i64 xe, .sl false 2 G2]))
    have ip : ∀ a b : Int, (if (true = true) then a else b) = a := fun a b => if_pos rfl
    have iq : ∀ a b : Int, (if (false = true) then a else b) = b := fun a b => if_neg (by decide)
    try rw [ip] at *
    try rw [iq] at *
    clear ip iq
    refine acall_walk (N := 208) Try.func11 (by kernel_rfl) p_frag_Add rfl ?_; unfold c_frag_Add; dsimp only [enum, Nat.reduceAdd]
    (repeat (first | ((with_reducible show RG _ _ (_ :: _) _ _ _); refine RG.go1 (k := ?_)) | ((with_reducible show DG _ _ (_ :: _) _ _ _ _ _); refine DG.go1 (k := ?_)) | (with_reducible first | apply RG.nil | apply W.seq | apply W.reg | apply W.skip | apply W.block | apply W.drw | apply DG.nil | refine W.done (QB.n ?_)) | refine W.cndT ?_ | refine W.cndF ?_))
    (first | ((with_reducible show RG _ _ (_ :: _) _ _ _); refine RG.ca (ca) (k := ?_)) | ((with_reducible show DG _ _ (_ :: _) _ _ _ _ _); refine DG.ca (ca) (k := ?_)))
    (repeat (first | ((with_reducible show RG _ _ (_ :: _) _ _ _); refine RG.go1 (k := ?_)) | ((with_reducible show DG _ _ (_ :: _) _ _ _ _ _); refine DG.go1 (k := ?_)) | (with_reducible first | apply RG.nil | apply W.seq | apply W.reg | apply W.skip | apply W.block | apply W.drw | apply DG.nil | refine W.done (QB.n ?_)) | refine W.cndT ?_ | refine W.cndF ?_))
    (first | ((with_reducible show RG _ _ (_ :: _) _ _ _); refine RG.ca (ci) (k := ?_)) | ((with_reducible show DG _ _ (_ :: _) _ _ _ _ _); refine DG.ca (ci) (k := ?_)))
    (repeat (first | ((with_reducible show RG _ _ (_ :: _) _ _ _); refine RG.go1 (k := ?_)) | ((with_reducible show DG _ _ (_ :: _) _ _ _ _ _); refine DG.go1 (k := ?_)) | (with_reducible first | apply RG.nil | apply W.seq | apply W.reg | apply W.skip | apply W.block | apply W.drw | apply DG.nil | refine W.done (QB.n ?_)) | refine W.cndT ?_ | refine W.cndF ?_))
    (first | ((with_reducible show RG _ _ (_ :: _) _ _ _); refine RG.ew (ix_of ((show 0 + ((k : Int)).toNat = k by simp))) (k := ?_)) | ((with_reducible show DG _ _ (_ :: _) _ _ _ _ _); refine DG.ew (ix_of ((show 0 + ((k : Int)).toNat = k by simp))) (k := ?_)))
    (repeat (first | ((with_reducible show RG _ _ (_ :: _) _ _ _); refine RG.go1 (k := ?_)) | ((with_reducible show DG _ _ (_ :: _) _ _ _ _ _); refine DG.go1 (k := ?_)) | (with_reducible first | apply RG.nil | apply W.seq | apply W.reg | apply W.skip | apply W.block | apply W.drw | apply DG.nil | refine W.done (QB.n ?_)) | refine W.cndT ?_ | refine W.cndF ?_))
    (first | ((with_reducible show RG _ _ (_ :: _) _ _ _); refine RG.sm (A.ldr (hx0)) (k := ?_)) | ((with_reducible show DG _ _ (_ :: _) _ _ _ _ _); refine DG.sm (A.ldr (hx0)) (k := ?_)))
    (repeat (first | ((with_reducible show RG _ _ (_ :: _) _ _ _); refine RG.go1 (k := ?_)) | ((with_reducible show DG _ _ (_ :: _) _ _ _ _ _); refine DG.go1 (k := ?_)) | (with_reducible first | apply RG.nil | apply W.seq | apply W.reg | apply W.skip | apply W.block | apply W.drw | apply DG.nil | refine W.done (QB.n ?_)) | refine W.cndT ?_ | refine W.cndF ?_))
    (first | ((with_reducible show RG _ _ (_ :: _) _ _ _); refine RG.ca (cf) (k := ?_)) | ((with_reducible show DG _ _ (_ :: _) _ _ _ _ _); refine DG.ca (cf) (k := ?_)))
    (repeat (first | ((with_reducible show RG _ _ (_ :: _) _ _ _); refine RG.go1 (k := ?_)) | ((with_reducible show DG _ _ (_ :: _) _ _ _ _ _); refine DG.go1 (k := ?_)) | (with_reducible first | apply RG.nil | apply W.seq | apply W.reg | apply W.skip | apply W.block | apply W.drw | apply DG.nil | refine W.done (QB.n ?_)) | refine W.cndT ?_ | refine W.cndF ?_))
    (first | ((with_reducible show RG _ _ (_ :: _) _ _ _); refine RG.sm (A.ldr (hx0)) (k := ?_)) | ((with_reducible show DG _ _ (_ :: _) _ _ _ _ _); refine DG.sm (A.ldr (hx0)) (k := ?_)))
    (repeat (first | ((with_reducible show RG _ _ (_ :: _) _ _ _); refine RG.go1 (k := ?_)) | ((with_reducible show DG _ _ (_ :: _) _ _ _ _ _); refine DG.go1 (k := ?_)) | (with_reducible first | apply RG.nil | apply W.seq | apply W.reg | apply W.skip | apply W.block | apply W.drw | apply DG.nil | refine W.done (QB.n ?_)) | refine W.cndT ?_ | refine W.cndF ?_))
    (first | ((with_reducible show RG _ _ (_ :: _) _ _ _); refine RG.ca (cc) (k := ?_)) | ((with_reducible show DG _ _ (_ :: _) _ _ _ _ _); refine DG.ca (cc) (k := ?_)))
    (repeat (first | ((with_reducible show RG _ _ (_ :: _) _ _ _); refine RG.go1 (k := ?_)) | ((with_reducible show DG _ _ (_ :: _) _ _ _ _ _); refine DG.go1 (k := ?_)) | (with_reducible first | apply RG.nil | apply W.seq | apply W.reg | apply W.skip | apply W.block | apply W.drw | apply DG.nil | refine W.done (QB.n ?_)) | refine W.cndT ?_ | refine W.cndF ?_))
    (first | ((with_reducible show RG _ _ (_ :: _) _ _ _); refine RG.ca (clay) (k := ?_)) | ((with_reducible show DG _ _ (_ :: _) _ _ _ _ _); refine DG.ca (clay) (k := ?_)))
    (repeat (first | ((with_reducible show RG _ _ (_ :: _) _ _ _); refine RG.go1 (k := ?_)) | ((with_reducible show DG _ _ (_ :: _) _ _ _ _ _); refine DG.go1 (k := ?_)) | (with_reducible first | apply RG.nil | apply W.seq | apply W.reg | apply W.skip | apply W.block | apply W.drw | apply DG.nil | refine W.done (QB.n ?_)) | refine W.cndT ?_ | refine W.cndF ?_))
    (first | ((with_reducible show RG _ _ (_ :: _) _ _ _); refine RG.sn (A.strF hx0 (rfl : es.set k (.agg [.int .u8 x0, .int .u8 x1, .int .u8 x2, .int .u8 x3, .int .u8 x4, .int .u8 x5, .int .u8 x6, .int .u8 x7, .int .u8 xp, .int .u16 xi, .int .u8 xt, .int .u64 xs, .int .i64 xe, .sl false 2 G2]) = _)) (k := ?_)) | ((with_reducible show DG _ _ (_ :: _) _ _ _ _ _); refine DG.sn (A.strF hx0 (rfl : es.set k (.agg [.int .u8 x0, .int .u8 x1, .int .u8 x2, .int .u8 x3, .int .u8 x4, .int .u8 x5, .int .u8 x6, .int .u8 x7, .int .u8 xp, .int .u16 xi, .int .u8 xt, .int .u64 xs, .int .i64 xe, .sl false 2 G2]) = _)) (k := ?_)))
    (repeat (first | ((with_reducible show RG _ _ (_ :: _) _ _ _); refine RG.go1 (k := ?_)) | ((with_reducible show DG _ _ (_ :: _) _ _ _ _ _); refine DG.go1 (k := ?_)) | (with_reducible first | apply RG.nil | apply W.seq | apply W.reg | apply W.skip | apply W.block | apply W.drw | apply DG.nil | refine W.done (QB.n ?_)) | refine W.cndT ?_ | refine W.cndF ?_))
    (first | ((with_reducible show RG _ _ (_ :: _) _ _ _); refine RG.sm (A.ldr (hx2)) (k := ?_)) | ((with_reducible show DG _ _ (_ :: _) _ _ _ _ _); refine DG.sm (A.ldr (hx2)) (k := ?_)))
    (repeat (first | ((with_reducible show RG _ _ (_ :: _) _ _ _); refine RG.go1 (k := ?_)) | ((with_reducible show DG _ _ (_ :: _) _ _ _ _ _); refine DG.go1 (k := ?_)) | (with_reducible first | apply RG.nil | apply W.seq | apply W.reg | apply W.skip | apply W.block | apply W.drw | apply DG.nil | refine W.done (QB.n ?_)) | refine W.cndT ?_ | refine W.cndF ?_))
    (first | ((with_reducible show RG _ _ (_ :: _) _ _ _); refine RG.gld (hx2) (k := ?_)) | ((with_reducible show DG _ _ (_ :: _) _ _ _ _ _); refine DG.gld (hx2) (k := ?_)))
    (repeat (first | ((with_reducible show RG _ _ (_ :: _) _ _ _); refine RG.go1 (k := ?_)) | ((with_reducible show DG _ _ (_ :: _) _ _ _ _ _); refine DG.go1 (k := ?_)) | (with_reducible first | apply RG.nil | apply W.seq | apply W.reg | apply W.skip | apply W.block | apply W.drw | apply DG.nil | refine W.done (QB.n ?_)) | refine W.cndT ?_ | refine W.cndF ?_))
    (first | ((with_reducible show RG _ _ (_ :: _) _ _ _); refine RG.ewg (cptr_of (e0) (by (conv => lhs; whnf) <;> exact rfl)) (k := ?_)) | ((with_reducible show DG _ _ (_ :: _) _ _ _ _ _); refine DG.ewg (cptr_of (e0) (by (conv => lhs; whnf) <;> exact rfl)) (k := ?_)))
    (repeat (first | ((with_reducible show RG _ _ (_ :: _) _ _ _); refine RG.go1 (k := ?_)) | ((with_reducible show DG _ _ (_ :: _) _ _ _ _ _); refine DG.go1 (k := ?_)) | (with_reducible first | apply RG.nil | apply W.seq | apply W.reg | apply W.skip | apply W.block | apply W.drw | apply DG.nil | refine W.done (QB.n ?_)) | refine W.cndT ?_ | refine W.cndF ?_))
    (first | ((with_reducible show RG _ _ (_ :: _) _ _ _); refine RG.gld (hx2) (k := ?_)) | ((with_reducible show DG _ _ (_ :: _) _ _ _ _ _); refine DG.gld (hx2) (k := ?_)))
    (repeat (first | ((with_reducible show RG _ _ (_ :: _) _ _ _); refine RG.go1 (k := ?_)) | ((with_reducible show DG _ _ (_ :: _) _ _ _ _ _); refine DG.go1 (k := ?_)) | (with_reducible first | apply RG.nil | apply W.seq | apply W.reg | apply W.skip | apply W.block | apply W.drw | apply DG.nil | refine W.done (QB.n ?_)) | refine W.cndT ?_ | refine W.cndF ?_))
    (first | ((with_reducible show RG _ _ (_ :: _) _ _ _); refine RG.ewg (cptr_of (e0) (by (conv => lhs; whnf) <;> exact rfl)) (k := ?_)) | ((with_reducible show DG _ _ (_ :: _) _ _ _ _ _); refine DG.ewg (cptr_of (e0) (by (conv => lhs; whnf) <;> exact rfl)) (k := ?_)))
    (repeat (first | ((with_reducible show RG _ _ (_ :: _) _ _ _); refine RG.go1 (k := ?_)) | ((with_reducible show DG _ _ (_ :: _) _ _ _ _ _); refine DG.go1 (k := ?_)) | (with_reducible first | apply RG.nil | apply W.seq | apply W.reg | apply W.skip | apply W.block | apply W.drw | apply DG.nil | refine W.done (QB.n ?_)) | refine W.cndT ?_ | refine W.cndF ?_))
    (first | ((with_reducible show RG _ _ (_ :: _) _ _ _); refine RG.gld (hx2) (k := ?_)) | ((with_reducible show DG _ _ (_ :: _) _ _ _ _ _); refine DG.gld (hx2) (k := ?_)))
    (repeat (first | ((with_reducible show RG _ _ (_ :: _) _ _ _); refine RG.go1 (k := ?_)) | ((with_reducible show DG _ _ (_ :: _) _ _ _ _ _); refine DG.go1 (k := ?_)) | (with_reducible first | apply RG.nil | apply W.seq | apply W.reg | apply W.skip | apply W.block | apply W.drw | apply DG.nil | refine W.done (QB.n ?_)) | refine W.cndT ?_ | refine W.cndF ?_))
    (refine W.ret ?_; (repeat (with_reducible first | refine QB.r ?_ | refine QL.r ?_ | refine QC.r ?_)); refine QF.r ?_)
    (refine RetOk.wk (Wk.frz (b := 0) rfl rfl) ?_; refine RetOk.wk (Wk.tmp (t := 6) (Cl.ice rfl rfl rfl (by first | assumption | decide | omega | (simp; (first | (all_goals fail) | fail)) | (simp <;> omega)) (by first | exact take_all _ | exact take_len (by first | (simp; (first | (all_goals fail) | fail)) | (simp <;> omega)) | exact rfl))) ?_; dsimp only [setO])
    exact RetOk.rs (vs := [_, _, _, _]) r_frag_Add []
  · skip
    have hx2 := set_get (x := (.agg [.int .u8 x0, .int .u8 x1, .int .u8 x2, .int .u8 x3, .int .u8 x4, .int .u8 x5, .int .u8 x6, .int .u8 x7, .int .u8 xp, .int .u16 xi, .int .u8 xt, .int .u64 xs, .int .i64 xe, .sl false 2 G2])) (y := .any) kl
    have sl2 := set_len2 (l := es) (k := k) (x := (.agg [.int .u8 x0, .int .u8 x1, .int .u8 x2, .int .u8 x3, .int .u8 x4, .int .u8 x5, .int .u8 x6, .int .u8 x7, .int .u8 xp, .int .u16 xi, .int .u8 xt, .int .u64 xs, .int .i64 xe, .sl false 2 G2]))
    have ip : ∀ a b : Int, (if (true = true) then a else b) = a := fun a b => if_pos rfl
    have iq : ∀ a b : Int, (if (false = true) then a else b) = b := fun a b => if_neg (by decide)
    try rw [ip] at *
    try rw [iq] at *
    clear ip iq
    refine acall_walk (N := 208) Try.func11 (by kernel_rfl) p_frag_Add rfl ?_; unfold c_frag_Add; dsimp only [enum, Nat.reduceAdd]
    (repeat (first | ((with_reducible show RG _ _ (_ :: _) _ _ _); refine RG.go1 (k := ?_)) | ((with_reducible show DG _ _ (_ :: _) _ _ _ _ _); refine DG.go1 (k := ?_)) | (with_reducible first | apply RG.nil | apply W.seq | apply W.reg | apply W.skip | apply W.block | apply W.drw | apply DG.nil | refine W.done (QB.n ?_)) | refine W.cndT ?_ | refine W.cndF ?_))
    (first | ((with_reducible show RG _ _ (_ :: _) _ _ _); refine RG.ca (ca) (k := ?_)) | ((with_reducible show DG _ _ (_ :: _) _ _ _ _ _); refine DG.ca (ca) (k := ?_)))
    (repeat (first | ((with_reducible show RG _ _ (_ :: _) _ _ _); refine RG.go1 (k := ?_)) | ((with_reducible show DG _ _ (_ :: _) _ _ _ _ _); refine DG.go1 (k := ?_)) | (with_reducible first | apply RG.nil | apply W.seq | apply W.reg | apply W.skip | apply W.block | apply W.drw | apply DG.nil | refine W.done (QB.n ?_)) | refine W.cndT ?_ | refine W.cndF ?_))
    (first | ((with_reducible show RG _ _ (_ :: _) _ _ _); refine RG.ca (ci) (k := ?_)) | ((with_reducible show DG _ _ (_ :: _) _ _ _ _ _); refine DG.ca (ci) (k := ?_)))
    (repeat (first | ((with_reducible show RG _ _ (_ :: _) _ _ _); refine RG.go1 (k := ?_)) | ((with_reducible show DG _ _ (_ :: _) _ _ _ _ _); refine DG.go1 (k := ?_)) | (with_reducible first | apply RG.nil | apply W.seq | apply W.reg | apply W.skip | apply W.block | apply W.drw | apply DG.nil | refine W.done (QB.n ?_)) | refine W.cndT ?_ | refine W.cndF ?_))
    (first | ((with_reducible show RG _ _ (_ :: _) _ _ _); refine RG.ew (ix_of ((show 0 + ((k : Int)).toNat = k by simp))) (k := ?_)) | ((with_reducible show DG _ _ (_ :: _) _ _ _ _ _); refine DG.ew (ix_of ((show 0 + ((k : Int)).toNat = k by simp))) (k := ?_)))
    (repeat (first | ((with_reducible show RG _ _ (_ :: _) _ _ _); refine RG.go1 (k := ?_)) | ((with_reducible show DG _ _ (_ :: _) _ _ _ _ _); refine DG.go1 (k := ?_)) | (with_reducible first | apply RG.nil | apply W.seq | apply W.reg | apply W.skip | apply W.block | apply W.drw | apply DG.nil | refine W.done (QB.n ?_)) | refine W.cndT ?_ | refine W.cndF ?_))
    (first | ((with_reducible show RG _ _ (_ :: _) _ _ _); refine RG.sm (A.ldr (hx0)) (k := ?_)) | ((with_reducible show DG _ _ (_ :: _) _ _ _ _ _); refine DG.sm (A.ldr (hx0)) (k := ?_)))
    (repeat (first | ((with_reducible show RG _ _ (_ :: _) _ _ _); refine RG.go1 (k := ?_)) | ((with_reducible show DG _ _ (_ :: _) _ _ _ _ _); refine DG.go1 (k := ?_)) | (with_reducible first | apply RG.nil | apply W.seq | apply W.reg | apply W.skip | apply W.block | apply W.drw | apply DG.nil | refine W.done (QB.n ?_)) | refine W.cndT ?_ | refine W.cndF ?_))
    (first | ((with_reducible show RG _ _ (_ :: _) _ _ _); refine RG.ca (cf) (k := ?_)) | ((with_reducible show DG _ _ (_ :: _) _ _ _ _ _); refine DG.ca (cf) (k := ?_)))
    (repeat (first | ((with_reducible show RG _ _ (_ :: _) _ _ _); refine RG.go1 (k := ?_)) | ((with_reducible show DG _ _ (_ :: _) _ _ _ _ _); refine DG.go1 (k := ?_)) | (with_reducible first | apply RG.nil | apply W.seq | apply W.reg | apply W.skip | apply W.block | apply W.drw | apply DG.nil | refine W.done (QB.n ?_)) | refine W.cndT ?_ | refine W.cndF ?_))
    (first | ((with_reducible show RG _ _ (_ :: _) _ _ _); refine RG.sm (A.ldr (hx0)) (k := ?_)) | ((with_reducible show DG _ _ (_ :: _) _ _ _ _ _); refine DG.sm (A.ldr (hx0)) (k := ?_)))
    (repeat (first | ((with_reducible show RG _ _ (_ :: _) _ _ _); refine RG.go1 (k := ?_)) | ((with_reducible show DG _ _ (_ :: _) _ _ _ _ _); refine DG.go1 (k := ?_)) | (with_reducible first | apply RG.nil | apply W.seq | apply W.reg | apply W.skip | apply W.block | apply W.drw | apply DG.nil | refine W.done (QB.n ?_)) | refine W.cndT ?_ | refine W.cndF ?_))
    (first | ((with_reducible show RG _ _ (_ :: _) _ _ _); refine RG.ca (cc) (k := ?_)) | ((with_reducible show DG _ _ (_ :: _) _ _ _ _ _); refine DG.ca (cc) (k := ?_)))
    (repeat (first | ((with_reducible show RG _ _ (_ :: _) _ _ _); refine RG.go1 (k := ?_)) | ((with_reducible show DG _ _ (_ :: _) _ _ _ _ _); refine DG.go1 (k := ?_)) | (with_reducible first | apply RG.nil | apply W.seq | apply W.reg | apply W.skip | apply W.block | apply W.drw | apply DG.nil | refine W.done (QB.n ?_)) | refine W.cndT ?_ | refine W.cndF ?_))
    (first | ((with_reducible show RG _ _ (_ :: _) _ _ _); refine RG.ca (clay) (k := ?_)) | ((with_reducible show DG _ _ (_ :: _) _ _ _ _ _); refine DG.ca (clay) (k := ?_)))
    (repeat (first | ((with_reducible show RG _ _ (_ :: _) _ _ _); refine RG.go1 (k := ?_)) | ((with_reducible show DG _ _ (_ :: _) _ _ _ _ _); refine DG.go1 (k := ?_)) | (with_reducible first | apply RG.nil | apply W.seq | apply W.reg | apply W.skip | apply W.block | apply W.drw | apply DG.nil | refine W.done (QB.n ?_)) | refine W.cndT ?_ | refine W.cndF ?_))
    (first | ((with_reducible show RG _ _ (_ :: _) _ _ _); refine RG.sn (A.strF hx0 (rfl : es.set k (.agg [.int .u8 x0, .int .u8 x1, .int .u8 x2, .int .u8 x3, .int .u8 x4, .int .u8 x5, .int .u8 x6, .int .u8 x7, .int .u8 xp, .int .u16 xi, .int .u8 xt, .int .u64 xs, .int .i64 xe, .sl false 2 G2]) = _)) (k := ?_)) | ((with_reducible show DG _ _ (_ :: _) _ _ _ _ _); refine DG.sn (A.strF hx0 (rfl : es.set k (.agg [.int .u8 x0, .int .u8 x1, .int .u8 x2, .int .u8 x3, .int .u8 x4, .int .u8 x5, .int .u8 x6, .int .u8 x7, .int .u8 xp, .int .u16 xi, .int .u8 xt, .int .u64 xs, .int .i64 xe, .sl false 2 G2]) = _)) (k := ?_)))
    (repeat (first | ((with_reducible show RG _ _ (_ :: _) _ _ _); refine RG.go1 (k := ?_)) | ((with_reducible show DG _ _ (_ :: _) _ _ _ _ _); refine DG.go1 (k := ?_)) | (with_reducible first | apply RG.nil | apply W.seq | apply W.reg | apply W.skip | apply W.block | apply W.drw | apply DG.nil | refine W.done (QB.n ?_)) | refine W.cndT ?_ | refine W.cndF ?_))
    (first | ((with_reducible show RG _ _ (_ :: _) _ _ _); refine RG.sm (A.ldr (hx2)) (k := ?_)) | ((with_reducible show DG _ _ (_ :: _) _ _ _ _ _); refine DG.sm (A.ldr (hx2)) (k := ?_)))
    (repeat (first | ((with_reducible show RG _ _ (_ :: _) _ _ _); refine RG.go1 (k := ?_)) | ((with_reducible show DG _ _ (_ :: _) _ _ _ _ _); refine DG.go1 (k := ?_)) | (with_reducible first | apply RG.nil | apply W.seq | apply W.reg | apply W.skip | apply W.block | apply W.drw | apply DG.nil | refine W.done (QB.n ?_)) | refine W.cndT ?_ | refine W.cndF ?_))
    (first | ((with_reducible show RG _ _ (_ :: _) _ _ _); refine RG.gld (hx2) (k := ?_)) | ((with_reducible show DG _ _ (_ :: _) _ _ _ _ _); refine DG.gld (hx2) (k := ?_)))
    (repeat (first | ((with_reducible show RG _ _ (_ :: _) _ _ _); refine RG.go1 (k := ?_)) | ((with_reducible show DG _ _ (_ :: _) _ _ _ _ _); refine DG.go1 (k := ?_)) | (with_reducible first | apply RG.nil | apply W.seq | apply W.reg | apply W.skip | apply W.block | apply W.drw | apply DG.nil | refine W.done (QB.n ?_)) | refine W.cndT ?_ | refine W.cndF ?_))
    (first | ((with_reducible show RG _ _ (_ :: _) _ _ _); refine RG.ewg (cptr_of (e0) (by (conv => lhs; whnf) <;> exact rfl)) (k := ?_)) | ((with_reducible show DG _ _ (_ :: _) _ _ _ _ _); refine DG.ewg (cptr_of (e0) (by (conv => lhs; whnf) <;> exact rfl)) (k := ?_)))
    (repeat (first | ((with_reducible show RG _ _ (_ :: _) _ _ _); refine RG.go1 (k := ?_)) | ((with_reducible show DG _ _ (_ :: _) _ _ _ _ _); refine DG.go1 (k := ?_)) | (with_reducible first | apply RG.nil | apply W.seq | apply W.reg | apply W.skip | apply W.block | apply W.drw | apply DG.nil | refine W.done (QB.n ?_)) | refine W.cndT ?_ | refine W.cndF ?_))
    (first | ((with_reducible show RG _ _ (_ :: _) _ _ _); refine RG.gld (hx2) (k := ?_)) | ((with_reducible show DG _ _ (_ :: _) _ _ _ _ _); refine DG.gld (hx2) (k := ?_)))
    (repeat (first | ((with_reducible show RG _ _ (_ :: _) _ _ _); refine RG.go1 (k := ?_)) | ((with_reducible show DG _ _ (_ :: _) _ _ _ _ _); refine DG.go1 (k := ?_)) | (with_reducible first | apply RG.nil | apply W.seq | apply W.reg | apply W.skip | apply W.block | apply W.drw | apply DG.nil | refine W.done (QB.n ?_)) | refine W.cndT ?_ | refine W.cndF ?_))
    (first | ((with_reducible show RG _ _ (_ :: _) _ _ _); refine RG.ewg (cptr_of (e0) (by (conv => lhs; whnf) <;> exact rfl)) (k := ?_)) | ((with_reducible show DG _ _ (_ :: _) _ _ _ _ _); refine DG.ewg (cptr_of (e0) (by (conv => lhs; whnf) <;> exact rfl)) (k := ?_)))
    (repeat (first | ((with_reducible show RG _ _ (_ :: _) _ _ _); refine RG.go1 (k := ?_)) | ((with_reducible show DG _ _ (_ :: _) _ _ _ _ _); refine DG.go1 (k := ?_)) | (with_reducible first | apply RG.nil | apply W.seq | apply W.reg | apply W.skip | apply W.block | apply W.drw | apply DG.nil | refine W.done (QB.n ?_)) | refine W.cndT ?_ | refine W.cndF ?_))
    (first | ((with_reducible show RG _ _ (_ :: _) _ _ _); refine RG.gld (hx2) (k := ?_)) | ((with_reducible show DG _ _ (_ :: _) _ _ _ _ _); refine DG.gld (hx2) (k := ?_)))
    (repeat (first | ((with_reducible show RG _ _ (_ :: _) _ _ _); refine RG.go1 (k := ?_)) | ((with_reducible show DG _ _ (_ :: _) _ _ _ _ _); refine DG.go1 (k := ?_)) | (with_reducible first | apply RG.nil | apply W.seq | apply W.reg | apply W.skip | apply W.block | apply W.drw | apply DG.nil | refine W.done (QB.n ?_)) | refine W.cndT ?_ | refine W.cndF ?_))
    (refine W.ret ?_; (repeat (with_reducible first | refine QB.r ?_ | refine QL.r ?_ | refine QC.r ?_)); refine QF.r ?_)
    (refine RetOk.wk (Wk.frz (b := 0) rfl rfl) ?_; refine RetOk.wk (Wk.tmp (t := 6) (Cl.ice rfl rfl rfl (by first | assumption | decide | omega | (simp; (first | (all_goals fail) | fail)) | (simp <;> omega)) (by first | exact take_all _ | exact take_len (by first | (simp; (first | (all_goals fail) | fail)) | (simp <;> omega)) | exact rfl))) ?_; dsimp only [setO])
    exact RetOk.rs (vs := [_, _, _, _]) r_frag_Add []
end Go.Proofs.Ytiejnmbpejfpgaa
