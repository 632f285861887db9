/- That the operations on abstract values are the program's: addresses, arithmetic, what is read of memory. -/
import Derived.Test.YtiejnmbpejfpgaaAx5
namespace Go.Proofs.Ytiejnmbpejfpgaa
open Go.RowKit
set_option linter.unusedVariables false

section
variable {P : Program} {ρ : Env} {B : Nat → Prop} {F : Nat → Prop} {w : World}

theorem cptr_cut {vol : Bool} {ad : Addr} {f : Nat → Value} (hsp : ad.spot = none) (hloc : (vol = true ∧ B ad.block) ∨ F ad.block) (off : Nat) (cs' : List AV)
    (hcell : ∀ i, i < cs'.length → w.cell? (ad.add (off + i)) = some (f (off + i))) (h : ∀ (i : Nat) (av : AV), cs'[i]? = some av → Rep ρ B F w (f (off + i)) av) : Rep ρ B F w (.pointer (some (ad.add off))) (.cptr vol cs') := by
  refine .cptr vol (ad.add off) cs' (fun i => f (off + i)) ?_ (by rw [add_block]; exact hloc) (fun i hi => by rw [add_add]; exact hcell i hi) h
  unfold Addr.add; split
  · exact hsp
  · rfl

theorem run_fieldAt {s : TypeId} {fields : Array Field} {i n : Nat} {f : Field} (ht : P.underlying s = some (.struct fields)) (hf : fields[i]? = some f) (hsz : szOf P f.type = some n) (hn : n ≠ 0) (ad : Addr) :
    (Instr.fieldAt s (.pointer (some ad)) i).run P w = .ok (.pointer (some (ad.add f.offset))) w := by
  simp [Instr.fieldAt, run_underlying ht, hf, Instr.sureAddr, fieldPlace, run_sizeOf' hsz, hn]
theorem v_fadr_b {s : TypeId} {fields : Array Field} {i n : Nat} {f : Field} (ht : P.underlying s = some (.struct fields)) (hf : fields[i]? = some f) (hsz : szOf P f.type = some n) (hn : n ≠ 0) {v : Value} {b o : Nat} (h : Rep ρ B F w v (.bptr b o)) : GV P ρ B F w (Instr.fieldAt s v i) (.bptr b (o + f.offset)) := by
  obtain ⟨g, hg, rfl⟩ := h.bptr_inv
  exact ⟨_, run_fieldAt ht hf hsz hn _, by rw [add_lit]; exact .bptr _ _ _ hg⟩
theorem v_fadr_r {s : TypeId} {fields : Array Field} {i n : Nat} {f : Field} (ht : P.underlying s = some (.struct fields)) (hf : fields[i]? = some f) (hsz : szOf P f.type = some n) (hn : n ≠ 0) {v : Value} {b k j o : Nat} (h : Rep ρ B F w v (.rptr b k j o)) : GV P ρ B F w (Instr.fieldAt s v i) (.rptr b k j (o + f.offset)) := by
  obtain ⟨p, hp, rfl⟩ := h.rptr_inv
  refine ⟨_, run_fieldAt ht hf hsz hn _, ?_⟩
  rw [add_lit, show p.off + (j * k + o) + f.offset = p.off + (j * k + (o + f.offset)) by omega]
  exact .rptr _ _ _ _ _ hp
theorem v_fadr_c {s : TypeId} {fields : Array Field} {i n : Nat} {f : Field} (ht : P.underlying s = some (.struct fields)) (hf : fields[i]? = some f) (hsz : szOf P f.type = some n) (hn : n ≠ 0) {v : Value} {vol : Bool} {cs : List AV} (h : Rep ρ B F w v (.cptr vol cs)) : GV P ρ B F w (Instr.fieldAt s v i) (.cptr vol (cs.drop f.offset)) := by
  obtain ⟨ad, g, rfl, hsp, hloc, hcell, hr⟩ := h.cptr_inv
  refine ⟨_, run_fieldAt ht hf hsz hn _, cptr_cut (f := g) hsp hloc _ _ (fun i hi => hcell _ (by simp at hi; omega)) fun i av e => hr _ _ (by rw [List.getElem?_drop] at e; exact e)⟩

theorem run_iadS {t e : TypeId} {k : Nat} (ht : P.underlying t = some (.slice e)) (hsz : szOf P e = some k) (ad : Addr) (n c : Nat) (ik : IntKind) {j : Int} (h0 : 0 ≤ j) (hj : j < n) :
    (Instr.indexAt t (.slice (some ad) n c) (.int ik j)).run P w = .ok (.pointer (some (ad.add (j.toNat * k)))) w := by
  simp [Instr.indexAt, asIntOf, run_underlying ht, h0, hj, run_sizeOf' hsz]
theorem v_iadS_ref {t e : TypeId} {k : Nat} (ht : P.underlying t = some (.slice e)) (hsz : szOf P e = some k) {v : Value} {b lo n : Nat} (h : Rep ρ B F w v (.ref b k lo n)) {ik : IntKind} {j : Int} (h0 : 0 ≤ j) (hj : j < n) : GV P ρ B F w (Instr.indexAt t v (.int ik j)) (.rptr b k (lo + j.toNat) 0) := by
  obtain ⟨a, c, p, rfl, hp, hc, hm, hl, hn, ha⟩ := h.ref_inv
  rw [ha (by omega)]
  refine ⟨_, run_iadS ht hsz _ n c ik h0 hj, ?_⟩
  rw [add_lit, show p.off + lo * k + j.toNat * k = p.off + ((lo + j.toNat) * k + 0) by rw [Nat.add_mul]; omega]
  exact .rptr _ _ _ _ _ hp
theorem v_iadS_sl {t e : TypeId} {k : Nat} (ht : P.underlying t = some (.slice e)) (hsz : szOf P e = some k) (hk : 0 < k) {v : Value} {vol : Bool} {es : List AV} (h : Rep ρ B F w v (.sl vol k es)) {ik : IntKind} {j : Int} (h0 : 0 ≤ j) (hj : j < es.length) : GV P ρ B F w (Instr.indexAt t v (.int ik j)) (.cptr vol (es[j.toNat]?.getD .any).cells) := by
  obtain ⟨a, c, f, rfl, hw, hr, hc⟩ := h.sl_inv
  have hjn : j.toNat < es.length := by omega
  have he : es[j.toNat]? = some es[j.toNat] := List.getElem?_eq_getElem hjn
  have hwj := hw _ (List.mem_of_getElem? he)
  have hfit : j.toNat * k + k ≤ es.length * k := by
    have : (j.toNat + 1) * k ≤ es.length * k := Nat.mul_le_mul_right k hjn
    rw [Nat.add_mul] at this; omega
  cases a with
  | none => have := hr.nil rfl; have := hr.cap; omega
  | some ad =>
    refine ⟨_, run_iadS ht hsz ad es.length c ik h0 hj, ?_⟩
    have h00 := hr.cell ad rfl 0 (by omega)
    rw [add_zero'] at h00
    rw [he, Option.getD_some]
    refine cptr_cut (f := f) (cell_spot h00) (hr.loc ad rfl (by omega)) _ _ (fun i hi => hr.cell ad rfl _ (by omega)) fun i av e1 => .pure _ _ (hc _ _ ?_)
    have hi : i < k := by
      have := (List.getElem?_eq_some_iff.1 e1).1; omega
    rw [flat_get hw he hi]; exact e1
theorem v_iadA_b {t e : TypeId} {k len : Nat} (ht : P.underlying t = some (.array len e)) (hsz : szOf P e = some k) {v : Value} {b o : Nat} (h : Rep ρ B F w v (.bptr b o)) {ik : IntKind} {j : Int} (h0 : 0 ≤ j) (hj : j < len) : GV P ρ B F w (Instr.indexAt t v (.int ik j)) (.bptr b (o + j.toNat * k)) := by
  obtain ⟨g, hg, rfl⟩ := h.bptr_inv
  exact ⟨.pointer (some ⟨g, o + j.toNat * k, none⟩), by simp [Instr.indexAt, asIntOf, run_underlying ht, h0, hj, run_sizeOf' hsz, Instr.sureAddr, add_lit], .bptr _ _ _ hg⟩
theorem v_iadA_a {t e : TypeId} {len : Nat} (ht : P.underlying t = some (.array len e)) (hsz : szOf P e = some 1) {v : Value} {b n : Nat} (h : Rep ρ B F w v (.aptr b n)) {ik : IntKind} {j : Int} (h0 : 0 ≤ j) (hj : j < len) : GV P ρ B F w (Instr.indexAt t v (.int ik j)) (.rptr b 1 j.toNat 0) := by
  obtain ⟨p, hp, hl, rfl⟩ := h.aptr_inv
  refine ⟨.pointer (some ⟨p.blk, p.off + j.toNat, none⟩), by simp [Instr.indexAt, asIntOf, run_underlying ht, h0, hj, run_sizeOf' hsz, Instr.sureAddr, add_lit], ?_⟩
  have := Rep.rptr (ρ := ρ) (B := B) (F := F) (w := w) b 1 j.toNat 0 p hp
  simpa using this
theorem v_iadA_c {t e : TypeId} {k len : Nat} (ht : P.underlying t = some (.array len e)) (hsz : szOf P e = some k) {v : Value} {vol : Bool} {cs : List AV} (h : Rep ρ B F w v (.cptr vol cs)) {ik : IntKind} {j : Int} (h0 : 0 ≤ j) (hj : j < len) : GV P ρ B F w (Instr.indexAt t v (.int ik j)) (.cptr vol (cs.drop (j.toNat * k))) := by
  obtain ⟨ad, g, rfl, hsp, hloc, hcell, hr⟩ := h.cptr_inv
  refine ⟨.pointer (some (ad.add (j.toNat * k))), by simp [Instr.indexAt, asIntOf, run_underlying ht, h0, hj, run_sizeOf' hsz, Instr.sureAddr], cptr_cut (f := g) hsp hloc _ _ (fun i hi => hcell _ (by simp at hi; omega)) fun i av e => hr _ _ (by rw [List.getElem?_drop] at e; exact e)⟩

/-! ### Arithmetic -/
theorem v_bin {op : BinOp} {t : TypeId} {xo yo : Operand} {k k' : IntKind} {x y : Int} (hok : (binI op k x k' y).1) :
    GV P ρ B F w (do eqGuard op t xo yo (.int k x) (.int k' y); binOp op t (.int k x) (.int k' y)) (binI op k x k' y).2 := by
  have hg : (eqGuard op t xo yo (.int k x) (.int k' y)).run P w = .ok () w := by cases op <;> rfl
  unfold GV
  simp only [Sem.run_bind, hg, Result.andThen_ok]
  cases op <;> simp only [binI] at hok ⊢
  case shl | shr => exact ⟨_, by simp [binOp, Op.shift, show ¬ y < 0 by omega], rep_int _ _⟩
  case quo | rem => obtain ⟨rfl, h0⟩ := hok; exact ⟨_, by simp [binOp, Op.intDiv, h0], rep_int _ _⟩
  case add | sub | mul => subst hok; exact ⟨_, by simp [binOp, Op.intArith], rep_int _ _⟩
  case and | or | xor | andNot => subst hok; exact ⟨_, by simp [binOp, Op.intBits], rep_int _ _⟩
  all_goals (subst hok; refine ⟨_, by simp [binOp, Op.intCmp]; rfl, ?_⟩)
  case eql => rw [show (x == y) = decide (x = y) from rfl]; exact rep_bool _
  case neq => rw [show (x != y) = decide (x ≠ y) by by_cases h : x = y <;> simp [h]]; exact rep_bool _
  all_goals exact rep_bool _
theorem v_binB {op : BinOp} {t : TypeId} {xo yo : Operand} {ne : Bool} (hop : op = if ne then .neq else .eql) (ht : P.underlying t = some .bool) {x y : Bool} :
    GV P ρ B F w (do eqGuard op t xo yo (.bool x) (.bool y); binOp op t (.bool x) (.bool y)) (.bool (if ne then x != y else x == y)) := by
  subst hop
  have he : (Op.equal t (.bool x) (.bool y)).run P w = .ok (x == y) w := by
    rw [show Op.equal t (.bool x) (.bool y) = Op.equalIn (9999 + 1) t (.bool x) (.bool y) from rfl, Op.equalIn]
    simp [run_underlying ht]
  unfold GV
  cases ne
  · refine ⟨.bool (x == y), ?_, rep_bool _⟩
    simp [eqGuard, binOp, he]
  · refine ⟨.bool (x != y), ?_, rep_bool _⟩
    simp [eqGuard, binOp, he]
    cases x <;> cases y <;> rfl
theorem toList_eq_iff (x y : ByteArray) : (x.toList == y.toList) = decide (x.data.toList = y.data.toList) := by
  have e : ∀ z : ByteArray, z.toList = z.data.toList := fun z => ByteArray.toList_eq z
  rw [e, e, Bool.eq_iff_iff]; simp
theorem v_binT {op : BinOp} {t : TypeId} {xo yo : Operand} {v u : Value} {a b : List UInt8} {r : AV} (hv : Rep ρ B F w v (.str a)) (hu : Rep ρ B F w u (.str b)) (hr : strI op a b = some r) (hl : a.length + b.length ≤ 1000000000) :
    GV P ρ B F w (do eqGuard op t xo yo v u; binOp op t v u) r := by
  obtain ⟨x, rfl, hx⟩ := hv.str_inv
  obtain ⟨y, rfl, hy⟩ := hu.str_inv
  have hsx := str_size hx
  have hsy := str_size hy
  have hmax : IntKind.i64.max = 9223372036854775807 := by decide
  unfold GV
  cases op <;> simp only [strI] at hr <;> first | (cases hr; done) | skip
  case add =>
    cases hr
    refine ⟨.string (x ++ y), ?_, rep_str _ _ (by simp [ByteArray.data_append, hx, hy])⟩
    have : ¬ (((x.size + y.size : Nat) : Int) > IntKind.i64.max) := by rw [hmax]; omega
    have e1 : (eqGuard .add t xo yo (.string x) (.string y)).run P w = .ok () w := rfl
    simp only [e1, binOp, Op.stringOp, Sem.run_bind, Result.andThen_ok]
    rw [if_neg this]; rfl
  case eql =>
    cases hr
    refine ⟨.bool (x.toList == y.toList), ?_, by rw [toList_eq_iff, hx, hy]; exact rep_bool _⟩
    simp [eqGuard, binOp, Op.stringOp]
  case neq =>
    cases hr
    refine ⟨.bool (!(x.toList == y.toList)), ?_, by rw [toList_eq_iff, hx, hy, ← decide_not]; exact rep_bool _⟩
    simp [eqGuard, binOp, Op.stringOp]
theorem v_conv {src dst : TypeId} {k k' : IntKind} {d : TypeDesc} {n : Int} (hs : P.underlying src = some d) (ht : P.underlying dst = some (.int k)) : GV P ρ B F w (convert src dst (.int k' n)) (.int k (k.wrap n)) := by
  refine ⟨.int k (k.wrap n), ?_, rep_int _ _⟩
  simp [convert, run_underlying hs, run_underlying ht, Conv.intToInt]
theorem v_convS {src dst : TypeId} {d : TypeDesc} {v : Value} {s : List UInt8} (hv : Rep ρ B F w v (.str s)) (hs : P.underlying src = some d) (ht : P.underlying dst = some .string) : GV P ρ B F w (convert src dst v) (.str s) := by
  obtain ⟨x, rfl, hx⟩ := hv.str_inv
  refine ⟨.string x, ?_, rep_str _ _ hx⟩
  unfold convert
  simp only [Sem.run_bind, run_underlying hs, run_underlying ht, Result.andThen_ok]
  cases d <;> rfl
theorem v_not {b : Bool} : GV P ρ B F w (Op.unary .not (.bool b)) (.bool (!b)) := ⟨_, rfl, rep_bool _⟩
theorem v_neg {k : IntKind} {n : Int} : GV P ρ B F w (Op.unary .neg (.int k n)) (.int k (k.wrap (0 - n))) := ⟨_, rfl, rep_int _ _⟩
theorem v_com {k : IntKind} {n : Int} : GV P ρ B F w (Op.unary .xor (.int k n)) (.int k (k.wrap ((BitVec.ofInt k.bits (if k.signed then -1 else k.max) ^^^ BitVec.ofInt k.bits n).toNat))) := ⟨_, rfl, rep_int _ _⟩

/-! ### min, max -/
theorem ints_map {l : List AV} {k : IntKind} {ns : List Int} (h : ints l = some (k, ns)) : ns ≠ [] ∧ l.length = ns.length ∧ ∃ ks : List IntKind, ks.length = ns.length ∧ l = (ks.zip ns).map (fun p => AV.int p.1 p.2) ∧ ks.head? = some k := by
  induction l generalizing k ns with
  | nil => simp [ints] at h
  | cons x l ih =>
    cases x with
    | int k1 n1 =>
      cases l with
      | nil => simp [ints] at h; obtain ⟨rfl, rfl⟩ := h; exact ⟨by simp, rfl, [k1], rfl, rfl, rfl⟩
      | cons y l =>
        simp only [ints, Option.map_eq_some_iff] at h
        obtain ⟨⟨k2, ns2⟩, h1, h2⟩ := h
        simp at h2
        obtain ⟨rfl, rfl⟩ := h2
        obtain ⟨g1, g2, ks, g3, g4, g5⟩ := ih h1
        exact ⟨by simp, by simp [g2], k1 :: ks, by simp [g3], by rw [g4]; rfl, rfl⟩
    | _ => cases l <;> simp [ints] at h
theorem foldlM_min (k : IntKind) (x : Int) (l : List (IntKind × Int)) : ((l.map fun p => Value.int p.1 p.2).foldlM Builtin.min2 (.int k x)).run P w = .ok (.int k ((l.map (·.2)).foldl (fun a b => min a b) x)) w := by
  induction l generalizing x with
  | nil => rfl
  | cons p l ih =>
    have e : (Builtin.min2 (.int k x) (.int p.1 p.2)).run P w = .ok (.int k (min x p.2)) w := by
      simp only [Builtin.min2, Sem.run_pure]; congr 2; split <;> omega
    simp only [List.map_cons, List.foldlM_cons, Sem.run_bind, e, Result.andThen_ok, ih, List.foldl_cons]
theorem foldlM_max (k : IntKind) (x : Int) (l : List (IntKind × Int)) : ((l.map fun p => Value.int p.1 p.2).foldlM Builtin.max2 (.int k x)).run P w = .ok (.int k ((l.map (·.2)).foldl (fun a b => max a b) x)) w := by
  induction l generalizing x with
  | nil => rfl
  | cons p l ih =>
    have e : (Builtin.max2 (.int k x) (.int p.1 p.2)).run P w = .ok (.int k (max x p.2)) w := by
      simp only [Builtin.max2, Sem.run_pure]; congr 2; split <;> omega
    simp only [List.map_cons, List.foldlM_cons, Sem.run_bind, e, Result.andThen_ok, ih, List.foldl_cons]
theorem reps_ints {vs : List Value} {l : List AV} {k : IntKind} {ns : List Int} (hl : vs.length = l.length) (h : ∀ (i : Nat) (u : Value) (av : AV), vs[i]? = some u → l[i]? = some av → Rep ρ B F w u av) (hi : ints l = some (k, ns)) :
    ∃ x ps, vs = .int k x :: (ps : List (IntKind × Int)).map (fun p => Value.int p.1 p.2) ∧ ns = x :: ps.map (·.2) := by
  obtain ⟨h1, h2, ks, h3, h4, h5⟩ := ints_map hi
  have e : vs = (ks.zip ns).map (fun p => Value.int p.1 p.2) := by
    apply List.ext_getElem?
    intro i
    by_cases hlt : i < vs.length
    · have e1 : vs[i]? = some vs[i] := List.getElem?_eq_getElem hlt
      obtain ⟨y, e2⟩ : ∃ y, l[i]? = some y := ⟨_, List.getElem?_eq_getElem (by omega)⟩
      have hr := h i _ _ e1 e2
      rw [e1]
      rw [h4, List.getElem?_map] at e2
      rw [List.getElem?_map]
      cases hz : (ks.zip ns)[i]? with
      | none => rw [hz] at e2; cases e2
      | some p =>
        rw [hz] at e2
        simp only [Option.map_some, Option.some.injEq] at e2 ⊢
        rw [← e2] at hr
        exact hr.int_inv
    · rw [List.getElem?_eq_none (by omega), List.getElem?_eq_none (by simp; omega)]
  cases ks with
  | nil => simp at h5
  | cons k1 ks =>
    cases ns with
    | nil => exact absurd rfl h1
    | cons x ns =>
      simp at h5; subst h5
      refine ⟨x, ks.zip ns, by simpa using e, ?_⟩
      congr 1
      simp at h3
      exact (List.map_snd_zip (by omega)).symm
theorem v_min {ts : Array TypeId} {t : TypeId} {vs : Array Value} {l : List AV} {k : IntKind} {ns : List Int} (hl : vs.size = l.length) (h : ∀ (i : Nat) (u : Value) (av : AV), vs[i]? = some u → l[i]? = some av → Rep ρ B F w u av) (hi : ints l = some (k, ns)) : GV P ρ B F w (Builtin.min_ ts t vs) (.int k (minL ns)) := by
  obtain ⟨x, ps, e1, e2⟩ := reps_ints (vs := vs.toList) (by simpa using hl) (fun i u av a b => h i u av (by simpa using a) b) hi
  refine ⟨.int k (minL ns), ?_, rep_int _ _⟩
  unfold Builtin.min_
  simp only [e1, foldlM_min, e2, minL]
theorem v_max {ts : Array TypeId} {t : TypeId} {vs : Array Value} {l : List AV} {k : IntKind} {ns : List Int} (hl : vs.size = l.length) (h : ∀ (i : Nat) (u : Value) (av : AV), vs[i]? = some u → l[i]? = some av → Rep ρ B F w u av) (hi : ints l = some (k, ns)) : GV P ρ B F w (Builtin.max_ ts t vs) (.int k (maxL ns)) := by
  obtain ⟨x, ps, e1, e2⟩ := reps_ints (vs := vs.toList) (by simpa using hl) (fun i u av a b => h i u av (by simpa using a) b) hi
  refine ⟨.int k (maxL ns), ?_, rep_int _ _⟩
  unfold Builtin.max_
  simp only [e1, foldlM_max, e2, maxL]
end
end Go.Proofs.Ytiejnmbpejfpgaa
