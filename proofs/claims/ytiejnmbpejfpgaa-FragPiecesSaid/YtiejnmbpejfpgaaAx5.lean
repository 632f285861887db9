/- That the operations on abstract values are the program's: those that give a value and change no memory. -/
import Derived.Test.YtiejnmbpejfpgaaAx4
import Derived.Laws.BytesString
namespace Go.Proofs.Ytiejnmbpejfpgaa
open Go.RowKit
set_option linter.unusedVariables false

/-- The steps s give a value that av stands for, and change nothing. -/
def GV (P : Program) (ρ : Env) (B : Nat → Prop) (F : Nat → Prop) (w : World) (s : Sem Value) (av : AV) : Prop := ∃ v, s.run P w = .ok v w ∧ Rep ρ B F w v av

section
variable {P : Program} {ρ : Env} {B : Nat → Prop} {F : Nat → Prop} {w : World}

theorem GV.ret {v : Value} {av : AV} (h : Rep ρ B F w v av) : GV P ρ B F w (pure v) av := ⟨v, rfl, h⟩
theorem Rep.val {v : Value} {av : AV} (h : Rep ρ B F w v av) (hc : av.cond) : Rep ρ B F w v av.val := by
  cases av <;> first | exact h | exact h.cnd_inv hc
theorem rep_int (k : IntKind) (n : Int) : Rep ρ B F w (.int k n) (.int k n) := .pure _ _ (.int k n)
theorem rep_bool (b : Bool) : Rep ρ B F w (.bool b) (.bool b) := .pure _ _ (.bool b)
theorem rep_str (s : ByteArray) (l : List UInt8) (h : s.data.toList = l) : Rep ρ B F w (.string s) (.str l) := .pure _ _ (.str s l h)

/-- A cut of cells. -/
theorem rep_agg_cut {cs : Array Value} {l : List AV} (hl : cs.size = l.length) (h : ∀ (i : Nat) (u : Value) (av : AV), cs[i]? = some u → l[i]? = some av → Rep ρ B F w u av) (off n : Nat) (hn : off + n ≤ l.length) : Rep ρ B F w (.agg (cs.extract off (off + n))) (.agg ((l.drop off).take n)) := by
  refine .agg _ _ (by simp; omega) fun i u av e1 e2 => ?_
  rw [List.getElem?_take] at e2
  split at e2
  · rename_i hi
    rw [List.getElem?_drop] at e2
    rw [Array.getElem?_extract] at e1
    split at e1
    · exact h (off + i) u av e1 e2
    · cases e1
  · cases e2
theorem run_part {t : TypeId} {agg : Bool} {n off : Nat} (hagg : aggOf P t = some agg) (hsz : szOf P t = some n) {cs : Array Value} {l : List AV} (hl : cs.size = l.length) (h : ∀ (i : Nat) (u : Value) (av : AV), cs[i]? = some u → l[i]? = some av → Rep ρ B F w u av) (hn : off + n ≤ l.length) (h1 : agg = false → n = 1) :
    GV P ρ B F w (part t cs off) (if agg then .agg ((l.drop off).take n) else (l[off]?.getD .any)) := by
  unfold part GV
  simp only [Sem.run_bind, run_isAgg' hagg, Result.andThen_ok]
  cases agg
  · have := h1 rfl
    subst this
    have e1 : cs[off]? = some (cs[off]'(by omega)) := Array.getElem?_eq_getElem (by omega)
    have e2 : l[off]? = some (l[off]'(by omega)) := List.getElem?_eq_getElem (by omega)
    simp only [Bool.false_eq_true, if_false, e1, e2, Option.getD_some]
    exact ⟨_, rfl, h off _ _ e1 e2⟩
  · simp only [if_true, Sem.run_bind, run_sizeOf' hsz, Result.andThen_ok]
    exact ⟨_, rfl, rep_agg_cut hl h off n hn⟩

theorem v_fld {t : TypeId} {fields : Array Field} {i n : Nat} {agg : Bool} {f : Field} (ht : P.underlying t = some (.struct fields)) (hf : fields[i]? = some f) (hagg : aggOf P f.type = some agg) (hsz : szOf P f.type = some n) {v : Value} {l : List AV} (h : Rep ρ B F w v (.agg l)) (hn : f.offset + n ≤ l.length) (h1 : agg = false → n = 1) :
    GV P ρ B F w (Instr.field t v i) (if agg then .agg ((l.drop f.offset).take n) else (l[f.offset]?.getD .any)) := by
  obtain ⟨cs, rfl, hl, hc⟩ := h.agg_inv
  have := run_part (P := P) (off := f.offset) hagg hsz hl hc hn h1
  unfold GV at *
  simpa [Instr.field, run_underlying ht, hf, asAgg] using this
theorem v_idxA {t e : TypeId} {len k : Nat} {agg : Bool} (ht : P.underlying t = some (.array len e)) (hagg : aggOf P e = some agg) (hsz : szOf P e = some k) {v : Value} {l : List AV} (h : Rep ρ B F w v (.agg l)) {ik : IntKind} {j : Int} (h0 : 0 ≤ j) (hj : j < len) (hl2 : len * k ≤ l.length) (h1 : agg = false → k = 1) :
    GV P ρ B F w (Instr.index t v (.int ik j)) (if agg then .agg ((l.drop (j.toNat * k)).take k) else (l[j.toNat]?.getD .any)) := by
  obtain ⟨cs, rfl, hl, hc⟩ := h.agg_inv
  have hjn : j.toNat < len := by omega
  have hfit : j.toNat * k + k ≤ l.length := by
    have : (j.toNat + 1) * k ≤ len * k := Nat.mul_le_mul_right k hjn
    rw [Nat.add_mul] at this; omega
  have := run_part (P := P) (off := j.toNat * k) hagg hsz hl hc hfit h1
  unfold GV at *
  have e : (Instr.index t (.agg cs) (.int ik j)).run P w = (part e cs (j.toNat * k)).run P w := by
    simp [Instr.index, run_underlying ht, asIntOf, h0, hj, run_sizeOf' hsz]
  rw [e]
  cases agg
  · have hk := h1 rfl
    subst hk
    simpa using this
  · exact this
theorem str_size {bs : ByteArray} {s : List UInt8} (hs : bs.data.toList = s) : bs.size = s.length := by subst hs; exact (Array.length_toList).symm
theorem str_get {bs : ByteArray} {s : List UInt8} (hs : bs.data.toList = s) (j : Nat) (hj : j < bs.size) : s[j]? = some (bs[j]'hj) := by
  subst hs
  rw [Array.getElem?_toList]
  exact Array.getElem?_eq_getElem hj
theorem v_idxT {t : TypeId} (ht : P.underlying t = some .string) {v : Value} {s : List UInt8} (h : Rep ρ B F w v (.str s)) {ik : IntKind} {j : Int} (h0 : 0 ≤ j) (hj : j < s.length) :
    GV P ρ B F w (Instr.index t v (.int ik j)) (.int .u8 (s[j.toNat]?.getD 0).toNat) := by
  obtain ⟨bs, rfl, hs⟩ := h.str_inv
  have hsz := str_size hs
  have hr := run_index_string (P := P) w t bs ik j ht
  rw [dif_pos ⟨h0, by omega⟩] at hr
  refine ⟨_, hr, ?_⟩
  rw [str_get hs j.toNat (by omega)]
  exact rep_int _ _
theorem v_ext {v : Value} {l : List AV} {i : Nat} (h : Rep ρ B F w v (.tup l)) (hi : i < l.length) : GV P ρ B F w (Instr.extract v i) (l[i]?.getD .any) := by
  obtain ⟨cs, rfl, hl, hc⟩ := h.tup_inv
  have e1 : cs[i]? = some (cs[i]'(by omega)) := Array.getElem?_eq_getElem (by omega)
  have e2 : l[i]? = some (l[i]'(by omega)) := List.getElem?_eq_getElem (by omega)
  refine ⟨_, ?_, by rw [e2]; exact hc i _ _ e1 e2⟩
  simp [Instr.extract, e1]

/-! ### Cuts -/
/-- A bound that is given, or not. -/
def IsB (d : Nat) (x : Option Value) (n : Nat) : Prop := (x = none ∧ n = d) ∨ ∃ k, x = some (.int k n)
theorem run_bounds (b : Bool) (n c : Nat) (lo hi mx : Option Value) (l h m : Nat) (hlo : IsB 0 lo l) (hhi : IsB n hi h) (hmx : IsB c mx m) (hm0 : mx ≠ none → hi ≠ none) (h1 : l ≤ h) (h2 : h ≤ m) (h3 : m ≤ c) :
    (Instr.sliceBounds b n c lo hi mx).run P w = .ok (l, h, m) w := by
  have q1 : (l : Int) ≤ h := by omega
  have q2 : (h : Int) ≤ m := by omega
  have q3 : (m : Int) ≤ c := by omega
  have q4 : (h : Int) ≤ c := by omega
  have q5 : ∀ x : Nat, (0 : Int) ≤ x := fun x => Int.natCast_nonneg x
  unfold Instr.sliceBounds
  rcases hlo with ⟨rfl, rfl⟩ | ⟨k1, rfl⟩ <;> rcases hhi with ⟨rfl, rfl⟩ | ⟨k2, rfl⟩ <;> rcases hmx with ⟨rfl, rfl⟩ | ⟨k3, rfl⟩
  all_goals first
    | (simp [run_sliceBound, *]; done)
    | exact absurd rfl (hm0 (by simp))
theorem run_cut {t e : TypeId} {k : Nat} (ht : P.underlying t = some (.slice e)) (hsz : szOf P e = some k) (a : Option Addr) (n c : Nat) (lo hi mx : Option Value) (l h m : Nat) (hlo : IsB 0 lo l) (hhi : IsB n hi h) (hmx : IsB c mx m) (hm0 : mx ≠ none → hi ≠ none) (h1 : l ≤ h) (h2 : h ≤ m) (h3 : m ≤ c) :
    (Instr.sliceAt t (.slice a n c) lo hi mx).run P w = .ok (.slice (if m = l then a else a.map (·.add (l * k))) (h - l) (m - l)) w := by
  simp [Instr.sliceAt, run_underlying ht, Instr.slice, run_bounds (P := P) (w := w) true n c lo hi mx l h m hlo hhi hmx hm0 h1 h2 h3, run_sizeOf' hsz]

theorem width_flat {es : List AV} {k : Nat} (hw : ∀ e ∈ es, e.cells.length = k) : (flat es).length = es.length * k := by
  induction es with
  | nil => simp [flat]
  | cons e es ih =>
    have := ih (fun x hx => hw x (List.mem_cons_of_mem _ hx))
    simp only [flat, List.flatMap_cons, List.length_append] at this ⊢
    rw [this, hw e (List.mem_cons_self ..), List.length_cons, Nat.add_mul]; omega
theorem flat_drop {es : List AV} {k : Nat} (hw : ∀ e ∈ es, e.cells.length = k) (l : Nat) : flat (es.drop l) = (flat es).drop (l * k) := by
  induction es generalizing l with
  | nil => simp [flat]
  | cons e es ih =>
    cases l with
    | zero => simp
    | succ l =>
      have h1 := hw e (List.mem_cons_self ..)
      have := ih (fun x hx => hw x (List.mem_cons_of_mem _ hx)) l
      simp only [List.drop_succ_cons, this]
      simp only [flat, List.flatMap_cons]
      have h2 : (l + 1) * k - e.cells.length = l * k := by rw [h1, Nat.add_mul]; omega
      rw [List.drop_append, h2, List.drop_eq_nil_of_le (as := e.cells) (by rw [h1, Nat.add_mul]; omega), List.nil_append]
theorem flat_take {es : List AV} {k : Nat} (hw : ∀ e ∈ es, e.cells.length = k) (l : Nat) : flat (es.take l) = (flat es).take (l * k) := by
  induction es generalizing l with
  | nil => simp [flat]
  | cons e es ih =>
    cases l with
    | zero => simp [flat]
    | succ l =>
      have h1 := hw e (List.mem_cons_self ..)
      have := ih (fun x hx => hw x (List.mem_cons_of_mem _ hx)) l
      simp only [List.take_succ_cons]
      simp only [flat, List.flatMap_cons] at this ⊢
      rw [this, List.take_append, h1, Nat.add_mul, Nat.one_mul, Nat.add_sub_cancel, List.take_of_length_le (l := e.cells) (by omega)]
theorem flat_get {es : List AV} {k : Nat} (hw : ∀ e ∈ es, e.cells.length = k) {j : Nat} {e : AV} (he : es[j]? = some e) {i : Nat} (hi : i < k) : (flat es)[j * k + i]? = e.cells[i]? := by
  have h1 := flat_drop hw j
  have h2 : es.drop j = e :: es.drop (j + 1) := by
    obtain ⟨hj, rfl⟩ := List.getElem?_eq_some_iff.1 he
    exact List.drop_eq_getElem_cons hj
  have h3 : ((flat es).drop (j * k))[i]? = (flat es)[j * k + i]? := by rw [List.getElem?_drop]
  rw [← h3, ← h1, h2]
  simp only [flat, List.flatMap_cons]
  rw [List.getElem?_append_left (by rw [hw e (List.mem_of_getElem? he)]; exact hi)]
theorem flat_append (a b : List AV) : flat (a ++ b) = flat a ++ flat b := by simp [flat]
theorem add_add (ad : Addr) (i j : Nat) : (ad.add i).add j = ad.add (i + j) := by
  unfold Addr.add
  by_cases h1 : i = 0 <;> by_cases h2 : j = 0 <;> simp [h1, h2, Nat.add_assoc]
theorem add_zero' (ad : Addr) : ad.add 0 = ad := by simp [Addr.add]
theorem add_lit (g o i : Nat) : (⟨g, o, none⟩ : Addr).add i = ⟨g, o + i, none⟩ := by unfold Addr.add; split <;> simp_all
theorem cell_spot {w : World} {ad : Addr} {u : Value} (h : w.cell? ad = some u) : ad.spot = none := by
  unfold World.cell? at h
  split at h
  · split at h
    · cases h
    · rename_i hs; simpa using hs
  · cases h

/-- A cut of a row that nobody writes. -/
theorem rowAt_cut {L : Nat → Prop} {a : Option Addr} {n c k : Nat} {f : Nat → Value} (h : RowAt w L a n c (n * k) f) {l hh m : Nat} (h1 : l ≤ hh) (h2 : hh ≤ m) (h3 : m ≤ c) (h4 : hh ≤ n) :
    RowAt w L (if m = l then a else a.map (·.add (l * k))) (hh - l) (m - l) ((hh - l) * k) (fun i => f (l * k + i)) := by
  have hc := h.cap
  have hfit : 0 < (hh - l) * k → l * k + (hh - l) * k ≤ n * k := fun _ => by rw [← Nat.add_mul]; exact Nat.mul_le_mul_right _ (by omega)
  refine ⟨by omega, by have := h.max; omega, ?_, fun ad e hm => ?_, fun ad e i hi => ?_⟩
  · split
    · omega
    · intro e; have := h.nil (by simpa using e); omega
  · have := hfit hm
    split at e
    · exfalso; rename_i he; subst he; rw [Nat.le_antisymm h2 h1] at hm; simp at hm
    · cases a with
      | none => simp at e
      | some ad0 => simp at e; subst e; rw [add_block]; exact h.loc ad0 rfl (by omega)
  · have := hfit (by omega)
    split at e
    · exfalso; rename_i he; subst he; rw [Nat.le_antisymm h2 h1] at hi; simp at hi
    · cases a with
      | none => simp at e
      | some ad0 =>
        simp at e; subst e
        rw [add_add]
        exact h.cell ad0 rfl (l * k + i) (by omega)

theorem v_slS_sl {t e : TypeId} {k : Nat} (ht : P.underlying t = some (.slice e)) (hsz : szOf P e = some k) {vol : Bool} {es : List AV} {v : Value} (hv : Rep ρ B F w v (.sl vol k es)) {lo hi : Option Value} {l h : Nat} (hlo : IsB 0 lo l) (hhi : IsB es.length hi h) (h1 : l ≤ h) (h2 : h ≤ es.length) :
    GV P ρ B F w (Instr.sliceAt t v lo hi none) (.sl vol k ((es.take h).drop l)) := by
  obtain ⟨a, c, f, rfl, hw, hr, hc⟩ := hv.sl_inv
  have hcc := hr.cap
  refine ⟨_, run_cut ht hsz a es.length c lo hi none l h c hlo hhi (.inl ⟨rfl, rfl⟩) (by simp) h1 (by omega) (Nat.le_refl _), ?_⟩
  have hr2 := rowAt_cut hr h1 (show h ≤ c by omega) (Nat.le_refl _) h2
  have hw2 : ∀ e ∈ (es.take h).drop l, e.cells.length = k := fun e he => hw e (List.mem_of_mem_take (List.mem_of_mem_drop he))
  have hl2 : ((es.take h).drop l).length = h - l := by simp; omega
  have hwt : ∀ e ∈ es.take h, e.cells.length = k := fun e he => hw e (List.mem_of_mem_take he)
  have hcells : ∀ (i : Nat) (av : AV), (flat ((es.take h).drop l))[i]? = some av → Rep0 F w (f (l * k + i)) av := fun i av e1 => by
    rw [flat_drop hwt, flat_take hw, List.getElem?_drop, List.getElem?_take] at e1
    split at e1
    · exact hc _ _ e1
    · cases e1
  cases vol
  · exact .pure _ _ (.sl _ _ _ _ _ _ hl2 hw2 (hr2.mono (Agree.refl _ _) (by simp)) hcells)
  · exact .vsl _ _ _ _ _ _ hl2 hw2 (hr2.mono (Agree.refl _ _) (by simp)) hcells
theorem v_slS_clip {t e : TypeId} {k : Nat} (ht : P.underlying t = some (.slice e)) (hsz : szOf P e = some k) {vol : Bool} {es : List AV} {v : Value} (hv : Rep ρ B F w v (.sl vol k es)) {lo hi mx : Option Value} {l h : Nat} (hlo : IsB 0 lo l) (hhi : IsB es.length hi h) (hmx : ∃ kk, mx = some (.int kk h)) (hm0 : hi ≠ none) (h1 : l ≤ h) (h2 : h ≤ es.length) :
    GV P ρ B F w (Instr.sliceAt t v lo hi mx) (.csl vol k ((es.take h).drop l)) := by
  obtain ⟨a, c, f, rfl, hw, hr, hc⟩ := hv.sl_inv
  have hcc := hr.cap
  refine ⟨_, run_cut ht hsz a es.length c lo hi mx l h h hlo hhi (.inr hmx) (fun _ => hm0) h1 (Nat.le_refl _) (by omega), ?_⟩
  have hr2 := rowAt_cut hr h1 (Nat.le_refl h) (by omega) h2
  have hw2 : ∀ e ∈ (es.take h).drop l, e.cells.length = k := fun e he => hw e (List.mem_of_mem_take (List.mem_of_mem_drop he))
  have hl2 : ((es.take h).drop l).length = h - l := by simp; omega
  have hwt : ∀ e ∈ es.take h, e.cells.length = k := fun e he => hw e (List.mem_of_mem_take he)
  have hcells : ∀ (i : Nat) (av : AV), (flat ((es.take h).drop l))[i]? = some av → Rep0 F w (f (l * k + i)) av := fun i av e1 => by
    rw [flat_drop hwt, flat_take hw, List.getElem?_drop, List.getElem?_take] at e1
    split at e1
    · exact hc _ _ e1
    · cases e1
  cases vol
  · exact .pure _ _ (.csl _ _ _ _ _ hl2 hw2 (hr2.mono (Agree.refl _ _) (by simp)) hcells)
  · exact .vcsl _ _ _ _ _ hl2 hw2 (hr2.mono (Agree.refl _ _) (by simp)) hcells
theorem Rep.csl_sl {vol : Bool} {k : Nat} {es : List AV} {v : Value} (h : Rep ρ B F w v (.csl vol k es)) : Rep ρ B F w v (.sl vol k es) := by
  obtain ⟨a, f, rfl, hw, hr, hc⟩ := h.csl_inv
  cases vol
  · exact .pure _ _ (.sl _ _ _ _ _ _ rfl hw (hr.mono (Agree.refl _ _) (by simp)) hc)
  · exact .vsl _ _ _ _ _ _ rfl hw (hr.mono (Agree.refl _ _) (by simp)) hc
theorem Rep.nil_sl {vol : Bool} {k : Nat} {v : Value} (h : Rep ρ B F w v .nil) : Rep ρ B F w v (.sl vol k []) := by
  have := h.nil_inv
  subst this
  have hr : ∀ L, RowAt w L none 0 0 (0 * k) (fun _ => undef) := fun L => ⟨Nat.le_refl _, Nat.zero_le _, fun _ => rfl, (fun _ e => by cases e), (fun _ e => by cases e)⟩
  cases vol
  · exact .pure _ _ (.sl _ _ _ _ _ _ rfl (by simp) (hr _) (by simp [flat]))
  · exact .vsl _ _ _ _ _ _ rfl (by simp) (hr _) (by simp [flat])
theorem v_slS_ref {t e : TypeId} {k : Nat} (ht : P.underlying t = some (.slice e)) (hsz : szOf P e = some k) {b l0 n : Nat} {v : Value} (hv : Rep ρ B F w v (.ref b k l0 n)) {lo hi mx : Option Value} {l h m : Nat} (hlo : IsB 0 lo l) (hhi : IsB n hi h) (hmx : mx = none ∨ ∃ kk, mx = some (.int kk m)) (hm0 : mx ≠ none → hi ≠ none) (h1 : l ≤ h) (h2 : h ≤ m) (h3 : m ≤ n) :
    GV P ρ B F w (Instr.sliceAt t v lo hi mx) (.ref b k (l0 + l) (h - l)) := by
  obtain ⟨a, c, p, rfl, hp, hc, hm, hl, hn, ha⟩ := hv.ref_inv
  obtain ⟨m', hm', hmc, hhm⟩ : ∃ m', IsB c mx m' ∧ m' ≤ c ∧ h ≤ m' := by
    rcases hmx with rfl | ⟨kk, rfl⟩
    · exact ⟨c, .inl ⟨rfl, rfl⟩, Nat.le_refl _, by omega⟩
    · exact ⟨m, .inr ⟨kk, rfl⟩, by omega, h2⟩
  refine ⟨_, run_cut ht hsz a n c lo hi mx l h m' hlo hhi hm' hm0 h1 hhm hmc, ?_⟩
  refine .ref _ _ _ _ _ _ p hp (by omega) (by omega) ?_ ?_ ?_
  · refine Nat.le_trans (Nat.mul_le_mul_right _ ?_) hl; omega
  · split
    · omega
    · intro e; have := hn (by simpa using e); omega
  · intro hne
    rw [if_neg (by omega), ha (by omega)]
    simp only [Option.map_some, add_lit]
    congr 2
    rw [Nat.add_mul]; omega
theorem v_slS_nil {t e : TypeId} {k : Nat} (ht : P.underlying t = some (.slice e)) (hsz : szOf P e = some k) {v : Value} (hv : Rep ρ B F w v .nil) {lo hi mx : Option Value} (hlo : IsB 0 lo 0) (hhi : IsB 0 hi 0) (hmx : IsB 0 mx 0) (hm0 : mx ≠ none → hi ≠ none) :
    GV P ρ B F w (Instr.sliceAt t v lo hi mx) .nil := by
  have := hv.nil_inv
  subst this
  exact ⟨_, run_cut ht hsz none 0 0 lo hi mx 0 0 0 hlo hhi hmx hm0 (Nat.le_refl _) (Nat.le_refl _) (Nat.le_refl _), .pure _ _ (by simpa using Rep0.nil)⟩
theorem v_slA {t e : TypeId} {len : Nat} (ht : P.underlying t = some (.array len e)) (hsz : szOf P e = some 1) {b n : Nat} {v : Value} (hv : Rep ρ B F w v (.aptr b n)) (hnl : n = len) {lo hi : Option Value} {l h : Nat} (hlo : IsB 0 lo l) (hhi : IsB len hi h) (h1 : l ≤ h) (h2 : h ≤ len) (hmx : len ≤ maxLen) :
    GV P ρ B F w (Instr.sliceAt t v lo hi none) (.ref b 1 l (h - l)) := by
  obtain ⟨p, hp, hl, rfl⟩ := hv.aptr_inv
  have e : (Instr.sliceAt t (.pointer (some ⟨p.blk, p.off, none⟩)) lo hi none).run P w = .ok (.slice (some (if len = l then ⟨p.blk, p.off, none⟩ else (⟨p.blk, p.off, none⟩ : Addr).add (l * 1))) (h - l) (len - l)) w := by
    simp [Instr.sliceAt, run_underlying ht, Instr.sureAddr, run_bounds (P := P) (w := w) false len len lo hi none l h len hlo hhi (.inl ⟨rfl, rfl⟩) (by simp) h1 h2 (Nat.le_refl _), run_sizeOf' hsz]
  refine ⟨_, e, .ref _ _ _ _ _ _ p hp (by omega) (by omega) (by omega) (by simp) fun hne => ?_⟩
  rw [if_neg (by omega), add_lit]
theorem flat_pureC : ∀ {l : List AV}, (∀ x ∈ l, pureC x = true) → flat l = l
  | [], _ => rfl
  | x :: l, h => by
    have h1 := flat_pureC (l := l) fun y hy => h y (List.mem_cons_of_mem _ hy)
    have h2 := scal_cells (pureC_scal (h x (List.mem_cons_self ..)))
    show x.cells ++ flat l = _
    rw [h1, h2]; rfl
/-- A cut of an array that nobody writes. -/
theorem v_slAc {t e : TypeId} {len : Nat} (ht : P.underlying t = some (.array len e)) (hsz : szOf P e = some 1) {vol : Bool} {cs : List AV} {v : Value} (hv : Rep ρ B F w v (.cptr vol cs)) (hcl : len ≤ cs.length) (hpu : (cs.take len).all pureC = true) {lo hi : Option Value} {l h : Nat} (hlo : IsB 0 lo l) (hhi : IsB len hi h) (h1 : l ≤ h) (h2 : h ≤ len) (hmx : len ≤ maxLen) :
    GV P ρ B F w (Instr.sliceAt t v lo hi none) (.sl vol 1 ((cs.take h).drop l)) := by
  obtain ⟨ad, f, rfl, hsp, hloc, hcell, hrep⟩ := hv.cptr_inv
  have e : (Instr.sliceAt t (.pointer (some ad)) lo hi none).run P w = .ok (.slice (some (if len = l then ad else ad.add (l * 1))) (h - l) (len - l)) w := by
    obtain ⟨blk, off, spot⟩ := ad
    dsimp only at hsp
    subst hsp
    simp [Instr.sliceAt, run_underlying ht, Instr.sureAddr, run_bounds (P := P) (w := w) false len len lo hi none l h len hlo hhi (.inl ⟨rfl, rfl⟩) (by simp) h1 h2 (Nat.le_refl _), run_sizeOf' hsz]
  have hall : ∀ x ∈ (cs.take h).drop l, pureC x = true := fun x hx => by
    rw [List.all_eq_true] at hpu
    refine hpu x ?_
    have hx2 := List.mem_of_mem_drop hx
    rw [show h = min h len by omega, ← List.take_take] at hx2
    exact List.mem_of_mem_take hx2
  have hfl := flat_pureC hall
  have hln : ((cs.take h).drop l).length = h - l := by simp; omega
  have hw : ∀ x ∈ (cs.take h).drop l, x.cells.length = 1 := fun x hx => by rw [scal_cells (pureC_scal (hall x hx))]; rfl
  have hat : ∀ (i : Nat) (av : AV), (flat ((cs.take h).drop l))[i]? = some av → Rep0 F w (f (l + i)) av := fun i av hi => by
    rw [hfl] at hi
    have hp := hall av (List.mem_of_getElem? hi)
    rw [List.getElem?_drop, List.getElem?_take] at hi
    split at hi
    · exact (hrep _ av hi).pureC hp
    · cases hi
  have hra : ∀ L : Nat → Prop, L ad.block → RowAt w L (some (if len = l then ad else ad.add (l * 1))) (h - l) (len - l) ((h - l) * 1) (fun i => f (l + i)) := fun L hL => by
    refine ⟨by omega, by omega, (fun q => by cases q), fun a q _ => ?_, fun a q i hi => ?_⟩
    · cases q; split
      · exact hL
      · rw [add_block]; exact hL
    · cases q
      rw [if_neg (by omega), add_add, Nat.mul_one]
      exact hcell _ (by omega)
  refine ⟨_, e, ?_⟩
  cases vol
  · refine .pure _ _ (.sl _ _ _ _ _ _ hln hw (hra _ ?_) hat)
    rcases hloc with ⟨q, _⟩ | q
    · cases q
    · exact q
  · exact .vsl _ _ _ _ _ _ hln hw (hra _ (hloc.imp (·.2) (fun q => q))) hat
theorem v_slT {t : TypeId} (ht : P.underlying t = some .string) {s : List UInt8} {v : Value} (hv : Rep ρ B F w v (.str s)) {lo hi : Option Value} {l h : Nat} (hlo : IsB 0 lo l) (hhi : IsB s.length hi h) (h1 : l ≤ h) (h2 : h ≤ s.length) :
    GV P ρ B F w (Instr.sliceAt t v lo hi none) (.str ((s.take h).drop l)) := by
  obtain ⟨bs, rfl, hs⟩ := hv.str_inv
  have hz := str_size hs
  have e : (Instr.sliceAt t (.string bs) lo hi none).run P w = .ok (.string (bs.extract l h)) w := by
    simp [Instr.sliceAt, run_underlying ht, Instr.slice, run_bounds (P := P) (w := w) false bs.size bs.size lo hi none l h bs.size hlo (hz ▸ hhi) (.inl ⟨rfl, rfl⟩) (by simp) h1 (by omega) (Nat.le_refl _)]
  refine ⟨_, e, rep_str _ _ ?_⟩
  rw [ByteArray.data_extract, Array.toList_extract, hs, List.extract_eq_take_drop, List.drop_take]
end
end Go.Proofs.Ytiejnmbpejfpgaa
