/- That the operations on abstract values are the program's: those that give a value and change no memory. -/
import Derived.Test.YtjacmhaeemhinaaAx4
import Derived.Laws.BytesString
import Derived.Laws.CopyRow
namespace Go.Proofs.Ytjacmhaeemhinaa
open Go.RowKit
set_option linter.unusedVariables false

/-- The steps s give a value that av stands for, and change nothing. -/
def GV (P : Program) (ρ : Env) (B : Nat → Prop) (F : Nat → Prop) (w : World) (s : Sem Value) (av : AV) : Prop := ∃ v, s.run P w = .ok v w ∧ Rep ρ B F w v av

section
variable {P : Program} {ρ : Env} {B : Nat → Prop} {F : Nat → Prop} {w : World}

theorem GV.ret {v : Value} {av : AV} (h : Rep ρ B F w v av) : GV P ρ B F w (pure v) av := ⟨v, rfl, h⟩
theorem Rep.val {v : Value} {av : AV} (h : Rep ρ B F w v av) (hc : av.cond) : Rep ρ B F w v av.val := by
  cases av <;> first | exact h | exact h.cnd_inv hc
theorem rep_int (k : IntKind) (n : Int) : Rep ρ B F w (.int k n) (.int k n) := .pure _ _ (.int k n)
theorem rep_bool (b : Bool) : Rep ρ B F w (.bool b) (.bool b) := .pure _ _ (.bool b)
theorem rep_str (s : ByteArray) (l : List UInt8) (h : s.data.toList = l) : Rep ρ B F w (.string s) (.str l) := .pure _ _ (.str s l h)

/-- A cut of cells. -/
theorem rep_agg_cut {cs : Array Value} {l : List AV} (hl : cs.size = l.length) (h : ∀ (i : Nat) (u : Value) (av : AV), cs[i]? = some u → l[i]? = some av → Rep ρ B F w u av) (off n : Nat) (hn : off + n ≤ l.length) : Rep ρ B F w (.agg (cs.extract off (off + n))) (.agg ((l.drop off).take n)) := by
  refine .agg _ _ (by simp; omega) fun i u av e1 e2 => ?_
  rw [List.getElem?_take] at e2
  split at e2
  · rename_i hi
    rw [List.getElem?_drop] at e2
    rw [Array.getElem?_extract] at e1
    split at e1
    · exact h (off + i) u av e1 e2
    · cases e1
  · cases e2
theorem run_part {t : TypeId} {agg : Bool} {n off : Nat} (hagg : aggOf P t = some agg) (hsz : szOf P t = some n) {cs : Array Value} {l : List AV} (hl : cs.size = l.length) (h : ∀ (i : Nat) (u : Value) (av : AV), cs[i]? = some u → l[i]? = some av → Rep ρ B F w u av) (hn : off + n ≤ l.length) (h1 : agg = false → n = 1) :
    GV P ρ B F w (part t cs off) (if agg then .agg ((l.drop off).take n) else (l[off]?.getD .any)) := by
  unfold part GV
  simp only [Sem.run_bind, run_isAgg' hagg, Result.andThen_ok]
  cases agg
  · have := h1 rfl
    subst this
    have e1 : cs[off]? = some (cs[off]'(by omega)) := Array.getElem?_eq_getElem (by omega)
    have e2 : l[off]? = some (l[off]'(by omega)) := List.getElem?_eq_getElem (by omega)
    simp only [Bool.false_eq_true, if_false, e1, e2, Option.getD_some]
    exact ⟨_, rfl, h off _ _ e1 e2⟩
  · simp only [if_true, Sem.run_bind, run_sizeOf' hsz, Result.andThen_ok]
    exact ⟨_, rfl, rep_agg_cut hl h off n hn⟩

theorem v_fld {t : TypeId} {fields : Array Field} {i n : Nat} {agg : Bool} {f : Field} (ht : P.underlying t = some (.struct fields)) (hf : fields[i]? = some f) (hagg : aggOf P f.type = some agg) (hsz : szOf P f.type = some n) {v : Value} {l : List AV} (h : Rep ρ B F w v (.agg l)) (hn : f.offset + n ≤ l.length) (h1 : agg = false → n = 1) :
    GV P ρ B F w (Instr.field t v i) (if agg then .agg ((l.drop f.offset).take n) else (l[f.offset]?.getD .any)) := by
  obtain ⟨cs, rfl, hl, hc⟩ := h.agg_inv
  have := run_part (P := P) (off := f.offset) hagg hsz hl hc hn h1
  unfold GV at *
  simpa [Instr.field, run_underlying ht, hf, asAgg] using this
theorem v_idxA {t e : TypeId} {len k : Nat} {agg : Bool} (ht : P.underlying t = some (.array len e)) (hagg : aggOf P e = some agg) (hsz : szOf P e = some k) {v : Value} {l : List AV} (h : Rep ρ B F w v (.agg l)) {ik : IntKind} {j : Int} (h0 : 0 ≤ j) (hj : j < len) (hl2 : len * k ≤ l.length) (h1 : agg = false → k = 1) :
    GV P ρ B F w (Instr.index t v (.int ik j)) (if agg then .agg ((l.drop (j.toNat * k)).take k) else (l[j.toNat]?.getD .any)) := by
  obtain ⟨cs, rfl, hl, hc⟩ := h.agg_inv
  have hjn : j.toNat < len := by omega
  have hfit : j.toNat * k + k ≤ l.length := by
    have : (j.toNat + 1) * k ≤ len * k := Nat.mul_le_mul_right k hjn
    rw [Nat.add_mul] at this; omega
  have := run_part (P := P) (off := j.toNat * k) hagg hsz hl hc hfit h1
  unfold GV at *
  have e : (Instr.index t (.agg cs) (.int ik j)).run P w = (part e cs (j.toNat * k)).run P w := by
    simp [Instr.index, run_underlying ht, asIntOf, h0, hj, run_sizeOf' hsz]
  rw [e]
  cases agg
  · have hk := h1 rfl
    subst hk
    simpa using this
  · exact this
theorem str_size {bs : ByteArray} {s : List UInt8} (hs : bs.data.toList = s) : bs.size = s.length := by subst hs; exact (Array.length_toList).symm
theorem str_get {bs : ByteArray} {s : List UInt8} (hs : bs.data.toList = s) (j : Nat) (hj : j < bs.size) : s[j]? = some (bs[j]'hj) := by
  subst hs
  rw [Array.getElem?_toList]
  exact Array.getElem?_eq_getElem hj
theorem v_idxT {t : TypeId} (ht : P.underlying t = some .string) {v : Value} {s : List UInt8} (h : Rep ρ B F w v (.str s)) {ik : IntKind} {j : Int} (h0 : 0 ≤ j) (hj : j < s.length) :
    GV P ρ B F w (Instr.index t v (.int ik j)) (.int .u8 (s[j.toNat]?.getD 0).toNat) := by
  obtain ⟨bs, rfl, hs⟩ := h.str_inv
  have hsz := str_size hs
  have hr := run_index_string (P := P) w t bs ik j ht
  rw [dif_pos ⟨h0, by omega⟩] at hr
  refine ⟨_, hr, ?_⟩
  rw [str_get hs j.toNat (by omega)]
  exact rep_int _ _
theorem v_ext {v : Value} {l : List AV} {i : Nat} (h : Rep ρ B F w v (.tup l)) (hi : i < l.length) : GV P ρ B F w (Instr.extract v i) (l[i]?.getD .any) := by
  obtain ⟨cs, rfl, hl, hc⟩ := h.tup_inv
  have e1 : cs[i]? = some (cs[i]'(by omega)) := Array.getElem?_eq_getElem (by omega)
  have e2 : l[i]? = some (l[i]'(by omega)) := List.getElem?_eq_getElem (by omega)
  refine ⟨_, ?_, by rw [e2]; exact hc i _ _ e1 e2⟩
  simp [Instr.extract, e1]

/-! ### Cuts -/
/-- A bound that is given, or not. -/
def IsB (d : Nat) (x : Option Value) (n : Nat) : Prop := (x = none ∧ n = d) ∨ ∃ k, x = some (.int k n)
theorem run_bounds (b : Bool) (n c : Nat) (lo hi mx : Option Value) (l h m : Nat) (hlo : IsB 0 lo l) (hhi : IsB n hi h) (hmx : IsB c mx m) (hm0 : mx ≠ none → hi ≠ none) (h1 : l ≤ h) (h2 : h ≤ m) (h3 : m ≤ c) :
    (Instr.sliceBounds b n c lo hi mx).run P w = .ok (l, h, m) w := by
  have q1 : (l : Int) ≤ h := by omega
  have q2 : (h : Int) ≤ m := by omega
  have q3 : (m : Int) ≤ c := by omega
  have q4 : (h : Int) ≤ c := by omega
  have q5 : ∀ x : Nat, (0 : Int) ≤ x := fun x => Int.natCast_nonneg x
  unfold Instr.sliceBounds
  rcases hlo with ⟨rfl, rfl⟩ | ⟨k1, rfl⟩ <;> rcases hhi with ⟨rfl, rfl⟩ | ⟨k2, rfl⟩ <;> rcases hmx with ⟨rfl, rfl⟩ | ⟨k3, rfl⟩
  all_goals first
    | (simp [run_sliceBound, *]; done)
    | exact absurd rfl (hm0 (by simp))
theorem run_cut {t e : TypeId} {k : Nat} (ht : P.underlying t = some (.slice e)) (hsz : szOf P e = some k) (a : Option Addr) (n c : Nat) (lo hi mx : Option Value) (l h m : Nat) (hlo : IsB 0 lo l) (hhi : IsB n hi h) (hmx : IsB c mx m) (hm0 : mx ≠ none → hi ≠ none) (h1 : l ≤ h) (h2 : h ≤ m) (h3 : m ≤ c) :
    (Instr.sliceAt t (.slice a n c) lo hi mx).run P w = .ok (.slice (if m = l then a else a.map (·.add (l * k))) (h - l) (m - l)) w := by
  simp [Instr.sliceAt, run_underlying ht, Instr.slice, run_bounds (P := P) (w := w) true n c lo hi mx l h m hlo hhi hmx hm0 h1 h2 h3, run_sizeOf' hsz]

theorem width_flat {es : List AV} {k : Nat} (hw : ∀ e ∈ es, e.cells.length = k) : (flat es).length = es.length * k := by
  induction es with
  | nil => simp [flat]
  | cons e es ih =>
    have := ih (fun x hx => hw x (List.mem_cons_of_mem _ hx))
    simp only [flat, List.flatMap_cons, List.length_append] at this ⊢
    rw [this, hw e (List.mem_cons_self ..), List.length_cons, Nat.add_mul]; omega
theorem flat_drop {es : List AV} {k : Nat} (hw : ∀ e ∈ es, e.cells.length = k) (l : Nat) : flat (es.drop l) = (flat es).drop (l * k) := by
  induction es generalizing l with
  | nil => simp [flat]
  | cons e es ih =>
    cases l with
    | zero => simp
    | succ l =>
      have h1 := hw e (List.mem_cons_self ..)
      have := ih (fun x hx => hw x (List.mem_cons_of_mem _ hx)) l
      simp only [List.drop_succ_cons, this]
      simp only [flat, List.flatMap_cons]
      have h2 : (l + 1) * k - e.cells.length = l * k := by rw [h1, Nat.add_mul]; omega
      rw [List.drop_append, h2, List.drop_eq_nil_of_le (as := e.cells) (by rw [h1, Nat.add_mul]; omega), List.nil_append]
theorem flat_take {es : List AV} {k : Nat} (hw : ∀ e ∈ es, e.cells.length = k) (l : Nat) : flat (es.take l) = (flat es).take (l * k) := by
  induction es generalizing l with
  | nil => simp [flat]
  | cons e es ih =>
    cases l with
    | zero => simp [flat]
    | succ l =>
      have h1 := hw e (List.mem_cons_self ..)
      have := ih (fun x hx => hw x (List.mem_cons_of_mem _ hx)) l
      simp only [List.take_succ_cons]
      simp only [flat, List.flatMap_cons] at this ⊢
      rw [this, List.take_append, h1, Nat.add_mul, Nat.one_mul, Nat.add_sub_cancel, List.take_of_length_le (l := e.cells) (by omega)]
theorem flat_get {es : List AV} {k : Nat} (hw : ∀ e ∈ es, e.cells.length = k) {j : Nat} {e : AV} (he : es[j]? = some e) {i : Nat} (hi : i < k) : (flat es)[j * k + i]? = e.cells[i]? := by
  have h1 := flat_drop hw j
  have h2 : es.drop j = e :: es.drop (j + 1) := by
    obtain ⟨hj, rfl⟩ := List.getElem?_eq_some_iff.1 he
    exact List.drop_eq_getElem_cons hj
  have h3 : ((flat es).drop (j * k))[i]? = (flat es)[j * k + i]? := by rw [List.getElem?_drop]
  rw [← h3, ← h1, h2]
  simp only [flat, List.flatMap_cons]
  rw [List.getElem?_append_left (by rw [hw e (List.mem_of_getElem? he)]; exact hi)]
theorem flat_append (a b : List AV) : flat (a ++ b) = flat a ++ flat b := by simp [flat]
theorem add_add (ad : Addr) (i j : Nat) : (ad.add i).add j = ad.add (i + j) := by
  unfold Addr.add
  by_cases h1 : i = 0 <;> by_cases h2 : j = 0 <;> simp [h1, h2, Nat.add_assoc]
theorem add_zero' (ad : Addr) : ad.add 0 = ad := by simp [Addr.add]
theorem add_lit (g o i : Nat) : (⟨g, o, none⟩ : Addr).add i = ⟨g, o + i, none⟩ := by unfold Addr.add; split <;> simp_all
theorem cell_spot {w : World} {ad : Addr} {u : Value} (h : w.cell? ad = some u) : ad.spot = none := by
  unfold World.cell? at h
  split at h
  · split at h
    · cases h
    · rename_i hs; simpa using hs
  · cases h

/-- A cut of a row that nobody writes. -/
theorem rowAt_cut {L : Nat → Prop} {a : Option Addr} {n c k : Nat} {f : Nat → Value} (h : RowAt w L a n c (n * k) f) {l hh m : Nat} (h1 : l ≤ hh) (h2 : hh ≤ m) (h3 : m ≤ c) (h4 : hh ≤ n) :
    RowAt w L (if m = l then a else a.map (·.add (l * k))) (hh - l) (m - l) ((hh - l) * k) (fun i => f (l * k + i)) := by
  have hc := h.cap
  have hfit : 0 < (hh - l) * k → l * k + (hh - l) * k ≤ n * k := fun _ => by rw [← Nat.add_mul]; exact Nat.mul_le_mul_right _ (by omega)
  refine ⟨by omega, by have := h.max; omega, ?_, fun ad e hm => ?_, fun ad e i hi => ?_⟩
  · split
    · omega
    · intro e; have := h.nil (by simpa using e); omega
  · have := hfit hm
    split at e
    · exfalso; rename_i he; subst he; rw [Nat.le_antisymm h2 h1] at hm; simp at hm
    · cases a with
      | none => simp at e
      | some ad0 => simp at e; subst e; rw [add_block]; exact h.loc ad0 rfl (by omega)
  · have := hfit (by omega)
    split at e
    · exfalso; rename_i he; subst he; rw [Nat.le_antisymm h2 h1] at hi; simp at hi
    · cases a with
      | none => simp at e
      | some ad0 =>
        simp at e; subst e
        rw [add_add]
        exact h.cell ad0 rfl (l * k + i) (by omega)

theorem v_slS_sl {t e : TypeId} {k : Nat} (ht : P.underlying t = some (.slice e)) (hsz : szOf P e = some k) {vol : Bool} {es : List AV} {v : Value} (hv : Rep ρ B F w v (.sl vol k es)) {lo hi : Option Value} {l h : Nat} (hlo : IsB 0 lo l) (hhi : IsB es.length hi h) (h1 : l ≤ h) (h2 : h ≤ es.length) :
    GV P ρ B F w (Instr.sliceAt t v lo hi none) (.sl vol k ((es.take h).drop l)) := by
  obtain ⟨a, c, f, rfl, hw, hr, hc⟩ := hv.sl_inv
  have hcc := hr.cap
  refine ⟨_, run_cut ht hsz a es.length c lo hi none l h c hlo hhi (.inl ⟨rfl, rfl⟩) (by simp) h1 (by omega) (Nat.le_refl _), ?_⟩
  have hr2 := rowAt_cut hr h1 (show h ≤ c by omega) (Nat.le_refl _) h2
  have hw2 : ∀ e ∈ (es.take h).drop l, e.cells.length = k := fun e he => hw e (List.mem_of_mem_take (List.mem_of_mem_drop he))
  have hl2 : ((es.take h).drop l).length = h - l := by simp; omega
  have hwt : ∀ e ∈ es.take h, e.cells.length = k := fun e he => hw e (List.mem_of_mem_take he)
  have hcells : ∀ (i : Nat) (av : AV), (flat ((es.take h).drop l))[i]? = some av → Rep0 F w (f (l * k + i)) av := fun i av e1 => by
    rw [flat_drop hwt, flat_take hw, List.getElem?_drop, List.getElem?_take] at e1
    split at e1
    · exact hc _ _ e1
    · cases e1
  cases vol
  · exact .pure _ _ (.sl _ _ _ _ _ _ hl2 hw2 (hr2.mono (Agree.refl _ _) (by simp)) hcells)
  · exact .vsl _ _ _ _ _ _ hl2 hw2 (hr2.mono (Agree.refl _ _) (by simp)) hcells
theorem v_slS_clip {t e : TypeId} {k : Nat} (ht : P.underlying t = some (.slice e)) (hsz : szOf P e = some k) {vol : Bool} {es : List AV} {v : Value} (hv : Rep ρ B F w v (.sl vol k es)) {lo hi mx : Option Value} {l h : Nat} (hlo : IsB 0 lo l) (hhi : IsB es.length hi h) (hmx : ∃ kk, mx = some (.int kk h)) (hm0 : hi ≠ none) (h1 : l ≤ h) (h2 : h ≤ es.length) :
    GV P ρ B F w (Instr.sliceAt t v lo hi mx) (.csl vol k ((es.take h).drop l)) := by
  obtain ⟨a, c, f, rfl, hw, hr, hc⟩ := hv.sl_inv
  have hcc := hr.cap
  refine ⟨_, run_cut ht hsz a es.length c lo hi mx l h h hlo hhi (.inr hmx) (fun _ => hm0) h1 (Nat.le_refl _) (by omega), ?_⟩
  have hr2 := rowAt_cut hr h1 (Nat.le_refl h) (by omega) h2
  have hw2 : ∀ e ∈ (es.take h).drop l, e.cells.length = k := fun e he => hw e (List.mem_of_mem_take (List.mem_of_mem_drop he))
  have hl2 : ((es.take h).drop l).length = h - l := by simp; omega
  have hwt : ∀ e ∈ es.take h, e.cells.length = k := fun e he => hw e (List.mem_of_mem_take he)
  have hcells : ∀ (i : Nat) (av : AV), (flat ((es.take h).drop l))[i]? = some av → Rep0 F w (f (l * k + i)) av := fun i av e1 => by
    rw [flat_drop hwt, flat_take hw, List.getElem?_drop, List.getElem?_take] at e1
    split at e1
    · exact hc _ _ e1
    · cases e1
  cases vol
  · exact .pure _ _ (.csl _ _ _ _ _ hl2 hw2 (hr2.mono (Agree.refl _ _) (by simp)) hcells)
  · exact .vcsl _ _ _ _ _ hl2 hw2 (hr2.mono (Agree.refl _ _) (by simp)) hcells
theorem Rep.csl_sl {vol : Bool} {k : Nat} {es : List AV} {v : Value} (h : Rep ρ B F w v (.csl vol k es)) : Rep ρ B F w v (.sl vol k es) := by
  obtain ⟨a, f, rfl, hw, hr, hc⟩ := h.csl_inv
  cases vol
  · exact .pure _ _ (.sl _ _ _ _ _ _ rfl hw (hr.mono (Agree.refl _ _) (by simp)) hc)
  · exact .vsl _ _ _ _ _ _ rfl hw (hr.mono (Agree.refl _ _) (by simp)) hc
theorem Rep.nil_sl {vol : Bool} {k : Nat} {v : Value} (h : Rep ρ B F w v .nil) : Rep ρ B F w v (.sl vol k []) := by
  have := h.nil_inv
  subst this
  have hr : ∀ L, RowAt w L none 0 0 (0 * k) (fun _ => undef) := fun L => ⟨Nat.le_refl _, Nat.zero_le _, fun _ => rfl, (fun _ e => by cases e), (fun _ e => by cases e)⟩
  cases vol
  · exact .pure _ _ (.sl _ _ _ _ _ _ rfl (by simp) (hr _) (by simp [flat]))
  · exact .vsl _ _ _ _ _ _ rfl (by simp) (hr _) (by simp [flat])
theorem v_slS_ref {t e : TypeId} {k : Nat} (ht : P.underlying t = some (.slice e)) (hsz : szOf P e = some k) {b l0 n : Nat} {v : Value} (hv : Rep ρ B F w v (.ref b k l0 n)) {lo hi mx : Option Value} {l h m : Nat} (hlo : IsB 0 lo l) (hhi : IsB n hi h) (hmx : mx = none ∨ ∃ kk, mx = some (.int kk m)) (hm0 : mx ≠ none → hi ≠ none) (h1 : l ≤ h) (h2 : h ≤ m) (h3 : m ≤ n) :
    GV P ρ B F w (Instr.sliceAt t v lo hi mx) (.ref b k (l0 + l) (h - l)) := by
  obtain ⟨a, c, p, rfl, hp, hc, hm, hl, hn, ha⟩ := hv.ref_inv
  obtain ⟨m', hm', hmc, hhm⟩ : ∃ m', IsB c mx m' ∧ m' ≤ c ∧ h ≤ m' := by
    rcases hmx with rfl | ⟨kk, rfl⟩
    · exact ⟨c, .inl ⟨rfl, rfl⟩, Nat.le_refl _, by omega⟩
    · exact ⟨m, .inr ⟨kk, rfl⟩, by omega, h2⟩
  refine ⟨_, run_cut ht hsz a n c lo hi mx l h m' hlo hhi hm' hm0 h1 hhm hmc, ?_⟩
  refine .ref _ _ _ _ _ _ p hp (by omega) (by omega) ?_ ?_ ?_
  · refine Nat.le_trans (Nat.mul_le_mul_right _ ?_) hl; omega
  · split
    · omega
    · intro e; have := hn (by simpa using e); omega
  · intro hne
    rw [if_neg (by omega), ha (by omega)]
    simp only [Option.map_some, add_lit]
    congr 2
    rw [Nat.add_mul]; omega
theorem v_slS_nil {t e : TypeId} {k : Nat} (ht : P.underlying t = some (.slice e)) (hsz : szOf P e = some k) {v : Value} (hv : Rep ρ B F w v .nil) {lo hi mx : Option Value} (hlo : IsB 0 lo 0) (hhi : IsB 0 hi 0) (hmx : IsB 0 mx 0) (hm0 : mx ≠ none → hi ≠ none) :
    GV P ρ B F w (Instr.sliceAt t v lo hi mx) .nil := by
  have := hv.nil_inv
  subst this
  exact ⟨_, run_cut ht hsz none 0 0 lo hi mx 0 0 0 hlo hhi hmx hm0 (Nat.le_refl _) (Nat.le_refl _) (Nat.le_refl _), .pure _ _ (by simpa using Rep0.nil)⟩
theorem v_slA {t e : TypeId} {len : Nat} (ht : P.underlying t = some (.array len e)) (hsz : szOf P e = some 1) {b n : Nat} {v : Value} (hv : Rep ρ B F w v (.aptr b n)) (hnl : n = len) {lo hi : Option Value} {l h : Nat} (hlo : IsB 0 lo l) (hhi : IsB len hi h) (h1 : l ≤ h) (h2 : h ≤ len) (hmx : len ≤ maxLen) :
    GV P ρ B F w (Instr.sliceAt t v lo hi none) (.ref b 1 l (h - l)) := by
  obtain ⟨p, hp, hl, rfl⟩ := hv.aptr_inv
  have e : (Instr.sliceAt t (.pointer (some ⟨p.blk, p.off, none⟩)) lo hi none).run P w = .ok (.slice (some (if len = l then ⟨p.blk, p.off, none⟩ else (⟨p.blk, p.off, none⟩ : Addr).add (l * 1))) (h - l) (len - l)) w := by
    simp [Instr.sliceAt, run_underlying ht, Instr.sureAddr, run_bounds (P := P) (w := w) false len len lo hi none l h len hlo hhi (.inl ⟨rfl, rfl⟩) (by simp) h1 h2 (Nat.le_refl _), run_sizeOf' hsz]
  refine ⟨_, e, .ref _ _ _ _ _ _ p hp (by omega) (by omega) (by omega) (by simp) fun hne => ?_⟩
  rw [if_neg (by omega), add_lit]
theorem flat_pureC : ∀ {l : List AV}, (∀ x ∈ l, pureC x = true) → flat l = l
  | [], _ => rfl
  | x :: l, h => by
    have h1 := flat_pureC (l := l) fun y hy => h y (List.mem_cons_of_mem _ hy)
    have h2 := scal_cells (pureC_scal (h x (List.mem_cons_self ..)))
    show x.cells ++ flat l = _
    rw [h1, h2]; rfl
/-- A cut of an array that nobody writes. -/
theorem v_slAc {t e : TypeId} {len : Nat} (ht : P.underlying t = some (.array len e)) (hsz : szOf P e = some 1) {vol : Bool} {cs : List AV} {v : Value} (hv : Rep ρ B F w v (.cptr vol cs)) (hcl : len ≤ cs.length) (hpu : (cs.take len).all pureC = true) {lo hi : Option Value} {l h : Nat} (hlo : IsB 0 lo l) (hhi : IsB len hi h) (h1 : l ≤ h) (h2 : h ≤ len) (hmx : len ≤ maxLen) :
    GV P ρ B F w (Instr.sliceAt t v lo hi none) (.sl vol 1 ((cs.take h).drop l)) := by
  obtain ⟨ad, f, rfl, hsp, hloc, hcell, hrep⟩ := hv.cptr_inv
  have e : (Instr.sliceAt t (.pointer (some ad)) lo hi none).run P w = .ok (.slice (some (if len = l then ad else ad.add (l * 1))) (h - l) (len - l)) w := by
    obtain ⟨blk, off, spot⟩ := ad
    dsimp only at hsp
    subst hsp
    simp [Instr.sliceAt, run_underlying ht, Instr.sureAddr, run_bounds (P := P) (w := w) false len len lo hi none l h len hlo hhi (.inl ⟨rfl, rfl⟩) (by simp) h1 h2 (Nat.le_refl _), run_sizeOf' hsz]
  have hall : ∀ x ∈ (cs.take h).drop l, pureC x = true := fun x hx => by
    rw [List.all_eq_true] at hpu
    refine hpu x ?_
    have hx2 := List.mem_of_mem_drop hx
    rw [show h = min h len by omega, ← List.take_take] at hx2
    exact List.mem_of_mem_take hx2
  have hfl := flat_pureC hall
  have hln : ((cs.take h).drop l).length = h - l := by simp; omega
  have hw : ∀ x ∈ (cs.take h).drop l, x.cells.length = 1 := fun x hx => by rw [scal_cells (pureC_scal (hall x hx))]; rfl
  have hat : ∀ (i : Nat) (av : AV), (flat ((cs.take h).drop l))[i]? = some av → Rep0 F w (f (l + i)) av := fun i av hi => by
    rw [hfl] at hi
    have hp := hall av (List.mem_of_getElem? hi)
    rw [List.getElem?_drop, List.getElem?_take] at hi
    split at hi
    · exact (hrep _ av hi).pureC hp
    · cases hi
  have hra : ∀ L : Nat → Prop, L ad.block → RowAt w L (some (if len = l then ad else ad.add (l * 1))) (h - l) (len - l) ((h - l) * 1) (fun i => f (l + i)) := fun L hL => by
    refine ⟨by omega, by omega, (fun q => by cases q), fun a q _ => ?_, fun a q i hi => ?_⟩
    · cases q; split
      · exact hL
      · rw [add_block]; exact hL
    · cases q
      rw [if_neg (by omega), add_add, Nat.mul_one]
      exact hcell _ (by omega)
  refine ⟨_, e, ?_⟩
  cases vol
  · refine .pure _ _ (.sl _ _ _ _ _ _ hln hw (hra _ ?_) hat)
    rcases hloc with ⟨q, _⟩ | q
    · cases q
    · exact q
  · exact .vsl _ _ _ _ _ _ hln hw (hra _ (hloc.imp (·.2) (fun q => q))) hat
theorem v_slT {t : TypeId} (ht : P.underlying t = some .string) {s : List UInt8} {v : Value} (hv : Rep ρ B F w v (.str s)) {lo hi : Option Value} {l h : Nat} (hlo : IsB 0 lo l) (hhi : IsB s.length hi h) (h1 : l ≤ h) (h2 : h ≤ s.length) :
    GV P ρ B F w (Instr.sliceAt t v lo hi none) (.str ((s.take h).drop l)) := by
  obtain ⟨bs, rfl, hs⟩ := hv.str_inv
  have hz := str_size hs
  have e : (Instr.sliceAt t (.string bs) lo hi none).run P w = .ok (.string (bs.extract l h)) w := by
    simp [Instr.sliceAt, run_underlying ht, Instr.slice, run_bounds (P := P) (w := w) false bs.size bs.size lo hi none l h bs.size hlo (hz ▸ hhi) (.inl ⟨rfl, rfl⟩) (by simp) h1 (by omega) (Nat.le_refl _)]
  refine ⟨_, e, rep_str _ _ ?_⟩
  rw [ByteArray.data_extract, Array.toList_extract, hs, List.extract_eq_take_drop, List.drop_take]
end
end Go.Proofs.Ytjacmhaeemhinaa

namespace Go.Proofs.Ytjacmhaeemhinaa
open Go.RowKit
set_option linter.unusedVariables false

section
variable {P : Program} {ρ : Env} {B : Nat → Prop} {F : Nat → Prop} {w : World}

theorem cptr_cut {vol : Bool} {ad : Addr} {f : Nat → Value} (hsp : ad.spot = none) (hloc : (vol = true ∧ B ad.block) ∨ F ad.block) (off : Nat) (cs' : List AV)
    (hcell : ∀ i, i < cs'.length → w.cell? (ad.add (off + i)) = some (f (off + i))) (h : ∀ (i : Nat) (av : AV), cs'[i]? = some av → Rep ρ B F w (f (off + i)) av) : Rep ρ B F w (.pointer (some (ad.add off))) (.cptr vol cs') := by
  refine .cptr vol (ad.add off) cs' (fun i => f (off + i)) ?_ (by rw [add_block]; exact hloc) (fun i hi => by rw [add_add]; exact hcell i hi) h
  unfold Addr.add; split
  · exact hsp
  · rfl

theorem run_fieldAt {s : TypeId} {fields : Array Field} {i n : Nat} {f : Field} (ht : P.underlying s = some (.struct fields)) (hf : fields[i]? = some f) (hsz : szOf P f.type = some n) (hn : n ≠ 0) (ad : Addr) :
    (Instr.fieldAt s (.pointer (some ad)) i).run P w = .ok (.pointer (some (ad.add f.offset))) w := by
  simp [Instr.fieldAt, run_underlying ht, hf, Instr.sureAddr, fieldPlace, run_sizeOf' hsz, hn]
theorem v_fadr_b {s : TypeId} {fields : Array Field} {i n : Nat} {f : Field} (ht : P.underlying s = some (.struct fields)) (hf : fields[i]? = some f) (hsz : szOf P f.type = some n) (hn : n ≠ 0) {v : Value} {b o : Nat} (h : Rep ρ B F w v (.bptr b o)) : GV P ρ B F w (Instr.fieldAt s v i) (.bptr b (o + f.offset)) := by
  obtain ⟨g, hg, rfl⟩ := h.bptr_inv
  exact ⟨_, run_fieldAt ht hf hsz hn _, by rw [add_lit]; exact .bptr _ _ _ hg⟩
theorem v_fadr_r {s : TypeId} {fields : Array Field} {i n : Nat} {f : Field} (ht : P.underlying s = some (.struct fields)) (hf : fields[i]? = some f) (hsz : szOf P f.type = some n) (hn : n ≠ 0) {v : Value} {b k j o : Nat} (h : Rep ρ B F w v (.rptr b k j o)) : GV P ρ B F w (Instr.fieldAt s v i) (.rptr b k j (o + f.offset)) := by
  obtain ⟨p, hp, rfl⟩ := h.rptr_inv
  refine ⟨_, run_fieldAt ht hf hsz hn _, ?_⟩
  rw [add_lit, show p.off + (j * k + o) + f.offset = p.off + (j * k + (o + f.offset)) by omega]
  exact .rptr _ _ _ _ _ hp
theorem v_fadr_c {s : TypeId} {fields : Array Field} {i n : Nat} {f : Field} (ht : P.underlying s = some (.struct fields)) (hf : fields[i]? = some f) (hsz : szOf P f.type = some n) (hn : n ≠ 0) {v : Value} {vol : Bool} {cs : List AV} (h : Rep ρ B F w v (.cptr vol cs)) : GV P ρ B F w (Instr.fieldAt s v i) (.cptr vol (cs.drop f.offset)) := by
  obtain ⟨ad, g, rfl, hsp, hloc, hcell, hr⟩ := h.cptr_inv
  refine ⟨_, run_fieldAt ht hf hsz hn _, cptr_cut (f := g) hsp hloc _ _ (fun i hi => hcell _ (by simp at hi; omega)) fun i av e => hr _ _ (by rw [List.getElem?_drop] at e; exact e)⟩

theorem run_iadS {t e : TypeId} {k : Nat} (ht : P.underlying t = some (.slice e)) (hsz : szOf P e = some k) (ad : Addr) (n c : Nat) (ik : IntKind) {j : Int} (h0 : 0 ≤ j) (hj : j < n) :
    (Instr.indexAt t (.slice (some ad) n c) (.int ik j)).run P w = .ok (.pointer (some (ad.add (j.toNat * k)))) w := by
  simp [Instr.indexAt, asIntOf, run_underlying ht, h0, hj, run_sizeOf' hsz]
theorem v_iadS_ref {t e : TypeId} {k : Nat} (ht : P.underlying t = some (.slice e)) (hsz : szOf P e = some k) {v : Value} {b lo n : Nat} (h : Rep ρ B F w v (.ref b k lo n)) {ik : IntKind} {j : Int} (h0 : 0 ≤ j) (hj : j < n) : GV P ρ B F w (Instr.indexAt t v (.int ik j)) (.rptr b k (lo + j.toNat) 0) := by
  obtain ⟨a, c, p, rfl, hp, hc, hm, hl, hn, ha⟩ := h.ref_inv
  rw [ha (by omega)]
  refine ⟨_, run_iadS ht hsz _ n c ik h0 hj, ?_⟩
  rw [add_lit, show p.off + lo * k + j.toNat * k = p.off + ((lo + j.toNat) * k + 0) by rw [Nat.add_mul]; omega]
  exact .rptr _ _ _ _ _ hp
theorem v_iadS_sl {t e : TypeId} {k : Nat} (ht : P.underlying t = some (.slice e)) (hsz : szOf P e = some k) (hk : 0 < k) {v : Value} {vol : Bool} {es : List AV} (h : Rep ρ B F w v (.sl vol k es)) {ik : IntKind} {j : Int} (h0 : 0 ≤ j) (hj : j < es.length) : GV P ρ B F w (Instr.indexAt t v (.int ik j)) (.cptr vol (es[j.toNat]?.getD .any).cells) := by
  obtain ⟨a, c, f, rfl, hw, hr, hc⟩ := h.sl_inv
  have hjn : j.toNat < es.length := by omega
  have he : es[j.toNat]? = some es[j.toNat] := List.getElem?_eq_getElem hjn
  have hwj := hw _ (List.mem_of_getElem? he)
  have hfit : j.toNat * k + k ≤ es.length * k := by
    have : (j.toNat + 1) * k ≤ es.length * k := Nat.mul_le_mul_right k hjn
    rw [Nat.add_mul] at this; omega
  cases a with
  | none => have := hr.nil rfl; have := hr.cap; omega
  | some ad =>
    refine ⟨_, run_iadS ht hsz ad es.length c ik h0 hj, ?_⟩
    have h00 := hr.cell ad rfl 0 (by omega)
    rw [add_zero'] at h00
    rw [he, Option.getD_some]
    refine cptr_cut (f := f) (cell_spot h00) (hr.loc ad rfl (by omega)) _ _ (fun i hi => hr.cell ad rfl _ (by omega)) fun i av e1 => .pure _ _ (hc _ _ ?_)
    have hi : i < k := by
      have := (List.getElem?_eq_some_iff.1 e1).1; omega
    rw [flat_get hw he hi]; exact e1
theorem v_iadA_b {t e : TypeId} {k len : Nat} (ht : P.underlying t = some (.array len e)) (hsz : szOf P e = some k) {v : Value} {b o : Nat} (h : Rep ρ B F w v (.bptr b o)) {ik : IntKind} {j : Int} (h0 : 0 ≤ j) (hj : j < len) : GV P ρ B F w (Instr.indexAt t v (.int ik j)) (.bptr b (o + j.toNat * k)) := by
  obtain ⟨g, hg, rfl⟩ := h.bptr_inv
  exact ⟨.pointer (some ⟨g, o + j.toNat * k, none⟩), by simp [Instr.indexAt, asIntOf, run_underlying ht, h0, hj, run_sizeOf' hsz, Instr.sureAddr, add_lit], .bptr _ _ _ hg⟩
theorem v_iadA_a {t e : TypeId} {len : Nat} (ht : P.underlying t = some (.array len e)) (hsz : szOf P e = some 1) {v : Value} {b n : Nat} (h : Rep ρ B F w v (.aptr b n)) {ik : IntKind} {j : Int} (h0 : 0 ≤ j) (hj : j < len) : GV P ρ B F w (Instr.indexAt t v (.int ik j)) (.rptr b 1 j.toNat 0) := by
  obtain ⟨p, hp, hl, rfl⟩ := h.aptr_inv
  refine ⟨.pointer (some ⟨p.blk, p.off + j.toNat, none⟩), by simp [Instr.indexAt, asIntOf, run_underlying ht, h0, hj, run_sizeOf' hsz, Instr.sureAddr, add_lit], ?_⟩
  have := Rep.rptr (ρ := ρ) (B := B) (F := F) (w := w) b 1 j.toNat 0 p hp
  simpa using this
theorem v_iadA_c {t e : TypeId} {k len : Nat} (ht : P.underlying t = some (.array len e)) (hsz : szOf P e = some k) {v : Value} {vol : Bool} {cs : List AV} (h : Rep ρ B F w v (.cptr vol cs)) {ik : IntKind} {j : Int} (h0 : 0 ≤ j) (hj : j < len) : GV P ρ B F w (Instr.indexAt t v (.int ik j)) (.cptr vol (cs.drop (j.toNat * k))) := by
  obtain ⟨ad, g, rfl, hsp, hloc, hcell, hr⟩ := h.cptr_inv
  refine ⟨.pointer (some (ad.add (j.toNat * k))), by simp [Instr.indexAt, asIntOf, run_underlying ht, h0, hj, run_sizeOf' hsz, Instr.sureAddr], cptr_cut (f := g) hsp hloc _ _ (fun i hi => hcell _ (by simp at hi; omega)) fun i av e => hr _ _ (by rw [List.getElem?_drop] at e; exact e)⟩

/-! ### Arithmetic -/
theorem v_bin {op : BinOp} {t : TypeId} {xo yo : Operand} {k k' : IntKind} {x y : Int} (hok : (binI op k x k' y).1) :
    GV P ρ B F w (do eqGuard op t xo yo (.int k x) (.int k' y); binOp op t (.int k x) (.int k' y)) (binI op k x k' y).2 := by
  have hg : (eqGuard op t xo yo (.int k x) (.int k' y)).run P w = .ok () w := by cases op <;> rfl
  unfold GV
  simp only [Sem.run_bind, hg, Result.andThen_ok]
  cases op <;> simp only [binI] at hok ⊢
  case shl | shr => exact ⟨_, by simp [binOp, Op.shift, show ¬ y < 0 by omega], rep_int _ _⟩
  case quo | rem => obtain ⟨rfl, h0⟩ := hok; exact ⟨_, by simp [binOp, Op.intDiv, h0], rep_int _ _⟩
  case add | sub | mul => subst hok; exact ⟨_, by simp [binOp, Op.intArith], rep_int _ _⟩
  case and | or | xor | andNot => subst hok; exact ⟨_, by simp [binOp, Op.intBits], rep_int _ _⟩
  all_goals (subst hok; refine ⟨_, by simp [binOp, Op.intCmp]; rfl, ?_⟩)
  case eql => rw [show (x == y) = decide (x = y) from rfl]; exact rep_bool _
  case neq => rw [show (x != y) = decide (x ≠ y) by by_cases h : x = y <;> simp [h]]; exact rep_bool _
  all_goals exact rep_bool _
theorem v_binB {op : BinOp} {t : TypeId} {xo yo : Operand} {ne : Bool} (hop : op = if ne then .neq else .eql) (ht : P.underlying t = some .bool) {x y : Bool} :
    GV P ρ B F w (do eqGuard op t xo yo (.bool x) (.bool y); binOp op t (.bool x) (.bool y)) (.bool (if ne then x != y else x == y)) := by
  subst hop
  have he : (Op.equal t (.bool x) (.bool y)).run P w = .ok (x == y) w := by
    rw [show Op.equal t (.bool x) (.bool y) = Op.equalIn (9999 + 1) t (.bool x) (.bool y) from rfl, Op.equalIn]
    simp [run_underlying ht]
  unfold GV
  cases ne
  · refine ⟨.bool (x == y), ?_, rep_bool _⟩
    simp [eqGuard, binOp, he]
  · refine ⟨.bool (x != y), ?_, rep_bool _⟩
    simp [eqGuard, binOp, he]
    cases x <;> cases y <;> rfl
theorem toList_eq_iff (x y : ByteArray) : (x.toList == y.toList) = decide (x.data.toList = y.data.toList) := by
  have e : ∀ z : ByteArray, z.toList = z.data.toList := fun z => ByteArray.toList_eq z
  rw [e, e, Bool.eq_iff_iff]; simp
theorem v_binT {op : BinOp} {t : TypeId} {xo yo : Operand} {v u : Value} {a b : List UInt8} {r : AV} (hv : Rep ρ B F w v (.str a)) (hu : Rep ρ B F w u (.str b)) (hr : strI op a b = some r) (hl : a.length + b.length ≤ 1000000000) :
    GV P ρ B F w (do eqGuard op t xo yo v u; binOp op t v u) r := by
  obtain ⟨x, rfl, hx⟩ := hv.str_inv
  obtain ⟨y, rfl, hy⟩ := hu.str_inv
  have hsx := str_size hx
  have hsy := str_size hy
  have hmax : IntKind.i64.max = 9223372036854775807 := by decide
  unfold GV
  cases op <;> simp only [strI] at hr <;> first | (cases hr; done) | skip
  case add =>
    cases hr
    refine ⟨.string (x ++ y), ?_, rep_str _ _ (by simp [ByteArray.data_append, hx, hy])⟩
    have : ¬ (((x.size + y.size : Nat) : Int) > IntKind.i64.max) := by rw [hmax]; omega
    have e1 : (eqGuard .add t xo yo (.string x) (.string y)).run P w = .ok () w := rfl
    simp only [e1, binOp, Op.stringOp, Sem.run_bind, Result.andThen_ok]
    rw [if_neg this]; rfl
  case eql =>
    cases hr
    refine ⟨.bool (x.toList == y.toList), ?_, by rw [toList_eq_iff, hx, hy]; exact rep_bool _⟩
    simp [eqGuard, binOp, Op.stringOp]
  case neq =>
    cases hr
    refine ⟨.bool (!(x.toList == y.toList)), ?_, by rw [toList_eq_iff, hx, hy, ← decide_not]; exact rep_bool _⟩
    simp [eqGuard, binOp, Op.stringOp]
theorem v_conv {src dst : TypeId} {k k' : IntKind} {d : TypeDesc} {n : Int} (hs : P.underlying src = some d) (ht : P.underlying dst = some (.int k)) : GV P ρ B F w (convert src dst (.int k' n)) (.int k (k.wrap n)) := by
  refine ⟨.int k (k.wrap n), ?_, rep_int _ _⟩
  simp [convert, run_underlying hs, run_underlying ht, Conv.intToInt]
theorem v_convS {src dst : TypeId} {d : TypeDesc} {v : Value} {s : List UInt8} (hv : Rep ρ B F w v (.str s)) (hs : P.underlying src = some d) (ht : P.underlying dst = some .string) : GV P ρ B F w (convert src dst v) (.str s) := by
  obtain ⟨x, rfl, hx⟩ := hv.str_inv
  refine ⟨.string x, ?_, rep_str _ _ hx⟩
  unfold convert
  simp only [Sem.run_bind, run_underlying hs, run_underlying ht, Result.andThen_ok]
  cases d <;> rfl
theorem v_not {b : Bool} : GV P ρ B F w (Op.unary .not (.bool b)) (.bool (!b)) := ⟨_, rfl, rep_bool _⟩
theorem v_neg {k : IntKind} {n : Int} : GV P ρ B F w (Op.unary .neg (.int k n)) (.int k (k.wrap (0 - n))) := ⟨_, rfl, rep_int _ _⟩
theorem v_com {k : IntKind} {n : Int} : GV P ρ B F w (Op.unary .xor (.int k n)) (.int k (k.wrap ((BitVec.ofInt k.bits (if k.signed then -1 else k.max) ^^^ BitVec.ofInt k.bits n).toNat))) := ⟨_, rfl, rep_int _ _⟩

/-! ### min, max -/
theorem ints_map {l : List AV} {k : IntKind} {ns : List Int} (h : ints l = some (k, ns)) : ns ≠ [] ∧ l.length = ns.length ∧ ∃ ks : List IntKind, ks.length = ns.length ∧ l = (ks.zip ns).map (fun p => AV.int p.1 p.2) ∧ ks.head? = some k := by
  induction l generalizing k ns with
  | nil => simp [ints] at h
  | cons x l ih =>
    cases x with
    | int k1 n1 =>
      cases l with
      | nil => simp [ints] at h; obtain ⟨rfl, rfl⟩ := h; exact ⟨by simp, rfl, [k1], rfl, rfl, rfl⟩
      | cons y l =>
        simp only [ints, Option.map_eq_some_iff] at h
        obtain ⟨⟨k2, ns2⟩, h1, h2⟩ := h
        simp at h2
        obtain ⟨rfl, rfl⟩ := h2
        obtain ⟨g1, g2, ks, g3, g4, g5⟩ := ih h1
        exact ⟨by simp, by simp [g2], k1 :: ks, by simp [g3], by rw [g4]; rfl, rfl⟩
    | _ => cases l <;> simp [ints] at h
theorem foldlM_min (k : IntKind) (x : Int) (l : List (IntKind × Int)) : ((l.map fun p => Value.int p.1 p.2).foldlM Builtin.min2 (.int k x)).run P w = .ok (.int k ((l.map (·.2)).foldl (fun a b => min a b) x)) w := by
  induction l generalizing x with
  | nil => rfl
  | cons p l ih =>
    have e : (Builtin.min2 (.int k x) (.int p.1 p.2)).run P w = .ok (.int k (min x p.2)) w := by
      simp only [Builtin.min2, Sem.run_pure]; congr 2; split <;> omega
    simp only [List.map_cons, List.foldlM_cons, Sem.run_bind, e, Result.andThen_ok, ih, List.foldl_cons]
theorem foldlM_max (k : IntKind) (x : Int) (l : List (IntKind × Int)) : ((l.map fun p => Value.int p.1 p.2).foldlM Builtin.max2 (.int k x)).run P w = .ok (.int k ((l.map (·.2)).foldl (fun a b => max a b) x)) w := by
  induction l generalizing x with
  | nil => rfl
  | cons p l ih =>
    have e : (Builtin.max2 (.int k x) (.int p.1 p.2)).run P w = .ok (.int k (max x p.2)) w := by
      simp only [Builtin.max2, Sem.run_pure]; congr 2; split <;> omega
    simp only [List.map_cons, List.foldlM_cons, Sem.run_bind, e, Result.andThen_ok, ih, List.foldl_cons]
theorem reps_ints {vs : List Value} {l : List AV} {k : IntKind} {ns : List Int} (hl : vs.length = l.length) (h : ∀ (i : Nat) (u : Value) (av : AV), vs[i]? = some u → l[i]? = some av → Rep ρ B F w u av) (hi : ints l = some (k, ns)) :
    ∃ x ps, vs = .int k x :: (ps : List (IntKind × Int)).map (fun p => Value.int p.1 p.2) ∧ ns = x :: ps.map (·.2) := by
  obtain ⟨h1, h2, ks, h3, h4, h5⟩ := ints_map hi
  have e : vs = (ks.zip ns).map (fun p => Value.int p.1 p.2) := by
    apply List.ext_getElem?
    intro i
    by_cases hlt : i < vs.length
    · have e1 : vs[i]? = some vs[i] := List.getElem?_eq_getElem hlt
      obtain ⟨y, e2⟩ : ∃ y, l[i]? = some y := ⟨_, List.getElem?_eq_getElem (by omega)⟩
      have hr := h i _ _ e1 e2
      rw [e1]
      rw [h4, List.getElem?_map] at e2
      rw [List.getElem?_map]
      cases hz : (ks.zip ns)[i]? with
      | none => rw [hz] at e2; cases e2
      | some p =>
        rw [hz] at e2
        simp only [Option.map_some, Option.some.injEq] at e2 ⊢
        rw [← e2] at hr
        exact hr.int_inv
    · rw [List.getElem?_eq_none (by omega), List.getElem?_eq_none (by simp; omega)]
  cases ks with
  | nil => simp at h5
  | cons k1 ks =>
    cases ns with
    | nil => exact absurd rfl h1
    | cons x ns =>
      simp at h5; subst h5
      refine ⟨x, ks.zip ns, by simpa using e, ?_⟩
      congr 1
      simp at h3
      exact (List.map_snd_zip (by omega)).symm
theorem v_min {ts : Array TypeId} {t : TypeId} {vs : Array Value} {l : List AV} {k : IntKind} {ns : List Int} (hl : vs.size = l.length) (h : ∀ (i : Nat) (u : Value) (av : AV), vs[i]? = some u → l[i]? = some av → Rep ρ B F w u av) (hi : ints l = some (k, ns)) : GV P ρ B F w (Builtin.min_ ts t vs) (.int k (minL ns)) := by
  obtain ⟨x, ps, e1, e2⟩ := reps_ints (vs := vs.toList) (by simpa using hl) (fun i u av a b => h i u av (by simpa using a) b) hi
  refine ⟨.int k (minL ns), ?_, rep_int _ _⟩
  unfold Builtin.min_
  simp only [e1, foldlM_min, e2, minL]
theorem v_max {ts : Array TypeId} {t : TypeId} {vs : Array Value} {l : List AV} {k : IntKind} {ns : List Int} (hl : vs.size = l.length) (h : ∀ (i : Nat) (u : Value) (av : AV), vs[i]? = some u → l[i]? = some av → Rep ρ B F w u av) (hi : ints l = some (k, ns)) : GV P ρ B F w (Builtin.max_ ts t vs) (.int k (maxL ns)) := by
  obtain ⟨x, ps, e1, e2⟩ := reps_ints (vs := vs.toList) (by simpa using hl) (fun i u av a b => h i u av (by simpa using a) b) hi
  refine ⟨.int k (maxL ns), ?_, rep_int _ _⟩
  unfold Builtin.max_
  simp only [e1, foldlM_max, e2, maxL]
end
end Go.Proofs.Ytjacmhaeemhinaa

namespace Go.Proofs.Ytjacmhaeemhinaa
open Go.RowKit
set_option linter.unusedVariables false

structure Grown (B : Nat → Prop) (ρ ρ' : Env) (F F' : Nat → Prop) (bb nb br nr : Nat) : Prop where
  le : ρ.le ρ'
  b : ∀ x, ρ'.b x ≠ none → ρ.b x ≠ none ∨ (bb ≤ x ∧ x < bb + nb)
  r : ∀ x, ρ'.r x ≠ none → ρ.r x ≠ none ∨ (br ≤ x ∧ x < br + nr)
  sub : ∀ x, F x → F' x
  new : ∀ x, F' x → F x ∨ ¬ B x
theorem Grown.refl (B : Nat → Prop) (ρ : Env) (F : Nat → Prop) (bb br : Nat) : Grown B ρ ρ F F bb 0 br 0 := ⟨ρ.le_refl, fun _ h => .inl h, fun _ h => .inl h, fun _ h => h, fun _ h => .inl h⟩
theorem Grown.newB {B : Nat → Prop} {ρ : Env} {F : Nat → Prop} {bb br g : Nat} (h : ρ.b bb = none) : Grown B ρ (ρ.addB bb g) F F bb 1 br 0 :=
  ⟨Env.le_addB h, fun x hx => by
    simp only [Env.addB] at hx; split at hx
    · right; omega
    · exact .inl hx, fun _ h => .inl h, fun _ h => h, fun _ h => .inl h⟩
theorem Grown.newR {B : Nat → Prop} {ρ : Env} {F : Nat → Prop} {bb br : Nat} {p : Pl} (h : ρ.r br = none) : Grown B ρ (ρ.addR br p) F F bb 0 br 1 :=
  ⟨Env.le_addR h, fun _ h => .inl h, fun x hx => by
    simp only [Env.addR] at hx; split at hx
    · right; omega
    · exact .inl hx, fun _ h => h, fun _ h => .inl h⟩
theorem Grown.trans {B : Nat → Prop} {ρ ρ1 ρ2 : Env} {F F1 F2 : Nat → Prop} {bb nb br nr : Nat} (h : Grown B ρ ρ1 F F1 bb 0 br 0) (k : Grown B ρ1 ρ2 F1 F2 bb nb br nr) : Grown B ρ ρ2 F F2 bb nb br nr :=
  ⟨Env.le_trans h.le k.le, fun x hx => (k.b x hx).elim (fun e => (h.b x e).elim .inl fun e => by omega) .inr, fun x hx => (k.r x hx).elim (fun e => (h.r x e).elim .inl fun e => by omega) .inr, fun x hx => k.sub x (h.sub x hx), fun x hx => (k.new x hx).elim (h.new x) .inr⟩

theorem Grown.one {B : Nat → Prop} {ρ ρ' : Env} {F F' : Nat → Prop} {bb br : Nat} (h : Grown B ρ ρ' F F' bb 0 br 0) : Grown B ρ ρ' F F' bb 0 br 1 := ⟨h.le, h.b, fun x hx => (h.r x hx).elim .inl (fun e => by omega), h.sub, h.new⟩
/-- The steps s give a value that av stands for; behind them the state is σ'. -/
def Good (P : Program) (w0 : Base) (N : Nat) (ρ : Env) (F : Nat → Prop) (a : Act) (w : World) (s : Sem Value) (bb nb br nr : Nat) (σ' : FS) (av : AV) : Prop :=
  ∃ v w' ρ' F', s.run P w = .ok v w' ∧ Grown w0.V ρ ρ' F F' bb nb br nr ∧ Sim w0 N ρ' F' σ' a w' ∧ Rep ρ' w0.V F' w' v av

theorem Good.one {P : Program} {w0 : Base} {N : Nat} {ρ : Env} {F : Nat → Prop} {a : Act} {w : World} {s : Sem Value} {bb br : Nat} {σ' : FS} {av : AV} (h : Good P w0 N ρ F a w s bb 0 br 0 σ' av) : Good P w0 N ρ F a w s bb 0 br 1 σ' av :=
  let ⟨v, w', ρ', F', h1, h2, h3⟩ := h; ⟨v, w', ρ', F', h1, h2.one, h3⟩
section
variable {P : Program} {w0 : Base} {N : Nat} {ρ : Env} {F : Nat → Prop} {σ : FS} {a : Act} {w : World}

theorem GV.good {s : Sem Value} {av : AV} {bb br : Nat} (h : Sim w0 N ρ F σ a w) (hv : GV P ρ w0.V F w s av) : Good P w0 N ρ F a w s bb 0 br 0 σ av :=
  let ⟨v, e, r⟩ := hv; ⟨v, w, ρ, F, e, .refl _ _ _ _ _, h, r⟩

theorem newVar_run (t : TypeId) (v : Value) : (do pure (.pointer (some (← newVar t v))) : Sem Value).run P w = .ok (.pointer (some ⟨w.heap.size, 0, none⟩)) (w.alloc (.cells v.cells t)) := by
  simp [newVar, Go.newRow]
theorem g_box {t : TypeId} {v : Value} {av : AV} {bb br : Nat} (h : Sim w0 N ρ F σ a w) (hb : ρ.b bb = none) (hv : Rep ρ w0.V F w v av) (hok : okV av = true) :
    Good P w0 N ρ F a w (Instr.box t v) bb 1 br 0 (σ.setB bb av.cells) (.bptr bb 0) := by
  obtain ⟨h1, h2, h3⟩ := okV_cells hv hok
  exact ⟨_, _, ρ.addB bb w.heap.size, F, newVar_run t v, .newB hb, h.newBox hb h1 h2, .bptr _ _ _ (by simp [Env.addB])⟩
theorem g_alloc {t : TypeId} {z : Value} {bb br : Nat} {i : TypeInfo} (hi : P.info? t = some i) (hz : i.zero = some z) (h : Sim w0 N ρ F σ a w) (hb : ρ.b bb = none) (hok : (cst z).cells.all scal = true) :
    Good P w0 N ρ F a w (Instr.alloc t true (.tuple #[])) bb 1 br 0 (σ.setB bb (cst z).cells) (.bptr bb 0) := by
  have e : (Instr.alloc t true (.tuple #[])).run P w = (Instr.box t z).run P w := by
    simp [Instr.alloc, Instr.box, zeroValue, typeInfo, hi, hz]
  have hok' : okV (cst z) = true := by
    cases hc : cst z with
    | agg l => rw [hc] at hok; exact hok
    | obj f => exact absurd hc (by unfold cst cstC; split <;> (try split) <;> (intro e; cases e))
    | _ => rw [hc] at hok; simpa [AV.cells, okV] using hok
  have := g_box (P := P) (t := t) (br := br) h hb (.pure _ _ (cst_rep F w z)) hok'
  unfold Good at *
  rw [e]; exact this

theorem flat_ones {cells : List AV} (h : cells.all scal = true) : flat cells = cells ∧ ∀ e ∈ cells, e.cells.length = 1 := by
  simp only [List.all_eq_true] at h
  refine ⟨?_, fun e he => by rw [scal_cells (h e he)]; rfl⟩
  induction cells with
  | nil => rfl
  | cons c cs ih =>
    simp only [flat, List.flatMap_cons] at ih ⊢
    rw [scal_cells (h c (List.mem_cons_self ..)), ih (fun x hx => h x (List.mem_cons_of_mem _ hx))]; rfl
/-- A row of one-cell elements in a new block. -/
theorem rowOk_new {cs : Array Value} {T : TypeId} {es : List AV} {k c : Nat} (h : Sim w0 N ρ F σ a w) {w' : World} (hbel : Below w.heap.size w w') (hh : w'.heap[w.heap.size]? = some (.cells cs T (0, 0))) (hk : ∀ e ∈ es, e.cells.length = k) (hc : c * k ≤ cs.size) (hl : es.length ≤ c)
    (hr : ∀ (i : Nat) (av : AV), (flat es)[i]? = some av → ∃ u, cs[i]? = some u ∧ Rep0 F w u av) : RowOk w0.V F w' ⟨w.heap.size, 0, c * k⟩ ⟨false, k, es⟩ := by
  by_cases hk0 : k = 0
  · exact ⟨hk, by rw [width_flat hk]; exact Nat.mul_le_mul_right _ hl, .inl (by subst hk0; rfl)⟩
  refine ⟨hk, by rw [width_flat hk]; exact Nat.mul_le_mul_right _ hl, .inr ⟨(fun e => by cases e), (fun _ => ⟨h.bel.fresh (Nat.le_refl _), fun e => absurd (h.fl _ e) (Nat.lt_irrefl _)⟩), cs, T, (0, 0), .inl ⟨hh, Nat.pos_of_ne_zero hk0⟩, by simpa using hc, fun _ => rfl, fun i av e => ?_⟩⟩
  obtain ⟨u, e1, e2⟩ := hr i av e
  exact ⟨u, by simpa using e1, e2.mono (fun x hx => hbel.block x (h.fl x hx)) fun _ hx => hx⟩
theorem g_boxa {t : TypeId} {v : Value} {l : List AV} {bb br : Nat} (h : Sim w0 N ρ F σ a w) (hb : ρ.r br = none) (hv : Rep ρ w0.V F w v (.agg l)) (hp : l.all pureC = true) (hs : l.all scal = true) (hne : l ≠ []) :
    Good P w0 N ρ F a w (Instr.box t v) bb 0 br 1 (σ.setR br (some ⟨false, 1, l⟩)) (.aptr br l.length) := by
  obtain ⟨cs, rfl, hl, hc⟩ := hv.agg_inv
  obtain ⟨f1, f2⟩ := flat_ones hs
  have hbel : Below w.heap.size w (w.alloc (.cells cs t)) := (Below.refl _ _).alloc (Nat.le_refl _) _
  have hpos : 0 < l.length := List.length_pos_iff.2 hne
  have hrow : RowOk w0.V F (w.alloc (.cells cs t)) ⟨w.heap.size, 0, l.length * 1⟩ ⟨false, 1, l⟩ := rowOk_new (c := l.length) h hbel (heap_alloc_new w _) f2 (by omega) (Nat.le_refl _) fun i av e => by
    rw [f1] at e
    have hi := (List.getElem?_eq_some_iff.1 e).1
    have e1 : cs[i]? = some (cs[i]'(by omega)) := Array.getElem?_eq_getElem (by omega)
    simp only [List.all_eq_true] at hp
    exact ⟨_, e1, (hc i _ _ e1 e).pureC (hp av (List.mem_of_getElem? e))⟩
  refine ⟨_, _, ρ.addR br ⟨w.heap.size, 0, l.length * 1⟩, F, newVar_run t (.agg cs), .newR hb, h.newRow hb hbel (fun _ => ⟨by simp, Nat.le_refl _⟩) hrow, .aptr br l.length ⟨w.heap.size, 0, l.length * 1⟩ (by simp [Env.addR]) (by simp)⟩
theorem g_alloca {t : TypeId} {z : Value} {bb br : Nat} {i : TypeInfo} {l : List AV} (hi : P.info? t = some i) (hz : i.zero = some z) (hl : cst z = .agg l) (h : Sim w0 N ρ F σ a w) (hb : ρ.r br = none) (hp : l.all pureC = true) (hs : l.all scal = true) (hne : l ≠ []) :
    Good P w0 N ρ F a w (Instr.alloc t true (.tuple #[])) bb 0 br 1 (σ.setR br (some ⟨false, 1, l⟩)) (.aptr br l.length) := by
  have e : (Instr.alloc t true (.tuple #[])).run P w = (Instr.box t z).run P w := by
    simp [Instr.alloc, Instr.box, zeroValue, typeInfo, hi, hz]
  have := g_boxa (P := P) (t := t) (bb := bb) h hb (v := z) (l := l) (hl ▸ .pure _ _ (cst_rep F w z)) hp hs hne
  unfold Good at *
  rw [e]; exact this

/-! ### Loads -/
theorem cell_lit {w : World} {g : Nat} {cs : Array Value} {T : TypeId} {fr : Nat × Nat} (h : w.heap[g]? = some (.cells cs T fr)) (o i : Nat) : w.cell? ((⟨g, o, none⟩ : Addr).add i) = cs[o + i]? := by
  rw [add_lit]; exact cell_of_row w g (o + i) cs T fr h
theorem v_load_b {agg : Bool} {n : Nat} {t : TypeId} (hagg : aggOf P t = some agg) (hsz : szOf P t = some n) (h : Sim w0 N ρ F σ a w) {v : Value} {b off : Nat} {cells : List AV} (hv : Rep ρ w0.V F w v (.bptr b off)) (hb : σ.bx b = some cells) (hok : (loadC agg n (cells.drop off)).ok) :
    GV P ρ w0.V F w (Instr.loadAt t v) (loadC agg n (cells.drop off)).av := by
  obtain ⟨g, hg, rfl⟩ := hv.bptr_inv
  obtain ⟨h1, h2, cs, T, h3, h4, h5⟩ := h.bx b cells g hb hg
  refine load_cells hagg hsz _ (cells.drop off) (fun i => cs.getD (off + i) undef) rfl (fun i hi => ?_) (fun i av e => ?_) hok
  · simp at hi
    rw [cell_lit h3]; simp [Array.getD, show off + i < cs.size by omega]
  · rw [List.getElem?_drop] at e
    have hi := (List.getElem?_eq_some_iff.1 e).1
    have e1 : cs[off + i]? = some (cs[off + i]'(by omega)) := Array.getElem?_eq_getElem (by omega)
    rw [show cs.getD (off + i) undef = cs[off + i]'(by omega) by simp [Array.getD, show off + i < cs.size by omega]]
    exact h5 _ _ _ e1 e
theorem v_load_c {agg : Bool} {n : Nat} {t : TypeId} (hagg : aggOf P t = some agg) (hsz : szOf P t = some n) {v : Value} {vol : Bool} {cs : List AV} (hv : Rep ρ w0.V F w v (.cptr vol cs)) (hok : (loadC agg n cs).ok) :
    GV P ρ w0.V F w (Instr.loadAt t v) (loadC agg n cs).av := by
  obtain ⟨ad, f, rfl, hsp, hloc, hcell, hr⟩ := hv.cptr_inv
  exact load_cells hagg hsz ad cs f hsp hcell hr hok
/-- The cells of an own row. -/
theorem row_cells (h : Sim w0 N ρ F σ a w) {b : Nat} {r : ARow} {p : Pl} (hb : σ.rw b = some r) (hp : ρ.r b = some p) : (∀ e ∈ r.es, e.cells.length = r.k) ∧ r.es.length * r.k ≤ p.lim ∧ ∃ f : Nat → Value, (∀ i, i < r.es.length * r.k → w.cell? ⟨p.blk, p.off + i, none⟩ = some (f i)) ∧ ∀ (i : Nat) (av : AV), (flat r.es)[i]? = some av → Rep0 F w (f i) av := by
  obtain ⟨h1, h2, h3⟩ := h.rw b r p hb hp
  have hw := width_flat h1
  refine ⟨h1, by omega, ?_⟩
  rcases h3 with h3 | ⟨h3, h4, cs, T, fr, ⟨h5, h5k⟩ | h5, h6, h7, h8⟩
  rotate_right
  · obtain ⟨n1, n2⟩ := h5.no
    exact ⟨fun _ => undef, fun i hi => by rw [n1] at hi; omega, fun i av e => by rw [n2] at e; cases e⟩
  · refine ⟨fun _ => undef, fun i hi => by omega, fun i av e => ?_⟩
    have := (List.getElem?_eq_some_iff.1 e).1
    omega
  · refine ⟨fun i => cs.getD (p.off + i) undef, fun i hi => ?_, fun i av e => ?_⟩
    · rw [cell_of_row w _ _ cs T fr h5]; simp [Array.getD, show p.off + i < cs.size by omega]
    · obtain ⟨u, e1, e2⟩ := h8 i av e
      have hi := (List.getElem?_eq_some_iff.1 e).1
      dsimp only
      rw [show cs.getD (p.off + i) undef = u by
        have := (Array.getElem?_eq_some_iff.1 e1).2
        simp [Array.getD, show p.off + i < cs.size by omega, this]]
      exact e2
theorem v_load_r {agg : Bool} {n : Nat} {t : TypeId} (hagg : aggOf P t = some agg) (hsz : szOf P t = some n) (h : Sim w0 N ρ F σ a w) {v : Value} {b k i off : Nat} {r : ARow} (hv : Rep ρ w0.V F w v (.rptr b k i off)) (hb : σ.rw b = some r) (hk : r.k = k) (hi : i < r.es.length) (hok : (loadC agg n ((r.es[i]?.getD .any).cells.drop off)).ok) :
    GV P ρ w0.V F w (Instr.loadAt t v) (loadC agg n ((r.es[i]?.getD .any).cells.drop off)).av := by
  obtain ⟨p, hp, rfl⟩ := hv.rptr_inv
  obtain ⟨h1, h2, f, h3, h4⟩ := row_cells h hb hp
  have he : r.es[i]? = some r.es[i] := List.getElem?_eq_getElem hi
  have hwi := h1 _ (List.getElem_mem hi)
  have hfit : i * k + k ≤ r.es.length * r.k := by
    have : (i + 1) * k ≤ r.es.length * k := Nat.mul_le_mul_right k hi
    rw [Nat.add_mul] at this; rw [hk]; omega
  rw [he, Option.getD_some] at hok ⊢
  refine load_cells hagg hsz _ _ (fun j => f (i * k + (off + j))) rfl (fun j hj => ?_) (fun j av e => .pure _ _ (h4 _ _ ?_)) hok
  · simp at hj
    rw [add_lit, show p.off + (i * k + off) + j = p.off + (i * k + (off + j)) by omega]
    exact h3 _ (by omega)
  · rw [List.getElem?_drop] at e
    have hj := (List.getElem?_eq_some_iff.1 e).1
    rw [← hk, flat_get h1 he (by omega)]; exact e
theorem v_load_a {t : TypeId} {n : Nat} (hagg : aggOf P t = some true) (hsz : szOf P t = some n) (h : Sim w0 N ρ F σ a w) {v : Value} {b m : Nat} {r : ARow} (hv : Rep ρ w0.V F w v (.aptr b m)) (hb : σ.rw b = some r) (hk : r.k = 1) (hl : r.es.length = n) (hs : r.es.all scal = true) :
    GV P ρ w0.V F w (Instr.loadAt t v) (.agg r.es) := by
  obtain ⟨p, hp, hlim, rfl⟩ := hv.aptr_inv
  obtain ⟨h1, h2, f, h3, h4⟩ := row_cells h hb hp
  obtain ⟨f1, f2⟩ := flat_ones hs
  have := load_cells (P := P) (ρ := ρ) (B := w0.V) (F := F) (w := w) hagg hsz (⟨p.blk, p.off, none⟩ : Addr) r.es f rfl (fun i hi => by rw [add_lit]; exact h3 i (by rw [hk]; omega)) (fun i av e => .pure _ _ (h4 i av (by rw [f1]; exact e))) (by simp [loadC, hl])
  rw [show (loadC true n r.es).av = .agg r.es by simp [loadC, ← hl]] at this
  exact this

/-- A slice of an own row, as a row of cells. -/
theorem ref_row (h : Sim w0 N ρ F σ a w) {v : Value} {b k lo n : Nat} {r : ARow} (hv : Rep ρ w0.V F w v (.ref b k lo n)) (hb : σ.rw b = some r) (hk : r.k = k) (hl : lo + n ≤ r.es.length) :
    ∃ (ad : Option Addr) (c : Nat) (p : Pl) (f : Nat → Value), v = .slice ad n c ∧ ρ.r b = some p ∧ RowAt w (fun x => x = p.blk ∧ 0 < p.lim) ad n c (n * k) f ∧ (∀ e ∈ (r.es.drop lo).take n, e.cells.length = k) ∧ ((r.es.drop lo).take n).length = n ∧ ∀ (i : Nat) (av : AV), (flat ((r.es.drop lo).take n))[i]? = some av → Rep0 F w (f i) av := by
  obtain ⟨ad, c, p, rfl, hp, hc, hm, hlim, hn, ha⟩ := hv.ref_inv
  obtain ⟨h1, h2, f, h3, h4⟩ := row_cells h hb hp
  have hw : ∀ e ∈ (r.es.drop lo).take n, e.cells.length = k := fun e he => hk ▸ h1 e (List.mem_of_mem_drop (List.mem_of_mem_take he))
  have hlim2 : (lo + n) * k ≤ r.es.length * r.k := by rw [hk]; exact Nat.mul_le_mul_right _ hl
  have hwd : ∀ e ∈ r.es.drop lo, e.cells.length = k := fun e he => hk ▸ h1 e (List.mem_of_mem_drop he)
  refine ⟨ad, c, p, fun i => f (lo * k + i), rfl, hp, ⟨hc, hm, hn, fun x e hpos => ?_, fun x e i hi => ?_⟩, hw, by simp; omega, fun i av e => ?_⟩
  · have hne : c ≠ 0 := by rintro rfl; simp [show n = 0 by omega] at hpos
    rw [ha hne] at e; cases e
    refine ⟨rfl, ?_⟩
    have : 0 < n * k := hpos
    rw [Nat.add_mul] at hlim2
    omega
  · have hne : c ≠ 0 := by rintro rfl; simp [show n = 0 by omega] at hi
    rw [ha hne] at e; cases e
    rw [add_lit, Nat.add_assoc]
    rw [Nat.add_mul] at hlim2
    exact h3 _ (by omega)
  · rw [flat_take hwd, flat_drop (k := k) (fun e he => hk ▸ h1 e he), List.getElem?_take] at e
    split at e
    · rw [List.getElem?_drop] at e; exact h4 _ _ e
    · cases e
/-- What els gives, as a row of cells. -/
theorem els_row (h : Sim w0 N ρ F σ a w) {v : Value} {y : AV} {k : Nat} {es : List AV} (hv : Rep ρ w0.V F w v y) (he : els σ.rw y = some (k, es)) :
    ∃ (ad : Option Addr) (c : Nat) (f : Nat → Value), v = .slice ad es.length c ∧ RowAt w (fun _ => True) ad es.length c (es.length * k) f ∧ (∀ e ∈ es, e.cells.length = k) ∧ ∀ (i : Nat) (av : AV), (flat es)[i]? = some av → Rep0 F w (f i) av := by
  cases y with
  | sl vol k' es' =>
    simp [els] at he; obtain ⟨rfl, rfl⟩ := he
    obtain ⟨ad, c, f, rfl, hw, hr, hc⟩ := hv.sl_inv
    exact ⟨ad, c, f, rfl, hr.mono (Agree.refl _ _) (fun _ _ => trivial), hw, hc⟩
  | csl vol k' es' =>
    simp [els] at he; obtain ⟨rfl, rfl⟩ := he
    obtain ⟨ad, f, rfl, hw, hr, hc⟩ := hv.csl_inv
    exact ⟨ad, _, f, rfl, hr.mono (Agree.refl _ _) (fun _ _ => trivial), hw, hc⟩
  | nil =>
    simp [els] at he; obtain ⟨rfl, rfl⟩ := he
    obtain ⟨ad, c, f, e, hw, hr, hc⟩ := (Rep.nil_sl (k := 0) (vol := false) hv).sl_inv
    exact ⟨ad, c, f, e, hr.mono (Agree.refl _ _) (fun _ _ => trivial), hw, hc⟩
  | ref b k' lo n =>
    simp only [els] at he
    split at he
    · rename_i r hr
      split at he
      · rename_i hcnd
        simp at he; obtain ⟨rfl, rfl⟩ := he
        obtain ⟨ad, c, p, f, rfl, hp, hra, hw, hlen, hc⟩ := ref_row h hv hr hcnd.1 hcnd.2
        refine ⟨ad, c, f, by rw [hlen], ?_, hw, hc⟩
        rw [hlen]; exact hra.mono (Agree.refl _ _) (fun _ _ => trivial)
      · cases he
    · cases he
  | refc b k' lo n c9 =>
    simp only [els] at he
    split at he
    · rename_i r hr
      split at he
      · rename_i hcnd
        simp at he; obtain ⟨rfl, rfl⟩ := he
        obtain ⟨ad, c, p, f, rfl, hp, hra, hw, hlen, hc⟩ := ref_row h hv.rf hr hcnd.1 hcnd.2
        refine ⟨ad, c, f, by rw [hlen], ?_, hw, hc⟩
        rw [hlen]; exact hra.mono (Agree.refl _ _) (fun _ _ => trivial)
      · cases he
    · cases he
  | raw u =>
    rw [hv.raw_inv]
    cases u with
    | slice ad n c =>
      cases ad with
      | none => simp [els] at he
      | some ad =>
        cases n with
        | zero =>
          simp only [els] at he
          split at he
          · rename_i hc
            cases he
            exact ⟨_, _, fun _ => undef, rfl, ⟨Nat.zero_le _, hc, (fun e => by cases e), (fun ad _ h => by simp at h), (fun ad _ i hi => by simp at hi)⟩, (by simp), (by simp [flat])⟩
          · cases he
        | succ n => simp [els] at he
    | _ => simp [els] at he
  | _ => simp [els] at he

theorem isBy_get {es : List AV} (h : isBy es = true) : flat es = es ∧ ∀ e ∈ es, ∃ n : Int, e = .int .u8 n ∧ 0 ≤ n ∧ n < 256 := by
  simp only [isBy, List.all_eq_true] at h
  have h2 : ∀ e ∈ es, ∃ n : Int, e = .int .u8 n ∧ 0 ≤ n ∧ n < 256 := fun e he => by
    have := h e he
    split at this
    · exact ⟨_, rfl, by simpa using this⟩
    · cases this
  refine ⟨(flat_ones (by simp only [List.all_eq_true]; intro e he; obtain ⟨n, rfl, _⟩ := h2 e he; rfl)).1, h2⟩
theorem push_fold (ns : List Int) (r : ByteArray) : (ns.foldl (fun r n => r.push (UInt8.ofNat n.toNat)) r).data.toList = r.data.toList ++ ns.map fun n => UInt8.ofNat n.toNat := by
  induction ns generalizing r with
  | nil => simp
  | cons n ns ih => simp [ih]
theorem v_b2s (h : Sim w0 N ρ F σ a w) {v : Value} {y : AV} {k : Nat} {es : List AV} (hv : Rep ρ w0.V F w v y) (he : els σ.rw y = some (k, es)) (hby : isBy es = true) :
    GV P ρ w0.V F w (Conv.bytesToString v) (.str (unby es)) := by
  obtain ⟨ad, c, f, rfl, hr, hw, hc⟩ := els_row h hv he
  obtain ⟨b1, b2⟩ := isBy_get hby
  rw [b1] at hc
  cases ad with
  | none =>
    have h0 : es = [] := List.eq_nil_of_length_eq_zero (by have := hr.nil rfl; have := hr.cap; omega)
    subst h0
    exact ⟨.string .empty, rfl, rep_str _ _ rfl⟩
  | some ad =>
    have hcell : ∀ i, i < es.length → w.cell? (ad.add i) = some (f i) := fun i hi => by
      have : k = 1 := by
        obtain ⟨n, e, _⟩ := b2 es[i] (List.getElem_mem hi)
        have := hw es[i] (List.getElem_mem hi)
        rw [e] at this; simpa [AV.cells] using this.symm
      exact hr.cell ad rfl i (by subst this; omega)
    have hl := run_loadCells (P := P) w ad es.length f hcell
    have e2 : ((List.range es.length).map f) = (es.map fun | .int _ n => n | _ => 0).map (Value.int .u8) := by
      apply List.ext_getElem?
      intro i
      simp only [List.getElem?_map]
      by_cases hi : i < es.length
      · obtain ⟨n, e, _⟩ := b2 es[i] (List.getElem_mem hi)
        have e3 : es[i]? = some (.int .u8 n) := by rw [List.getElem?_eq_getElem hi, e]
        have hf := hc i _ e3
        rw [List.getElem?_range hi, e3]
        cases hfi : f i <;> rw [hfi] at hf <;> first | (cases hf; simp [hfi]) | cases hf
      · rw [List.getElem?_eq_none (by simpa using hi), List.getElem?_eq_none (by simpa using hi)]; rfl
    rw [e2] at hl
    refine ⟨_, run_bytesToString w ad es.length c _ hl, rep_str _ _ ?_⟩
    rw [push_fold]
    simp only [ByteArray.data_empty, List.map_map, unby]
    show [] ++ _ = _
    rw [List.nil_append]
    refine List.map_congr_left fun e he => ?_
    obtain ⟨n, rfl, _⟩ := b2 e he
    rfl
end
end Go.Proofs.Ytjacmhaeemhinaa

namespace Go.Proofs.Ytjacmhaeemhinaa
open Go.RowKit
set_option linter.unusedVariables false

theorem put_get {l new : List AV} {off : Nat} (h : off + new.length ≤ l.length) (i : Nat) : (putCells l off new)[i]? = if off ≤ i ∧ i < off + new.length then new[i - off]? else l[i]? := by
  unfold putCells
  have e1 : (l.take off).length = off := by simp; omega
  by_cases h1 : i < off
  · rw [List.getElem?_append_left (by omega), if_neg (by omega), List.getElem?_take, if_pos h1]
  · rw [List.getElem?_append_right (by omega), e1]
    by_cases h2 : i < off + new.length
    · rw [List.getElem?_append_left (by omega), if_pos (by omega)]
    · rw [List.getElem?_append_right (by omega), if_neg (by omega), List.getElem?_drop]
      congr 1; omega
theorem put_length {l new : List AV} {off : Nat} (h : off + new.length ≤ l.length) : (putCells l off new).length = l.length := by
  simp [putCells]; omega
theorem seg_get {cur : Array Value} {news : List Value} {o : Nat} (h : o + news.length ≤ cur.size) (i : Nat) : (cur.toList.take o ++ news ++ cur.toList.drop (o + news.length)).toArray[i]? = if o ≤ i ∧ i < o + news.length then news[i - o]? else cur[i]? := by
  simp only [List.getElem?_toArray, List.append_assoc]
  have e1 : (cur.toList.take o).length = o := by simp; omega
  by_cases h1 : i < o
  · rw [List.getElem?_append_left (by omega), if_neg (by omega), List.getElem?_take, if_pos h1, Array.getElem?_toList]
  · rw [List.getElem?_append_right (by omega), e1]
    by_cases h2 : i < o + news.length
    · rw [List.getElem?_append_left (by omega), if_pos (by omega)]
    · rw [List.getElem?_append_right (by omega), if_neg (by omega), List.getElem?_drop, Array.getElem?_toList]
      congr 1; omega
theorem seg_size {cur : Array Value} {news : List Value} {o : Nat} (h : o + news.length ≤ cur.size) : (cur.toList.take o ++ news ++ cur.toList.drop (o + news.length)).toArray.size = cur.size := by
  simp; omega

theorem mapM_get {α β : Type} {f : α → Option β} : ∀ {l : List α} {l' : List β}, l.mapM f = some l' → l'.length = l.length ∧ ∀ (i : Nat) (x : α) (y : β), l[i]? = some x → l'[i]? = some y → f x = some y
  | [], l', h => by simp at h; subst h; simp
  | x :: l, l', h => by
    rw [List.mapM_cons] at h
    cases h1 : f x with
    | none => rw [h1] at h; cases h
    | some y =>
      cases h2 : l.mapM f with
      | none => rw [h1, h2] at h; cases h
      | some ys =>
        rw [h1, h2] at h
        cases h
        obtain ⟨g1, g2⟩ := mapM_get h2
        refine ⟨by simp [g1], fun i a b e1 e2 => ?_⟩
        cases i with
        | zero => simp at e1 e2; subst e1 e2; exact h1
        | succ i => exact g2 i a b (by simpa using e1) (by simpa using e2)

section
variable {P : Program} {w0 : Base} {N : Nat} {ρ : Env} {F : Nat → Prop} {σ : FS} {a : Act} {w : World}

/-- Cells stored into a block. -/
theorem store_mem {g o : Nat} {cur : Array Value} {T : TypeId} (hg : w.heap[g]? = some (.cells cur T (0, 0))) {news : List Value} (hfit : o + news.length ≤ cur.size) (hone : ∀ u ∈ news, u.oneCell' = true) :
    ∃ w' cur', (storeCells ⟨g, o, none⟩ news).run P w = .ok () w' ∧ w'.heap[g]? = some (.cells cur' T (0, 0)) ∧ cur'.size = cur.size ∧ (∀ i : Nat, cur'[i]? = if o ≤ i ∧ i < o + news.length then news[i - o]? else cur[i]?) ∧ w'.os = w.os ∧ w'.tape = w.tape ∧ w'.output = w.output ∧ w'.heap.size = w.heap.size ∧ ∀ x, x ≠ g → w'.heap[x]? = w.heap[x]? := by
  have hr := run_storeCells_at P g o T news 0 cur w hg (by simpa using hfit) hone
  simp only [Nat.add_zero] at hr
  exact ⟨_, _, hr, setRow_heap w g cur _ T _ hg, seg_size hfit, fun i => seg_get hfit i, rfl, rfl, rfl, by simp, fun x hx => setRow_other w g x _ hx⟩

theorem run_storeAt {t : TypeId} {n : Nat} (hsz : szOf P t = some n) {v : Value} (hv : v.cells.size = n) (ad : Addr) : (Instr.storeAt t (.pointer (some ad)) v).run P w = (storeCells ad v.cells.toList).run P w := by
  simp [Instr.storeAt, Instr.sureAddr, storeVar, run_sizeOf' hsz, hv]

/-- A store into a box. -/
theorem store_b {t : TypeId} {n : Nat} (hsz : szOf P t = some n) (h : Sim w0 N ρ F σ a w) {p v : Value} {b off : Nat} {cells : List AV} {av : AV} (hp : Rep ρ w0.V F w p (.bptr b off)) (hb : σ.bx b = some cells) (hv : Rep ρ w0.V F w v av) (hok : okV av = true) (hn : av.cells.length = n) (hfit : off + n ≤ cells.length) :
    ∃ w', (Instr.storeAt t p v).run P w = .ok () w' ∧ Sim w0 N ρ F (σ.setB b (putCells cells off av.cells)) a w' := by
  obtain ⟨g, hg, rfl⟩ := hp.bptr_inv
  obtain ⟨c1, c2, c3⟩ := okV_cells hv hok
  obtain ⟨h1, h2, cs, T, h3, h4, h5⟩ := h.bx b cells g hb hg
  have hlen : v.cells.toList.length = n := by simpa [c1] using hn
  obtain ⟨w', cur', e1, e2, e3, e4, f1, f2, f3, f4, f5⟩ := store_mem (P := P) h3 (news := v.cells.toList) (o := off) (by omega) c3
  refine ⟨w', by rw [run_storeAt hsz (by omega)]; exact e1, h.writeBox hb hg f1 f2 f3 f4 f5 fun hA => ⟨h1, h2, cur', T, e2, by rw [put_length (by omega)]; omega, fun i u x g1 g2 => ?_⟩⟩
  rw [e4] at g1
  rw [put_get (by omega)] at g2
  rw [hlen] at g1; rw [hn] at g2
  split at g1
  · rename_i hi
    rw [if_pos hi] at g2
    exact (c2 _ u x (by simpa using g1) g2).mono ρ.le_refl hA (fun _ hx => .inl hx) fun _ hx => hx
  · rename_i hi
    rw [if_neg hi] at g2
    exact (h5 i u x g1 g2).mono ρ.le_refl hA (fun _ hx => .inl hx) fun _ hx => hx

/-- Cells written into an own row. -/
theorem write_row (h : Sim w0 N ρ F σ a w) {b : Nat} {r : ARow} {p : Pl} (hb : σ.rw b = some r) (hp : ρ.r b = some p) (hf : r.fro = false) {o : Nat} {news : List Value} {avs : List AV} (hl : news.length = avs.length) (hne : avs ≠ []) (hfit : o + avs.length ≤ (flat r.es).length)
    (hr : ∀ (i : Nat) (u : Value) (av : AV), news[i]? = some u → avs[i]? = some av → Rep0 F w u av) (hone : ∀ u ∈ news, u.oneCell' = true) {es' : List AV} (hw : ∀ e ∈ es', e.cells.length = r.k) (hflat : flat es' = putCells (flat r.es) o avs) :
    ∃ w', (storeCells ⟨p.blk, p.off + o, none⟩ news).run P w = .ok () w' ∧ Sim w0 N ρ F (σ.setR b (some { r with es := es' })) a w' := by
  have hpos : 0 < avs.length := List.length_pos_iff.2 hne
  obtain ⟨h1, h2, h3⟩ := h.rw b r p hb hp
  rcases h3 with h3 | ⟨h3, h4, cs, T, fr, ⟨h5, h5k⟩ | h5, h6, h7, h8⟩
  rotate_right
  · have := h5.no.2; rw [this, List.length_nil] at hfit; omega
  · omega
  · have := h7 hf
    subst this
    obtain ⟨w', cur', e1, e2, e3, e4, f1, f2, f3, f4, f5⟩ := store_mem (P := P) h5 (news := news) (o := p.off + o) (by omega) hone
    refine ⟨w', e1, h.writeRow (r' := { r with es := es' }) hb hp hf hf (by omega) f1 f2 f3 f4 f5 fun hA => ⟨hw, by dsimp only; rw [hflat, put_length hfit]; exact h2, .inr ⟨(fun e => by rw [hf] at e; cases e), h4, cur', T, (0, 0), .inl ⟨e2, h5k⟩, by omega, fun _ => rfl, fun i av g => ?_⟩⟩⟩
    dsimp only at g
    rw [hflat, put_get hfit] at g
    rw [e4]
    split at g
    · rename_i hi
      rw [if_pos (by omega)]
      have hi2 : i - o < news.length := by omega
      have q : news[i - o]? = some (news[i - o]) := List.getElem?_eq_getElem hi2
      refine ⟨news[i - o], by rw [show p.off + i - (p.off + o) = i - o by omega]; exact q, (hr _ _ _ q g).mono hA fun _ hx => hx⟩
    · rename_i hi
      rw [if_neg (by omega)]
      obtain ⟨u, q1, q2⟩ := h8 i av g
      exact ⟨u, q1, q2.mono hA fun _ hx => hx⟩

/-! ### Rows frozen -/
theorem FS.setR_same {τ : FS} {b : Nat} {r : Option ARow} (h : τ.rw b = r) : τ.setR b r = τ := by
  have : (fun x => if x = b then r else τ.rw x) = τ.rw := by funext x; split <;> simp_all
  unfold FS.setR; rw [this]
theorem freeze_one {τ : FS} (h : Sim w0 N ρ F τ a w) {b : Nat} {q r : ARow} {p : Pl} (hb : τ.rw b = some q) (hq : q = r ∨ q = { r with fro := true }) (hp : ρ.r b = some p) :
    ∃ F' : Nat → Prop, (∀ x, F x → F' x) ∧ (∀ x, F' x → F x ∨ ¬ w0.V x) ∧ (0 < p.lim → F' p.blk) ∧ Sim w0 N ρ F' (τ.setR b (some { r with fro := true })) a w := by
  cases hf : q.fro
  · have hqr : q = r := by
      rcases hq with e | e
      · exact e
      · rw [e] at hf; cases hf
    subst hqr
    exact h.freeze hb hp hf
  · have hqr : ({ r with fro := true } : ARow) = q := by
      rcases hq with e | e
      · subst e; cases q; simp at hf; subst hf; rfl
      · exact e.symm
    rw [hqr, FS.setR_same hb]
    refine ⟨F, fun _ hx => hx, fun _ hx => .inl hx, fun hl => ?_, h⟩
    rcases (h.rw b q p hb hp).2.2 with h3 | ⟨h3, _⟩
    · omega
    · exact h3 hf
theorem freeze_all (rw0 : Nat → Option ARow) : ∀ (ids : List Nat) (F : Nat → Prop) (τ : FS), Sim w0 N ρ F τ a w → (∀ b r, rw0 b = some r → τ.rw b = some r ∨ τ.rw b = some { r with fro := true }) → (∀ b ∈ ids, ∃ r p, rw0 b = some r ∧ ρ.r b = some p) →
    ∃ F' : Nat → Prop, (∀ x, F x → F' x) ∧ (∀ x, F' x → F x ∨ ¬ w0.V x) ∧ (∀ b ∈ ids, ∀ p, ρ.r b = some p → 0 < p.lim → F' p.blk) ∧ Sim w0 N ρ F' (τ.ups (frzUp rw0 ids)) a w ∧ (∀ b r, rw0 b = some r → (τ.ups (frzUp rw0 ids)).rw b = some r ∨ (τ.ups (frzUp rw0 ids)).rw b = some { r with fro := true }) ∧ (∀ b, b ∉ ids → (τ.ups (frzUp rw0 ids)).rw b = τ.rw b)
  | [], F, τ, h, hq, _ => ⟨F, fun _ hx => hx, fun _ hx => .inl hx, by simp, h, hq, fun _ _ => rfl⟩
  | b :: ids, F, τ, h, hq, hid => by
    obtain ⟨r, p, e1, e2⟩ := hid b (List.mem_cons_self ..)
    obtain ⟨q, hb, hqr⟩ : ∃ q, τ.rw b = some q ∧ (q = r ∨ q = { r with fro := true }) := by
      rcases hq b r e1 with e | e
      · exact ⟨_, e, .inl rfl⟩
      · exact ⟨_, e, .inr rfl⟩
    obtain ⟨F1, g1, g2, g3, g4⟩ := freeze_one h hb hqr e2
    obtain ⟨F2, k1, k2, k3, k4, k5, k6⟩ := freeze_all rw0 ids F1 (τ.setR b (some { r with fro := true })) g4 (fun b' r' e => by
      simp only [FS.setR]
      by_cases hx : b' = b
      · rw [if_pos hx]; subst hx; rw [e1] at e; cases e; exact .inr rfl
      · rw [if_neg hx]; exact hq b' r' e) (fun b' hb' => hid b' (List.mem_cons_of_mem _ hb'))
    have e3 : τ.ups (frzUp rw0 (b :: ids)) = (τ.setR b (some { r with fro := true })).ups (frzUp rw0 ids) := by
      simp [frzUp, FS.ups, FS.upd, e1]
    rw [e3]
    refine ⟨F2, fun x hx => k1 x (g1 x hx), fun x hx => (k2 x hx).elim (g2 x) .inr, fun b' hb' p' hp' hl => ?_, k4, k5, fun b' hb' => ?_⟩
    · rcases List.mem_cons.1 hb' with rfl | hb'
      · rw [e2] at hp'; cases hp'; exact k1 _ (g3 hl)
      · exact k3 b' hb' p' hp' hl
    · simp at hb'
      rw [k6 b' hb'.2]; simp [FS.setR, hb'.1]
theorem frzC_rep (h : Sim w0 N ρ F σ a w) {v : Value} {av av' : AV} (hv : Rep ρ w0.V F w v av) (he : frzC σ.rw av = some av') {F' : Nat → Prop} (hF : ∀ x, F x → F' x) (hfr : ∀ b ∈ frzIds av, ∀ p, ρ.r b = some p → 0 < p.lim → F' p.blk) : Rep0 F' w v av' := by
  have hmono {u : Value} {x : AV} (hx : Rep0 F w u x) : Rep0 F' w u x := hx.mono (Agree.refl _ _) hF
  by_cases hr : ∃ b k lo n, av = .ref b k lo n
  · obtain ⟨b, k, lo, n, rfl⟩ := hr
    simp only [frzC] at he
    split at he
    · rename_i r hr
      split at he
      · rename_i hc
        cases he
        obtain ⟨ad, c, p, f, rfl, hp, hra, hw, hlen, hcc⟩ := ref_row h hv hr hc.1 hc.2
        refine .sl ad n c k _ f hlen hw ?_ fun i x e => hmono (hcc i x e)
        exact hra.mono (Agree.refl _ _) fun x hx => by rw [hx.1]; exact hfr b (by simp [frzIds]) p hp hx.2
      · cases he
    · cases he
  · have he' : (if pureC av then some av else none) = some av' := by
      cases av <;> first | exact he | exact absurd ⟨_, _, _, _, rfl⟩ hr
    split at he'
    · rename_i hp; cases he'; exact hmono (hv.pureC hp)
    · cases he'
theorem frzV_rep (h : Sim w0 N ρ F σ a w) {v : Value} {av av' : AV} (hv : Rep ρ w0.V F w v av) (he : frzV σ.rw av = some av') {F' : Nat → Prop} (hF : ∀ x, F x → F' x) (hfr : ∀ b ∈ frzIds av, ∀ p, ρ.r b = some p → 0 < p.lim → F' p.blk) : Rep0 F' w v av' := by
  by_cases ha : ∃ l, av = .agg l
  · obtain ⟨l, rfl⟩ := ha
    simp only [frzV, Option.map_eq_some_iff] at he
    obtain ⟨l', he, rfl⟩ := he
    obtain ⟨cs, rfl, hl, hc⟩ := hv.agg_inv
    obtain ⟨hlen, hget⟩ := mapM_get he
    refine .agg cs l' (by omega) fun i u x e1 e2 => ?_
    have hi := (List.getElem?_eq_some_iff.1 e2).1
    obtain ⟨y, e3⟩ : ∃ y, l[i]? = some y := ⟨_, List.getElem?_eq_getElem (by omega)⟩
    have e4 : frzC σ.rw y = some x := hget i y x e3 e2
    refine frzC_rep h (hc i u y e1 e3) e4 hF fun b hb p hp hl => hfr b ?_ p hp hl
    simp only [frzIds, List.mem_flatMap]
    refine ⟨y, List.mem_of_getElem? e3, ?_⟩
    cases y <;> simp [frzIds] at hb ⊢
    · exact hb
    · simp [frzC, pureC] at e4
  · have he' : frzC σ.rw av = some av' := by
      cases av <;> first | exact he | exact absurd ⟨_, rfl⟩ ha
    exact frzC_rep h hv he' hF hfr
end
end Go.Proofs.Ytjacmhaeemhinaa
