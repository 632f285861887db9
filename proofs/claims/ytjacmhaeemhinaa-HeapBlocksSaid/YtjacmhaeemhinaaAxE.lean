/- Equality of structs and arrays, cell by cell. -/
import Derived.Test.YtjacmhaeemhinaaAx9
import Derived.Laws.StructEq
import Derived.ChangeKeysEq
namespace Go.Proofs.Ytjacmhaeemhinaa
open Go.RowKit
set_option linter.unusedVariables false

def eqFs (P : Program) (g : TypeId → Option (List Nat)) : Nat → List Field → Option (List Nat)
  | _, [] => some []
  | off, f :: fs => if f.name ≠ "_" ∧ f.offset = off then (g f.type).bind fun l => if l = [] then none else (eqFs P g (off + l.length) fs).map (l ++ ·) else none
/-- The kinds of a type's cells, if it is compared cell by cell. -/
def eqOk (P : Program) : Nat → TypeId → Option (List Nat)
  | 0, _ => none
  | d + 1, t => ((match P.underlying t with
    | some (.int _) => some [0]
    | some .bool => some [1]
    | some .string => some [2]
    | some (.struct fs) => if P.stoodInHeld t = true then none else eqFs P (eqOk P d) 0 fs.toList
    | some (.array n e) => (eqOk P d e).bind fun l => if l = [] then none else some (List.replicate n l).flatten
    | _ => none) : Option (List Nat)).bind fun l => if szOf P t = some l.length then some l else none

theorem eqTs_len : ∀ {ts : List Nat} {xs ys : List AV} {r : Bool}, eqTs ts xs ys = some r → xs.length = ts.length ∧ ys.length = ts.length
  | [], [], [], _, _ => ⟨rfl, rfl⟩
  | t :: ts, x :: xs, y :: ys, r, h => by
    simp only [eqTs] at h
    split at h
    · rename_i a b h1 h2
      have := eqTs_len h2
      simp [this.1, this.2]
    · cases h
  | [], _ :: _, _, _, h => by simp [eqTs] at h
  | [], [], _ :: _, _, h => by simp [eqTs] at h
  | _ :: _, [], _, _, h => by simp [eqTs] at h
  | _ :: _, _ :: _, [], _, h => by simp [eqTs] at h
theorem eqTs_app : ∀ {t1 t2 : List Nat} {xs ys : List AV} {r : Bool}, eqTs (t1 ++ t2) xs ys = some r → ∃ a b, eqTs t1 (xs.take t1.length) (ys.take t1.length) = some a ∧ eqTs t2 (xs.drop t1.length) (ys.drop t1.length) = some b ∧ r = (a && b)
  | [], t2, xs, ys, r, h => ⟨true, r, by simp [eqTs], by simpa using h, by simp⟩
  | t :: t1, t2, xs, ys, r, h => by
    match xs, ys with
    | [], _ => simp [eqTs] at h
    | _ :: _, [] => simp [eqTs] at h
    | x :: xs, y :: ys =>
      simp only [List.cons_append, eqTs] at h
      split at h
      · rename_i a b h1 h2
        cases h
        obtain ⟨a', b', e1, e2, rfl⟩ := eqTs_app h2
        refine ⟨a && a', b', ?_, by simpa using e2, by rw [Bool.and_assoc]⟩
        simp only [List.length_cons, List.take_succ_cons, eqTs, h1, e1]
      · cases h

theorem eqTs_one {t : Nat} {a b : AV} {r : Bool} (h : eqTs [t] [a] [b] = some r) : eqT t a b = some r := by
  simp only [eqTs] at h
  cases hq : eqT t a b with
  | none => rw [hq] at h; cases h
  | some x => rw [hq] at h; simpa using h
theorem eqT_0 {a b : AV} {r : Bool} (h : eqT 0 a b = some r) : ∃ k x y, a = .int k x ∧ b = .int k y ∧ decide (x = y) = r := by
  cases a with
  | int k x => cases b with
    | int k' y =>
      by_cases e : k = k'
      · subst e; exact ⟨k, x, y, rfl, rfl, by simpa [eqT] using h⟩
      · simp [eqT, e] at h
    | _ => simp [eqT] at h
  | _ => simp [eqT] at h
theorem eqT_1 {a b : AV} {r : Bool} (h : eqT 1 a b = some r) : ∃ x y, a = .bool x ∧ b = .bool y ∧ (x == y) = r := by
  cases a with
  | bool x => cases b with
    | bool y => exact ⟨x, y, rfl, rfl, by simpa [eqT] using h⟩
    | _ => simp [eqT] at h
  | _ => simp [eqT] at h
theorem eqT_2 {a b : AV} {r : Bool} (h : eqT 2 a b = some r) : ∃ x y, a = .str x ∧ b = .str y ∧ decide (x = y) = r := by
  cases a with
  | str x => cases b with
    | str y => exact ⟨x, y, rfl, rfl, by simpa [eqT] using h⟩
    | _ => simp [eqT] at h
  | _ => simp [eqT] at h
section
variable {P : Program} {ρ : Env} {B : Nat → Prop} {F : Nat → Prop} {w : World}
/-- A value, by its cells. -/
def RV1 (ρ : Env) (B F : Nat → Prop) (w : World) (g : Bool) (v : Value) (l : List AV) : Prop := (g = true → Rep ρ B F w v (.agg l)) ∧ (g = false → ∃ a, l = [a] ∧ Rep ρ B F w v a)
theorem rv1_part {t : TypeId} {g : Bool} {n off : Nat} (hg : aggOf P t = some g) (hn : szOf P t = some n) (h1 : g = false → n = 1) {cs : Array Value} {l : List AV} (hl : cs.size = l.length) (hc : ∀ (i : Nat) (u : Value) (av : AV), cs[i]? = some u → l[i]? = some av → Rep ρ B F w u av) (ho : off + n ≤ l.length) :
    ∃ v, (part t cs off).run P w = .ok v w ∧ RV1 ρ B F w g v ((l.drop off).take n) := by
  obtain ⟨v, h2, h3⟩ := run_part hg hn hl hc ho h1
  refine ⟨v, h2, fun e => ?_, fun e => ?_⟩
  · rw [e] at h3; exact h3
  · subst e
    have := h1 rfl
    subst this
    have e2 : l[off]? = some (l[off]'(by omega)) := List.getElem?_eq_getElem (by omega)
    refine ⟨l[off]'(by omega), ?_, by simpa [e2] using h3⟩
    rw [List.drop_eq_getElem_cons (show off < l.length by omega)]; rfl
def EqR (P : Program) (d : Nat) (t : TypeId) (ts : List Nat) : Prop := ∃ g, aggOf P t = some g ∧ szOf P t = some ts.length ∧ (g = false → ts.length = 1) ∧
  ∀ (ρ : Env) (B F : Nat → Prop) (w : World) (d' : Nat), d ≤ d' → ∀ (v1 v2 : Value) (l1 l2 : List AV) (r : Bool), RV1 ρ B F w g v1 l1 → RV1 ρ B F w g v2 l2 → eqTs ts l1 l2 = some r → (Op.equalIn d' t v1 v2).run P w = .ok r w
theorem eqFs_run {d : Nat} (ih : ∀ t ts, eqOk P d t = some ts → EqR P d t ts) (d' : Nat) (hd : d ≤ d') {c1 c2 : Array Value} {l1 l2 : List AV} (hl1 : c1.size = l1.length) (hl2 : c2.size = l2.length) (h1 : ∀ (i : Nat) (u : Value) (av : AV), c1[i]? = some u → l1[i]? = some av → Rep ρ B F w u av) (h2 : ∀ (i : Nat) (u : Value) (av : AV), c2[i]? = some u → l2[i]? = some av → Rep ρ B F w u av) :
    ∀ (fs : List Field) (off : Nat) (ts : List Nat) (r : Bool), eqFs P (eqOk P d) off fs = some ts → eqTs ts (l1.drop off) (l2.drop off) = some r → (Op.eqFields d' c1 c2 fs).run P w = .ok r w
  | [], off, ts, r, h, hr => by
    simp only [eqFs, Option.some.injEq] at h
    subst h
    have hlen := eqTs_len hr
    have e1 : l1.drop off = [] := List.eq_nil_of_length_eq_zero hlen.1
    have e2 : l2.drop off = [] := List.eq_nil_of_length_eq_zero hlen.2
    rw [e1, e2] at hr
    simp [eqTs] at hr
    subst hr
    simp [Op.eqFields]
  | f :: fs, off, ts, r, h, hr => by
    simp only [eqFs] at h
    split at h
    case isFalse => cases h
    rename_i hf
    obtain ⟨hnm, rfl⟩ := hf
    obtain ⟨l, g1, h⟩ := Option.bind_eq_some_iff.1 h
    split at h
    · cases h
    rename_i hne
    have hpos : 0 < l.length := List.length_pos_iff.2 hne
    obtain ⟨ts', g2, rfl⟩ := Option.map_eq_some_iff.1 h
    obtain ⟨a, b, e1, e2, rfl⟩ := eqTs_app hr
    obtain ⟨g, k1, k2, k3, k4⟩ := ih _ _ g1
    have hlen := eqTs_len hr
    simp only [List.length_drop, List.length_append] at hlen
    rw [List.drop_drop, List.drop_drop] at e2
    have rest := eqFs_run ih d' hd hl1 hl2 h1 h2 fs (f.offset + l.length) ts' b g2 e2
    obtain ⟨v1, p1, q1⟩ := rv1_part (off := f.offset) k1 k2 k3 hl1 h1 (by omega)
    obtain ⟨v2, p2, q2⟩ := rv1_part (off := f.offset) k1 k2 k3 hl2 h2 (by omega)
    have hq := k4 ρ B F w d' hd v1 v2 _ _ a q1 q2 e1
    simp only [Op.eqFields, hnm, ne_eq, not_false_eq_true, if_true, Sem.run_bind, p1, p2, hq, Result.andThen_ok]
    cases a
    · simp
    · simpa using rest
theorem eqIs_run {d : Nat} {e : TypeId} {te : List Nat} (hR : EqR P d e te) (hce : P.cellsOf e = te.length) (d' : Nat) (hd : d ≤ d') {c1 c2 : Array Value} {l1 l2 : List AV} (hl1 : c1.size = l1.length) (hl2 : c2.size = l2.length) (h1 : ∀ (i : Nat) (u : Value) (av : AV), c1[i]? = some u → l1[i]? = some av → Rep ρ B F w u av) (h2 : ∀ (i : Nat) (u : Value) (av : AV), c2[i]? = some u → l2[i]? = some av → Rep ρ B F w u av) (hpos : 0 < te.length) :
    ∀ (n i : Nat) (r : Bool), eqTs (List.replicate n te).flatten (l1.drop (i * te.length)) (l2.drop (i * te.length)) = some r → (Op.eqItems d' e (P.cellsOf e) c1 c2 (List.range' i n)).run P w = .ok r w
  | 0, i, r, hr => by
    have hlen := eqTs_len hr
    simp only [List.replicate_zero, List.flatten_nil, List.length_nil] at hlen
    rw [List.eq_nil_of_length_eq_zero hlen.1, List.eq_nil_of_length_eq_zero hlen.2] at hr
    simp [eqTs] at hr
    subst hr
    simp [Op.eqItems]
  | n + 1, i, r, hr => by
    have hlen := eqTs_len hr
    rw [List.replicate_succ, List.flatten_cons] at hr hlen
    simp only [List.length_drop, List.length_append] at hlen
    obtain ⟨a, b, e1, e2, rfl⟩ := eqTs_app hr
    rw [List.drop_drop, List.drop_drop, show i * te.length + te.length = (i + 1) * te.length by rw [Nat.add_mul]; omega] at e2
    have rest := eqIs_run hR hce d' hd hl1 hl2 h1 h2 hpos n (i + 1) b e2
    obtain ⟨g, k1, k2, k3, k4⟩ := hR
    obtain ⟨v1, p1, q1⟩ := rv1_part (off := i * te.length) k1 k2 k3 hl1 h1 (by omega)
    obtain ⟨v2, p2, q2⟩ := rv1_part (off := i * te.length) k1 k2 k3 hl2 h2 (by omega)
    have hq := k4 ρ B F w d' hd v1 v2 _ _ a q1 q2 e1
    rw [List.range'_succ]
    rw [← hce] at p1 p2
    simp only [Op.eqItems, Sem.run_bind, p1, p2, hq, Result.andThen_ok]
    cases a
    · simp
    · simpa using rest
theorem eqOk_run : ∀ (d : Nat) (t : TypeId) (ts : List Nat), eqOk P d t = some ts → EqR P d t ts
  | 0, t, ts, h => by cases h
  | d + 1, t, ts, h => by
    have ih := eqOk_run d
    simp only [eqOk] at h
    obtain ⟨l, h, hsz⟩ := Option.bind_eq_some_iff.1 h
    split at hsz
    case isFalse => cases hsz
    rename_i hs
    cases hsz
    have one : ∀ {v : Value} {l : List AV} {ρ : Env} {B F : Nat → Prop} {w : World}, RV1 ρ B F w false v l → ∃ a, l = [a] ∧ Rep ρ B F w v a := fun h => h.2 rfl
    split at h
    · rename_i k hu
      cases h
      refine ⟨false, by simp [aggOf, hu], hs, fun _ => rfl, fun ρ B F w d' hd v1 v2 l1 l2 r q1 q2 hr => ?_⟩
      obtain ⟨d', rfl⟩ : ∃ n, d' = n + 1 := ⟨d' - 1, by omega⟩
      obtain ⟨a, rfl, r1⟩ := one q1
      obtain ⟨b, rfl, r2⟩ := one q2
      obtain ⟨k1, x, y, rfl, rfl, rfl⟩ := eqT_0 (eqTs_one hr)
      rw [r1.int_inv, r2.int_inv, run_equalIn_int w d' t _ _ _ _ hu]
      congr 1
    · rename_i hu
      cases h
      refine ⟨false, by simp [aggOf, hu], hs, fun _ => rfl, fun ρ B F w d' hd v1 v2 l1 l2 r q1 q2 hr => ?_⟩
      obtain ⟨d', rfl⟩ : ∃ n, d' = n + 1 := ⟨d' - 1, by omega⟩
      obtain ⟨a, rfl, r1⟩ := one q1
      obtain ⟨b, rfl, r2⟩ := one q2
      obtain ⟨x, y, rfl, rfl, rfl⟩ := eqT_1 (eqTs_one hr)
      rw [r1.bool_inv, r2.bool_inv, run_equalIn_bool' w d' t _ _ hu]
    · rename_i hu
      cases h
      refine ⟨false, by simp [aggOf, hu], hs, fun _ => rfl, fun ρ B F w d' hd v1 v2 l1 l2 r q1 q2 hr => ?_⟩
      obtain ⟨d', rfl⟩ : ∃ n, d' = n + 1 := ⟨d' - 1, by omega⟩
      obtain ⟨a, rfl, r1⟩ := one q1
      obtain ⟨b, rfl, r2⟩ := one q2
      obtain ⟨x, y, rfl, rfl, rfl⟩ := eqT_2 (eqTs_one hr)
      obtain ⟨s1, rfl, f1⟩ := r1.str_inv
      obtain ⟨s2, rfl, f2⟩ := r2.str_inv
      rw [run_equalIn_string w d' t _ _ hu]
      have t1 : s1.toList = s1.data.toList := ByteArray.toList_eq s1
      have t2 : s2.toList = s2.data.toList := ByteArray.toList_eq s2
      rw [t1, t2, f1, f2]
      congr 1
      exact (Bool.beq_eq_decide_eq x y)
    · rename_i fs hu
      split at h
      · cases h
      · rename_i hst
        have hst : P.stoodInHeld t = false := by simpa using hst
        refine ⟨true, by simp [aggOf, hu], hs, (fun e => by cases e), fun ρ B F w d' hd v1 v2 l1 l2 r q1 q2 hr => ?_⟩
        obtain ⟨d', rfl⟩ : ∃ n, d' = n + 1 := ⟨d' - 1, by omega⟩
        obtain ⟨c1, rfl, g1, g2⟩ := (q1.1 rfl).agg_inv
        obtain ⟨c2, rfl, g3, g4⟩ := (q2.1 rfl).agg_inv
        have hfs : P.fieldsOf t = fs := by simp [Program.fieldsOf, hu]
        rw [run_equalIn_struct w d' t c1 c2 (by rw [hfs]; exact hu) hst, hfs]
        exact eqFs_run ih d' (by omega) g1 g3 g2 g4 fs.toList 0 _ r h (by simpa using hr)
    · rename_i n e hu
      obtain ⟨te, h1, h⟩ := Option.bind_eq_some_iff.1 h
      split at h
      · cases h
      rename_i hne
      cases h
      have hpos : 0 < te.length := List.length_pos_iff.2 hne
      have hR := ih _ _ h1
      refine ⟨true, by simp [aggOf, hu], hs, (fun e => by cases e), fun ρ B F w d' hd v1 v2 l1 l2 r q1 q2 hr => ?_⟩
      obtain ⟨d', rfl⟩ : ∃ n, d' = n + 1 := ⟨d' - 1, by omega⟩
      obtain ⟨c1, rfl, g1, g2⟩ := (q1.1 rfl).agg_inv
      obtain ⟨c2, rfl, g3, g4⟩ := (q2.1 rfl).agg_inv
      have hR' := hR
      obtain ⟨g, k1, k2, k3, k4⟩ := hR
      obtain ⟨i, hi, hiz⟩ := Option.map_eq_some_iff.1 k2
      have hce : P.cellsOf e = te.length := by simp [Program.cellsOf, hi, hiz]
      rw [run_equalIn_array w d' c1 c2 hu hi, List.range_eq_range']
      exact eqIs_run hR' hce d' (by omega) g1 g3 g2 g4 hpos n 0 r (by simpa using hr)
    · cases h
end
end Go.Proofs.Ytjacmhaeemhinaa

namespace Go.Proofs.Ytjacmhaeemhinaa
open Go.RowKit
set_option linter.unusedVariables false

def cO : Operand → Option Opd
  | .tmp t => some (.tmp t)
  | .const v => some (.cst (cst v))
  | .func f => some (.cst (.fn f []))
  | .global _ => none
def cOo : Option Operand → Option (Option Opd)
  | none => some none
  | some x => (cO x).map some
def isArr (P : Program) (t : TypeId) : Bool := match P.underlying t with | some (.array _ _) => true | _ => false

def compEq (P : Program) (op : BinOp) (t : TypeId) (x y : Opd) : Option AI :=
  if P.eqGuardType P.depth t = true ∨ aggOf P t ≠ some true then none else match op with
    | .eql => (eqOk P 100 t).map fun ts => .eqA false ts x y
    | .neq => (eqOk P 100 t).map fun ts => .eqA true ts x y
    | _ => none
def compBin (P : Program) (op : BinOp) (t : TypeId) (x y : Opd) : Option AI :=
  match P.underlying t with
  | some (.int _) => some (.bin op x y)
  | some .bool => match op with | .eql => some (.binB false x y) | .neq => some (.binB true x y) | _ => none
  | some .string => some (.binT op x y)
  | some (.slice _) => match op, y with
    | .eql, .cst .nil => some (.isN false x)
    | .neq, .cst .nil => some (.isN true x)
    | _, _ => none
  | some (.struct _) => compEq P op t x y
  | some (.array _ _) => compEq P op t x y
  | _ => none
def compConv (P : Program) (src dst : TypeId) (x : Opd) : Option AI :=
  match P.underlying src, P.underlying dst with
  | some (.int _), some (.int k) => some (.conv k x)
  | some .string, some .string => some (.mvS x)
  | some (.slice e), some .string => match P.underlying e with | some (.int .u8) => some (.b2s x) | _ => none
  | some .string, some (.slice e) => match P.underlying e with | some (.int .u8) => some (.s2b x) | _ => none
  | some (.slice e), some (.slice _) => if src = dst then (match P.underlying e with | some (.int .u8) => some (.mvL x) | _ => none) else none
  | _, _ => none
def compSlice (P : Program) (t : TypeId) (x : Opd) (lo hi mx : Option Opd) : Option AI :=
  match P.underlying t with
  | some (.slice e) => if mx.isSome && hi.isNone then none else (szOf P e).map fun k => .slS k x lo hi mx
  | some (.array n e) => if szOf P e = some 1 ∧ mx.isNone ∧ n ≤ 1000000 then some (.slA n x lo hi) else none
  | some .string => match mx with | none => some (.slT x lo hi) | _ => none
  | _ => none
def compBuiltin (P : Program) (b : Builtin) (ts : Array TypeId) (args : List Opd) : Option AI :=
  match b, ts.toList, args with
  | .append, [t, tx], [x, y] =>
    match P.underlying t, P.underlying tx with
    | some (.slice e), some (.slice _) =>
      match P.info? e with
      | some i => match i.zero with
        | some z => if z.cells.size = i.size then some (.app i.size i.bytes x y) else none
        | none => none
      | none => none
    | some (.slice e), some (.int _) =>
      match P.info? e with
      | some i => match i.zero with
        | some z => some (.appz i.size i.bytes (cst z) x y)
        | none => none
      | none => none
    | _, _ => none
  | .cap, [t], [x] => match P.underlying t with | some (.slice _) => some (.capV x) | _ => none
  | .copy, [t, _], [x, y] => match P.underlying t with | some (.slice e) => (szOf P e).map fun k => .cpy k x y | _ => none
  | .clear, [t], [x] => match P.underlying t with | some (.slice e) => (szOf P e).bind fun k => (zeroOf P e).map fun z => .clr k (cst z) x | _ => none
  | .len, [t], [x] => match P.underlying t with | some .string => some (.lenT x) | some (.slice _) => some (.lenV x) | some (.array n _) => some (.lenC n) | _ => none
  | .min, _, xs => some (.min xs)
  | .max, _, xs => some (.max xs)
  | _, _, _ => none
def comp (P : Program) (o : Op) : Option AI :=
  match o with
  | .move x | .assign x => (cO x).map .mv
  | .pick c a b => (cO c).bind fun c => (cO a).bind fun a => (cO b).map fun b => .pick c a b
  | .alloc t => (zeroOf P t).map fun z => if isArr P t then (match cst z with | .agg l => .newa l | _ => .no) else .newb (cst z).cells
  | .box t x => (cO x).map fun x => if isArr P t then .boxa x else .box x
  | .build t parts => (zeroOf P t).bind fun z => (placesOf P t).bind fun place => ((parts.toList.mapM fun p => (place p.1).bind fun q => (cO p.2).map fun x => ((q.1, q.2, x) : Nat × Nat × Opd))).map fun qs => .build (cst z).cells qs
  | .buildSlice t len parts => match P.underlying t with
    | some (.slice e) => (szOf P e).bind fun k => (zeroOf P e).bind fun _ => if parts.toList.map (·.1) = List.range' 0 len ∧ parts.size = len ∧ len * k ≤ 16777216 ∧ len ≤ 1000000 then (parts.toList.mapM fun p => cO p.2).map fun xs => .bsl k xs else none
    | _ => none
  | .load t a => (aggOf P t).bind fun g => (szOf P t).bind fun n => (cO a).map fun a => .load g n a
  | .store t a x => (szOf P t).bind fun n => (cO a).bind fun a => (cO x).map fun x => .store n a x
  | .nilCheck x => (cO x).map .nchk
  | .binOp op t x y _ => (cO x).bind fun x => (cO y).bind fun y => compBin P op t x y
  | .unOp op _ x => (cO x).map fun x => match op with | .not => .not x | .neg => .neg x | .xor => .com x | .plus => .no
  | .convert src dst x => (cO x).bind fun x => compConv P src dst x
  | .makeSlice t n c => match P.underlying t with
    | some (.slice e) => match P.info? e with
      | some i => (cO n).bind fun n => (cO c).bind fun c => i.zero.map fun z => .mks i.size i.bytes (cst z) n c
      | none => none
    | _ => none
  | .makeFunc (.func f) first caps => if first.size = 0 then (caps.toList.mapM cO).map fun xs => .mkf f xs else none
  | .slice t x lo hi mx => (cO x).bind fun x => (cOo lo).bind fun lo => (cOo hi).bind fun hi => (cOo mx).bind fun mx => compSlice P t x lo hi mx
  | .fieldAddr s x i => match P.underlying s with
    | some (.struct fields) => match fields[i]? with
      | some f => match szOf P f.type with
        | some n => if n = 0 then none else (cO x).map fun x => .fadr f.offset x
        | none => none
      | none => none
    | _ => none
  | .field s x i => match P.underlying s with
    | some (.struct fields) => match fields[i]? with
      | some f => (szOf P f.type).bind fun n => (aggOf P f.type).bind fun g => (cO x).map fun x => .fld f.offset n g x
      | none => none
    | _ => none
  | .indexAddr t x ix => match P.underlying t with
    | some (.slice e) => (szOf P e).bind fun k => (cO x).bind fun x => (cO ix).map fun i => .iadS k x i
    | some (.array n e) => (szOf P e).bind fun k => (cO x).bind fun x => (cO ix).map fun i => .iadA k n x i
    | _ => none
  | .index t x ix => match P.underlying t with
    | some (.array n e) => (szOf P e).bind fun k => (aggOf P e).bind fun g => (cO x).bind fun x => (cO ix).map fun i => .idxA k n g x i
    | some .string => (cO x).bind fun x => (cO ix).map fun i => .idxT x i
    | _ => none
  | .extract x i => (cO x).map fun x => .ext x i
  | .call c => match c.callee with
    | .builtin b => (c.args.toList.mapM cO).bind fun xs => compBuiltin P b c.argTypes xs
    | _ => none
  | _ => none
def isCall : AI → Bool
  | .call .. | .callv .. => true
  | _ => false
/-- Operations that no state tells (maps; what ends a program): as calls of a function value that is none. -/
def xc (t k : Nat) : Opd := .cst (.int .i64 ((16 * t + k : Nat) : Int))
def isMap (P : Program) (t : TypeId) : Bool := match P.underlying t with | some (.map _ _) => true | _ => false
def compX (P : Program) (o : Op) : Option AI :=
  match o with
  | .makeMap t none => some (.callv (xc t 0) [])
  | .mapUpdate t m k x => (cO m).bind fun m => (cO k).bind fun k => (cO x).map fun x => .callv (xc t 1) [m, k, x]
  | .lookup t m k ok => (cO m).bind fun m => (cO k).map fun k => .callv (xc t (if ok then 3 else 2)) [m, k]
  | .range t x => (cO x).map fun x => .callv (xc t 6) [x]
  | .next it false => (cO it).map fun x => .callv (xc 0 7) [x]
  | .entry it => (cO it).map fun x => .callv (xc 0 9) [x]
  | .makeInterface _ _ => some (.callv (xc 0 8) [])
  | .panic _ => some (.callv (xc 0 8) [])
  | .call ⟨.builtin .delete, args, ts⟩ => (ts[0]?).bind fun t => (args.toList.mapM cO).map fun xs => .callv (xc t 4) xs
  | .call ⟨.builtin .len, args, ts⟩ => (ts[0]?).bind fun t => if isMap P t then (args.toList.mapM cO).map fun xs => .callv (xc t 5) xs else none
  | _ => none
theorem compX_call {P : Program} {o : Op} {ai : AI} (h : compX P o = some ai) : ∃ t k xs, ai = .callv (xc t k) xs ∧ ∀ c, o ≠ .defer c := by
  unfold compX at h
  split at h
  · cases h; exact ⟨_, _, _, rfl, fun c e => by cases e⟩
  · obtain ⟨m, _, h⟩ := Option.bind_eq_some_iff.1 h
    obtain ⟨k, _, h⟩ := Option.bind_eq_some_iff.1 h
    obtain ⟨x, _, rfl⟩ := Option.map_eq_some_iff.1 h
    exact ⟨_, _, _, rfl, fun c e => by cases e⟩
  · obtain ⟨m, _, h⟩ := Option.bind_eq_some_iff.1 h
    obtain ⟨k, _, rfl⟩ := Option.map_eq_some_iff.1 h
    exact ⟨_, _, _, rfl, fun c e => by cases e⟩
  · obtain ⟨x, _, rfl⟩ := Option.map_eq_some_iff.1 h
    exact ⟨_, _, _, rfl, fun c e => by cases e⟩
  · obtain ⟨x, _, rfl⟩ := Option.map_eq_some_iff.1 h
    exact ⟨_, _, _, rfl, fun c e => by cases e⟩
  · obtain ⟨x, _, rfl⟩ := Option.map_eq_some_iff.1 h
    exact ⟨_, _, _, rfl, fun c e => by cases e⟩
  · cases h; exact ⟨_, _, _, rfl, fun c e => by cases e⟩
  · cases h; exact ⟨_, _, _, rfl, fun c e => by cases e⟩
  · obtain ⟨t, _, h⟩ := Option.bind_eq_some_iff.1 h
    obtain ⟨x, _, rfl⟩ := Option.map_eq_some_iff.1 h
    exact ⟨_, _, _, rfl, fun c e => by cases e⟩
  · obtain ⟨t, _, h⟩ := Option.bind_eq_some_iff.1 h
    split at h
    · obtain ⟨x, _, rfl⟩ := Option.map_eq_some_iff.1 h
      exact ⟨_, _, _, rfl, fun c e => by cases e⟩
    · cases h
  · cases h
/-- The same, and the calls. -/
def compA (P : Program) (o : Op) : Option AI :=
  match o with
  | .call ⟨.value (.func f), args, _⟩ => (args.toList.mapM cO).map fun xs => .call f xs
  | .call ⟨.value (.tmp t), args, _⟩ => (args.toList.mapM cO).map fun xs => .callv (.tmp t) xs
  | o => match compX P o with
    | some ai => some ai
    | none => (comp P o).bind fun ai => if isCall ai then none else some ai

/-- New boxes, new rows. -/
def alB : AI → Bool
  | .newb .. | .box .. => true
  | _ => false
def alR : AI → Bool
  | .newa .. | .boxa .. | .bsl .. | .mks .. | .app .. | .appz .. => true
  | _ => false
theorem al_num {bo : Bool} {L : Opd → AV} {bx : Nat → Option (List AV)} {rw : Nat → Option ARow} {bb br : Nat} {ai : AI} (hok : (aistep bo L bx rw bb br ai).ok) : (alB ai = true → (aistep bo L bx rw bb br ai).nb = 1) ∧ (alR ai = true → (aistep bo L bx rw bb br ai).nr = 1) := by
  refine ⟨fun h => ?_, fun h => ?_⟩ <;> cases ai <;> first | (cases h; done) | skip
  · rfl
  · rfl
  · rfl
  · simp only [aistep] at hok ⊢; split at hok <;> first | exact hok.elim | rfl
  · simp only [aistep] at hok ⊢; split at hok <;> first | exact hok.elim | rfl
  · simp only [aistep] at hok ⊢; split at hok <;> first | exact hok.elim | rfl
  · simp only [aistep] at hok ⊢
    split at hok
    · split at hok
      · rfl
      · exact hok.elim
    · exact hok.elim
  · simp only [aistep] at hok ⊢
    split at hok
    · split at hok
      · rfl
      · split at hok <;> first | exact hok.elim | rfl
      · rfl
      · split at hok <;> first | exact hok.elim | rfl
      · exact hok.elim
    · exact hok.elim
def lookT (tm : Nat → AV) : Opd → AV
  | .tmp t => tm t
  | .cst v => v

section
variable {P : Program} {w0 : Base} {N : Nat} {ρ : Env} {F : Nat → Prop} {σ : FS} {a : Act} {w : World}

theorem cO_rep (h : Sim w0 N ρ F σ a w) {x : Operand} {y : Opd} (hx : cO x = some y) : Rep ρ w0.V F w (a.eval x) (lookT σ.tm y) := by
  cases x with
  | tmp t => cases hx; exact h.tm t
  | const v => cases hx; exact .pure _ _ (cst_rep F w v)
  | func f => cases hx; exact .fn f #[] [] rfl (by simp)
  | global g => cases hx

/-- An operation gives a value, or nothing. -/
def GoodN (P : Program) (w0 : Base) (N : Nat) (ρ : Env) (F : Nat → Prop) (a : Act) (w : World) (s : Sem Next) (bb nb br nr : Nat) (σ' : FS) (av : AV) : Prop :=
  ∃ v w' ρ' F', (s.run P w = .ok (.value v) w' ∨ (s.run P w = .ok .skip w' ∧ v = undef)) ∧ Grown w0.V ρ ρ' F F' bb nb br nr ∧ Sim w0 N ρ' F' σ' a w' ∧ Rep ρ' w0.V F' w' v av

theorem Good.n {s : Sem Value} {bb nb br nr : Nat} {σ' : FS} {av : AV} (h : Good P w0 N ρ F a w s bb nb br nr σ' av) : GoodN P w0 N ρ F a w (do pure (.value (← s))) bb nb br nr σ' av := by
  obtain ⟨v, w', ρ', F', h1, h2, h3, h4⟩ := h
  exact ⟨v, w', ρ', F', .inl (by simp [h1]), h2, h3, h4⟩
theorem GV.n {s : Sem Value} {bb br : Nat} {av : AV} (h : Sim w0 N ρ F σ a w) (hv : GV P ρ w0.V F w s av) : GoodN P w0 N ρ F a w (do pure (.value (← s))) bb 0 br 0 σ av := (hv.good h).n
end
end Go.Proofs.Ytjacmhaeemhinaa

namespace Go.Proofs.Ytjacmhaeemhinaa
open Go.RowKit
set_option linter.unusedVariables false

section
variable {P : Program} {w0 : Base} {N : Nat} {ρ : Env} {F : Nat → Prop} {σ : FS} {a : Act} {w : World}

/-- What is to be shown of an operation. -/
def OpOk (P : Program) (w0 : Base) (N : Nat) (ρ : Env) (F : Nat → Prop) (σ : FS) (a : Act) (w : World) (s : Sem Next) (bb br : Nat) (r : Res) : Prop :=
  r.ok → GoodN P w0 N ρ F a w s bb r.nb br r.nr (σ.ups r.up) r.av

theorem ok_val {s : Sem Value} {bb br : Nat} {av : AV} (h : Sim w0 N ρ F σ a w) (hv : GV P ρ w0.V F w s av) : GoodN P w0 N ρ F a w (do pure (.value (← s))) bb 0 br 0 (σ.ups []) av := GV.n h hv

variable (bo : Bool) (bb br : Nat)

theorem op_mv (h : Sim w0 N ρ F σ a w) {x : Operand} {y : Opd} (hx : cO x = some y) : OpOk P w0 N ρ F σ a w (pure (.value (a.eval x))) bb br (aistep bo (lookT σ.tm) σ.bx σ.rw bb br (.mv y)) := fun _ =>
  ⟨_, w, ρ, F, .inl rfl, .refl _ _ _ _ _, h, cO_rep h hx⟩

theorem op_pick (h : Sim w0 N ρ F σ a w) {c x y : Operand} {c' x' y' : Opd} (hc : cO c = some c') (hx : cO x = some x') (hy : cO y = some y') : OpOk P w0 N ρ F σ a w (do pure (.value (if ← asBool (a.eval c) then a.eval x else a.eval y))) bb br (aistep bo (lookT σ.tm) σ.bx σ.rw bb br (.pick c' x' y')) := fun hok => by
  have rc := cO_rep h hc
  have rx := cO_rep h hx
  have ry := cO_rep h hy
  simp only [aistep] at hok ⊢
  split at hok
  · rename_i t ht
    obtain ⟨h1, h2, h3⟩ := hok
    have rc' := rc.val h1
    rw [ht] at rc'
    have e := rc'.bool_inv
    dsimp only
    refine ⟨if t then a.eval x else a.eval y, w, ρ, F, .inl (by simp [e, asBool]), .refl _ _ _ _ _, h, ?_⟩
    cases t
    · rw [pickV_false]; simpa using ry.val (h3 rfl)
    · rw [pickV_true]; simpa using rx.val (h2 rfl)
  · exact hok.elim

theorem op_alloc (h : Sim w0 N ρ F σ a w) {t : TypeId} {z : Value} (hbb : isArr P t = false → ρ.b bb = none) (hbr : isArr P t = true → ∀ l, cst z = .agg l → ρ.r br = none) (hz : zeroOf P t = some z) : OpOk P w0 N ρ F σ a w (do pure (.value (← Instr.alloc t true (.tuple #[])))) bb br (aistep bo (lookT σ.tm) σ.bx σ.rw bb br (if isArr P t then (match cst z with | .agg l => .newa l | _ => .no) else .newb (cst z).cells)) := fun hok => by
  obtain ⟨i, hi, hz⟩ := Option.bind_eq_some_iff.1 hz
  split at hok
  · rename_i harr
    rw [if_pos harr]
    split at hok
    · rename_i l hl
      simp only [aistep] at hok ⊢
      obtain ⟨h1, h2, h3⟩ := hok
      exact (g_alloca (P := P) (bb := bb) hi hz hl h (hbr harr l hl) h1 h2 h3).n
    · exact hok.elim
  · rename_i harr
    rw [if_neg harr]
    simp only [aistep] at hok ⊢
    exact (g_alloc (P := P) hi hz h (hbb (by simpa using harr)) hok).n

theorem op_box (h : Sim w0 N ρ F σ a w) {t : TypeId} (hbb : isArr P t = false → ρ.b bb = none) (hbr : isArr P t = true → ρ.r br = none) {x : Operand} {y : Opd} (hx : cO x = some y) : OpOk P w0 N ρ F σ a w (do pure (.value (← Instr.box t (a.eval x)))) bb br (aistep bo (lookT σ.tm) σ.bx σ.rw bb br (if isArr P t then .boxa y else .box y)) := fun hok => by
  have rx := cO_rep h hx
  split at hok
  · rename_i harr
    rw [if_pos harr]
    simp only [aistep] at hok ⊢
    split at hok
    · rename_i l hl
      obtain ⟨h1, h2, h3, h4⟩ := hok
      have := rx.val h1
      rw [hl] at this
      exact (g_boxa (P := P) (bb := bb) h (hbr harr) this h2 h3 h4).n
    · exact hok.elim
  · rename_i harr
    rw [if_neg harr]
    simp only [aistep] at hok ⊢
    exact (g_box (P := P) (br := br) h (hbb (by simpa using harr)) (rx.val hok.1) hok.2).n

theorem op_load (h : Sim w0 N ρ F σ a w) {t : TypeId} {x : Operand} {y : Opd} (hx : cO x = some y) {g : Bool} {n : Nat} (hg : aggOf P t = some g) (hn : szOf P t = some n) : OpOk P w0 N ρ F σ a w (do pure (.value (← Instr.loadAt t (a.eval x)))) bb br (aistep bo (lookT σ.tm) σ.bx σ.rw bb br (.load g n y)) := fun hok => by
  have rx := cO_rep h hx
  simp only [aistep] at hok ⊢
  split at hok
  · rename_i b off hv
    split at hok
    · rename_i cells hb
      obtain ⟨h1, h2⟩ := hok
      have r := rx.val h1; rw [hv] at r
      have q := v_load_b (P := P) hg hn h r hb h2
      have e : (loadC g n (cells.drop off)).nb = 0 ∧ (loadC g n (cells.drop off)).nr = 0 ∧ (loadC g n (cells.drop off)).up = [] := by cases g <;> exact ⟨rfl, rfl, rfl⟩
      simp only [e.1, e.2.1, e.2.2]
      exact ok_val h q
    · exact hok.elim
  · rename_i vol cs hv
    obtain ⟨h1, h2⟩ := hok
    have r := rx.val h1; rw [hv] at r
    have q := v_load_c (P := P) hg hn r h2
    have e : (loadC g n cs).nb = 0 ∧ (loadC g n cs).nr = 0 ∧ (loadC g n cs).up = [] := by cases g <;> exact ⟨rfl, rfl, rfl⟩
    simp only [e.1, e.2.1, e.2.2]
    exact ok_val h q
  · rename_i b k i off hv
    split at hok
    · rename_i r0 hb
      obtain ⟨h1, h2, h3, h4, h5⟩ := hok
      have r := rx.val h1; rw [hv] at r
      have q := v_load_r (P := P) hg hn h r hb h3 h4 h5
      have e : ∀ cs, (loadC g n cs).nb = 0 ∧ (loadC g n cs).nr = 0 ∧ (loadC g n cs).up = [] := by intro cs; cases g <;> exact ⟨rfl, rfl, rfl⟩
      simp only [(e _).1, (e _).2.1, (e _).2.2]
      exact ok_val h q
    · exact hok.elim
  · rename_i b m hv
    split at hok
    · rename_i r0 hb
      obtain ⟨h1, h2, h3, h4, h5, h6, h7⟩ := hok
      have r := rx.val h1; rw [hv] at r
      subst h3
      exact ok_val h (v_load_a (P := P) hg hn h r hb h5 h6 h7)
    · exact hok.elim
  · exact hok.elim

theorem op_store (h : Sim w0 N ρ F σ a w) {t : TypeId} {x u : Operand} {y z : Opd} (hx : cO x = some y) (hu : cO u = some z) {n : Nat} (hn : szOf P t = some n) : OpOk P w0 N ρ F σ a w (do Instr.storeAt t (a.eval x) (a.eval u); pure .skip) bb br (aistep bo (lookT σ.tm) σ.bx σ.rw bb br (.store n y z)) := fun hok => by
  have rx := cO_rep h hx
  have ru := cO_rep h hu
  simp only [aistep] at hok ⊢
  split at hok
  · rename_i b off hv
    split at hok
    · rename_i cells hb
      obtain ⟨⟨h1, h2, h3, h4⟩, h5⟩ := hok
      have r := rx.val h1; rw [hv] at r
      obtain ⟨w', e1, e2⟩ := store_b (P := P) hn h r hb (ru.val h2) h3 h4 h5
      exact ⟨undef, w', ρ, F, .inr ⟨by simp [e1], rfl⟩, .refl _ _ _ _ _, e2, .any _⟩
    · exact hok.elim
  · rename_i b k i off hv
    split at hok
    · rename_i r0 v' hb hz
      obtain ⟨⟨h1, h2, h3, h4⟩, h5, h6, h7, h8, h9, h10⟩ := hok
      have r := rx.val h1; rw [hv] at r
      obtain ⟨w', F', e1, e2, e3, e4⟩ := store_r (P := P) hn h r hb (ru.val h2) hz h3 h4 h5 h6 h7 h8 h9 h10
      exact ⟨undef, w', ρ, F', .inr ⟨by simp [e1], rfl⟩, ⟨ρ.le_refl, fun _ hx => .inl hx, fun _ hx => .inl hx, e2, e3⟩, e4, .any _⟩
    · exact hok.elim
  · rename_i b m hv
    split at hok
    · rename_i r0 l hb hl
      obtain ⟨⟨h1, h2, h3, h4⟩, h5, h6, h7, h8, h9⟩ := hok
      have r := rx.val h1; rw [hv] at r
      have ru' := ru.val h2; rw [hl] at ru' h3 h4
      obtain ⟨w', e1, e2⟩ := store_a (P := P) hn h r hb ru' h3 h4 h5 h6 h7 h8 h9
      exact ⟨undef, w', ρ, F, .inr ⟨by simp [e1], rfl⟩, .refl _ _ _ _ _, e2, .any _⟩
    · exact hok.elim
  · exact hok.elim

theorem op_fadr (h : Sim w0 N ρ F σ a w) {s : TypeId} {fields : Array Field} {i n : Nat} {f : Field} (hs : P.underlying s = some (.struct fields)) (hf : fields[i]? = some f) (hsz : szOf P f.type = some n) (hn : n ≠ 0) {x : Operand} {y : Opd} (hx : cO x = some y) : OpOk P w0 N ρ F σ a w (do pure (.value (← Instr.fieldAt s (a.eval x) i))) bb br (aistep bo (lookT σ.tm) σ.bx σ.rw bb br (.fadr f.offset y)) := fun hok => by
  have rx := cO_rep h hx
  simp only [aistep] at hok ⊢
  split at hok
  · rename_i hv; have r := rx.val hok; rw [hv] at r; exact ok_val h (v_fadr_b hs hf hsz hn r)
  · rename_i hv; have r := rx.val hok; rw [hv] at r; exact ok_val h (v_fadr_r hs hf hsz hn r)
  · rename_i hv; have r := rx.val hok.1; rw [hv] at r; exact ok_val h (v_fadr_c hs hf hsz hn r)
  · exact hok.elim
theorem op_fld (h : Sim w0 N ρ F σ a w) {s : TypeId} {fields : Array Field} {i n : Nat} {g : Bool} {f : Field} (hs : P.underlying s = some (.struct fields)) (hf : fields[i]? = some f) (hsz : szOf P f.type = some n) (hg : aggOf P f.type = some g) {x : Operand} {y : Opd} (hx : cO x = some y) : OpOk P w0 N ρ F σ a w (do pure (.value (← Instr.field s (a.eval x) i))) bb br (aistep bo (lookT σ.tm) σ.bx σ.rw bb br (.fld f.offset n g y)) := fun hok => by
  have rx := cO_rep h hx
  simp only [aistep] at hok ⊢
  split at hok
  · rename_i hv; have r := rx.val hok.1; rw [hv] at r; exact ok_val h (v_fld hs hf hg hsz r hok.2.1 hok.2.2)
  · exact hok.elim
theorem op_iadS (h : Sim w0 N ρ F σ a w) {t e : TypeId} {k : Nat} (ht : P.underlying t = some (.slice e)) (hsz : szOf P e = some k) {x i : Operand} {y j : Opd} (hx : cO x = some y) (hi : cO i = some j) : OpOk P w0 N ρ F σ a w (do pure (.value (← Instr.indexAt t (a.eval x) (a.eval i)))) bb br (aistep bo (lookT σ.tm) σ.bx σ.rw bb br (.iadS k y j)) := fun hok => by
  have rx := cO_rep h hx
  have ri := cO_rep h hi
  simp only [aistep] at hok ⊢
  split at hok
  · rename_i hv hj
    obtain ⟨h1, h2, h3, h4, h5⟩ := hok
    have r := (rx.val h1).rf; rw [hv] at r
    have q := (ri.val h2); rw [hj] at q; rw [q.int_inv]
    subst h3
    exact ok_val h (v_iadS_ref ht hsz r h4 h5)
  · rename_i hv hj
    obtain ⟨h1, h2, h3, h4, h5, h6⟩ := hok
    have r := (rx.val h1).rf; rw [hv] at r
    have q := (ri.val h2); rw [hj] at q; rw [q.int_inv]
    subst h3
    exact ok_val h (v_iadS_sl ht hsz h4 r h5 h6)
  · rename_i hv hj
    obtain ⟨h1, h2, h3, h4, h5, h6⟩ := hok
    have r := (rx.val h1).rf; rw [hv] at r
    have q := (ri.val h2); rw [hj] at q; rw [q.int_inv]
    subst h3
    exact ok_val h (v_iadS_sl ht hsz h4 r.csl_sl h5 h6)
  · exact hok.elim
theorem op_iadA (h : Sim w0 N ρ F σ a w) {t e : TypeId} {k n : Nat} (ht : P.underlying t = some (.array n e)) (hsz : szOf P e = some k) {x i : Operand} {y j : Opd} (hx : cO x = some y) (hi : cO i = some j) : OpOk P w0 N ρ F σ a w (do pure (.value (← Instr.indexAt t (a.eval x) (a.eval i)))) bb br (aistep bo (lookT σ.tm) σ.bx σ.rw bb br (.iadA k n y j)) := fun hok => by
  have rx := cO_rep h hx
  have ri := cO_rep h hi
  simp only [aistep] at hok ⊢
  split at hok
  · rename_i hv hj
    obtain ⟨h1, h2, h3, h4⟩ := hok
    have r := rx.val h1; rw [hv] at r
    have q := (ri.val h2); rw [hj] at q; rw [q.int_inv]
    exact ok_val h (v_iadA_b ht hsz r h3 h4)
  · rename_i hv hj
    obtain ⟨h1, h2, h3, h4, h5⟩ := hok
    have r := rx.val h1; rw [hv] at r
    have q := (ri.val h2); rw [hj] at q; rw [q.int_inv]
    subst h3
    exact ok_val h (v_iadA_a ht hsz r h4 h5)
  · rename_i hv hj
    obtain ⟨h1, h2, h3, h4, h5⟩ := hok
    have r := rx.val h1; rw [hv] at r
    have q := (ri.val h2); rw [hj] at q; rw [q.int_inv]
    exact ok_val h (v_iadA_c ht hsz r h3 h4)
  · exact hok.elim
theorem op_idxA (h : Sim w0 N ρ F σ a w) {t e : TypeId} {k n : Nat} {g : Bool} (ht : P.underlying t = some (.array n e)) (hsz : szOf P e = some k) (hg : aggOf P e = some g) {x i : Operand} {y j : Opd} (hx : cO x = some y) (hi : cO i = some j) : OpOk P w0 N ρ F σ a w (do pure (.value (← Instr.index t (a.eval x) (a.eval i)))) bb br (aistep bo (lookT σ.tm) σ.bx σ.rw bb br (.idxA k n g y j)) := fun hok => by
  have rx := cO_rep h hx
  have ri := cO_rep h hi
  simp only [aistep] at hok ⊢
  split at hok
  · rename_i hv hj
    obtain ⟨h1, h2, h3, h4, h5, h6⟩ := hok
    have r := rx.val h1; rw [hv] at r
    have q := (ri.val h2); rw [hj] at q; rw [q.int_inv]
    exact ok_val h (v_idxA ht hg hsz r h3 h4 h5 h6)
  · exact hok.elim
theorem op_idxT (h : Sim w0 N ρ F σ a w) {t : TypeId} (ht : P.underlying t = some .string) {x i : Operand} {y j : Opd} (hx : cO x = some y) (hi : cO i = some j) : OpOk P w0 N ρ F σ a w (do pure (.value (← Instr.index t (a.eval x) (a.eval i)))) bb br (aistep bo (lookT σ.tm) σ.bx σ.rw bb br (.idxT y j)) := fun hok => by
  have rx := cO_rep h hx
  have ri := cO_rep h hi
  simp only [aistep] at hok ⊢
  split at hok
  · rename_i hv hj
    obtain ⟨h1, h2, h3, h4⟩ := hok
    have r := rx.val h1; rw [hv] at r
    have q := (ri.val h2); rw [hj] at q; rw [q.int_inv]
    exact ok_val h (v_idxT ht r h3 h4)
  · exact hok.elim
theorem op_ext (h : Sim w0 N ρ F σ a w) {i : Nat} {x : Operand} {y : Opd} (hx : cO x = some y) : OpOk P w0 N ρ F σ a w (do pure (.value (← Instr.extract (a.eval x) i))) bb br (aistep bo (lookT σ.tm) σ.bx σ.rw bb br (.ext y i)) := fun hok => by
  have rx := cO_rep h hx
  simp only [aistep] at hok ⊢
  split at hok
  · rename_i hv; have r := rx.val hok.1; rw [hv] at r; exact ok_val h (v_ext r hok.2)
  · exact hok.elim
theorem op_nchk (h : Sim w0 N ρ F σ a w) {o : Oper} {x : Operand} {y : Opd} (hx : cO x = some y) (ho : o.op = .nilCheck x) : OpOk P w0 N ρ F σ a w (execOp a.eval o) bb br (aistep bo (lookT σ.tm) σ.bx σ.rw bb br (.nchk y)) := fun hok => by
  have rx := cO_rep h hx
  have key : ∀ ad, a.eval x = .pointer (some ad) → execOp a.eval o = pure (.value (a.eval x)) := fun ad e => by simp [execOp, ho, e]
  simp only [aistep] at hok ⊢
  split at hok
  · rename_i hv; have r := rx.val hok; have r' := r; rw [hv] at r'; obtain ⟨g, _, e⟩ := r'.bptr_inv
    exact ⟨_, w, ρ, F, .inl (by rw [key _ e]; rfl), .refl _ _ _ _ _, h, r⟩
  · rename_i hv; have r := rx.val hok; have r' := r; rw [hv] at r'; obtain ⟨g, _, e⟩ := r'.rptr_inv
    exact ⟨_, w, ρ, F, .inl (by rw [key _ e]; rfl), .refl _ _ _ _ _, h, r⟩
  · rename_i hv; have r := rx.val hok; have r' := r; rw [hv] at r'; obtain ⟨g, _, _, e⟩ := r'.aptr_inv
    exact ⟨_, w, ρ, F, .inl (by rw [key _ e]; rfl), .refl _ _ _ _ _, h, r⟩
  · rename_i hv; have r := rx.val hok; have r' := r; rw [hv] at r'; obtain ⟨ad, _, e, _⟩ := r'.cptr_inv
    exact ⟨_, w, ρ, F, .inl (by rw [key _ e]; rfl), .refl _ _ _ _ _, h, r⟩
  · exact hok.elim
end
end Go.Proofs.Ytjacmhaeemhinaa

namespace Go.Proofs.Ytjacmhaeemhinaa
open Go.RowKit
set_option linter.unusedVariables false

section
variable {P : Program} {w0 : Base} {N : Nat} {ρ : Env} {F : Nat → Prop} {σ : FS} {a : Act} {w : World}
variable (bo : Bool) (bb br : Nat)

omit bo bb br in
theorem bnd_isB (h : Sim w0 N ρ F σ a w) {lo' : Option Operand} {lo : Option Opd} (hl : cOo lo' = some lo) {d : Nat} {l : Int} (hb : bnd (d : Int) (lookT σ.tm) lo = some l) (hc : bndc (lookT σ.tm) lo) (h0 : 0 ≤ l) : IsB d (lo'.map a.eval) l.toNat := by
  cases lo' with
  | none => cases hl; simp only [bnd, Option.some.injEq] at hb; left; exact ⟨rfl, by omega⟩
  | some x =>
    simp only [cOo, Option.map_eq_some_iff] at hl
    obtain ⟨y, hy, rfl⟩ := hl
    have r := (cO_rep h hy).val hc
    simp only [bnd] at hb
    split at hb
    · rename_i k n hv
      cases hb
      rw [hv] at r
      right
      exact ⟨k, by simp only [Option.map_some, r.int_inv]; rw [Int.toNat_of_nonneg h0]⟩
    · cases hb
omit bo bb br in
theorem cOo_some {x : Option Operand} {y : Option Opd} (h : cOo x = some y) : x.isSome = y.isSome := by
  cases x with
  | none => cases h; rfl
  | some x => simp only [cOo, Option.map_eq_some_iff] at h; obtain ⟨z, _, rfl⟩ := h; rfl

theorem op_slice (h : Sim w0 N ρ F σ a w) {t : TypeId} {x : Operand} {y : Opd} {lo' hi' mx' : Option Operand} {lo hi mx : Option Opd} (hx : cO x = some y) (hlo : cOo lo' = some lo) (hhi : cOo hi' = some hi) (hmx : cOo mx' = some mx) {ai : AI} (hc : compSlice P t y lo hi mx = some ai) :
    OpOk P w0 N ρ F σ a w (do pure (.value (← Instr.sliceAt t (a.eval x) (lo'.map a.eval) (hi'.map a.eval) (mx'.map a.eval)))) bb br (aistep bo (lookT σ.tm) σ.bx σ.rw bb br ai) := fun hok => by
  have rx := cO_rep h hx
  unfold compSlice at hc
  split at hc
  · -- slices
    rename_i e ht
    split at hc
    · cases hc
    · rename_i hne
      simp only [Option.map_eq_some_iff] at hc
      obtain ⟨k, hsz, rfl⟩ := hc
      have hm0 : mx'.map a.eval ≠ none → hi'.map a.eval ≠ none := by
        have e1 := cOo_some hhi; have e2 := cOo_some hmx
        intro q1 q2
        cases mx' <;> cases hi' <;> simp_all
      simp only [aistep] at hok ⊢
      split at hok
      · rename_i b k' l0 n l hv hl
        split at hok
        · rename_i hh mm hh1 hh2
          obtain ⟨c1, c2, c3, c4, c5, c6, c7, c8, c9⟩ := hok
          have r := rx.val c1; rw [hv] at r; subst c5
          have b1 := bnd_isB h hlo (d := 0) hl c2 c6
          have b2 := bnd_isB h hhi hh1 c3 (by omega)
          have b3 : mx'.map a.eval = none ∨ ∃ kk, mx'.map a.eval = some (.int kk mm.toNat) := by
            rcases bnd_isB h hmx hh2 c4 (by omega) with ⟨q, _⟩ | q
            · exact .inl q
            · exact .inr q
          have q := v_slS_ref (P := P) ht hsz r b1 b2 b3 hm0 (by omega) (by omega) (by omega)
          rw [show hh.toNat - l.toNat = (hh - l).toNat by omega] at q
          exact ok_val h q
        · exact hok.elim
      · rename_i b k' l0 n c l hv hl
        split at hok
        · rename_i hh mm hh1 hh2
          obtain ⟨c1, c2, c3, c4, c5, c6, c7, c8, c9⟩ := hok
          have r := rx.val c1; rw [hv] at r; subst c5
          have b1 := bnd_isB h hlo (d := 0) hl c2 c6
          have b2 := bnd_isB h hhi hh1 c3 (by omega)
          have b3 := bnd_isB h hmx hh2 c4 (by omega)
          have q := v_slS_refc (P := P) ht hsz r b1 b2 b3 hm0 (by omega) (by omega) (by omega)
          rw [show hh.toNat - l.toNat = (hh - l).toNat by omega, show mm.toNat - l.toNat = (mm - l).toNat by omega] at q
          exact ok_val h q
        · exact hok.elim
      · rename_i vol k' es l hv hl
        split at hok
        · rename_i hh hh1
          obtain ⟨c1, c2, c3, c4, c5, c6, c7⟩ := hok
          have r := rx.val c1; rw [hv] at r; subst c4
          have b1 := bnd_isB h hlo (d := 0) hl c2 c5
          have b2 := bnd_isB h hhi hh1 c3 (by omega)
          have hmn : mx' = none := by have := cOo_some hmx; cases mx' <;> simp_all
          subst hmn
          exact ok_val h (v_slS_sl (P := P) ht hsz r b1 b2 (by omega) (by omega))
        · exact hok.elim
      · rename_i vol k' es l hv hl
        split at hok
        · rename_i hh hh1
          obtain ⟨c1, c2, c3, c4, c5, c6, c7⟩ := hok
          have r := rx.val c1; rw [hv] at r; subst c4
          have b1 := bnd_isB h hlo (d := 0) hl c2 c5
          have b2 := bnd_isB h hhi hh1 c3 (by omega)
          have hmn : mx' = none := by have := cOo_some hmx; cases mx' <;> simp_all
          subst hmn
          exact ok_val h (v_slS_sl (P := P) ht hsz r.csl_sl b1 b2 (by omega) (by omega))
        · exact hok.elim
      · rename_i vol k' es l m hv hl
        split at hok
        · rename_i hh mm hh1 hh2
          obtain ⟨c1, c2, c3, c4, c5, c6, c7, c8, c9⟩ := hok
          have r := rx.val c1; rw [hv] at r; subst c5 c8
          have b1 := bnd_isB h hlo (d := 0) hl c2 c6
          have b2 := bnd_isB h hhi hh1 c3 (by omega)
          have hms : ∃ u, mx' = some u := by have := cOo_some hmx; cases mx' <;> simp_all
          obtain ⟨u, rfl⟩ := hms
          have b3 : ∃ kk, (some u).map a.eval = some (.int kk hh.toNat) := by
            rcases bnd_isB h hmx hh2 c4 (by omega) with ⟨q, _⟩ | q
            · simp at q
            · exact q
          exact ok_val h (v_slS_clip (P := P) ht hsz r b1 b2 b3 (hm0 (by simp)) (by omega) (by omega))
        · exact hok.elim
      · rename_i l hv hl
        split at hok
        · rename_i hh mm hh1 hh2
          obtain ⟨c1, c2, c3, c4, c5, c6, c7⟩ := hok
          have r := rx.val c1; rw [hv] at r; subst c5 c6 c7
          have b1 := bnd_isB h hlo (d := 0) hl c2 (Int.le_refl _)
          have b2 := bnd_isB h hhi (d := 0) hh1 c3 (Int.le_refl _)
          have b3 := bnd_isB h hmx (d := 0) hh2 c4 (Int.le_refl _)
          exact ok_val h (v_slS_nil (P := P) ht hsz r b1 b2 b3 hm0)
        · exact hok.elim
      · exact hok.elim
  · rename_i n e ht
    split at hc
    · rename_i hcnd
      obtain ⟨hsz, hmn, hn⟩ := hcnd
      cases hc
      simp only [aistep] at hok ⊢
      split at hok
      · rename_i b m l hh hv hl hh1
        obtain ⟨c1, c2, c3, c4, c5, c6, c7⟩ := hok
        have r := rx.val c1; rw [hv] at r
        have b1 := bnd_isB h hlo (d := 0) hl c2 c5
        have b2 := bnd_isB h hhi hh1 c3 (by omega)
        have hmn : mx' = none := by have := cOo_some hmx; cases mx' <;> simp_all
        subst hmn
        have q := v_slA (P := P) ht hsz r c4 b1 b2 (by omega) (by omega) (by unfold maxLen; omega)
        rw [show hh.toNat - l.toNat = (hh - l).toNat by omega] at q
        exact ok_val h q
      · rename_i vol cs l hh hv hl hh1
        obtain ⟨c1, c2, c3, c4, c5, c6, c7, c8⟩ := hok
        have r := rx.val c1; rw [hv] at r
        have b1 := bnd_isB h hlo (d := 0) hl c2 c5
        have b2 := bnd_isB h hhi hh1 c3 (by omega)
        have hmn : mx' = none := by have := cOo_some hmx; cases mx' <;> simp_all
        subst hmn
        exact ok_val h (v_slAc (P := P) ht hsz r c4 c8 b1 b2 (by omega) (by omega) (by unfold maxLen; omega))
      · exact hok.elim
    · cases hc
  · rename_i ht
    split at hc
    · rename_i hmn
      cases hc
      simp only [aistep] at hok ⊢
      split at hok
      · rename_i s l hv hl
        split at hok
        · rename_i hh hh1
          obtain ⟨c1, c2, c3, c4, c5, c6⟩ := hok
          have r := rx.val c1; rw [hv] at r
          have b1 := bnd_isB h hlo (d := 0) hl c2 c4
          have b2 := bnd_isB h hhi hh1 c3 (by omega)
          have hmn : mx' = none := by have := cOo_some hmx; cases mx' <;> simp_all
          subst hmn
          exact ok_val h (v_slT (P := P) ht r b1 b2 (by omega) (by omega))
        · exact hok.elim
      · exact hok.elim
    · cases hc
  · cases hc

theorem v_isN {B : Nat → Prop} {op : BinOp} {t e : TypeId} {xo yo : Operand} {ne : Bool} (hop : op = if ne then .neq else .eql) (ht : P.underlying t = some (.slice e)) {a0 : Option Addr} {n c : Nat} :
    GV P ρ B F w (do eqGuard op t xo yo (.slice a0 n c) (.slice none 0 0); binOp op t (.slice a0 n c) (.slice none 0 0)) (.bool (if ne then a0.isSome else a0.isNone)) := by
  subst hop
  have he : (Op.equal t (.slice a0 n c) (.slice none 0 0)).run P w = .ok a0.isNone w := by
    rw [show Op.equal t (.slice a0 n c) (.slice none 0 0) = Op.equalIn (9999 + 1) t (.slice a0 n c) (.slice none 0 0) from rfl, Op.equalIn]
    cases a0 <;> simp [run_underlying ht]
  unfold GV
  cases ne
  · refine ⟨.bool a0.isNone, ?_, rep_bool _⟩
    simp [eqGuard, binOp, he]
  · refine ⟨.bool a0.isSome, ?_, rep_bool _⟩
    simp [eqGuard, binOp, he]
/-- Is it nil? -/
theorem isN_val (h : Sim w0 N ρ F σ a w) {ne : Bool} {x : Operand} {y : Opd} {v : Value} (rx : Rep ρ w0.V F w v ((lookT σ.tm) y)) (hok : (aistep bo (lookT σ.tm) σ.bx σ.rw bb br (.isN ne y)).ok) : ∃ a0 n c, v = .slice a0 n c ∧ (aistep bo (lookT σ.tm) σ.bx σ.rw bb br (.isN ne y)).av = .bool (if ne then a0.isSome else a0.isNone) := by
  simp only [aistep] at hok ⊢
  split at hok
  · rename_i hv; have r := rx.val hok; rw [hv] at r; rw [r.nil_inv]; exact ⟨_, _, _, rfl, by cases ne <;> rfl⟩
  · rename_i hv; have r := rx.val hok.1; rw [hv] at r
    obtain ⟨a1, c, f, rfl, _, hr⟩ := r.sl_inv
    refine ⟨_, _, _, rfl, ?_⟩
    cases a1 with
    | none => have := hr.1.nil rfl; have := hr.1.cap; exact absurd (List.eq_nil_of_length_eq_zero (by omega)) hok.2
    | some ad => cases ne <;> rfl
  · rename_i hv; have r := rx.val hok.1; rw [hv] at r
    obtain ⟨a1, f, rfl, _, hr⟩ := r.csl_inv
    refine ⟨_, _, _, rfl, ?_⟩
    cases a1 with
    | none => have := hr.1.nil rfl; exact absurd (List.eq_nil_of_length_eq_zero (by omega)) hok.2
    | some ad => cases ne <;> rfl
  · rename_i hv; have r := rx.val hok.1; rw [hv] at r
    obtain ⟨a1, c, p, rfl, _, h1, _, _, h4, _⟩ := r.ref_inv
    refine ⟨_, _, _, rfl, ?_⟩
    cases a1 with
    | none => have := h4 rfl; have := hok.2; omega
    | some ad => cases ne <;> rfl
  · rename_i hv; have r := rx.val hok; rw [hv] at r; rw [r.raw_inv]; exact ⟨_, _, _, rfl, by cases ne <;> rfl⟩
  · exact hok.elim
theorem op_eqA (h : Sim w0 N ρ F σ a w) {op : BinOp} {t : TypeId} {x u : Operand} {y z : Opd} (hx : cO x = some y) (hu : cO u = some z) {ai : AI} (hc : compEq P op t y z = some ai) :
    OpOk P w0 N ρ F σ a w (do pure (.value (← (do eqGuard op t x u (a.eval x) (a.eval u); binOp op t (a.eval x) (a.eval u))))) bb br (aistep bo (lookT σ.tm) σ.bx σ.rw bb br ai) := fun hok => by
  have rx := cO_rep h hx
  have ru := cO_rep h hu
  unfold compEq at hc
  split at hc
  · cases hc
  rename_i hgd0
  simp only [not_or, Decidable.not_not] at hgd0
  obtain ⟨hgd, hag⟩ := hgd0
  have hgd : P.eqGuardType P.depth t = false := by simpa using hgd
  have key : ∀ (ne : Bool) (ts : List Nat), eqOk P 100 t = some ts → (op = if ne then .neq else .eql) → (aistep bo (lookT σ.tm) σ.bx σ.rw bb br (.eqA ne ts y z)).ok → GoodN P w0 N ρ F a w (do pure (.value (← (do eqGuard op t x u (a.eval x) (a.eval u); binOp op t (a.eval x) (a.eval u))))) bb (aistep bo (lookT σ.tm) σ.bx σ.rw bb br (.eqA ne ts y z)).nb br (aistep bo (lookT σ.tm) σ.bx σ.rw bb br (.eqA ne ts y z)).nr (σ.ups (aistep bo (lookT σ.tm) σ.bx σ.rw bb br (.eqA ne ts y z)).up) (aistep bo (lookT σ.tm) σ.bx σ.rw bb br (.eqA ne ts y z)).av := fun ne ts hts hop hok => by
    simp only [aistep] at hok ⊢
    split at hok
    · rename_i l1 l2 hv hw
      split at hok
      · rename_i r hr
        obtain ⟨h1, h2⟩ := hok
        have r1 := rx.val h1; rw [hv] at r1
        have r2 := ru.val h2; rw [hw] at r2
        obtain ⟨c1, e1, s1, g1⟩ := r1.agg_inv
        obtain ⟨c2, e2, s2, g2⟩ := r2.agg_inv
        obtain ⟨g, k1, k2, k3, k4⟩ := eqOk_run 100 t ts hts
        have hg : g = true := by rw [hag] at k1; cases k1; rfl
        subst hg
        rw [e1] at r1 ⊢
        rw [e2] at r2 ⊢
        have hq := k4 ρ w0.V F w 10000 (by omega) _ _ l1 l2 r ⟨fun _ => r1, fun e => by cases e⟩ ⟨fun _ => r2, fun e => by cases e⟩ hr
        refine ok_val h ⟨.bool (if ne then !r else r), ?_, rep_bool _⟩
        rw [Sem.run_bind, run_eqGuard_agg w op t x u c1 c2 hgd, Result.andThen_ok, hop]
        cases ne
        · simp only [Bool.false_eq_true, if_false]
          rw [run_eql_struct, hq]; rfl
        · simp only [if_true]
          rw [run_neq_struct, hq]; rfl
      · exact hok.elim
    · exact hok.elim
  cases op <;> dsimp only at hc <;> first | (cases hc; done) | skip
  · obtain ⟨ts, h1, rfl⟩ := Option.map_eq_some_iff.1 hc
    exact key false ts h1 rfl hok
  · obtain ⟨ts, h1, rfl⟩ := Option.map_eq_some_iff.1 hc
    exact key true ts h1 rfl hok
theorem op_bin (h : Sim w0 N ρ F σ a w) {op : BinOp} {t : TypeId} {x u : Operand} {y z : Opd} (hx : cO x = some y) (hu : cO u = some z) {ai : AI} (hc : compBin P op t y z = some ai) :
    OpOk P w0 N ρ F σ a w (do pure (.value (← (do eqGuard op t x u (a.eval x) (a.eval u); binOp op t (a.eval x) (a.eval u))))) bb br (aistep bo (lookT σ.tm) σ.bx σ.rw bb br ai) := fun hok => by
  have rx := cO_rep h hx
  have ru := cO_rep h hu
  unfold compBin at hc
  split at hc
  · rename_i k ht
    cases hc
    simp only [aistep] at hok ⊢
    split at hok
    · rename_i hv hw
      obtain ⟨h1, h2, h3⟩ := hok
      have r1 := rx.val h1; rw [hv] at r1
      have r2 := ru.val h2; rw [hw] at r2
      rw [r1.int_inv, r2.int_inv]
      exact ok_val h (v_bin h3)
    · exact hok.elim
  · rename_i ht
    split at hc <;> first | (cases hc; done) | skip
    · cases hc
      simp only [aistep] at hok ⊢
      split at hok
      · rename_i hv hw
        obtain ⟨h1, h2⟩ := hok
        have r1 := rx.val h1; rw [hv] at r1
        have r2 := ru.val h2; rw [hw] at r2
        rw [r1.bool_inv, r2.bool_inv]
        exact ok_val h (v_binB (ne := false) rfl ht)
      · exact hok.elim
    · cases hc
      simp only [aistep] at hok ⊢
      split at hok
      · rename_i hv hw
        obtain ⟨h1, h2⟩ := hok
        have r1 := rx.val h1; rw [hv] at r1
        have r2 := ru.val h2; rw [hw] at r2
        rw [r1.bool_inv, r2.bool_inv]
        exact ok_val h (v_binB (ne := true) rfl ht)
      · exact hok.elim
  · rename_i ht
    cases hc
    simp only [aistep] at hok ⊢
    split at hok
    · rename_i hv hw
      split at hok
      · rename_i hs
        obtain ⟨h1, h2, h3⟩ := hok
        have r1 := rx.val h1; rw [hv] at r1
        have r2 := ru.val h2; rw [hw] at r2
        exact ok_val h (v_binT r1 r2 hs h3)
      · exact hok.elim
    · exact hok.elim
  · rename_i e ht
    split at hc <;> first | (cases hc; done) | skip
    · cases hc
      obtain ⟨a0, n, c, hv, hav⟩ := isN_val bo bb br (x := x) h rx hok
      rw [hv, ru.nil_inv, hav]
      have q : (aistep bo (lookT σ.tm) σ.bx σ.rw bb br (.isN false y)).nb = 0 ∧ (aistep bo (lookT σ.tm) σ.bx σ.rw bb br (.isN false y)).nr = 0 ∧ (aistep bo (lookT σ.tm) σ.bx σ.rw bb br (.isN false y)).up = [] := by
        simp only [aistep]; split <;> exact ⟨rfl, rfl, rfl⟩
      rw [q.1, q.2.1, q.2.2]
      exact GV.n h (v_isN (ne := false) rfl ht)
    · cases hc
      obtain ⟨a0, n, c, hv, hav⟩ := isN_val bo bb br (x := x) h rx hok
      rw [hv, ru.nil_inv, hav]
      have q : (aistep bo (lookT σ.tm) σ.bx σ.rw bb br (.isN true y)).nb = 0 ∧ (aistep bo (lookT σ.tm) σ.bx σ.rw bb br (.isN true y)).nr = 0 ∧ (aistep bo (lookT σ.tm) σ.bx σ.rw bb br (.isN true y)).up = [] := by
        simp only [aistep]; split <;> exact ⟨rfl, rfl, rfl⟩
      rw [q.1, q.2.1, q.2.2]
      exact GV.n h (v_isN (ne := true) rfl ht)
  · exact op_eqA bo bb br h hx hu hc hok
  · exact op_eqA bo bb br h hx hu hc hok
  · cases hc

theorem op_un (h : Sim w0 N ρ F σ a w) {op : UnOp} {x : Operand} {y : Opd} (hx : cO x = some y) : OpOk P w0 N ρ F σ a w (do pure (.value (← Op.unary op (a.eval x)))) bb br (aistep bo (lookT σ.tm) σ.bx σ.rw bb br (match op with | .not => .not y | .neg => .neg y | .xor => .com y | .plus => .no)) := fun hok => by
  have rx := cO_rep h hx
  cases op <;> simp only [aistep] at hok ⊢
  · split at hok
    · rename_i hv; have r := rx.val hok; rw [hv] at r; rw [r.int_inv]; exact ok_val h v_neg
    · exact hok.elim
  · split at hok
    · rename_i hv; have r := rx.val hok; rw [hv] at r; rw [r.int_inv]; exact ok_val h v_com
    · exact hok.elim
  · split at hok
    · rename_i hv; have r := rx.val hok; rw [hv] at r; rw [r.bool_inv]; exact ok_val h v_not
    · exact hok.elim
  · exact hok.elim

theorem op_conv (h : Sim w0 N ρ F σ a w) {src dst : TypeId} {x : Operand} {y : Opd} (hx : cO x = some y) {ai : AI} (hc : compConv P src dst y = some ai) : OpOk P w0 N ρ F σ a w (do pure (.value (← convert src dst (a.eval x)))) bb br (aistep bo (lookT σ.tm) σ.bx σ.rw bb br ai) := fun hok => by
  have rx := cO_rep h hx
  unfold compConv at hc
  split at hc
  · rename_i k k' hs hd
    cases hc
    simp only [aistep] at hok ⊢
    split at hok
    · rename_i hv; have r := rx.val hok; rw [hv] at r; rw [r.int_inv]; exact ok_val h (v_conv hs hd)
    · exact hok.elim
  · rename_i hs hd
    cases hc
    simp only [aistep] at hok ⊢
    split at hok
    · rename_i hv; have r := rx.val hok; rw [hv] at r; exact ok_val h (v_convS r hs hd)
    · exact hok.elim
  · rename_i e hs hd
    split at hc
    · rename_i he
      cases hc
      simp only [aistep] at hok ⊢
      split at hok
      · rename_i k es hels
        obtain ⟨h1, h2⟩ := hok
        obtain ⟨v, e1, e2⟩ := v_b2s (P := P) h (rx.val h1) hels h2
        refine ok_val h ⟨v, ?_, e2⟩
        obtain ⟨ad, c, f, e3, _⟩ := els_row h (rx.val h1) hels
        rw [e3] at e1 ⊢
        unfold convert
        simp only [Sem.run_bind, run_underlying hs, run_underlying hd, run_underlying he, Result.andThen_ok]
        exact e1
      · exact hok.elim
    · cases hc
  · rename_i e hs hd
    split at hc
    · rename_i he
      cases hc
      simp only [aistep] at hok ⊢
      split at hok
      · rename_i l hv
        obtain ⟨h1, h2⟩ := hok
        have r := rx.val h1; rw [hv] at r
        obtain ⟨s, e1, e2⟩ := r.str_inv
        rw [e1]
        obtain ⟨v, w', ρ', F', q1, q2, q3, q4⟩ := g_s2b (P := P) (e := e) (bb := bb) (br := br) h e2 h2
        refine Good.n ⟨v, w', ρ', F', ?_, q2, q3, q4⟩
        unfold convert
        simp only [Sem.run_bind, run_underlying hs, run_underlying hd, run_underlying he, Result.andThen_ok]
        exact q1
      · exact hok.elim
    · cases hc
  · rename_i e e' hs hd
    split at hc
    · rename_i hsd
      subst hsd
      split at hc
      · rename_i he
        cases hc
        simp only [aistep] at hok ⊢
        split at hok
        · rename_i b k lo n hv
          split at hok
          · rename_i r hr
            obtain ⟨h1, h2, h3, h4, h5, h6⟩ := hok
            have q := rx.val h1; rw [hv] at q
            exact (g_mvL (P := P) h hs he q hr h2 h3 h4 h5 h6).n
          · exact hok.elim
        · exact hok.elim
      · cases hc
    · cases hc
  · cases hc

theorem op_mks (h : Sim w0 N ρ F σ a w) (hbr : ρ.r br = none) {t e : TypeId} {i : TypeInfo} {z : Value} (ht : P.underlying t = some (.slice e)) (hi : P.info? e = some i) (hz : i.zero = some z) {x u : Operand} {y v : Opd} (hx : cO x = some y) (hu : cO u = some v) : OpOk P w0 N ρ F σ a w (do pure (.value (← Instr.makeSlice t (a.eval x) (a.eval u)))) bb br (aistep bo (lookT σ.tm) σ.bx σ.rw bb br (.mks i.size i.bytes (cst z) y v)) := fun hok => by
  have rx := cO_rep h hx
  have ru := cO_rep h hu
  simp only [aistep] at hok ⊢
  split at hok
  · rename_i hv hw
    obtain ⟨h1, h2, h3, h4, h5, h6, h7, h8, h9, h10⟩ := hok
    have r1 := rx.val h1; rw [hv] at r1
    have r2 := ru.val h2; rw [hw] at r2
    rw [r1.int_inv, r2.int_inv]
    subst h3
    exact (g_mks (P := P) (bb := bb) ht hi hz rfl rfl h hbr h4 h5 h9 h6 h8).n
  · exact hok.elim

omit bo bb br in
theorem reps_list (h : Sim w0 N ρ F σ a w) {xs : List Operand} {ys : List Opd} (hm : xs.mapM cO = some ys) : ys.length = xs.length ∧ ∀ (i : Nat) (x : Operand) (y : Opd), xs[i]? = some x → ys[i]? = some y → Rep ρ w0.V F w (a.eval x) ((lookT σ.tm) y) := by
  obtain ⟨h1, h2⟩ := mapM_get hm
  exact ⟨h1, fun i x y e1 e2 => cO_rep h (h2 i x y e1 e2)⟩

theorem op_mkf (h : Sim w0 N ρ F σ a w) {f : Nat} {first caps : Array Operand} (hf : first.size = 0) {xs : List Opd} (hx : caps.toList.mapM cO = some xs) : OpOk P w0 N ρ F σ a w (do pure (.value (← Instr.makeFunc (.func f) (first.map a.eval) (caps.map a.eval)))) bb br (aistep bo (lookT σ.tm) σ.bx σ.rw bb br (.mkf f xs)) := fun hok => by
  obtain ⟨h1, h2⟩ := reps_list h hx
  have hf0 : first = #[] := Array.eq_empty_of_size_eq_zero hf
  subst hf0
  simp only [aistep] at hok ⊢
  refine ok_val h ⟨.func (.func f) #[] (caps.map a.eval), by simp [Instr.makeFunc], .fn f _ _ (by simp [h1]) fun i u av e1 e2 => ?_⟩
  rw [List.getElem?_map] at e2
  cases hy : xs[i]? with
  | none => rw [hy] at e2; cases e2
  | some y =>
    rw [hy] at e2; cases e2
    rw [Array.getElem?_map] at e1
    cases hc : caps[i]? with
    | none => rw [hc] at e1; cases e1
    | some x =>
      rw [hc] at e1; cases e1
      exact (h2 i x y (by simpa using hc) hy).val (hok y (List.mem_of_getElem? hy))
end
end Go.Proofs.Ytjacmhaeemhinaa

namespace Go.Proofs.Ytjacmhaeemhinaa
open Go.RowKit
set_option linter.unusedVariables false

section
variable {P : Program} {w0 : Base} {N : Nat} {ρ : Env} {F : Nat → Prop} {σ : FS} {a : Act} {w : World}
variable (bo : Bool) (bb br : Nat)

theorem op_build (h : Sim w0 N ρ F σ a w) {t : TypeId} {z : Value} {place : Nat → Option (Nat × Nat)} (hz : zeroOf P t = some z) (hp : placesOf P t = some place) {parts : Array (Nat × Operand)} {qs : List (Nat × Nat × Opd)}
    (hq : (parts.toList.mapM fun p => (place p.1).bind fun q => (cO p.2).map fun x => ((q.1, q.2, x) : Nat × Nat × Opd)) = some qs) : OpOk P w0 N ρ F σ a w (do pure (.value (← Instr.build t (parts.map fun (i, x) => (i, a.eval x))))) bb br (aistep bo (lookT σ.tm) σ.bx σ.rw bb br (.build (cst z).cells qs)) := fun hok => by
  obtain ⟨h1, h2⟩ := mapM_get hq
  simp only [aistep] at hok ⊢
  refine ok_val h (v_build hz hp (lookT σ.tm) _ qs (by simp [h1]) hok.2 (fun i p q e1 e2 => ?_) hok.1)
  rw [Array.getElem?_map] at e1
  cases hi : parts[i]? with
  | none => rw [hi] at e1; cases e1
  | some p0 =>
    rw [hi] at e1; cases e1
    have := h2 i p0 q (by simpa using hi) e2
    obtain ⟨q0, e3, e4⟩ := Option.bind_eq_some_iff.1 this
    obtain ⟨x, e5, rfl⟩ := Option.map_eq_some_iff.1 e4
    exact ⟨e3, cO_rep h e5⟩

omit bo bb br in
theorem zip_pairs (f : Operand → Value) : ∀ l : List (Nat × Operand), (l.map fun p => (p.1, f p.2)) = (l.map (·.1)).zip (l.map fun p => f p.2)
  | [] => rfl
  | p :: l => by simp [zip_pairs f l]
theorem op_bsl (h : Sim w0 N ρ F σ a w) (hbr : ρ.r br = none) {t e : TypeId} {k len : Nat} {z : Value} (ht : P.underlying t = some (.slice e)) (hsz : szOf P e = some k) (hz : zeroOf P e = some z) {parts : Array (Nat × Operand)} (hc : parts.toList.map (·.1) = List.range' 0 len ∧ parts.size = len ∧ len * k ≤ 16777216 ∧ len ≤ 1000000) {xs : List Opd} (hx : (parts.toList.mapM fun p => cO p.2) = some xs) :
    OpOk P w0 N ρ F σ a w (do pure (.value (← Instr.buildSlice t len (parts.map fun (i, x) => (i, a.eval x))))) bb br (aistep bo (lookT σ.tm) σ.bx σ.rw bb br (.bsl k xs)) := fun hok => by
  obtain ⟨h1, h2⟩ := mapM_get hx
  obtain ⟨c1, c2, c3, c4⟩ := hc
  simp only [aistep] at hok ⊢
  split at hok
  · rename_i es hes
    obtain ⟨o1, o2⟩ := hok
    have hvl : (parts.toList.map fun p => a.eval p.2).length = len := by simp [c2]
    have := g_bsl (P := P) (bb := bb) (br := br) ht hsz hz h hbr (parts := parts.map fun (i, x) => (i, a.eval x)) (vs := parts.toList.map fun p => a.eval p.2) (avs := xs.map fun x => ((lookT σ.tm) x).val) (es := es) (by
      rw [hvl, ← c1, ← zip_pairs]; simp) (by rw [hvl]; exact c3) (by rw [hvl]; unfold maxLen; omega) (by simp [h1]) (fun i u x e1 e2 => by
      rw [List.getElem?_map] at e1 e2
      cases hi : parts.toList[i]? with
      | none => rw [hi] at e1; cases e1
      | some p =>
        cases hj : xs[i]? with
        | none => rw [hj] at e2; cases e2
        | some y =>
          rw [hi] at e1; rw [hj] at e2; cases e1; cases e2
          exact (cO_rep h (h2 i p y hi hj)).val (o1 y (List.mem_of_getElem? hj)).1) (by rw [List.mapM_map]; exact hes) (fun x hx => by
      obtain ⟨y, hy, rfl⟩ := List.mem_map.1 hx
      exact (o1 y hy).2) o2
    rw [hvl, List.flatMap_map] at this
    exact this.n
  · exact hok.elim

omit bo bb br in
theorem two_args {args : Array Operand} {x y : Opd} (h : args.toList.mapM cO = some [x, y]) : ∃ p q, args = #[p, q] ∧ cO p = some x ∧ cO q = some y := by
  obtain ⟨h1, h2⟩ := mapM_get h
  match hl : args.toList, h1 with
  | [p, q], _ =>
    rw [hl] at h2
    refine ⟨p, q, ?_, h2 0 p x rfl rfl, h2 1 q y rfl rfl⟩
    apply Array.ext'; simpa using hl
omit bo bb br in
theorem one_arg {args : Array Operand} {x : Opd} (h : args.toList.mapM cO = some [x]) : ∃ p, args = #[p] ∧ cO p = some x := by
  obtain ⟨h1, h2⟩ := mapM_get h
  match hl : args.toList, h1 with
  | [p], _ =>
    rw [hl] at h2
    refine ⟨p, ?_, h2 0 p x rfl rfl⟩
    apply Array.ext'; simpa using hl

omit bo bb br in
theorem vals_reps (h : Sim w0 N ρ F σ a w) {args : Array Operand} {xs : List Opd} (hx : args.toList.mapM cO = some xs) (hok : ∀ x ∈ xs, ((lookT σ.tm) x).cond) : ∀ (i : Nat) (u : Value) (av : AV), (args.map a.eval)[i]? = some u → (xs.map fun x => ((lookT σ.tm) x).val)[i]? = some av → Rep ρ w0.V F w u av := by
  obtain ⟨h1, h2⟩ := reps_list h hx
  intro i u av e1 e2
  rw [List.getElem?_map] at e2
  rw [Array.getElem?_map] at e1
  cases hy : xs[i]? with
  | none => rw [hy] at e2; cases e2
  | some y =>
    rw [hy] at e2; cases e2
    cases hcx : args[i]? with
    | none => rw [hcx] at e1; cases e1
    | some x =>
      rw [hcx] at e1; cases e1
      exact (h2 i x y (by simpa using hcx) hy).val (hok y (List.mem_of_getElem? hy))
theorem op_builtin (h : Sim w0 N ρ F σ a w) {b : Builtin} {ts : Array TypeId} {ty : TypeId} {cs : Array Bool} {args : Array Operand} {xs : List Opd} (hx : args.toList.mapM cO = some xs) {ai : AI} (hc : compBuiltin P b ts xs = some ai) (hbr : alR ai = true → ρ.r br = none) :
    OpOk P w0 N ρ F σ a w (builtin b ts ty cs (args.map a.eval)) bb br (aistep bo (lookT σ.tm) σ.bx σ.rw bb br ai) := fun hok => by
  unfold compBuiltin at hc
  split at hc
  · -- append
    rename_i t tx x y hts
    have hts' : ts = #[t, tx] := by apply Array.ext'; simpa using hts
    subst hts'
    obtain ⟨p, q, rfl, hp, hq⟩ := two_args hx
    split at hc
    · rename_i e e' ht htx
      split at hc
      · rename_i i hi
        split at hc
        · rename_i z hz
          split at hc
          · rename_i hzs
            cases hc
            have hbr := hbr rfl
            have rx := cO_rep h hp
            have ry := cO_rep h hq
            have he : ElemOk P t tx e i.size i.bytes := ⟨ht, ⟨e', htx⟩, i, z, hi, hz, rfl, rfl, hzs⟩
            have e1 : (#[p, q].map a.eval) = #[a.eval p, a.eval q] := by simp
            rw [e1]
            simp only [aistep] at hok ⊢
            split at hok
            · rename_i k' new hels
              split at hok
              · rename_i hv
                obtain ⟨⟨o1, o2, o3, o4, o5, o6⟩, o7⟩ := hok
                have r := rx.val o1; rw [hv] at r
                rw [r.nil_inv]
                exact (g_app_nil (P := P) (bb := bb) he o5 h hbr (ry.val o2) hels o3 o7 o4).n
              · rename_i b k2 lo n hv
                split at hok
                · rename_i r0 hb
                  obtain ⟨⟨o1, o2, o3, o4, o5, o6⟩, o7, o8, o9, o10, o11, o12⟩ := hok
                  have r := rx.val o1; rw [hv, o8] at r
                  exact (g_app_ref (P := P) (bb := bb) he o6 o5 h hbr (ry.val o2) hels o3 o12 o4 r hb o7 o9 o10 o11).n
                · exact hok.elim
              · rename_i vol k2 es hv
                obtain ⟨⟨o1, o2, o3, o4, o5, o6⟩, o7, o8, o9⟩ := hok
                have r := rx.val o1; rw [hv, o7] at r
                exact (g_app_csl (P := P) (bb := bb) he o6 o5 h hbr (ry.val o2) hels o3 o9 o4 r o8).one.n
              · rename_i b k2 lo n c' hv
                split at hok
                · rename_i r0 hb
                  obtain ⟨⟨o1, o2, o3, o4, o5, o6⟩, o7, o8, o9, o10, o11, o12⟩ := hok
                  have r := rx.val o1; rw [hv, o8] at r
                  exact (g_app_in (P := P) (bb := bb) (br := br) he o6 h (ry.val o2) hels o3 o12 r hb o7 o9 o10 o11).one.n
                · exact hok.elim
              · exact hok.elim
            · exact hok.elim
          · cases hc
        · cases hc
      · cases hc
    · rename_i e kn ht htx
      split at hc
      · rename_i i hi
        split at hc
        · rename_i z hz
          cases hc
          have hbr := hbr rfl
          have rx := cO_rep h hp
          have ry := cO_rep h hq
          have e1 : (#[p, q].map a.eval) = #[a.eval p, a.eval q] := by simp
          rw [e1]
          simp only [aistep] at hok ⊢
          split at hok
          · rename_i b k2 lo n c ik m hv hw
            split at hok
            · rename_i r0 hb
              obtain ⟨o1, o2, o3, o4, o5, o6, o7, o8, o9, o10, o11, o12, o13⟩ := hok
              have r := rx.val o1; rw [hv, o3] at r
              have r2 := ry.val o2; rw [hw] at r2
              obtain ⟨m', rfl⟩ : ∃ m' : Nat, m = m' := ⟨m.toNat, by omega⟩
              rw [r2.int_inv]
              exact (g_appz (P := P) (bb := bb) (br := br) ht htx hi hz rfl o10 o11 o12 o13 h hbr r hb o4 o5 o8 (by omega) o9).n
            · exact hok.elim
          · exact hok.elim
        · cases hc
      · cases hc
    · cases hc
  · -- cap
    rename_i t x hts
    have hts' : ts = #[t] := by apply Array.ext'; simpa using hts
    subst hts'
    obtain ⟨p, rfl, hp⟩ := one_arg hx
    have rx := cO_rep h hp
    have e1 : (#[p].map a.eval) = #[a.eval p] := by simp
    rw [e1]
    split at hc
    · rename_i e ht
      cases hc
      have hcap : ∀ ad n c, (Builtin.cap_ #[t] ty #[.slice ad n c]).run P w = .ok (.int .i64 c) w := fun ad n c => by
        simp [Builtin.cap_, run_underlying ht, goInt]
      simp only [aistep] at hok ⊢
      split at hok
      · rename_i b k lo n c hv
        have r := rx.val hok; rw [hv] at r
        obtain ⟨ad, p, e2, _⟩ := r.refc_inv
        rw [e2]; exact ok_val h ⟨_, hcap _ _ _, rep_int _ _⟩
      · rename_i hv
        have r := rx.val hok; rw [hv] at r
        rw [r.nil_inv]; exact ok_val h ⟨_, hcap _ _ _, rep_int _ _⟩
      · exact hok.elim
    · cases hc
  · -- copy
    rename_i t tx x y hts
    have hts' : ts = #[t, tx] := by apply Array.ext'; simpa using hts
    subst hts'
    obtain ⟨p, q, rfl, hp, hq⟩ := two_args hx
    split at hc
    · rename_i e ht
      obtain ⟨k, hsz, rfl⟩ := Option.map_eq_some_iff.1 hc
      have rx := cO_rep h hp
      have ry := cO_rep h hq
      have e1 : (#[p, q].map a.eval) = #[a.eval p, a.eval q] := by simp
      rw [e1]
      simp only [aistep] at hok ⊢
      split at hok
      · rename_i b k2 lo n k' src hv hels
        split at hok
        · rename_i r0 hb
          obtain ⟨o1, o2, o3, o4, o5, o6, o7, o8, o9⟩ := hok
          have r := (rx.val o1).rf; rw [hv, o4] at r
          exact (g_cpy (P := P) (bb := bb) (br := br) ht hsz o9 h r hb o5 o6 o7 (ry.val o2) hels o3 o8).n
        · exact hok.elim
      · rename_i k' src hv hels
        obtain ⟨o1, o2⟩ := hok
        have r := (rx.val o1).rf; rw [hv] at r
        rw [r.nil_inv]
        obtain ⟨ad, c, f, e3, _⟩ := els_row h (ry.val o2) hels
        rw [e3]
        refine ok_val h ⟨.int .i64 0, ?_, rep_int _ _⟩
        have hfc : (Builtin.firstCells k 0 (.slice ad src.length c)).run P w = .ok #[] w := by
          cases ad <;> simp [Builtin.firstCells, loadCells, loadCellsFrom]
        simp [Builtin.copy_, run_underlying ht, Builtin.lenOf, run_sizeOf' hsz, hfc, goInt]
      · exact hok.elim
    · cases hc
  · -- clear
    rename_i t x hts
    have hts' : ts = #[t] := by apply Array.ext'; simpa using hts
    subst hts'
    obtain ⟨p, rfl, hp⟩ := one_arg hx
    split at hc
    · rename_i e ht
      obtain ⟨k, hsz, hc⟩ := Option.bind_eq_some_iff.1 hc
      obtain ⟨z, hz, rfl⟩ := Option.map_eq_some_iff.1 hc
      have rx := cO_rep h hp
      have e1 : (#[p].map a.eval) = #[a.eval p] := by simp
      rw [e1]
      simp only [aistep] at hok ⊢
      split at hok
      · rename_i b k2 lo n hv
        split at hok
        · rename_i r0 hb
          obtain ⟨o1, o2, o3, o4, o5, o6, o7, o8, o9⟩ := hok
          have r := (rx.val o1).rf; rw [hv, o2] at r
          exact (g_clr (P := P) (bb := bb) (br := br) ht hz o9 o6 o8 h r hb o3 o4 o5).n
        · exact hok.elim
      · rename_i hv
        have r := (rx.val hok).rf; rw [hv] at r
        rw [r.nil_inv]
        refine ok_val h ⟨.tuple #[], ?_, .any _⟩
        simp [Builtin.clear_, run_underlying ht]
      · exact hok.elim
    · cases hc
  · -- len
    rename_i t x hts
    have hts' : ts = #[t] := by apply Array.ext'; simpa using hts
    subst hts'
    obtain ⟨p, rfl, hp⟩ := one_arg hx
    have rx := cO_rep h hp
    have e1 : (#[p].map a.eval) = #[a.eval p] := by simp
    rw [e1]
    split at hc
    · rename_i ht
      cases hc
      simp only [aistep] at hok ⊢
      split at hok
      · rename_i s hv
        have r := rx.val hok; rw [hv] at r
        obtain ⟨bs, e2, e3⟩ := r.str_inv
        rw [e2]
        refine ok_val h ⟨.int .i64 s.length, ?_, rep_int _ _⟩
        rw [run_len_string w t ty bs ht, str_size e3]; rfl
      · exact hok.elim
    · rename_i e ht
      cases hc
      have hlen : ∀ ad n c, (Builtin.len_ #[t] ty #[.slice ad n c]).run P w = .ok (.int .i64 n) w := fun ad n c => by
        simp [Builtin.len_, run_underlying ht, goInt]
      simp only [aistep] at hok ⊢
      split at hok
      · rename_i vol k es hv
        have r := rx.val hok; rw [hv] at r
        obtain ⟨ad, c, f, e2, _⟩ := r.sl_inv
        rw [e2]; exact ok_val h ⟨_, hlen _ _ _, rep_int _ _⟩
      · rename_i vol k es hv
        have r := rx.val hok; rw [hv] at r
        obtain ⟨ad, f, e2, _⟩ := r.csl_inv
        rw [e2]; exact ok_val h ⟨_, hlen _ _ _, rep_int _ _⟩
      · rename_i b k lo n hv
        have r := rx.val hok; rw [hv] at r
        obtain ⟨ad, c, p, e2, _⟩ := r.ref_inv
        rw [e2]; exact ok_val h ⟨_, hlen _ _ _, rep_int _ _⟩
      · rename_i b k lo n c hv
        have r := rx.val hok; rw [hv] at r
        obtain ⟨ad, p, e2, _⟩ := r.refc_inv
        rw [e2]; exact ok_val h ⟨_, hlen _ _ _, rep_int _ _⟩
      · rename_i hv
        have r := rx.val hok; rw [hv] at r
        rw [r.nil_inv]; exact ok_val h ⟨_, hlen _ _ _, rep_int _ _⟩
      · exact hok.elim
    · rename_i n e ht
      cases hc
      refine ok_val h ⟨.int .i64 n, ?_, rep_int _ _⟩
      simp [Builtin.len_, run_underlying ht, goInt]
    · cases hc
  · -- min
    cases hc
    obtain ⟨h1, h2⟩ := reps_list h hx
    simp only [aistep] at hok ⊢
    split at hok
    · rename_i k ns hi
      refine ok_val h (v_min (P := P) (by simp [h1]) (vals_reps h hx hok) hi)
    · exact hok.elim
  · cases hc
    obtain ⟨h1, h2⟩ := reps_list h hx
    simp only [aistep] at hok ⊢
    split at hok
    · rename_i k ns hi
      refine ok_val h (v_max (P := P) (by simp [h1]) (vals_reps h hx hok) hi)
    · exact hok.elim
  · cases hc

/-- Every operation but a call. -/
theorem op_good (h : Sim w0 N ρ F σ a w) {o : Oper} {ai : AI} (hc : comp P o.op = some ai) (hbb : alB ai = true → ρ.b bb = none) (hbr : alR ai = true → ρ.r br = none) : OpOk P w0 N ρ F σ a w (execOp a.eval o) bb br (aistep bo (lookT σ.tm) σ.bx σ.rw bb br ai) := by
  obtain ⟨dst, op, ty, pos, after, guard⟩ := o
  cases op <;> simp only [comp] at hc <;> first | (cases hc; done) | skip
  case move x => obtain ⟨y, h1, rfl⟩ := Option.map_eq_some_iff.1 hc; exact op_mv bo bb br h h1
  case assign x => obtain ⟨y, h1, rfl⟩ := Option.map_eq_some_iff.1 hc; exact op_mv bo bb br h h1
  case pick c x y =>
    obtain ⟨c', h1, hc⟩ := Option.bind_eq_some_iff.1 hc
    obtain ⟨x', h2, hc⟩ := Option.bind_eq_some_iff.1 hc
    obtain ⟨y', h3, rfl⟩ := Option.map_eq_some_iff.1 hc
    exact op_pick bo bb br h h1 h2 h3
  case alloc t =>
    obtain ⟨z, h1, rfl⟩ := Option.map_eq_some_iff.1 hc
    exact op_alloc bo bb br h (fun e => hbb (by rw [if_neg (by simp [e])]; rfl)) (fun e l hl => hbr (by rw [if_pos e, hl]; rfl)) h1
  case box t x =>
    obtain ⟨y, h1, rfl⟩ := Option.map_eq_some_iff.1 hc
    exact op_box bo bb br h (fun e => hbb (by rw [if_neg (by simp [e])]; rfl)) (fun e => hbr (by rw [if_pos e]; rfl)) h1
  case build t parts =>
    obtain ⟨z, h1, hc⟩ := Option.bind_eq_some_iff.1 hc
    obtain ⟨place, h2, hc⟩ := Option.bind_eq_some_iff.1 hc
    obtain ⟨qs, h3, rfl⟩ := Option.map_eq_some_iff.1 hc
    exact op_build bo bb br h h1 h2 h3
  case buildSlice t len parts =>
    split at hc
    · rename_i e ht
      obtain ⟨k, h1, hc⟩ := Option.bind_eq_some_iff.1 hc
      obtain ⟨z, h2, hc⟩ := Option.bind_eq_some_iff.1 hc
      split at hc
      · rename_i hcnd
        obtain ⟨xs, h3, rfl⟩ := Option.map_eq_some_iff.1 hc
        exact op_bsl bo bb br h (hbr rfl) ht h1 h2 hcnd h3
      · cases hc
    · cases hc
  case load t x =>
    obtain ⟨g, h1, hc⟩ := Option.bind_eq_some_iff.1 hc
    obtain ⟨n, h2, hc⟩ := Option.bind_eq_some_iff.1 hc
    obtain ⟨y, h3, rfl⟩ := Option.map_eq_some_iff.1 hc
    exact op_load bo bb br h h3 h1 h2
  case store t x u =>
    obtain ⟨n, h1, hc⟩ := Option.bind_eq_some_iff.1 hc
    obtain ⟨y, h2, hc⟩ := Option.bind_eq_some_iff.1 hc
    obtain ⟨z, h3, rfl⟩ := Option.map_eq_some_iff.1 hc
    exact op_store bo bb br h h2 h3 h1
  case nilCheck x =>
    obtain ⟨y, h1, rfl⟩ := Option.map_eq_some_iff.1 hc
    exact op_nchk bo bb br h h1 rfl
  case binOp op t x y ty2 =>
    obtain ⟨x', h1, hc⟩ := Option.bind_eq_some_iff.1 hc
    obtain ⟨y', h2, hc⟩ := Option.bind_eq_some_iff.1 hc
    exact op_bin bo bb br h h1 h2 hc
  case unOp op t x =>
    obtain ⟨y, h1, rfl⟩ := Option.map_eq_some_iff.1 hc
    cases op <;> exact op_un bo bb br h h1
  case convert src dst' x =>
    obtain ⟨y, h1, hc⟩ := Option.bind_eq_some_iff.1 hc
    exact op_conv bo bb br h h1 hc
  case makeSlice t n c =>
    split at hc
    · rename_i e ht
      split at hc
      · rename_i i hi
        obtain ⟨x, h1, hc⟩ := Option.bind_eq_some_iff.1 hc
        obtain ⟨y, h2, hc⟩ := Option.bind_eq_some_iff.1 hc
        obtain ⟨z, h3, rfl⟩ := Option.map_eq_some_iff.1 hc
        exact op_mks bo bb br h (hbr rfl) ht hi h3 h1 h2
      · cases hc
    · cases hc
  case makeFunc fn first caps =>
    cases fn <;> simp only at hc <;> first | (cases hc; done) | skip
    split at hc
    · rename_i hf
      obtain ⟨xs, h1, rfl⟩ := Option.map_eq_some_iff.1 hc
      exact op_mkf bo bb br h hf h1
    · cases hc
  case slice t x lo hi mx =>
    obtain ⟨y, h1, hc⟩ := Option.bind_eq_some_iff.1 hc
    obtain ⟨lo', h2, hc⟩ := Option.bind_eq_some_iff.1 hc
    obtain ⟨hi', h3, hc⟩ := Option.bind_eq_some_iff.1 hc
    obtain ⟨mx', h4, hc⟩ := Option.bind_eq_some_iff.1 hc
    exact op_slice bo bb br h h1 h2 h3 h4 hc
  case fieldAddr s x i =>
    split at hc
    · rename_i fields hs
      split at hc
      · rename_i f hf
        split at hc
        · rename_i n hsz
          split at hc
          · cases hc
          · rename_i hn0
            obtain ⟨y, h1, rfl⟩ := Option.map_eq_some_iff.1 hc
            exact op_fadr bo bb br h hs hf hsz hn0 h1
        · cases hc
      · cases hc
    · cases hc
  case field s x i =>
    split at hc
    · rename_i fields hs
      split at hc
      · rename_i f hf
        obtain ⟨n, h1, hc⟩ := Option.bind_eq_some_iff.1 hc
        obtain ⟨g, h2, hc⟩ := Option.bind_eq_some_iff.1 hc
        obtain ⟨y, h3, rfl⟩ := Option.map_eq_some_iff.1 hc
        exact op_fld bo bb br h hs hf h1 h2 h3
      · cases hc
    · cases hc
  case indexAddr t x ix =>
    split at hc
    · rename_i e ht
      obtain ⟨k, h1, hc⟩ := Option.bind_eq_some_iff.1 hc
      obtain ⟨y, h2, hc⟩ := Option.bind_eq_some_iff.1 hc
      obtain ⟨i, h3, rfl⟩ := Option.map_eq_some_iff.1 hc
      exact op_iadS bo bb br h ht h1 h2 h3
    · rename_i n e ht
      obtain ⟨k, h1, hc⟩ := Option.bind_eq_some_iff.1 hc
      obtain ⟨y, h2, hc⟩ := Option.bind_eq_some_iff.1 hc
      obtain ⟨i, h3, rfl⟩ := Option.map_eq_some_iff.1 hc
      exact op_iadA bo bb br h ht h1 h2 h3
    · cases hc
  case index t x ix =>
    split at hc
    · rename_i n e ht
      obtain ⟨k, h1, hc⟩ := Option.bind_eq_some_iff.1 hc
      obtain ⟨g, h2, hc⟩ := Option.bind_eq_some_iff.1 hc
      obtain ⟨y, h3, hc⟩ := Option.bind_eq_some_iff.1 hc
      obtain ⟨i, h4, rfl⟩ := Option.map_eq_some_iff.1 hc
      exact op_idxA bo bb br h ht h1 h2 h3 h4
    · rename_i ht
      obtain ⟨y, h3, hc⟩ := Option.bind_eq_some_iff.1 hc
      obtain ⟨i, h4, rfl⟩ := Option.map_eq_some_iff.1 hc
      exact op_idxT bo bb br h ht h3 h4
    · cases hc
  case extract x i =>
    obtain ⟨y, h1, rfl⟩ := Option.map_eq_some_iff.1 hc
    exact op_ext bo bb br h h1
  case call c =>
    obtain ⟨callee, args, ts⟩ := c
    split at hc
    · rename_i b hb
      dsimp only at hb
      subst hb
      obtain ⟨xs, h1, hc⟩ := Option.bind_eq_some_iff.1 hc
      intro hok
      have e : ∃ cs, (execOp a.eval ⟨dst, .call ⟨.builtin b, args, ts⟩, ty, pos, after, guard⟩).run P w = (builtin b ts ty cs (args.map a.eval)).run P w := by
        refine ⟨args.map fun | .const _ => true | _ => false, ?_⟩
        simp only [execOp, resolve, Sem.run_bind, Sem.run_pure, Result.andThen_ok, invoke]
        rfl
      obtain ⟨cs, e⟩ := e
      obtain ⟨v, w', ρ', F', q1, q2, q3, q4⟩ := op_builtin bo bb br h (ty := ty) (cs := cs) h1 hc hbr hok
      refine ⟨v, w', ρ', F', ?_, q2, q3, q4⟩
      rw [e]; exact q1
    · cases hc
end
end Go.Proofs.Ytjacmhaeemhinaa
