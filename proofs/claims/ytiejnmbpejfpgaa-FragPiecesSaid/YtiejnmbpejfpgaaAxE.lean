/- Equality of structs and arrays, cell by cell. -/
import Derived.Test.YtiejnmbpejfpgaaAxI
import Derived.Laws.StructEq
import Derived.ChangeKeysEq
namespace Go.Proofs.Ytiejnmbpejfpgaa
open Go.RowKit
set_option linter.unusedVariables false

def eqFs (P : Program) (g : TypeId → Option (List Nat)) : Nat → List Field → Option (List Nat)
  | _, [] => some []
  | off, f :: fs => if f.name ≠ "_" ∧ f.offset = off then (g f.type).bind fun l => if l = [] then none else (eqFs P g (off + l.length) fs).map (l ++ ·) else none
/-- The kinds of a type's cells, if it is compared cell by cell. -/
def eqOk (P : Program) : Nat → TypeId → Option (List Nat)
  | 0, _ => none
  | d + 1, t => ((match P.underlying t with
    | some (.int _) => some [0]
    | some .bool => some [1]
    | some .string => some [2]
    | some (.struct fs) => if P.stoodInHeld t = true then none else eqFs P (eqOk P d) 0 fs.toList
    | some (.array n e) => (eqOk P d e).bind fun l => if l = [] then none else some (List.replicate n l).flatten
    | _ => none) : Option (List Nat)).bind fun l => if szOf P t = some l.length then some l else none

theorem eqTs_len : ∀ {ts : List Nat} {xs ys : List AV} {r : Bool}, eqTs ts xs ys = some r → xs.length = ts.length ∧ ys.length = ts.length
  | [], [], [], _, _ => ⟨rfl, rfl⟩
  | t :: ts, x :: xs, y :: ys, r, h => by
    simp only [eqTs] at h
    split at h
    · rename_i a b h1 h2
      have := eqTs_len h2
      simp [this.1, this.2]
    · cases h
  | [], _ :: _, _, _, h => by simp [eqTs] at h
  | [], [], _ :: _, _, h => by simp [eqTs] at h
  | _ :: _, [], _, _, h => by simp [eqTs] at h
  | _ :: _, _ :: _, [], _, h => by simp [eqTs] at h
theorem eqTs_app : ∀ {t1 t2 : List Nat} {xs ys : List AV} {r : Bool}, eqTs (t1 ++ t2) xs ys = some r → ∃ a b, eqTs t1 (xs.take t1.length) (ys.take t1.length) = some a ∧ eqTs t2 (xs.drop t1.length) (ys.drop t1.length) = some b ∧ r = (a && b)
  | [], t2, xs, ys, r, h => ⟨true, r, by simp [eqTs], by simpa using h, by simp⟩
  | t :: t1, t2, xs, ys, r, h => by
    match xs, ys with
    | [], _ => simp [eqTs] at h
    | _ :: _, [] => simp [eqTs] at h
    | x :: xs, y :: ys =>
      simp only [List.cons_append, eqTs] at h
      split at h
      · rename_i a b h1 h2
        cases h
        obtain ⟨a', b', e1, e2, rfl⟩ := eqTs_app h2
        refine ⟨a && a', b', ?_, by simpa using e2, by rw [Bool.and_assoc]⟩
        simp only [List.length_cons, List.take_succ_cons, eqTs, h1, e1]
      · cases h

theorem eqTs_one {t : Nat} {a b : AV} {r : Bool} (h : eqTs [t] [a] [b] = some r) : eqT t a b = some r := by
  simp only [eqTs] at h
  cases hq : eqT t a b with
  | none => rw [hq] at h; cases h
  | some x => rw [hq] at h; simpa using h
theorem eqT_0 {a b : AV} {r : Bool} (h : eqT 0 a b = some r) : ∃ k x y, a = .int k x ∧ b = .int k y ∧ decide (x = y) = r := by
  cases a with
  | int k x => cases b with
    | int k' y =>
      by_cases e : k = k'
      · subst e; exact ⟨k, x, y, rfl, rfl, by simpa [eqT] using h⟩
      · simp [eqT, e] at h
    | _ => simp [eqT] at h
  | _ => simp [eqT] at h
theorem eqT_1 {a b : AV} {r : Bool} (h : eqT 1 a b = some r) : ∃ x y, a = .bool x ∧ b = .bool y ∧ (x == y) = r := by
  cases a with
  | bool x => cases b with
    | bool y => exact ⟨x, y, rfl, rfl, by simpa [eqT] using h⟩
    | _ => simp [eqT] at h
  | _ => simp [eqT] at h
theorem eqT_2 {a b : AV} {r : Bool} (h : eqT 2 a b = some r) : ∃ x y, a = .str x ∧ b = .str y ∧ decide (x = y) = r := by
  cases a with
  | str x => cases b with
    | str y => exact ⟨x, y, rfl, rfl, by simpa [eqT] using h⟩
    | _ => simp [eqT] at h
  | _ => simp [eqT] at h
section
variable {P : Program} {ρ : Env} {B : Nat → Prop} {F : Nat → Prop} {w : World}
/-- A value, by its cells. -/
def RV1 (ρ : Env) (B F : Nat → Prop) (w : World) (g : Bool) (v : Value) (l : List AV) : Prop := (g = true → Rep ρ B F w v (.agg l)) ∧ (g = false → ∃ a, l = [a] ∧ Rep ρ B F w v a)
theorem rv1_part {t : TypeId} {g : Bool} {n off : Nat} (hg : aggOf P t = some g) (hn : szOf P t = some n) (h1 : g = false → n = 1) {cs : Array Value} {l : List AV} (hl : cs.size = l.length) (hc : ∀ (i : Nat) (u : Value) (av : AV), cs[i]? = some u → l[i]? = some av → Rep ρ B F w u av) (ho : off + n ≤ l.length) :
    ∃ v, (part t cs off).run P w = .ok v w ∧ RV1 ρ B F w g v ((l.drop off).take n) := by
  obtain ⟨v, h2, h3⟩ := run_part hg hn hl hc ho h1
  refine ⟨v, h2, fun e => ?_, fun e => ?_⟩
  · rw [e] at h3; exact h3
  · subst e
    have := h1 rfl
    subst this
    have e2 : l[off]? = some (l[off]'(by omega)) := List.getElem?_eq_getElem (by omega)
    refine ⟨l[off]'(by omega), ?_, by simpa [e2] using h3⟩
    rw [List.drop_eq_getElem_cons (show off < l.length by omega)]; rfl
def EqR (P : Program) (d : Nat) (t : TypeId) (ts : List Nat) : Prop := ∃ g, aggOf P t = some g ∧ szOf P t = some ts.length ∧ (g = false → ts.length = 1) ∧
  ∀ (ρ : Env) (B F : Nat → Prop) (w : World) (d' : Nat), d ≤ d' → ∀ (v1 v2 : Value) (l1 l2 : List AV) (r : Bool), RV1 ρ B F w g v1 l1 → RV1 ρ B F w g v2 l2 → eqTs ts l1 l2 = some r → (Op.equalIn d' t v1 v2).run P w = .ok r w
theorem eqFs_run {d : Nat} (ih : ∀ t ts, eqOk P d t = some ts → EqR P d t ts) (d' : Nat) (hd : d ≤ d') {c1 c2 : Array Value} {l1 l2 : List AV} (hl1 : c1.size = l1.length) (hl2 : c2.size = l2.length) (h1 : ∀ (i : Nat) (u : Value) (av : AV), c1[i]? = some u → l1[i]? = some av → Rep ρ B F w u av) (h2 : ∀ (i : Nat) (u : Value) (av : AV), c2[i]? = some u → l2[i]? = some av → Rep ρ B F w u av) :
    ∀ (fs : List Field) (off : Nat) (ts : List Nat) (r : Bool), eqFs P (eqOk P d) off fs = some ts → eqTs ts (l1.drop off) (l2.drop off) = some r → (Op.eqFields d' c1 c2 fs).run P w = .ok r w
  | [], off, ts, r, h, hr => by
    simp only [eqFs, Option.some.injEq] at h
    subst h
    have hlen := eqTs_len hr
    have e1 : l1.drop off = [] := List.eq_nil_of_length_eq_zero hlen.1
    have e2 : l2.drop off = [] := List.eq_nil_of_length_eq_zero hlen.2
    rw [e1, e2] at hr
    simp [eqTs] at hr
    subst hr
    simp [Op.eqFields]
  | f :: fs, off, ts, r, h, hr => by
    simp only [eqFs] at h
    split at h
    case isFalse => cases h
    rename_i hf
    obtain ⟨hnm, rfl⟩ := hf
    obtain ⟨l, g1, h⟩ := Option.bind_eq_some_iff.1 h
    split at h
    · cases h
    rename_i hne
    have hpos : 0 < l.length := List.length_pos_iff.2 hne
    obtain ⟨ts', g2, rfl⟩ := Option.map_eq_some_iff.1 h
    obtain ⟨a, b, e1, e2, rfl⟩ := eqTs_app hr
    obtain ⟨g, k1, k2, k3, k4⟩ := ih _ _ g1
    have hlen := eqTs_len hr
    simp only [List.length_drop, List.length_append] at hlen
    rw [List.drop_drop, List.drop_drop] at e2
    have rest := eqFs_run ih d' hd hl1 hl2 h1 h2 fs (f.offset + l.length) ts' b g2 e2
    obtain ⟨v1, p1, q1⟩ := rv1_part (off := f.offset) k1 k2 k3 hl1 h1 (by omega)
    obtain ⟨v2, p2, q2⟩ := rv1_part (off := f.offset) k1 k2 k3 hl2 h2 (by omega)
    have hq := k4 ρ B F w d' hd v1 v2 _ _ a q1 q2 e1
    simp only [Op.eqFields, hnm, ne_eq, not_false_eq_true, if_true, Sem.run_bind, p1, p2, hq, Result.andThen_ok]
    cases a
    · simp
    · simpa using rest
theorem eqIs_run {d : Nat} {e : TypeId} {te : List Nat} (hR : EqR P d e te) (hce : P.cellsOf e = te.length) (d' : Nat) (hd : d ≤ d') {c1 c2 : Array Value} {l1 l2 : List AV} (hl1 : c1.size = l1.length) (hl2 : c2.size = l2.length) (h1 : ∀ (i : Nat) (u : Value) (av : AV), c1[i]? = some u → l1[i]? = some av → Rep ρ B F w u av) (h2 : ∀ (i : Nat) (u : Value) (av : AV), c2[i]? = some u → l2[i]? = some av → Rep ρ B F w u av) (hpos : 0 < te.length) :
    ∀ (n i : Nat) (r : Bool), eqTs (List.replicate n te).flatten (l1.drop (i * te.length)) (l2.drop (i * te.length)) = some r → (Op.eqItems d' e (P.cellsOf e) c1 c2 (List.range' i n)).run P w = .ok r w
  | 0, i, r, hr => by
    have hlen := eqTs_len hr
    simp only [List.replicate_zero, List.flatten_nil, List.length_nil] at hlen
    rw [List.eq_nil_of_length_eq_zero hlen.1, List.eq_nil_of_length_eq_zero hlen.2] at hr
    simp [eqTs] at hr
    subst hr
    simp [Op.eqItems]
  | n + 1, i, r, hr => by
    have hlen := eqTs_len hr
    rw [List.replicate_succ, List.flatten_cons] at hr hlen
    simp only [List.length_drop, List.length_append] at hlen
    obtain ⟨a, b, e1, e2, rfl⟩ := eqTs_app hr
    rw [List.drop_drop, List.drop_drop, show i * te.length + te.length = (i + 1) * te.length by rw [Nat.add_mul]; omega] at e2
    have rest := eqIs_run hR hce d' hd hl1 hl2 h1 h2 hpos n (i + 1) b e2
    obtain ⟨g, k1, k2, k3, k4⟩ := hR
    obtain ⟨v1, p1, q1⟩ := rv1_part (off := i * te.length) k1 k2 k3 hl1 h1 (by omega)
    obtain ⟨v2, p2, q2⟩ := rv1_part (off := i * te.length) k1 k2 k3 hl2 h2 (by omega)
    have hq := k4 ρ B F w d' hd v1 v2 _ _ a q1 q2 e1
    rw [List.range'_succ]
    rw [← hce] at p1 p2
    simp only [Op.eqItems, Sem.run_bind, p1, p2, hq, Result.andThen_ok]
    cases a
    · simp
    · simpa using rest
theorem eqOk_run : ∀ (d : Nat) (t : TypeId) (ts : List Nat), eqOk P d t = some ts → EqR P d t ts
  | 0, t, ts, h => by cases h
  | d + 1, t, ts, h => by
    have ih := eqOk_run d
    simp only [eqOk] at h
    obtain ⟨l, h, hsz⟩ := Option.bind_eq_some_iff.1 h
    split at hsz
    case isFalse => cases hsz
    rename_i hs
    cases hsz
    have one : ∀ {v : Value} {l : List AV} {ρ : Env} {B F : Nat → Prop} {w : World}, RV1 ρ B F w false v l → ∃ a, l = [a] ∧ Rep ρ B F w v a := fun h => h.2 rfl
    split at h
    · rename_i k hu
      cases h
      refine ⟨false, by simp [aggOf, hu], hs, fun _ => rfl, fun ρ B F w d' hd v1 v2 l1 l2 r q1 q2 hr => ?_⟩
      obtain ⟨d', rfl⟩ : ∃ n, d' = n + 1 := ⟨d' - 1, by omega⟩
      obtain ⟨a, rfl, r1⟩ := one q1
      obtain ⟨b, rfl, r2⟩ := one q2
      obtain ⟨k1, x, y, rfl, rfl, rfl⟩ := eqT_0 (eqTs_one hr)
      rw [r1.int_inv, r2.int_inv, run_equalIn_int w d' t _ _ _ _ hu]
      congr 1
    · rename_i hu
      cases h
      refine ⟨false, by simp [aggOf, hu], hs, fun _ => rfl, fun ρ B F w d' hd v1 v2 l1 l2 r q1 q2 hr => ?_⟩
      obtain ⟨d', rfl⟩ : ∃ n, d' = n + 1 := ⟨d' - 1, by omega⟩
      obtain ⟨a, rfl, r1⟩ := one q1
      obtain ⟨b, rfl, r2⟩ := one q2
      obtain ⟨x, y, rfl, rfl, rfl⟩ := eqT_1 (eqTs_one hr)
      rw [r1.bool_inv, r2.bool_inv, run_equalIn_bool' w d' t _ _ hu]
    · rename_i hu
      cases h
      refine ⟨false, by simp [aggOf, hu], hs, fun _ => rfl, fun ρ B F w d' hd v1 v2 l1 l2 r q1 q2 hr => ?_⟩
      obtain ⟨d', rfl⟩ : ∃ n, d' = n + 1 := ⟨d' - 1, by omega⟩
      obtain ⟨a, rfl, r1⟩ := one q1
      obtain ⟨b, rfl, r2⟩ := one q2
      obtain ⟨x, y, rfl, rfl, rfl⟩ := eqT_2 (eqTs_one hr)
      obtain ⟨s1, rfl, f1⟩ := r1.str_inv
      obtain ⟨s2, rfl, f2⟩ := r2.str_inv
      rw [run_equalIn_string w d' t _ _ hu]
      have t1 : s1.toList = s1.data.toList := ByteArray.toList_eq s1
      have t2 : s2.toList = s2.data.toList := ByteArray.toList_eq s2
      rw [t1, t2, f1, f2]
      congr 1
      exact (Bool.beq_eq_decide_eq x y)
    · rename_i fs hu
      split at h
      · cases h
      · rename_i hst
        have hst : P.stoodInHeld t = false := by simpa using hst
        refine ⟨true, by simp [aggOf, hu], hs, (fun e => by cases e), fun ρ B F w d' hd v1 v2 l1 l2 r q1 q2 hr => ?_⟩
        obtain ⟨d', rfl⟩ : ∃ n, d' = n + 1 := ⟨d' - 1, by omega⟩
        obtain ⟨c1, rfl, g1, g2⟩ := (q1.1 rfl).agg_inv
        obtain ⟨c2, rfl, g3, g4⟩ := (q2.1 rfl).agg_inv
        have hfs : P.fieldsOf t = fs := by simp [Program.fieldsOf, hu]
        rw [run_equalIn_struct w d' t c1 c2 (by rw [hfs]; exact hu) hst, hfs]
        exact eqFs_run ih d' (by omega) g1 g3 g2 g4 fs.toList 0 _ r h (by simpa using hr)
    · rename_i n e hu
      obtain ⟨te, h1, h⟩ := Option.bind_eq_some_iff.1 h
      split at h
      · cases h
      rename_i hne
      cases h
      have hpos : 0 < te.length := List.length_pos_iff.2 hne
      have hR := ih _ _ h1
      refine ⟨true, by simp [aggOf, hu], hs, (fun e => by cases e), fun ρ B F w d' hd v1 v2 l1 l2 r q1 q2 hr => ?_⟩
      obtain ⟨d', rfl⟩ : ∃ n, d' = n + 1 := ⟨d' - 1, by omega⟩
      obtain ⟨c1, rfl, g1, g2⟩ := (q1.1 rfl).agg_inv
      obtain ⟨c2, rfl, g3, g4⟩ := (q2.1 rfl).agg_inv
      have hR' := hR
      obtain ⟨g, k1, k2, k3, k4⟩ := hR
      obtain ⟨i, hi, hiz⟩ := Option.map_eq_some_iff.1 k2
      have hce : P.cellsOf e = te.length := by simp [Program.cellsOf, hi, hiz]
      rw [run_equalIn_array w d' c1 c2 hu hi, List.range_eq_range']
      exact eqIs_run hR' hce d' (by omega) g1 g3 g2 g4 hpos n 0 r (by simpa using hr)
    · cases h
end
end Go.Proofs.Ytiejnmbpejfpgaa
