/- Arguments of any form, as the abstract values that stand for them. -/
import Derived.ProofKit
import Derived.OpenShut
import Derived.ChangeArms
import Derived.ChangeOld
import Derived.WideShapes
import Derived.Deep.Slices
import Derived.Deep.Fields
import Derived.Test.YtjacmhaeemhinaaAxC
import Derived.Test.YtjacmhaeemhinaaAx30
namespace Go.Proofs.Ytjacmhaeemhinaa
open Go.ChangeShapes Go.WideShapes Go.ChangeAt Go.RowKit Go.Deep
set_option linter.unusedVariables false

/-- These cells read as a value of this type. -/
def Rdt (P : Program) (w : World) (t : TypeId) (cs : List Value) : Prop :=
  ∃ (H : Type) (enc : TypeId × Value → H) (base : Nat) (spare : Nat → Bool) (held : Bool) (n : Nat) (x : DataW H × List MemPlace), DataW.trod enc P w base spare held n t cs = some x

theorem Rdt.of_trod {H : Type} {enc : TypeId × Value → H} {P : Program} {w : World} {base : Nat} {spare : Nat → Bool} {held : Bool} {t : TypeId} {v : Value} {d : DataW H} {p : List MemPlace} (h : DataW.Trod enc P w base spare held t v d p) :
    Rdt P w t v.cells.toList := by
  obtain ⟨fuel, hf⟩ := h
  exact ⟨H, enc, base, spare, held, fuel, _, hf⟩
section
variable {P : Program} {w : World} {t : TypeId} {cs : List Value}
theorem Rdt.int {k : IntKind} (ht : P.underlying t = some (.int k)) (h : Rdt P w t cs) : ∃ z, cs = [.int k z] ∧ (Lit.int k z).wf = true := by
  obtain ⟨H, enc, base, spare, held, n, x, hx⟩ := h
  obtain ⟨z, hz, _, hw⟩ := DataW.trod_int ht hx
  exact ⟨z, hz, hw⟩
theorem Rdt.bool (ht : P.underlying t = some .bool) (h : Rdt P w t cs) : ∃ b, cs = [.bool b] := by
  obtain ⟨H, enc, base, spare, held, n, x, hx⟩ := h
  obtain ⟨z, hz, _⟩ := DataW.trod_bool ht hx
  exact ⟨z, hz⟩
theorem Rdt.string (ht : P.underlying t = some .string) (h : Rdt P w t cs) : ∃ s : ByteArray, cs = [.string s] ∧ s.size ≤ maxLen := by
  obtain ⟨H, enc, base, spare, held, n, x, hx⟩ := h
  obtain ⟨s, hs, _, hl⟩ := DataW.trod_string ht hx
  exact ⟨s, hs, hl⟩
theorem Rdt.struct {fs : Array Field} (ht : P.underlying t = some (.struct fs)) (h : Rdt P w t cs) :
    cs.length = P.cellsOf t ∧ ∀ (i : Nat) (f : Field), fs[i]? = some f → Rdt P w f.type ((cs.drop f.offset).take (P.cellsOf f.type)) := by
  obtain ⟨H, enc, base, spare, held, n, x, hx⟩ := h
  obtain ⟨xs, m, _, _, hl, hxs, hf⟩ := DataW.trod_struct ht hx
  refine ⟨hl, fun i f hi => ?_⟩
  have hil := (Array.getElem?_eq_some_iff.1 hi).1
  have := hf i f hi
  rw [List.getElem?_eq_getElem (by omega)] at this
  exact ⟨H, enc, base, spare, held, m, _, this⟩
theorem Rdt.array {e : TypeId} {n : Nat} (ht : P.underlying t = some (.array n e)) (h : Rdt P w t cs) :
    cs.length = P.cellsOf t ∧ ∀ i, i < n → Rdt P w e ((cs.drop (i * P.cellsOf e)).take (P.cellsOf e)) := by
  obtain ⟨H, enc, base, spare, held, m, x, hx⟩ := h
  obtain ⟨xs, m', _, _, hl, hxn, hf⟩ := DataW.trod_array ht hx
  refine ⟨hl, fun i hi => ?_⟩
  have := hf i hi
  rw [List.getElem?_eq_getElem (by omega)] at this
  exact ⟨H, enc, base, spare, held, m', _, this⟩
theorem Rdt.slice {e : TypeId} (ht : P.underlying t = some (.slice e)) (h : Rdt P w t cs) :
    ∃ (a : Option Addr) (n c : Nat), cs = [.slice a n c] ∧ n ≤ c ∧ c ≤ maxLen ∧ (a = none → c = 0) ∧
      ∀ i, i < n → ∃ cs', cs'.length = P.cellsOf e ∧ (∀ ad, a = some ad → ∀ j, j < P.cellsOf e → w.cell? (ad.add (i * P.cellsOf e + j)) = cs'[j]?) ∧ Rdt P w e cs' := by
  obtain ⟨H, enc, base, spare, held, m, x, hx⟩ := h
  rcases open_slice ht hx with ⟨rfl, -⟩ | ⟨a, len, cap, m', n', D, Pl, rfl, hb, hl, hm, hmm, hx', hi⟩
  · exact ⟨none, 0, 0, rfl, Nat.le_refl _, by decide, fun _ => rfl, fun i hi => absurd hi (Nat.not_lt_zero _)⟩
  · refine ⟨some a, len, cap, rfl, hl, hm, (fun h => by cases h), fun i hil => ?_⟩
    obtain ⟨cs', hc, ht'⟩ := hi i (by rw [hmm]; split <;> omega)
    obtain ⟨_, hcl, hat⟩ := World.cells?_some hc
    refine ⟨cs', hcl, fun ad had j hj => ?_, H, enc, base, spare, held, n', _, ht'⟩
    cases had
    rw [← hat j hj, Go.Deep.add_add]
end
/-- What a cell may be, and what the elements of a slice are. -/
inductive CT where
  | int (k : IntKind)
  | bool
  | str
  | sl (ts : List CT)
mutual
inductive Fits : CT → AV → Prop
  | int (k : IntKind) (z : Int) (h : (Lit.int k z).wf = true) : Fits (.int k) (.int k z)
  | bool (b : Bool) : Fits .bool (.bool b)
  | str (l : List UInt8) (h : l.length ≤ maxLen) : Fits .str (.str l)
  | sl1 (t : CT) (es : List AV) (h : ∀ e ∈ es, Fits t e) (hl : es.length ≤ maxLen) : Fits (.sl [t]) (.sl false 1 es)
  | slk (ts : List CT) (ess : List (List AV)) (h : ∀ cs ∈ ess, FitsL ts cs) (hl : ess.length ≤ maxLen) (ht : ts.length ≠ 1) : Fits (.sl ts) (.sl false ts.length (ess.map .agg))
inductive FitsL : List CT → List AV → Prop
  | nil : FitsL [] []
  | cons (t : CT) (a : AV) (ts : List CT) (as : List AV) (h : Fits t a) (h2 : FitsL ts as) : FitsL (t :: ts) (a :: as)
end
theorem FitsL.len : ∀ {ts : List CT} {as : List AV}, FitsL ts as → as.length = ts.length
  | _, _, .nil => rfl
  | _, _, .cons t a ts as h h2 => by simp [h2.len]
theorem FitsL.app {ts us : List CT} {bs : List AV} (h2 : FitsL us bs) : ∀ {as : List AV}, FitsL ts as → FitsL (ts ++ us) (as ++ bs) := by
  induction ts with
  | nil => intro as h; cases h; exact h2
  | cons t ts ih => intro as h; cases h with | cons _ a _ as h3 h4 => exact .cons _ _ _ _ h3 (ih h4)
theorem Fits.cells {t : CT} {a : AV} (h : Fits t a) : a.cells = [a] := by cases h <;> rfl

/-- The cells of a type, if the model here takes it. -/
def flatFs (P : Program) (ft : TypeId → Option (List CT)) : List Field → Nat → Option (List CT)
  | [], _ => some []
  | f :: fs, o => (ft f.type).bind fun ts => if f.offset = o ∧ ts.length = P.cellsOf f.type then (flatFs P ft fs (o + ts.length)).map fun us => ts ++ us else none
def flatTy (P : Program) : Nat → TypeId → Option (List CT)
  | 0, _ => none
  | n + 1, t =>
    match P.underlying t with
    | some (.int k) => some [.int k]
    | some .bool => some [.bool]
    | some .string => some [.str]
    | some (.slice e) => (flatTy P n e).bind fun ts => if ts.length = P.cellsOf e ∧ 0 < ts.length then some [.sl ts] else none
    | some (.array m e) => (flatTy P n e).bind fun ts => if ts.length = P.cellsOf e ∧ P.cellsOf t = m * P.cellsOf e then some (List.replicate m ts).flatten else none
    | some (.struct fs) => (flatFs P (flatTy P n) fs.toList 0).bind fun ts => if ts.length = P.cellsOf t then some ts else none
    | _ => none
def RL (w : World) (cs : List Value) (as : List AV) : Prop := cs.length = as.length ∧ ∀ (i : Nat) (u : Value) (a : AV), cs[i]? = some u → as[i]? = some a → Rep0 (fun x => x < w.heap.size) w u a
theorem RL.nil {w : World} : RL w [] [] := ⟨rfl, fun i u a e => by simp at e⟩
theorem RL.app {w : World} {cs ds : List Value} {as bs : List AV} (h : RL w cs as) (h2 : RL w ds bs) : RL w (cs ++ ds) (as ++ bs) := by
  refine ⟨by simp [h.1, h2.1], fun i u a e1 e2 => ?_⟩
  rcases Nat.lt_or_ge i cs.length with q | q
  · rw [List.getElem?_append_left q] at e1
    rw [List.getElem?_append_left (by rw [← h.1]; exact q)] at e2
    exact h.2 i u a e1 e2
  · rw [List.getElem?_append_right q] at e1
    rw [List.getElem?_append_right (by rw [← h.1]; exact q), ← h.1] at e2
    exact h2.2 _ u a e1 e2
theorem RL.one {w : World} {c : Value} {a : AV} (h : Rep0 (fun x => x < w.heap.size) w c a) : RL w [c] [a] := by
  refine ⟨rfl, fun i u b e1 e2 => ?_⟩
  cases i with
  | zero => simp at e1 e2; subst e1 e2; exact h
  | succ i => simp at e1
theorem RL.get {w : World} {c : Value} {a : AV} (h : RL w [c] [a]) : Rep0 (fun x => x < w.heap.size) w c a := h.2 0 c a rfl rfl
theorem flatten_get {k : Nat} : ∀ {l : List (List AV)}, (∀ o ∈ l, o.length = k) → ∀ (i j : Nat), j < k → l.flatten[i * k + j]? = (l[i]?.getD [])[j]?
  | [], _, i, j, hj => by simp
  | x :: l, h, 0, j, hj => by
    rw [List.flatten_cons, List.getElem?_append_left (by rw [h _ (List.mem_cons_self ..)]; omega)]
    simp
  | x :: l, h, i + 1, j, hj => by
    rw [List.flatten_cons, List.getElem?_append_right (by rw [h _ (List.mem_cons_self ..), Nat.add_mul]; omega), h _ (List.mem_cons_self ..)]
    rw [show (i + 1) * k + j - k = i * k + j by rw [Nat.add_mul]; omega]
    rw [flatten_get (fun y hy => h y (List.mem_cons_of_mem _ hy)) i j hj]; simp
theorem cell_lt {w : World} {a : Addr} {v : Value} (h : w.cell? a = some v) : a.block < w.heap.size := by
  unfold World.cell? at h
  rcases Nat.lt_or_ge a.block w.heap.size with q | q
  · exact q
  · rw [Array.getElem?_eq_none q] at h; simp at h
theorem choose2 {n : Nat} {p : Nat → List Value → List AV → Prop} (h : ∀ i, i < n → ∃ c a, p i c a) : ∃ (C : Nat → List Value) (G : Nat → List AV), ∀ i, i < n → p i (C i) (G i) := by
  refine ⟨fun i => if q : i < n then (h i q).choose else [], fun i => if q : i < n then (h i q).choose_spec.choose else [], fun i q => ?_⟩
  simp only [dif_pos q]
  exact (h i q).choose_spec.choose_spec

theorem flatFs_rep {P : Program} {w : World} {ft : TypeId → Option (List CT)} (ih : ∀ (t : TypeId) (ts : List CT) (cs : List Value), ft t = some ts → Rdt P w t cs → ∃ as, RL w cs as ∧ FitsL ts as) (cs : List Value) :
    ∀ (fs : List Field) (o : Nat) (ts : List CT), flatFs P ft fs o = some ts → (∀ f ∈ fs, Rdt P w f.type ((cs.drop f.offset).take (P.cellsOf f.type))) → o + ts.length = cs.length → ∃ as, RL w (cs.drop o) as ∧ FitsL ts as
  | [], o, ts, h, _, hl => by
    cases h
    refine ⟨[], ?_, .nil⟩
    rw [List.drop_eq_nil_of_le (by simp at hl; omega)]; exact .nil
  | f :: fs, o, ts, h, hr, hl => by
    simp only [flatFs, Option.bind_eq_some_iff] at h
    obtain ⟨ts1, h1, h2⟩ := h
    split at h2
    · rename_i hc
      obtain ⟨us, h3, rfl⟩ := Option.map_eq_some_iff.1 h2
      obtain ⟨as, ha, hf⟩ := ih _ _ _ h1 (hr f (List.mem_cons_self ..))
      obtain ⟨bs, hb, hg⟩ := flatFs_rep ih cs fs _ _ h3 (fun g hg => hr g (List.mem_cons_of_mem _ hg)) (by rw [List.length_append] at hl; omega)
      refine ⟨as ++ bs, ?_, hg.app hf⟩
      rw [hc.1, ← hc.2] at ha
      have := ha.app hb
      rw [← List.drop_drop, List.take_append_drop] at this
      exact this
    · cases h2
theorem flatTy_rep {P : Program} {w : World} : ∀ (n : Nat) (t : TypeId) (ts : List CT) (cs : List Value), flatTy P n t = some ts → Rdt P w t cs → ∃ as, RL w cs as ∧ FitsL ts as
  | 0, t, ts, cs, h, _ => by cases h
  | n + 1, t, ts, cs, h, hr => by
    unfold flatTy at h
    split at h
    · rename_i k ht
      cases h
      obtain ⟨z, rfl, hw⟩ := hr.int ht
      exact ⟨[.int k z], .one (.int _ _), .cons _ _ _ _ (.int _ _ hw) .nil⟩
    · rename_i ht
      cases h
      obtain ⟨z, rfl⟩ := hr.bool ht
      exact ⟨[.bool z], .one (.bool _), .cons _ _ _ _ (.bool _) .nil⟩
    · rename_i ht
      cases h
      obtain ⟨s, rfl, hl⟩ := hr.string ht
      exact ⟨[.str s.data.toList], .one (.str _ _ rfl), .cons _ _ _ _ (.str _ (by simpa using hl)) .nil⟩
    · rename_i e ht
      obtain ⟨ts1, h1, h2⟩ := Option.bind_eq_some_iff.1 h
      split at h2
      · rename_i hc
        cases h2
        obtain ⟨a, m, c, rfl, hmc, hcm, hnil, hi⟩ := hr.slice ht
        obtain ⟨C, G, hG⟩ := choose2 (n := m) (p := fun i cs' as' => cs'.length = P.cellsOf e ∧ (∀ ad, a = some ad → ∀ j, j < P.cellsOf e → w.cell? (ad.add (i * P.cellsOf e + j)) = cs'[j]?) ∧ RL w cs' as' ∧ FitsL ts1 as') (fun i hin => by
          obtain ⟨cs', g1, g2, g3⟩ := hi i hin
          obtain ⟨as, g4, g5⟩ := flatTy_rep n e ts1 cs' h1 g3
          exact ⟨cs', as, g1, g2, g4, g5⟩)
        have hlen : ∀ i, i < m → (G i).length = ts1.length := fun i hin => (hG i hin).2.2.2.len
        have row : ∀ es : List AV, flat es = ((List.range m).map G).flatten → es.length = m → (∀ x ∈ es, x.cells.length = ts1.length) → Rep0 (fun x => x < w.heap.size) w (.slice a m c) (.sl false ts1.length es) := by
          intro es he hel hec
          have hcell : ∀ ad, a = some ad → ∀ i, i < m * ts1.length → w.cell? (ad.add i) = some ((C (i / ts1.length))[i % ts1.length]?.getD undef) := by
            intro ad had i hil
            have hin : i / ts1.length < m := Nat.div_lt_of_lt_mul (by rw [Nat.mul_comm]; exact hil)
            have hjk : i % ts1.length < ts1.length := Nat.mod_lt _ hc.2
            have hj : i = i / ts1.length * ts1.length + i % ts1.length := by rw [Nat.mul_comm]; exact (Nat.div_add_mod _ _).symm
            obtain ⟨g1, g2, g3, g4⟩ := hG _ hin
            have g5 := g2 ad had (i % ts1.length) (by omega)
            rw [← hc.1, ← hj] at g5
            rw [g5, List.getElem?_eq_getElem (by omega)]; rfl
          refine .sl a m c ts1.length es (fun i => (C (i / ts1.length))[i % ts1.length]?.getD undef) hel hec ⟨hmc, hcm, hnil, fun ad had h0 => ?_, hcell⟩ fun i av hav => ?_
          · have := cell_lt (hcell ad had 0 h0)
            rwa [add_block] at this
          · have hil : i < m * ts1.length := by
              have := (List.getElem?_eq_some_iff.1 hav).1
              rw [he, List.length_flatten] at this
              have e2 : ((List.range m).map G).map List.length = List.replicate m ts1.length := by
                rw [List.map_map, List.eq_replicate_iff]
                refine ⟨by simp, fun b hb => ?_⟩
                obtain ⟨j, hj, rfl⟩ := List.mem_map.1 hb
                exact hlen j (List.mem_range.1 hj)
              rw [e2, List.sum_replicate_nat] at this; exact this
            have hin : i / ts1.length < m := Nat.div_lt_of_lt_mul (by rw [Nat.mul_comm]; exact hil)
            have hjk : i % ts1.length < ts1.length := Nat.mod_lt _ hc.2
            have hj : i = i / ts1.length * ts1.length + i % ts1.length := by rw [Nat.mul_comm]; exact (Nat.div_add_mod _ _).symm
            obtain ⟨g1, g2, g3, g4⟩ := hG _ hin
            have g5 := flatten_get (k := ts1.length) (l := (List.range m).map G) (fun o ho => by obtain ⟨j, hj, rfl⟩ := List.mem_map.1 ho; exact hlen j (List.mem_range.1 hj)) (i / ts1.length) (i % ts1.length) hjk
            rw [← hj, ← he, hav] at g5
            simp only [List.getElem?_map, List.getElem?_range hin, Option.map_some, Option.getD_some] at g5
            refine g3.2 (i % ts1.length) _ av ?_ g5.symm
            rw [List.getElem?_eq_getElem (by omega)]; rfl
        by_cases h1k : ts1.length = 1
        · obtain ⟨t1, rfl⟩ := List.length_eq_one_iff.1 h1k
          have hone : ∀ i, i < m → ∃ x, G i = [x] ∧ Fits t1 x := fun i hin => by
            have := (hG i hin).2.2.2
            cases hg : G i with
            | nil => rw [hg] at this; cases this
            | cons x l => rw [hg] at this; cases this with | cons _ _ _ _ q1 q2 => cases q2; exact ⟨x, rfl, q1⟩
          have hmem : ∀ x ∈ (List.range m).map (fun i => (G i).headD .any), Fits t1 x := by
            intro x hx
            obtain ⟨i, hi, rfl⟩ := List.mem_map.1 hx
            obtain ⟨y, hy, hf⟩ := hone i (List.mem_range.1 hi)
            rw [hy]; exact hf
          refine ⟨[.sl false 1 ((List.range m).map fun i => (G i).headD .any)], .one (row _ ?_ (by simp) fun x hx => ?_), .cons _ _ _ _ (.sl1 _ _ hmem (by simp; omega)) .nil⟩
          · unfold flat
            rw [List.flatMap_def, List.map_map]
            congr 1
            refine List.map_congr_left fun i hi => ?_
            obtain ⟨y, hy, hf⟩ := hone i (List.mem_range.1 hi)
            simp only [Function.comp, hy, List.headD_cons]; exact hf.cells
          · rw [(hmem x hx).cells]; rfl
        · refine ⟨[.sl false ts1.length (((List.range m).map G).map .agg)], .one (row _ ?_ (by simp) fun x hx => ?_), .cons _ _ _ _ (.slk _ _ (fun cs hcs => ?_) (by simp; omega) h1k) .nil⟩
          · unfold flat
            rw [List.flatMap_def, List.map_map]
            congr 1
            exact (List.map_congr_left fun x _ => rfl).trans (List.map_id _)
          · obtain ⟨y, hy, rfl⟩ := List.mem_map.1 hx
            obtain ⟨i, hi, rfl⟩ := List.mem_map.1 hy
            exact hlen i (List.mem_range.1 hi)
          · obtain ⟨i, hi, rfl⟩ := List.mem_map.1 hcs
            exact (hG i (List.mem_range.1 hi)).2.2.2
      · cases h2
    · rename_i m e ht
      obtain ⟨ts1, h1, h2⟩ := Option.bind_eq_some_iff.1 h
      split at h2
      · rename_i hc
        cases h2
        obtain ⟨hl, hi⟩ := hr.array ht
        have key : ∀ j, j ≤ m → ∃ as, RL w (cs.take (j * P.cellsOf e)) as ∧ FitsL (List.replicate j ts1).flatten as := by
          intro j
          induction j with
          | zero => intro _; exact ⟨[], by simpa using RL.nil, .nil⟩
          | succ j ihj =>
            intro hj
            obtain ⟨as, q1, q2⟩ := ihj (by omega)
            obtain ⟨bs, q3, q4⟩ := flatTy_rep n e ts1 _ h1 (hi j (by omega))
            refine ⟨as ++ bs, ?_, ?_⟩
            · have := q1.app q3
              rw [Nat.add_mul, Nat.one_mul, List.take_add]; exact this
            · rw [List.replicate_succ', List.flatten_append]
              refine FitsL.app ?_ q2
              simpa using q4
        obtain ⟨as, q1, q2⟩ := key m (Nat.le_refl _)
        rw [List.take_of_length_le (by omega)] at q1
        exact ⟨as, q1, q2⟩
      · cases h2
    · rename_i fs ht
      obtain ⟨ts1, h1, h2⟩ := Option.bind_eq_some_iff.1 h
      split at h2
      · rename_i hc
        cases h2
        obtain ⟨hl, hi⟩ := hr.struct ht
        have := flatFs_rep (fun t ts cs => flatTy_rep n t ts cs) cs fs.toList 0 _ h1 (fun f hf => by
          obtain ⟨i, hi', rfl⟩ := List.getElem_of_mem hf
          exact hi i _ (by simp at hi'; simp [hi'])) (by omega)
        simpa using this
      · cases h2
    · cases h
/-- An argument that is a slice. -/
theorem arg_sl {P : Program} {w : World} {n : Nat} {t e : TypeId} {ts : List CT} {v : Value} {r : Reach} {b0 : Nat} {H : Type} {enc : TypeId × Value → H} {base : Nat} {spare : Nat → Bool} {held : Bool} {d : DataW H} {p : List MemPlace} (ht : P.underlying t = some (.slice e)) (hf : flatTy P n t = some [.sl ts]) (hv : Value.okWide P w r b0 t v) (k : DataW.Trod enc P w base spare held t v d p) :
    ∃ av, Rep0 (fun x => x < w.heap.size) w v av ∧ Fits (.sl ts) av := by
  obtain ⟨a, m, c, rfl⟩ := okWide_slice ht hv
  obtain ⟨as, h1, h2⟩ := flatTy_rep n t _ _ hf (Rdt.of_trod k)
  cases h2 with
  | cons _ a _ as h3 h4 =>
    cases h4
    exact ⟨a, RL.get (by simpa [Value.cells] using h1), h3⟩
theorem Fits.int_inv {k : IntKind} {a : AV} (h : Fits (.int k) a) : ∃ z, a = .int k z ∧ (Lit.int k z).wf = true := by cases h with | int _ z h => exact ⟨z, rfl, h⟩
theorem Fits.bool_inv {a : AV} (h : Fits .bool a) : ∃ b, a = .bool b := by cases h with | bool b => exact ⟨b, rfl⟩
theorem mem_choose {α β : Type} {f : α → β} {Q : α → Prop} : ∀ {l : List β}, (∀ b ∈ l, ∃ a, b = f a ∧ Q a) → ∃ l' : List α, l = l'.map f ∧ ∀ a ∈ l', Q a
  | [], _ => ⟨[], rfl, fun a h => by cases h⟩
  | b :: l, h => by
    obtain ⟨a, rfl, hq⟩ := h b (List.mem_cons_self ..)
    obtain ⟨l', rfl, h2⟩ := mem_choose (fun x hx => h x (List.mem_cons_of_mem _ hx))
    exact ⟨a :: l', rfl, fun x hx => by rcases List.mem_cons.1 hx with rfl | hx; exact hq; exact h2 x hx⟩
theorem Fits.rows1 {α : Type} {t : CT} {av : AV} (f : α → AV) (Q : α → Prop) (h : Fits (.sl [t]) av) (hf : ∀ c, Fits t c → ∃ a, c = f a ∧ Q a) :
    ∃ l : List α, av = .sl false 1 (l.map f) ∧ (∀ a ∈ l, Q a) ∧ l.length ≤ maxLen := by
  cases h with
  | sl1 _ es h hl =>
    obtain ⟨l, rfl, hq⟩ := mem_choose (f := f) (Q := Q) (fun b hb => hf b (h b hb))
    exact ⟨l, rfl, hq, by simpa using hl⟩
  | slk _ ess h hl ht => exact (ht rfl).elim
def RepF (w : World) : List Value → List AV → Prop
  | [], [] => True
  | v :: vs, a :: as => Rep Env.none (Vw w) (fun x => x < w.heap.size) w v a ∧ RepF w vs as
  | _, _ => False
theorem repF_get {w : World} : ∀ {vs : List Value} {as : List AV}, RepF w vs as → vs.length = as.length ∧ ∀ (i : Nat) (u : Value) (av : AV), vs[i]? = some u → as[i]? = some av → Rep Env.none (Vw w) (fun x => x < w.heap.size) w u av
  | [], [], _ => ⟨rfl, fun i u av e => by cases e⟩
  | [], _ :: _, h => h.elim
  | _ :: _, [], h => h.elim
  | v :: vs, a :: as, h => by
    obtain ⟨g1, g2⟩ := repF_get h.2
    refine ⟨by simp [g1], fun i u av e1 e2 => ?_⟩
    cases i with
    | zero => simp at e1 e2; subst e1 e2; exact h.1
    | succ i => exact g2 i u av (by simpa using e1) (by simpa using e2)
/-- A law's contract, where arguments may be slices. -/
theorem acall_lawF {P : Program} {f : Nat} {args : List AV} (h : ACall P f args (.bool true) []) (w : World) (vs : List Value) (hr : RepF w vs args) :
    Calls P f vs.toArray w fun e w' => e = .returned (.bool true) ∧ Below w.heap.size w w' := by
  have h1 := (repF_get hr).1
  refine (h.2 w (fun x => x < w.heap.size) vs.toArray (fun _ hx => hx) (by simpa using h1) fun i u av e1 e2 => (repF_get hr).2 i u av (by simpa using e1) e2).mono fun e w' hp => ?_
  obtain ⟨v, ρ, F', rfl, hb, _, _, _, _, _, _, _, hv⟩ := hp
  rw [hv.bool_inv]
  exact ⟨rfl, hb⟩
end Go.Proofs.Ytjacmhaeemhinaa

namespace Go.Proofs.Ytjacmhaeemhinaa
open Go.RowKit
set_option linter.unusedVariables false
section
variable {P : Program} {N : Nat} {Q : AX → AS → Prop} {tm : List (Nat × AV)} {bx : List (Option (List AV))} {rw : List (Option ARow)} {nb nr : Nat} {cd : ACode} {kk : List ACode}
theorem tm_cons {w0 : Base} {ρ : Env} {F : Nat → Prop} {a : Act} {w : World} {t : Nat} {v : AV} (hs : LSim w0 N ρ F ⟨tm, bx, rw, nb, nr⟩ a w) (hv : Rep ρ w0.V F w (a.tmps.getD t undef) v) : LSim w0 N ρ F ⟨(t, v) :: tm, bx, rw, nb, nr⟩ a w := by
  refine ⟨⟨hs.s.sz, hs.s.df, fun u => ?_, hs.s.bx, hs.s.rw, hs.s.ib, hs.s.ir, hs.s.ibr, hs.s.lb, hs.s.lr, hs.s.fl, hs.s.bel⟩, hs.b, hs.r, hs.wf⟩
  show Rep _ _ _ _ _ (if t = u then v else getT tm u)
  split
  · rename_i e; subst e; exact hv
  · exact hs.s.tm u
/-- A slice's capacity is some number. -/
theorem W.cap {t b k lo n : Nat} (ht : gT tm t = .ref b k lo n) (h : ∀ c, n ≤ c → c ≤ maxLen → WL P N (cd :: kk) Q ⟨(t, .refc b k lo n c) :: tm, bx, rw, nb, nr⟩) : WL P N (cd :: kk) Q ⟨tm, bx, rw, nb, nr⟩ := by
  refine ⟨fun c hc R w0 ρ F a w hs => ?_⟩
  rw [gT_eq] at ht
  have q := hs.s.tm t
  rw [show (AS.fs ⟨tm, bx, rw, nb, nr⟩).tm t = .ref b k lo n from ht] at q
  obtain ⟨ad, cc, p, e, hp, h1, h2, h3, h4, h5⟩ := q.ref_inv
  exact (h cc h1 h2).h c hc R w0 ρ F a w (tm_cons hs (by rw [e]; exact .refc ad b k lo n cc p hp h1 h2 h3 h4 h5))
/-- Where there is room, something stands. -/
theorem W.room {t b k lo n c : Nat} {es : List AV} (m : Nat) (ht : gT tm t = .refc b k lo n c) (hb : gO rw b = some ⟨false, k, es⟩) (hlo : lo + n = es.length) (hroom : n + m ≤ c) (hk : 0 < k)
    (h : ∀ us : List AV, us.length = m → WL P N (cd :: kk) Q ⟨tm, bx, setO rw b (some ⟨false, k, es ++ us⟩), nb, nr⟩) : WL P N (cd :: kk) Q ⟨tm, bx, rw, nb, nr⟩ := by
  refine ⟨fun cc hc R w0 ρ F a w hs => ?_⟩
  rw [gT_eq] at ht
  rw [gO_eq] at hb
  have q := hs.s.tm t
  rw [show (AS.fs ⟨tm, bx, rw, nb, nr⟩).tm t = .refc b k lo n c from ht] at q
  obtain ⟨ad, p, e, hp, h1, h2, h3, h4, h5⟩ := q.refc_inv
  have hfs : ∀ us : List AV, (AS.fs ⟨tm, bx, setO rw b (some ⟨false, k, es ++ us⟩), nb, nr⟩) = (AS.fs ⟨tm, bx, rw, nb, nr⟩).setR b (some ⟨false, k, es ++ us⟩) := fun us =>
    FS.ext' (fun _ => rfl) (fun _ => rfl) (fun x => by simp only [AS.fs, FS.setR, getO_setO])
  have hwf : ∀ us : List AV, WF ⟨tm, bx, setO rw b (some ⟨false, k, es ++ us⟩), nb, nr⟩ := fun us => ⟨hs.wf.1, fun x c hx => by
    simp only [AS.fs, getO_setO] at hx
    split at hx
    · rename_i hxb; subst hxb; exact hs.wf.2 x _ hb
    · exact hs.wf.2 x c hx⟩
  have hok := hs.s.rw b ⟨false, k, es⟩ p hb hp
  obtain ⟨o1, o2, o3⟩ := hok
  dsimp only at o1 o2 o3
  by_cases hm : m = 0
  · subst hm
    have := (h [] rfl).h cc hc R w0 ρ F a w ⟨by
      rw [hfs, List.append_nil]
      have e2 : (AS.fs ⟨tm, bx, rw, nb, nr⟩).setR b (some ⟨false, k, es⟩) = AS.fs ⟨tm, bx, rw, nb, nr⟩ := FS.ext' (fun _ => rfl) (fun _ => rfl) (fun x => by
        simp only [FS.setR, AS.fs]; split
        · rename_i q; subst q; exact hb.symm
        · rfl)
      rw [e2]; exact hs.s, hs.b, hs.r, hwf []⟩
    exact this
  · have hlim : 0 < p.lim := by
      have : 0 < (lo + c) * k := Nat.mul_pos (by omega) hk
      omega
    rcases o3 with o3 | ⟨o3, o4, cs, T, fr, ⟨o5, o5k⟩ | o5, o6, o7, o8⟩
    rotate_right
    · have : k = 0 := o5.no.1
      omega
    · omega
    have hfit : (es.length + m) * k ≤ p.lim := by
      have : (es.length + m) * k ≤ (lo + c) * k := Nat.mul_le_mul_right _ (by omega)
      omega
    have hfe := width_flat o1
    obtain ⟨us, hus⟩ : ∃ us : List AV, us = (List.range' 0 m).map fun j => AV.agg ((List.range k).map fun x => .raw (cs.getD (p.off + (es.length * k + (j * k + x))) undef)) := ⟨_, rfl⟩
    have hul : us.length = m := by rw [hus]; simp
    have huw : ∀ e ∈ us, e.cells.length = k := fun e he => by
      rw [hus] at he
      obtain ⟨j, _, rfl⟩ := List.mem_map.1 he
      simp [AV.cells]
    have hget : ∀ (i : Nat) (av : AV), (flat us)[i]? = some av → ∃ u, cs[p.off + (es.length * k + i)]? = some u ∧ Rep0 F w u av := fun i av hi => by
      have hil := (List.getElem?_eq_some_iff.1 hi).1
      rw [width_flat huw, hul] at hil
      have hj : i / k < m := Nat.div_lt_of_lt_mul (by rw [Nat.mul_comm]; exact hil)
      have hx : i % k < k := Nat.mod_lt _ hk
      have hdm : i / k * k + i % k = i := by rw [Nat.mul_comm]; exact Nat.div_add_mod i k
      have e1 : us[i / k]? = some (AV.agg ((List.range k).map fun x => .raw (cs.getD (p.off + (es.length * k + (i / k * k + x))) undef))) := by
        rw [hus, List.getElem?_map, List.getElem?_range' hj]; simp
      have e2 := flat_get huw e1 hx
      rw [hdm, hi] at e2
      simp only [AV.cells, List.getElem?_map, List.getElem?_range hx, Option.map_some, Option.some.injEq] at e2
      subst e2
      rw [hdm]
      have hin : p.off + (es.length * k + i) < cs.size := by rw [Nat.add_mul] at hfit; omega
      refine ⟨cs[p.off + (es.length * k + i)], Array.getElem?_eq_getElem hin, ?_⟩
      rw [show cs.getD (p.off + (es.length * k + i)) undef = cs[p.off + (es.length * k + i)] by simp [Array.getD, hin]]
      exact .raw _
    have hsim := hs.s.writeRow (w' := w) (r' := ⟨false, k, es ++ us⟩) hb hp rfl rfl hlim rfl rfl rfl rfl (fun _ _ => rfl) fun _ => ⟨fun e he => (List.mem_append.1 he).elim (o1 e) (huw e), by
        dsimp only; rw [flat_append, List.length_append, hfe, width_flat huw, hul, ← Nat.add_mul]; exact hfit, .inr ⟨(fun e => by cases e), o4, cs, T, fr, .inl ⟨o5, o5k⟩, o6, o7, fun i av hi => by
        dsimp only at hi
        rw [flat_append] at hi
        by_cases hil : i < (flat es).length
        · rw [List.getElem?_append_left hil] at hi; exact o8 i av hi
        · rw [List.getElem?_append_right (by omega), hfe] at hi
          obtain ⟨u, u1, u2⟩ := hget _ av hi
          refine ⟨u, ?_, u2⟩
          rw [← u1]; congr 1; omega⟩⟩
    exact (h us hul).h cc hc R w0 ρ F a w ⟨by rw [hfs]; exact hsim, hs.b, hs.r, hwf us⟩
/-- The last elements of a row, told no more. -/
theorem Wk.trim {σ : AS} {b : Nat} {r : ARow} (m : Nat) (hb : gO σ.rw b = some r) (hk : 0 < r.k) : Wk σ ⟨σ.tm, σ.bx, setO σ.rw b (some ⟨r.fro, r.k, r.es.take m⟩), σ.nb, σ.nr⟩ := by
  rw [gO_eq] at hb
  intro w0 N ρ F a w hs
  have q : ∀ x c, getO (setO σ.rw b (some ⟨r.fro, r.k, r.es.take m⟩)) x = some c → ∃ r0, getO σ.rw x = some r0 ∧ c.fro = r0.fro ∧ (∀ (V F : Nat → Prop) (w : World) (p : Pl), RowOk V F w p r0 → RowOk V F w p c) := fun x c e => by
    rw [getO_setO] at e
    split at e
    · rename_i hx; subst hx; cases e
      refine ⟨r, hb, rfl, fun V F w p ⟨o1, o2, o3⟩ => ?_⟩
      have hft := flat_take o1 m
      refine ⟨fun e he => o1 e (List.mem_of_mem_take he), by dsimp only; rw [hft, List.length_take]; omega, o3.imp id fun ⟨h3, h4, cs, T, fr, h5, h6, h7, h8⟩ => ⟨h3, h4, cs, T, fr, h5.elim .inl (fun q => absurd q.no.1 (by omega)), h6, h7, fun i av hi => ?_⟩⟩
      dsimp only at hi
      rw [hft, List.getElem?_take] at hi
      split at hi
      · exact h8 i av hi
      · cases hi
    · exact ⟨c, e, rfl, fun _ _ _ _ h => h⟩
  refine ⟨ρ, F, ⟨⟨hs.s.sz, hs.s.df, hs.s.tm, hs.s.bx, fun x c p e1 e2 => ?_, hs.s.ib, fun x y p p' r1 r2 e1 e2 e3 e4 f1 f2 l1 l2 hq => ?_, hs.s.ibr, hs.s.lb, hs.s.lr, hs.s.fl, hs.s.bel⟩, hs.b, hs.r, hs.wf.1, fun x c e => ?_⟩, fun _ hx => hx, fun _ hx => .inl hx⟩
  · obtain ⟨r0, k1, _, k2⟩ := q x c e1
    exact k2 _ _ _ _ (hs.s.rw x r0 p k1 e2)
  · obtain ⟨r0, k1, k3, _⟩ := q x r1 e3
    obtain ⟨r0', k1', k3', _⟩ := q y r2 e4
    exact hs.s.ir x y p p' r0 r0' e1 e2 k1 k1' (by rw [← k3]; exact f1) (by rw [← k3']; exact f2) l1 l2 hq
  · obtain ⟨r0, k1, _⟩ := q x c e
    exact hs.wf.2 x r0 k1
end
end Go.Proofs.Ytjacmhaeemhinaa
