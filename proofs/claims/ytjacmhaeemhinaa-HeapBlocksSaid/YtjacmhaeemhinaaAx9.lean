/- That the operations on abstract values are the program's: literals, append, copy, clear, make. -/
import Derived.Test.YtjacmhaeemhinaaAx5
import Derived.Laws.Tables
import Derived.Laws.MakeOwn
import Derived.Deep.AppendSrc
namespace Go.Proofs.Ytjacmhaeemhinaa
open Go.RowKit
set_option linter.unusedVariables false

/-! ### Parts laid into cells -/
theorem setAll_get (off : Nat) : ∀ (l : List Value) (k : Nat) (cells : Array Value), off + k + l.length ≤ cells.size →
    ((l.zipIdx k).foldl (fun cs (p : Value × Nat) => cs.setIfInBounds (off + p.2) p.1) cells).size = cells.size ∧ ∀ i : Nat, ((l.zipIdx k).foldl (fun cs (p : Value × Nat) => cs.setIfInBounds (off + p.2) p.1) cells)[i]? = if off + k ≤ i ∧ i < off + k + l.length then l[i - (off + k)]? else cells[i]?
  | [], k, cells, _ => ⟨rfl, fun i => by rw [if_neg (by simp only [List.length_nil]; omega)]; rfl⟩
  | v :: l, k, cells, h => by
    simp only [List.length_cons] at h
    obtain ⟨h1, h2⟩ := setAll_get off l (k + 1) (cells.setIfInBounds (off + k) v) (by simp; omega)
    simp only [List.zipIdx_cons, List.foldl_cons]
    refine ⟨by rw [h1]; simp, fun i => ?_⟩
    rw [h2]
    by_cases hi : i = off + k
    · subst hi
      rw [if_neg (by omega), if_pos (by simp)]
      simp [show off + k < cells.size by omega]
    · by_cases h3 : off + (k + 1) ≤ i ∧ i < off + (k + 1) + l.length
      · rw [if_pos h3, if_pos (by simp; omega), show i - (off + k) = (i - (off + (k + 1))) + 1 by omega]; rfl
      · rw [if_neg h3, if_neg (by simp; omega), Array.getElem?_setIfInBounds_ne (by omega)]
theorem fill_cons (place : Nat → Option (Nat × Nat)) (cells : Array Value) (i off n : Nat) (v : Value) (rest : List (Nat × Value)) (hp : place i = some (off, n)) (hv : v.cells.size = n) (hfit : off + n ≤ cells.size) :
    ∃ cells', Instr.fill place cells ((i, v) :: rest) = Instr.fill place cells' rest ∧ cells'.size = cells.size ∧ ∀ j : Nat, cells'[j]? = if off ≤ j ∧ j < off + n then v.cells[j - off]? else cells[j]? := by
  obtain ⟨h1, h2⟩ := setAll_get off v.cells.toList 0 cells (by simp; omega)
  refine ⟨v.cells.zipIdx.foldl (fun cs p => cs.setIfInBounds (off + p.2) p.1) cells, ?_, ?_, ?_⟩
  · simp only [Instr.fill, hp]
    rw [if_neg (by simp; omega)]
  · rw [← Array.foldl_toList, Array.toList_zipIdx]; exact h1
  · intro j
    rw [← Array.foldl_toList, Array.toList_zipIdx, h2 j]
    simp only [Nat.add_zero, Array.length_toList, hv, Array.getElem?_toList]

section
variable {P : Program} {ρ : Env} {B : Nat → Prop} {F : Nat → Prop} {w : World}
theorem fill_rep (place : Nat → Option (Nat × Nat)) (look : Opd → AV) : ∀ (ps : List (Nat × Value)) (qs : List (Nat × Nat × Opd)) (cells : Array Value) (l : List AV), cells.size = l.length → (∀ (i : Nat) (u : Value) (av : AV), cells[i]? = some u → l[i]? = some av → Rep ρ B F w u av) → ps.length = qs.length →
    (∀ (i : Nat) (p : Nat × Value) (q : Nat × Nat × Opd), ps[i]? = some p → qs[i]? = some q → place p.1 = some (q.1, q.2.1) ∧ Rep ρ B F w p.2 (look q.2.2)) → fillC look l.length qs →
    ∃ cells', Instr.fill place cells ps = some cells' ∧ cells'.size = l.length ∧ (fillV look l qs).length = l.length ∧ ∀ (i : Nat) (u : Value) (av : AV), cells'[i]? = some u → (fillV look l qs)[i]? = some av → Rep ρ B F w u av
  | [], [], cells, l, hl, hr, _, _, _ => ⟨cells, rfl, hl, rfl, hr⟩
  | [], q :: qs, _, _, _, _, h, _, _ => by simp at h
  | p :: ps, [], _, _, _, _, h, _, _ => by simp at h
  | (i, v) :: ps, (off, n, x) :: qs, cells, l, hl, hr, hlen, hpq, hc => by
    obtain ⟨⟨c1, c2, c3, c4⟩, c5⟩ := hc
    obtain ⟨p1, p2⟩ := hpq 0 _ _ rfl rfl
    have p3 := p2.val c1
    obtain ⟨o1, o2, o3⟩ := okV_cells p3 c2
    dsimp only at p1 p2 p3 o1 o2 o3
    obtain ⟨cells', e1, e2, e3⟩ := fill_cons place cells i off n v ps p1 (by omega) (by omega)
    have hfit : off + (look x).val.cells.length ≤ l.length := by omega
    have hput := put_length (l := l) (new := (look x).val.cells) (off := off) hfit
    obtain ⟨r1, r2, r3, r4, r5⟩ := fill_rep place look ps qs cells' (putCells l off (look x).val.cells) (by omega) (fun j u av g1 g2 => by
      rw [e3] at g1; rw [put_get hfit] at g2
      rw [c3] at g2
      split at g1
      · rename_i hj; rw [if_pos hj] at g2; exact o2 _ u av g1 g2
      · rename_i hj; rw [if_neg hj] at g2; exact hr j u av g1 g2) (by simpa using hlen) (fun j p q g1 g2 => hpq (j + 1) p q (by simpa using g1) (by simpa using g2)) (by rw [hput]; exact c5)
    exact ⟨r1, by rw [e1]; exact r2, by omega, by rw [fillV]; omega, by rw [fillV]; exact r5⟩

def placesOf (P : Program) (t : TypeId) : Option (Nat → Option (Nat × Nat)) :=
  match P.underlying t with
  | some (.array _ e) => (P.info? e).map fun ie => fun i => some (i * ie.size, ie.size)
  | some (.struct fields) => (fields.toList.mapM (fun f => (P.info? f.type).map fun i => (f.offset, i.size))).map fun places => (places.toArray[·]?)
  | _ => none
def zeroOf (P : Program) (t : TypeId) : Option Value := (P.info? t).bind (·.zero)
theorem v_build {t : TypeId} {z : Value} {place : Nat → Option (Nat × Nat)} (hz : zeroOf P t = some z) (hp : placesOf P t = some place) (look : Opd → AV) (parts : Array (Nat × Value)) (qs : List (Nat × Nat × Opd)) (hlen : parts.size = qs.length) (hs : (cst z).cells.all scal = true)
    (hpq : ∀ (i : Nat) (p : Nat × Value) (q : Nat × Nat × Opd), parts[i]? = some p → qs[i]? = some q → place p.1 = some (q.1, q.2.1) ∧ Rep ρ B F w p.2 (look q.2.2)) (hc : fillC look (cst z).cells.length qs) :
    GV P ρ B F w (Instr.build t parts) (.agg (fillV look (cst z).cells qs)) := by
  have hok : okV (cst z) = true := by
    cases hcz : cst z with
    | agg l => rw [hcz] at hs; exact hs
    | obj f => exact absurd hcz (by unfold cst cstC; split <;> (try split) <;> (intro e; cases e))
    | _ => rw [hcz] at hs; simpa [AV.cells, okV] using hs
  obtain ⟨o1, o2, o3⟩ := okV_cells (.pure _ _ (cst_rep F w z) : Rep ρ B F w z (cst z)) hok
  obtain ⟨cells', e1, e2, e3, e4⟩ := fill_rep place look parts.toList qs z.cells (cst z).cells o1 o2 (by simpa using hlen) (fun i p q g1 g2 => hpq i p q (by simpa using g1) g2) hc
  refine ⟨.agg cells', run_build w t parts cells' ?_, .agg _ _ (by omega) e4⟩
  unfold zeroOf at hz
  unfold placesOf at hp
  unfold Program.built
  cases hi : P.info? t with
  | none => rw [hi] at hz; cases hz
  | some it =>
    rw [hi] at hz
    cases hu : P.underlying t with
    | none => rw [hu] at hp; cases hp
    | some d =>
      rw [hu] at hp
      cases d <;> try (simp at hp; done)
      case array n e =>
        simp only [Option.map_eq_some_iff] at hp
        obtain ⟨ie, h1, rfl⟩ := hp
        simp only [Option.bind_some] at hz
        simp only [hz, h1]; exact e1
      case struct fields =>
        simp only [Option.map_eq_some_iff] at hp
        obtain ⟨places, h1, rfl⟩ := hp
        simp only [Option.bind_some] at hz
        simp only [hz, h1]; exact e1
/-- Elements in order, laid one behind the other. -/
theorem fill_seq (k : Nat) : ∀ (vs : List Value) (j : Nat) (cells : Array Value), (∀ v ∈ vs, v.cells.size = k) → (j + vs.length) * k ≤ cells.size →
    ∃ cells', Instr.fill (fun i => some (i * k, k)) cells ((List.range' j vs.length).zip vs) = some cells' ∧ cells'.size = cells.size ∧ ∀ i : Nat, cells'[i]? = if j * k ≤ i ∧ i < (j + vs.length) * k then (vs.flatMap fun v => v.cells.toList)[i - j * k]? else cells[i]?
  | [], j, cells, _, _ => ⟨cells, rfl, rfl, fun i => by rw [if_neg (by simp)]⟩
  | v :: vs, j, cells, hv, hfit => by
    simp only [List.length_cons] at hfit
    have hv0 := hv v (List.mem_cons_self ..)
    have h1 : (j + (vs.length + 1)) * k = (j + 1 + vs.length) * k := by congr 1; omega
    have h2 : (j + 1) * k = j * k + k := by rw [Nat.add_mul]; omega
    have h3 : (j + 1) * k ≤ (j + 1 + vs.length) * k := Nat.mul_le_mul_right k (by omega)
    obtain ⟨c1, e1, e2, e3⟩ := fill_cons (fun i => some (i * k, k)) cells j (j * k) k v ((List.range' (j + 1) vs.length).zip vs) rfl hv0 (by omega)
    obtain ⟨c2, f1, f2, f3⟩ := fill_seq k vs (j + 1) c1 (fun x hx => hv x (List.mem_cons_of_mem _ hx)) (by omega)
    refine ⟨c2, ?_, by omega, fun i => ?_⟩
    · simp only [List.length_cons, List.range'_succ, List.zip_cons_cons]
      rw [e1]; exact f1
    · rw [f3, e3]
      simp only [List.length_cons, List.flatMap_cons]
      have hl0 : v.cells.toList.length = k := by simpa using hv0
      by_cases q1 : (j + 1) * k ≤ i ∧ i < (j + 1 + vs.length) * k
      · rw [if_pos q1, if_pos (by omega), List.getElem?_append_right (by omega), hl0]
        congr 1; omega
      · rw [if_neg q1]
        by_cases q2 : j * k ≤ i ∧ i < j * k + k
        · rw [if_pos q2, if_pos (by omega), List.getElem?_append_left (by omega), Array.getElem?_toList]
        · rw [if_neg q2, if_neg (by omega)]
end

section
variable {P : Program} {w0 : Base} {N : Nat} {ρ : Env} {F : Nat → Prop} {σ : FS} {a : Act} {w : World}

theorem okV_cells0 {w : World} {F : Nat → Prop} {v : Value} {av : AV} (h : Rep0 F w v av) (hs : okV av = true) : v.cells.size = av.cells.length ∧ ∀ (i : Nat) (u : Value) (x : AV), v.cells[i]? = some u → av.cells[i]? = some x → Rep0 F w u x := by
  have hp := okV_cells (ρ := Env.none) (B := V0) (.pure _ _ h) hs
  refine ⟨hp.1, ?_⟩
  by_cases ha : ∃ l, av = .agg l
  · obtain ⟨l, rfl⟩ := ha
    cases h with | agg cs l hl hc => exact hc
  · have hs' : scal av = true := by cases av <;> first | exact hs | (exact absurd ⟨_, rfl⟩ ha)
    obtain ⟨h1, h2⟩ := scal_one (ρ := Env.none) (B := V0) (.pure _ _ h) hs'
    rw [h2, scal_cells hs']
    intro i u x e1 e2
    cases i with
    | zero => simp at e1 e2; subst e1 e2; exact h
    | succ i => simp at e2
theorem flat_reps {w : World} {F : Nat → Prop} : ∀ {vs : List Value} {es : List AV}, vs.length = es.length → (∀ (i : Nat) (u : Value) (e : AV), vs[i]? = some u → es[i]? = some e → Rep0 F w u e ∧ okV e = true) → ∀ (i : Nat) (av : AV), (flat es)[i]? = some av → ∃ u, (vs.flatMap fun v => v.cells.toList)[i]? = some u ∧ Rep0 F w u av
  | [], [], _, _, i, av, h => by simp [flat] at h
  | [], e :: es, hl, _, _, _, _ => by simp at hl
  | v :: vs, [], hl, _, _, _, _ => by simp at hl
  | v :: vs, e :: es, hl, hr, i, av, h => by
    obtain ⟨h1, h2⟩ := hr 0 v e rfl rfl
    obtain ⟨h3, h4⟩ := okV_cells0 h1 h2
    simp only [flat, List.flatMap_cons] at h ⊢
    by_cases hi : i < e.cells.length
    · rw [List.getElem?_append_left hi] at h
      rw [List.getElem?_append_left (by simp; omega), Array.getElem?_toList]
      have e1 : v.cells[i]? = some (v.cells[i]'(by omega)) := Array.getElem?_eq_getElem (by omega)
      exact ⟨_, e1, h4 i _ _ e1 h⟩
    · rw [List.getElem?_append_right (by omega)] at h
      rw [List.getElem?_append_right (by simp; omega)]
      obtain ⟨u, q1, q2⟩ := flat_reps (vs := vs) (es := es) (by simpa using hl) (fun j u x g1 g2 => hr (j + 1) u x (by simpa using g1) (by simpa using g2)) (i - e.cells.length) av h
      exact ⟨u, by simpa [h3] using q1, q2⟩

theorem frzV_ok {rw : Nat → Option ARow} {av av' : AV} (hok : okV av = true) (he : frzV rw av = some av') : okV av' = true ∧ av'.cells.length = av.cells.length ∧ pureV av' = true := by
  have hC : ∀ {x x' : AV}, scal x = true → frzC rw x = some x' → scal x' = true ∧ pureC x' = true := fun {x x'} hs he => by
    by_cases hr : ∃ b k lo n, x = .ref b k lo n
    · obtain ⟨b, k, lo, n, rfl⟩ := hr
      simp only [frzC] at he
      split at he
      · split at he
        · cases he; exact ⟨rfl, rfl⟩
        · cases he
      · cases he
    · have he' : (if pureC x then some x else none) = some x' := by
        cases x <;> first | exact he | exact absurd ⟨_, _, _, _, rfl⟩ hr
      split at he'
      · rename_i hp; cases he'; exact ⟨hs, hp⟩
      · cases he'
  by_cases ha : ∃ l, av = .agg l
  · obtain ⟨l, rfl⟩ := ha
    simp only [frzV, Option.map_eq_some_iff] at he
    obtain ⟨l', he, rfl⟩ := he
    obtain ⟨hlen, hget⟩ := mapM_get he
    simp only [okV, List.all_eq_true] at hok
    have hall : ∀ x ∈ l', scal x = true ∧ pureC x = true := fun x hx => by
      obtain ⟨i, hi, e⟩ := List.getElem_of_mem hx
      have e1 : l'[i]? = some x := by rw [List.getElem?_eq_getElem hi, e]
      have e2 : l[i]? = some (l[i]'(by omega)) := List.getElem?_eq_getElem (by omega)
      exact hC (hok _ (List.getElem_mem _)) (hget i _ _ e2 e1)
    exact ⟨by simp only [okV, List.all_eq_true]; exact fun x hx => (hall x hx).1, hlen, by simp only [pureV, List.all_eq_true]; exact fun x hx => (hall x hx).2⟩
  · have hs : scal av = true := by cases av <;> first | exact hok | exact absurd ⟨_, rfl⟩ ha
    have he' : frzC rw av = some av' := by
      cases av <;> first | exact he | exact absurd ⟨_, rfl⟩ ha
    obtain ⟨h1, h2⟩ := hC hs he'
    refine ⟨okV_of_scal h1, by rw [scal_cells h1, scal_cells hs]; rfl, ?_⟩
    cases av' <;> first | exact h2 | (simp [scal] at h1)

theorem ups_app (τ : FS) (l l' : List Upd) : τ.ups (l ++ l') = (τ.ups l).ups l' := by simp [FS.ups]
/-- A slice of elements that are told one by one. -/
theorem g_bsl {t e : TypeId} {k : Nat} (ht : P.underlying t = some (.slice e)) (hsz : szOf P e = some k) {z : Value} (hz : zeroOf P e = some z) (h : Sim w0 N ρ F σ a w) {bb br : Nat} (hb : ρ.r br = none) {parts : Array (Nat × Value)} {vs : List Value} (hps : parts.toList = (List.range' 0 vs.length).zip vs) (hsmall : vs.length * k ≤ 16777216) (hmax : vs.length ≤ maxLen)
    {avs es : List AV} (hl : vs.length = avs.length) (hr : ∀ (i : Nat) (u : Value) (x : AV), vs[i]? = some u → avs[i]? = some x → Rep ρ w0.V F w u x) (hes : avs.mapM (frzV σ.rw) = some es) (hok : ∀ x ∈ avs, okV x = true ∧ x.cells.length = k) (hk : 0 < k) :
    Good P w0 N ρ F a w (Instr.buildSlice t vs.length parts) bb 0 br 1 (σ.ups (frzUp σ.rw (avs.flatMap frzIds) ++ [.R br (some ⟨false, k, es⟩)])) (.ref br k 0 es.length) := by
  obtain ⟨hlen, hget⟩ := mapM_get hes
  have hids : ∀ b ∈ avs.flatMap frzIds, ∃ r p, σ.rw b = some r ∧ ρ.r b = some p := fun b hb => by
    obtain ⟨x, hx, hbx⟩ := List.mem_flatMap.1 hb
    obtain ⟨i, hi, e1⟩ := List.getElem_of_mem hx
    have e2 : avs[i]? = some x := by rw [List.getElem?_eq_getElem hi, e1]
    have e3 : vs[i]? = some (vs[i]'(by omega)) := List.getElem?_eq_getElem (by omega)
    have hri := hr i _ _ e3 e2
    have e4 : es[i]? = some (es[i]'(by omega)) := List.getElem?_eq_getElem (by omega)
    have hfz := hget i _ _ e2 e4
    have one : ∀ (u : Value) (y y' : AV), Rep ρ w0.V F w u y → frzC σ.rw y = some y' → (∃ k lo n, y = .ref b k lo n) → ∃ r p, σ.rw b = some r ∧ ρ.r b = some p := by
      rintro u y y' h1 h2 ⟨k, lo, n, rfl⟩
      simp only [frzC] at h2
      split at h2
      · rename_i r hrr
        obtain ⟨_, _, p, _, hp, _⟩ := h1.ref_inv
        exact ⟨r, p, hrr, hp⟩
      · cases h2
    by_cases ha : ∃ l, x = .agg l
    · obtain ⟨l, rfl⟩ := ha
      simp only [frzIds, List.mem_flatMap] at hbx
      obtain ⟨y, hy, hby⟩ := hbx
      obtain ⟨cs, hcs, hl2, hc⟩ := hri.agg_inv
      simp only [frzV, Option.map_eq_some_iff] at hfz
      obtain ⟨l', he, _⟩ := hfz
      obtain ⟨hlen', hget'⟩ := mapM_get he
      obtain ⟨j, hj, e5⟩ := List.getElem_of_mem hy
      have e6 : l[j]? = some y := by rw [List.getElem?_eq_getElem hj, e5]
      have e7 : cs[j]? = some (cs[j]'(by omega)) := Array.getElem?_eq_getElem (by omega)
      have e8 : l'[j]? = some (l'[j]'(by omega)) := List.getElem?_eq_getElem (by omega)
      refine one _ y _ (hc j _ _ e7 e6) (hget' j _ _ e6 e8) ?_
      cases y <;> simp at hby
      subst hby; exact ⟨_, _, _, rfl⟩
    · refine one _ x _ hri (by cases x <;> first | exact hfz | exact absurd ⟨_, rfl⟩ ha) ?_
      cases x <;> simp [frzIds] at hbx
      · subst hbx; exact ⟨_, _, _, rfl⟩
      · exact absurd ⟨_, rfl⟩ ha
  obtain ⟨F', f1, f2, f3, f4, f5, f6⟩ := freeze_all σ.rw (avs.flatMap frzIds) F σ h (fun b r e => .inl e) hids
  have hesok : ∀ x ∈ es, okV x = true ∧ x.cells.length = k := fun x hx => by
    obtain ⟨i, hi, e1⟩ := List.getElem_of_mem hx
    have e2 : es[i]? = some x := by rw [List.getElem?_eq_getElem hi, e1]
    have e3 : avs[i]? = some (avs[i]'(by omega)) := List.getElem?_eq_getElem (by omega)
    have h1 := hok _ (List.getElem_mem (h := by omega) : avs[i]'(by omega) ∈ avs)
    obtain ⟨g1, g2, _⟩ := frzV_ok h1.1 (hget i _ _ e3 e2)
    exact ⟨g1, by rw [g2]; exact h1.2⟩
  have hvs : ∀ v ∈ vs, v.cells.size = k := fun v hv => by
    obtain ⟨i, hi, e1⟩ := List.getElem_of_mem hv
    have e2 : vs[i]? = some v := by rw [List.getElem?_eq_getElem hi, e1]
    have e3 : avs[i]? = some (avs[i]'(by omega)) := List.getElem?_eq_getElem (by omega)
    have h1 := hok _ (List.getElem_mem (h := by omega) : avs[i]'(by omega) ∈ avs)
    rw [(okV_cells (hr i _ _ e2 e3) h1.1).1]; exact h1.2
  let Z : Array Value := (Array.range (vs.length * k)).map (fun i => (if vs.length * k = 0 then #[] else z.cells)[i % (if vs.length * k = 0 then #[] else z.cells).size]!)
  obtain ⟨cells', e1, e2, e3⟩ := fill_seq k vs 0 Z hvs (by simp [Z])
  have hZ : Z.size = vs.length * k := by simp [Z]
  have hrun : (Instr.buildSlice t vs.length parts).run P w = .ok (.slice (some ⟨w.heap.size, 0, none⟩) vs.length vs.length) (w.alloc (.cells cells' e)) := by
    have hfill : Instr.fill (fun i => some (i * k, k)) Z parts.toList = some cells' := by rw [hps]; exact e1
    unfold zeroOf at hz
    cases hi : P.info? e with
    | none => rw [hi] at hz; cases hz
    | some it =>
      rw [hi] at hz
      simp only [Option.bind_some] at hz
      unfold Instr.buildSlice
      simp only [Sem.run_bind, run_underlying ht, Result.andThen_ok, run_sizeOf' hsz]
      rw [if_neg (by omega)]
      by_cases h0 : vs.length * k = 0
      · have hz0 : Z = #[] := Array.eq_empty_of_size_eq_zero (by omega)
        rw [hz0] at hfill
        simp only [h0, if_true]
        simp [Array.range_zero', hfill, Go.newRow]
      · have hfill' : Instr.fill (fun i => some (i * k, k)) ((Array.range (vs.length * k)).map (fun i => z.cells[i % z.cells.size]!)) parts.toList = some cells' := by simpa [Z, h0] using hfill
        simp [h0, zeroValue, typeInfo, hi, hz, hfill', Go.newRow]
  have hbel : Below w.heap.size w (w.alloc (.cells cells' e)) := (Below.refl _ _).alloc (Nat.le_refl _) _
  have hreps : ∀ (i : Nat) (av : AV), (flat es)[i]? = some av → ∃ u, cells'[i]? = some u ∧ Rep0 F' w u av := fun i av g => by
    obtain ⟨u, q1, q2⟩ := flat_reps (w := w) (F := F') (vs := vs) (es := es) (by omega) (fun j u x g1 g2 => by
      have e3 : avs[j]? = some (avs[j]'(by have := (List.getElem?_eq_some_iff.1 g2).1; omega)) := List.getElem?_eq_getElem _
      refine ⟨frzV_rep h (hr j _ _ g1 e3) (hget j _ _ e3 g2) f1 (fun b hb p hp hl => f3 b (List.mem_flatMap.2 ⟨_, List.mem_of_getElem? e3, hb⟩) p hp hl), (hesok x (List.mem_of_getElem? g2)).1⟩) i av g
    refine ⟨u, ?_, q2⟩
    rw [e3, if_pos ?_]
    · simpa using q1
    · have := (List.getElem?_eq_some_iff.1 g).1
      rw [width_flat (fun x hx => (hesok x hx).2)] at this
      rw [hlen, ← hl] at this
      simpa using this
  have hrow := rowOk_new (k := k) (c := vs.length) f4 hbel (heap_alloc_new w _) (fun x hx => (hesok x hx).2) (by omega) (by omega) hreps
  refine ⟨_, _, ρ.addR br ⟨w.heap.size, 0, vs.length * k⟩, F', hrun, ?_, ?_, ?_⟩
  · have := Grown.newR (B := w0.V) (F := F') (bb := bb) (p := ⟨w.heap.size, 0, vs.length * k⟩) hb
    exact ⟨this.le, this.b, this.r, f1, f2⟩
  · rw [ups_app]
    exact f4.newRow hb hbel (fun _ => ⟨by simp, Nat.le_refl _⟩) hrow
  · rw [hlen, ← hl]
    exact .ref _ _ _ _ _ _ ⟨w.heap.size, 0, vs.length * k⟩ (by simp [Env.addR]) (Nat.le_refl _) hmax (by simp) (by simp) (fun _ => by simp)
end
end Go.Proofs.Ytjacmhaeemhinaa

namespace Go.Proofs.Ytjacmhaeemhinaa
open Go.RowKit
set_option linter.unusedVariables false

theorem flat_set {es : List AV} {k : Nat} (hw : ∀ e ∈ es, e.cells.length = k) {i : Nat} (hi : i < es.length) {x : AV} (hx : x.cells.length = k) : flat (es.set i x) = putCells (flat es) (i * k) x.cells := by
  rw [List.set_eq_take_append_cons_drop, if_pos hi, flat_append, flat_take hw]
  show _ ++ flat (x :: es.drop (i + 1)) = _
  have e1 : flat (x :: es.drop (i + 1)) = x.cells ++ flat (es.drop (i + 1)) := by simp [flat]
  rw [e1, flat_drop hw, putCells, hx, Nat.add_mul, Nat.one_mul]
theorem put_put {l a b : List AV} {i off : Nat} (h1 : i + a.length ≤ l.length) (h2 : off + b.length ≤ a.length) (h3 : ∀ j, j < a.length → l[i + j]? = a[j]?) : putCells l i (putCells a off b) = putCells l (i + off) b := by
  have e1 := put_length h2
  apply List.ext_getElem?
  intro j
  rw [put_get (l := l) (new := putCells a off b) (off := i) (by omega), put_get (l := l) (new := b) (off := i + off) (by omega), e1]
  by_cases hj : i ≤ j ∧ j < i + a.length
  · rw [if_pos hj, put_get h2]
    by_cases hj2 : off ≤ j - i ∧ j - i < off + b.length
    · rw [if_pos hj2, if_pos (by omega)]; congr 1; omega
    · rw [if_neg hj2, if_neg (by omega), ← h3 _ (by omega)]; congr 1; omega
  · rw [if_neg hj, if_neg (by omega)]

section
variable {P : Program} {w0 : Base} {N : Nat} {ρ : Env} {F : Nat → Prop} {σ : FS} {a : Act} {w : World}

theorem frz_ids {v : Value} {x x' : AV} (hr : Rep ρ w0.V F w v x) (he : frzV σ.rw x = some x') : ∀ b ∈ frzIds x, ∃ r p, σ.rw b = some r ∧ ρ.r b = some p := by
  intro b hb
  have one : ∀ (u : Value) (y y' : AV), Rep ρ w0.V F w u y → frzC σ.rw y = some y' → (∃ k lo n, y = .ref b k lo n) → ∃ r p, σ.rw b = some r ∧ ρ.r b = some p := by
    rintro u y y' h1 h2 ⟨k, lo, n, rfl⟩
    simp only [frzC] at h2
    split at h2
    · rename_i r hrr
      obtain ⟨_, _, p, _, hp, _⟩ := h1.ref_inv
      exact ⟨r, p, hrr, hp⟩
    · cases h2
  by_cases ha : ∃ l, x = .agg l
  · obtain ⟨l, rfl⟩ := ha
    simp only [frzIds, List.mem_flatMap] at hb
    obtain ⟨y, hy, hby⟩ := hb
    obtain ⟨cs, hcs, hl2, hc⟩ := hr.agg_inv
    simp only [frzV, Option.map_eq_some_iff] at he
    obtain ⟨l', he, _⟩ := he
    obtain ⟨hlen', hget'⟩ := mapM_get he
    obtain ⟨j, hj, e5⟩ := List.getElem_of_mem hy
    have e6 : l[j]? = some y := by rw [List.getElem?_eq_getElem hj, e5]
    have e7 : cs[j]? = some (cs[j]'(by omega)) := Array.getElem?_eq_getElem (by omega)
    have e8 : l'[j]? = some (l'[j]'(by omega)) := List.getElem?_eq_getElem (by omega)
    refine one _ y _ (hc j _ _ e7 e6) (hget' j _ _ e6 e8) ?_
    cases y <;> simp at hby
    subst hby; exact ⟨_, _, _, rfl⟩
  · refine one _ x _ hr (by cases x <;> first | exact he | exact absurd ⟨_, rfl⟩ ha) ?_
    cases x <;> simp [frzIds] at hb
    · subst hb; exact ⟨_, _, _, rfl⟩
    · exact absurd ⟨_, rfl⟩ ha

/-- A store into an own row's element. -/
theorem store_r {t : TypeId} {n : Nat} (hsz : szOf P t = some n) (h : Sim w0 N ρ F σ a w) {pv v : Value} {b k i off : Nat} {r : ARow} {av v' : AV} (hp : Rep ρ w0.V F w pv (.rptr b k i off)) (hb : σ.rw b = some r) (hv : Rep ρ w0.V F w v av) (hz : frzV σ.rw av = some v') (hok : okV av = true) (hn : av.cells.length = n)
    (hk : r.k = k) (hi : i < r.es.length) (hoff : off + n ≤ k) (hf : r.fro = false) (hnb : b ∉ frzIds av) (hpos : 0 < n) :
    ∃ w' F', (Instr.storeAt t pv v).run P w = .ok () w' ∧ (∀ x, F x → F' x) ∧ (∀ x, F' x → F x ∨ ¬ w0.V x) ∧ Sim w0 N ρ F' (σ.ups (frzUp σ.rw (frzIds av) ++ [.R b (some { r with es := r.es.set i (if n = k then v' else .agg (putCells (r.es[i]?.getD .any).cells off v'.cells)) })])) a w' := by
  obtain ⟨p, hq, rfl⟩ := hp.rptr_inv
  clear hp
  have hp := hq
  obtain ⟨F', f1, f2, f3, f4, f5, f6⟩ := freeze_all σ.rw (frzIds av) F σ h (fun b r e => .inl e) (frz_ids hv hz)
  obtain ⟨z1, z2, z3⟩ := frzV_ok hok hz
  have hrep0 := frzV_rep h hv hz f1 f3
  obtain ⟨c1, c2, c3⟩ := okV_cells hv hok
  obtain ⟨d1, d2⟩ := okV_cells0 hrep0 z1
  have hrow := (h.rw b r p hb hp).1
  have he : r.es[i]? = some r.es[i] := List.getElem?_eq_getElem hi
  have hwi := hrow _ (List.getElem_mem hi)
  rw [he, Option.getD_some]
  have hwf := width_flat hrow
  have hfit : i * k + k ≤ r.es.length * r.k := by
    have : (i + 1) * k ≤ r.es.length * k := Nat.mul_le_mul_right k hi
    rw [Nat.add_mul] at this; rw [hk]; omega
  have hx : (if n = k then v' else AV.agg (putCells r.es[i].cells off v'.cells)).cells.length = r.k := by
    split
    · omega
    · show (putCells r.es[i].cells off v'.cells).length = _
      rw [put_length (by omega), hwi]
  have hflat : flat (r.es.set i (if n = k then v' else .agg (putCells r.es[i].cells off v'.cells))) = putCells (flat r.es) (i * k + off) v'.cells := by
    rw [flat_set hrow hi hx, hk]
    split
    · rw [show off = 0 by omega]; rfl
    · show putCells _ _ (putCells r.es[i].cells off v'.cells) = _
      refine put_put (by rw [hwi, hk, hwf]; exact hfit) (by omega) fun j hj => ?_
      rw [← hk]; exact flat_get hrow he (by omega)
  have hl : v.cells.toList.length = v'.cells.length := by simpa using d1
  obtain ⟨w', e1, e2⟩ := write_row (P := P) f4 (by rw [f6 b hnb]; exact hb) hp hf (o := i * k + off) (news := v.cells.toList) (avs := v'.cells) hl (by intro e; rw [e] at z2; simp at z2; omega) (by rw [hwf]; omega) (fun j u x g1 g2 => d2 j u x (by simpa using g1) g2) c3 (es' := r.es.set i (if n = k then v' else .agg (putCells r.es[i].cells off v'.cells))) (fun e he => by
    rcases List.mem_or_eq_of_mem_set he with he | rfl
    · exact hrow e he
    · exact hx) hflat
  refine ⟨w', F', by rw [run_storeAt hsz (by omega)]; exact e1, f1, f2, ?_⟩
  rw [ups_app]; exact e2
/-- A store of a whole array. -/
theorem store_a {t : TypeId} {n : Nat} (hsz : szOf P t = some n) (h : Sim w0 N ρ F σ a w) {pv v : Value} {b m : Nat} {r : ARow} {l : List AV} (hp : Rep ρ w0.V F w pv (.aptr b m)) (hb : σ.rw b = some r) (hv : Rep ρ w0.V F w v (.agg l)) (hok : okV (.agg l) = true) (hn : l.length = n)
    (hk : r.k = 1) (hl : r.es.length = n) (hf : r.fro = false) (hpu : l.all pureC = true) (hpos : 0 < n) :
    ∃ w', (Instr.storeAt t pv v).run P w = .ok () w' ∧ Sim w0 N ρ F (σ.setR b (some { r with es := l })) a w' := by
  obtain ⟨p, hq, hlim, rfl⟩ := hp.aptr_inv
  clear hp
  have hp := hq
  obtain ⟨c1, c2, c3⟩ := okV_cells hv hok
  obtain ⟨g1, g2⟩ := flat_ones (show l.all scal = true from hok)
  have hrow := (h.rw b r p hb hp).1
  have hwf := width_flat hrow
  have c1' : v.cells.size = l.length := c1
  have c2' : ∀ (i : Nat) (u : Value) (x : AV), v.cells[i]? = some u → l[i]? = some x → Rep ρ w0.V F w u x := c2
  simp only [List.all_eq_true] at hpu
  obtain ⟨w', e1, e2⟩ := write_row (P := P) h hb hp hf (o := 0) (news := v.cells.toList) (avs := l) (by simpa using c1') (by intro e; subst e; simp at hn; omega) (by rw [hwf, hk]; omega) (fun j u x q1 q2 => (c2' j u x (by simpa using q1) q2).pureC (hpu x (List.mem_of_getElem? q2))) c3 (es' := l) (by rw [hk]; exact g2) (by
    rw [g1]; unfold putCells
    rw [List.take_zero, List.nil_append, List.drop_eq_nil_of_le (by rw [hwf, hk]; omega), List.append_nil])
  exact ⟨w', by rw [run_storeAt hsz (by omega)]; exact e1, e2⟩

theorem pureV_cells {es : List AV} (h : es.all pureV = true) : ∀ x ∈ flat es, pureC x = true := by
  intro x hx
  simp only [flat, List.mem_flatMap] at hx
  obtain ⟨e, he, hxe⟩ := hx
  simp only [List.all_eq_true] at h
  have := h e he
  cases e with
  | agg l => simp only [pureV, List.all_eq_true] at this; exact this x hxe
  | obj f => cases hxe
  | _ => simp only [AV.cells, List.mem_singleton] at hxe; subst hxe; exact this
/-- A row of cells, as a source. -/
theorem src_of {tx e' : TypeId} {k size : Nat} (ht : P.underlying tx = some (.slice e')) {ad : Option Addr} {c : Nat} {f : Nat → Value} {es : List AV} (hr : RowAt w (fun _ => True) ad es.length c (es.length * k) f) (hw : ∀ e ∈ es, e.cells.length = k) (hc : ∀ (i : Nat) (av : AV), (flat es)[i]? = some av → Rep0 F w (f i) av) (hp : es.all pureV = true) (hk : k = size ∨ es = []) :
    Src P size tx (.slice ad es.length c) es.length ((List.range (es.length * k)).map f) w := by
  have hwf := width_flat hw
  have h1 : ∀ u ∈ (List.range (es.length * k)).map f, u.oneCell' = true := fun u hu => by
    obtain ⟨i, hi, rfl⟩ := List.mem_map.1 hu
    simp at hi
    have e1 : (flat es)[i]? = some ((flat es)[i]'(by omega)) := List.getElem?_eq_getElem (by omega)
    exact (scal_one (ρ := Env.none) (B := V0) (.pure _ _ (hc i _ e1)) (pureC_scal (pureV_cells hp _ (List.getElem_mem _)))).1
  cases ad with
  | none =>
    have h0 : es = [] := List.eq_nil_of_length_eq_zero (by have := hr.nil rfl; have := hr.cap; omega)
    subst h0
    simpa using Src.ofNil (P := P) (w := w) (size := size) ht c
  | some ad =>
    refine Src.ofSlice w ht ad es.length c _ ?_ (fun j u hu => ?_) h1
    · rcases hk with rfl | rfl <;> simp
    · rw [List.getElem?_map] at hu
      by_cases hj : j < es.length * k
      · rw [List.getElem?_range hj] at hu
        cases hu
        exact hr.cell ad rfl j hj
      · rw [List.getElem?_eq_none (by simpa using hj)] at hu; cases hu
theorem range_reps {k : Nat} {f : Nat → Value} {es : List AV} (hw : ∀ e ∈ es, e.cells.length = k) (hc : ∀ (i : Nat) (av : AV), (flat es)[i]? = some av → Rep0 F w (f i) av) : ∀ (i : Nat) (av : AV), (flat es)[i]? = some av → ∃ u, ((List.range (es.length * k)).map f)[i]? = some u ∧ Rep0 F w u av := fun i av e => by
  have hi := (List.getElem?_eq_some_iff.1 e).1
  rw [width_flat hw] at hi
  exact ⟨f i, by rw [List.getElem?_map, List.getElem?_range hi]; rfl, hc i av e⟩

theorem run_app_room {t tx ty e : TypeId} {i : TypeInfo} (ht : P.underlying t = some (.slice e)) (hi : P.info? e = some i) (base : Option Addr) (sLen sCap : Nat) (x : Value) (n : Nat) (news : List Value) (hs : Src P i.size tx x n news w) (hroom : sLen + n ≤ sCap) :
    (Builtin.append_ #[t, tx] ty #[.slice base sLen sCap, x]).run P w = match base with
      | some ad => ((storeCells (ad.add (sLen * i.size)) news).run P w).andThen fun _ w' => .ok (.slice base (sLen + n) sCap) w'
      | none => .ok (.slice base (sLen + n) sCap) w := by
  cases base <;> rcases hs.kind with ⟨e', hk⟩ | hk <;> simp [Builtin.append_, run_underlying ht, run_underlying hk, sizeOf, typeInfo, hi, hs.len, hroom, hs.cells]

/-- A new row that is made of two. -/
theorem new_row2 (h : Sim w0 N ρ F σ a w) {br k e : Nat} (hb : ρ.r br = none) {z : Value} (hzs : z.cells.size = k) {olds news : List Value} {es1 es2 : List AV} (hw1 : ∀ e ∈ es1, e.cells.length = k) (hw2 : ∀ e ∈ es2, e.cells.length = k) (hl1 : olds.length = es1.length * k) (hl2 : news.length = es2.length * k)
    (hr1 : ∀ (i : Nat) (av : AV), (flat es1)[i]? = some av → ∃ u, olds[i]? = some u ∧ Rep0 F w u av) (hr2 : ∀ (i : Nat) (av : AV), (flat es2)[i]? = some av → ∃ u, news[i]? = some u ∧ Rep0 F w u av) (c : Nat) (hc : es1.length + es2.length ≤ c) (hcm : c ≤ maxLen) :
    Sim w0 N (ρ.addR br ⟨w.heap.size, 0, c * k⟩) F (σ.setR br (some ⟨false, k, es1 ++ es2⟩)) a (w.drew.alloc (.cells ((olds ++ news).toArray ++ Builtin.zeroCells z.cells (c - (es1.length + es2.length))) e)) ∧
    Rep (ρ.addR br ⟨w.heap.size, 0, c * k⟩) w0.V F (w.drew.alloc (.cells ((olds ++ news).toArray ++ Builtin.zeroCells z.cells (c - (es1.length + es2.length))) e)) (.slice (some ⟨w.heap.size, 0, none⟩) (es1.length + es2.length) c) (.ref br k 0 (es1.length + es2.length)) ∧
    RowOk w0.V F (w.drew.alloc (.cells ((olds ++ news).toArray ++ Builtin.zeroCells z.cells (c - (es1.length + es2.length))) e)) ⟨w.heap.size, 0, c * k⟩ ⟨false, k, es1 ++ es2⟩ := by
  have hbel : Below w.heap.size w (w.drew.alloc (.cells ((olds ++ news).toArray ++ Builtin.zeroCells z.cells (c - (es1.length + es2.length))) e)) := ((Below.refl _ _).drew).alloc (Nat.le_refl _) _
  have hws : ∀ e ∈ es1 ++ es2, e.cells.length = k := fun e he => (List.mem_append.1 he).elim (hw1 e) (hw2 e)
  have hsz : ((olds ++ news).toArray ++ Builtin.zeroCells z.cells (c - (es1.length + es2.length))).size = c * k := by
    simp only [Array.size_append, List.size_toArray, List.length_append, size_zeroCells, hzs, hl1, hl2]
    rw [← Nat.add_mul, ← Nat.add_mul]; congr 1; omega
  have hrow := rowOk_new (k := k) (c := c) (es := es1 ++ es2) h hbel (heap_alloc_new w.drew _) hws (by rw [hsz]; exact Nat.le_refl _) (by simp; omega) (fun i av g => by
    rw [flat_append] at g
    have hf1 := width_flat hw1
    have hf2 := width_flat hw2
    by_cases hi : i < (flat es1).length
    · rw [List.getElem?_append_left hi] at g
      obtain ⟨u, q1, q2⟩ := hr1 i av g
      refine ⟨u, ?_, q2⟩
      rw [Array.getElem?_append_left (by simp; omega)]
      simp only [List.getElem?_toArray]
      rw [List.getElem?_append_left (by omega)]; exact q1
    · rw [List.getElem?_append_right (by omega)] at g
      obtain ⟨u, q1, q2⟩ := hr2 _ av g
      have := (List.getElem?_eq_some_iff.1 g).1
      refine ⟨u, ?_, q2⟩
      rw [Array.getElem?_append_left (by simp; omega)]
      simp only [List.getElem?_toArray]
      rw [List.getElem?_append_right (by omega)]
      rw [hl1, ← hf1]; exact q1)
  refine ⟨h.newRow hb hbel (fun _ => ⟨by simp, Nat.le_refl _⟩) hrow, ?_, hrow⟩
  exact .ref _ _ _ _ _ _ ⟨w.heap.size, 0, c * k⟩ (by simp [Env.addR]) hc hcm (by simp) (by simp) (fun _ => by simp)

/-- Memory that is new is given to those that nobody writes. -/
theorem Sim.addF (h : Sim w0 N ρ F σ a w) {w' : World} (hbel : Below w.heap.size w w') {g : Nat} (h1 : w.heap.size ≤ g) (h2 : g < w'.heap.size) : Sim w0 N ρ (fun x => F x ∨ x = g) σ a w' := by
  have h' := h.grow hbel
  have refl (S : Nat → Prop) := Agree.refl S w'
  refine ⟨h'.sz, h'.df, fun t => (h'.tm t).mono ρ.le_refl (refl _) (fun _ hx => .inl hx) (fun _ hx => .inl hx), fun b c x e1 e2 => ?_, fun b r p e1 e2 => ?_, h'.ib, h'.ir, h'.ibr, h'.lb, h'.lr, fun x hx => ?_, h'.bel⟩
  · refine (h'.bx b c x e1 e2).mono ρ.le_refl (refl _) rfl (fun _ hx => .inl hx) ?_
    rintro (hx | rfl)
    · exact (h'.bx b c x e1 e2).2.1 hx
    · have := h.lb b _ e2; omega
  · refine (h'.rw b r p e1 e2).mono (refl _) (fun _ => rfl) (fun _ hx => .inl hx) (fun e hl => ?_)
    rintro (hx | hx)
    · rcases (h'.rw b r p e1 e2).2.2 with q | ⟨_, q, _⟩
      · omega
      · exact (q e).2 hx
    · have := h.lr b p e2 hl; omega
  · rcases hx with hx | rfl
    · exact h'.fl x hx
    · exact h2
end
end Go.Proofs.Ytjacmhaeemhinaa

namespace Go.Proofs.Ytjacmhaeemhinaa
open Go.RowKit
set_option linter.unusedVariables false

section
variable {P : Program} {w0 : Base} {N : Nat} {ρ : Env} {F : Nat → Prop} {σ : FS} {a : Act} {w : World}

/-- What append is told of types. -/
structure ElemOk (P : Program) (t tx e : TypeId) (k by_ : Nat) : Prop where
  t : P.underlying t = some (.slice e)
  tx : ∃ e', P.underlying tx = some (.slice e')
  i : ∃ i z, P.info? e = some i ∧ i.zero = some z ∧ i.size = k ∧ i.bytes = by_ ∧ z.cells.size = k

theorem vrow_new {w : World} {k : Nat} (es : List AV) (h0 : es = []) : RowOk w0.V F w ⟨0, 0, 0⟩ ⟨false, k, es⟩ := by
  subst h0; exact ⟨by simp, by simp [flat], .inl rfl⟩

section
variable {t tx e ty : TypeId} {k by_ : Nat} (he : ElemOk P t tx e k by_) (hk : 0 < k) (hby : by_ ≤ 1000000) (h : Sim w0 N ρ F σ a w) {bb br : Nat} (hbr : ρ.r br = none)
  {v2 : Value} {y : AV} {k' : Nat} {new : List AV} (hy : Rep ρ w0.V F w v2 y) (hels : els σ.rw y = some (k', new)) (hk' : k' = k ∨ new = []) (hpu : new.all pureV = true) (hm : new.length ≤ 1000000)
include he hk hby h hbr hy hels hk' hpu hm

omit hk hby hbr hm in
/-- The source, its elements k cells each. -/
theorem app_src : ∃ c2 f a2, v2 = .slice a2 new.length c2 ∧ (∀ x ∈ new, x.cells.length = k) ∧ (∀ (i : Nat) (av : AV), (flat new)[i]? = some av → Rep0 F w (f i) av) ∧ Src P k tx v2 new.length ((List.range (new.length * k)).map f) w := by
  obtain ⟨a2, c2, f, rfl, hr, hw, hc⟩ := els_row h hy hels
  obtain ⟨e', htx⟩ := he.tx
  rcases hk' with rfl | rfl
  · exact ⟨c2, f, a2, rfl, hw, hc, src_of htx hr hw hc hpu (.inl rfl)⟩
  · have := src_of (P := P) (k := k') (size := k) htx hr hw hc hpu (.inr rfl)
    exact ⟨c2, f, a2, rfl, by simp, hc, by simpa using this⟩

omit hk in
theorem g_app_nil : Good P w0 N ρ F a w (Builtin.append_ #[t, tx] ty #[.slice none 0 0, v2]) bb 0 br 1 (σ.setR br (some ⟨false, k, new⟩)) (.ref br k 0 new.length) := by
  obtain ⟨c2, f, a2, rfl, hw, hc, hs⟩ := app_src he h hy hels hk' hpu
  obtain ⟨i, z, hi, hz, hsz, hbt, hzs⟩ := he.i
  by_cases h0 : new = []
  · subst h0
    have hr := run_app_room (P := P) (w := w) (ty := ty) he.t hi none 0 0 _ _ _ (by rw [hsz]; exact hs) (by simp)
    refine ⟨_, w, ρ.addR br ⟨0, 0, 0⟩, F, hr, .newR hbr, h.newRow hbr (Below.refl _ _) (fun e => by simp at e) (vrow_new [] rfl), ?_⟩
    exact .ref _ _ _ _ _ _ ⟨0, 0, 0⟩ (by simp [Env.addR]) (Nat.le_refl _) (Nat.zero_le _) (by simp) (fun _ => rfl) (by simp)
  · have hpos : 0 < new.length := List.length_pos_iff.2 h0
    have hge := grownCap_ge w (0 + new.length) 0 e
    have hcm := grownCap_le_maxLen w (0 + new.length) 0 e (by unfold maxLen; omega)
    have hby2 : (0 + new.length) * i.bytes ≤ 140737488355328 := by
      rw [hbt]; exact Nat.le_trans (Nat.mul_le_mul (show 0 + new.length ≤ 1000000 by omega) hby) (by decide)
    have hr := run_append_grow_src (P := P) (w := w) t tx ty e i z he.t hi hz none 0 0 [] (by simp [Builtin.firstCells]) _ _ _ (by rw [hsz]; exact hs) (by omega) (by omega) (growslice_fits (by omega) hby2)
    obtain ⟨g1, g2, g3⟩ := new_row2 (k := k) (e := e) (br := br) h hbr hzs (olds := []) (news := (List.range (new.length * k)).map f) (es1 := []) (es2 := new) (by simp) hw (by simp) (by simp) (by simp [flat]) (range_reps hw hc) (grownCap w (0 + new.length) 0 e) (by simpa using hge) hcm
    refine ⟨_, _, ρ.addR br ⟨w.heap.size, 0, grownCap w (0 + new.length) 0 e * k⟩, F, hr, .newR hbr, ?_, ?_⟩
    · simpa using g1
    · simpa using g2

theorem g_app_csl {vol : Bool} {es : List AV} {v1 : Value} (hv : Rep ρ w0.V F w v1 (.csl vol k es)) (hn : es.length ≤ 1000000) : Good P w0 N ρ F a w (Builtin.append_ #[t, tx] ty #[v1, v2]) bb 0 br 0 σ (.sl vol k (es ++ new)) := by
  obtain ⟨c2, f, a2, rfl, hw, hc, hs⟩ := app_src he h hy hels hk' hpu
  obtain ⟨i, z, hi, hz, hsz, hbt, hzs⟩ := he.i
  obtain ⟨ad, g, rfl, hw1, hr1, hc1⟩ := hv.csl_inv
  by_cases h0 : new = []
  · subst h0
    have hr := run_app_room (P := P) (w := w) (ty := ty) he.t hi ad es.length es.length _ _ _ (by rw [hsz]; exact hs) (by simp)
    refine ⟨.slice ad (es.length + 0) es.length, w, ρ, F, ?_, .refl _ _ _ _ _, h, ?_⟩
    · simp only [List.length_nil] at hr ⊢
      rw [hr]; cases ad <;> simp [storeCells]
    · rw [List.append_nil]; exact hv.csl_sl
  · have hpos : 0 < new.length := List.length_pos_iff.2 h0
    have hge := grownCap_ge w (es.length + new.length) es.length e
    have hcm := grownCap_le_maxLen w (es.length + new.length) es.length e (by unfold maxLen; omega)
    have hby2 : (es.length + new.length) * i.bytes ≤ 140737488355328 := by
      rw [hbt]; exact Nat.le_trans (Nat.mul_le_mul (show es.length + new.length ≤ 2000000 by omega) hby) (by decide)
    have hold : (Builtin.firstCells i.size es.length (.slice ad es.length es.length)).run P w.drew = .ok ((List.range (es.length * k)).map g).toArray w.drew := by
      cases ad with
      | none =>
        have h00 : es = [] := List.eq_nil_of_length_eq_zero (by have := hr1.nil rfl; omega)
        subst h00
        simp [Builtin.firstCells]
      | some ad =>
        refine run_firstCells_some (P := P) w.drew i.size es.length ad es.length es.length _ (by rw [hsz]; simp) fun j u hu => ?_
        rw [List.getElem?_map] at hu
        by_cases hj : j < es.length * k
        · rw [List.getElem?_range hj] at hu
          cases hu
          exact hr1.cell ad rfl j hj
        · rw [List.getElem?_eq_none (by simpa using hj)] at hu; cases hu
    have hr := run_append_grow_src (P := P) (w := w) t tx ty e i z he.t hi hz ad es.length es.length _ hold _ _ _ (by rw [hsz]; exact hs) (by omega) (by omega) (growslice_fits (by omega) hby2)
    obtain ⟨-, -, g3⟩ := new_row2 (k := k) (e := e) (br := br) h hbr hzs (olds := (List.range (es.length * k)).map g) (news := (List.range (new.length * k)).map f) (es1 := es) (es2 := new) hw1 hw (by simp) (by simp) (range_reps hw1 hc1) (range_reps hw hc) (grownCap w (es.length + new.length) es.length e) hge hcm
    have hbel : Below w.heap.size w (w.drew.alloc (.cells (((List.range (es.length * k)).map g ++ (List.range (new.length * k)).map f).toArray ++ Builtin.zeroCells z.cells (grownCap w (es.length + new.length) es.length e - (es.length + new.length))) e)) := ((Below.refl _ _).drew).alloc (Nat.le_refl _) _
    refine ⟨_, _, ρ, fun x => F x ∨ x = w.heap.size, hr, ⟨ρ.le_refl, fun _ hx => .inl hx, fun _ hx => .inl hx, fun _ hx => .inl hx, fun x hx => hx.elim .inl fun e => .inr (by rw [e]; exact h.bel.fresh (Nat.le_refl _))⟩, h.addF hbel (Nat.le_refl _) (by simp), ?_⟩
    obtain ⟨q1, q2, q3⟩ := g3
    dsimp only at q1 q2 q3
    have hlen : (es ++ new).length = es.length + new.length := List.length_append
    rcases q3 with q3 | ⟨-, -, cs, T, fr, ⟨q5, q5k⟩ | q5, q6, q7, q8⟩
    rotate_right
    · have : k = 0 := q5.no.1
      omega
    · exfalso
      have : 0 < grownCap w (es.length + new.length) es.length e * k := Nat.mul_pos (by omega) hk
      omega
    · have hcells : ∀ j, j < (es.length + new.length) * k → (w.drew.alloc (.cells (((List.range (es.length * k)).map g ++ (List.range (new.length * k)).map f).toArray ++ Builtin.zeroCells z.cells (grownCap w (es.length + new.length) es.length e - (es.length + new.length))) e)).cell? ((⟨w.heap.size, 0, none⟩ : Addr).add j) = some (cs.getD j undef) := fun j hj => by
        have hle : (es.length + new.length) * k ≤ grownCap w (es.length + new.length) es.length e * k := Nat.mul_le_mul_right k hge
        rw [add_lit, cell_of_row _ _ _ cs T fr q5]
        simp [Array.getD, show j < cs.size by omega]
      have hreps : ∀ (j : Nat) (av : AV), (flat (es ++ new))[j]? = some av → Rep0 (fun x => F x ∨ x = w.heap.size) (w.drew.alloc (.cells (((List.range (es.length * k)).map g ++ (List.range (new.length * k)).map f).toArray ++ Builtin.zeroCells z.cells (grownCap w (es.length + new.length) es.length e - (es.length + new.length))) e)) (cs.getD j undef) av := fun j av hj => by
        obtain ⟨u, r1, r2⟩ := q8 j av hj
        simp only [Nat.zero_add] at r1
        have hlt := (Array.getElem?_eq_some_iff.1 r1)
        rw [show cs.getD j undef = u by simp [Array.getD, hlt.1, hlt.2]]
        exact r2.mono (Agree.refl _ _) fun _ hx => .inl hx
      have hrow : ∀ L : Nat → Prop, L w.heap.size → RowAt (w.drew.alloc (.cells (((List.range (es.length * k)).map g ++ (List.range (new.length * k)).map f).toArray ++ Builtin.zeroCells z.cells (grownCap w (es.length + new.length) es.length e - (es.length + new.length))) e)) L (some ⟨w.heap.size, 0, none⟩) (es.length + new.length) (grownCap w (es.length + new.length) es.length e) ((es.length + new.length) * k) (fun j => cs.getD j undef) := fun L hL =>
        ⟨hge, hcm, by simp, (fun ad e _ => by cases e; exact hL), (fun ad e j hj => by cases e; exact hcells j hj)⟩
      cases vol
      · exact .pure _ _ (.sl _ _ _ _ _ _ hlen q1 (hrow _ (.inr rfl)) hreps)
      · exact .vsl _ _ _ _ _ _ hlen q1 (hrow _ (.inr (.inr rfl))) hreps

theorem g_app_ref {b lo n : Nat} {r : ARow} {v1 : Value} (hv : Rep ρ w0.V F w v1 (.ref b k lo n)) (hb : σ.rw b = some r) (hrk : r.k = k) (hf : r.fro = false) (hlo : lo + n ≤ r.es.length) (hn : n ≤ 1000000) :
    Good P w0 N ρ F a w (Builtin.append_ #[t, tx] ty #[v1, v2]) bb 0 br 1 ((σ.setR b none).setR br (some ⟨false, k, (r.es.drop lo).take n ++ new⟩)) (.ref br k 0 (n + new.length)) := by
  obtain ⟨c2, f, a2, rfl, hw, hc, hs⟩ := app_src he h hy hels hk' hpu
  obtain ⟨i, z, hi, hz, hsz, hbt, hzs⟩ := he.i
  obtain ⟨ad, c, p, rfl, hp, hnc, hcm, hlim, hnn, ha⟩ := hv.ref_inv
  obtain ⟨ad', c', p', g, e1, hp', hra, hw1, hlen1, hc1⟩ := ref_row h hv hb hrk hlo
  cases e1
  rw [hp] at hp'; cases hp'
  have hbne : b ≠ br := by rintro rfl; rw [hbr] at hp; cases hp
  by_cases hroom : n + new.length ≤ c
  · have hr := run_app_room (P := P) (w := w) (ty := ty) he.t hi ad n c _ _ _ (by rw [hsz]; exact hs) hroom
    by_cases hc0 : c = 0
    · -- nothing at all
      have hn0 : n = 0 := by omega
      have hnew : new = [] := List.eq_nil_of_length_eq_zero (by omega)
      subst hnew
      have hes : (r.es.drop lo).take n = [] := by rw [hn0]; rfl
      rw [hes]
      refine ⟨.slice ad (n + 0) c, w, ρ.addR br ⟨0, 0, 0⟩, F, ?_, .newR hbr, ?_, ?_⟩
      · simp only [List.length_nil] at hr ⊢
        rw [hr]; cases ad <;> simp [storeCells]
      · exact h.moveRow hbne hbr hb hp hf (fun hl => absurd hl (by simp)) (vrow_new [] rfl)
      · exact .ref _ _ _ _ _ _ ⟨0, 0, 0⟩ (by simp [Env.addR]) (by simpa using hnc) hcm (by simp [hc0]) hnn (fun e => absurd hc0 e)
    · have had := ha hc0
      subst had
      have hpos : 0 < c * k := Nat.mul_pos (by omega) hk
      have hlk : lo * k + c * k ≤ p.lim := by rw [← Nat.add_mul]; exact hlim
      have hnm : n * k + new.length * k ≤ c * k := by rw [← Nat.add_mul]; exact Nat.mul_le_mul_right k hroom
      obtain ⟨h1, h2, h3⟩ := h.rw b r p hb hp
      have hwf := width_flat h1
      rcases h3 with h3 | ⟨h3, h4, cs, T, fr, ⟨h5, h5k⟩ | h5, h6, h7, h8⟩
      rotate_right
      · have : r.k = 0 := h5.no.1
        omega
      · omega
      · have := h7 hf
        subst this
        have hnl : ((List.range (new.length * k)).map f).length = new.length * k := by simp
        obtain ⟨w', cur', s1, s2, s3, s4, f1, f2, f3, f4, f5⟩ := store_mem (P := P) h5 (news := (List.range (new.length * k)).map f) (o := p.off + lo * k + n * k) (by rw [hnl]; omega) hs.one
        have hw1' : ∀ x ∈ r.es.take (lo + n), x.cells.length = r.k := fun x hx => h1 x (List.mem_of_mem_take hx)
        have hft : flat (r.es.take (lo + n)) = (flat r.es).take ((lo + n) * r.k) := flat_take h1 _
        have hsim := h.writeRow (r' := ⟨false, k, r.es.take (lo + n)⟩) hb hp hf rfl (by omega) f1 f2 f3 f4 f5 fun hA => ⟨by rw [← hrk]; exact hw1', by dsimp only; rw [hft, List.length_take]; omega, .inr ⟨(fun e => by cases e), fun _ => h4 hf, cur', T, (0, 0), .inl ⟨s2, hk⟩, by omega, fun _ => rfl, fun j av hj => by
          dsimp only at hj
          rw [hft, List.getElem?_take] at hj
          split at hj
          · rename_i hjl
            obtain ⟨u, q1, q2⟩ := h8 j av hj
            refine ⟨u, ?_, q2.mono hA fun _ hx => hx⟩
            rw [s4, if_neg ?_]
            · exact q1
            · rw [hrk, Nat.add_mul] at hjl; omega
          · cases hj⟩⟩
        have hA : Agree F w w' := fun x hx => f5 x (by rintro rfl; exact (h4 hf).2 hx)
        have hwall : ∀ x ∈ (r.es.drop lo).take n ++ new, x.cells.length = k := fun x hx => (List.mem_append.1 hx).elim (hw1 x) (hw x)
        have hlall : ((r.es.drop lo).take n ++ new).length = n + new.length := by rw [List.length_append, hlen1]
        have hmv := hsim.moveRow (b' := br) (r := ⟨false, k, r.es.take (lo + n)⟩) (r' := ⟨false, k, (r.es.drop lo).take n ++ new⟩) (p' := ⟨p.blk, p.off + lo * k, p.lim - lo * k⟩) hbne hbr (by simp [FS.setR]) hp rfl (fun _ => ⟨by omega, rfl⟩) ⟨hwall, by dsimp only; rw [width_flat hwall, hlall, Nat.add_mul]; omega, .inr ⟨(fun e => by cases e), fun _ => h4 hf, cur', T, (0, 0), .inl ⟨s2, hk⟩, by dsimp only; omega, fun _ => rfl, fun j av hj => by
          dsimp only at hj ⊢
          rw [flat_append] at hj
          have hfl := width_flat hw1
          rw [hlen1] at hfl
          by_cases hjn : j < n * k
          · rw [List.getElem?_append_left (by omega)] at hj
            have hwd : ∀ e ∈ r.es.drop lo, e.cells.length = k := fun e he => hrk ▸ h1 e (List.mem_of_mem_drop he)
            rw [flat_take hwd, flat_drop (k := k) (fun e he => hrk ▸ h1 e he), List.getElem?_take, if_pos hjn, List.getElem?_drop] at hj
            obtain ⟨u, q1, q2⟩ := h8 _ av hj
            refine ⟨u, ?_, q2.mono hA fun _ hx => hx⟩
            rw [s4, if_neg (by omega), ← q1]; congr 1; omega
          · rw [List.getElem?_append_right (by omega), hfl] at hj
            have hjl := (List.getElem?_eq_some_iff.1 hj).1
            rw [width_flat hw] at hjl
            refine ⟨f (j - n * k), ?_, (hc _ _ hj).mono hA fun _ hx => hx⟩
            rw [s4, if_pos (by rw [hnl]; omega)]
            rw [List.getElem?_map, show p.off + lo * k + j - (p.off + lo * k + n * k) = j - n * k by omega, List.getElem?_range hjl]; rfl⟩⟩
        have hset : ((σ.setR b (some ⟨false, k, r.es.take (lo + n)⟩)).setR b none).setR br (some ⟨false, k, (r.es.drop lo).take n ++ new⟩) = (σ.setR b none).setR br (some ⟨false, k, (r.es.drop lo).take n ++ new⟩) := by
          unfold FS.setR; congr 1; funext x; dsimp only; split
          · rfl
          · split <;> rfl
        rw [hset] at hmv
        refine ⟨.slice (some ⟨p.blk, p.off + lo * k, none⟩) (n + new.length) c, w', _, F, ?_, .newR hbr, hmv, ?_⟩
        · rw [hr]; simp only [hsz, add_lit, s1, Result.andThen_ok]
        · refine .ref _ _ _ _ _ _ ⟨p.blk, p.off + lo * k, p.lim - lo * k⟩ (by simp [Env.addR]) hroom hcm ?_ (by simp) (fun _ => by simp)
          dsimp only; rw [Nat.zero_add]; omega
  · have hge := grownCap_ge w (n + new.length) c e
    have hcm2 := grownCap_le_maxLen w (n + new.length) c e (by unfold maxLen; omega)
    have hby2 : (n + new.length) * i.bytes ≤ 140737488355328 := by
      rw [hbt]; exact Nat.le_trans (Nat.mul_le_mul (show n + new.length ≤ 2000000 by omega) hby) (by decide)
    have hold : (Builtin.firstCells i.size n (.slice ad n c)).run P w.drew = .ok ((List.range (n * k)).map g).toArray w.drew := by
      cases ad with
      | none =>
        have h00 : n = 0 := by have := hnn rfl; omega
        subst h00
        simp [Builtin.firstCells]
      | some ad =>
        refine run_firstCells_some (P := P) w.drew i.size n ad n c _ (by rw [hsz]; simp) fun j u hu => ?_
        rw [List.getElem?_map] at hu
        by_cases hj : j < n * k
        · rw [List.getElem?_range hj] at hu
          cases hu
          exact hra.cell ad rfl j hj
        · rw [List.getElem?_eq_none (by simpa using hj)] at hu; cases hu
    have hr := run_append_grow_src (P := P) (w := w) t tx ty e i z he.t hi hz ad n c _ hold _ _ _ (by rw [hsz]; exact hs) (by omega) (by omega) (growslice_fits (by omega) hby2)
    have hrr := range_reps (w := w) (F := F) hw1 hc1
    rw [hlen1] at hrr
    obtain ⟨g1, g2, -⟩ := new_row2 (k := k) (e := e) (br := br) (h.dropRow b) hbr hzs (olds := (List.range (n * k)).map g) (news := (List.range (new.length * k)).map f) (es1 := (r.es.drop lo).take n) (es2 := new) hw1 hw (by simp [hlen1]) (by simp) hrr (range_reps hw hc) (grownCap w (n + new.length) c e) (by rw [hlen1]; exact hge) hcm2
    rw [hlen1] at g1 g2
    exact ⟨_, _, _, F, hr, .newR hbr, g1, g2⟩
end
end
end Go.Proofs.Ytjacmhaeemhinaa

namespace Go.Proofs.Ytjacmhaeemhinaa
open Go.RowKit
set_option linter.unusedVariables false

theorem flat_rep {e : AV} {k n i : Nat} (hk : e.cells.length = k) (hi : i < n * k) : (flat (List.replicate n e))[i]? = e.cells[i % k]? := by
  have hk0 : 0 < k := by rcases Nat.eq_zero_or_pos k with h | h; subst h; simp at hi; exact h
  have hj : i / k < n := Nat.div_lt_of_lt_mul (by rw [Nat.mul_comm]; exact hi)
  have h1 := flat_get (es := List.replicate n e) (k := k) (fun x hx => by rw [List.eq_of_mem_replicate hx]; exact hk) (j := i / k) (e := e) (by rw [List.getElem?_replicate, if_pos hj]) (i := i % k) (Nat.mod_lt _ hk0)
  rw [← h1, Nat.mul_comm, Nat.div_add_mod]

section
variable {P : Program} {w0 : Base} {N : Nat} {ρ : Env} {F : Nat → Prop} {σ : FS} {a : Act} {w : World}

theorem zero_rep {z : Value} {k : Nat} (hp : pureV (cst z) = true) (hl : (cst z).cells.length = k) (F : Nat → Prop) (w : World) (n : Nat) : ∀ (i : Nat) (av : AV), (flat (List.replicate n (cst z)))[i]? = some av → i < n * k ∧ ∃ u, z.cells[i % k]? = some u ∧ Rep0 F w u av ∧ u.oneCell' = true := by
  intro i av e
  have hi := (List.getElem?_eq_some_iff.1 e).1
  rw [width_flat (k := k) (fun x hx => by rw [List.eq_of_mem_replicate hx]; exact hl), List.length_replicate] at hi
  rw [flat_rep hl hi] at e
  have hok := pureV_ok hp
  obtain ⟨d1, d2⟩ := okV_cells0 (cst_rep F w z) hok
  obtain ⟨_, _, d3⟩ := okV_cells (ρ := Env.none) (B := V0) (.pure _ _ (cst_rep F w z)) hok
  have hm : i % k < (cst z).cells.length := (List.getElem?_eq_some_iff.1 e).1
  have e1 : z.cells[i % k]? = some (z.cells[i % k]'(by omega)) := Array.getElem?_eq_getElem (by omega)
  exact ⟨hi, _, e1, d2 _ _ _ e1 e, d3 _ (by simp)⟩

theorem g_mks {t e : TypeId} {i : TypeInfo} {z : Value} {k by_ : Nat} (ht : P.underlying t = some (.slice e)) (hi : P.info? e = some i) (hz : i.zero = some z) (hk : i.size = k) (hb : i.bytes = by_) (h : Sim w0 N ρ F σ a w) {bb br : Nat} (hbr : ρ.r br = none) {kl kc : IntKind} {n : Int} (h0 : 0 ≤ n) (hn : n ≤ 1000000) (hby : by_ ≤ 1000000) (hp : pureV (cst z) = true) (hl : (cst z).cells.length = k) :
    Good P w0 N ρ F a w (Instr.makeSlice t (.int kl n) (.int kc n)) bb 0 br 1 (σ.setR br (some ⟨false, k, List.replicate n.toNat (cst z)⟩)) (.ref br k 0 n.toNat) := by
  have hmul : (i.bytes : Int) * n ≤ 281474976710656 := by
    rw [hb]
    have h1 : (by_ : Int) * n ≤ 1000000 * 1000000 := Int.mul_le_mul (by omega) hn h0 (by decide)
    omega
  have hr := run_make (P := P) w t e i z ht hi hz kl kc n n h0 (Int.le_refl _) hmul (by omega)
  rw [hk] at hr
  have hbel : Below w.heap.size w (w.alloc (.cells (madeCells z.cells (n.toNat * k)) e)) := (Below.refl _ _).alloc (Nat.le_refl _) _
  have hrow := rowOk_new (k := k) (c := n.toNat) (es := List.replicate n.toNat (cst z)) h hbel (heap_alloc_new w _) (fun x hx => by rw [List.eq_of_mem_replicate hx]; exact hl) (by rw [size_madeCells]; exact Nat.le_refl _) (by simp) (fun j av g => by
    obtain ⟨hj, u, e1, e2, _⟩ := zero_rep hp hl F w n.toNat j av g
    refine ⟨u, ?_, e2⟩
    have hzs : z.cells.size = k := by
      have := (okV_cells0 (cst_rep F w z) (pureV_ok hp)).1; omega
    have hm := Array.getElem?_eq_some_iff.1 e1
    unfold madeCells
    rw [Array.getElem?_map, Array.getElem?_range, if_pos hj]
    simp only [Option.map_some, hzs]
    rw [getElem!_pos z.cells (j % k) hm.1, hm.2])
  refine ⟨_, _, ρ.addR br ⟨w.heap.size, 0, n.toNat * k⟩, F, hr, .newR hbr, h.newRow hbr hbel (fun _ => ⟨by simp, Nat.le_refl _⟩) hrow, ?_⟩
  exact .ref _ _ _ _ _ _ ⟨w.heap.size, 0, n.toNat * k⟩ (by simp [Env.addR]) (Nat.le_refl _) (by unfold maxLen; omega) (by simp) (by simp) (fun _ => by simp)

theorem splice_flat {es new : List AV} {k lo : Nat} (hw : ∀ e ∈ es, e.cells.length = k) (hw2 : ∀ e ∈ new, e.cells.length = k) (hfit : lo + new.length ≤ es.length) : flat (es.take lo ++ (new ++ es.drop (lo + new.length))) = putCells (flat es) (lo * k) (flat new) := by
  rw [flat_append, flat_append, flat_take hw, flat_drop hw]
  unfold putCells
  rw [width_flat hw2, Nat.add_mul]
theorem splice_width {es new : List AV} {k lo : Nat} (hw : ∀ e ∈ es, e.cells.length = k) (hw2 : ∀ e ∈ new, e.cells.length = k) : ∀ e ∈ es.take lo ++ (new ++ es.drop (lo + new.length)), e.cells.length = k := fun e he => by
  rcases List.mem_append.1 he with he | he
  · exact hw e (List.mem_of_mem_take he)
  · rcases List.mem_append.1 he with he | he
    · exact hw2 e he
    · exact hw e (List.mem_of_mem_drop he)

theorem g_cpy {dT sT ty e : TypeId} {k : Nat} (hd : P.underlying dT = some (.slice e)) (hsz : szOf P e = some k) (hk : 0 < k) (h : Sim w0 N ρ F σ a w) {bb br : Nat} {v1 v2 : Value} {b lo n : Nat} {r : ARow} {y : AV} {k' : Nat} {src : List AV} (hv : Rep ρ w0.V F w v1 (.ref b k lo n)) (hb : σ.rw b = some r) (hrk : r.k = k) (hf : r.fro = false) (hlo : lo + n ≤ r.es.length)
    (hy : Rep ρ w0.V F w v2 y) (hels : els σ.rw y = some (k', src)) (hk' : k' = k ∨ src = []) (hpu : (src.take n).all pureV = true) :
    Good P w0 N ρ F a w (Builtin.copy_ #[dT, sT] ty #[v1, v2]) bb 0 br 0 (σ.setR b (some { r with es := r.es.take lo ++ (src.take n ++ r.es.drop (lo + min src.length n)) })) (.int .i64 (min src.length n)) := by
  obtain ⟨a2, c2, f, rfl, hr2, hw2, hc2⟩ := els_row h hy hels
  obtain ⟨ad, c, p, rfl, hp, hnc, hcm, hlim, hnn, ha⟩ := hv.ref_inv
  have hw2k : ∀ x ∈ src, x.cells.length = k := by
    rcases hk' with rfl | rfl
    · exact hw2
    · simp
  obtain ⟨q, hq⟩ : ∃ q, min src.length n = q := ⟨_, rfl⟩
  have hmin : Nat.min src.length n = q := hq
  have hval : ((min (src.length : Int) n : Int)) = (q : Int) := by omega
  have hrow1 := (h.rw b r p hb hp).1
  rw [hval, hq]
  have htake : src.take n = src.take q := by
    rcases Nat.le_total src.length n with hle | hle
    · rw [List.take_of_length_le hle, List.take_of_length_le (by omega)]
    · rw [show q = n by omega]
  have hlq : (src.take q).length = q := by simp; omega
  rw [htake]
  have hes' : r.es.take lo ++ (src.take q ++ r.es.drop (lo + q)) = r.es.take lo ++ (src.take q ++ r.es.drop (lo + (src.take q).length)) := by rw [hlq]
  have hwt : ∀ x ∈ src.take q, x.cells.length = k := fun x hx => hw2k x (List.mem_of_mem_take hx)
  have hfc : (Builtin.firstCells k q (.slice a2 src.length c2)).run P w = .ok ((List.range (q * k)).map f).toArray w := by
    cases a2 with
    | none =>
      have : src.length = 0 := by have := hr2.nil rfl; have := hr2.cap; omega
      have hq0 : q = 0 := by omega
      subst hq0; simp [Builtin.firstCells]
    | some a2 =>
      refine run_firstCells_some (P := P) w k q a2 src.length c2 _ (by simp) fun j u hu => ?_
      rw [List.getElem?_map] at hu
      by_cases hj : j < q * k
      · rw [List.getElem?_range hj] at hu
        cases hu
        refine hr2.cell a2 rfl j ?_
        rcases hk' with rfl | rfl
        · exact Nat.lt_of_lt_of_le hj (Nat.mul_le_mul_right _ (by omega))
        · simp at hq; subst hq; simp at hj
      · rw [List.getElem?_eq_none (by simpa using hj)] at hu; cases hu
  have hbase : (Builtin.copy_ #[dT, sT] ty #[.slice ad n c, .slice a2 src.length c2]).run P w = (match ad with | some x => ((storeCells x ((List.range (q * k)).map f)).run P w).andThen fun _ w' => .ok (goInt q) w' | none => .ok (goInt q) w) := by
    cases ad <;> simp [Builtin.copy_, run_underlying hd, Builtin.lenOf, run_sizeOf' hsz, hfc, hmin]
  by_cases hq0 : q = 0
  · subst hq0
    have : r.es.take lo ++ (src.take 0 ++ r.es.drop (lo + 0)) = r.es := by simp
    rw [this, FS.setR_same (by rw [hb])]
    refine ⟨.int .i64 (0 : Nat), w, ρ, F, ?_, .refl _ _ _ _ _, h, rep_int _ _⟩
    rw [hbase]; cases ad <;> simp [storeCells, goInt]
  · have hc0 : c ≠ 0 := by omega
    have had := ha hc0
    subst had
    rw [hes']
    have hone : ∀ u ∈ (List.range (q * k)).map f, u.oneCell' = true := fun u hu => by
      obtain ⟨j, hj, rfl⟩ := List.mem_map.1 hu
      simp at hj
      have hjl : j < (flat (src.take q)).length := by
        rw [width_flat hwt, hlq]; exact hj
      obtain ⟨x, e1⟩ : ∃ x, (flat (src.take q))[j]? = some x := ⟨_, List.getElem?_eq_getElem hjl⟩
      have hx := List.mem_of_getElem? e1
      rw [flat_take hw2k, List.getElem?_take, if_pos hj] at e1
      exact (scal_one (ρ := Env.none) (B := V0) (.pure _ _ (hc2 j _ e1)) (pureC_scal (pureV_cells (by rw [← htake]; exact hpu) _ hx))).1
    have hwf := width_flat hrow1
    have hft := width_flat hwt
    rw [hlq] at hft
    have hfit2 : lo * k + q * k ≤ r.es.length * r.k := by
      rw [hrk, ← Nat.add_mul]; exact Nat.mul_le_mul_right _ (by omega)
    obtain ⟨w', e1, e2⟩ := write_row (P := P) h hb hp hf (o := lo * k) (news := (List.range (q * k)).map f) (avs := flat (src.take q)) (by simp [hft]) (by intro e; have : 0 < q * k := Nat.mul_pos (by omega) hk; rw [← hft, e] at this; simp at this) (by rw [hft, hwf]; exact hfit2) (fun j u av g1 g2 => by
      rw [List.getElem?_map] at g1
      have hj := (List.getElem?_eq_some_iff.1 g2).1
      rw [hft] at hj
      rw [List.getElem?_range hj] at g1
      cases g1
      rw [flat_take hw2k, List.getElem?_take, if_pos hj] at g2
      exact hc2 j av g2) hone (es' := r.es.take lo ++ (src.take q ++ r.es.drop (lo + (src.take q).length))) (splice_width hrow1 (by rw [hrk]; exact hwt)) (by rw [← hrk] at hwt ⊢; exact splice_flat hrow1 hwt (by omega))
    refine ⟨.int .i64 q, w', ρ, F, ?_, .refl _ _ _ _ _, e2, rep_int _ _⟩
    rw [hbase]; simp only [e1, Result.andThen_ok]; rfl

theorem g_clr {t ty e : TypeId} {z : Value} {k : Nat} (hd : P.underlying t = some (.slice e)) (hz : zeroOf P e = some z) (hk : 0 < k) (hp : pureV (cst z) = true) (hl : (cst z).cells.length = k) (h : Sim w0 N ρ F σ a w) {bb br : Nat} {v : Value} {b lo n : Nat} {r : ARow} (hv : Rep ρ w0.V F w v (.ref b k lo n)) (hb : σ.rw b = some r) (hrk : r.k = k) (hf : r.fro = false) (hlo : lo + n ≤ r.es.length) :
    Good P w0 N ρ F a w (Builtin.clear_ #[t] ty #[v]) bb 0 br 0 (σ.setR b (some { r with es := r.es.take lo ++ (List.replicate n (cst z) ++ r.es.drop (lo + n)) })) .any := by
  obtain ⟨ad, c, p, rfl, hpp, hnc, hcm, hlim, hnn, ha⟩ := hv.ref_inv
  have hrow1 := (h.rw b r p hb hpp).1
  by_cases hn0 : n = 0
  · subst hn0
    have : r.es.take lo ++ (List.replicate 0 (cst z) ++ r.es.drop (lo + 0)) = r.es := by simp
    rw [this, FS.setR_same (by rw [hb])]
    refine ⟨.tuple #[], w, ρ, F, ?_, .refl _ _ _ _ _, h, .any _⟩
    cases ad <;> simp [Builtin.clear_, run_underlying hd]
  · have had := ha (by omega)
    subst had
    have hzs : z.cells.size = k := by
      have := (okV_cells0 (cst_rep F w z) (pureV_ok hp)).1; omega
    have hzv : (zeroValue e).run P w = .ok z w := by
      unfold zeroOf at hz
      cases hi : P.info? e with
      | none => rw [hi] at hz; cases hz
      | some i => rw [hi] at hz; simp at hz; simp [zeroValue, typeInfo, hi, hz]
    have hrun : (Builtin.clear_ #[t] ty #[.slice (some ⟨p.blk, p.off + lo * k, none⟩) n c]).run P w = ((storeCells ⟨p.blk, p.off + lo * k, none⟩ (Builtin.zeroCells z.cells n).toList).run P w).andThen fun _ w' => .ok (.tuple #[]) w' := by
      obtain ⟨m, rfl⟩ : ∃ m, n = m + 1 := ⟨n - 1, by omega⟩
      simp [Builtin.clear_, run_underlying hd, hzv]
    have hwr : ∀ x ∈ List.replicate n (cst z), x.cells.length = k := fun x hx => by rw [List.eq_of_mem_replicate hx]; exact hl
    have hfl := width_flat hwr
    rw [List.length_replicate] at hfl
    have hwf := width_flat hrow1
    have hpos : 0 < n * k := Nat.mul_pos (by omega) hk
    have hfit2 : lo * k + n * k ≤ r.es.length * r.k := by
      rw [hrk, ← Nat.add_mul]; exact Nat.mul_le_mul_right _ hlo
    have hget : ∀ (j : Nat) (av : AV), (flat (List.replicate n (cst z)))[j]? = some av → ∃ u, (Builtin.zeroCells z.cells n).toList[j]? = some u ∧ Rep0 F w u av ∧ u.oneCell' = true := fun j av g => by
      obtain ⟨hj, u, e1, e2, e3⟩ := zero_rep hp hl F w n j av g
      refine ⟨u, ?_, e2, e3⟩
      have hm := Array.getElem?_eq_some_iff.1 e1
      unfold Builtin.zeroCells
      rw [Array.getElem?_toList, Array.getElem?_map, Array.getElem?_range, hzs, if_pos hj]
      simp only [Option.map_some]
      rw [getElem!_pos z.cells (j % k) hm.1, hm.2]
    have hnl : (Builtin.zeroCells z.cells n).toList.length = n * k := by simp [size_zeroCells, hzs]
    obtain ⟨w', e1, e2⟩ := write_row (P := P) h hb hpp hf (o := lo * k) (news := (Builtin.zeroCells z.cells n).toList) (avs := flat (List.replicate n (cst z))) (by rw [hnl, hfl]) (by intro e; rw [e] at hfl; simp at hfl; omega) (by rw [hfl, hwf]; exact hfit2) (fun j u av g1 g2 => by
      obtain ⟨u', q1, q2, _⟩ := hget j av g2
      rw [g1] at q1; cases q1; exact q2) (fun u hu => by
      obtain ⟨j, hj, e⟩ := List.getElem_of_mem hu
      have g1 : (Builtin.zeroCells z.cells n).toList[j]? = some u := by rw [List.getElem?_eq_getElem hj, e]
      obtain ⟨av, g2⟩ : ∃ av, (flat (List.replicate n (cst z)))[j]? = some av := ⟨_, List.getElem?_eq_getElem (by rw [hfl]; omega)⟩
      obtain ⟨u', q1, _, q3⟩ := hget j av g2
      rw [g1] at q1; cases q1; exact q3) (es' := r.es.take lo ++ (List.replicate n (cst z) ++ r.es.drop (lo + (List.replicate n (cst z)).length))) (splice_width hrow1 (by rw [hrk]; exact hwr)) (by rw [← hrk] at hwr ⊢; exact splice_flat hrow1 hwr (by rw [List.length_replicate]; omega))
    rw [List.length_replicate] at e2
    exact ⟨.tuple #[], w', ρ, F, by rw [hrun, e1]; rfl, .refl _ _ _ _ _, e2, .any _⟩

/-- An own row that is marked, and that nobody writes any more. -/
theorem Sim.markRow (h : Sim w0 N ρ F σ a w) {b : Nat} {r : ARow} {p : Pl} (hb : σ.rw b = some r) (hp : ρ.r b = some p) (hf : r.fro = false) (hlim : 0 < p.lim) (hk0 : 0 < r.k) {w' : World} (hos : w'.os = w.os) (htp : w'.tape = w.tape) (hout : w'.output = w.output) (hsz : w'.heap.size = w.heap.size)
    (hne : ∀ x, x ≠ p.blk → w'.heap[x]? = w.heap[x]?) (hsame : ∀ cs T fr, w.heap[p.blk]? = some (.cells cs T fr) → ∃ fr', w'.heap[p.blk]? = some (.cells cs T fr')) :
    Sim w0 N ρ (fun x => F x ∨ x = p.blk) (σ.setR b (some { r with fro := true })) a w' := by
  have hok := h.rw b r p hb hp
  have hown : ¬ w0.V p.blk ∧ ¬ F p.blk := by
    rcases hok.2.2 with h3 | ⟨_, h3, _⟩
    · omega
    · exact h3 hf
  have hA : Agree (fun x => w0.V x ∨ F x) w w' := fun x hx => hne x (by rintro rfl; rcases hx with hx | hx; exact hown.1 hx; exact hown.2 hx)
  have hA0 : Agree F w w' := fun x hx => hA x (.inr hx)
  refine ⟨h.sz, h.df, fun t => (h.tm t).mono ρ.le_refl hA (fun _ hx => .inl hx) (fun _ hx => .inl hx), fun x c g e1 e2 => ?_, fun x r2 p2 e1 e2 => ?_, h.ib, fun x y p1 p2 r1 r2 e1 e2 e3 e4 f1 f2 l1 l2 hq => ?_, h.ibr, fun x g e => hsz ▸ h.lb x g e, fun x p e hl => hsz ▸ h.lr x p e hl, fun x hx => ?_, h.bel.step hos hout (by omega) fun k hk => hne k (by rintro rfl; exact hown.1 hk)⟩
  · have hgp : g ≠ p.blk := fun e => h.ibr _ _ _ _ e2 hp hlim e.symm
    refine (h.bx x c g e1 e2).mono ρ.le_refl hA (hne _ hgp) (fun _ hx => .inl hx) ?_
    rintro (hx | hx)
    · exact (h.bx x c g e1 e2).2.1 hx
    · exact hgp hx
  · simp only [FS.setR] at e1
    by_cases hx : x = b
    · rw [if_pos hx] at e1; cases e1
      rw [hx, hp] at e2; cases e2
      obtain ⟨h1, h2, h3⟩ := hok
      refine ⟨h1, h2, ?_⟩
      rcases h3 with h3 | ⟨h3, h4, cs, T, fr, ⟨h5, h5k⟩ | h5, h6, h7, h8⟩
      rotate_right
      · have := h5.no.1; omega
      · exact .inl h3
      · obtain ⟨fr', h9⟩ := hsame cs T fr h5
        exact .inr ⟨fun _ => .inr rfl, (fun e => absurd e (by simp)), cs, T, fr', .inl ⟨h9, h5k⟩, h6, (fun e => absurd e (by simp)), fun i av e => let ⟨u, e1, e2⟩ := h8 i av e; ⟨u, e1, e2.mono hA0 fun _ hx => .inl hx⟩⟩
    · rw [if_neg hx] at e1
      cases hf2 : r2.fro
      · have hne2 : 0 < p2.lim → p2.blk ≠ p.blk := fun hl e => hx (h.ir _ _ _ _ _ _ e2 hp e1 hb hf2 hf hl hlim e)
        refine (h.rw x r2 p2 e1 e2).mono hA0 (fun hl => hne _ (hne2 hl)) (fun _ hx => .inl hx) (fun e hl => ?_)
        rintro (hF | hF)
        · rcases (h.rw x r2 p2 e1 e2).2.2 with h3 | ⟨_, h3, _⟩
          · omega
          · exact (h3 e).2 hF
        · exact hne2 hl hF
      · refine (h.rw x r2 p2 e1 e2).mono hA0 (fun hl => ?_) (fun _ hx => .inl hx) (fun e hl => by rw [hf2] at e; cases e)
        rcases (h.rw x r2 p2 e1 e2).2.2 with h3 | ⟨h3, _, _⟩
        · omega
        · exact hA0 _ (h3 hf2)
  · simp only [FS.setR] at e3 e4
    split at e3
    · cases e3; cases f1
    · split at e4
      · cases e4; cases f2
      · exact h.ir _ _ _ _ _ _ e1 e2 e3 e4 f1 f2 l1 l2 hq
  · rcases hx with hx | rfl
    · rw [hsz]; exact h.fl x hx
    · rw [hsz]; exact h.lr b p hp hlim
theorem g_mvL {src e : TypeId} (h : Sim w0 N ρ F σ a w) {bb br : Nat} (hs : P.underlying src = some (.slice e)) (he : P.underlying e = some (.int .u8)) {v : Value} {b k lo n : Nat} {r : ARow} (hv : Rep ρ w0.V F w v (.ref b k lo n)) (hr : σ.rw b = some r) (hk : r.k = k) (hlen : lo + n ≤ r.es.length) (hf : r.fro = false) (hn : 0 < n) (hk0 : 0 < k) :
    Good P w0 N ρ F a w (convert src src v) bb 0 br 0 (σ.setR b (some { r with fro := true })) (.sl false k ((r.es.drop lo).take n)) := by
  obtain ⟨ad, c, p, rfl, hp, h1, h2, h3, h4, h5⟩ := hv.ref_inv
  have had := h5 (by omega)
  subst had
  have hlim : 0 < p.lim := by
    have : 0 < (lo + c) * k := Nat.mul_pos (by omega) hk0
    omega
  obtain ⟨_, _, q⟩ := h.rw b r p hr hp
  obtain ⟨cs, T, fr, hcs⟩ : ∃ cs T fr, w.heap[p.blk]? = some (.cells cs T fr) := by
    rcases q with q | ⟨_, _, cs, T, fr, ⟨q, _⟩ | q, _⟩
    rotate_right
    · have := q.no.1; omega
    · omega
    · exact ⟨cs, T, fr, q⟩
  have hshape : w.shape? p.blk = some (T, cs.size) := by unfold World.shape?; rw [hcs]
  have hrun : (convert src src (.slice (some ⟨p.blk, p.off + lo * k, none⟩) n c)).run P w = .ok (.slice (some ⟨p.blk, p.off + lo * k, none⟩) n c) (w.freeze ⟨p.blk, cs.size, none⟩ 1) := by
    unfold convert
    simp only [Sem.run_bind, run_underlying hs, run_underlying he, Result.andThen_ok, beq_self_eq_true, markStringish, run_shape, hshape, Sem.run_pure]
    simp
  have hne : ∀ x, x ≠ p.blk → (w.freeze ⟨p.blk, cs.size, none⟩ 1).heap[x]? = w.heap[x]? := fun x hx => by
    simp only [World.freeze, if_neg (show ¬ (1 : Nat) = 0 by decide), Array.getElem?_modify, if_neg (Ne.symm hx)]
  have hsm : ∀ cs' T' fr', w.heap[p.blk]? = some (.cells cs' T' fr') → ∃ fr2, (w.freeze ⟨p.blk, cs.size, none⟩ 1).heap[p.blk]? = some (.cells cs' T' fr2) := fun cs' T' fr' e => by
    obtain ⟨f1, f2⟩ := fr'
    simp only [World.freeze, if_neg (show ¬ (1 : Nat) = 0 by decide), Array.getElem?_modify, if_true, e, Option.map_some]
    exact ⟨_, rfl⟩
  have hs' := h.markRow hr hp hf hlim (by omega) (w' := w.freeze ⟨p.blk, cs.size, none⟩ 1) rfl rfl rfl (by simp [World.freeze]) hne hsm
  refine ⟨_, _, ρ, fun x => F x ∨ x = p.blk, hrun, ⟨ρ.le_refl, fun _ hx => .inl hx, fun _ hx => .inl hx, fun _ hx => .inl hx, fun x hx => hx.elim .inl fun e => .inr ?_⟩, hs', ?_⟩
  · rcases q with q | ⟨_, q, _⟩
    · omega
    · rw [e]; exact (q hf).1
  · have hv' : Rep ρ w0.V (fun x => F x ∨ x = p.blk) (w.freeze ⟨p.blk, cs.size, none⟩ 1) (.slice (some ⟨p.blk, p.off + lo * k, none⟩) n c) (.ref b k lo n) := .ref _ _ _ _ _ _ p hp h1 h2 h3 h4 h5
    obtain ⟨ad, c', p', f, e1, e2, e3, e4, e5, e6⟩ := ref_row hs' hv' (r := { r with fro := true }) (by simp [FS.setR]) hk hlen
    cases e1
    rw [hp] at e2; cases e2
    exact .pure _ _ (.sl _ _ _ _ _ f e5 e4 (e3.mono (Agree.refl _ _) fun x hx => .inr hx.1) e6)
/-- A string's bytes: a new row that nobody writes. -/
theorem g_s2b {e : TypeId} (h : Sim w0 N ρ F σ a w) {bb br : Nat} {s : ByteArray} {l : List UInt8} (hs : s.data.toList = l) (hl : l.length ≤ 1000000) :
    Good P w0 N ρ F a w (Conv.stringToBytes e s) bb 0 br 0 σ (.sl false 1 (l.map fun c => .int .u8 c.toNat)) := by
  have hsz := str_size hs
  obtain ⟨c, hc⟩ : ∃ c, grownCap w s.size 0 e = c := ⟨_, rfl⟩
  have hge : s.size ≤ c := hc ▸ grownCap_ge w s.size 0 e
  have hcm : c ≤ maxLen := hc ▸ grownCap_le_maxLen w s.size 0 e (by unfold maxLen; omega)
  obtain ⟨cs, hcs⟩ : ∃ cs : Array Value, (s.data.map (fun b => Value.int .u8 b.toNat)) ++ Array.replicate (c - s.size) (.int .u8 0) = cs := ⟨_, rfl⟩
  have hcl : cs.size = c := by
    rw [← hcs]; simp only [Array.size_append, Array.size_map, Array.size_replicate]
    show s.size + _ = _; omega
  have hrun : (Conv.stringToBytes e s).run P w = .ok (.slice (some ⟨w.heap.size, 0, none⟩) s.size c) ((w.drew.alloc (.cells cs e)).freeze ⟨w.heap.size, cs.size, none⟩ 1) := by
    have hch : (choose (.appendCap s.size 0 e)).run P w = .ok c w.drew := by
      rw [run_choose]; simp [Question.forced, ← hc, grownCap]
    have hshape : (w.drew.alloc (.cells cs e)).shape? w.heap.size = some (e, cs.size) := by
      have h0 : (w.drew.alloc (.cells cs e)).heap[w.heap.size]? = some (.cells cs e (0, 0)) := heap_alloc_new w.drew _
      unfold World.shape?; rw [h0]
    simp only [Conv.stringToBytes, Sem.run_bind, hch, Result.andThen_ok, hcs, Go.newRow, run_newObj, Sem.run_pure]
    simp only [markStringish, Sem.run_bind, run_shape, Result.andThen_ok]
    rw [show ({ w.drew with heap := w.drew.heap.push (.cells cs e) } : World) = w.drew.alloc (.cells cs e) from rfl]
    rw [show w.drew.heap.size = w.heap.size from rfl, hshape]
    simp
  have hother : ∀ x, x ≠ w.heap.size → ((w.drew.alloc (.cells cs e)).freeze ⟨w.heap.size, cs.size, none⟩ 1).heap[x]? = (w.drew.alloc (.cells cs e)).heap[x]? := fun x hx => by
    simp [World.freeze, Array.getElem?_modify, Ne.symm hx]
  have hself : ∃ fr, ((w.drew.alloc (.cells cs e)).freeze ⟨w.heap.size, cs.size, none⟩ 1).heap[w.heap.size]? = some (.cells cs e fr) := by
    have h0 : (w.drew.alloc (.cells cs e)).heap[w.heap.size]? = some (.cells cs e (0, 0)) := heap_alloc_new w.drew _
    refine ⟨(cs.size, cs.size + 1), ?_⟩
    have h1 : ¬ (1 : Nat) = 0 := by decide
    simp only [World.freeze, if_neg h1, Array.getElem?_modify, if_true, h0, Option.map_some]
    rfl
  have hbel : Below w.heap.size w ((w.drew.alloc (.cells cs e)).freeze ⟨w.heap.size, cs.size, none⟩ 1) := by
    have hb0 : Below w.heap.size w (w.drew.alloc (.cells cs e)) := ((Below.refl _ _).drew).alloc (Nat.le_refl _) _
    refine ⟨rfl, rfl, ?_, fun x hx => (hother x (by omega)).trans (hb0.block x hx)⟩
    simp [World.freeze]
  have hlt : w.heap.size < ((w.drew.alloc (.cells cs e)).freeze ⟨w.heap.size, cs.size, none⟩ 1).heap.size := by simp [World.freeze]
  obtain ⟨fr, hfr⟩ := hself
  refine ⟨_, _, ρ, fun x => F x ∨ x = w.heap.size, hrun, ⟨ρ.le_refl, fun _ hx => .inl hx, fun _ hx => .inl hx, fun _ hx => .inl hx, fun x hx => hx.elim .inl fun e => .inr (by rw [e]; exact h.bel.fresh (Nat.le_refl _))⟩, h.addF hbel (Nat.le_refl _) hlt, .pure _ _ ?_⟩
  refine .sl _ _ _ _ _ (fun j => cs.getD j undef) (by simp [hsz]) (fun x hx => by obtain ⟨b, _, rfl⟩ := List.mem_map.1 hx; rfl) ⟨hge, hcm, by simp, (fun ad e _ => by cases e; exact .inr rfl), fun ad e j hj => ?_⟩ fun j av hj => ?_
  · cases e
    rw [add_lit, cell_of_row _ _ _ cs _ fr hfr]
    simp [Array.getD, show j < cs.size by omega]
  · have hf1 : flat (l.map fun c => AV.int .u8 c.toNat) = l.map fun c => AV.int .u8 c.toNat := (flat_ones (by simp [List.all_eq_true, scal])).1
    rw [hf1, List.getElem?_map] at hj
    cases hlj : l[j]? with
    | none => rw [hlj] at hj; cases hj
    | some b =>
      rw [hlj] at hj
      cases hj
      have hjl := (List.getElem?_eq_some_iff.1 hlj).1
      have e1 : cs[j]? = some (.int .u8 b.toNat) := by
        rw [← hcs, Array.getElem?_append_left (by simp only [Array.size_map]; show j < s.size; omega), Array.getElem?_map, ← Array.getElem?_toList, hs, hlj]; rfl
      have e2 := Array.getElem?_eq_some_iff.1 e1
      rw [show cs.getD j undef = .int .u8 b.toNat by simp [Array.getD, e2.1, e2.2]]
      exact .int _ _
end
end Go.Proofs.Ytjacmhaeemhinaa

namespace Go.Proofs.Ytjacmhaeemhinaa
open Go.RowKit
set_option linter.unusedVariables false

section
variable {P : Program} {w0 : Base} {N : Nat} {ρ : Env} {F : Nat → Prop} {σ : FS} {a : Act} {w : World}

theorem v_slS_refc {t e : TypeId} {k : Nat} (ht : P.underlying t = some (.slice e)) (hsz : szOf P e = some k) {B : Nat → Prop} {v : Value} {b l0 n c : Nat} (hv : Rep ρ B F w v (.refc b k l0 n c)) {lo hi mx : Option Value} {l h m : Nat} (b1 : IsB 0 lo l) (b2 : IsB n hi h) (b3 : IsB c mx m) (hm0 : mx ≠ none → hi ≠ none) (h1 : l ≤ h) (h2 : h ≤ m) (h3 : m ≤ c) :
    GV P ρ B F w (Instr.sliceAt t v lo hi mx) (.refc b k (l0 + l) (h - l) (m - l)) := by
  obtain ⟨ad, p, rfl, hp, g1, g2, g3, g4, g5⟩ := hv.refc_inv
  refine ⟨_, run_cut ht hsz ad n c lo hi mx l h m b1 b2 b3 hm0 h1 h2 h3, ?_⟩
  have hmul : (l0 + m) * k ≤ (l0 + c) * k := Nat.mul_le_mul_right _ (by omega)
  refine .refc _ _ _ _ _ _ p hp (by omega) (by omega) ?_ ?_ ?_
  · rw [show l0 + l + (m - l) = l0 + m by omega]; omega
  · intro e
    split at e
    · omega
    · cases ad with
      | none => have := g4 rfl; omega
      | some ad => cases e
  · intro e
    rw [if_neg (by omega)]
    rw [g5 (by omega)]
    simp only [Option.map_some, add_lit, Nat.add_mul, Nat.add_assoc]

section
variable {t tx e ty : TypeId} {k by_ : Nat} (he : ElemOk P t tx e k by_) (hk : 0 < k) (h : Sim w0 N ρ F σ a w) {bb br : Nat}
  {v2 : Value} {y : AV} {k' : Nat} {new : List AV} (hy : Rep ρ w0.V F w v2 y) (hels : els σ.rw y = some (k', new)) (hk' : k' = k ∨ new = []) (hpu : new.all pureV = true)
include he hk h hy hels hk' hpu
/-- Append where there is room, and where what stands there is known: in place. -/
theorem g_app_in {b lo n c : Nat} {r : ARow} {v1 : Value} (hv : Rep ρ w0.V F w v1 (.refc b k lo n c)) (hb : σ.rw b = some r) (hrk : r.k = k) (hf : r.fro = false) (hlo : lo + n + new.length ≤ r.es.length) (hroom : n + new.length ≤ c) :
    Good P w0 N ρ F a w (Builtin.append_ #[t, tx] ty #[v1, v2]) bb 0 br 0 (σ.setR b (some { r with es := r.es.take (lo + n) ++ (new ++ r.es.drop (lo + n + new.length)) })) (.refc b k lo (n + new.length) c) := by
  obtain ⟨c2, f, a2, rfl, hw, hc, hs⟩ := app_src he h hy hels hk' hpu
  obtain ⟨i, z, hi, hz, hsz, hbt, hzs⟩ := he.i
  obtain ⟨ad, p, rfl, hp, hnc, hcm, hlim, hnn, ha⟩ := hv.refc_inv
  have hr := run_app_room (P := P) (w := w) (ty := ty) he.t hi ad n c _ _ _ (by rw [hsz]; exact hs) hroom
  have hrow1 := (h.rw b r p hb hp).1
  have hres : ∀ {w' : World} {F' : Nat → Prop} {σ' : FS}, Rep ρ w0.V F' w' (.slice ad (n + new.length) c) (.refc b k lo (n + new.length) c) := fun {_ _ _} => .refc _ _ _ _ _ _ p hp hroom hcm hlim hnn ha
  by_cases h0 : new = []
  · subst h0
    have : r.es.take (lo + n) ++ (([] : List AV) ++ r.es.drop (lo + n + ([] : List AV).length)) = r.es := by simp
    rw [this, FS.setR_same (by rw [hb])]
    refine ⟨_, w, ρ, F, ?_, .refl _ _ _ _ _, h, hres (σ' := σ)⟩
    rw [hr]; cases ad <;> simp [storeCells]
  · have hpos : 0 < new.length := List.length_pos_iff.2 h0
    have had := ha (by omega)
    subst had
    have hwf := width_flat hrow1
    have hft := width_flat hw
    have hfit2 : (lo + n) * k + new.length * k ≤ r.es.length * r.k := by
      rw [hrk, ← Nat.add_mul]; exact Nat.mul_le_mul_right _ hlo
    have hpk : 0 < new.length * k := Nat.mul_pos hpos hk
    obtain ⟨w', e1, e2⟩ := write_row (P := P) h hb hp hf (o := (lo + n) * k) (news := (List.range (new.length * k)).map f) (avs := flat new) (by simp [hft]) (by intro e; rw [e] at hft; simp at hft; omega) (by rw [hft, hwf]; exact hfit2) (fun j u av g1 g2 => by
      rw [List.getElem?_map] at g1
      have hj := (List.getElem?_eq_some_iff.1 g2).1
      rw [hft] at hj
      rw [List.getElem?_range hj] at g1
      cases g1
      exact hc j av g2) hs.one (es' := r.es.take (lo + n) ++ (new ++ r.es.drop (lo + n + new.length))) (splice_width hrow1 (by rw [hrk]; exact hw)) (by rw [← hrk] at hw ⊢; exact splice_flat hrow1 hw (by omega))
    refine ⟨_, w', ρ, F, ?_, .refl _ _ _ _ _, e2, hres (σ' := σ)⟩
    rw [hr]
    simp only [hsz, add_lit]
    rw [show p.off + lo * k + n * k = p.off + (lo + n) * k by rw [Nat.add_mul]; omega]
    simp only [e1, Result.andThen_ok]
end

/-- Append of noughts where there is no room: a new row. -/
theorem run_append_grow_zeros (t tx ty e : TypeId) (i : TypeInfo) (z : Value) (ik kn : IntKind) (ht : P.underlying t = some (.slice e)) (htx : P.underlying tx = some (.int kn)) (hi : P.info? e = some i) (hz : i.zero = some z) (base : Option Addr) (sLen sCap : Nat) (olds : List Value)
    (hold : (Builtin.firstCells i.size sLen (.slice base sLen sCap)).run P w.drew = .ok olds.toArray w.drew) (m : Nat) (hm : m ≤ 1000000) (hs : sLen ≤ 1000000) (hb : i.bytes ≤ 1000000) (hsz : 0 < i.size)
    (hg : sCap < sLen + m) (hsc : sLen ≤ sCap) :
    (Builtin.append_ #[t, tx] ty #[.slice base sLen sCap, .int ik m]).run P w =
      .ok (.slice (some ⟨w.heap.size, 0, none⟩) (sLen + m) (grownCap w (sLen + m) sCap e))
        (w.drew.alloc (.cells ((olds ++ (Builtin.zeroCells z.cells m).toList).toArray ++ Builtin.zeroCells z.cells (grownCap w (sLen + m) sCap e - (sLen + m))) e)) := by
  have hn : ¬ (sLen + m ≤ sCap) := by omega
  have hw : IntKind.i64.wrap (m : Int) = m := by rw [IntKind.wrap_i64]; omega
  have h63' : ¬ (9223372036854775807 < ((sLen : Int) + (m : Int))) := by omega
  have h48' : ¬ (281474976710656 < Builtin.nextslicecap (sLen + m) sCap * i.bytes) := by
    have : Builtin.nextslicecap (sLen + m) sCap * i.bytes ≤ 281474976710656 := growslice_fits (by omega) (Nat.le_trans (Nat.mul_le_mul (show sLen + m ≤ 2000000 by omega) hb) (by decide))
    omega
  have h48i : ¬ (281474976710656 < (m : Int) * (i.bytes : Int)) := by
    have : m * i.bytes ≤ 1000000 * 1000000 := Nat.mul_le_mul hm hb
    have e : ((m * i.bytes : Nat) : Int) = (m : Int) * (i.bytes : Int) := by simp
    omega
  have hm0 : ¬ ((m : Int) < 0) := by omega
  have hns : ¬ (m * i.size = 0) := Nat.mul_ne_zero (by omega) (by omega)
  simp [Builtin.append_, run_underlying ht, run_underlying htx, sizeOf, typeInfo, zeroValue, hi, hz, asInt, asIntOf, hw, hm0, h48i, hn, h63', h48', hns, Question.forced, hold, newRow, grownCap]
  congr 2
  apply Array.ext'
  simp [List.append_assoc]
/-- .. and what becomes of the state. -/
theorem g_appz {t tx e ty : TypeId} {k : Nat} {kn ik : IntKind} {i : TypeInfo} {z : Value} (ht : P.underlying t = some (.slice e)) (htx : P.underlying tx = some (.int kn)) (hi : P.info? e = some i) (hz : i.zero = some z) (hsz : i.size = k) (hb : i.bytes ≤ 1000000) (hk : 0 < k) (hp : pureV (cst z) = true) (hl : (cst z).cells.length = k)
    (h : Sim w0 N ρ F σ a w) {bb br : Nat} (hbr : ρ.r br = none) {b lo n c m : Nat} {r : ARow} {v1 : Value} (hv : Rep ρ w0.V F w v1 (.refc b k lo n c)) (hb2 : σ.rw b = some r) (hrk : r.k = k) (hlo : lo + n ≤ r.es.length) (hn : n ≤ 1000000) (hm : m ≤ 1000000) (hg : c < n + m) :
    Good P w0 N ρ F a w (Builtin.append_ #[t, tx] ty #[v1, .int ik m]) bb 0 br 1 (σ.setR br (some ⟨false, k, (r.es.drop lo).take n ++ List.replicate m (cst z)⟩)) (.ref br k 0 (n + m)) := by
  obtain ⟨ad, p, rfl, hpp, hnc, hcm, hlim, hnn, ha⟩ := hv.refc_inv
  obtain ⟨ad', c', p', g, e1, hp', hra, hw1, hlen1, hc1⟩ := ref_row h hv.rf hb2 hrk hlo
  cases e1
  rw [hpp] at hp'; cases hp'
  have hzs : z.cells.size = k := by
    have := (okV_cells0 (cst_rep F w z) (pureV_ok hp)).1; omega
  have hold : (Builtin.firstCells i.size n (.slice ad n c)).run P w.drew = .ok ((List.range (n * k)).map g).toArray w.drew := by
    rw [hsz]
    cases ad with
    | none =>
      have h00 : n = 0 := by have := hnn rfl; omega
      subst h00
      simp [Builtin.firstCells]
    | some ad =>
      refine run_firstCells_some (P := P) w.drew k n ad n c _ (by simp) fun j u hu => ?_
      rw [List.getElem?_map] at hu
      by_cases hj : j < n * k
      · rw [List.getElem?_range hj] at hu
        cases hu
        exact hra.cell ad rfl j hj
      · rw [List.getElem?_eq_none (by simpa using hj)] at hu; cases hu
  have hr := run_append_grow_zeros (P := P) (w := w) (ty := ty) t tx e i z ik kn ht htx hi hz ad n c _ hold m hm hn hb (by omega) hg hnc
  have hge := grownCap_ge w (n + m) c e
  have hcm2 := grownCap_le_maxLen w (n + m) c e (by unfold maxLen; omega)
  have hw2 : ∀ x ∈ List.replicate m (cst z), x.cells.length = k := fun x hx => by rw [List.eq_of_mem_replicate hx]; exact hl
  have hfl1 := width_flat hw1
  rw [hlen1] at hfl1
  have q := new_row2 (k := k) (e := e) h hbr hzs (olds := (List.range (n * k)).map g) (news := (Builtin.zeroCells z.cells m).toList) hw1 hw2 (by rw [hlen1]; simp) (by simp [size_zeroCells, hzs])
    (fun j av hj => by
      have hjl := (List.getElem?_eq_some_iff.1 hj).1
      rw [hfl1] at hjl
      exact ⟨g j, by rw [List.getElem?_map, List.getElem?_range hjl]; rfl, hc1 j av hj⟩)
    (fun j av hj => by
      obtain ⟨hjl, u, e1, e2, e3⟩ := zero_rep hp hl F w m j av hj
      refine ⟨u, ?_, e2⟩
      have hmm := Array.getElem?_eq_some_iff.1 e1
      unfold Builtin.zeroCells
      rw [Array.getElem?_toList, Array.getElem?_map, Array.getElem?_range, hzs, if_pos hjl]
      simp only [Option.map_some]
      rw [getElem!_pos z.cells (j % k) hmm.1, hmm.2])
    (grownCap w (n + m) c e) (by rw [hlen1, List.length_replicate]; exact hge) hcm2
  rw [hlen1, List.length_replicate] at q
  exact ⟨_, _, _, F, hr, .newR hbr, q.1, q.2.1⟩
end
end Go.Proofs.Ytjacmhaeemhinaa
