/- That the operations on abstract values are the program's: literals, append, copy, clear, make. -/
import Derived.Test.YtiejnmbpejfpgaaAx8
import Derived.Laws.Tables
import Derived.Laws.MakeOwn
import Derived.Deep.AppendSrc
namespace Go.Proofs.Ytiejnmbpejfpgaa
open Go.RowKit
set_option linter.unusedVariables false

/-! ### Parts laid into cells -/
theorem setAll_get (off : Nat) : ∀ (l : List Value) (k : Nat) (cells : Array Value), off + k + l.length ≤ cells.size →
    ((l.zipIdx k).foldl (fun cs (p : Value × Nat) => cs.setIfInBounds (off + p.2) p.1) cells).size = cells.size ∧ ∀ i : Nat, ((l.zipIdx k).foldl (fun cs (p : Value × Nat) => cs.setIfInBounds (off + p.2) p.1) cells)[i]? = if off + k ≤ i ∧ i < off + k + l.length then l[i - (off + k)]? else cells[i]?
  | [], k, cells, _ => ⟨rfl, fun i => by rw [if_neg (by simp only [List.length_nil]; omega)]; rfl⟩
  | v :: l, k, cells, h => by
    simp only [List.length_cons] at h
    obtain ⟨h1, h2⟩ := setAll_get off l (k + 1) (cells.setIfInBounds (off + k) v) (by simp; omega)
    simp only [List.zipIdx_cons, List.foldl_cons]
    refine ⟨by rw [h1]; simp, fun i => ?_⟩
    rw [h2]
    by_cases hi : i = off + k
    · subst hi
      rw [if_neg (by omega), if_pos (by simp)]
      simp [show off + k < cells.size by omega]
    · by_cases h3 : off + (k + 1) ≤ i ∧ i < off + (k + 1) + l.length
      · rw [if_pos h3, if_pos (by simp; omega), show i - (off + k) = (i - (off + (k + 1))) + 1 by omega]; rfl
      · rw [if_neg h3, if_neg (by simp; omega), Array.getElem?_setIfInBounds_ne (by omega)]
theorem fill_cons (place : Nat → Option (Nat × Nat)) (cells : Array Value) (i off n : Nat) (v : Value) (rest : List (Nat × Value)) (hp : place i = some (off, n)) (hv : v.cells.size = n) (hfit : off + n ≤ cells.size) :
    ∃ cells', Instr.fill place cells ((i, v) :: rest) = Instr.fill place cells' rest ∧ cells'.size = cells.size ∧ ∀ j : Nat, cells'[j]? = if off ≤ j ∧ j < off + n then v.cells[j - off]? else cells[j]? := by
  obtain ⟨h1, h2⟩ := setAll_get off v.cells.toList 0 cells (by simp; omega)
  refine ⟨v.cells.zipIdx.foldl (fun cs p => cs.setIfInBounds (off + p.2) p.1) cells, ?_, ?_, ?_⟩
  · simp only [Instr.fill, hp]
    rw [if_neg (by simp; omega)]
  · rw [← Array.foldl_toList, Array.toList_zipIdx]; exact h1
  · intro j
    rw [← Array.foldl_toList, Array.toList_zipIdx, h2 j]
    simp only [Nat.add_zero, Array.length_toList, hv, Array.getElem?_toList]

section
variable {P : Program} {ρ : Env} {B : Nat → Prop} {F : Nat → Prop} {w : World}
theorem fill_rep (place : Nat → Option (Nat × Nat)) (look : Opd → AV) : ∀ (ps : List (Nat × Value)) (qs : List (Nat × Nat × Opd)) (cells : Array Value) (l : List AV), cells.size = l.length → (∀ (i : Nat) (u : Value) (av : AV), cells[i]? = some u → l[i]? = some av → Rep ρ B F w u av) → ps.length = qs.length →
    (∀ (i : Nat) (p : Nat × Value) (q : Nat × Nat × Opd), ps[i]? = some p → qs[i]? = some q → place p.1 = some (q.1, q.2.1) ∧ Rep ρ B F w p.2 (look q.2.2)) → fillC look l.length qs →
    ∃ cells', Instr.fill place cells ps = some cells' ∧ cells'.size = l.length ∧ (fillV look l qs).length = l.length ∧ ∀ (i : Nat) (u : Value) (av : AV), cells'[i]? = some u → (fillV look l qs)[i]? = some av → Rep ρ B F w u av
  | [], [], cells, l, hl, hr, _, _, _ => ⟨cells, rfl, hl, rfl, hr⟩
  | [], q :: qs, _, _, _, _, h, _, _ => by simp at h
  | p :: ps, [], _, _, _, _, h, _, _ => by simp at h
  | (i, v) :: ps, (off, n, x) :: qs, cells, l, hl, hr, hlen, hpq, hc => by
    obtain ⟨⟨c1, c2, c3, c4⟩, c5⟩ := hc
    obtain ⟨p1, p2⟩ := hpq 0 _ _ rfl rfl
    have p3 := p2.val c1
    obtain ⟨o1, o2, o3⟩ := okV_cells p3 c2
    dsimp only at p1 p2 p3 o1 o2 o3
    obtain ⟨cells', e1, e2, e3⟩ := fill_cons place cells i off n v ps p1 (by omega) (by omega)
    have hfit : off + (look x).val.cells.length ≤ l.length := by omega
    have hput := put_length (l := l) (new := (look x).val.cells) (off := off) hfit
    obtain ⟨r1, r2, r3, r4, r5⟩ := fill_rep place look ps qs cells' (putCells l off (look x).val.cells) (by omega) (fun j u av g1 g2 => by
      rw [e3] at g1; rw [put_get hfit] at g2
      rw [c3] at g2
      split at g1
      · rename_i hj; rw [if_pos hj] at g2; exact o2 _ u av g1 g2
      · rename_i hj; rw [if_neg hj] at g2; exact hr j u av g1 g2) (by simpa using hlen) (fun j p q g1 g2 => hpq (j + 1) p q (by simpa using g1) (by simpa using g2)) (by rw [hput]; exact c5)
    exact ⟨r1, by rw [e1]; exact r2, by omega, by rw [fillV]; omega, by rw [fillV]; exact r5⟩

def placesOf (P : Program) (t : TypeId) : Option (Nat → Option (Nat × Nat)) :=
  match P.underlying t with
  | some (.array _ e) => (P.info? e).map fun ie => fun i => some (i * ie.size, ie.size)
  | some (.struct fields) => (fields.toList.mapM (fun f => (P.info? f.type).map fun i => (f.offset, i.size))).map fun places => (places.toArray[·]?)
  | _ => none
def zeroOf (P : Program) (t : TypeId) : Option Value := (P.info? t).bind (·.zero)
theorem v_build {t : TypeId} {z : Value} {place : Nat → Option (Nat × Nat)} (hz : zeroOf P t = some z) (hp : placesOf P t = some place) (look : Opd → AV) (parts : Array (Nat × Value)) (qs : List (Nat × Nat × Opd)) (hlen : parts.size = qs.length) (hs : (cst z).cells.all scal = true)
    (hpq : ∀ (i : Nat) (p : Nat × Value) (q : Nat × Nat × Opd), parts[i]? = some p → qs[i]? = some q → place p.1 = some (q.1, q.2.1) ∧ Rep ρ B F w p.2 (look q.2.2)) (hc : fillC look (cst z).cells.length qs) :
    GV P ρ B F w (Instr.build t parts) (.agg (fillV look (cst z).cells qs)) := by
  have hok : okV (cst z) = true := by
    cases hcz : cst z with
    | agg l => rw [hcz] at hs; exact hs
    | _ => rw [hcz] at hs; simpa [AV.cells, okV] using hs
  obtain ⟨o1, o2, o3⟩ := okV_cells (.pure _ _ (cst_rep F w z) : Rep ρ B F w z (cst z)) hok
  obtain ⟨cells', e1, e2, e3, e4⟩ := fill_rep place look parts.toList qs z.cells (cst z).cells o1 o2 (by simpa using hlen) (fun i p q g1 g2 => hpq i p q (by simpa using g1) g2) hc
  refine ⟨.agg cells', run_build w t parts cells' ?_, .agg _ _ (by omega) e4⟩
  unfold zeroOf at hz
  unfold placesOf at hp
  unfold Program.built
  cases hi : P.info? t with
  | none => rw [hi] at hz; cases hz
  | some it =>
    rw [hi] at hz
    cases hu : P.underlying t with
    | none => rw [hu] at hp; cases hp
    | some d =>
      rw [hu] at hp
      cases d <;> try (simp at hp; done)
      case array n e =>
        simp only [Option.map_eq_some_iff] at hp
        obtain ⟨ie, h1, rfl⟩ := hp
        simp only [Option.bind_some] at hz
        simp only [hz, h1]; exact e1
      case struct fields =>
        simp only [Option.map_eq_some_iff] at hp
        obtain ⟨places, h1, rfl⟩ := hp
        simp only [Option.bind_some] at hz
        simp only [hz, h1]; exact e1
/-- Elements in order, laid one behind the other. -/
theorem fill_seq (k : Nat) : ∀ (vs : List Value) (j : Nat) (cells : Array Value), (∀ v ∈ vs, v.cells.size = k) → (j + vs.length) * k ≤ cells.size →
    ∃ cells', Instr.fill (fun i => some (i * k, k)) cells ((List.range' j vs.length).zip vs) = some cells' ∧ cells'.size = cells.size ∧ ∀ i : Nat, cells'[i]? = if j * k ≤ i ∧ i < (j + vs.length) * k then (vs.flatMap fun v => v.cells.toList)[i - j * k]? else cells[i]?
  | [], j, cells, _, _ => ⟨cells, rfl, rfl, fun i => by rw [if_neg (by simp)]⟩
  | v :: vs, j, cells, hv, hfit => by
    simp only [List.length_cons] at hfit
    have hv0 := hv v (List.mem_cons_self ..)
    have h1 : (j + (vs.length + 1)) * k = (j + 1 + vs.length) * k := by congr 1; omega
    have h2 : (j + 1) * k = j * k + k := by rw [Nat.add_mul]; omega
    have h3 : (j + 1) * k ≤ (j + 1 + vs.length) * k := Nat.mul_le_mul_right k (by omega)
    obtain ⟨c1, e1, e2, e3⟩ := fill_cons (fun i => some (i * k, k)) cells j (j * k) k v ((List.range' (j + 1) vs.length).zip vs) rfl hv0 (by omega)
    obtain ⟨c2, f1, f2, f3⟩ := fill_seq k vs (j + 1) c1 (fun x hx => hv x (List.mem_cons_of_mem _ hx)) (by omega)
    refine ⟨c2, ?_, by omega, fun i => ?_⟩
    · simp only [List.length_cons, List.range'_succ, List.zip_cons_cons]
      rw [e1]; exact f1
    · rw [f3, e3]
      simp only [List.length_cons, List.flatMap_cons]
      have hl0 : v.cells.toList.length = k := by simpa using hv0
      by_cases q1 : (j + 1) * k ≤ i ∧ i < (j + 1 + vs.length) * k
      · rw [if_pos q1, if_pos (by omega), List.getElem?_append_right (by omega), hl0]
        congr 1; omega
      · rw [if_neg q1]
        by_cases q2 : j * k ≤ i ∧ i < j * k + k
        · rw [if_pos q2, if_pos (by omega), List.getElem?_append_left (by omega), Array.getElem?_toList]
        · rw [if_neg q2, if_neg (by omega)]
end

section
variable {P : Program} {w0 : Base} {N : Nat} {ρ : Env} {F : Nat → Prop} {σ : FS} {a : Act} {w : World}

theorem okV_cells0 {w : World} {F : Nat → Prop} {v : Value} {av : AV} (h : Rep0 F w v av) (hs : okV av = true) : v.cells.size = av.cells.length ∧ ∀ (i : Nat) (u : Value) (x : AV), v.cells[i]? = some u → av.cells[i]? = some x → Rep0 F w u x := by
  have hp := okV_cells (ρ := Env.none) (B := V0) (.pure _ _ h) hs
  refine ⟨hp.1, ?_⟩
  by_cases ha : ∃ l, av = .agg l
  · obtain ⟨l, rfl⟩ := ha
    cases h with | agg cs l hl hc => exact hc
  · have hs' : scal av = true := by cases av <;> first | exact hs | (exact absurd ⟨_, rfl⟩ ha)
    obtain ⟨h1, h2⟩ := scal_one (ρ := Env.none) (B := V0) (.pure _ _ h) hs'
    rw [h2, scal_cells hs']
    intro i u x e1 e2
    cases i with
    | zero => simp at e1 e2; subst e1 e2; exact h
    | succ i => simp at e2
theorem flat_reps {w : World} {F : Nat → Prop} : ∀ {vs : List Value} {es : List AV}, vs.length = es.length → (∀ (i : Nat) (u : Value) (e : AV), vs[i]? = some u → es[i]? = some e → Rep0 F w u e ∧ okV e = true) → ∀ (i : Nat) (av : AV), (flat es)[i]? = some av → ∃ u, (vs.flatMap fun v => v.cells.toList)[i]? = some u ∧ Rep0 F w u av
  | [], [], _, _, i, av, h => by simp [flat] at h
  | [], e :: es, hl, _, _, _, _ => by simp at hl
  | v :: vs, [], hl, _, _, _, _ => by simp at hl
  | v :: vs, e :: es, hl, hr, i, av, h => by
    obtain ⟨h1, h2⟩ := hr 0 v e rfl rfl
    obtain ⟨h3, h4⟩ := okV_cells0 h1 h2
    simp only [flat, List.flatMap_cons] at h ⊢
    by_cases hi : i < e.cells.length
    · rw [List.getElem?_append_left hi] at h
      rw [List.getElem?_append_left (by simp; omega), Array.getElem?_toList]
      have e1 : v.cells[i]? = some (v.cells[i]'(by omega)) := Array.getElem?_eq_getElem (by omega)
      exact ⟨_, e1, h4 i _ _ e1 h⟩
    · rw [List.getElem?_append_right (by omega)] at h
      rw [List.getElem?_append_right (by simp; omega)]
      obtain ⟨u, q1, q2⟩ := flat_reps (vs := vs) (es := es) (by simpa using hl) (fun j u x g1 g2 => hr (j + 1) u x (by simpa using g1) (by simpa using g2)) (i - e.cells.length) av h
      exact ⟨u, by simpa [h3] using q1, q2⟩

theorem frzV_ok {rw : Nat → Option ARow} {av av' : AV} (hok : okV av = true) (he : frzV rw av = some av') : okV av' = true ∧ av'.cells.length = av.cells.length ∧ pureV av' = true := by
  have hC : ∀ {x x' : AV}, scal x = true → frzC rw x = some x' → scal x' = true ∧ pureC x' = true := fun {x x'} hs he => by
    by_cases hr : ∃ b k lo n, x = .ref b k lo n
    · obtain ⟨b, k, lo, n, rfl⟩ := hr
      simp only [frzC] at he
      split at he
      · split at he
        · cases he; exact ⟨rfl, rfl⟩
        · cases he
      · cases he
    · have he' : (if pureC x then some x else none) = some x' := by
        cases x <;> first | exact he | exact absurd ⟨_, _, _, _, rfl⟩ hr
      split at he'
      · rename_i hp; cases he'; exact ⟨hs, hp⟩
      · cases he'
  by_cases ha : ∃ l, av = .agg l
  · obtain ⟨l, rfl⟩ := ha
    simp only [frzV, Option.map_eq_some_iff] at he
    obtain ⟨l', he, rfl⟩ := he
    obtain ⟨hlen, hget⟩ := mapM_get he
    simp only [okV, List.all_eq_true] at hok
    have hall : ∀ x ∈ l', scal x = true ∧ pureC x = true := fun x hx => by
      obtain ⟨i, hi, e⟩ := List.getElem_of_mem hx
      have e1 : l'[i]? = some x := by rw [List.getElem?_eq_getElem hi, e]
      have e2 : l[i]? = some (l[i]'(by omega)) := List.getElem?_eq_getElem (by omega)
      exact hC (hok _ (List.getElem_mem _)) (hget i _ _ e2 e1)
    exact ⟨by simp only [okV, List.all_eq_true]; exact fun x hx => (hall x hx).1, hlen, by simp only [pureV, List.all_eq_true]; exact fun x hx => (hall x hx).2⟩
  · have hs : scal av = true := by cases av <;> first | exact hok | exact absurd ⟨_, rfl⟩ ha
    have he' : frzC rw av = some av' := by
      cases av <;> first | exact he | exact absurd ⟨_, rfl⟩ ha
    obtain ⟨h1, h2⟩ := hC hs he'
    refine ⟨okV_of_scal h1, by rw [scal_cells h1, scal_cells hs]; rfl, ?_⟩
    cases av' <;> first | exact h2 | (simp [scal] at h1)

theorem ups_app (τ : FS) (l l' : List Upd) : τ.ups (l ++ l') = (τ.ups l).ups l' := by simp [FS.ups]
/-- A slice of elements that are told one by one. -/
theorem g_bsl {t e : TypeId} {k : Nat} (ht : P.underlying t = some (.slice e)) (hsz : szOf P e = some k) {z : Value} (hz : zeroOf P e = some z) (h : Sim w0 N ρ F σ a w) {bb br : Nat} (hb : ρ.r br = none) {parts : Array (Nat × Value)} {vs : List Value} (hps : parts.toList = (List.range' 0 vs.length).zip vs) (hsmall : vs.length * k ≤ 16777216) (hmax : vs.length ≤ maxLen)
    {avs es : List AV} (hl : vs.length = avs.length) (hr : ∀ (i : Nat) (u : Value) (x : AV), vs[i]? = some u → avs[i]? = some x → Rep ρ w0.V F w u x) (hes : avs.mapM (frzV σ.rw) = some es) (hok : ∀ x ∈ avs, okV x = true ∧ x.cells.length = k) (hk : 0 < k) :
    Good P w0 N ρ F a w (Instr.buildSlice t vs.length parts) bb 0 br 1 (σ.ups (frzUp σ.rw (avs.flatMap frzIds) ++ [.R br (some ⟨false, k, es⟩)])) (.ref br k 0 es.length) := by
  obtain ⟨hlen, hget⟩ := mapM_get hes
  have hids : ∀ b ∈ avs.flatMap frzIds, ∃ r p, σ.rw b = some r ∧ ρ.r b = some p := fun b hb => by
    obtain ⟨x, hx, hbx⟩ := List.mem_flatMap.1 hb
    obtain ⟨i, hi, e1⟩ := List.getElem_of_mem hx
    have e2 : avs[i]? = some x := by rw [List.getElem?_eq_getElem hi, e1]
    have e3 : vs[i]? = some (vs[i]'(by omega)) := List.getElem?_eq_getElem (by omega)
    have hri := hr i _ _ e3 e2
    have e4 : es[i]? = some (es[i]'(by omega)) := List.getElem?_eq_getElem (by omega)
    have hfz := hget i _ _ e2 e4
    have one : ∀ (u : Value) (y y' : AV), Rep ρ w0.V F w u y → frzC σ.rw y = some y' → (∃ k lo n, y = .ref b k lo n) → ∃ r p, σ.rw b = some r ∧ ρ.r b = some p := by
      rintro u y y' h1 h2 ⟨k, lo, n, rfl⟩
      simp only [frzC] at h2
      split at h2
      · rename_i r hrr
        obtain ⟨_, _, p, _, hp, _⟩ := h1.ref_inv
        exact ⟨r, p, hrr, hp⟩
      · cases h2
    by_cases ha : ∃ l, x = .agg l
    · obtain ⟨l, rfl⟩ := ha
      simp only [frzIds, List.mem_flatMap] at hbx
      obtain ⟨y, hy, hby⟩ := hbx
      obtain ⟨cs, hcs, hl2, hc⟩ := hri.agg_inv
      simp only [frzV, Option.map_eq_some_iff] at hfz
      obtain ⟨l', he, _⟩ := hfz
      obtain ⟨hlen', hget'⟩ := mapM_get he
      obtain ⟨j, hj, e5⟩ := List.getElem_of_mem hy
      have e6 : l[j]? = some y := by rw [List.getElem?_eq_getElem hj, e5]
      have e7 : cs[j]? = some (cs[j]'(by omega)) := Array.getElem?_eq_getElem (by omega)
      have e8 : l'[j]? = some (l'[j]'(by omega)) := List.getElem?_eq_getElem (by omega)
      refine one _ y _ (hc j _ _ e7 e6) (hget' j _ _ e6 e8) ?_
      cases y <;> simp at hby
      subst hby; exact ⟨_, _, _, rfl⟩
    · refine one _ x _ hri (by cases x <;> first | exact hfz | exact absurd ⟨_, rfl⟩ ha) ?_
      cases x <;> simp [frzIds] at hbx
      · subst hbx; exact ⟨_, _, _, rfl⟩
      · exact absurd ⟨_, rfl⟩ ha
  obtain ⟨F', f1, f2, f3, f4, f5, f6⟩ := freeze_all σ.rw (avs.flatMap frzIds) F σ h (fun b r e => .inl e) hids
  have hesok : ∀ x ∈ es, okV x = true ∧ x.cells.length = k := fun x hx => by
    obtain ⟨i, hi, e1⟩ := List.getElem_of_mem hx
    have e2 : es[i]? = some x := by rw [List.getElem?_eq_getElem hi, e1]
    have e3 : avs[i]? = some (avs[i]'(by omega)) := List.getElem?_eq_getElem (by omega)
    have h1 := hok _ (List.getElem_mem (h := by omega) : avs[i]'(by omega) ∈ avs)
    obtain ⟨g1, g2, _⟩ := frzV_ok h1.1 (hget i _ _ e3 e2)
    exact ⟨g1, by rw [g2]; exact h1.2⟩
  have hvs : ∀ v ∈ vs, v.cells.size = k := fun v hv => by
    obtain ⟨i, hi, e1⟩ := List.getElem_of_mem hv
    have e2 : vs[i]? = some v := by rw [List.getElem?_eq_getElem hi, e1]
    have e3 : avs[i]? = some (avs[i]'(by omega)) := List.getElem?_eq_getElem (by omega)
    have h1 := hok _ (List.getElem_mem (h := by omega) : avs[i]'(by omega) ∈ avs)
    rw [(okV_cells (hr i _ _ e2 e3) h1.1).1]; exact h1.2
  let Z : Array Value := (Array.range (vs.length * k)).map (fun i => (if vs.length * k = 0 then #[] else z.cells)[i % (if vs.length * k = 0 then #[] else z.cells).size]!)
  obtain ⟨cells', e1, e2, e3⟩ := fill_seq k vs 0 Z hvs (by simp [Z])
  have hZ : Z.size = vs.length * k := by simp [Z]
  have hrun : (Instr.buildSlice t vs.length parts).run P w = .ok (.slice (some ⟨w.heap.size, 0, none⟩) vs.length vs.length) (w.alloc (.cells cells' e)) := by
    have hfill : Instr.fill (fun i => some (i * k, k)) Z parts.toList = some cells' := by rw [hps]; exact e1
    unfold zeroOf at hz
    cases hi : P.info? e with
    | none => rw [hi] at hz; cases hz
    | some it =>
      rw [hi] at hz
      simp only [Option.bind_some] at hz
      unfold Instr.buildSlice
      simp only [Sem.run_bind, run_underlying ht, Result.andThen_ok, run_sizeOf' hsz]
      rw [if_neg (by omega)]
      by_cases h0 : vs.length * k = 0
      · have hz0 : Z = #[] := Array.eq_empty_of_size_eq_zero (by omega)
        rw [hz0] at hfill
        simp only [h0, if_true]
        simp [Array.range_zero', hfill, Go.newRow]
      · have hfill' : Instr.fill (fun i => some (i * k, k)) ((Array.range (vs.length * k)).map (fun i => z.cells[i % z.cells.size]!)) parts.toList = some cells' := by simpa [Z, h0] using hfill
        simp [h0, zeroValue, typeInfo, hi, hz, hfill', Go.newRow]
  have hbel : Below w.heap.size w (w.alloc (.cells cells' e)) := (Below.refl _ _).alloc (Nat.le_refl _) _
  have hreps : ∀ (i : Nat) (av : AV), (flat es)[i]? = some av → ∃ u, cells'[i]? = some u ∧ Rep0 F' w u av := fun i av g => by
    obtain ⟨u, q1, q2⟩ := flat_reps (w := w) (F := F') (vs := vs) (es := es) (by omega) (fun j u x g1 g2 => by
      have e3 : avs[j]? = some (avs[j]'(by have := (List.getElem?_eq_some_iff.1 g2).1; omega)) := List.getElem?_eq_getElem _
      refine ⟨frzV_rep h (hr j _ _ g1 e3) (hget j _ _ e3 g2) f1 (fun b hb p hp hl => f3 b (List.mem_flatMap.2 ⟨_, List.mem_of_getElem? e3, hb⟩) p hp hl), (hesok x (List.mem_of_getElem? g2)).1⟩) i av g
    refine ⟨u, ?_, q2⟩
    rw [e3, if_pos ?_]
    · simpa using q1
    · have := (List.getElem?_eq_some_iff.1 g).1
      rw [width_flat (fun x hx => (hesok x hx).2)] at this
      rw [hlen, ← hl] at this
      simpa using this
  have hrow := rowOk_new (k := k) (c := vs.length) f4 hbel (heap_alloc_new w _) (fun x hx => (hesok x hx).2) (by omega) (by omega) hreps
  refine ⟨_, _, ρ.addR br ⟨w.heap.size, 0, vs.length * k⟩, F', hrun, ?_, ?_, ?_⟩
  · have := Grown.newR (B := w0.V) (F := F') (bb := bb) (p := ⟨w.heap.size, 0, vs.length * k⟩) hb
    exact ⟨this.le, this.b, this.r, f1, f2⟩
  · rw [ups_app]
    exact f4.newRow hb hbel (fun _ => ⟨by simp, Nat.le_refl _⟩) hrow
  · rw [hlen, ← hl]
    exact .ref _ _ _ _ _ _ ⟨w.heap.size, 0, vs.length * k⟩ (by simp [Env.addR]) (Nat.le_refl _) hmax (by simp) (by simp) (fun _ => by simp)
end
end Go.Proofs.Ytiejnmbpejfpgaa
