/- That the operations on abstract values are the program's: those that change no memory. -/
import Derived.Test.YtjacmhaeemhinaaAx1
import Derived.Laws.Slices
namespace Go.Proofs.Ytjacmhaeemhinaa
open Go.RowKit
set_option linter.unusedVariables false

section
variable {P : Program} {ρ : Env} {B : Nat → Prop} {F : Nat → Prop} {w : World}

def aggOf (P : Program) (t : TypeId) : Option Bool := (P.underlying t).map fun | .struct _ => true | .array _ _ => true | _ => false
def szOf (P : Program) (t : TypeId) : Option Nat := (P.info? t).map (·.size)
theorem run_isAgg' {t : TypeId} {b : Bool} (h : aggOf P t = some b) (w : World) : (isAgg t).run P w = .ok b w := by
  unfold aggOf at h
  cases hu : P.underlying t with
  | none => simp [hu] at h
  | some d =>
    rw [hu] at h
    simp only [Option.map_some, Option.some.injEq] at h
    subst h
    unfold isAgg
    simp only [Sem.run_bind, run_underlying hu, Result.andThen_ok]
    cases d <;> rfl
theorem run_sizeOf' {t : TypeId} {n : Nat} (h : szOf P t = some n) (w : World) : (sizeOf t).run P w = .ok n w := by
  unfold szOf at h
  cases hu : P.info? t with
  | none => simp [hu] at h
  | some d => simp [hu] at h; simp [sizeOf, typeInfo, hu, h]

theorem scal_one {v : Value} {av : AV} (h : Rep ρ B F w v av) (hs : scal av = true) : v.oneCell' = true ∧ v.cells = #[v] := by
  cases h with
  | pure _ _ h =>
    cases h with
    | raw v =>
      simp only [scal] at hs
      exact ⟨hs, by cases v <;> first | rfl | (simp [Value.oneCell'] at hs)⟩
    | agg => simp [scal] at hs
    | _ => constructor <;> rfl
  | any | agg | tup | cnd | batt | ratt => simp [scal] at hs
  | _ => constructor <;> rfl
theorem pureC_scal {av : AV} (h : pureC av = true) : scal av = true := by
  cases av <;> first | rfl | (simp [pureC] at h; done) | (simpa [pureC, scal] using h)
theorem scal_cells {av : AV} (h : scal av = true) : av.cells = [av] := by
  cases av <;> first | rfl | (simp [scal] at h)
/-- The cells of a value of a known form. -/
theorem okV_cells {v : Value} {av : AV} (h : Rep ρ B F w v av) (hs : okV av = true) : v.cells.size = av.cells.length ∧ (∀ (i : Nat) (u : Value) (x : AV), v.cells[i]? = some u → av.cells[i]? = some x → Rep ρ B F w u x) ∧ (∀ u ∈ v.cells.toList, u.oneCell' = true) := by
  by_cases ha : ∃ l, av = .agg l
  · obtain ⟨l, rfl⟩ := ha
    obtain ⟨cs, rfl, hl, hc⟩ := h.agg_inv
    refine ⟨hl, hc, fun u hu => ?_⟩
    obtain ⟨i, hi, e⟩ := List.getElem_of_mem hu
    have hi' : i < cs.size := by simpa [Value.cells] using hi
    have e1 : cs[i]? = some u := by rw [Array.getElem?_eq_getElem hi']; simpa [Value.cells] using e
    have e2 : l[i]? = some (l[i]'(by omega)) := List.getElem?_eq_getElem (by omega)
    simp only [okV, List.all_eq_true] at hs
    exact (scal_one (hc i _ _ e1 e2) (hs _ (List.getElem_mem _))).1
  · have hs' : scal av = true := by cases av <;> first | exact hs | (exact absurd ⟨_, rfl⟩ ha)
    obtain ⟨h1, h2⟩ := scal_one h hs'
    rw [h2, scal_cells hs']
    refine ⟨rfl, fun i u x e1 e2 => ?_, fun u hu => ?_⟩
    · cases i with
      | zero => simp at e1 e2; subst e1 e2; exact h
      | succ i => simp at e2
    · simp at hu; subst hu; exact h1
theorem okV_of_scal {av : AV} (h : scal av = true) : okV av = true := by cases av <;> first | exact h | (simp [scal] at h)
theorem pureV_ok {av : AV} (h : pureV av = true) : okV av = true := by
  cases av with
  | agg l =>
    simp only [pureV, okV, List.all_eq_true] at h ⊢
    exact fun x hx => pureC_scal (h x hx)
  | _ => simp only [pureV] at h; simp only [okV]; exact pureC_scal h

/-- A load of cells. -/
theorem load_cells {agg : Bool} {n : Nat} {t : TypeId} (hagg : aggOf P t = some agg) (hsz : szOf P t = some n) (ad : Addr) (cs : List AV) (f : Nat → Value) (hsp : ad.spot = none)
    (hcell : ∀ i, i < cs.length → w.cell? (ad.add i) = some (f i)) (h : ∀ (i : Nat) (av : AV), cs[i]? = some av → Rep ρ B F w (f i) av) (hok : (loadC agg n cs).ok) :
    ∃ v, (Instr.loadAt t (.pointer (some ad))).run P w = .ok v w ∧ Rep ρ B F w v (loadC agg n cs).av := by
  unfold Instr.loadAt Instr.sureAddr loadVar
  simp only [Sem.run_bind, Sem.run_pure, Result.andThen_ok, run_isAgg' hagg]
  cases agg
  · simp only [loadC, Bool.false_eq_true, if_false] at hok ⊢
    have h0 := hcell 0 (by omega)
    rw [show ad.add 0 = ad by simp [Addr.add]] at h0
    refine ⟨f 0, by simp [h0], ?_⟩
    cases cs with
    | nil => simp at hok
    | cons c cs => exact h 0 c rfl
  · simp only [loadC, if_true] at hok ⊢
    simp only [Sem.run_bind, run_sizeOf' hsz, Result.andThen_ok, run_loadCells w ad n f (fun j hj => hcell j (by omega)), Sem.run_pure]
    refine ⟨_, rfl, .agg _ _ (by simp; omega) fun i u av e1 e2 => ?_⟩
    rw [List.getElem?_take] at e2
    split at e2
    · rename_i hi
      simp [hi] at e1
      subst e1
      exact h i av e2
    · cases e2
end
end Go.Proofs.Ytjacmhaeemhinaa
