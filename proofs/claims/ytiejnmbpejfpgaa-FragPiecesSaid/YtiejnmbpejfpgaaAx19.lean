/- What an operation hangs on. -/
import Derived.Test.YtiejnmbpejfpgaaAx18
namespace Go.Proofs.Ytiejnmbpejfpgaa
open Go.RowKit
set_option linter.unusedVariables false

def oo : Option Opd → List Opd
  | none => []
  | some x => [x]
def opds : AI → List Opd
  | .mv x | .mvS x | .mvL x | .isN _ x | .box x | .boxa x | .load _ _ x | .fadr _ x | .fld _ _ _ x | .ext x _ | .conv _ x | .b2s x | .s2b x | .not x | .neg x | .com x | .nchk x | .lenV x | .capV x | .lenT x | .clr _ _ x => [x]
  | .no | .newb _ | .newa _ | .lenC _ => []
  | .pick a b c => [a, b, c]
  | .build _ ps => ps.map (·.2.2)
  | .bsl _ xs | .min xs | .max xs | .mkf _ xs | .call _ xs => xs
  | .callv x xs => x :: xs
  | .store _ a x | .iadS _ a x | .iadA _ _ a x | .idxA _ _ _ a x | .idxT a x | .bin _ a x | .binB _ a x | .binT _ a x | .eqA _ _ a x | .mks _ _ _ a x | .app _ _ a x | .appz _ _ _ a x | .cpy _ a x => [a, x]
  | .slS _ x lo hi mx => x :: (oo lo ++ (oo hi ++ oo mx))
  | .slA _ x lo hi | .slT x lo hi => x :: (oo lo ++ oo hi)

theorem bnd_congr {L L' : Opd → AV} {d : Int} {x : Option Opd} (h : ∀ y ∈ oo x, L' y = L y) : bnd d L' x = bnd d L x ∧ bndc L' x = bndc L x := by
  cases x with
  | none => exact ⟨rfl, rfl⟩
  | some y => have := h y (by simp [oo]); simp [bnd, bndc, this]
theorem fill_congr {L L' : Opd → AV} : ∀ (ps : List (Nat × Nat × Opd)) (cells : List AV) (m : Nat), (∀ y ∈ ps.map (·.2.2), L' y = L y) → fillV L' cells ps = fillV L cells ps ∧ fillC L' m ps = fillC L m ps
  | [], _, _, _ => ⟨rfl, rfl⟩
  | (off, n, x) :: ps, cells, m, h => by
    have h1 : L' x = L x := h x (by simp)
    obtain ⟨h2, h3⟩ := fill_congr ps (putCells cells off (L x).val.cells) m fun y hy => h y (by simp at hy ⊢; exact .inr hy)
    simp only [fillV, fillC, h1, h2, h3, and_self]
theorem map_congr' {β : Type} {L L' : Opd → AV} (f : AV → β) {xs : List Opd} (h : ∀ y ∈ xs, L' y = L y) : xs.map (fun x => f (L' x)) = xs.map (fun x => f (L x)) := List.map_congr_left fun x hx => by rw [h x hx]
theorem mapM_congr' {β : Type} {L L' : Opd → AV} (f : AV → Option β) : ∀ {xs : List Opd}, (∀ y ∈ xs, L' y = L y) → xs.mapM (fun x => f (L' x)) = xs.mapM (fun x => f (L x))
  | [], _ => rfl
  | x :: xs, h => by simp only [List.mapM_cons, h x (List.mem_cons_self ..), mapM_congr' f (xs := xs) fun y hy => h y (List.mem_cons_of_mem _ hy)]
theorem all_congr {L L' : Opd → AV} (p : AV → Prop) {xs : List Opd} (h : ∀ y ∈ xs, L' y = L y) : (∀ x ∈ xs, p (L' x)) = (∀ x ∈ xs, p (L x)) := by
  apply propext
  exact ⟨fun q x hx => by rw [← h x hx]; exact q x hx, fun q x hx => by rw [h x hx]; exact q x hx⟩

theorem aistep_congr {bo : Bool} {L L' : Opd → AV} {bx : Nat → Option (List AV)} {rw : Nat → Option ARow} {bb br : Nat} {ai : AI} (h : ∀ x ∈ opds ai, L' x = L x) : aistep bo L' bx rw bb br ai = aistep bo L bx rw bb br ai := by
  cases ai with
  | build zero ps =>
    obtain ⟨h1, h2⟩ := fill_congr ps zero zero.length h
    simp only [aistep, h1, h2]
  | bsl k xs =>
    have h : ∀ x ∈ xs, L' x = L x := h
    have h1 := mapM_congr' (fun v => frzV rw v.val) h
    have h2 : (xs.flatMap fun x => frzIds (L' x).val) = xs.flatMap fun x => frzIds (L x).val := by
      simp only [← List.flatMap_map (f := fun x => (L' x)) (g := fun v => frzIds v.val), ← List.flatMap_map (f := fun x => (L x)) (g := fun v => frzIds v.val)]
      rw [map_congr' (fun v => v) h]
    have h3 := all_congr (fun v => v.cond ∧ okV v.val = true ∧ v.val.cells.length = k) h
    simp only [aistep, h1, h2, h3]
  | min xs =>
    have h : ∀ x ∈ xs, L' x = L x := h
    have h1 := map_congr' (fun v => v.val) h
    have h3 := all_congr (fun v => v.cond) h
    simp only [aistep, h1, h3]
  | max xs =>
    have h : ∀ x ∈ xs, L' x = L x := h
    have h1 := map_congr' (fun v => v.val) h
    have h3 := all_congr (fun v => v.cond) h
    simp only [aistep, h1, h3]
  | mkf f xs =>
    have h : ∀ x ∈ xs, L' x = L x := h
    have h1 := map_congr' (fun v => v.val) h
    have h3 := all_congr (fun v => v.cond) h
    simp only [aistep, h1, h3]
  | slS k x lo hi mx =>
    have h0 := h x (by simp [opds])
    have b := fun (d : Int) => bnd_congr (d := d) (x := lo) (fun y hy => h y (by simp [opds, hy]))
    have c := fun (d : Int) => bnd_congr (d := d) (x := hi) (fun y hy => h y (by simp [opds, hy]))
    have e := fun (d : Int) => bnd_congr (d := d) (x := mx) (fun y hy => h y (by simp [opds, hy]))
    simp only [aistep, h0, (b 0).1, (b 0).2]
    cases (L x).val <;> cases bnd 0 L lo <;> cases mx <;> simp only [(c _).1, (c 0).2, (e _).1, (e 0).2]
  | slA n x lo hi =>
    have h0 := h x (by simp [opds])
    have b := fun (d : Int) => bnd_congr (d := d) (x := lo) (fun y hy => h y (by simp [opds, hy]))
    have c := fun (d : Int) => bnd_congr (d := d) (x := hi) (fun y hy => h y (by simp [opds, hy]))
    simp only [aistep, h0, (b 0).1, (b 0).2, (c _).1, (c 0).2]
  | slT x lo hi =>
    have h0 := h x (by simp [opds])
    have b := fun (d : Int) => bnd_congr (d := d) (x := lo) (fun y hy => h y (by simp [opds, hy]))
    have c := fun (d : Int) => bnd_congr (d := d) (x := hi) (fun y hy => h y (by simp [opds, hy]))
    simp only [aistep, h0, (b 0).1, (b 0).2, (c _).1, (c 0).2]
  | no | newb | newa | lenC | call | callv => rfl
  | pick a b c =>
    have h1 := h a (by simp [opds]); have h2 := h b (by simp [opds]); have h3 := h c (by simp [opds])
    simp only [aistep, h1, h2, h3]
  | mv x | mvS x | mvL x | isN _ x | box x | boxa x | load _ _ x | fadr _ x | fld _ _ _ x | ext x _ | conv _ x | b2s x | s2b x | not x | neg x | com x | nchk x | lenV x | capV x | lenT x | clr _ _ x =>
    have h1 := h x (by simp [opds])
    simp only [aistep, h1]
  | store _ a x | iadS _ a x | iadA _ _ a x | idxA _ _ _ a x | idxT a x | bin _ a x | binB _ a x | binT _ a x | eqA _ _ a x | mks _ _ _ a x | app _ _ a x | appz _ _ _ a x | cpy _ a x =>
    have h1 := h a (by simp [opds]); have h2 := h x (by simp [opds])
    simp only [aistep, h1, h2]

/-! ### More memory -/
def uB : AI → Bool
  | .load .. | .store .. | .call .. | .callv .. => true
  | _ => false
def uR (bo : Bool) : AI → Bool
  | .load .. => !bo
  | .store .. | .bsl .. | .b2s .. | .app .. | .appz .. | .cpy .. | .clr .. | .mvL .. | .call .. | .callv .. => true
  | _ => false
def wB : AI → Bool
  | .store .. => true
  | _ => false
def wR : AI → Bool
  | .store .. | .bsl .. | .app .. | .cpy .. | .clr .. | .mvL .. => true
  | _ => false
def Sub {β : Type} (f g : Nat → Option β) : Prop := ∀ b c, f b = some c → g b = some c
/-- The boxes, the rows, that an operation reads. -/
def RdB (L : Opd → AV) : AI → Nat → Prop
  | .load _ _ a, b => match (L a).val with
    | .bptr c _ => c = b
    | _ => False
  | .store .., _ | .call .., _ | .callv .., _ => True
  | _, _ => False
def RdR (bo : Bool) (L : Opd → AV) : AI → Nat → Prop
  | .load _ _ a, b => bo = false ∧ match (L a).val with
    | .rptr c _ _ _ => c = b
    | .aptr c _ => c = b
    | _ => False
  | .bsl _ xs, b => b ∈ xs.flatMap fun x => frzIds (L x).val
  | .store .., _ | .mvL .., _ | .b2s .., _ | .app .., _ | .appz .., _ | .cpy .., _ | .clr .., _ | .call .., _ | .callv .., _ => True
  | _, _ => False
def SubAt {β : Type} (S : Nat → Prop) (f g : Nat → Option β) : Prop := ∀ b, S b → ∀ c, f b = some c → g b = some c
theorem rdB_uB {L : Opd → AV} {ai : AI} {b : Nat} (h : RdB L ai b) : uB ai = true := by
  cases ai <;> first | rfl | exact h.elim
theorem rdR_uR {bo : Bool} {L : Opd → AV} {ai : AI} {b : Nat} (h : RdR bo L ai b) : uR bo ai = true := by
  cases ai <;> first | rfl | exact h.elim | (have := h.1; subst this; rfl)

section
variable {bx bx' : Nat → Option (List AV)} {rw rw' : Nat → Option ARow}
theorem els_mono (h : Sub rw rw') {v : AV} {x : Nat × List AV} (e : els rw v = some x) : els rw' v = some x := by
  cases v with
  | ref b k lo n =>
    simp only [els] at e ⊢
    split at e
    · rename_i r hr; rw [h b r hr]; exact e
    · cases e
  | refc b k lo n c =>
    simp only [els] at e ⊢
    split at e
    · rename_i r hr; rw [h b r hr]; exact e
    · cases e
  | raw v =>
    have q : els rw' (.raw v) = els rw (.raw v) := by
      cases v <;> first | rfl | skip
      case slice a n c => cases a <;> cases n <;> rfl
    rw [q]; exact e
  | _ => exact e
theorem frzC_mono (h : Sub rw rw') {v x : AV} (e : frzC rw v = some x) : frzC rw' v = some x := by
  cases v with
  | ref b k lo n =>
    simp only [frzC] at e ⊢
    split at e
    · rename_i r hr; rw [h b r hr]; exact e
    · cases e
  | _ => exact e
theorem mapM_mono {α β : Type} {f g : α → Option β} (h : ∀ x y, f x = some y → g x = some y) : ∀ {l : List α} {l' : List β}, l.mapM f = some l' → l.mapM g = some l'
  | [], _, e => e
  | x :: l, l', e => by
    rw [List.mapM_cons] at e ⊢
    cases h1 : f x with
    | none => rw [h1] at e; cases e
    | some y =>
      cases h2 : l.mapM f with
      | none => rw [h1, h2] at e; cases e
      | some ys => rw [h1, h2] at e; rw [h x y h1, mapM_mono h h2]; exact e
theorem frzV_mono (h : Sub rw rw') {v x : AV} (e : frzV rw v = some x) : frzV rw' v = some x := by
  cases v with
  | agg l =>
    simp only [frzV, Option.map_eq_some_iff] at e ⊢
    obtain ⟨l', e1, e2⟩ := e
    exact ⟨l', mapM_mono (fun x y => frzC_mono h) e1, e2⟩
  | _ => simp only [frzV] at e ⊢; exact frzC_mono h e
theorem frzV_ids {v x : AV} (e : frzV rw v = some x) : ∀ b ∈ frzIds v, ∃ r, rw b = some r := by
  have one : ∀ {y y' : AV} {b : Nat}, frzC rw y = some y' → (∃ k lo n, y = .ref b k lo n) → ∃ r, rw b = some r := by
    rintro y y' b h2 ⟨k, lo, n, rfl⟩
    simp only [frzC] at h2
    split at h2
    · rename_i r hrr; exact ⟨r, hrr⟩
    · cases h2
  intro b hb
  by_cases ha : ∃ l, v = .agg l
  · obtain ⟨l, rfl⟩ := ha
    simp only [frzIds, List.mem_flatMap] at hb
    obtain ⟨y, hy, hby⟩ := hb
    simp only [frzV, Option.map_eq_some_iff] at e
    obtain ⟨l', he, _⟩ := e
    obtain ⟨hlen', hget'⟩ := mapM_get he
    obtain ⟨j, hj, e5⟩ := List.getElem_of_mem hy
    have e6 : l[j]? = some y := by rw [List.getElem?_eq_getElem hj, e5]
    have e8 : l'[j]? = some (l'[j]'(by omega)) := List.getElem?_eq_getElem (by omega)
    refine one (hget' j _ _ e6 e8) ?_
    cases y <;> simp at hby
    subst hby; exact ⟨_, _, _, rfl⟩
  · refine one (y := v) (by cases v <;> first | exact e | exact absurd ⟨_, rfl⟩ ha) ?_
    cases v <;> simp [frzIds] at hb
    · subst hb; exact ⟨_, _, _, rfl⟩
    · exact absurd ⟨_, rfl⟩ ha
theorem frzC_at {v : AV} (h : ∀ b k lo n, v = .ref b k lo n → rw' b = rw b) : frzC rw' v = frzC rw v := by
  cases v with
  | ref b k lo n => simp only [frzC, h b k lo n rfl]
  | _ => rfl
theorem mapM_at {α β : Type} {f g : α → Option β} : ∀ {l : List α}, (∀ x ∈ l, f x = g x) → l.mapM f = l.mapM g
  | [], _ => rfl
  | x :: l, h => by rw [List.mapM_cons, List.mapM_cons, h x (List.mem_cons_self ..), mapM_at fun y hy => h y (List.mem_cons_of_mem _ hy)]
theorem frzV_at {v : AV} (h : ∀ b ∈ frzIds v, rw' b = rw b) : frzV rw' v = frzV rw v := by
  cases v with
  | agg l =>
    simp only [frzV]
    congr 1
    refine mapM_at fun y hy => frzC_at fun b k lo n e => h b ?_
    simp only [frzIds, List.mem_flatMap]
    exact ⟨y, hy, by subst e; exact List.mem_singleton.2 rfl⟩
  | ref b k lo n => simp only [frzV]; exact frzC_at fun b' k' lo' n' e => by cases e; exact h b (by simp [frzIds])
  | _ => rfl
theorem frzUp_mono (h : Sub rw rw') {ids : List Nat} (hi : ∀ b ∈ ids, ∃ r, rw b = some r) : frzUp rw' ids = frzUp rw ids := by
  unfold frzUp
  refine List.map_congr_left fun b hb => ?_
  obtain ⟨r, hr⟩ := hi b hb
  rw [hr, h b r hr]

theorem aistep_mono {bo : Bool} {L : Opd → AV} {bb br : Nat} {ai : AI} (hB : SubAt (RdB L ai) bx bx') (hR : SubAt (RdR bo L ai) rw rw') (hok : (aistep bo L bx rw bb br ai).ok) : aistep bo L bx' rw' bb br ai = aistep bo L bx rw bb br ai := by
  cases ai with
  | load g n a =>
    simp only [aistep] at hok ⊢
    split at hok
    · rename_i b off hv
      split at hok
      · rename_i cells hb; rw [hB b (by simp only [RdB, hv]) _ hb]
      · exact hok.elim
    · rfl
    · rename_i b k i off hv
      split at hok
      · rename_i r hb
        have : bo = false := hok.2.1
        subst this
        rw [hR b (by simp only [RdR, hv, and_self]) _ hb]
      · exact hok.elim
    · rename_i b m hv
      split at hok
      · rename_i r hb
        have : bo = false := hok.2.1
        subst this
        rw [hR b (by simp only [RdR, hv, and_self]) _ hb]
      · exact hok.elim
    · exact hok.elim
  | store n a x =>
    have hB : Sub bx bx' := fun b => hB b trivial
    have hR : Sub rw rw' := fun b => hR b trivial
    simp only [aistep] at hok ⊢
    split at hok
    · split at hok
      · rename_i cells hb; rw [hB _ _ hb]
      · exact hok.elim
    · split at hok
      · rename_i r v' hb hz
        rw [hR _ _ hb, frzV_mono hR hz, frzUp_mono hR (frzV_ids hz)]
      · exact hok.elim
    · split at hok
      · rename_i r l hb hl; rw [hR _ _ hb, hl]
      · exact hok.elim
    · exact hok.elim
  | bsl k xs =>
    simp only [aistep] at hok ⊢
    split at hok
    · rename_i es hes
      have hid : ∀ b ∈ (xs.flatMap fun x => frzIds (L x).val), rw' b = rw b := fun b hb => by
        obtain ⟨x, hx, hbx⟩ := List.mem_flatMap.1 hb
        obtain ⟨hlen, hget⟩ := mapM_get hes
        obtain ⟨i, hi, e1⟩ := List.getElem_of_mem hx
        obtain ⟨r, hr⟩ := frzV_ids (hget i x _ (by rw [List.getElem?_eq_getElem hi, e1]) (List.getElem?_eq_getElem (by omega))) b hbx
        rw [hr, hR b hb r hr]
      have h1 : xs.mapM (fun x => frzV rw' (L x).val) = xs.mapM (fun x => frzV rw (L x).val) := mapM_at fun x hx => frzV_at fun b hb => hid b (List.mem_flatMap.2 ⟨x, hx, hb⟩)
      have h2 : frzUp rw' (xs.flatMap fun x => frzIds (L x).val) = frzUp rw (xs.flatMap fun x => frzIds (L x).val) := by
        unfold frzUp; exact List.map_congr_left fun b hb => by rw [hid b hb]
      rw [h1, h2, hes]
    · exact hok.elim
  | b2s x =>
    have hR : Sub rw rw' := fun b => hR b trivial
    simp only [aistep] at hok ⊢
    split at hok
    · rename_i k es he; rw [els_mono hR he]
    · exact hok.elim
  | app k by_ x y =>
    have hR : Sub rw rw' := fun b => hR b trivial
    simp only [aistep] at hok ⊢
    split at hok
    · rename_i k' new he
      rw [els_mono hR he]
      dsimp only
      split at hok
      · rfl
      · split at hok
        · rename_i r hb; rw [hR _ _ hb]
        · exact hok.elim
      · rfl
      · split at hok
        · rename_i r hb; rw [hR _ _ hb]
        · exact hok.elim
      · exact hok.elim
    · exact hok.elim
  | appz k by_ z x y =>
    have hR : Sub rw rw' := fun b => hR b trivial
    simp only [aistep] at hok ⊢
    split at hok
    · split at hok
      · rename_i r hb; rw [hR _ _ hb]
      · exact hok.elim
    · exact hok.elim
  | cpy k x y =>
    have hR : Sub rw rw' := fun b => hR b trivial
    simp only [aistep] at hok ⊢
    split at hok
    · rename_i b k2 lo n k' src hv he
      rw [els_mono hR he, hv]
      dsimp only
      split at hok
      · rename_i r hb; rw [hR _ _ hb]
      · exact hok.elim
    · rename_i k' src hv he
      rw [els_mono hR he, hv]
    · exact hok.elim
  | clr k z x =>
    have hR : Sub rw rw' := fun b => hR b trivial
    simp only [aistep] at hok ⊢
    split at hok
    · split at hok
      · rename_i r hb; rw [hR _ _ hb]
      · exact hok.elim
    · rfl
    · exact hok.elim
  | mvL x =>
    have hR : Sub rw rw' := fun b => hR b trivial
    simp only [aistep] at hok ⊢
    split at hok
    · split at hok
      · rename_i r hb; rw [hR _ _ hb]
      · exact hok.elim
    · exact hok.elim
  | _ => rfl

theorem argC_mono (h : Sub rw rw') (v : AV) : ALe (argC rw' v) (argC rw v) := by
  cases v with
  | ref b k lo n =>
    simp only [argC]
    cases hr : rw b with
    | none => exact .any _
    | some r => rw [h b r hr]; exact .refl _
  | _ => exact .refl _
theorem argV_mono (hB : Sub bx bx') (h : Sub rw rw') (v : AV) : ALe (argV bx' rw' v) (argV bx rw v) := by
  cases v with
  | agg l =>
    refine .agg _ _ (by simp) fun i x y e1 e2 => ?_
    rw [List.getElem?_map] at e1 e2
    cases hi : l[i]? with
    | none => rw [hi] at e1; cases e1
    | some z => rw [hi] at e1 e2; cases e1; cases e2; exact argC_mono h z
  | bptr b off =>
    simp only [argV]
    cases hb : bx b with
    | none => exact .any _
    | some cells =>
      rw [hB b cells hb]
      dsimp only
      split
      · refine .cptr _ _ _ (by simp) fun i x y e1 e2 => ?_
        rw [List.getElem?_map] at e1 e2
        cases hi : (cells.drop off)[i]? with
        | none => rw [hi] at e1; cases e1
        | some z => rw [hi] at e1 e2; cases e1; cases e2; exact argC_mono h z
      · exact .refl _
  | cptr vol cs => exact .refl _
  | aptr b n =>
    simp only [argV]
    cases hr : rw b with
    | none => exact .any _
    | some r => rw [h b r hr]; exact .refl _
  | _ => simp only [argV]; exact argC_mono h _
theorem argF_mono (hB : Sub bx bx') (h : Sub rw rw') (v : AV) : ALe (argF bx' rw' v) (argF bx rw v) := by
  cases v with
  | fn f caps =>
    refine .fn _ _ _ (by simp) fun i x y e1 e2 => ?_
    rw [List.getElem?_map] at e1 e2
    cases hi : caps[i]? with
    | none => rw [hi] at e1; cases e1
    | some z => rw [hi] at e1 e2; cases e1; cases e2; exact argV_mono hB h z
  | _ => simp only [argF]; exact argV_mono hB h _
end

theorem opR_mono {P : Program} {bo : Bool} {σ σ' : FS} {bb br : Nat} {ai : AI} {r : Res} (hL : ∀ x ∈ opds ai, lookT σ'.tm x = lookT σ.tm x) (hB : SubAt (RdB (lookT σ.tm) ai) σ.bx σ'.bx) (hR : SubAt (RdR bo (lookT σ.tm) ai) σ.rw σ'.rw) (h : OpR P bo σ bb br ai r) : OpR P bo σ' bb br ai r := by
  by_cases hc : isCall ai = true
  · cases ai <;> simp [isCall] at hc
    case call f xs =>
      obtain ⟨h1, args', v, H, ⟨h2, h3⟩, h4, h5⟩ := h
      have hL : ∀ x ∈ xs, lookT σ'.tm x = lookT σ.tm x := hL
      have e1 := map_congr' (fun v => v.val) hL
      refine ⟨fun x hx => by rw [hL x hx]; exact h1 x hx, args', v, H, ⟨by rw [e1]; exact h2, fun i x y k1 k2 => ?_⟩, h4, h5⟩
      rw [e1] at k1
      exact .trans _ _ _ (argF_mono (fun b => hB b trivial) (fun b => hR b trivial) x) (h3 i x y k1 k2)
    case callv x xs =>
      obtain ⟨h0, h1, f, caps, hf, args', v, H, h2, h3, h4, h5⟩ := h
      have hL' : ∀ y ∈ xs, lookT σ'.tm y = lookT σ.tm y := fun y hy => hL y (by simp [opds, hy])
      have hx := hL x (by simp [opds])
      have e1 := map_congr' (fun v => v.val) hL'
      refine ⟨by rw [hx]; exact h0, fun y hy => by rw [hL' y hy]; exact h1 y hy, f, caps, by rw [hx]; exact hf, args', v, H, by rw [e1]; exact h2, fun i y z k1 k2 => ?_, h4, h5⟩
      rw [e1] at k1
      exact .trans _ _ _ (argF_mono (fun b => hB b trivial) (fun b => hR b trivial) y) (h3 i y z k1 k2)
  · have key : ∀ τ : FS, OpR P bo τ bb br ai r = (r = aistep bo (lookT τ.tm) τ.bx τ.rw bb br ai ∧ r.ok) := fun τ => by
      cases ai <;> first | rfl | (exact absurd rfl hc)
    rw [key] at h ⊢
    obtain ⟨h1, h2⟩ := h
    refine ⟨?_, h2⟩
    rw [h1] at h2
    rw [aistep_congr (L := lookT σ.tm) hL, aistep_mono hB hR h2]
    exact h1
/-- The temporaries that an operation looks at. -/
def tmps (l : List Opd) : List Nat := l.filterMap fun | .tmp t => some t | _ => none
def AO.looks (o : AO) : List Nat := tmps (opds o.ai) ++ (match o.g with | some (t, _) => [t] | none => [])
theorem stepR_mono {P : Program} {bo : Bool} {σ σ' : FS} {bb br : Nat} {o : AO} {r : Res} (hL : ∀ t ∈ o.looks, σ'.tm t = σ.tm t) (hB : SubAt (RdB (lookT σ.tm) o.ai) σ.bx σ'.bx) (hR : SubAt (RdR bo (lookT σ.tm) o.ai) σ.rw σ'.rw) (h : StepR P bo σ bb br o r) : StepR P bo σ' bb br o r := by
  have hL1 : ∀ x ∈ opds o.ai, lookT σ'.tm x = lookT σ.tm x := fun x hx => by
    cases x with
    | tmp t => exact hL t (List.mem_append_left _ (by simp only [tmps, List.mem_filterMap]; exact ⟨_, hx, rfl⟩))
    | cst v => rfl
  unfold StepR at h ⊢
  split at h
  · exact opR_mono hL1 hB hR h
  · rename_i t want hg
    obtain ⟨G, h1, r0, h2, h3⟩ := h
    rw [hL t (by simp [AO.looks, hg])]
    exact ⟨G, h1, r0, fun e => opR_mono hL1 hB hR (h2 e), h3⟩
end Go.Proofs.Ytiejnmbpejfpgaa
