/- Regions on abstract values, in the order of the text. -/
import Derived.Test.YtjacmhaeemhinaaAx17
import Derived.OrdersIn
import Derived.LoopNIn
namespace Go.Proofs.Ytjacmhaeemhinaa
open Go.RowKit
set_option linter.unusedVariables false

structure AO where
  dst : Option Nat
  ai : AI
  g : Option (Nat × Bool)

def gval (v : AV) (want : Bool) : Option Bool :=
  match v with
  | .bool b => some (b == want)
  | .cnd g (.bool b) => some (g && (b == want))
  | _ => none
def mkCnd (G : Bool) : AV → AV
  | .cnd g v => .cnd (G && g) v
  | v => .cnd G v

/-- What an operation gives. -/
def OpR (P : Program) (bo : Bool) (σ : FS) (bb br : Nat) (ai : AI) (r : Res) : Prop :=
  match ai with
  | .call f xs => (∀ x ∈ xs, (lookT σ.tm x).cond) ∧ ∃ args' v H, ((xs.map fun x => (lookT σ.tm x).val).length = args'.length ∧ ∀ (i : Nat) (x y : AV), (xs.map fun x => (lookT σ.tm x).val)[i]? = some x → args'[i]? = some y → ALe (argF σ.bx σ.rw x) y) ∧ ACall P f args' v H ∧ r = ⟨True, shT br v, 0, H.length, rowsUp br H⟩
  | .callv x xs => (lookT σ.tm x).cond ∧ (∀ x ∈ xs, (lookT σ.tm x).cond) ∧ ∃ f caps, (lookT σ.tm x).val = .fn f caps ∧ ∃ args' v H, ((xs.map fun x => (lookT σ.tm x).val) ++ caps).length = args'.length ∧ (∀ (i : Nat) (x y : AV), ((xs.map fun x => (lookT σ.tm x).val) ++ caps)[i]? = some x → args'[i]? = some y → ALe (argF σ.bx σ.rw x) y) ∧ ACall P f args' v H ∧ r = ⟨True, shT br v, 0, H.length, rowsUp br H⟩
  | ai => r = aistep bo (lookT σ.tm) σ.bx σ.rw bb br ai ∧ r.ok
/-- .. under its guard. -/
def StepR (P : Program) (bo : Bool) (σ : FS) (bb br : Nat) (o : AO) (r : Res) : Prop :=
  match o.g with
  | none => OpR P bo σ bb br o.ai r
  | some (t, want) => ∃ G, gval (σ.tm t) want = some G ∧ ∃ r0, (G = true → OpR P bo σ bb br o.ai r0) ∧ r0.up = [] ∧ r0.nb = 0 ∧ r0.nr = 0 ∧ r = ⟨True, mkCnd G r0.av, 0, 0, []⟩

def compO (P : Program) (N : Nat) (ops : Array Oper) (o : Oper) : Option AO :=
  if o.dst.all (· < N) then
    (compA P o.op).bind fun ai => match o.guard with
      | none => some ⟨o.dst, ai, none⟩
      | some (j, want) => ((ops[j]?).bind (·.dst)).bind fun t => if t < N then some ⟨o.dst, ai, some (t, want)⟩ else none
  else none

/-- No fence at all; R: the loop over a function in a round of which the code runs. -/
def Fe (R : Option Nat) : Fence := { Fence.wide with round := R }
theorem calls_fe {R : Option Nat} {n : Nat} {P : Program} {f : FuncId} {args : Array Value} {w : World} {Q : Ending → World → Prop} (h : Calls P f args w Q) : CallsIn (Fe R) n P f args w Q :=
  (callsIn_wide (n := n)).2 h

section
variable {P : Program} {w0 : Base} {N : Nat} {ρ : Env} {F : Nat → Prop} {σ : FS} {a : Act} {w : World} {R : Option Nat}

theorem callFunc_run {f : Nat} (hp : plainFn P f = true) (vs : Array Value) (w : World) : (callFunc f vs).run P w = .ok (.enter f vs) w := by
  unfold plainFn at hp
  split at hp
  · rename_i fn hf
    simp only [Bool.and_eq_true, bne_iff_ne, ne_eq] at hp
    have hb : fn.body.isNone = false := by cases hbb : fn.body <;> simp [hbb] at hp ⊢
    unfold callFunc
    simp only [Sem.run_bind, run_program, Result.andThen_ok, hf]
    have hn : (fn.name == "runtime.NumGoroutine") = false := by simpa using hp.1
    simp [hn, hb]
  · cases hp
theorem wp_call {o : Oper} {f : Nat} {vs : Array Value} {K : Act → World → Prop} {Q : Exit → Act → World → Prop} (hnd : ∀ c, o.op ≠ .defer c) (hr : (execOp a.eval o).run P w = .ok (.enter f vs) w) (hc : Calls P f vs w fun e w' => ∃ v, e = .returned v ∧ K (a.put o.dst v) w') : o.wpIn (Fe R) 0 P a w K Q := by
  unfold Oper.wpIn
  refine ⟨fun _ _ => trivial, ?_⟩
  rw [Oper.semAt_eq _ _ _ hnd, hr, Oper.uponIn_enter]
  refine ⟨fun e => (by cases e), calls_fe (hc.mono fun e w' h => ?_)⟩
  obtain ⟨v, rfl, hk⟩ := h
  exact hk

/-- An operation, carried out. -/
theorem opR_sound (bo : Bool) {bb br : Nat} (h : Sim w0 N ρ F σ a w) {o : Oper} {ai : AI} (hc : compA P o.op = some ai) {r : Res} (hr : OpR P bo σ bb br ai r) (hbb : ∀ b, bb ≤ b → b < bb + r.nb → ρ.b b = none) (hbr : ∀ b, br ≤ b → b < br + r.nr → ρ.r b = none) {K : Act → World → Prop} {Q : Exit → Act → World → Prop}
    (hK : ∀ v w' ρ' F', Grown w0.V ρ ρ' F F' bb r.nb br r.nr → Sim w0 N ρ' F' (σ.ups r.up) a w' → Rep ρ' w0.V F' w' v r.av → K (a.put o.dst v) w') : o.wpIn (Fe R) 0 P a w K Q := by
  obtain ⟨dst, op, ty, pos, after, guard⟩ := o
  unfold compA at hc
  split at hc
  · rename_i f args ts hop
    dsimp only at hop
    subst hop
    obtain ⟨xs, h1, rfl⟩ := Option.map_eq_some_iff.1 hc
    obtain ⟨hcond, args', v, H, hle, hcall, rfl⟩ := hr
    obtain ⟨g1, g2⟩ := reps_list h h1
    have hrun : (execOp a.eval ⟨dst, .call ⟨.value (.func f), args, ts⟩, ty, pos, after, guard⟩).run P w = .ok (.enter f (args.map a.eval)) w := by
      simp only [execOp, resolve, Act.eval, Deferred.ofValue, Sem.run_bind, Sem.run_pure, Result.andThen_ok, invoke]
      simpa using callFunc_run hcall.1 (args.map a.eval) w
    refine wp_call (fun c e => by cases e) hrun ((call_sim (bb := bb) h hcall (args := xs.map fun x => (lookT σ.tm x).val) (by simp [g1]) hle (vals_reps h h1 hcond) (br := br) hbr).mono ?_)
    rintro e w' ⟨u, ρ', F', rfl, q1, q2, q3⟩
    exact ⟨u, rfl, hK u w' ρ' F' q1 q2 q3⟩
  · rename_i t args ts hop
    dsimp only at hop
    subst hop
    obtain ⟨xs, h1, rfl⟩ := Option.map_eq_some_iff.1 hc
    obtain ⟨hcx, hcond, f, caps, hfn, args', v, H, hl1, hle, hcall, rfl⟩ := hr
    obtain ⟨g1, g2⟩ := reps_list h h1
    have hf := (h.tm t).val hcx
    have hfn' : (σ.tm t).val = .fn f caps := hfn
    rw [hfn'] at hf
    obtain ⟨cs, e1, e2, e3⟩ := hf.fn_inv
    have hrun : (execOp a.eval ⟨dst, .call ⟨.value (.tmp t), args, ts⟩, ty, pos, after, guard⟩).run P w = .ok (.enter f (args.map a.eval ++ cs)) w := by
      have e1' : a.eval (.tmp t) = .func (.func f) #[] cs := e1
      simp only [execOp, resolve, e1', Deferred.ofValue, Sem.run_bind, Sem.run_pure, Result.andThen_ok, invoke]
      simpa using callFunc_run hcall.1 (args.map a.eval ++ cs) w
    refine wp_call (fun c e => by cases e) hrun ((call_sim (bb := bb) h hcall (args := (xs.map fun x => (lookT σ.tm x).val) ++ caps) (by simp [g1, e2]) ⟨hl1, hle⟩ (fun i u av k1 k2 => ?_) (br := br) hbr).mono ?_)
    · have g1' : xs.length = args.size := by simpa using g1
      by_cases hi : i < xs.length
      · rw [Array.getElem?_append_left (by simp; omega)] at k1
        rw [List.getElem?_append_left (by simpa using hi)] at k2
        exact vals_reps h h1 hcond i u av k1 k2
      · rw [Array.getElem?_append_right (by simp; omega)] at k1
        rw [List.getElem?_append_right (by simp; omega)] at k2
        exact e3 _ u av (by simpa using k1) (by simpa [g1] using k2)
    · rintro e w' ⟨u, ρ', F', rfl, q1, q2, q3⟩
      exact ⟨u, rfl, hK u w' ρ' F' q1 q2 q3⟩
  · split at hc
    · rename_i hx
      cases hc
      obtain ⟨t, k, xs, rfl, _⟩ := compX_call hx
      obtain ⟨_, _, f, caps, hfn, _⟩ := hr
      cases hfn
    obtain ⟨ai', hc, hif⟩ := Option.bind_eq_some_iff.1 hc
    split at hif
    · cases hif
    rename_i hcall
    cases hif
    have hr' : r = aistep bo (lookT σ.tm) σ.bx σ.rw bb br ai ∧ r.ok := by
      cases ai <;> first | exact hr | (simp [isCall] at hcall)
    obtain ⟨rfl, hok⟩ := hr'
    obtain ⟨v, w', ρ', F', hrun, hg, hs, hv⟩ := op_good (o := ⟨dst, op, ty, pos, after, guard⟩) bo bb br h hc (fun e => hbb bb (Nat.le_refl _) (by rw [(al_num hok).1 e]; omega)) (fun e => hbr br (Nat.le_refl _) (by rw [(al_num hok).2 e]; omega)) hok
    have hk := hK v w' ρ' F' hg hs hv
    have hnd : ∀ c, op ≠ .defer c := fun c e => by subst e; simp [comp] at hc
    unfold Oper.wpIn
    refine ⟨fun _ _ => trivial, ?_⟩
    rw [Oper.semAt_eq _ _ _ hnd]
    rcases hrun with hrun | ⟨hrun, rfl⟩
    · rw [hrun]; exact hk
    · rw [hrun]; exact hk

theorem mkCnd_true {v : Value} {av : AV} {B : Nat → Prop} (h : Rep ρ B F w v av) : Rep ρ B F w v (mkCnd true av) := by
  unfold mkCnd
  split
  · rename_i g u
    rw [Bool.true_and]; exact h
  · exact .cnd true v av (fun _ => h) (fun e => by cases e)
theorem mkCnd_false {av : AV} {B : Nat → Prop} : Rep ρ B F w undef (mkCnd false av) := by
  unfold mkCnd
  split
  · rw [Bool.false_and]; exact .cnd false _ _ (fun e => by cases e) (fun _ => rfl)
  · exact .cnd false _ _ (fun e => by cases e) (fun _ => rfl)
def bOf (v : Value) : Option Bool := match v with
  | .bool b => some b
  | _ => none
theorem gval_sound {v : Value} {av : AV} {B : Nat → Prop} (h : Rep ρ B F w v av) {want G : Bool} (hg : gval av want = some G) : (bOf v == some want) = G := by
  unfold gval at hg
  split at hg
  · rename_i b
    cases hg
    rw [h.bool_inv]
    cases b <;> cases want <;> rfl
  · rename_i g b
    cases hg
    cases g
    · rw [h.cnd_not rfl]; rfl
    · rw [(h.cnd_inv rfl).bool_inv]
      cases b <;> cases want <;> rfl
  · cases hg

/-- A step of a region, carried out. -/
theorem stepR_sound (bo : Bool) {bb br : Nat} {ops : Array Oper} {i : Nat} {o : Oper} {ao : AO} (h : Sim w0 N ρ F σ a w) (hi : ops[i]? = some o) (hc : compO P N ops o = some ao) {r : Res} (hr : StepR P bo σ bb br ao r) (hbb : ∀ b, bb ≤ b → b < bb + r.nb → ρ.b b = none) (hbr : ∀ b, br ≤ b → b < br + r.nr → ρ.r b = none) {K : Act → World → Prop} {Q : Exit → Act → World → Prop}
    (hK : ∀ a' w' ρ' F', Grown w0.V ρ ρ' F F' bb r.nb br r.nr → Sim w0 N ρ' F' ((σ.ups r.up).put ao.dst r.av) a' w' → K a' w') : wpOpIn (Fe R) 0 P ops Q i K a w := by
  unfold compO at hc
  split at hc
  · rename_i hd
    have hdN : ∀ t, o.dst = some t → t < N := fun t e => by rw [e] at hd; simpa using hd
    obtain ⟨ai, h1, hc⟩ := Option.bind_eq_some_iff.1 hc
    unfold wpOpIn
    simp only [hi]
    split at hc
    · rename_i hgd
      cases hc
      have hw : Region.wanted o (yielded ops a.tmps) = true := by simp [Region.wanted, hgd]
      rw [if_pos hw]
      exact opR_sound bo h h1 hr hbb hbr fun v w' ρ' F' g1 g2 g3 => hK _ _ ρ' F' g1 (g2.put g3 hdN)
    · rename_i j want hgd
      obtain ⟨t, ht, hc⟩ := Option.bind_eq_some_iff.1 hc
      split at hc
      · rename_i htN
        cases hc
        obtain ⟨G, hG, r0, hr0, e1, e2, e3, rfl⟩ := hr
        have hy : yielded ops a.tmps j = bOf (a.tmps.getD t undef) := by
          unfold yielded
          rw [ht]
          simp only [Option.bind_some]
          have : a.tmps[t]? = some (a.tmps.getD t undef) := by
            rw [Array.getElem?_eq_getElem (by rw [h.sz]; exact htN)]
            simp [Array.getD, h.sz, htN]
          rw [this]
          cases a.tmps.getD t undef <;> rfl
        have hwant : Region.wanted o (yielded ops a.tmps) = G := by
          unfold Region.wanted
          rw [hgd]; dsimp only
          rw [hy]; exact gval_sound (h.tm t) hG
        cases G
        · rw [if_neg (by rw [hwant]; simp)]
          exact ⟨fun _ _ => trivial, hK _ w ρ F (.refl _ _ _ _ _) (h.put mkCnd_false hdN)⟩
        · rw [if_pos hwant]
          refine opR_sound bo h h1 (hr0 rfl) (fun b hb hb2 => by rw [e2] at hb2; omega) (fun b hb hb2 => by rw [e3] at hb2; omega) fun v w' ρ' F' g1 g2 g3 => ?_
          rw [e1] at g2
          rw [e2, e3] at g1
          exact hK _ _ ρ' F' g1 (g2.put (mkCnd_true g3) hdN)
      · cases hc
  · cases hc
end
end Go.Proofs.Ytjacmhaeemhinaa

namespace Go.Proofs.Ytjacmhaeemhinaa
open Go.RowKit
set_option linter.unusedVariables false

def oo : Option Opd → List Opd
  | none => []
  | some x => [x]
def opds : AI → List Opd
  | .mv x | .mvS x | .mvL x | .isN _ x | .box x | .boxa x | .load _ _ x | .fadr _ x | .fld _ _ _ x | .ext x _ | .conv _ x | .b2s x | .s2b x | .not x | .neg x | .com x | .nchk x | .lenV x | .capV x | .lenT x | .clr _ _ x => [x]
  | .no | .newb _ | .newa _ | .lenC _ => []
  | .pick a b c => [a, b, c]
  | .build _ ps => ps.map (·.2.2)
  | .bsl _ xs | .min xs | .max xs | .mkf _ xs | .call _ xs => xs
  | .callv x xs => x :: xs
  | .store _ a x | .iadS _ a x | .iadA _ _ a x | .idxA _ _ _ a x | .idxT a x | .bin _ a x | .binB _ a x | .binT _ a x | .eqA _ _ a x | .mks _ _ _ a x | .app _ _ a x | .appz _ _ _ a x | .cpy _ a x => [a, x]
  | .slS _ x lo hi mx => x :: (oo lo ++ (oo hi ++ oo mx))
  | .slA _ x lo hi | .slT x lo hi => x :: (oo lo ++ oo hi)

theorem bnd_congr {L L' : Opd → AV} {d : Int} {x : Option Opd} (h : ∀ y ∈ oo x, L' y = L y) : bnd d L' x = bnd d L x ∧ bndc L' x = bndc L x := by
  cases x with
  | none => exact ⟨rfl, rfl⟩
  | some y => have := h y (by simp [oo]); simp [bnd, bndc, this]
theorem fill_congr {L L' : Opd → AV} : ∀ (ps : List (Nat × Nat × Opd)) (cells : List AV) (m : Nat), (∀ y ∈ ps.map (·.2.2), L' y = L y) → fillV L' cells ps = fillV L cells ps ∧ fillC L' m ps = fillC L m ps
  | [], _, _, _ => ⟨rfl, rfl⟩
  | (off, n, x) :: ps, cells, m, h => by
    have h1 : L' x = L x := h x (by simp)
    obtain ⟨h2, h3⟩ := fill_congr ps (putCells cells off (L x).val.cells) m fun y hy => h y (by simp at hy ⊢; exact .inr hy)
    simp only [fillV, fillC, h1, h2, h3, and_self]
theorem map_congr' {β : Type} {L L' : Opd → AV} (f : AV → β) {xs : List Opd} (h : ∀ y ∈ xs, L' y = L y) : xs.map (fun x => f (L' x)) = xs.map (fun x => f (L x)) := List.map_congr_left fun x hx => by rw [h x hx]
theorem mapM_congr' {β : Type} {L L' : Opd → AV} (f : AV → Option β) : ∀ {xs : List Opd}, (∀ y ∈ xs, L' y = L y) → xs.mapM (fun x => f (L' x)) = xs.mapM (fun x => f (L x))
  | [], _ => rfl
  | x :: xs, h => by simp only [List.mapM_cons, h x (List.mem_cons_self ..), mapM_congr' f (xs := xs) fun y hy => h y (List.mem_cons_of_mem _ hy)]
theorem all_congr {L L' : Opd → AV} (p : AV → Prop) {xs : List Opd} (h : ∀ y ∈ xs, L' y = L y) : (∀ x ∈ xs, p (L' x)) = (∀ x ∈ xs, p (L x)) := by
  apply propext
  exact ⟨fun q x hx => by rw [← h x hx]; exact q x hx, fun q x hx => by rw [h x hx]; exact q x hx⟩

theorem aistep_congr {bo : Bool} {L L' : Opd → AV} {bx : Nat → Option (List AV)} {rw : Nat → Option ARow} {bb br : Nat} {ai : AI} (h : ∀ x ∈ opds ai, L' x = L x) : aistep bo L' bx rw bb br ai = aistep bo L bx rw bb br ai := by
  cases ai with
  | build zero ps =>
    obtain ⟨h1, h2⟩ := fill_congr ps zero zero.length h
    simp only [aistep, h1, h2]
  | bsl k xs =>
    have h : ∀ x ∈ xs, L' x = L x := h
    have h1 := mapM_congr' (fun v => frzV rw v.val) h
    have h2 : (xs.flatMap fun x => frzIds (L' x).val) = xs.flatMap fun x => frzIds (L x).val := by
      simp only [← List.flatMap_map (f := fun x => (L' x)) (g := fun v => frzIds v.val), ← List.flatMap_map (f := fun x => (L x)) (g := fun v => frzIds v.val)]
      rw [map_congr' (fun v => v) h]
    have h3 := all_congr (fun v => v.cond ∧ okV v.val = true ∧ v.val.cells.length = k) h
    simp only [aistep, h1, h2, h3]
  | min xs =>
    have h : ∀ x ∈ xs, L' x = L x := h
    have h1 := map_congr' (fun v => v.val) h
    have h3 := all_congr (fun v => v.cond) h
    simp only [aistep, h1, h3]
  | max xs =>
    have h : ∀ x ∈ xs, L' x = L x := h
    have h1 := map_congr' (fun v => v.val) h
    have h3 := all_congr (fun v => v.cond) h
    simp only [aistep, h1, h3]
  | mkf f xs =>
    have h : ∀ x ∈ xs, L' x = L x := h
    have h1 := map_congr' (fun v => v.val) h
    have h3 := all_congr (fun v => v.cond) h
    simp only [aistep, h1, h3]
  | slS k x lo hi mx =>
    have h0 := h x (by simp [opds])
    have b := fun (d : Int) => bnd_congr (d := d) (x := lo) (fun y hy => h y (by simp [opds, hy]))
    have c := fun (d : Int) => bnd_congr (d := d) (x := hi) (fun y hy => h y (by simp [opds, hy]))
    have e := fun (d : Int) => bnd_congr (d := d) (x := mx) (fun y hy => h y (by simp [opds, hy]))
    simp only [aistep, h0, (b 0).1, (b 0).2]
    cases (L x).val <;> cases bnd 0 L lo <;> cases mx <;> simp only [(c _).1, (c 0).2, (e _).1, (e 0).2]
  | slA n x lo hi =>
    have h0 := h x (by simp [opds])
    have b := fun (d : Int) => bnd_congr (d := d) (x := lo) (fun y hy => h y (by simp [opds, hy]))
    have c := fun (d : Int) => bnd_congr (d := d) (x := hi) (fun y hy => h y (by simp [opds, hy]))
    simp only [aistep, h0, (b 0).1, (b 0).2, (c _).1, (c 0).2]
  | slT x lo hi =>
    have h0 := h x (by simp [opds])
    have b := fun (d : Int) => bnd_congr (d := d) (x := lo) (fun y hy => h y (by simp [opds, hy]))
    have c := fun (d : Int) => bnd_congr (d := d) (x := hi) (fun y hy => h y (by simp [opds, hy]))
    simp only [aistep, h0, (b 0).1, (b 0).2, (c _).1, (c 0).2]
  | no | newb | newa | lenC | call | callv => rfl
  | pick a b c =>
    have h1 := h a (by simp [opds]); have h2 := h b (by simp [opds]); have h3 := h c (by simp [opds])
    simp only [aistep, h1, h2, h3]
  | mv x | mvS x | mvL x | isN _ x | box x | boxa x | load _ _ x | fadr _ x | fld _ _ _ x | ext x _ | conv _ x | b2s x | s2b x | not x | neg x | com x | nchk x | lenV x | capV x | lenT x | clr _ _ x =>
    have h1 := h x (by simp [opds])
    simp only [aistep, h1]
  | store _ a x | iadS _ a x | iadA _ _ a x | idxA _ _ _ a x | idxT a x | bin _ a x | binB _ a x | binT _ a x | eqA _ _ a x | mks _ _ _ a x | app _ _ a x | appz _ _ _ a x | cpy _ a x =>
    have h1 := h a (by simp [opds]); have h2 := h x (by simp [opds])
    simp only [aistep, h1, h2]

/-! ### More memory -/
def uB : AI → Bool
  | .load .. | .store .. | .call .. | .callv .. => true
  | _ => false
def uR (bo : Bool) : AI → Bool
  | .load .. => !bo
  | .store .. | .bsl .. | .b2s .. | .app .. | .appz .. | .cpy .. | .clr .. | .mvL .. | .call .. | .callv .. => true
  | _ => false
def wB : AI → Bool
  | .store .. => true
  | _ => false
def wR : AI → Bool
  | .store .. | .bsl .. | .app .. | .cpy .. | .clr .. | .mvL .. => true
  | _ => false
def Sub {β : Type} (f g : Nat → Option β) : Prop := ∀ b c, f b = some c → g b = some c
/-- The boxes, the rows, that an operation reads. -/
def RdB (L : Opd → AV) : AI → Nat → Prop
  | .load _ _ a, b => match (L a).val with
    | .bptr c _ => c = b
    | _ => False
  | .store .., _ | .call .., _ | .callv .., _ => True
  | _, _ => False
def RdR (bo : Bool) (L : Opd → AV) : AI → Nat → Prop
  | .load _ _ a, b => bo = false ∧ match (L a).val with
    | .rptr c _ _ _ => c = b
    | .aptr c _ => c = b
    | _ => False
  | .bsl _ xs, b => b ∈ xs.flatMap fun x => frzIds (L x).val
  | .store .., _ | .mvL .., _ | .b2s .., _ | .app .., _ | .appz .., _ | .cpy .., _ | .clr .., _ | .call .., _ | .callv .., _ => True
  | _, _ => False
def SubAt {β : Type} (S : Nat → Prop) (f g : Nat → Option β) : Prop := ∀ b, S b → ∀ c, f b = some c → g b = some c
theorem rdB_uB {L : Opd → AV} {ai : AI} {b : Nat} (h : RdB L ai b) : uB ai = true := by
  cases ai <;> first | rfl | exact h.elim
theorem rdR_uR {bo : Bool} {L : Opd → AV} {ai : AI} {b : Nat} (h : RdR bo L ai b) : uR bo ai = true := by
  cases ai <;> first | rfl | exact h.elim | (have := h.1; subst this; rfl)

section
variable {bx bx' : Nat → Option (List AV)} {rw rw' : Nat → Option ARow}
theorem els_mono (h : Sub rw rw') {v : AV} {x : Nat × List AV} (e : els rw v = some x) : els rw' v = some x := by
  cases v with
  | ref b k lo n =>
    simp only [els] at e ⊢
    split at e
    · rename_i r hr; rw [h b r hr]; exact e
    · cases e
  | refc b k lo n c =>
    simp only [els] at e ⊢
    split at e
    · rename_i r hr; rw [h b r hr]; exact e
    · cases e
  | raw v =>
    have q : els rw' (.raw v) = els rw (.raw v) := by
      cases v <;> first | rfl | skip
      case slice a n c => cases a <;> cases n <;> rfl
    rw [q]; exact e
  | _ => exact e
theorem frzC_mono (h : Sub rw rw') {v x : AV} (e : frzC rw v = some x) : frzC rw' v = some x := by
  cases v with
  | ref b k lo n =>
    simp only [frzC] at e ⊢
    split at e
    · rename_i r hr; rw [h b r hr]; exact e
    · cases e
  | _ => exact e
theorem mapM_mono {α β : Type} {f g : α → Option β} (h : ∀ x y, f x = some y → g x = some y) : ∀ {l : List α} {l' : List β}, l.mapM f = some l' → l.mapM g = some l'
  | [], _, e => e
  | x :: l, l', e => by
    rw [List.mapM_cons] at e ⊢
    cases h1 : f x with
    | none => rw [h1] at e; cases e
    | some y =>
      cases h2 : l.mapM f with
      | none => rw [h1, h2] at e; cases e
      | some ys => rw [h1, h2] at e; rw [h x y h1, mapM_mono h h2]; exact e
theorem frzV_mono (h : Sub rw rw') {v x : AV} (e : frzV rw v = some x) : frzV rw' v = some x := by
  cases v with
  | agg l =>
    simp only [frzV, Option.map_eq_some_iff] at e ⊢
    obtain ⟨l', e1, e2⟩ := e
    exact ⟨l', mapM_mono (fun x y => frzC_mono h) e1, e2⟩
  | _ => simp only [frzV] at e ⊢; exact frzC_mono h e
theorem frzV_ids {v x : AV} (e : frzV rw v = some x) : ∀ b ∈ frzIds v, ∃ r, rw b = some r := by
  have one : ∀ {y y' : AV} {b : Nat}, frzC rw y = some y' → (∃ k lo n, y = .ref b k lo n) → ∃ r, rw b = some r := by
    rintro y y' b h2 ⟨k, lo, n, rfl⟩
    simp only [frzC] at h2
    split at h2
    · rename_i r hrr; exact ⟨r, hrr⟩
    · cases h2
  intro b hb
  by_cases ha : ∃ l, v = .agg l
  · obtain ⟨l, rfl⟩ := ha
    simp only [frzIds, List.mem_flatMap] at hb
    obtain ⟨y, hy, hby⟩ := hb
    simp only [frzV, Option.map_eq_some_iff] at e
    obtain ⟨l', he, _⟩ := e
    obtain ⟨hlen', hget'⟩ := mapM_get he
    obtain ⟨j, hj, e5⟩ := List.getElem_of_mem hy
    have e6 : l[j]? = some y := by rw [List.getElem?_eq_getElem hj, e5]
    have e8 : l'[j]? = some (l'[j]'(by omega)) := List.getElem?_eq_getElem (by omega)
    refine one (hget' j _ _ e6 e8) ?_
    cases y <;> simp at hby
    subst hby; exact ⟨_, _, _, rfl⟩
  · refine one (y := v) (by cases v <;> first | exact e | exact absurd ⟨_, rfl⟩ ha) ?_
    cases v <;> simp [frzIds] at hb
    · subst hb; exact ⟨_, _, _, rfl⟩
    · exact absurd ⟨_, rfl⟩ ha
theorem frzC_at {v : AV} (h : ∀ b k lo n, v = .ref b k lo n → rw' b = rw b) : frzC rw' v = frzC rw v := by
  cases v with
  | ref b k lo n => simp only [frzC, h b k lo n rfl]
  | _ => rfl
theorem mapM_at {α β : Type} {f g : α → Option β} : ∀ {l : List α}, (∀ x ∈ l, f x = g x) → l.mapM f = l.mapM g
  | [], _ => rfl
  | x :: l, h => by rw [List.mapM_cons, List.mapM_cons, h x (List.mem_cons_self ..), mapM_at fun y hy => h y (List.mem_cons_of_mem _ hy)]
theorem frzV_at {v : AV} (h : ∀ b ∈ frzIds v, rw' b = rw b) : frzV rw' v = frzV rw v := by
  cases v with
  | agg l =>
    simp only [frzV]
    congr 1
    refine mapM_at fun y hy => frzC_at fun b k lo n e => h b ?_
    simp only [frzIds, List.mem_flatMap]
    exact ⟨y, hy, by subst e; exact List.mem_singleton.2 rfl⟩
  | ref b k lo n => simp only [frzV]; exact frzC_at fun b' k' lo' n' e => by cases e; exact h b (by simp [frzIds])
  | _ => rfl
theorem frzUp_mono (h : Sub rw rw') {ids : List Nat} (hi : ∀ b ∈ ids, ∃ r, rw b = some r) : frzUp rw' ids = frzUp rw ids := by
  unfold frzUp
  refine List.map_congr_left fun b hb => ?_
  obtain ⟨r, hr⟩ := hi b hb
  rw [hr, h b r hr]

theorem aistep_mono {bo : Bool} {L : Opd → AV} {bb br : Nat} {ai : AI} (hB : SubAt (RdB L ai) bx bx') (hR : SubAt (RdR bo L ai) rw rw') (hok : (aistep bo L bx rw bb br ai).ok) : aistep bo L bx' rw' bb br ai = aistep bo L bx rw bb br ai := by
  cases ai with
  | load g n a =>
    simp only [aistep] at hok ⊢
    split at hok
    · rename_i b off hv
      split at hok
      · rename_i cells hb; rw [hB b (by simp only [RdB, hv]) _ hb]
      · exact hok.elim
    · rfl
    · rename_i b k i off hv
      split at hok
      · rename_i r hb
        have : bo = false := hok.2.1
        subst this
        rw [hR b (by simp only [RdR, hv, and_self]) _ hb]
      · exact hok.elim
    · rename_i b m hv
      split at hok
      · rename_i r hb
        have : bo = false := hok.2.1
        subst this
        rw [hR b (by simp only [RdR, hv, and_self]) _ hb]
      · exact hok.elim
    · exact hok.elim
  | store n a x =>
    have hB : Sub bx bx' := fun b => hB b trivial
    have hR : Sub rw rw' := fun b => hR b trivial
    simp only [aistep] at hok ⊢
    split at hok
    · split at hok
      · rename_i cells hb; rw [hB _ _ hb]
      · exact hok.elim
    · split at hok
      · rename_i r v' hb hz
        rw [hR _ _ hb, frzV_mono hR hz, frzUp_mono hR (frzV_ids hz)]
      · exact hok.elim
    · split at hok
      · rename_i r l hb hl; rw [hR _ _ hb, hl]
      · exact hok.elim
    · exact hok.elim
  | bsl k xs =>
    simp only [aistep] at hok ⊢
    split at hok
    · rename_i es hes
      have hid : ∀ b ∈ (xs.flatMap fun x => frzIds (L x).val), rw' b = rw b := fun b hb => by
        obtain ⟨x, hx, hbx⟩ := List.mem_flatMap.1 hb
        obtain ⟨hlen, hget⟩ := mapM_get hes
        obtain ⟨i, hi, e1⟩ := List.getElem_of_mem hx
        obtain ⟨r, hr⟩ := frzV_ids (hget i x _ (by rw [List.getElem?_eq_getElem hi, e1]) (List.getElem?_eq_getElem (by omega))) b hbx
        rw [hr, hR b hb r hr]
      have h1 : xs.mapM (fun x => frzV rw' (L x).val) = xs.mapM (fun x => frzV rw (L x).val) := mapM_at fun x hx => frzV_at fun b hb => hid b (List.mem_flatMap.2 ⟨x, hx, hb⟩)
      have h2 : frzUp rw' (xs.flatMap fun x => frzIds (L x).val) = frzUp rw (xs.flatMap fun x => frzIds (L x).val) := by
        unfold frzUp; exact List.map_congr_left fun b hb => by rw [hid b hb]
      rw [h1, h2, hes]
    · exact hok.elim
  | b2s x =>
    have hR : Sub rw rw' := fun b => hR b trivial
    simp only [aistep] at hok ⊢
    split at hok
    · rename_i k es he; rw [els_mono hR he]
    · exact hok.elim
  | app k by_ x y =>
    have hR : Sub rw rw' := fun b => hR b trivial
    simp only [aistep] at hok ⊢
    split at hok
    · rename_i k' new he
      rw [els_mono hR he]
      dsimp only
      split at hok
      · rfl
      · split at hok
        · rename_i r hb; rw [hR _ _ hb]
        · exact hok.elim
      · rfl
      · split at hok
        · rename_i r hb; rw [hR _ _ hb]
        · exact hok.elim
      · exact hok.elim
    · exact hok.elim
  | appz k by_ z x y =>
    have hR : Sub rw rw' := fun b => hR b trivial
    simp only [aistep] at hok ⊢
    split at hok
    · split at hok
      · rename_i r hb; rw [hR _ _ hb]
      · exact hok.elim
    · exact hok.elim
  | cpy k x y =>
    have hR : Sub rw rw' := fun b => hR b trivial
    simp only [aistep] at hok ⊢
    split at hok
    · rename_i b k2 lo n k' src hv he
      rw [els_mono hR he, hv]
      dsimp only
      split at hok
      · rename_i r hb; rw [hR _ _ hb]
      · exact hok.elim
    · rename_i k' src hv he
      rw [els_mono hR he, hv]
    · exact hok.elim
  | clr k z x =>
    have hR : Sub rw rw' := fun b => hR b trivial
    simp only [aistep] at hok ⊢
    split at hok
    · split at hok
      · rename_i r hb; rw [hR _ _ hb]
      · exact hok.elim
    · rfl
    · exact hok.elim
  | mvL x =>
    have hR : Sub rw rw' := fun b => hR b trivial
    simp only [aistep] at hok ⊢
    split at hok
    · split at hok
      · rename_i r hb; rw [hR _ _ hb]
      · exact hok.elim
    · exact hok.elim
  | _ => rfl

theorem argC_mono (h : Sub rw rw') (v : AV) : ALe (argC rw' v) (argC rw v) := by
  cases v with
  | ref b k lo n =>
    simp only [argC]
    cases hr : rw b with
    | none => exact .any _
    | some r => rw [h b r hr]; exact .refl _
  | _ => exact .refl _
theorem argV_mono (hB : Sub bx bx') (h : Sub rw rw') (v : AV) : ALe (argV bx' rw' v) (argV bx rw v) := by
  cases v with
  | agg l =>
    refine .agg _ _ (by simp) fun i x y e1 e2 => ?_
    rw [List.getElem?_map] at e1 e2
    cases hi : l[i]? with
    | none => rw [hi] at e1; cases e1
    | some z => rw [hi] at e1 e2; cases e1; cases e2; exact argC_mono h z
  | bptr b off =>
    simp only [argV]
    cases hb : bx b with
    | none => exact .any _
    | some cells =>
      rw [hB b cells hb]
      dsimp only
      split
      · refine .cptr _ _ _ (by simp) fun i x y e1 e2 => ?_
        rw [List.getElem?_map] at e1 e2
        cases hi : (cells.drop off)[i]? with
        | none => rw [hi] at e1; cases e1
        | some z => rw [hi] at e1 e2; cases e1; cases e2; exact argC_mono h z
      · exact .refl _
  | cptr vol cs => exact .refl _
  | aptr b n =>
    simp only [argV]
    cases hr : rw b with
    | none => exact .any _
    | some r => rw [h b r hr]; exact .refl _
  | _ => simp only [argV]; exact argC_mono h _
theorem argF_mono (hB : Sub bx bx') (h : Sub rw rw') (v : AV) : ALe (argF bx' rw' v) (argF bx rw v) := by
  cases v with
  | fn f caps =>
    refine .fn _ _ _ (by simp) fun i x y e1 e2 => ?_
    rw [List.getElem?_map] at e1 e2
    cases hi : caps[i]? with
    | none => rw [hi] at e1; cases e1
    | some z => rw [hi] at e1 e2; cases e1; cases e2; exact argV_mono hB h z
  | _ => simp only [argF]; exact argV_mono hB h _
end

theorem opR_mono {P : Program} {bo : Bool} {σ σ' : FS} {bb br : Nat} {ai : AI} {r : Res} (hL : ∀ x ∈ opds ai, lookT σ'.tm x = lookT σ.tm x) (hB : SubAt (RdB (lookT σ.tm) ai) σ.bx σ'.bx) (hR : SubAt (RdR bo (lookT σ.tm) ai) σ.rw σ'.rw) (h : OpR P bo σ bb br ai r) : OpR P bo σ' bb br ai r := by
  by_cases hc : isCall ai = true
  · cases ai <;> simp [isCall] at hc
    case call f xs =>
      obtain ⟨h1, args', v, H, ⟨h2, h3⟩, h4, h5⟩ := h
      have hL : ∀ x ∈ xs, lookT σ'.tm x = lookT σ.tm x := hL
      have e1 := map_congr' (fun v => v.val) hL
      refine ⟨fun x hx => by rw [hL x hx]; exact h1 x hx, args', v, H, ⟨by rw [e1]; exact h2, fun i x y k1 k2 => ?_⟩, h4, h5⟩
      rw [e1] at k1
      exact .trans _ _ _ (argF_mono (fun b => hB b trivial) (fun b => hR b trivial) x) (h3 i x y k1 k2)
    case callv x xs =>
      obtain ⟨h0, h1, f, caps, hf, args', v, H, h2, h3, h4, h5⟩ := h
      have hL' : ∀ y ∈ xs, lookT σ'.tm y = lookT σ.tm y := fun y hy => hL y (by simp [opds, hy])
      have hx := hL x (by simp [opds])
      have e1 := map_congr' (fun v => v.val) hL'
      refine ⟨by rw [hx]; exact h0, fun y hy => by rw [hL' y hy]; exact h1 y hy, f, caps, by rw [hx]; exact hf, args', v, H, by rw [e1]; exact h2, fun i y z k1 k2 => ?_, h4, h5⟩
      rw [e1] at k1
      exact .trans _ _ _ (argF_mono (fun b => hB b trivial) (fun b => hR b trivial) y) (h3 i y z k1 k2)
  · have key : ∀ τ : FS, OpR P bo τ bb br ai r = (r = aistep bo (lookT τ.tm) τ.bx τ.rw bb br ai ∧ r.ok) := fun τ => by
      cases ai <;> first | rfl | (exact absurd rfl hc)
    rw [key] at h ⊢
    obtain ⟨h1, h2⟩ := h
    refine ⟨?_, h2⟩
    rw [h1] at h2
    rw [aistep_congr (L := lookT σ.tm) hL, aistep_mono hB hR h2]
    exact h1
/-- The temporaries that an operation looks at. -/
def tmps (l : List Opd) : List Nat := l.filterMap fun | .tmp t => some t | _ => none
def AO.looks (o : AO) : List Nat := tmps (opds o.ai) ++ (match o.g with | some (t, _) => [t] | none => [])
theorem stepR_mono {P : Program} {bo : Bool} {σ σ' : FS} {bb br : Nat} {o : AO} {r : Res} (hL : ∀ t ∈ o.looks, σ'.tm t = σ.tm t) (hB : SubAt (RdB (lookT σ.tm) o.ai) σ.bx σ'.bx) (hR : SubAt (RdR bo (lookT σ.tm) o.ai) σ.rw σ'.rw) (h : StepR P bo σ bb br o r) : StepR P bo σ' bb br o r := by
  have hL1 : ∀ x ∈ opds o.ai, lookT σ'.tm x = lookT σ.tm x := fun x hx => by
    cases x with
    | tmp t => exact hL t (List.mem_append_left _ (by simp only [tmps, List.mem_filterMap]; exact ⟨_, hx, rfl⟩))
    | cst v => rfl
  unfold StepR at h ⊢
  split at h
  · exact opR_mono hL1 hB hR h
  · rename_i t want hg
    obtain ⟨G, h1, r0, h2, h3⟩ := h
    rw [hL t (by simp [AO.looks, hg])]
    exact ⟨G, h1, r0, fun e => opR_mono hL1 hB hR (h2 e), h3⟩
end Go.Proofs.Ytjacmhaeemhinaa

namespace Go.Proofs.Ytjacmhaeemhinaa
open Go.RowKit
set_option linter.unusedVariables false

/-! ### What an operation changes -/
def UpIn (bx : Nat → Option (List AV)) (rw : Nat → Option ARow) (bb nb br nr : Nat) (eB eR : Bool) (u : Upd) : Prop :=
  match u with
  | .B b _ => (eB = true ∧ ∃ c, bx b = some c) ∨ (bb ≤ b ∧ b < bb + nb)
  | .R b _ => (eR = true ∧ ∃ c, rw b = some c) ∨ (br ≤ b ∧ b < br + nr)
theorem frzUp_in {rw : Nat → Option ARow} {ids : List Nat} (hi : ∀ b ∈ ids, ∃ r, rw b = some r) {u : Upd} (hu : u ∈ frzUp rw ids) : ∃ b r, u = .R b r ∧ ∃ c, rw b = some c := by
  obtain ⟨b, hb, rfl⟩ := List.mem_map.1 hu
  exact ⟨b, _, rfl, hi b hb⟩
theorem ai_up {bo : Bool} {L : Opd → AV} {bx : Nat → Option (List AV)} {rw : Nat → Option ARow} {bb br : Nat} {ai : AI} (hok : (aistep bo L bx rw bb br ai).ok) : ∀ u ∈ (aistep bo L bx rw bb br ai).up, UpIn bx rw bb (aistep bo L bx rw bb br ai).nb br (aistep bo L bx rw bb br ai).nr (wB ai) (wR ai) u := by
  cases ai with
  | newb cells => intro u hu; simp [aistep] at hu; subst hu; exact .inr ⟨Nat.le_refl _, Nat.lt_succ_self _⟩
  | newa cells => intro u hu; simp [aistep] at hu; subst hu; exact .inr ⟨Nat.le_refl _, Nat.lt_succ_self _⟩
  | box x => intro u hu; simp [aistep] at hu; subst hu; exact .inr ⟨Nat.le_refl _, Nat.lt_succ_self _⟩
  | boxa x =>
    simp only [aistep] at hok ⊢
    split at hok
    · intro u hu; simp at hu; subst hu; exact .inr ⟨Nat.le_refl _, Nat.lt_succ_self _⟩
    · exact hok.elim
  | bsl k xs =>
    simp only [aistep] at hok ⊢
    split at hok
    · rename_i es hes
      intro u hu
      rcases List.mem_append.1 hu with hu | hu
      · obtain ⟨b, r, rfl, hc⟩ := frzUp_in (fun b hb => by
          obtain ⟨x, hx, hbx⟩ := List.mem_flatMap.1 hb
          obtain ⟨hlen, hget⟩ := mapM_get hes
          obtain ⟨i, hi, e1⟩ := List.getElem_of_mem hx
          exact frzV_ids (hget i x _ (by rw [List.getElem?_eq_getElem hi, e1]) (List.getElem?_eq_getElem (by omega))) b hbx) hu
        exact .inl ⟨rfl, hc⟩
      · simp at hu; subst hu; exact .inr ⟨Nat.le_refl _, Nat.lt_succ_self _⟩
    · exact hok.elim
  | load g n a =>
    have e : ∀ cs, (loadC g n cs).up = [] := fun cs => by cases g <;> rfl
    intro u hu
    simp only [aistep] at hu
    split at hu <;> (try split at hu) <;> (first | (simp only [e] at hu; cases hu) | cases hu)
  | store n a x =>
    simp only [aistep] at hok ⊢
    split at hok
    · split at hok
      · rename_i cells hb; intro u hu; simp at hu; subst hu; exact .inl ⟨rfl, _, hb⟩
      · exact hok.elim
    · split at hok
      · rename_i r v' hb hz
        intro u hu
        rcases List.mem_append.1 hu with hu | hu
        · obtain ⟨b', r', rfl, hc⟩ := frzUp_in (frzV_ids hz) hu
          exact .inl ⟨rfl, hc⟩
        · simp at hu; subst hu; exact .inl ⟨rfl, _, hb⟩
      · exact hok.elim
    · split at hok
      · rename_i r l hb hl; intro u hu; simp at hu; subst hu; exact .inl ⟨rfl, _, hb⟩
      · exact hok.elim
    · exact hok.elim
  | mvL x =>
    simp only [aistep] at hok ⊢
    split at hok
    · split at hok
      · rename_i r hb; intro u hu; simp at hu; subst hu; exact .inl ⟨rfl, _, hb⟩
      · exact hok.elim
    · exact hok.elim
  | mks k by_ z x y =>
    simp only [aistep] at hok ⊢
    split at hok
    · intro u hu; simp at hu; subst hu; exact .inr ⟨Nat.le_refl _, Nat.lt_succ_self _⟩
    · exact hok.elim
  | app k by_ x y =>
    simp only [aistep] at hok ⊢
    split at hok
    · split at hok
      · intro u hu; simp at hu; subst hu; exact .inr ⟨Nat.le_refl _, Nat.lt_succ_self _⟩
      · split at hok
        · rename_i r hb
          intro u hu; simp at hu
          rcases hu with rfl | rfl
          · exact .inl ⟨rfl, _, hb⟩
          · exact .inr ⟨Nat.le_refl _, Nat.lt_succ_self _⟩
        · exact hok.elim
      · intro u hu; cases hu
      · split at hok
        · rename_i r hb
          intro u hu; simp at hu; subst hu; exact .inl ⟨rfl, _, hb⟩
        · exact hok.elim
      · exact hok.elim
    · exact hok.elim
  | appz k by_ z x y =>
    simp only [aistep] at hok ⊢
    split at hok
    · split at hok
      · intro u hu; simp at hu; subst hu; exact .inr ⟨Nat.le_refl _, Nat.lt_succ_self _⟩
      · exact hok.elim
    · exact hok.elim
  | cpy k x y =>
    simp only [aistep] at hok ⊢
    split at hok
    · split at hok
      · rename_i r hb; intro u hu; simp at hu; subst hu; exact .inl ⟨rfl, _, hb⟩
      · exact hok.elim
    · intro u hu; cases hu
    · exact hok.elim
  | clr k z x =>
    simp only [aistep] at hok ⊢
    split at hok
    · split at hok
      · rename_i r hb; intro u hu; simp at hu; subst hu; exact .inl ⟨rfl, _, hb⟩
      · exact hok.elim
    · intro u hu; cases hu
    · exact hok.elim
  | pick | build | fadr | fld | iadS | iadA | idxA | idxT | slS | slA | slT | ext | conv | b2s | s2b | not | neg | com | bin | binB | binT | eqA | mkf | nchk | lenV | capV | lenT | min | max | mvS | isN =>
    intro u hu
    exfalso
    simp only [aistep] at hu
    repeat' (first | (cases hu; done) | split at hu)
  | _ => intro u hu; cases hu
theorem rowsUp_in : ∀ (H : List ARow) (m : Nat), ∀ u ∈ rowsUp m H, ∃ b r, u = .R b r ∧ m ≤ b ∧ b < m + H.length
  | [], _, u, hu => by cases hu
  | r :: H, m, u, hu => by
    rcases List.mem_cons.1 hu with rfl | hu
    · exact ⟨m, _, rfl, Nat.le_refl _, by simp⟩
    · obtain ⟨b, r', h1, h2, h3⟩ := rowsUp_in H (m + 1) u hu
      exact ⟨b, r', h1, by omega, by simp; omega⟩
theorem opR_up {P : Program} {bo : Bool} {σ : FS} {bb br : Nat} {ai : AI} {r : Res} (h : OpR P bo σ bb br ai r) : ∀ u ∈ r.up, UpIn σ.bx σ.rw bb r.nb br r.nr (wB ai) (wR ai) u := by
  by_cases hc : isCall ai = true
  · cases ai <;> simp [isCall] at hc
    case call f xs =>
      obtain ⟨h1, args', v, H, _, h4, rfl⟩ := h
      intro u hu
      obtain ⟨b, r', rfl, h2, h3⟩ := rowsUp_in H br u hu
      exact .inr ⟨h2, h3⟩
    case callv x xs =>
      obtain ⟨h0, h1, f, caps, hf, args', v, H, h2, h3, h4, rfl⟩ := h
      intro u hu
      obtain ⟨b, r', rfl, h2, h3⟩ := rowsUp_in H br u hu
      exact .inr ⟨h2, h3⟩
  · have key : r = aistep bo (lookT σ.tm) σ.bx σ.rw bb br ai ∧ r.ok := by
      cases ai <;> first | exact h | (exact absurd rfl hc)
    obtain ⟨rfl, hok⟩ := key
    exact ai_up hok
theorem stepR_up {P : Program} {bo : Bool} {σ : FS} {bb br : Nat} {o : AO} {r : Res} (h : StepR P bo σ bb br o r) : ∀ u ∈ r.up, UpIn σ.bx σ.rw bb r.nb br r.nr (wB o.ai) (wR o.ai) u := by
  unfold StepR at h
  split at h
  · exact opR_up h
  · obtain ⟨G, _, r0, _, _, _, _, rfl⟩ := h
    intro u hu; cases hu

/-! ### Updates that do not meet -/
theorem ups_tm (σ : FS) : ∀ l : List Upd, (σ.ups l).tm = σ.tm := fun l => by
  induction l generalizing σ with
  | nil => rfl
  | cons u l ih => show ((σ.upd u).ups l).tm = _; rw [ih]; cases u <;> rfl
theorem ups_bx_ne {σ : FS} {l : List Upd} {b : Nat} (h : ∀ u ∈ l, ∀ b' c, u = .B b' c → b' ≠ b) : (σ.ups l).bx b = σ.bx b := by
  induction l generalizing σ with
  | nil => rfl
  | cons u l ih =>
    show ((σ.upd u).ups l).bx b = _
    rw [ih fun v hv => h v (List.mem_cons_of_mem _ hv)]
    cases u with
    | B b' c => have := h _ (List.mem_cons_self ..) b' c rfl; simp [FS.upd, FS.setB, Ne.symm this]
    | R b' c => rfl
theorem ups_rw_ne {σ : FS} {l : List Upd} {b : Nat} (h : ∀ u ∈ l, ∀ b' c, u = .R b' c → b' ≠ b) : (σ.ups l).rw b = σ.rw b := by
  induction l generalizing σ with
  | nil => rfl
  | cons u l ih =>
    show ((σ.upd u).ups l).rw b = _
    rw [ih fun v hv => h v (List.mem_cons_of_mem _ hv)]
    cases u with
    | R b' c => have := h _ (List.mem_cons_self ..) b' c rfl; simp [FS.upd, FS.setR, Ne.symm this]
    | B b' c => rfl
/-- What a list of updates leaves at a number hangs on what was there alone if it does not write it. -/
theorem ups_bx_at {σ τ : FS} {l : List Upd} {b : Nat} (h : σ.bx b = τ.bx b) : (σ.ups l).bx b = (τ.ups l).bx b := by
  induction l generalizing σ τ with
  | nil => exact h
  | cons u l ih =>
    refine ih (σ := σ.upd u) (τ := τ.upd u) ?_
    cases u with
    | B b' c => simp only [FS.upd, FS.setB]; split <;> first | rfl | exact h
    | R b' c => exact h
theorem ups_rw_at {σ τ : FS} {l : List Upd} {b : Nat} (h : σ.rw b = τ.rw b) : (σ.ups l).rw b = (τ.ups l).rw b := by
  induction l generalizing σ τ with
  | nil => exact h
  | cons u l ih =>
    refine ih (σ := σ.upd u) (τ := τ.upd u) ?_
    cases u with
    | R b' c => simp only [FS.upd, FS.setR]; split <;> first | rfl | exact h
    | B b' c => exact h
theorem FS.ext' {σ τ : FS} (h1 : ∀ t, σ.tm t = τ.tm t) (h2 : ∀ b, σ.bx b = τ.bx b) (h3 : ∀ b, σ.rw b = τ.rw b) : σ = τ := by
  cases σ; cases τ
  congr
  · exact funext h1
  · exact funext h2
  · exact funext h3
theorem put_tm (σ : FS) (d : Option Nat) (v : AV) (t : Nat) : (σ.put d v).tm t = if d = some t then v else σ.tm t := by
  cases d with
  | none => simp [FS.put]
  | some u => simp only [FS.put, Option.some.injEq]; by_cases h : t = u <;> simp [h, eq_comm]
theorem put_bx (σ : FS) (d : Option Nat) (v : AV) : (σ.put d v).bx = σ.bx ∧ (σ.put d v).rw = σ.rw := by cases d <;> exact ⟨rfl, rfl⟩

/-! ### The run in the order of the text -/
structure Trace (P : Program) (bo : Bool) (l : List AO) (T : Nat → FS) (r : Nat → Res) (bb br : Nat → Nat) : Prop where
  step : ∀ (i : Nat) (o : AO), l[i]? = some o → StepR P bo (T i) (bb i) (br i) o (r i) ∧ T (i + 1) = ((T i).ups (r i).up).put o.dst (r i).av ∧ bb (i + 1) = bb i + (r i).nb ∧ br (i + 1) = br i + (r i).nr
  b0 : ∀ b c, (T 0).bx b = some c → b < bb 0
  r0 : ∀ b c, (T 0).rw b = some c → b < br 0

section
variable {P : Program} {bo : Bool} {l : List AO} {T : Nat → FS} {r : Nat → Res} {bb br : Nat → Nat} (tr : Trace P bo l T r bb br)
include tr
theorem Trace.mono {i j : Nat} (hij : i ≤ j) (hj : j ≤ l.length) : bb i ≤ bb j ∧ br i ≤ br j := by
  induction j with
  | zero => have : i = 0 := by omega
            subst this; exact ⟨Nat.le_refl _, Nat.le_refl _⟩
  | succ j ih =>
    rcases Nat.lt_or_ge j i with h | h
    · have : i = j + 1 := by omega
      subst this; exact ⟨Nat.le_refl _, Nat.le_refl _⟩
    · obtain ⟨h1, h2⟩ := ih h (by omega)
      obtain ⟨_, _, h3, h4⟩ := tr.step j _ (List.getElem?_eq_getElem (show j < l.length by omega))
      omega
theorem Trace.bnd (i : Nat) (hi : i ≤ l.length) : (∀ b c, (T i).bx b = some c → b < bb i) ∧ (∀ b c, (T i).rw b = some c → b < br i) := by
  induction i with
  | zero => exact ⟨tr.b0, tr.r0⟩
  | succ i ih =>
    obtain ⟨h1, h2⟩ := ih (by omega)
    obtain ⟨s1, s2, s3, s4⟩ := tr.step i _ (List.getElem?_eq_getElem (show i < l.length by omega))
    have hup := stepR_up s1
    refine ⟨fun b c e => ?_, fun b c e => ?_⟩
    · rw [s2, (put_bx _ _ _).1] at e
      by_cases hb : b < bb (i + 1)
      · exact hb
      · rw [ups_bx_ne (fun u hu b' c' he => ?_)] at e
        · have := h1 b c e; omega
        · have := hup u hu; subst he
          rcases this with ⟨_, c2, h⟩ | h
          · have := h1 _ _ h; omega
          · omega
    · rw [s2, (put_bx _ _ _).2] at e
      by_cases hb : b < br (i + 1)
      · exact hb
      · rw [ups_rw_ne (fun u hu b' c' he => ?_)] at e
        · have := h2 b c e; omega
        · have := hup u hu; subst he
          rcases this with ⟨_, c2, h⟩ | h
          · have := h2 _ _ h; omega
          · omega
end

def isNew (bb br : Nat) : Upd → Bool
  | .B b _ => decide (bb ≤ b)
  | .R b _ => decide (br ≤ b)
/-- The state when the operations of S are done: what the others make is there, but nowhere. -/
def GS (l : List AO) (σ0 : FS) (r : Nat → Res) (bb br : Nat → Nat) (S : Nat → Bool) : Nat → FS
  | 0 => σ0
  | i + 1 => if S i then ((GS l σ0 r bb br S i).ups (r i).up).put ((l[i]?).bind (·.dst)) (r i).av else (GS l σ0 r bb br S i).ups ((r i).up.filter (isNew (bb i) (br i)))

/-- New rows, of a call's too. -/
def alC (ai : AI) : Bool := alR ai || isCall ai
theorem ai_num {bo : Bool} {L : Opd → AV} {bx : Nat → Option (List AV)} {rw : Nat → Option ARow} {bb br : Nat} {ai : AI} (hok : (aistep bo L bx rw bb br ai).ok) : (alB ai = false → (aistep bo L bx rw bb br ai).nb = 0) ∧ (alR ai = false → (aistep bo L bx rw bb br ai).nr = 0) := by
  have e : ∀ g n cs, (loadC g n cs).nb = 0 ∧ (loadC g n cs).nr = 0 := fun g n cs => by cases g <;> exact ⟨rfl, rfl⟩
  refine ⟨fun h => ?_, fun h => ?_⟩ <;> cases ai <;> first | (cases h; done) | rfl | skip
  all_goals
    simp only [aistep] at hok ⊢
    repeat' (first | rfl | exact (e _ _ _).1 | exact (e _ _ _).2 | exact hok.elim | split at hok)
theorem opR_num {P : Program} {bo : Bool} {σ : FS} {bb br : Nat} {ai : AI} {r : Res} (h : OpR P bo σ bb br ai r) : (alB ai = false → r.nb = 0) ∧ (alC ai = false → r.nr = 0) := by
  by_cases hc : isCall ai = true
  · refine ⟨fun _ => ?_, fun e => by simp [alC, hc] at e⟩
    cases ai <;> simp [isCall] at hc
    case call f xs => obtain ⟨h1, args', v, H, _, h4, rfl⟩ := h; rfl
    case callv x xs => obtain ⟨h0, h1, f, caps, hf, args', v, H, h2, h3, h4, rfl⟩ := h; rfl
  · have key : r = aistep bo (lookT σ.tm) σ.bx σ.rw bb br ai ∧ r.ok := by
      cases ai <;> first | exact h | (exact absurd rfl hc)
    obtain ⟨rfl, hok⟩ := key
    obtain ⟨h1, h2⟩ := ai_num hok
    exact ⟨h1, fun e => h2 (by simp [alC] at e; exact e.1)⟩
theorem stepR_num {P : Program} {bo : Bool} {σ : FS} {bb br : Nat} {o : AO} {r : Res} (h : StepR P bo σ bb br o r) : (alB o.ai = false → r.nb = 0) ∧ (alC o.ai = false → r.nr = 0) := by
  unfold StepR at h
  split at h
  · exact opR_num h
  · obtain ⟨G, _, r0, _, _, _, _, rfl⟩ := h
    exact ⟨fun _ => rfl, fun _ => rfl⟩

def apart (bo : Bool) (x y : AO) : Bool :=
  (match x.dst with | some d => !(y.looks.contains d) && y.dst != some d | none => true) && (match y.dst with | some d => !(x.looks.contains d) | none => true) &&
  !(wB x.ai && (uB y.ai || wB y.ai || alB y.ai)) && !(wB y.ai && (uB x.ai || wB x.ai || alB x.ai)) && !(wR x.ai && (uR bo y.ai || wR y.ai || alC y.ai)) && !(wR y.ai && (uR bo x.ai || wR x.ai || alC x.ai))
structure Apart (bo : Bool) (x y : AO) : Prop where
  d : ∀ d, x.dst = some d → d ∉ y.looks ∧ y.dst ≠ some d
  b : wB x.ai = true → uB y.ai = false ∧ wB y.ai = false ∧ alB y.ai = false
  r : wR x.ai = true → uR bo y.ai = false ∧ wR y.ai = false ∧ alC y.ai = false
theorem apart_spec {bo : Bool} {x y : AO} (h : apart bo x y = true) : Apart bo x y ∧ Apart bo y x := by
  simp only [apart, Bool.and_eq_true, Bool.not_eq_true', Bool.and_eq_false_iff, Bool.or_eq_false_iff] at h
  obtain ⟨⟨⟨⟨⟨h1, h2⟩, h3⟩, h4⟩, h5⟩, h6⟩ := h
  refine ⟨⟨fun d e => ?_, fun e => ?_, fun e => ?_⟩, ⟨fun d e => ?_, fun e => ?_, fun e => ?_⟩⟩
  · rw [e] at h1; simp at h1; exact h1
  · rcases h3 with h | h
    · rw [e] at h; cases h
    · exact ⟨h.1.1, h.1.2, h.2⟩
  · rcases h5 with h | h
    · rw [e] at h; cases h
    · exact ⟨h.1.1, h.1.2, h.2⟩
  · rw [e] at h2; simp at h2
    refine ⟨h2, fun e2 => ?_⟩
    rw [e2] at h1; simp at h1; exact h1.2 e
  · rcases h4 with h | h
    · rw [e] at h; cases h
    · exact ⟨h.1.1, h.1.2, h.2⟩
  · rcases h6 with h | h
    · rw [e] at h; cases h
    · exact ⟨h.1.1, h.1.2, h.2⟩

/-- Does the reader look at what u changes? -/
def Rd (bo : Bool) (o : AO) (σ : FS) : Upd → Prop
  | .B b _ => RdB (lookT σ.tm) o.ai b
  | .R b _ => RdR bo (lookT σ.tm) o.ai b
def meet : Upd → Upd → Prop
  | .B b _, .B c _ => b = c
  | .R b _, .R c _ => b = c
  | _, _ => False
def dapart (x y : AO) : Bool := (match x.dst with | some d => !(y.looks.contains d) && y.dst != some d | none => true) && (match y.dst with | some d => !(x.looks.contains d) | none => true)
/-- x at i and y behind it at j may change places. -/
structure Free (bo : Bool) (T : Nat → FS) (r : Nat → Res) (bb br : Nat → Nat) (i j : Nat) (x y : AO) : Prop where
  d : dapart x y = true
  u : ∀ u ∈ (r i).up, isNew (bb i) (br i) u = true ∨ ¬ Rd bo y (T j) u
  v : ∀ v ∈ (r j).up, isNew (bb j) (br j) v = true ∨ (¬ Rd bo x (T i) v ∧ ∀ u ∈ (r i).up, ¬ meet u v)
theorem dapart_spec {x y : AO} (h : dapart x y = true) : (∀ d, x.dst = some d → d ∉ y.looks ∧ y.dst ≠ some d) ∧ (∀ d, y.dst = some d → d ∉ x.looks ∧ x.dst ≠ some d) := by
  simp only [dapart, Bool.and_eq_true] at h
  obtain ⟨h1, h2⟩ := h
  refine ⟨fun d e => ?_, fun d e => ?_⟩
  · rw [e] at h1; simp at h1; exact h1
  · rw [e] at h2; simp at h2
    refine ⟨h2, fun e2 => ?_⟩
    rw [e2] at h1; simp at h1; exact h1.2 e
theorem free_of_apart {P : Program} {bo : Bool} {l : List AO} {T : Nat → FS} {r : Nat → Res} {bb br : Nat → Nat} (tr : Trace P bo l T r bb br) {i j : Nat} {x y : AO} (hx : l[i]? = some x) (hy : l[j]? = some y) (h : apart bo x y = true) : Free bo T r bb br i j x y := by
  obtain ⟨a1, a2⟩ := apart_spec h
  have hd : dapart x y = true := by simp only [apart, Bool.and_eq_true] at h; simp only [dapart, Bool.and_eq_true]; exact h.1.1.1.1
  have sx := (tr.step i x hx).1
  have sy := (tr.step j y hy).1
  have ux := stepR_up sx
  have uy := stepR_up sy
  have nx := stepR_num sx
  refine ⟨hd, fun u hu => ?_, fun v hv => ?_⟩
  · cases u with
    | B b c =>
      rcases ux _ hu with ⟨e, _⟩ | e
      · exact .inr fun q => by have := rdB_uB q; rw [(a1.b e).1] at this; cases this
      · exact .inl (by simp [isNew]; exact e.1)
    | R b c =>
      rcases ux _ hu with ⟨e, _⟩ | e
      · exact .inr fun q => by have := rdR_uR q; rw [(a1.r e).1] at this; cases this
      · exact .inl (by simp [isNew]; exact e.1)
  · cases v with
    | B b c =>
      rcases uy _ hv with ⟨e, _⟩ | e
      · obtain ⟨k1, k2, k3⟩ := a2.b e
        refine .inr ⟨fun q => (by have := rdB_uB q; rw [k1] at this; cases this), fun u hu hm => ?_⟩
        cases u with
        | R _ _ => exact hm
        | B b' c' =>
          rcases ux _ hu with ⟨e', _⟩ | e'
          · rw [k2] at e'; cases e'
          · have := nx.1 k3; omega
      · exact .inl (by simp [isNew]; exact e.1)
    | R b c =>
      rcases uy _ hv with ⟨e, _⟩ | e
      · obtain ⟨k1, k2, k3⟩ := a2.r e
        refine .inr ⟨fun q => (by have := rdR_uR q; rw [k1] at this; cases this), fun u hu hm => ?_⟩
        cases u with
        | B _ _ => exact hm
        | R b' c' =>
          rcases ux _ hu with ⟨e', _⟩ | e'
          · rw [k2] at e'; cases e'
          · have := nx.2 k3; omega
      · exact .inl (by simp [isNew]; exact e.1)

section
variable {P : Program} {bo : Bool} {l : List AO} {T : Nat → FS} {r : Nat → Res} {bb br : Nat → Nat} (tr : Trace P bo l T r bb br) {S : Nat → Bool}
include tr
/-- All done. -/
theorem GS_all (hS : ∀ i, i < l.length → S i = true) (n : Nat) (hn : n ≤ l.length) : (GS l (T 0) r bb br) S n = T n := by
  induction n with
  | zero => rfl
  | succ n ih =>
    have e := List.getElem?_eq_getElem (show n < l.length by omega)
    obtain ⟨_, s2, _, _⟩ := tr.step n _ e
    simp only [GS]
    rw [if_pos (hS n (by omega)), ih (by omega), e, s2]; rfl
/-- None done: nothing that is somewhere has changed. -/
theorem GS_none (hS : ∀ i, i < l.length → S i = false) (n : Nat) (hn : n ≤ l.length) : ((GS l (T 0) r bb br) S n).tm = (T 0).tm ∧ (∀ b, b < bb 0 → ((GS l (T 0) r bb br) S n).bx b = (T 0).bx b) ∧ (∀ b, b < br 0 → ((GS l (T 0) r bb br) S n).rw b = (T 0).rw b) := by
  induction n with
  | zero => exact ⟨rfl, fun _ _ => rfl, fun _ _ => rfl⟩
  | succ n ih =>
    obtain ⟨h1, h2, h3⟩ := ih (by omega)
    have hm := tr.mono (Nat.zero_le n) (by omega)
    simp only [GS]
    rw [if_neg (by rw [hS n (by omega)]; simp)]
    refine ⟨by rw [ups_tm, h1], fun b hb => ?_, fun b hb => ?_⟩
    · rw [ups_bx_ne (fun u hu b' c he => ?_), h2 b hb]
      obtain ⟨_, hnew⟩ := List.mem_filter.1 hu
      subst he; simp [isNew] at hnew; omega
    · rw [ups_rw_ne (fun u hu b' c he => ?_), h3 b hb]
      obtain ⟨_, hnew⟩ := List.mem_filter.1 hu
      subst he; simp [isNew] at hnew; omega
end
end Go.Proofs.Ytjacmhaeemhinaa

namespace Go.Proofs.Ytjacmhaeemhinaa
open Go.RowKit
set_option linter.unusedVariables false

theorem ups_bx_filter {σ : FS} {l : List Upd} {p : Upd → Bool} {b : Nat} (h : ∀ u ∈ l, (∃ c, u = .B b c) → p u = true) : (σ.ups (l.filter p)).bx b = (σ.ups l).bx b := by
  induction l generalizing σ with
  | nil => rfl
  | cons u l ih =>
    have ih' := fun τ => ih (σ := τ) fun v hv => h v (List.mem_cons_of_mem _ hv)
    rw [List.filter_cons]
    split
    · exact ih' (σ.upd u)
    · rename_i hp
      rw [ih']
      show (σ.ups l).bx b = ((σ.upd u).ups l).bx b
      refine ups_bx_at ?_
      cases u with
      | B b' c =>
        have : b ≠ b' := fun e => hp (h _ (List.mem_cons_self ..) ⟨c, by rw [e]⟩)
        simp [FS.upd, FS.setB, this]
      | R b' c => rfl
theorem ups_rw_filter {σ : FS} {l : List Upd} {p : Upd → Bool} {b : Nat} (h : ∀ u ∈ l, (∃ c, u = .R b c) → p u = true) : (σ.ups (l.filter p)).rw b = (σ.ups l).rw b := by
  induction l generalizing σ with
  | nil => rfl
  | cons u l ih =>
    have ih' := fun τ => ih (σ := τ) fun v hv => h v (List.mem_cons_of_mem _ hv)
    rw [List.filter_cons]
    split
    · exact ih' (σ.upd u)
    · rename_i hp
      rw [ih']
      show (σ.ups l).rw b = ((σ.upd u).ups l).rw b
      refine ups_rw_at ?_
      cases u with
      | R b' c =>
        have : b ≠ b' := fun e => hp (h _ (List.mem_cons_self ..) ⟨c, by rw [e]⟩)
        simp [FS.upd, FS.setR, this]
      | B b' c => rfl
theorem ups_bx_touch {σ τ : FS} {l : List Upd} {b : Nat} (h : ∃ u ∈ l, ∃ c, u = .B b c) : (σ.ups l).bx b = (τ.ups l).bx b := by
  induction l generalizing σ τ with
  | nil => obtain ⟨u, hu, _⟩ := h; cases hu
  | cons u l ih =>
    show ((σ.upd u).ups l).bx b = ((τ.upd u).ups l).bx b
    by_cases h2 : ∃ u ∈ l, ∃ c, u = .B b c
    · exact ih h2
    · obtain ⟨v, hv, c, rfl⟩ := h
      rcases List.mem_cons.1 hv with rfl | hv
      · exact ups_bx_at (by simp [FS.upd, FS.setB])
      · exact absurd ⟨_, hv, c, rfl⟩ h2
theorem ups_rw_touch {σ τ : FS} {l : List Upd} {b : Nat} (h : ∃ u ∈ l, ∃ c, u = .R b c) : (σ.ups l).rw b = (τ.ups l).rw b := by
  induction l generalizing σ τ with
  | nil => obtain ⟨u, hu, _⟩ := h; cases hu
  | cons u l ih =>
    show ((σ.upd u).ups l).rw b = ((τ.upd u).ups l).rw b
    by_cases h2 : ∃ u ∈ l, ∃ c, u = .R b c
    · exact ih h2
    · obtain ⟨v, hv, c, rfl⟩ := h
      rcases List.mem_cons.1 hv with rfl | hv
      · exact ups_rw_at (by simp [FS.upd, FS.setR])
      · exact absurd ⟨_, hv, c, rfl⟩ h2
/-- Updates at numbers that do not meet commute. -/
theorem ups_comm {σ : FS} {l m : List Upd} (hB : ∀ b, (∃ u ∈ l, ∃ c, u = .B b c) → (∃ u ∈ m, ∃ c, u = .B b c) → False) (hR : ∀ b, (∃ u ∈ l, ∃ c, u = .R b c) → (∃ u ∈ m, ∃ c, u = .R b c) → False) : (σ.ups l).ups m = (σ.ups m).ups l := by
  refine FS.ext' (fun t => by simp only [ups_tm]) (fun b => ?_) (fun b => ?_)
  · by_cases h1 : ∃ u ∈ l, ∃ c, u = Upd.B b c
    · have h2 : ¬ ∃ u ∈ m, ∃ c, u = Upd.B b c := fun h => hB b h1 h
      rw [ups_bx_ne (l := m) (fun u hu b' c e he => h2 ⟨u, hu, c, by rw [e, he]⟩), ups_bx_touch (σ := σ) (τ := σ.ups m) h1]
    · rw [ups_bx_ne (l := l) (σ := σ.ups m) (fun u hu b' c e he => h1 ⟨u, hu, c, by rw [e, he]⟩)]
      exact ups_bx_at (ups_bx_ne (l := l) (fun u hu b' c e he => h1 ⟨u, hu, c, by rw [e, he]⟩))
  · by_cases h1 : ∃ u ∈ l, ∃ c, u = Upd.R b c
    · have h2 : ¬ ∃ u ∈ m, ∃ c, u = Upd.R b c := fun h => hR b h1 h
      rw [ups_rw_ne (l := m) (fun u hu b' c e he => h2 ⟨u, hu, c, by rw [e, he]⟩), ups_rw_touch (σ := σ) (τ := σ.ups m) h1]
    · rw [ups_rw_ne (l := l) (σ := σ.ups m) (fun u hu b' c e he => h1 ⟨u, hu, c, by rw [e, he]⟩)]
      exact ups_rw_at (ups_rw_ne (l := l) (fun u hu b' c e he => h1 ⟨u, hu, c, by rw [e, he]⟩))
theorem put_ups (σ : FS) (d : Option Nat) (v : AV) (l : List Upd) : (σ.put d v).ups l = (σ.ups l).put d v := by
  refine FS.ext' (fun t => ?_) (fun b => ?_) (fun b => ?_)
  · rw [ups_tm, put_tm, put_tm, ups_tm]
  · rw [(put_bx _ _ _).1]; exact ups_bx_at (by rw [(put_bx _ _ _).1])
  · rw [(put_bx _ _ _).2]; exact ups_rw_at (by rw [(put_bx _ _ _).2])
theorem put_put_comm (σ : FS) (d e : Option Nat) (v u : AV) (h : ∀ t, d = some t → e ≠ some t) : (σ.put d v).put e u = (σ.put e u).put d v := by
  refine FS.ext' (fun t => ?_) (fun b => by simp only [(put_bx _ _ _).1]) (fun b => by simp only [(put_bx _ _ _).2])
  simp only [put_tm]
  by_cases h1 : d = some t
  · have := h t h1; simp [h1, this]
  · simp [h1]

section
variable {P : Program} {bo : Bool} {l : List AO} {T : Nat → FS} {r : Nat → Res} {bb br : Nat → Nat} (tr : Trace P bo l T r bb br) {bef : Nat → List Nat}
  (ind : ∀ (i j : Nat) (x y : AO), i < j → l[i]? = some x → l[j]? = some y → i ∈ bef j ∨ Free bo T r bb br i j x y) {S : Nat → Bool} (cl : ∀ i, S i = true → ∀ k ∈ bef i, S k = true) {j : Nat} {y : AO} (hj : l[j]? = some y) (hSj : S j = false) (hb : ∀ k ∈ bef j, S k = true)
include tr ind hb
omit cl hSj tr in
/-- Ahead of j. -/
theorem ahead {i : Nat} {x : AO} (hi : i < j) (hx : l[i]? = some x) (hj : l[j]? = some y) : S i = true ∨ Free bo T r bb br i j x y := by
  rcases ind i j x y hi hx hj with h | h
  · exact .inl (hb i h)
  · exact .inr h
include cl hSj
omit tr hb in
/-- Behind j. -/
theorem behind {i : Nat} {x : AO} (hi : j < i) (hx : l[i]? = some x) (hj : l[j]? = some y) (hS : S i = true) : Free bo T r bb br j i y x := by
  rcases ind j i y x hi hj hx with h | h
  · have := cl i hS j h; rw [hSj] at this; cases this
  · exact h

theorem gs_tm (hj : l[j]? = some y) {t : Nat} (ht : t ∈ y.looks) : ((GS l (T 0) r bb br) S l.length).tm t = (T j).tm t := by
  have hjl := (List.getElem?_eq_some_iff.1 hj).1
  have h1 : ∀ i, i ≤ j → ((GS l (T 0) r bb br) S i).tm t = (T i).tm t := fun i hi => by
    induction i with
    | zero => rfl
    | succ i ih =>
      have hx := List.getElem?_eq_getElem (show i < l.length by omega)
      obtain ⟨_, s2, _, _⟩ := tr.step i _ hx
      have ih' := ih (by omega)
      simp only [GS]
      rw [s2, put_tm, ups_tm]
      split
      · rw [put_tm, ups_tm, hx, Option.bind_some, ih']
      · rename_i hSi
        rw [ups_tm, ih']
        rcases ahead ind hb (show i < j by omega) hx hj with h | h
        · exact absurd h hSi
        · rw [if_neg fun e => ((dapart_spec h.d).1 t e).1 ht]
  have h2 : ∀ m, j ≤ m → m ≤ l.length → ((GS l (T 0) r bb br) S m).tm t = (T j).tm t := fun m h0 hm => by
    induction m with
    | zero => rw [h1 0 (by omega), show j = 0 by omega]
    | succ m ih =>
      rcases Nat.lt_or_ge m j with hlt | hge
      · rw [h1 (m + 1) (by omega), show m + 1 = j by omega]
      · have hx := List.getElem?_eq_getElem (show m < l.length by omega)
        simp only [GS]
        split
        · rename_i hSm
          rw [put_tm, ups_tm, ih hge (by omega), hx, Option.bind_some]
          have hne : m ≠ j := by rintro rfl; rw [hSj] at hSm; cases hSm
          have := behind ind cl hSj (show j < m by omega) hx hj hSm
          rw [if_neg fun e => ((dapart_spec this.d).2 t e).1 ht]
        · rw [ups_tm, ih hge (by omega)]
  exact h2 l.length (by omega) (Nat.le_refl _)

theorem gs_bx (hj : l[j]? = some y) : SubAt (RdB (lookT (T j).tm) y.ai) (T j).bx ((GS l (T 0) r bb br) S l.length).bx := by
  intro b hb0
  have hjl := (List.getElem?_eq_some_iff.1 hj).1
  have h1 : ∀ i, i ≤ j → ((GS l (T 0) r bb br) S i).bx b = (T i).bx b := fun i hi => by
    induction i with
    | zero => rfl
    | succ i ih =>
      have hx := List.getElem?_eq_getElem (show i < l.length by omega)
      obtain ⟨s1, s2, _, _⟩ := tr.step i _ hx
      simp only [GS]
      rw [s2, (put_bx _ _ _).1]
      split
      · rw [(put_bx _ _ _).1]; exact ups_bx_at (ih (by omega))
      · rename_i hSi
        rw [ups_bx_filter]
        · exact ups_bx_at (ih (by omega))
        · rintro u hu' ⟨c, rfl⟩
          rcases ahead ind hb (show i < j by omega) hx hj with h | h
          · exact absurd h hSi
          · exact (h.u _ hu').elim id fun q => absurd hb0 q
  have h2 : ∀ m, j ≤ m → m ≤ l.length → b < bb j → ((GS l (T 0) r bb br) S m).bx b = (T j).bx b := fun m h0 hm hbj => by
    induction m with
    | zero => rw [h1 0 (by omega), show j = 0 by omega]
    | succ m ih =>
      rcases Nat.lt_or_ge m j with hlt | hge
      · rw [h1 (m + 1) (by omega), show m + 1 = j by omega]
      · have hx := List.getElem?_eq_getElem (show m < l.length by omega)
        obtain ⟨s1, s2, _, _⟩ := tr.step m _ hx
        have hm1 := (tr.mono hge (by omega)).1
        simp only [GS]
        split
        · rename_i hSm
          have hne : m ≠ j := by rintro rfl; rw [hSj] at hSm; cases hSm
          have h := behind ind cl hSj (show j < m by omega) hx hj hSm
          rw [(put_bx _ _ _).1, ups_bx_ne, ih hge (by omega)]
          rintro u hu' b' c rfl rfl
          rcases h.v _ hu' with e | e
          · simp [isNew] at e; omega
          · exact e.1 hb0
        · rw [ups_bx_ne, ih hge (by omega)]
          rintro u hu' b' c rfl rfl
          have := (List.mem_filter.1 hu').2
          simp [isNew] at this; omega
  intro c e
  rw [h2 l.length (by omega) (Nat.le_refl _) ((tr.bnd j (by omega)).1 b c e)]; exact e
theorem gs_rw (hj : l[j]? = some y) : SubAt (RdR bo (lookT (T j).tm) y.ai) (T j).rw ((GS l (T 0) r bb br) S l.length).rw := by
  intro b hb0
  have hjl := (List.getElem?_eq_some_iff.1 hj).1
  have h1 : ∀ i, i ≤ j → ((GS l (T 0) r bb br) S i).rw b = (T i).rw b := fun i hi => by
    induction i with
    | zero => rfl
    | succ i ih =>
      have hx := List.getElem?_eq_getElem (show i < l.length by omega)
      obtain ⟨s1, s2, _, _⟩ := tr.step i _ hx
      simp only [GS]
      rw [s2, (put_bx _ _ _).2]
      split
      · rw [(put_bx _ _ _).2]; exact ups_rw_at (ih (by omega))
      · rename_i hSi
        rw [ups_rw_filter]
        · exact ups_rw_at (ih (by omega))
        · rintro u hu' ⟨c, rfl⟩
          rcases ahead ind hb (show i < j by omega) hx hj with h | h
          · exact absurd h hSi
          · exact (h.u _ hu').elim id fun q => absurd hb0 q
  have h2 : ∀ m, j ≤ m → m ≤ l.length → b < br j → ((GS l (T 0) r bb br) S m).rw b = (T j).rw b := fun m h0 hm hbj => by
    induction m with
    | zero => rw [h1 0 (by omega), show j = 0 by omega]
    | succ m ih =>
      rcases Nat.lt_or_ge m j with hlt | hge
      · rw [h1 (m + 1) (by omega), show m + 1 = j by omega]
      · have hx := List.getElem?_eq_getElem (show m < l.length by omega)
        obtain ⟨s1, s2, _, _⟩ := tr.step m _ hx
        have hm1 := (tr.mono hge (by omega)).2
        simp only [GS]
        split
        · rename_i hSm
          have hne : m ≠ j := by rintro rfl; rw [hSj] at hSm; cases hSm
          have h := behind ind cl hSj (show j < m by omega) hx hj hSm
          rw [(put_bx _ _ _).2, ups_rw_ne, ih hge (by omega)]
          rintro u hu' b' c rfl rfl
          rcases h.v _ hu' with e | e
          · simp [isNew] at e; omega
          · exact e.1 hb0
        · rw [ups_rw_ne, ih hge (by omega)]
          rintro u hu' b' c rfl rfl
          have := (List.mem_filter.1 hu').2
          simp [isNew] at this; omega
  intro c e
  rw [h2 l.length (by omega) (Nat.le_refl _) ((tr.bnd j (by omega)).2 b c e)]; exact e

/-- j done, too. -/
theorem gs_done (hj : l[j]? = some y) : (((GS l (T 0) r bb br) S l.length).ups (r j).up).put y.dst (r j).av = (GS l (T 0) r bb br) (fun i => S i || i == j) l.length := by
  have hjl := (List.getElem?_eq_some_iff.1 hj).1
  obtain ⟨sj1, sj2, sj3, sj4⟩ := tr.step j y hj
  have hupj := stepR_up sj1
  have hnumj := stepR_num sj1
  have hbnd := tr.bnd j (by omega)
  have h1 : ∀ i, i ≤ j → (GS l (T 0) r bb br) (fun i => S i || i == j) i = (GS l (T 0) r bb br) S i := fun i hi => by
    induction i with
    | zero => rfl
    | succ i ih =>
      simp only [GS]
      rw [ih (by omega)]
      have : (i == j) = false := by simp; omega
      simp only [this, Bool.or_false]
  -- the numbers of j's updates
  have nB : ∀ b, (∃ u ∈ (r j).up, ∃ c, u = Upd.B b c) → b < bb (j + 1) := by
    rintro b ⟨u, hu, c, rfl⟩
    rcases hupj _ hu with ⟨e, c2, h⟩ | e
    · have := hbnd.1 b c2 h; omega
    · omega
  have nR : ∀ b, (∃ u ∈ (r j).up, ∃ c, u = Upd.R b c) → b < br (j + 1) := by
    rintro b ⟨u, hu, c, rfl⟩
    rcases hupj _ hu with ⟨e, c2, h⟩ | e
    · have := hbnd.2 b c2 h; omega
    · omega
  have h2 : ∀ m, j + 1 ≤ m → m ≤ l.length → (GS l (T 0) r bb br) (fun i => S i || i == j) m = (((GS l (T 0) r bb br) S m).ups (r j).up).put y.dst (r j).av := fun m h0 hm => by
    induction m with
    | zero => omega
    | succ m ih =>
      rcases Nat.lt_or_ge m (j + 1) with hlt | hge
      · have hmj : m = j := by omega
        subst hmj
        simp only [GS]
        rw [if_pos (by simp), if_neg (by rw [hSj]; simp), h1 m (Nat.le_refl _), hj, Option.bind_some]
        congr 1
        refine FS.ext' (fun t => by simp only [ups_tm]) (fun b => ?_) (fun b => ?_)
        · by_cases ht : ∃ u ∈ (r m).up, ∃ c, u = Upd.B b c
          · exact ups_bx_touch ht
          · refine ups_bx_at (ups_bx_ne fun u hu b' c e he => ht ⟨u, (List.mem_filter.1 hu).1, c, by rw [e, he]⟩).symm
        · by_cases ht : ∃ u ∈ (r m).up, ∃ c, u = Upd.R b c
          · exact ups_rw_touch ht
          · refine ups_rw_at (ups_rw_ne fun u hu b' c e he => ht ⟨u, (List.mem_filter.1 hu).1, c, by rw [e, he]⟩).symm
      · have hx := List.getElem?_eq_getElem (show m < l.length by omega)
        obtain ⟨s1, _, _, _⟩ := tr.step m _ hx
        have hupm := stepR_up s1
        have hmono := tr.mono hge (by omega)
        have hne : (m == j) = false := by simp; omega
        simp only [GS]
        rw [ih hge (by omega)]
        simp only [hne, Bool.or_false]
        split
        · rename_i hSm
          have fr := behind ind cl hSj (show j < m by omega) hx hj hSm
          rw [hx, Option.bind_some, put_ups, put_ups, put_put_comm _ _ _ _ _ (fun t e => ((dapart_spec fr.d).1 t e).2)]
          congr 2
          refine ups_comm (fun b hb1 hb2 => ?_) (fun b hb1 hb2 => ?_)
          · have q1 := nB b hb1
            obtain ⟨u, hu, c, rfl⟩ := hb2
            obtain ⟨u', hu', c', rfl⟩ := hb1
            rcases fr.v _ hu with e | e
            · simp [isNew] at e; omega
            · exact e.2 _ hu' rfl
          · have q1 := nR b hb1
            obtain ⟨u, hu, c, rfl⟩ := hb2
            obtain ⟨u', hu', c', rfl⟩ := hb1
            rcases fr.v _ hu with e | e
            · simp [isNew] at e; omega
            · exact e.2 _ hu' rfl
        · rw [put_ups]
          congr 1
          refine ups_comm (fun b hb1 hb2 => ?_) (fun b hb1 hb2 => ?_)
          · have q1 := nB b hb1
            obtain ⟨u, hu, c, rfl⟩ := hb2
            have := (List.mem_filter.1 hu).2
            simp [isNew] at this; omega
          · have q1 := nR b hb1
            obtain ⟨u, hu, c, rfl⟩ := hb2
            have := (List.mem_filter.1 hu).2
            simp [isNew] at this; omega
  exact (h2 l.length (by omega) (Nat.le_refl _)).symm
/-- The step of j, from there. -/
theorem gs_step (hj : l[j]? = some y) : StepR P bo ((GS l (T 0) r bb br) S l.length) (bb j) (br j) y (r j) :=
  stepR_mono (fun t ht => gs_tm tr ind cl hSj hb hj ht) (gs_bx tr ind cl hSj hb hj) (gs_rw tr ind cl hSj hb hj) (tr.step j y hj).1
end
end Go.Proofs.Ytjacmhaeemhinaa

namespace Go.Proofs.Ytjacmhaeemhinaa
open Go.RowKit
set_option linter.unusedVariables false

def compR (P : Program) (N : Nat) (ops : Array Oper) : Option (List AO) := ops.toList.mapM (compO P N ops)
def befFold (acc : List Nat) (m : Nat) (e : Edge) : Nat := if Region.binds .any e then Nat.lor (Nat.lor m (Nat.shiftLeft 1 e.on)) (acc.getD e.on 0) else m
/-- What stands ahead of each operation, as the bits of a number. -/
def befStep (acc : List Nat) (o : Oper) : List Nat := acc ++ [o.after.toList.foldl (befFold acc) 0]
def befs (ops : Array Oper) : List Nat := ops.toList.foldl befStep []
def edgesOk (ops : Array Oper) : Bool := ops.toList.zipIdx.all fun (o, i) => o.after.toList.all fun e => !Region.binds .any e || decide (e.on < i)
/-- The pairs that are not in order, and of which the text alone does not tell that they may change places. -/
def pairs (bo : Bool) (l : List AO) (bef : List Nat) : List (List Nat) := (List.range l.length).map fun j => (List.range j).filter fun i => !((bef.getD j 0).testBit i || (match l[i]?, l[j]? with | some x, some y => apart bo x y | _, _ => true))
def drawOk (ops : Array Oper) : Bool := edgesOk ops

def Closed (ops : Array Oper) (S : Nat → Bool) : Prop := ∀ i, S i = true → ∀ o e, ops[i]? = some o → e ∈ o.after → Region.binds .any e = true → S e.on = true
def BefGood (ops : Array Oper) (j k : Nat) : Prop := ∀ S : Nat → Bool, Closed ops S → (∀ o e, ops[j]? = some o → e ∈ o.after → Region.binds .any e = true → S e.on = true) → S k = true
theorem befFold_bit {acc : List Nat} : ∀ (es : List Edge) (m k : Nat), (es.foldl (befFold acc) m).testBit k = true → m.testBit k = true ∨ ∃ e ∈ es, Region.binds .any e = true ∧ (k = e.on ∨ (acc.getD e.on 0).testBit k = true)
  | [], m, k, h => .inl h
  | e :: es, m, k, h => by
    rcases befFold_bit es _ k h with q | ⟨e', he, q⟩
    · unfold befFold at q
      split at q
      · rename_i hb
        have q' : ((m ||| (1 <<< e.on)) ||| acc.getD e.on 0).testBit k = true := q
        rw [Nat.testBit_or, Nat.testBit_or, Nat.one_shiftLeft, Nat.testBit_two_pow] at q'
        simp only [Bool.or_eq_true, decide_eq_true_eq] at q'
        rcases q' with (q | q) | q
        · exact .inl q
        · exact .inr ⟨e, List.mem_cons_self .., hb, .inl q.symm⟩
        · exact .inr ⟨e, List.mem_cons_self .., hb, .inr q⟩
      · exact .inl q
    · exact .inr ⟨e', List.mem_cons_of_mem _ he, q⟩
theorem bef_good (ops : Array Oper) : ∀ (os : List Oper) (acc : List Nat), (∀ j k, (acc.getD j 0).testBit k = true → BefGood ops j k) → (∀ i, os[i]? = ops[acc.length + i]?) → ∀ j k, ((os.foldl befStep acc).getD j 0).testBit k = true → BefGood ops j k
  | [], acc, h, _, j, k, hk => h j k hk
  | o :: os, acc, h, ho, j, k, hk => by
    refine bef_good ops os (befStep acc o) (fun j k hk => ?_) (fun i => ?_) j k hk
    · unfold befStep at hk
      by_cases hj : j < acc.length
      · have : (acc ++ [o.after.toList.foldl (befFold acc) 0]).getD j 0 = acc.getD j 0 := by
          simp only [List.getD_eq_getElem?_getD]; rw [List.getElem?_append_left hj]
        rw [this] at hk; exact h j k hk
      · by_cases hj2 : j = acc.length
        · subst hj2
          have : (acc ++ [o.after.toList.foldl (befFold acc) 0]).getD acc.length 0 = o.after.toList.foldl (befFold acc) 0 := by
            simp [List.getD_eq_getElem?_getD]
          rw [this] at hk
          rcases befFold_bit _ _ _ hk with q | ⟨e, he, hb, q⟩
          · simp at q
          · intro S hS hready
            have ho0 : ops[acc.length]? = some o := by have := ho 0; simpa using this.symm
            have hon := hready o e ho0 (by simpa using he) hb
            rcases q with rfl | q
            · exact hon
            · exact h e.on k q S hS (fun o' e' h1 h2 h3 => hS e.on hon o' e' h1 h2 h3)
        · have : (acc ++ [o.after.toList.foldl (befFold acc) 0]).getD j 0 = 0 := by
            simp only [List.getD_eq_getElem?_getD]; rw [List.getElem?_eq_none (by simp; omega)]; rfl
          rw [this] at hk; simp at hk
    · have := ho (i + 1)
      simp only [List.getElem?_cons_succ] at this
      rw [this]; congr 1; simp [befStep]; omega
/-- The same, as lists. -/
def befL (ops : Array Oper) : List (List Nat) := (befs ops).map fun m => (List.range ops.size).filter fun i => m.testBit i
theorem befL_mem {ops : Array Oper} {j k : Nat} : k ∈ (befL ops).getD j [] ↔ k < ops.size ∧ ((befs ops).getD j 0).testBit k = true := by
  unfold befL
  simp only [List.getD_eq_getElem?_getD, List.getElem?_map]
  cases (befs ops)[j]? with
  | none => simp
  | some m => simp
theorem befs_good (ops : Array Oper) {j k : Nat} (hk : k ∈ (befL ops).getD j []) : BefGood ops j k :=
  bef_good ops ops.toList [] (fun j k hk => by simp [List.getD_eq_getElem?_getD] at hk) (fun i => by simp) j k (befL_mem.1 hk).2

section
variable {P : Program} {w0 : Base} {N : Nat} {ρ : Env} {F : Nat → Prop} {σ : FS} {a : Act} {w : World} {R : Option Nat}

/-- What is nowhere may be told of in any way. -/
theorem Sim.phantom (h : Sim w0 N ρ F σ a w) {τ : FS} (h1 : τ.tm = σ.tm) (h2 : ∀ b g, ρ.b b = some g → τ.bx b = σ.bx b) (h3 : ∀ b p, ρ.r b = some p → τ.rw b = σ.rw b) : Sim w0 N ρ F τ a w :=
  ⟨h.sz, h.df, fun t => by rw [h1]; exact h.tm t, fun b c g e1 e2 => h.bx b c g (by rw [← h2 b g e2]; exact e1) e2, fun b r p e1 e2 => h.rw b r p (by rw [← h3 b p e2]; exact e1) e2, h.ib,
    fun b b' p p' r r' e1 e2 e3 e4 => h.ir b b' p p' r r' e1 e2 (by rw [← h3 b p e1]; exact e3) (by rw [← h3 b' p' e2]; exact e4), h.ibr, h.lb, h.lr, h.fl, h.bel⟩

theorem compR_get {ops : Array Oper} {l : List AO} (h : compR P N ops = some l) : l.length = ops.size ∧ ∀ (i : Nat) (o : Oper) (x : AO), ops[i]? = some o → l[i]? = some x → compO P N ops o = some x := by
  obtain ⟨h1, h2⟩ := mapM_get h
  exact ⟨by simpa using h1, fun i o x e1 e2 => h2 i o x (by simpa using e1) e2⟩

theorem drawn_any {bo : Bool} {ops : Array Oper} {l : List AO} (hl : compR P N ops = some l) (hd : drawOk ops = true) {T : Nat → FS} {r : Nat → Res} {bb br : Nat → Nat} (tr : Trace P bo l T r bb br) (hfree : ∀ (i j : Nat) (x y : AO), i < j → l[i]? = some x → l[j]? = some y → i ∈ (pairs bo l (befs ops)).getD j [] → Free bo T r bb br i j x y) {F0 : Nat → Prop} {Q : Exit → Act → World → Prop}
    (hQ : ∀ ρ' F' a' w', (∀ x, F0 x → F' x) → (∀ x, F' x → F0 x ∨ ¬ w0.V x) → Sim w0 N ρ' F' (T l.length) a' w' → (∀ b, bb l.length ≤ b → ρ'.b b = none) → (∀ b, br l.length ≤ b → ρ'.r b = none) → Q .normal a' w') :
    ∀ (fuel : Nat) (listed : Array Bool) (a : Act) (w : World) (ρ : Env) (F : Nat → Prop), listed.size = ops.size → (∀ x, F0 x → F x) → (∀ x, F x → F0 x ∨ ¬ w0.V x) → Sim w0 N ρ F (GS l (T 0) r bb br (fun i => listed.getD i false) l.length) a w →
      (∀ j, j < l.length → listed.getD j false = false → (∀ b, bb j ≤ b → b < bb (j + 1) → ρ.b b = none) ∧ (∀ b, br j ≤ b → b < br (j + 1) → ρ.r b = none)) → (∀ b, bb l.length ≤ b → ρ.b b = none) → (∀ b, br l.length ≤ b → ρ.r b = none) →
      Closed ops (fun i => listed.getD i false) → (List.range l.length).countP (fun i => !listed.getD i false) ≤ fuel → wpAnyIn (Fe R) 0 P .any ops Q fuel listed a w := by
  obtain ⟨hlen, hcomp⟩ := compR_get hl
  have hedge : edgesOk ops = true := hd
  have ind : ∀ (i j : Nat) (x y : AO), i < j → l[i]? = some x → l[j]? = some y → i ∈ (befL ops).getD j [] ∨ Free bo T r bb br i j x y := fun i j x y hij hx hy => by
    by_cases h1 : i ∈ (befL ops).getD j []
    · exact .inl h1
    · refine .inr ?_
      by_cases h2 : apart bo x y = true
      · exact free_of_apart tr hx hy h2
      · refine hfree i j x y hij hx hy ?_
        have hj := (List.getElem?_eq_some_iff.1 hy).1
        unfold pairs
        rw [List.getD_eq_getElem?_getD, List.getElem?_map, List.getElem?_range hj]
        simp only [Option.map_some, Option.getD_some, List.mem_filter, List.mem_range, hx, hy, Bool.not_eq_true', Bool.or_eq_false_iff]
        refine ⟨hij, ?_, by simpa using h2⟩
        cases hc : ((befs ops).getD j 0).testBit i
        · rfl
        · exact absurd (befL_mem.2 ⟨by omega, hc⟩) h1
  have hedge' : ∀ (i : Nat) (o : Oper) (e : Edge), ops[i]? = some o → e ∈ o.after → Region.binds .any e = true → e.on < i := fun i o e h1 h2 h3 => by
    simp only [edgesOk, List.all_eq_true] at hedge
    have hmem : (o, i) ∈ ops.toList.zipIdx := by
      rw [List.mem_zipIdx_iff_getElem?]; simpa using h1
    have := hedge (o, i) hmem e (by simpa using h2)
    simpa [h3] using this
  have all_done : ∀ (listed : Array Bool), listed.size = ops.size → Region.ready .any ops listed = [] → ∀ i, i < l.length → listed.getD i false = true := fun listed hsz hready i => by
    induction i using Nat.strongRecOn with
    | _ i ih =>
      intro hi
      cases hli : listed.getD i false
      · exfalso
        have hio : ∃ o, ops[i]? = some o := ⟨_, Array.getElem?_eq_getElem (by omega)⟩
        obtain ⟨o, ho⟩ := hio
        have : i ∈ Region.ready .any ops listed := mem_ready.2 ⟨by
          have hh : i < listed.size := by omega
          simp [Array.getD, hh] at hli ⊢; exact hli, o, ho, fun e he hb => ih e.on (hedge' i o e ho he hb) (by have := hedge' i o e ho he hb; omega)⟩
        rw [hready] at this; cases this
      · rfl
  have finish : ∀ (listed : Array Bool) (a : Act) (w : World) (ρ : Env) (F : Nat → Prop), (∀ i, i < l.length → listed.getD i false = true) → (∀ x, F0 x → F x) → (∀ x, F x → F0 x ∨ ¬ w0.V x) → Sim w0 N ρ F (GS l (T 0) r bb br (fun i => listed.getD i false) l.length) a w → (∀ b, bb l.length ≤ b → ρ.b b = none) → (∀ b, br l.length ≤ b → ρ.r b = none) → Q .normal a w := fun listed a w ρ F hall f1 f2 hs hb hr => by
    rw [GS_all tr hall l.length (Nat.le_refl _)] at hs
    exact hQ ρ F a w f1 f2 hs hb hr
  intro fuel
  induction fuel with
  | zero =>
    intro listed a w ρ F hsz f1 f2 hs hnew hbB hbR hcl hcount
    have hall : ∀ i, i < l.length → listed.getD i false = true := fun i hi => by
      have h0 : (List.range l.length).countP (fun i => !listed.getD i false) = 0 := by omega
      rw [List.countP_eq_zero] at h0
      have := h0 i (by simpa using hi)
      simpa using this
    refine ⟨?_, finish listed a w ρ F hall f1 f2 hs hbB hbR⟩
    apply List.eq_nil_iff_forall_not_mem.2
    intro i hi
    obtain ⟨h1, o, ho, _⟩ := mem_ready.1 hi
    have hil : i < ops.size := (Array.getElem?_eq_some_iff.1 ho).1
    have := hall i (by omega)
    have hh : i < listed.size := by omega
    simp [Array.getD, hh] at this h1
    rw [this] at h1; cases h1
  | succ fuel ih =>
    intro listed a w ρ F hsz f1 f2 hs hnew hbB hbR hcl hcount
    refine ⟨fun hready => finish listed a w ρ F (all_done listed hsz hready) f1 f2 hs hbB hbR, fun j hj => ?_⟩
    obtain ⟨hjun, o, ho, hjr⟩ := mem_ready.1 hj
    have hjl : j < l.length := by have := (Array.getElem?_eq_some_iff.1 ho).1; omega
    have hh : j < listed.size := by omega
    have hSj : listed.getD j false = false := by simp [Array.getD, hh] at hjun ⊢; exact hjun
    have hy := List.getElem?_eq_getElem hjl
    have hco := hcomp j o _ ho hy
    have hbj : ∀ k ∈ (befL ops).getD j [], (fun i => listed.getD i false) k = true := fun k hk => befs_good ops hk _ hcl (fun o' e h1 h2 h3 => by rw [ho] at h1; cases h1; exact hjr e h2 h3)
    have hcb : ∀ i, (fun i => listed.getD i false) i = true → ∀ k ∈ (befL ops).getD i [], (fun i => listed.getD i false) k = true := fun i hi k hk => befs_good ops hk _ hcl (fun o' e h1 h2 h3 => hcl i hi o' e h1 h2 h3)
    have hstep := gs_step tr ind (S := fun i => listed.getD i false) hcb hSj hbj hy
    obtain ⟨n1, n2⟩ := hnew j hjl hSj
    obtain ⟨_, _, s3, s4⟩ := tr.step j _ hy
    have hset : ∀ i, (listed.setIfInBounds j true).getD i false = (listed.getD i false || i == j) := fun i => by
      by_cases hij : i = j
      · subst hij; simp [Array.getD, hh]
      · simp only [Array.getD_eq_getD_getElem?]; rw [Array.getElem?_setIfInBounds_ne (fun e => hij e.symm)]; simp [hij]
    refine stepR_sound bo hs ho hco hstep (fun b h1 h2 => n1 b h1 (by omega)) (fun b h1 h2 => n2 b h1 (by omega)) fun a' w' ρ' F' hg hs' => ?_
    have hdone := gs_done tr ind (S := fun i => listed.getD i false) hcb hSj hbj hy
    rw [hdone] at hs'
    refine ih (listed.setIfInBounds j true) a' w' ρ' F' (by simpa using hsz) (fun x hx => hg.sub x (f1 x hx)) (fun x hx => (hg.new x hx).elim (f2 x) .inr) ?_ (fun i hi hun => ?_) (fun b hb => ?_) (fun b hb => ?_) (fun i hi o' e h1 h2 h3 => ?_) ?_
    · have : (fun i => (listed.setIfInBounds j true).getD i false) = fun i => listed.getD i false || i == j := funext hset
      rw [this]; exact hs'
    · rw [hset] at hun
      simp only [Bool.or_eq_false_iff, beq_eq_false_iff_ne, ne_eq] at hun
      obtain ⟨m1, m2⟩ := hnew i hi hun.1
      have hbbij : bb (i + 1) ≤ bb j ∨ bb (j + 1) ≤ bb i := by
        rcases Nat.lt_or_ge i j with h | h
        · exact .inl (tr.mono (show i + 1 ≤ j by omega) (by omega)).1
        · exact .inr (tr.mono (show j + 1 ≤ i by omega) (by omega)).1
      have hbrij : br (i + 1) ≤ br j ∨ br (j + 1) ≤ br i := by
        rcases Nat.lt_or_ge i j with h | h
        · exact .inl (tr.mono (show i + 1 ≤ j by omega) (by omega)).2
        · exact .inr (tr.mono (show j + 1 ≤ i by omega) (by omega)).2
      refine ⟨fun b h1 h2 => ?_, fun b h1 h2 => ?_⟩
      · cases hq : ρ'.b b with
        | none => rfl
        | some g =>
          rcases hg.b b (by rw [hq]; simp) with h | h
          · exact absurd (m1 b h1 h2) h
          · omega
      · cases hq : ρ'.r b with
        | none => rfl
        | some g =>
          rcases hg.r b (by rw [hq]; simp) with h | h
          · exact absurd (m2 b h1 h2) h
          · omega
    · cases hq : ρ'.b b with
      | none => rfl
      | some g =>
        have := (tr.mono (show j + 1 ≤ l.length by omega) (Nat.le_refl _)).1
        rcases hg.b b (by rw [hq]; simp) with h | h
        · exact absurd (hbB b hb) h
        · omega
    · cases hq : ρ'.r b with
      | none => rfl
      | some g =>
        have := (tr.mono (show j + 1 ≤ l.length by omega) (Nat.le_refl _)).2
        rcases hg.r b (by rw [hq]; simp) with h | h
        · exact absurd (hbR b hb) h
        · omega
    · dsimp only at hi ⊢
      rw [hset] at hi ⊢
      by_cases hij : i = j
      · subst hij; rw [ho] at h1; cases h1; rw [hjr e h2 h3]; rfl
      · have : listed.getD i false = true := by simpa [hij] using hi
        have q := hcl i this o' e h1 h2 h3
        dsimp only at q
        rw [q]; rfl
    · have hlt : (List.range l.length).countP (fun i => !(listed.setIfInBounds j true).getD i false) < (List.range l.length).countP (fun i => !listed.getD i false) := by
        have e1 : (fun i => !(listed.setIfInBounds j true).getD i false) = fun i => !(listed.getD i false || i == j) := funext fun i => by rw [hset]
        rw [e1]
        generalize hS : (fun i => listed.getD i false) = S at hSj
        have hS' : ∀ i, listed.getD i false = S i := fun i => by rw [← hS]
        simp only [hS'] at hSj ⊢
        have key : ∀ L : List Nat, j ∈ L → L.countP (fun i => !(S i || i == j)) < L.countP (fun i => !S i) := fun L hL => by
          induction L with
          | nil => cases hL
          | cons x L ihL =>
            have hle : ∀ M : List Nat, M.countP (fun i => !(S i || i == j)) ≤ M.countP (fun i => !S i) := fun M => List.countP_mono_left fun i _ hi => by
              simp only [Bool.not_eq_true', Bool.or_eq_false_iff] at hi ⊢; exact hi.1
            simp only [List.countP_cons]
            by_cases hx : x = j
            · subst hx
              have := hle L
              rw [if_neg (by simp), if_pos (by simp [hSj])]; omega
            · have hjL : j ∈ L := by rcases List.mem_cons.1 hL with h | h; exact absurd h.symm hx; exact h
              have := ihL hjL
              have e2 : (x == j) = false := by simpa using hx
              simp only [e2, Bool.or_false]; omega
        exact key _ (by simpa using hjl)
      omega

/-- A region whose order is drawn. -/
theorem draw_sound (hm : P.follows .mixedOrders = true) {bo : Bool} {id : Nat} {ops : Array Oper} {l : List AO} (hl : compR P N ops = some l) (hd : drawOk ops = true) {T : Nat → FS} {r : Nat → Res} {bb br : Nat → Nat} (tr : Trace P bo l T r bb br) (hfree : ∀ (i j : Nat) (x y : AO), i < j → l[i]? = some x → l[j]? = some y → i ∈ (pairs bo l (befs ops)).getD j [] → Free bo T r bb br i j x y) (h : Sim w0 N ρ F (T 0) a w)
    (hb : ∀ b, bb 0 ≤ b → ρ.b b = none) (hr : ∀ b, br 0 ≤ b → ρ.r b = none) {Q : Exit → Act → World → Prop}
    (hQ : ∀ ρ' F' a' w', (∀ x, F x → F' x) → (∀ x, F' x → F x ∨ ¬ w0.V x) → Sim w0 N ρ' F' (T l.length) a' w' → (∀ b, bb l.length ≤ b → ρ'.b b = none) → (∀ b, br l.length ≤ b → ρ'.r b = none) → Q .normal a' w') : (Code.region id ops true).wpIn (Fe R) 0 P Q a w := by
  refine wpIn_region_any hm ?_
  obtain ⟨hlen, _⟩ := compR_get hl
  have hS : ∀ i, (Array.replicate ops.size false).getD i false = false := fun i => by
    simp only [Array.getD_eq_getD_getElem?]
    by_cases hi : i < ops.size
    · simp [hi]
    · rw [Array.getElem?_eq_none (by simpa using hi)]; rfl
  obtain ⟨g1, g2, g3⟩ := GS_none tr (S := fun i => (Array.replicate ops.size false).getD i false) (fun i _ => hS i) l.length (Nat.le_refl _)
  have hs : Sim w0 N ρ F (GS l (T 0) r bb br (fun i => (Array.replicate ops.size false).getD i false) l.length) a w.drew := (h.grow ((Below.refl _ _).drew)).phantom g1 (fun b g e => by
    refine g2 b ?_
    rcases Nat.lt_or_ge b (bb 0) with h' | h'
    · exact h'
    · rw [hb b h'] at e; cases e) (fun b p e => by
    refine g3 b ?_
    rcases Nat.lt_or_ge b (br 0) with h' | h'
    · exact h'
    · rw [hr b h'] at e; cases e)
  refine drawn_any hl hd tr hfree hQ ops.size _ a w.drew ρ F (by simp) (fun _ hx => hx) (fun _ hx => .inl hx) hs (fun j hj _ => ⟨fun b h1 _ => hb b (Nat.le_trans (tr.mono (Nat.zero_le j) (by omega)).1 h1), fun b h1 _ => hr b (Nat.le_trans (tr.mono (Nat.zero_le j) (by omega)).2 h1)⟩)
    (fun b h1 => hb b (Nat.le_trans (tr.mono (Nat.zero_le _) (Nat.le_refl _)).1 h1)) (fun b h1 => hr b (Nat.le_trans (tr.mono (Nat.zero_le _) (Nat.le_refl _)).2 h1)) (fun i hi => by dsimp only at hi; rw [hS i] at hi; cases hi) ?_
  refine Nat.le_trans List.countP_le_length ?_
  simp [hlen]

end
end Go.Proofs.Ytjacmhaeemhinaa
