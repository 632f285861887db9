/- Regions on abstract values, in the order of the text. -/
import Derived.Test.YtiejnmbpejfpgaaAx17
import Derived.OrdersIn
import Derived.LoopNIn
namespace Go.Proofs.Ytiejnmbpejfpgaa
open Go.RowKit
set_option linter.unusedVariables false

structure AO where
  dst : Option Nat
  ai : AI
  g : Option (Nat × Bool)

def gval (v : AV) (want : Bool) : Option Bool :=
  match v with
  | .bool b => some (b == want)
  | .cnd g (.bool b) => some (g && (b == want))
  | _ => none
def mkCnd (G : Bool) : AV → AV
  | .cnd g v => .cnd (G && g) v
  | v => .cnd G v

/-- What an operation gives. -/
def OpR (P : Program) (bo : Bool) (σ : FS) (bb br : Nat) (ai : AI) (r : Res) : Prop :=
  match ai with
  | .call f xs => (∀ x ∈ xs, (lookT σ.tm x).cond) ∧ ∃ args' v H, ((xs.map fun x => (lookT σ.tm x).val).length = args'.length ∧ ∀ (i : Nat) (x y : AV), (xs.map fun x => (lookT σ.tm x).val)[i]? = some x → args'[i]? = some y → ALe (argF σ.bx σ.rw x) y) ∧ ACall P f args' v H ∧ r = ⟨True, shT br v, 0, H.length, rowsUp br H⟩
  | .callv x xs => (lookT σ.tm x).cond ∧ (∀ x ∈ xs, (lookT σ.tm x).cond) ∧ ∃ f caps, (lookT σ.tm x).val = .fn f caps ∧ ∃ args' v H, ((xs.map fun x => (lookT σ.tm x).val) ++ caps).length = args'.length ∧ (∀ (i : Nat) (x y : AV), ((xs.map fun x => (lookT σ.tm x).val) ++ caps)[i]? = some x → args'[i]? = some y → ALe (argF σ.bx σ.rw x) y) ∧ ACall P f args' v H ∧ r = ⟨True, shT br v, 0, H.length, rowsUp br H⟩
  | ai => r = aistep bo (lookT σ.tm) σ.bx σ.rw bb br ai ∧ r.ok
/-- .. under its guard. -/
def StepR (P : Program) (bo : Bool) (σ : FS) (bb br : Nat) (o : AO) (r : Res) : Prop :=
  match o.g with
  | none => OpR P bo σ bb br o.ai r
  | some (t, want) => ∃ G, gval (σ.tm t) want = some G ∧ ∃ r0, (G = true → OpR P bo σ bb br o.ai r0) ∧ r0.up = [] ∧ r0.nb = 0 ∧ r0.nr = 0 ∧ r = ⟨True, mkCnd G r0.av, 0, 0, []⟩

def compO (P : Program) (N : Nat) (ops : Array Oper) (o : Oper) : Option AO :=
  if o.dst.all (· < N) then
    (compA P o.op).bind fun ai => match o.guard with
      | none => some ⟨o.dst, ai, none⟩
      | some (j, want) => ((ops[j]?).bind (·.dst)).bind fun t => if t < N then some ⟨o.dst, ai, some (t, want)⟩ else none
  else none

/-- No fence at all; R: the loop over a function in a round of which the code runs. -/
def Fe (R : Option Nat) : Fence := { Fence.wide with round := R }
theorem calls_fe {R : Option Nat} {n : Nat} {P : Program} {f : FuncId} {args : Array Value} {w : World} {Q : Ending → World → Prop} (h : Calls P f args w Q) : CallsIn (Fe R) n P f args w Q :=
  (callsIn_wide (n := n)).2 h

section
variable {P : Program} {w0 : Base} {N : Nat} {ρ : Env} {F : Nat → Prop} {σ : FS} {a : Act} {w : World} {R : Option Nat}

theorem callFunc_run {f : Nat} (hp : plainFn P f = true) (vs : Array Value) (w : World) : (callFunc f vs).run P w = .ok (.enter f vs) w := by
  unfold plainFn at hp
  split at hp
  · rename_i fn hf
    simp only [Bool.and_eq_true, bne_iff_ne, ne_eq] at hp
    have hb : fn.body.isNone = false := by cases hbb : fn.body <;> simp [hbb] at hp ⊢
    unfold callFunc
    simp only [Sem.run_bind, run_program, Result.andThen_ok, hf]
    have hn : (fn.name == "runtime.NumGoroutine") = false := by simpa using hp.1
    simp [hn, hb]
  · cases hp
theorem wp_call {o : Oper} {f : Nat} {vs : Array Value} {K : Act → World → Prop} {Q : Exit → Act → World → Prop} (hnd : ∀ c, o.op ≠ .defer c) (hr : (execOp a.eval o).run P w = .ok (.enter f vs) w) (hc : Calls P f vs w fun e w' => ∃ v, e = .returned v ∧ K (a.put o.dst v) w') : o.wpIn (Fe R) 0 P a w K Q := by
  unfold Oper.wpIn
  refine ⟨fun _ _ => trivial, ?_⟩
  rw [Oper.semAt_eq _ _ _ hnd, hr, Oper.uponIn_enter]
  refine ⟨fun e => (by cases e), calls_fe (hc.mono fun e w' h => ?_)⟩
  obtain ⟨v, rfl, hk⟩ := h
  exact hk

/-- An operation, carried out. -/
theorem opR_sound (bo : Bool) {bb br : Nat} (h : Sim w0 N ρ F σ a w) {o : Oper} {ai : AI} (hc : compA P o.op = some ai) {r : Res} (hr : OpR P bo σ bb br ai r) (hbb : ∀ b, bb ≤ b → b < bb + r.nb → ρ.b b = none) (hbr : ∀ b, br ≤ b → b < br + r.nr → ρ.r b = none) {K : Act → World → Prop} {Q : Exit → Act → World → Prop}
    (hK : ∀ v w' ρ' F', Grown w0.V ρ ρ' F F' bb r.nb br r.nr → Sim w0 N ρ' F' (σ.ups r.up) a w' → Rep ρ' w0.V F' w' v r.av → K (a.put o.dst v) w') : o.wpIn (Fe R) 0 P a w K Q := by
  obtain ⟨dst, op, ty, pos, after, guard⟩ := o
  unfold compA at hc
  split at hc
  · rename_i f args ts hop
    dsimp only at hop
    subst hop
    obtain ⟨xs, h1, rfl⟩ := Option.map_eq_some_iff.1 hc
    obtain ⟨hcond, args', v, H, hle, hcall, rfl⟩ := hr
    obtain ⟨g1, g2⟩ := reps_list h h1
    have hrun : (execOp a.eval ⟨dst, .call ⟨.value (.func f), args, ts⟩, ty, pos, after, guard⟩).run P w = .ok (.enter f (args.map a.eval)) w := by
      simp only [execOp, resolve, Act.eval, Deferred.ofValue, Sem.run_bind, Sem.run_pure, Result.andThen_ok, invoke]
      simpa using callFunc_run hcall.1 (args.map a.eval) w
    refine wp_call (fun c e => by cases e) hrun ((call_sim (bb := bb) h hcall (args := xs.map fun x => (lookT σ.tm x).val) (by simp [g1]) hle (vals_reps h h1 hcond) (br := br) hbr).mono ?_)
    rintro e w' ⟨u, ρ', F', rfl, q1, q2, q3⟩
    exact ⟨u, rfl, hK u w' ρ' F' q1 q2 q3⟩
  · rename_i t args ts hop
    dsimp only at hop
    subst hop
    obtain ⟨xs, h1, rfl⟩ := Option.map_eq_some_iff.1 hc
    obtain ⟨hcx, hcond, f, caps, hfn, args', v, H, hl1, hle, hcall, rfl⟩ := hr
    obtain ⟨g1, g2⟩ := reps_list h h1
    have hf := (h.tm t).val hcx
    have hfn' : (σ.tm t).val = .fn f caps := hfn
    rw [hfn'] at hf
    obtain ⟨cs, e1, e2, e3⟩ := hf.fn_inv
    have hrun : (execOp a.eval ⟨dst, .call ⟨.value (.tmp t), args, ts⟩, ty, pos, after, guard⟩).run P w = .ok (.enter f (args.map a.eval ++ cs)) w := by
      have e1' : a.eval (.tmp t) = .func (.func f) #[] cs := e1
      simp only [execOp, resolve, e1', Deferred.ofValue, Sem.run_bind, Sem.run_pure, Result.andThen_ok, invoke]
      simpa using callFunc_run hcall.1 (args.map a.eval ++ cs) w
    refine wp_call (fun c e => by cases e) hrun ((call_sim (bb := bb) h hcall (args := (xs.map fun x => (lookT σ.tm x).val) ++ caps) (by simp [g1, e2]) ⟨hl1, hle⟩ (fun i u av k1 k2 => ?_) (br := br) hbr).mono ?_)
    · have g1' : xs.length = args.size := by simpa using g1
      by_cases hi : i < xs.length
      · rw [Array.getElem?_append_left (by simp; omega)] at k1
        rw [List.getElem?_append_left (by simpa using hi)] at k2
        exact vals_reps h h1 hcond i u av k1 k2
      · rw [Array.getElem?_append_right (by simp; omega)] at k1
        rw [List.getElem?_append_right (by simp; omega)] at k2
        exact e3 _ u av (by simpa using k1) (by simpa [g1] using k2)
    · rintro e w' ⟨u, ρ', F', rfl, q1, q2, q3⟩
      exact ⟨u, rfl, hK u w' ρ' F' q1 q2 q3⟩
  · split at hc
    · rename_i hx
      cases hc
      obtain ⟨t, k, xs, rfl, _⟩ := compX_call hx
      obtain ⟨_, _, f, caps, hfn, _⟩ := hr
      cases hfn
    obtain ⟨ai', hc, hif⟩ := Option.bind_eq_some_iff.1 hc
    split at hif
    · cases hif
    rename_i hcall
    cases hif
    have hr' : r = aistep bo (lookT σ.tm) σ.bx σ.rw bb br ai ∧ r.ok := by
      cases ai <;> first | exact hr | (simp [isCall] at hcall)
    obtain ⟨rfl, hok⟩ := hr'
    obtain ⟨v, w', ρ', F', hrun, hg, hs, hv⟩ := op_good (o := ⟨dst, op, ty, pos, after, guard⟩) bo bb br h hc (fun e => hbb bb (Nat.le_refl _) (by rw [(al_num hok).1 e]; omega)) (fun e => hbr br (Nat.le_refl _) (by rw [(al_num hok).2 e]; omega)) hok
    have hk := hK v w' ρ' F' hg hs hv
    have hnd : ∀ c, op ≠ .defer c := fun c e => by subst e; simp [comp] at hc
    unfold Oper.wpIn
    refine ⟨fun _ _ => trivial, ?_⟩
    rw [Oper.semAt_eq _ _ _ hnd]
    rcases hrun with hrun | ⟨hrun, rfl⟩
    · rw [hrun]; exact hk
    · rw [hrun]; exact hk

theorem mkCnd_true {v : Value} {av : AV} {B : Nat → Prop} (h : Rep ρ B F w v av) : Rep ρ B F w v (mkCnd true av) := by
  unfold mkCnd
  split
  · rename_i g u
    rw [Bool.true_and]; exact h
  · exact .cnd true v av (fun _ => h) (fun e => by cases e)
theorem mkCnd_false {av : AV} {B : Nat → Prop} : Rep ρ B F w undef (mkCnd false av) := by
  unfold mkCnd
  split
  · rw [Bool.false_and]; exact .cnd false _ _ (fun e => by cases e) (fun _ => rfl)
  · exact .cnd false _ _ (fun e => by cases e) (fun _ => rfl)
def bOf (v : Value) : Option Bool := match v with
  | .bool b => some b
  | _ => none
theorem gval_sound {v : Value} {av : AV} {B : Nat → Prop} (h : Rep ρ B F w v av) {want G : Bool} (hg : gval av want = some G) : (bOf v == some want) = G := by
  unfold gval at hg
  split at hg
  · rename_i b
    cases hg
    rw [h.bool_inv]
    cases b <;> cases want <;> rfl
  · rename_i g b
    cases hg
    cases g
    · rw [h.cnd_not rfl]; rfl
    · rw [(h.cnd_inv rfl).bool_inv]
      cases b <;> cases want <;> rfl
  · cases hg

/-- A step of a region, carried out. -/
theorem stepR_sound (bo : Bool) {bb br : Nat} {ops : Array Oper} {i : Nat} {o : Oper} {ao : AO} (h : Sim w0 N ρ F σ a w) (hi : ops[i]? = some o) (hc : compO P N ops o = some ao) {r : Res} (hr : StepR P bo σ bb br ao r) (hbb : ∀ b, bb ≤ b → b < bb + r.nb → ρ.b b = none) (hbr : ∀ b, br ≤ b → b < br + r.nr → ρ.r b = none) {K : Act → World → Prop} {Q : Exit → Act → World → Prop}
    (hK : ∀ a' w' ρ' F', Grown w0.V ρ ρ' F F' bb r.nb br r.nr → Sim w0 N ρ' F' ((σ.ups r.up).put ao.dst r.av) a' w' → K a' w') : wpOpIn (Fe R) 0 P ops Q i K a w := by
  unfold compO at hc
  split at hc
  · rename_i hd
    have hdN : ∀ t, o.dst = some t → t < N := fun t e => by rw [e] at hd; simpa using hd
    obtain ⟨ai, h1, hc⟩ := Option.bind_eq_some_iff.1 hc
    unfold wpOpIn
    simp only [hi]
    split at hc
    · rename_i hgd
      cases hc
      have hw : Region.wanted o (yielded ops a.tmps) = true := by simp [Region.wanted, hgd]
      rw [if_pos hw]
      exact opR_sound bo h h1 hr hbb hbr fun v w' ρ' F' g1 g2 g3 => hK _ _ ρ' F' g1 (g2.put g3 hdN)
    · rename_i j want hgd
      obtain ⟨t, ht, hc⟩ := Option.bind_eq_some_iff.1 hc
      split at hc
      · rename_i htN
        cases hc
        obtain ⟨G, hG, r0, hr0, e1, e2, e3, rfl⟩ := hr
        have hy : yielded ops a.tmps j = bOf (a.tmps.getD t undef) := by
          unfold yielded
          rw [ht]
          simp only [Option.bind_some]
          have : a.tmps[t]? = some (a.tmps.getD t undef) := by
            rw [Array.getElem?_eq_getElem (by rw [h.sz]; exact htN)]
            simp [Array.getD, h.sz, htN]
          rw [this]
          cases a.tmps.getD t undef <;> rfl
        have hwant : Region.wanted o (yielded ops a.tmps) = G := by
          unfold Region.wanted
          rw [hgd]; dsimp only
          rw [hy]; exact gval_sound (h.tm t) hG
        cases G
        · rw [if_neg (by rw [hwant]; simp)]
          exact ⟨fun _ _ => trivial, hK _ w ρ F (.refl _ _ _ _ _) (h.put mkCnd_false hdN)⟩
        · rw [if_pos hwant]
          refine opR_sound bo h h1 (hr0 rfl) (fun b hb hb2 => by rw [e2] at hb2; omega) (fun b hb hb2 => by rw [e3] at hb2; omega) fun v w' ρ' F' g1 g2 g3 => ?_
          rw [e1] at g2
          rw [e2, e3] at g1
          exact hK _ _ ρ' F' g1 (g2.put (mkCnd_true g3) hdN)
      · cases hc
  · cases hc
end
end Go.Proofs.Ytiejnmbpejfpgaa
