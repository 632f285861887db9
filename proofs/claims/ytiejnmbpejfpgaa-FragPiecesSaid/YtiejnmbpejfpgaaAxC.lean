/- A contract on abstract values, told of the program's values. -/
import Derived.Test.YtiejnmbpejfpgaaAx30
import Derived.Test.YtiejnmbpejfpgaaOpen
namespace Go.Proofs.Ytiejnmbpejfpgaa
open Go.RowKit Go.ChangeShapes Go.WideShapes Go.ChangeAt
set_option linter.unusedVariables false
theorem acall_run {P : Program} {f : Nat} {args : List AV} {b : Bool} (h : ACall P f args (.bool b) []) (w : World) (vs : Array Value) (hl : vs.size = args.length) (hr : ∀ (i : Nat) (u : Value) (av : AV), vs[i]? = some u → args[i]? = some av → Rep Env.none (Vw w) (fun _ => False) w u av) :
    Calls P f vs w fun e w' => e = .returned (.bool b) ∧ Below w.heap.size w w' := by
  refine (h.2 w (fun _ => False) vs (fun _ hx => hx.elim) hl hr).mono fun e w' hp => ?_
  obtain ⟨v, ρ, F', rfl, hb, _, _, _, _, _, _, _, hv⟩ := hp
  rw [hv.bool_inv]
  exact ⟨rfl, hb⟩
def RepL (w : World) : List Value → List AV → Prop
  | [], [] => True
  | v :: vs, a :: as => Rep Env.none (Vw w) (fun _ => False) w v a ∧ RepL w vs as
  | _, _ => False
theorem repL_get {w : World} : ∀ {vs : List Value} {as : List AV}, RepL w vs as → vs.length = as.length ∧ ∀ (i : Nat) (u : Value) (av : AV), vs[i]? = some u → as[i]? = some av → Rep Env.none (Vw w) (fun _ => False) w u av
  | [], [], _ => ⟨rfl, fun i u av e => by cases e⟩
  | [], _ :: _, h => h.elim
  | _ :: _, [], h => h.elim
  | v :: vs, a :: as, h => by
    obtain ⟨g1, g2⟩ := repL_get h.2
    refine ⟨by simp [g1], fun i u av e1 e2 => ?_⟩
    cases i with
    | zero => simp at e1 e2; subst e1 e2; exact h.1
    | succ i => exact g2 i u av (by simpa using e1) (by simpa using e2)
theorem acall_law {P : Program} {f : Nat} {args : List AV} (h : ACall P f args (.bool true) []) (w : World) (vs : List Value) (hr : RepL w vs args) :
    Calls P f vs.toArray w fun e w' => e = .returned (.bool true) ∧ Below w.heap.size w w' :=
  acall_run h w vs.toArray (by simpa using (repL_get hr).1) fun i u av e1 e2 => (repL_get hr).2 i u av (by simpa using e1) e2
end Go.Proofs.Ytiejnmbpejfpgaa
