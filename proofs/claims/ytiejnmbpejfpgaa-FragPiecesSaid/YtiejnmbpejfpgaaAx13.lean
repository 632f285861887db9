/- The program's operations, compiled to operations on abstract values; that they are these. -/
import Derived.Test.YtiejnmbpejfpgaaAxE
namespace Go.Proofs.Ytiejnmbpejfpgaa
open Go.RowKit
set_option linter.unusedVariables false

def cO : Operand → Option Opd
  | .tmp t => some (.tmp t)
  | .const v => some (.cst (cst v))
  | .func f => some (.cst (.fn f []))
  | .global _ => none
def cOo : Option Operand → Option (Option Opd)
  | none => some none
  | some x => (cO x).map some
def isArr (P : Program) (t : TypeId) : Bool := match P.underlying t with | some (.array _ _) => true | _ => false

def compEq (P : Program) (op : BinOp) (t : TypeId) (x y : Opd) : Option AI :=
  if P.eqGuardType P.depth t = true ∨ aggOf P t ≠ some true then none else match op with
    | .eql => (eqOk P 100 t).map fun ts => .eqA false ts x y
    | .neq => (eqOk P 100 t).map fun ts => .eqA true ts x y
    | _ => none
def compBin (P : Program) (op : BinOp) (t : TypeId) (x y : Opd) : Option AI :=
  match P.underlying t with
  | some (.int _) => some (.bin op x y)
  | some .bool => match op with | .eql => some (.binB false x y) | .neq => some (.binB true x y) | _ => none
  | some .string => some (.binT op x y)
  | some (.slice _) => match op, y with
    | .eql, .cst .nil => some (.isN false x)
    | .neq, .cst .nil => some (.isN true x)
    | _, _ => none
  | some (.struct _) => compEq P op t x y
  | some (.array _ _) => compEq P op t x y
  | _ => none
def compConv (P : Program) (src dst : TypeId) (x : Opd) : Option AI :=
  match P.underlying src, P.underlying dst with
  | some (.int _), some (.int k) => some (.conv k x)
  | some .string, some .string => some (.mvS x)
  | some (.slice e), some .string => match P.underlying e with | some (.int .u8) => some (.b2s x) | _ => none
  | some .string, some (.slice e) => match P.underlying e with | some (.int .u8) => some (.s2b x) | _ => none
  | some (.slice e), some (.slice _) => if src = dst then (match P.underlying e with | some (.int .u8) => some (.mvL x) | _ => none) else none
  | _, _ => none
def compSlice (P : Program) (t : TypeId) (x : Opd) (lo hi mx : Option Opd) : Option AI :=
  match P.underlying t with
  | some (.slice e) => if mx.isSome && hi.isNone then none else (szOf P e).map fun k => .slS k x lo hi mx
  | some (.array n e) => if szOf P e = some 1 ∧ mx.isNone ∧ n ≤ 1000000 then some (.slA n x lo hi) else none
  | some .string => match mx with | none => some (.slT x lo hi) | _ => none
  | _ => none
def compBuiltin (P : Program) (b : Builtin) (ts : Array TypeId) (args : List Opd) : Option AI :=
  match b, ts.toList, args with
  | .append, [t, tx], [x, y] =>
    match P.underlying t, P.underlying tx with
    | some (.slice e), some (.slice _) =>
      match P.info? e with
      | some i => match i.zero with
        | some z => if z.cells.size = i.size then some (.app i.size i.bytes x y) else none
        | none => none
      | none => none
    | some (.slice e), some (.int _) =>
      match P.info? e with
      | some i => match i.zero with
        | some z => some (.appz i.size i.bytes (cst z) x y)
        | none => none
      | none => none
    | _, _ => none
  | .cap, [t], [x] => match P.underlying t with | some (.slice _) => some (.capV x) | _ => none
  | .copy, [t, _], [x, y] => match P.underlying t with | some (.slice e) => (szOf P e).map fun k => .cpy k x y | _ => none
  | .clear, [t], [x] => match P.underlying t with | some (.slice e) => (szOf P e).bind fun k => (zeroOf P e).map fun z => .clr k (cst z) x | _ => none
  | .len, [t], [x] => match P.underlying t with | some .string => some (.lenT x) | some (.slice _) => some (.lenV x) | some (.array n _) => some (.lenC n) | _ => none
  | .min, _, xs => some (.min xs)
  | .max, _, xs => some (.max xs)
  | _, _, _ => none
def comp (P : Program) (o : Op) : Option AI :=
  match o with
  | .move x | .assign x => (cO x).map .mv
  | .pick c a b => (cO c).bind fun c => (cO a).bind fun a => (cO b).map fun b => .pick c a b
  | .alloc t => (zeroOf P t).map fun z => if isArr P t then (match cst z with | .agg l => .newa l | _ => .no) else .newb (cst z).cells
  | .box t x => (cO x).map fun x => if isArr P t then .boxa x else .box x
  | .build t parts => (zeroOf P t).bind fun z => (placesOf P t).bind fun place => ((parts.toList.mapM fun p => (place p.1).bind fun q => (cO p.2).map fun x => ((q.1, q.2, x) : Nat × Nat × Opd))).map fun qs => .build (cst z).cells qs
  | .buildSlice t len parts => match P.underlying t with
    | some (.slice e) => (szOf P e).bind fun k => (zeroOf P e).bind fun _ => if parts.toList.map (·.1) = List.range' 0 len ∧ parts.size = len ∧ len * k ≤ 16777216 ∧ len ≤ 1000000 then (parts.toList.mapM fun p => cO p.2).map fun xs => .bsl k xs else none
    | _ => none
  | .load t a => (aggOf P t).bind fun g => (szOf P t).bind fun n => (cO a).map fun a => .load g n a
  | .store t a x => (szOf P t).bind fun n => (cO a).bind fun a => (cO x).map fun x => .store n a x
  | .nilCheck x => (cO x).map .nchk
  | .binOp op t x y _ => (cO x).bind fun x => (cO y).bind fun y => compBin P op t x y
  | .unOp op _ x => (cO x).map fun x => match op with | .not => .not x | .neg => .neg x | .xor => .com x | .plus => .no
  | .convert src dst x => (cO x).bind fun x => compConv P src dst x
  | .makeSlice t n c => match P.underlying t with
    | some (.slice e) => match P.info? e with
      | some i => (cO n).bind fun n => (cO c).bind fun c => i.zero.map fun z => .mks i.size i.bytes (cst z) n c
      | none => none
    | _ => none
  | .makeFunc (.func f) first caps => if first.size = 0 then (caps.toList.mapM cO).map fun xs => .mkf f xs else none
  | .slice t x lo hi mx => (cO x).bind fun x => (cOo lo).bind fun lo => (cOo hi).bind fun hi => (cOo mx).bind fun mx => compSlice P t x lo hi mx
  | .fieldAddr s x i => match P.underlying s with
    | some (.struct fields) => match fields[i]? with
      | some f => match szOf P f.type with
        | some n => if n = 0 then none else (cO x).map fun x => .fadr f.offset x
        | none => none
      | none => none
    | _ => none
  | .field s x i => match P.underlying s with
    | some (.struct fields) => match fields[i]? with
      | some f => (szOf P f.type).bind fun n => (aggOf P f.type).bind fun g => (cO x).map fun x => .fld f.offset n g x
      | none => none
    | _ => none
  | .indexAddr t x ix => match P.underlying t with
    | some (.slice e) => (szOf P e).bind fun k => (cO x).bind fun x => (cO ix).map fun i => .iadS k x i
    | some (.array n e) => (szOf P e).bind fun k => (cO x).bind fun x => (cO ix).map fun i => .iadA k n x i
    | _ => none
  | .index t x ix => match P.underlying t with
    | some (.array n e) => (szOf P e).bind fun k => (aggOf P e).bind fun g => (cO x).bind fun x => (cO ix).map fun i => .idxA k n g x i
    | some .string => (cO x).bind fun x => (cO ix).map fun i => .idxT x i
    | _ => none
  | .extract x i => (cO x).map fun x => .ext x i
  | .call c => match c.callee with
    | .builtin b => (c.args.toList.mapM cO).bind fun xs => compBuiltin P b c.argTypes xs
    | _ => none
  | _ => none
def isCall : AI → Bool
  | .call .. | .callv .. => true
  | _ => false
/-- Operations that no state tells (maps; what ends a program): as calls of a function value that is none. -/
def xc (t k : Nat) : Opd := .cst (.int .i64 ((16 * t + k : Nat) : Int))
def isMap (P : Program) (t : TypeId) : Bool := match P.underlying t with | some (.map _ _) => true | _ => false
def compX (P : Program) (o : Op) : Option AI :=
  match o with
  | .makeMap t none => some (.callv (xc t 0) [])
  | .mapUpdate t m k x => (cO m).bind fun m => (cO k).bind fun k => (cO x).map fun x => .callv (xc t 1) [m, k, x]
  | .lookup t m k ok => (cO m).bind fun m => (cO k).map fun k => .callv (xc t (if ok then 3 else 2)) [m, k]
  | .range t x => (cO x).map fun x => .callv (xc t 6) [x]
  | .next it false => (cO it).map fun x => .callv (xc 0 7) [x]
  | .entry it => (cO it).map fun x => .callv (xc 0 9) [x]
  | .makeInterface _ _ => some (.callv (xc 0 8) [])
  | .panic _ => some (.callv (xc 0 8) [])
  | .call ⟨.builtin .delete, args, ts⟩ => (ts[0]?).bind fun t => (args.toList.mapM cO).map fun xs => .callv (xc t 4) xs
  | .call ⟨.builtin .len, args, ts⟩ => (ts[0]?).bind fun t => if isMap P t then (args.toList.mapM cO).map fun xs => .callv (xc t 5) xs else none
  | _ => none
theorem compX_call {P : Program} {o : Op} {ai : AI} (h : compX P o = some ai) : ∃ t k xs, ai = .callv (xc t k) xs ∧ ∀ c, o ≠ .defer c := by
  unfold compX at h
  split at h
  · cases h; exact ⟨_, _, _, rfl, fun c e => by cases e⟩
  · obtain ⟨m, _, h⟩ := Option.bind_eq_some_iff.1 h
    obtain ⟨k, _, h⟩ := Option.bind_eq_some_iff.1 h
    obtain ⟨x, _, rfl⟩ := Option.map_eq_some_iff.1 h
    exact ⟨_, _, _, rfl, fun c e => by cases e⟩
  · obtain ⟨m, _, h⟩ := Option.bind_eq_some_iff.1 h
    obtain ⟨k, _, rfl⟩ := Option.map_eq_some_iff.1 h
    exact ⟨_, _, _, rfl, fun c e => by cases e⟩
  · obtain ⟨x, _, rfl⟩ := Option.map_eq_some_iff.1 h
    exact ⟨_, _, _, rfl, fun c e => by cases e⟩
  · obtain ⟨x, _, rfl⟩ := Option.map_eq_some_iff.1 h
    exact ⟨_, _, _, rfl, fun c e => by cases e⟩
  · obtain ⟨x, _, rfl⟩ := Option.map_eq_some_iff.1 h
    exact ⟨_, _, _, rfl, fun c e => by cases e⟩
  · cases h; exact ⟨_, _, _, rfl, fun c e => by cases e⟩
  · cases h; exact ⟨_, _, _, rfl, fun c e => by cases e⟩
  · obtain ⟨t, _, h⟩ := Option.bind_eq_some_iff.1 h
    obtain ⟨x, _, rfl⟩ := Option.map_eq_some_iff.1 h
    exact ⟨_, _, _, rfl, fun c e => by cases e⟩
  · obtain ⟨t, _, h⟩ := Option.bind_eq_some_iff.1 h
    split at h
    · obtain ⟨x, _, rfl⟩ := Option.map_eq_some_iff.1 h
      exact ⟨_, _, _, rfl, fun c e => by cases e⟩
    · cases h
  · cases h
/-- The same, and the calls. -/
def compA (P : Program) (o : Op) : Option AI :=
  match o with
  | .call ⟨.value (.func f), args, _⟩ => (args.toList.mapM cO).map fun xs => .call f xs
  | .call ⟨.value (.tmp t), args, _⟩ => (args.toList.mapM cO).map fun xs => .callv (.tmp t) xs
  | o => match compX P o with
    | some ai => some ai
    | none => (comp P o).bind fun ai => if isCall ai then none else some ai

/-- New boxes, new rows. -/
def alB : AI → Bool
  | .newb .. | .box .. => true
  | _ => false
def alR : AI → Bool
  | .newa .. | .boxa .. | .bsl .. | .mks .. | .app .. | .appz .. => true
  | _ => false
theorem al_num {bo : Bool} {L : Opd → AV} {bx : Nat → Option (List AV)} {rw : Nat → Option ARow} {bb br : Nat} {ai : AI} (hok : (aistep bo L bx rw bb br ai).ok) : (alB ai = true → (aistep bo L bx rw bb br ai).nb = 1) ∧ (alR ai = true → (aistep bo L bx rw bb br ai).nr = 1) := by
  refine ⟨fun h => ?_, fun h => ?_⟩ <;> cases ai <;> first | (cases h; done) | skip
  · rfl
  · rfl
  · rfl
  · simp only [aistep] at hok ⊢; split at hok <;> first | exact hok.elim | rfl
  · simp only [aistep] at hok ⊢; split at hok <;> first | exact hok.elim | rfl
  · simp only [aistep] at hok ⊢; split at hok <;> first | exact hok.elim | rfl
  · simp only [aistep] at hok ⊢
    split at hok
    · split at hok
      · rfl
      · exact hok.elim
    · exact hok.elim
  · simp only [aistep] at hok ⊢
    split at hok
    · split at hok
      · rfl
      · split at hok <;> first | exact hok.elim | rfl
      · rfl
      · split at hok <;> first | exact hok.elim | rfl
      · exact hok.elim
    · exact hok.elim
def lookT (tm : Nat → AV) : Opd → AV
  | .tmp t => tm t
  | .cst v => v

section
variable {P : Program} {w0 : Base} {N : Nat} {ρ : Env} {F : Nat → Prop} {σ : FS} {a : Act} {w : World}

theorem cO_rep (h : Sim w0 N ρ F σ a w) {x : Operand} {y : Opd} (hx : cO x = some y) : Rep ρ w0.V F w (a.eval x) (lookT σ.tm y) := by
  cases x with
  | tmp t => cases hx; exact h.tm t
  | const v => cases hx; exact .pure _ _ (cst_rep F w v)
  | func f => cases hx; exact .fn f #[] [] rfl (by simp)
  | global g => cases hx

/-- An operation gives a value, or nothing. -/
def GoodN (P : Program) (w0 : Base) (N : Nat) (ρ : Env) (F : Nat → Prop) (a : Act) (w : World) (s : Sem Next) (bb nb br nr : Nat) (σ' : FS) (av : AV) : Prop :=
  ∃ v w' ρ' F', (s.run P w = .ok (.value v) w' ∨ (s.run P w = .ok .skip w' ∧ v = undef)) ∧ Grown w0.V ρ ρ' F F' bb nb br nr ∧ Sim w0 N ρ' F' σ' a w' ∧ Rep ρ' w0.V F' w' v av

theorem Good.n {s : Sem Value} {bb nb br nr : Nat} {σ' : FS} {av : AV} (h : Good P w0 N ρ F a w s bb nb br nr σ' av) : GoodN P w0 N ρ F a w (do pure (.value (← s))) bb nb br nr σ' av := by
  obtain ⟨v, w', ρ', F', h1, h2, h3, h4⟩ := h
  exact ⟨v, w', ρ', F', .inl (by simp [h1]), h2, h3, h4⟩
theorem GV.n {s : Sem Value} {bb br : Nat} {av : AV} (h : Sim w0 N ρ F σ a w) (hv : GV P ρ w0.V F w s av) : GoodN P w0 N ρ F a w (do pure (.value (← s))) bb 0 br 0 σ av := (hv.good h).n
end
end Go.Proofs.Ytiejnmbpejfpgaa
