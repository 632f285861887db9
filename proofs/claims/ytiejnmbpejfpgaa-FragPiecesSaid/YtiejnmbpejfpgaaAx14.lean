/- Each operation, as it is compiled. -/
import Derived.Test.YtiejnmbpejfpgaaAx13
namespace Go.Proofs.Ytiejnmbpejfpgaa
open Go.RowKit
set_option linter.unusedVariables false

section
variable {P : Program} {w0 : Base} {N : Nat} {ρ : Env} {F : Nat → Prop} {σ : FS} {a : Act} {w : World}

/-- What is to be shown of an operation. -/
def OpOk (P : Program) (w0 : Base) (N : Nat) (ρ : Env) (F : Nat → Prop) (σ : FS) (a : Act) (w : World) (s : Sem Next) (bb br : Nat) (r : Res) : Prop :=
  r.ok → GoodN P w0 N ρ F a w s bb r.nb br r.nr (σ.ups r.up) r.av

theorem ok_val {s : Sem Value} {bb br : Nat} {av : AV} (h : Sim w0 N ρ F σ a w) (hv : GV P ρ w0.V F w s av) : GoodN P w0 N ρ F a w (do pure (.value (← s))) bb 0 br 0 (σ.ups []) av := GV.n h hv

variable (bo : Bool) (bb br : Nat)

theorem op_mv (h : Sim w0 N ρ F σ a w) {x : Operand} {y : Opd} (hx : cO x = some y) : OpOk P w0 N ρ F σ a w (pure (.value (a.eval x))) bb br (aistep bo (lookT σ.tm) σ.bx σ.rw bb br (.mv y)) := fun _ =>
  ⟨_, w, ρ, F, .inl rfl, .refl _ _ _ _ _, h, cO_rep h hx⟩

theorem op_pick (h : Sim w0 N ρ F σ a w) {c x y : Operand} {c' x' y' : Opd} (hc : cO c = some c') (hx : cO x = some x') (hy : cO y = some y') : OpOk P w0 N ρ F σ a w (do pure (.value (if ← asBool (a.eval c) then a.eval x else a.eval y))) bb br (aistep bo (lookT σ.tm) σ.bx σ.rw bb br (.pick c' x' y')) := fun hok => by
  have rc := cO_rep h hc
  have rx := cO_rep h hx
  have ry := cO_rep h hy
  simp only [aistep] at hok ⊢
  split at hok
  · rename_i t ht
    obtain ⟨h1, h2, h3⟩ := hok
    have rc' := rc.val h1
    rw [ht] at rc'
    have e := rc'.bool_inv
    dsimp only
    refine ⟨if t then a.eval x else a.eval y, w, ρ, F, .inl (by simp [e, asBool]), .refl _ _ _ _ _, h, ?_⟩
    cases t
    · rw [pickV_false]; simpa using ry.val (h3 rfl)
    · rw [pickV_true]; simpa using rx.val (h2 rfl)
  · exact hok.elim

theorem op_alloc (h : Sim w0 N ρ F σ a w) {t : TypeId} {z : Value} (hbb : isArr P t = false → ρ.b bb = none) (hbr : isArr P t = true → ∀ l, cst z = .agg l → ρ.r br = none) (hz : zeroOf P t = some z) : OpOk P w0 N ρ F σ a w (do pure (.value (← Instr.alloc t true (.tuple #[])))) bb br (aistep bo (lookT σ.tm) σ.bx σ.rw bb br (if isArr P t then (match cst z with | .agg l => .newa l | _ => .no) else .newb (cst z).cells)) := fun hok => by
  obtain ⟨i, hi, hz⟩ := Option.bind_eq_some_iff.1 hz
  split at hok
  · rename_i harr
    rw [if_pos harr]
    split at hok
    · rename_i l hl
      simp only [aistep] at hok ⊢
      obtain ⟨h1, h2, h3⟩ := hok
      exact (g_alloca (P := P) (bb := bb) hi hz hl h (hbr harr l hl) h1 h2 h3).n
    · exact hok.elim
  · rename_i harr
    rw [if_neg harr]
    simp only [aistep] at hok ⊢
    exact (g_alloc (P := P) hi hz h (hbb (by simpa using harr)) hok).n

theorem op_box (h : Sim w0 N ρ F σ a w) {t : TypeId} (hbb : isArr P t = false → ρ.b bb = none) (hbr : isArr P t = true → ρ.r br = none) {x : Operand} {y : Opd} (hx : cO x = some y) : OpOk P w0 N ρ F σ a w (do pure (.value (← Instr.box t (a.eval x)))) bb br (aistep bo (lookT σ.tm) σ.bx σ.rw bb br (if isArr P t then .boxa y else .box y)) := fun hok => by
  have rx := cO_rep h hx
  split at hok
  · rename_i harr
    rw [if_pos harr]
    simp only [aistep] at hok ⊢
    split at hok
    · rename_i l hl
      obtain ⟨h1, h2, h3, h4⟩ := hok
      have := rx.val h1
      rw [hl] at this
      exact (g_boxa (P := P) (bb := bb) h (hbr harr) this h2 h3 h4).n
    · exact hok.elim
  · rename_i harr
    rw [if_neg harr]
    simp only [aistep] at hok ⊢
    exact (g_box (P := P) (br := br) h (hbb (by simpa using harr)) (rx.val hok.1) hok.2).n

theorem op_load (h : Sim w0 N ρ F σ a w) {t : TypeId} {x : Operand} {y : Opd} (hx : cO x = some y) {g : Bool} {n : Nat} (hg : aggOf P t = some g) (hn : szOf P t = some n) : OpOk P w0 N ρ F σ a w (do pure (.value (← Instr.loadAt t (a.eval x)))) bb br (aistep bo (lookT σ.tm) σ.bx σ.rw bb br (.load g n y)) := fun hok => by
  have rx := cO_rep h hx
  simp only [aistep] at hok ⊢
  split at hok
  · rename_i b off hv
    split at hok
    · rename_i cells hb
      obtain ⟨h1, h2⟩ := hok
      have r := rx.val h1; rw [hv] at r
      have q := v_load_b (P := P) hg hn h r hb h2
      have e : (loadC g n (cells.drop off)).nb = 0 ∧ (loadC g n (cells.drop off)).nr = 0 ∧ (loadC g n (cells.drop off)).up = [] := by cases g <;> exact ⟨rfl, rfl, rfl⟩
      simp only [e.1, e.2.1, e.2.2]
      exact ok_val h q
    · exact hok.elim
  · rename_i vol cs hv
    obtain ⟨h1, h2⟩ := hok
    have r := rx.val h1; rw [hv] at r
    have q := v_load_c (P := P) hg hn r h2
    have e : (loadC g n cs).nb = 0 ∧ (loadC g n cs).nr = 0 ∧ (loadC g n cs).up = [] := by cases g <;> exact ⟨rfl, rfl, rfl⟩
    simp only [e.1, e.2.1, e.2.2]
    exact ok_val h q
  · rename_i b k i off hv
    split at hok
    · rename_i r0 hb
      obtain ⟨h1, h2, h3, h4, h5⟩ := hok
      have r := rx.val h1; rw [hv] at r
      have q := v_load_r (P := P) hg hn h r hb h3 h4 h5
      have e : ∀ cs, (loadC g n cs).nb = 0 ∧ (loadC g n cs).nr = 0 ∧ (loadC g n cs).up = [] := by intro cs; cases g <;> exact ⟨rfl, rfl, rfl⟩
      simp only [(e _).1, (e _).2.1, (e _).2.2]
      exact ok_val h q
    · exact hok.elim
  · rename_i b m hv
    split at hok
    · rename_i r0 hb
      obtain ⟨h1, h2, h3, h4, h5, h6, h7⟩ := hok
      have r := rx.val h1; rw [hv] at r
      subst h3
      exact ok_val h (v_load_a (P := P) hg hn h r hb h5 h6 h7)
    · exact hok.elim
  · exact hok.elim

theorem op_store (h : Sim w0 N ρ F σ a w) {t : TypeId} {x u : Operand} {y z : Opd} (hx : cO x = some y) (hu : cO u = some z) {n : Nat} (hn : szOf P t = some n) : OpOk P w0 N ρ F σ a w (do Instr.storeAt t (a.eval x) (a.eval u); pure .skip) bb br (aistep bo (lookT σ.tm) σ.bx σ.rw bb br (.store n y z)) := fun hok => by
  have rx := cO_rep h hx
  have ru := cO_rep h hu
  simp only [aistep] at hok ⊢
  split at hok
  · rename_i b off hv
    split at hok
    · rename_i cells hb
      obtain ⟨⟨h1, h2, h3, h4⟩, h5⟩ := hok
      have r := rx.val h1; rw [hv] at r
      obtain ⟨w', e1, e2⟩ := store_b (P := P) hn h r hb (ru.val h2) h3 h4 h5
      exact ⟨undef, w', ρ, F, .inr ⟨by simp [e1], rfl⟩, .refl _ _ _ _ _, e2, .any _⟩
    · exact hok.elim
  · rename_i b k i off hv
    split at hok
    · rename_i r0 v' hb hz
      obtain ⟨⟨h1, h2, h3, h4⟩, h5, h6, h7, h8, h9, h10⟩ := hok
      have r := rx.val h1; rw [hv] at r
      obtain ⟨w', F', e1, e2, e3, e4⟩ := store_r (P := P) hn h r hb (ru.val h2) hz h3 h4 h5 h6 h7 h8 h9 h10
      exact ⟨undef, w', ρ, F', .inr ⟨by simp [e1], rfl⟩, ⟨ρ.le_refl, fun _ hx => .inl hx, fun _ hx => .inl hx, e2, e3⟩, e4, .any _⟩
    · exact hok.elim
  · rename_i b m hv
    split at hok
    · rename_i r0 l hb hl
      obtain ⟨⟨h1, h2, h3, h4⟩, h5, h6, h7, h8, h9⟩ := hok
      have r := rx.val h1; rw [hv] at r
      have ru' := ru.val h2; rw [hl] at ru' h3 h4
      obtain ⟨w', e1, e2⟩ := store_a (P := P) hn h r hb ru' h3 h4 h5 h6 h7 h8 h9
      exact ⟨undef, w', ρ, F, .inr ⟨by simp [e1], rfl⟩, .refl _ _ _ _ _, e2, .any _⟩
    · exact hok.elim
  · exact hok.elim

theorem op_fadr (h : Sim w0 N ρ F σ a w) {s : TypeId} {fields : Array Field} {i n : Nat} {f : Field} (hs : P.underlying s = some (.struct fields)) (hf : fields[i]? = some f) (hsz : szOf P f.type = some n) (hn : n ≠ 0) {x : Operand} {y : Opd} (hx : cO x = some y) : OpOk P w0 N ρ F σ a w (do pure (.value (← Instr.fieldAt s (a.eval x) i))) bb br (aistep bo (lookT σ.tm) σ.bx σ.rw bb br (.fadr f.offset y)) := fun hok => by
  have rx := cO_rep h hx
  simp only [aistep] at hok ⊢
  split at hok
  · rename_i hv; have r := rx.val hok; rw [hv] at r; exact ok_val h (v_fadr_b hs hf hsz hn r)
  · rename_i hv; have r := rx.val hok; rw [hv] at r; exact ok_val h (v_fadr_r hs hf hsz hn r)
  · rename_i hv; have r := rx.val hok.1; rw [hv] at r; exact ok_val h (v_fadr_c hs hf hsz hn r)
  · exact hok.elim
theorem op_fld (h : Sim w0 N ρ F σ a w) {s : TypeId} {fields : Array Field} {i n : Nat} {g : Bool} {f : Field} (hs : P.underlying s = some (.struct fields)) (hf : fields[i]? = some f) (hsz : szOf P f.type = some n) (hg : aggOf P f.type = some g) {x : Operand} {y : Opd} (hx : cO x = some y) : OpOk P w0 N ρ F σ a w (do pure (.value (← Instr.field s (a.eval x) i))) bb br (aistep bo (lookT σ.tm) σ.bx σ.rw bb br (.fld f.offset n g y)) := fun hok => by
  have rx := cO_rep h hx
  simp only [aistep] at hok ⊢
  split at hok
  · rename_i hv; have r := rx.val hok.1; rw [hv] at r; exact ok_val h (v_fld hs hf hg hsz r hok.2.1 hok.2.2)
  · exact hok.elim
theorem op_iadS (h : Sim w0 N ρ F σ a w) {t e : TypeId} {k : Nat} (ht : P.underlying t = some (.slice e)) (hsz : szOf P e = some k) {x i : Operand} {y j : Opd} (hx : cO x = some y) (hi : cO i = some j) : OpOk P w0 N ρ F σ a w (do pure (.value (← Instr.indexAt t (a.eval x) (a.eval i)))) bb br (aistep bo (lookT σ.tm) σ.bx σ.rw bb br (.iadS k y j)) := fun hok => by
  have rx := cO_rep h hx
  have ri := cO_rep h hi
  simp only [aistep] at hok ⊢
  split at hok
  · rename_i hv hj
    obtain ⟨h1, h2, h3, h4, h5⟩ := hok
    have r := (rx.val h1).rf; rw [hv] at r
    have q := (ri.val h2); rw [hj] at q; rw [q.int_inv]
    subst h3
    exact ok_val h (v_iadS_ref ht hsz r h4 h5)
  · rename_i hv hj
    obtain ⟨h1, h2, h3, h4, h5, h6⟩ := hok
    have r := (rx.val h1).rf; rw [hv] at r
    have q := (ri.val h2); rw [hj] at q; rw [q.int_inv]
    subst h3
    exact ok_val h (v_iadS_sl ht hsz h4 r h5 h6)
  · rename_i hv hj
    obtain ⟨h1, h2, h3, h4, h5, h6⟩ := hok
    have r := (rx.val h1).rf; rw [hv] at r
    have q := (ri.val h2); rw [hj] at q; rw [q.int_inv]
    subst h3
    exact ok_val h (v_iadS_sl ht hsz h4 r.csl_sl h5 h6)
  · exact hok.elim
theorem op_iadA (h : Sim w0 N ρ F σ a w) {t e : TypeId} {k n : Nat} (ht : P.underlying t = some (.array n e)) (hsz : szOf P e = some k) {x i : Operand} {y j : Opd} (hx : cO x = some y) (hi : cO i = some j) : OpOk P w0 N ρ F σ a w (do pure (.value (← Instr.indexAt t (a.eval x) (a.eval i)))) bb br (aistep bo (lookT σ.tm) σ.bx σ.rw bb br (.iadA k n y j)) := fun hok => by
  have rx := cO_rep h hx
  have ri := cO_rep h hi
  simp only [aistep] at hok ⊢
  split at hok
  · rename_i hv hj
    obtain ⟨h1, h2, h3, h4⟩ := hok
    have r := rx.val h1; rw [hv] at r
    have q := (ri.val h2); rw [hj] at q; rw [q.int_inv]
    exact ok_val h (v_iadA_b ht hsz r h3 h4)
  · rename_i hv hj
    obtain ⟨h1, h2, h3, h4, h5⟩ := hok
    have r := rx.val h1; rw [hv] at r
    have q := (ri.val h2); rw [hj] at q; rw [q.int_inv]
    subst h3
    exact ok_val h (v_iadA_a ht hsz r h4 h5)
  · rename_i hv hj
    obtain ⟨h1, h2, h3, h4, h5⟩ := hok
    have r := rx.val h1; rw [hv] at r
    have q := (ri.val h2); rw [hj] at q; rw [q.int_inv]
    exact ok_val h (v_iadA_c ht hsz r h3 h4)
  · exact hok.elim
theorem op_idxA (h : Sim w0 N ρ F σ a w) {t e : TypeId} {k n : Nat} {g : Bool} (ht : P.underlying t = some (.array n e)) (hsz : szOf P e = some k) (hg : aggOf P e = some g) {x i : Operand} {y j : Opd} (hx : cO x = some y) (hi : cO i = some j) : OpOk P w0 N ρ F σ a w (do pure (.value (← Instr.index t (a.eval x) (a.eval i)))) bb br (aistep bo (lookT σ.tm) σ.bx σ.rw bb br (.idxA k n g y j)) := fun hok => by
  have rx := cO_rep h hx
  have ri := cO_rep h hi
  simp only [aistep] at hok ⊢
  split at hok
  · rename_i hv hj
    obtain ⟨h1, h2, h3, h4, h5, h6⟩ := hok
    have r := rx.val h1; rw [hv] at r
    have q := (ri.val h2); rw [hj] at q; rw [q.int_inv]
    exact ok_val h (v_idxA ht hg hsz r h3 h4 h5 h6)
  · exact hok.elim
theorem op_idxT (h : Sim w0 N ρ F σ a w) {t : TypeId} (ht : P.underlying t = some .string) {x i : Operand} {y j : Opd} (hx : cO x = some y) (hi : cO i = some j) : OpOk P w0 N ρ F σ a w (do pure (.value (← Instr.index t (a.eval x) (a.eval i)))) bb br (aistep bo (lookT σ.tm) σ.bx σ.rw bb br (.idxT y j)) := fun hok => by
  have rx := cO_rep h hx
  have ri := cO_rep h hi
  simp only [aistep] at hok ⊢
  split at hok
  · rename_i hv hj
    obtain ⟨h1, h2, h3, h4⟩ := hok
    have r := rx.val h1; rw [hv] at r
    have q := (ri.val h2); rw [hj] at q; rw [q.int_inv]
    exact ok_val h (v_idxT ht r h3 h4)
  · exact hok.elim
theorem op_ext (h : Sim w0 N ρ F σ a w) {i : Nat} {x : Operand} {y : Opd} (hx : cO x = some y) : OpOk P w0 N ρ F σ a w (do pure (.value (← Instr.extract (a.eval x) i))) bb br (aistep bo (lookT σ.tm) σ.bx σ.rw bb br (.ext y i)) := fun hok => by
  have rx := cO_rep h hx
  simp only [aistep] at hok ⊢
  split at hok
  · rename_i hv; have r := rx.val hok.1; rw [hv] at r; exact ok_val h (v_ext r hok.2)
  · exact hok.elim
theorem op_nchk (h : Sim w0 N ρ F σ a w) {o : Oper} {x : Operand} {y : Opd} (hx : cO x = some y) (ho : o.op = .nilCheck x) : OpOk P w0 N ρ F σ a w (execOp a.eval o) bb br (aistep bo (lookT σ.tm) σ.bx σ.rw bb br (.nchk y)) := fun hok => by
  have rx := cO_rep h hx
  have key : ∀ ad, a.eval x = .pointer (some ad) → execOp a.eval o = pure (.value (a.eval x)) := fun ad e => by simp [execOp, ho, e]
  simp only [aistep] at hok ⊢
  split at hok
  · rename_i hv; have r := rx.val hok; have r' := r; rw [hv] at r'; obtain ⟨g, _, e⟩ := r'.bptr_inv
    exact ⟨_, w, ρ, F, .inl (by rw [key _ e]; rfl), .refl _ _ _ _ _, h, r⟩
  · rename_i hv; have r := rx.val hok; have r' := r; rw [hv] at r'; obtain ⟨g, _, e⟩ := r'.rptr_inv
    exact ⟨_, w, ρ, F, .inl (by rw [key _ e]; rfl), .refl _ _ _ _ _, h, r⟩
  · rename_i hv; have r := rx.val hok; have r' := r; rw [hv] at r'; obtain ⟨g, _, _, e⟩ := r'.aptr_inv
    exact ⟨_, w, ρ, F, .inl (by rw [key _ e]; rfl), .refl _ _ _ _ _, h, r⟩
  · rename_i hv; have r := rx.val hok; have r' := r; rw [hv] at r'; obtain ⟨ad, _, e, _⟩ := r'.cptr_inv
    exact ⟨_, w, ρ, F, .inl (by rw [key _ e]; rfl), .refl _ _ _ _ _, h, r⟩
  · exact hok.elim
end
end Go.Proofs.Ytiejnmbpejfpgaa
