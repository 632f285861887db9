/- Each operation, as it is compiled: cuts, arithmetic, conversions, builtins, literals. -/
import Derived.Test.YtiejnmbpejfpgaaAx14
namespace Go.Proofs.Ytiejnmbpejfpgaa
open Go.RowKit
set_option linter.unusedVariables false

section
variable {P : Program} {w0 : Base} {N : Nat} {ρ : Env} {F : Nat → Prop} {σ : FS} {a : Act} {w : World}
variable (bo : Bool) (bb br : Nat)

omit bo bb br in
theorem bnd_isB (h : Sim w0 N ρ F σ a w) {lo' : Option Operand} {lo : Option Opd} (hl : cOo lo' = some lo) {d : Nat} {l : Int} (hb : bnd (d : Int) (lookT σ.tm) lo = some l) (hc : bndc (lookT σ.tm) lo) (h0 : 0 ≤ l) : IsB d (lo'.map a.eval) l.toNat := by
  cases lo' with
  | none => cases hl; simp only [bnd, Option.some.injEq] at hb; left; exact ⟨rfl, by omega⟩
  | some x =>
    simp only [cOo, Option.map_eq_some_iff] at hl
    obtain ⟨y, hy, rfl⟩ := hl
    have r := (cO_rep h hy).val hc
    simp only [bnd] at hb
    split at hb
    · rename_i k n hv
      cases hb
      rw [hv] at r
      right
      exact ⟨k, by simp only [Option.map_some, r.int_inv]; rw [Int.toNat_of_nonneg h0]⟩
    · cases hb
omit bo bb br in
theorem cOo_some {x : Option Operand} {y : Option Opd} (h : cOo x = some y) : x.isSome = y.isSome := by
  cases x with
  | none => cases h; rfl
  | some x => simp only [cOo, Option.map_eq_some_iff] at h; obtain ⟨z, _, rfl⟩ := h; rfl

theorem op_slice (h : Sim w0 N ρ F σ a w) {t : TypeId} {x : Operand} {y : Opd} {lo' hi' mx' : Option Operand} {lo hi mx : Option Opd} (hx : cO x = some y) (hlo : cOo lo' = some lo) (hhi : cOo hi' = some hi) (hmx : cOo mx' = some mx) {ai : AI} (hc : compSlice P t y lo hi mx = some ai) :
    OpOk P w0 N ρ F σ a w (do pure (.value (← Instr.sliceAt t (a.eval x) (lo'.map a.eval) (hi'.map a.eval) (mx'.map a.eval)))) bb br (aistep bo (lookT σ.tm) σ.bx σ.rw bb br ai) := fun hok => by
  have rx := cO_rep h hx
  unfold compSlice at hc
  split at hc
  · -- slices
    rename_i e ht
    split at hc
    · cases hc
    · rename_i hne
      simp only [Option.map_eq_some_iff] at hc
      obtain ⟨k, hsz, rfl⟩ := hc
      have hm0 : mx'.map a.eval ≠ none → hi'.map a.eval ≠ none := by
        have e1 := cOo_some hhi; have e2 := cOo_some hmx
        intro q1 q2
        cases mx' <;> cases hi' <;> simp_all
      simp only [aistep] at hok ⊢
      split at hok
      · rename_i b k' l0 n l hv hl
        split at hok
        · rename_i hh mm hh1 hh2
          obtain ⟨c1, c2, c3, c4, c5, c6, c7, c8, c9⟩ := hok
          have r := rx.val c1; rw [hv] at r; subst c5
          have b1 := bnd_isB h hlo (d := 0) hl c2 c6
          have b2 := bnd_isB h hhi hh1 c3 (by omega)
          have b3 : mx'.map a.eval = none ∨ ∃ kk, mx'.map a.eval = some (.int kk mm.toNat) := by
            rcases bnd_isB h hmx hh2 c4 (by omega) with ⟨q, _⟩ | q
            · exact .inl q
            · exact .inr q
          have q := v_slS_ref (P := P) ht hsz r b1 b2 b3 hm0 (by omega) (by omega) (by omega)
          rw [show hh.toNat - l.toNat = (hh - l).toNat by omega] at q
          exact ok_val h q
        · exact hok.elim
      · rename_i b k' l0 n c l hv hl
        split at hok
        · rename_i hh mm hh1 hh2
          obtain ⟨c1, c2, c3, c4, c5, c6, c7, c8, c9⟩ := hok
          have r := rx.val c1; rw [hv] at r; subst c5
          have b1 := bnd_isB h hlo (d := 0) hl c2 c6
          have b2 := bnd_isB h hhi hh1 c3 (by omega)
          have b3 := bnd_isB h hmx hh2 c4 (by omega)
          have q := v_slS_refc (P := P) ht hsz r b1 b2 b3 hm0 (by omega) (by omega) (by omega)
          rw [show hh.toNat - l.toNat = (hh - l).toNat by omega, show mm.toNat - l.toNat = (mm - l).toNat by omega] at q
          exact ok_val h q
        · exact hok.elim
      · rename_i vol k' es l hv hl
        split at hok
        · rename_i hh hh1
          obtain ⟨c1, c2, c3, c4, c5, c6, c7⟩ := hok
          have r := rx.val c1; rw [hv] at r; subst c4
          have b1 := bnd_isB h hlo (d := 0) hl c2 c5
          have b2 := bnd_isB h hhi hh1 c3 (by omega)
          have hmn : mx' = none := by have := cOo_some hmx; cases mx' <;> simp_all
          subst hmn
          exact ok_val h (v_slS_sl (P := P) ht hsz r b1 b2 (by omega) (by omega))
        · exact hok.elim
      · rename_i vol k' es l hv hl
        split at hok
        · rename_i hh hh1
          obtain ⟨c1, c2, c3, c4, c5, c6, c7⟩ := hok
          have r := rx.val c1; rw [hv] at r; subst c4
          have b1 := bnd_isB h hlo (d := 0) hl c2 c5
          have b2 := bnd_isB h hhi hh1 c3 (by omega)
          have hmn : mx' = none := by have := cOo_some hmx; cases mx' <;> simp_all
          subst hmn
          exact ok_val h (v_slS_sl (P := P) ht hsz r.csl_sl b1 b2 (by omega) (by omega))
        · exact hok.elim
      · rename_i vol k' es l m hv hl
        split at hok
        · rename_i hh mm hh1 hh2
          obtain ⟨c1, c2, c3, c4, c5, c6, c7, c8, c9⟩ := hok
          have r := rx.val c1; rw [hv] at r; subst c5 c8
          have b1 := bnd_isB h hlo (d := 0) hl c2 c6
          have b2 := bnd_isB h hhi hh1 c3 (by omega)
          have hms : ∃ u, mx' = some u := by have := cOo_some hmx; cases mx' <;> simp_all
          obtain ⟨u, rfl⟩ := hms
          have b3 : ∃ kk, (some u).map a.eval = some (.int kk hh.toNat) := by
            rcases bnd_isB h hmx hh2 c4 (by omega) with ⟨q, _⟩ | q
            · simp at q
            · exact q
          exact ok_val h (v_slS_clip (P := P) ht hsz r b1 b2 b3 (hm0 (by simp)) (by omega) (by omega))
        · exact hok.elim
      · rename_i l hv hl
        split at hok
        · rename_i hh mm hh1 hh2
          obtain ⟨c1, c2, c3, c4, c5, c6, c7⟩ := hok
          have r := rx.val c1; rw [hv] at r; subst c5 c6 c7
          have b1 := bnd_isB h hlo (d := 0) hl c2 (Int.le_refl _)
          have b2 := bnd_isB h hhi (d := 0) hh1 c3 (Int.le_refl _)
          have b3 := bnd_isB h hmx (d := 0) hh2 c4 (Int.le_refl _)
          exact ok_val h (v_slS_nil (P := P) ht hsz r b1 b2 b3 hm0)
        · exact hok.elim
      · exact hok.elim
  · rename_i n e ht
    split at hc
    · rename_i hcnd
      obtain ⟨hsz, hmn, hn⟩ := hcnd
      cases hc
      simp only [aistep] at hok ⊢
      split at hok
      · rename_i b m l hh hv hl hh1
        obtain ⟨c1, c2, c3, c4, c5, c6, c7⟩ := hok
        have r := rx.val c1; rw [hv] at r
        have b1 := bnd_isB h hlo (d := 0) hl c2 c5
        have b2 := bnd_isB h hhi hh1 c3 (by omega)
        have hmn : mx' = none := by have := cOo_some hmx; cases mx' <;> simp_all
        subst hmn
        have q := v_slA (P := P) ht hsz r c4 b1 b2 (by omega) (by omega) (by unfold maxLen; omega)
        rw [show hh.toNat - l.toNat = (hh - l).toNat by omega] at q
        exact ok_val h q
      · rename_i vol cs l hh hv hl hh1
        obtain ⟨c1, c2, c3, c4, c5, c6, c7, c8⟩ := hok
        have r := rx.val c1; rw [hv] at r
        have b1 := bnd_isB h hlo (d := 0) hl c2 c5
        have b2 := bnd_isB h hhi hh1 c3 (by omega)
        have hmn : mx' = none := by have := cOo_some hmx; cases mx' <;> simp_all
        subst hmn
        exact ok_val h (v_slAc (P := P) ht hsz r c4 c8 b1 b2 (by omega) (by omega) (by unfold maxLen; omega))
      · exact hok.elim
    · cases hc
  · rename_i ht
    split at hc
    · rename_i hmn
      cases hc
      simp only [aistep] at hok ⊢
      split at hok
      · rename_i s l hv hl
        split at hok
        · rename_i hh hh1
          obtain ⟨c1, c2, c3, c4, c5, c6⟩ := hok
          have r := rx.val c1; rw [hv] at r
          have b1 := bnd_isB h hlo (d := 0) hl c2 c4
          have b2 := bnd_isB h hhi hh1 c3 (by omega)
          have hmn : mx' = none := by have := cOo_some hmx; cases mx' <;> simp_all
          subst hmn
          exact ok_val h (v_slT (P := P) ht r b1 b2 (by omega) (by omega))
        · exact hok.elim
      · exact hok.elim
    · cases hc
  · cases hc

theorem v_isN {B : Nat → Prop} {op : BinOp} {t e : TypeId} {xo yo : Operand} {ne : Bool} (hop : op = if ne then .neq else .eql) (ht : P.underlying t = some (.slice e)) {a0 : Option Addr} {n c : Nat} :
    GV P ρ B F w (do eqGuard op t xo yo (.slice a0 n c) (.slice none 0 0); binOp op t (.slice a0 n c) (.slice none 0 0)) (.bool (if ne then a0.isSome else a0.isNone)) := by
  subst hop
  have he : (Op.equal t (.slice a0 n c) (.slice none 0 0)).run P w = .ok a0.isNone w := by
    rw [show Op.equal t (.slice a0 n c) (.slice none 0 0) = Op.equalIn (9999 + 1) t (.slice a0 n c) (.slice none 0 0) from rfl, Op.equalIn]
    cases a0 <;> simp [run_underlying ht]
  unfold GV
  cases ne
  · refine ⟨.bool a0.isNone, ?_, rep_bool _⟩
    simp [eqGuard, binOp, he]
  · refine ⟨.bool a0.isSome, ?_, rep_bool _⟩
    simp [eqGuard, binOp, he]
/-- Is it nil? -/
theorem isN_val (h : Sim w0 N ρ F σ a w) {ne : Bool} {x : Operand} {y : Opd} {v : Value} (rx : Rep ρ w0.V F w v ((lookT σ.tm) y)) (hok : (aistep bo (lookT σ.tm) σ.bx σ.rw bb br (.isN ne y)).ok) : ∃ a0 n c, v = .slice a0 n c ∧ (aistep bo (lookT σ.tm) σ.bx σ.rw bb br (.isN ne y)).av = .bool (if ne then a0.isSome else a0.isNone) := by
  simp only [aistep] at hok ⊢
  split at hok
  · rename_i hv; have r := rx.val hok; rw [hv] at r; rw [r.nil_inv]; exact ⟨_, _, _, rfl, by cases ne <;> rfl⟩
  · rename_i hv; have r := rx.val hok.1; rw [hv] at r
    obtain ⟨a1, c, f, rfl, _, hr⟩ := r.sl_inv
    refine ⟨_, _, _, rfl, ?_⟩
    cases a1 with
    | none => have := hr.1.nil rfl; have := hr.1.cap; exact absurd (List.eq_nil_of_length_eq_zero (by omega)) hok.2
    | some ad => cases ne <;> rfl
  · rename_i hv; have r := rx.val hok.1; rw [hv] at r
    obtain ⟨a1, f, rfl, _, hr⟩ := r.csl_inv
    refine ⟨_, _, _, rfl, ?_⟩
    cases a1 with
    | none => have := hr.1.nil rfl; exact absurd (List.eq_nil_of_length_eq_zero (by omega)) hok.2
    | some ad => cases ne <;> rfl
  · rename_i hv; have r := rx.val hok.1; rw [hv] at r
    obtain ⟨a1, c, p, rfl, _, h1, _, _, h4, _⟩ := r.ref_inv
    refine ⟨_, _, _, rfl, ?_⟩
    cases a1 with
    | none => have := h4 rfl; have := hok.2; omega
    | some ad => cases ne <;> rfl
  · rename_i hv; have r := rx.val hok; rw [hv] at r; rw [r.raw_inv]; exact ⟨_, _, _, rfl, by cases ne <;> rfl⟩
  · exact hok.elim
theorem op_eqA (h : Sim w0 N ρ F σ a w) {op : BinOp} {t : TypeId} {x u : Operand} {y z : Opd} (hx : cO x = some y) (hu : cO u = some z) {ai : AI} (hc : compEq P op t y z = some ai) :
    OpOk P w0 N ρ F σ a w (do pure (.value (← (do eqGuard op t x u (a.eval x) (a.eval u); binOp op t (a.eval x) (a.eval u))))) bb br (aistep bo (lookT σ.tm) σ.bx σ.rw bb br ai) := fun hok => by
  have rx := cO_rep h hx
  have ru := cO_rep h hu
  unfold compEq at hc
  split at hc
  · cases hc
  rename_i hgd0
  simp only [not_or, Decidable.not_not] at hgd0
  obtain ⟨hgd, hag⟩ := hgd0
  have hgd : P.eqGuardType P.depth t = false := by simpa using hgd
  have key : ∀ (ne : Bool) (ts : List Nat), eqOk P 100 t = some ts → (op = if ne then .neq else .eql) → (aistep bo (lookT σ.tm) σ.bx σ.rw bb br (.eqA ne ts y z)).ok → GoodN P w0 N ρ F a w (do pure (.value (← (do eqGuard op t x u (a.eval x) (a.eval u); binOp op t (a.eval x) (a.eval u))))) bb (aistep bo (lookT σ.tm) σ.bx σ.rw bb br (.eqA ne ts y z)).nb br (aistep bo (lookT σ.tm) σ.bx σ.rw bb br (.eqA ne ts y z)).nr (σ.ups (aistep bo (lookT σ.tm) σ.bx σ.rw bb br (.eqA ne ts y z)).up) (aistep bo (lookT σ.tm) σ.bx σ.rw bb br (.eqA ne ts y z)).av := fun ne ts hts hop hok => by
    simp only [aistep] at hok ⊢
    split at hok
    · rename_i l1 l2 hv hw
      split at hok
      · rename_i r hr
        obtain ⟨h1, h2⟩ := hok
        have r1 := rx.val h1; rw [hv] at r1
        have r2 := ru.val h2; rw [hw] at r2
        obtain ⟨c1, e1, s1, g1⟩ := r1.agg_inv
        obtain ⟨c2, e2, s2, g2⟩ := r2.agg_inv
        obtain ⟨g, k1, k2, k3, k4⟩ := eqOk_run 100 t ts hts
        have hg : g = true := by rw [hag] at k1; cases k1; rfl
        subst hg
        rw [e1] at r1 ⊢
        rw [e2] at r2 ⊢
        have hq := k4 ρ w0.V F w 10000 (by omega) _ _ l1 l2 r ⟨fun _ => r1, fun e => by cases e⟩ ⟨fun _ => r2, fun e => by cases e⟩ hr
        refine ok_val h ⟨.bool (if ne then !r else r), ?_, rep_bool _⟩
        rw [Sem.run_bind, run_eqGuard_agg w op t x u c1 c2 hgd, Result.andThen_ok, hop]
        cases ne
        · simp only [Bool.false_eq_true, if_false]
          rw [run_eql_struct, hq]; rfl
        · simp only [if_true]
          rw [run_neq_struct, hq]; rfl
      · exact hok.elim
    · exact hok.elim
  cases op <;> dsimp only at hc <;> first | (cases hc; done) | skip
  · obtain ⟨ts, h1, rfl⟩ := Option.map_eq_some_iff.1 hc
    exact key false ts h1 rfl hok
  · obtain ⟨ts, h1, rfl⟩ := Option.map_eq_some_iff.1 hc
    exact key true ts h1 rfl hok
theorem op_bin (h : Sim w0 N ρ F σ a w) {op : BinOp} {t : TypeId} {x u : Operand} {y z : Opd} (hx : cO x = some y) (hu : cO u = some z) {ai : AI} (hc : compBin P op t y z = some ai) :
    OpOk P w0 N ρ F σ a w (do pure (.value (← (do eqGuard op t x u (a.eval x) (a.eval u); binOp op t (a.eval x) (a.eval u))))) bb br (aistep bo (lookT σ.tm) σ.bx σ.rw bb br ai) := fun hok => by
  have rx := cO_rep h hx
  have ru := cO_rep h hu
  unfold compBin at hc
  split at hc
  · rename_i k ht
    cases hc
    simp only [aistep] at hok ⊢
    split at hok
    · rename_i hv hw
      obtain ⟨h1, h2, h3⟩ := hok
      have r1 := rx.val h1; rw [hv] at r1
      have r2 := ru.val h2; rw [hw] at r2
      rw [r1.int_inv, r2.int_inv]
      exact ok_val h (v_bin h3)
    · exact hok.elim
  · rename_i ht
    split at hc <;> first | (cases hc; done) | skip
    · cases hc
      simp only [aistep] at hok ⊢
      split at hok
      · rename_i hv hw
        obtain ⟨h1, h2⟩ := hok
        have r1 := rx.val h1; rw [hv] at r1
        have r2 := ru.val h2; rw [hw] at r2
        rw [r1.bool_inv, r2.bool_inv]
        exact ok_val h (v_binB (ne := false) rfl ht)
      · exact hok.elim
    · cases hc
      simp only [aistep] at hok ⊢
      split at hok
      · rename_i hv hw
        obtain ⟨h1, h2⟩ := hok
        have r1 := rx.val h1; rw [hv] at r1
        have r2 := ru.val h2; rw [hw] at r2
        rw [r1.bool_inv, r2.bool_inv]
        exact ok_val h (v_binB (ne := true) rfl ht)
      · exact hok.elim
  · rename_i ht
    cases hc
    simp only [aistep] at hok ⊢
    split at hok
    · rename_i hv hw
      split at hok
      · rename_i hs
        obtain ⟨h1, h2, h3⟩ := hok
        have r1 := rx.val h1; rw [hv] at r1
        have r2 := ru.val h2; rw [hw] at r2
        exact ok_val h (v_binT r1 r2 hs h3)
      · exact hok.elim
    · exact hok.elim
  · rename_i e ht
    split at hc <;> first | (cases hc; done) | skip
    · cases hc
      obtain ⟨a0, n, c, hv, hav⟩ := isN_val bo bb br (x := x) h rx hok
      rw [hv, ru.nil_inv, hav]
      have q : (aistep bo (lookT σ.tm) σ.bx σ.rw bb br (.isN false y)).nb = 0 ∧ (aistep bo (lookT σ.tm) σ.bx σ.rw bb br (.isN false y)).nr = 0 ∧ (aistep bo (lookT σ.tm) σ.bx σ.rw bb br (.isN false y)).up = [] := by
        simp only [aistep]; split <;> exact ⟨rfl, rfl, rfl⟩
      rw [q.1, q.2.1, q.2.2]
      exact GV.n h (v_isN (ne := false) rfl ht)
    · cases hc
      obtain ⟨a0, n, c, hv, hav⟩ := isN_val bo bb br (x := x) h rx hok
      rw [hv, ru.nil_inv, hav]
      have q : (aistep bo (lookT σ.tm) σ.bx σ.rw bb br (.isN true y)).nb = 0 ∧ (aistep bo (lookT σ.tm) σ.bx σ.rw bb br (.isN true y)).nr = 0 ∧ (aistep bo (lookT σ.tm) σ.bx σ.rw bb br (.isN true y)).up = [] := by
        simp only [aistep]; split <;> exact ⟨rfl, rfl, rfl⟩
      rw [q.1, q.2.1, q.2.2]
      exact GV.n h (v_isN (ne := true) rfl ht)
  · exact op_eqA bo bb br h hx hu hc hok
  · exact op_eqA bo bb br h hx hu hc hok
  · cases hc

theorem op_un (h : Sim w0 N ρ F σ a w) {op : UnOp} {x : Operand} {y : Opd} (hx : cO x = some y) : OpOk P w0 N ρ F σ a w (do pure (.value (← Op.unary op (a.eval x)))) bb br (aistep bo (lookT σ.tm) σ.bx σ.rw bb br (match op with | .not => .not y | .neg => .neg y | .xor => .com y | .plus => .no)) := fun hok => by
  have rx := cO_rep h hx
  cases op <;> simp only [aistep] at hok ⊢
  · split at hok
    · rename_i hv; have r := rx.val hok; rw [hv] at r; rw [r.int_inv]; exact ok_val h v_neg
    · exact hok.elim
  · split at hok
    · rename_i hv; have r := rx.val hok; rw [hv] at r; rw [r.int_inv]; exact ok_val h v_com
    · exact hok.elim
  · split at hok
    · rename_i hv; have r := rx.val hok; rw [hv] at r; rw [r.bool_inv]; exact ok_val h v_not
    · exact hok.elim
  · exact hok.elim

theorem op_conv (h : Sim w0 N ρ F σ a w) {src dst : TypeId} {x : Operand} {y : Opd} (hx : cO x = some y) {ai : AI} (hc : compConv P src dst y = some ai) : OpOk P w0 N ρ F σ a w (do pure (.value (← convert src dst (a.eval x)))) bb br (aistep bo (lookT σ.tm) σ.bx σ.rw bb br ai) := fun hok => by
  have rx := cO_rep h hx
  unfold compConv at hc
  split at hc
  · rename_i k k' hs hd
    cases hc
    simp only [aistep] at hok ⊢
    split at hok
    · rename_i hv; have r := rx.val hok; rw [hv] at r; rw [r.int_inv]; exact ok_val h (v_conv hs hd)
    · exact hok.elim
  · rename_i hs hd
    cases hc
    simp only [aistep] at hok ⊢
    split at hok
    · rename_i hv; have r := rx.val hok; rw [hv] at r; exact ok_val h (v_convS r hs hd)
    · exact hok.elim
  · rename_i e hs hd
    split at hc
    · rename_i he
      cases hc
      simp only [aistep] at hok ⊢
      split at hok
      · rename_i k es hels
        obtain ⟨h1, h2⟩ := hok
        obtain ⟨v, e1, e2⟩ := v_b2s (P := P) h (rx.val h1) hels h2
        refine ok_val h ⟨v, ?_, e2⟩
        obtain ⟨ad, c, f, e3, _⟩ := els_row h (rx.val h1) hels
        rw [e3] at e1 ⊢
        unfold convert
        simp only [Sem.run_bind, run_underlying hs, run_underlying hd, run_underlying he, Result.andThen_ok]
        exact e1
      · exact hok.elim
    · cases hc
  · rename_i e hs hd
    split at hc
    · rename_i he
      cases hc
      simp only [aistep] at hok ⊢
      split at hok
      · rename_i l hv
        obtain ⟨h1, h2⟩ := hok
        have r := rx.val h1; rw [hv] at r
        obtain ⟨s, e1, e2⟩ := r.str_inv
        rw [e1]
        obtain ⟨v, w', ρ', F', q1, q2, q3, q4⟩ := g_s2b (P := P) (e := e) (bb := bb) (br := br) h e2 h2
        refine Good.n ⟨v, w', ρ', F', ?_, q2, q3, q4⟩
        unfold convert
        simp only [Sem.run_bind, run_underlying hs, run_underlying hd, run_underlying he, Result.andThen_ok]
        exact q1
      · exact hok.elim
    · cases hc
  · rename_i e e' hs hd
    split at hc
    · rename_i hsd
      subst hsd
      split at hc
      · rename_i he
        cases hc
        simp only [aistep] at hok ⊢
        split at hok
        · rename_i b k lo n hv
          split at hok
          · rename_i r hr
            obtain ⟨h1, h2, h3, h4, h5, h6⟩ := hok
            have q := rx.val h1; rw [hv] at q
            exact (g_mvL (P := P) h hs he q hr h2 h3 h4 h5 h6).n
          · exact hok.elim
        · exact hok.elim
      · cases hc
    · cases hc
  · cases hc

theorem op_mks (h : Sim w0 N ρ F σ a w) (hbr : ρ.r br = none) {t e : TypeId} {i : TypeInfo} {z : Value} (ht : P.underlying t = some (.slice e)) (hi : P.info? e = some i) (hz : i.zero = some z) {x u : Operand} {y v : Opd} (hx : cO x = some y) (hu : cO u = some v) : OpOk P w0 N ρ F σ a w (do pure (.value (← Instr.makeSlice t (a.eval x) (a.eval u)))) bb br (aistep bo (lookT σ.tm) σ.bx σ.rw bb br (.mks i.size i.bytes (cst z) y v)) := fun hok => by
  have rx := cO_rep h hx
  have ru := cO_rep h hu
  simp only [aistep] at hok ⊢
  split at hok
  · rename_i hv hw
    obtain ⟨h1, h2, h3, h4, h5, h6, h7, h8, h9, h10⟩ := hok
    have r1 := rx.val h1; rw [hv] at r1
    have r2 := ru.val h2; rw [hw] at r2
    rw [r1.int_inv, r2.int_inv]
    subst h3
    exact (g_mks (P := P) (bb := bb) ht hi hz rfl rfl h hbr h4 h5 h9 h6 h8).n
  · exact hok.elim

omit bo bb br in
theorem reps_list (h : Sim w0 N ρ F σ a w) {xs : List Operand} {ys : List Opd} (hm : xs.mapM cO = some ys) : ys.length = xs.length ∧ ∀ (i : Nat) (x : Operand) (y : Opd), xs[i]? = some x → ys[i]? = some y → Rep ρ w0.V F w (a.eval x) ((lookT σ.tm) y) := by
  obtain ⟨h1, h2⟩ := mapM_get hm
  exact ⟨h1, fun i x y e1 e2 => cO_rep h (h2 i x y e1 e2)⟩

theorem op_mkf (h : Sim w0 N ρ F σ a w) {f : Nat} {first caps : Array Operand} (hf : first.size = 0) {xs : List Opd} (hx : caps.toList.mapM cO = some xs) : OpOk P w0 N ρ F σ a w (do pure (.value (← Instr.makeFunc (.func f) (first.map a.eval) (caps.map a.eval)))) bb br (aistep bo (lookT σ.tm) σ.bx σ.rw bb br (.mkf f xs)) := fun hok => by
  obtain ⟨h1, h2⟩ := reps_list h hx
  have hf0 : first = #[] := Array.eq_empty_of_size_eq_zero hf
  subst hf0
  simp only [aistep] at hok ⊢
  refine ok_val h ⟨.func (.func f) #[] (caps.map a.eval), by simp [Instr.makeFunc], .fn f _ _ (by simp [h1]) fun i u av e1 e2 => ?_⟩
  rw [List.getElem?_map] at e2
  cases hy : xs[i]? with
  | none => rw [hy] at e2; cases e2
  | some y =>
    rw [hy] at e2; cases e2
    rw [Array.getElem?_map] at e1
    cases hc : caps[i]? with
    | none => rw [hc] at e1; cases e1
    | some x =>
      rw [hc] at e1; cases e1
      exact (h2 i x y (by simpa using hc) hy).val (hok y (List.mem_of_getElem? hy))
end
end Go.Proofs.Ytiejnmbpejfpgaa
