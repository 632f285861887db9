/- Each operation, as it is compiled: literals, builtins; all of them. -/
import Derived.Test.YtiejnmbpejfpgaaAx15
namespace Go.Proofs.Ytiejnmbpejfpgaa
open Go.RowKit
set_option linter.unusedVariables false

section
variable {P : Program} {w0 : Base} {N : Nat} {ρ : Env} {F : Nat → Prop} {σ : FS} {a : Act} {w : World}
variable (bo : Bool) (bb br : Nat)

theorem op_build (h : Sim w0 N ρ F σ a w) {t : TypeId} {z : Value} {place : Nat → Option (Nat × Nat)} (hz : zeroOf P t = some z) (hp : placesOf P t = some place) {parts : Array (Nat × Operand)} {qs : List (Nat × Nat × Opd)}
    (hq : (parts.toList.mapM fun p => (place p.1).bind fun q => (cO p.2).map fun x => ((q.1, q.2, x) : Nat × Nat × Opd)) = some qs) : OpOk P w0 N ρ F σ a w (do pure (.value (← Instr.build t (parts.map fun (i, x) => (i, a.eval x))))) bb br (aistep bo (lookT σ.tm) σ.bx σ.rw bb br (.build (cst z).cells qs)) := fun hok => by
  obtain ⟨h1, h2⟩ := mapM_get hq
  simp only [aistep] at hok ⊢
  refine ok_val h (v_build hz hp (lookT σ.tm) _ qs (by simp [h1]) hok.2 (fun i p q e1 e2 => ?_) hok.1)
  rw [Array.getElem?_map] at e1
  cases hi : parts[i]? with
  | none => rw [hi] at e1; cases e1
  | some p0 =>
    rw [hi] at e1; cases e1
    have := h2 i p0 q (by simpa using hi) e2
    obtain ⟨q0, e3, e4⟩ := Option.bind_eq_some_iff.1 this
    obtain ⟨x, e5, rfl⟩ := Option.map_eq_some_iff.1 e4
    exact ⟨e3, cO_rep h e5⟩

omit bo bb br in
theorem zip_pairs (f : Operand → Value) : ∀ l : List (Nat × Operand), (l.map fun p => (p.1, f p.2)) = (l.map (·.1)).zip (l.map fun p => f p.2)
  | [] => rfl
  | p :: l => by simp [zip_pairs f l]
theorem op_bsl (h : Sim w0 N ρ F σ a w) (hbr : ρ.r br = none) {t e : TypeId} {k len : Nat} {z : Value} (ht : P.underlying t = some (.slice e)) (hsz : szOf P e = some k) (hz : zeroOf P e = some z) {parts : Array (Nat × Operand)} (hc : parts.toList.map (·.1) = List.range' 0 len ∧ parts.size = len ∧ len * k ≤ 16777216 ∧ len ≤ 1000000) {xs : List Opd} (hx : (parts.toList.mapM fun p => cO p.2) = some xs) :
    OpOk P w0 N ρ F σ a w (do pure (.value (← Instr.buildSlice t len (parts.map fun (i, x) => (i, a.eval x))))) bb br (aistep bo (lookT σ.tm) σ.bx σ.rw bb br (.bsl k xs)) := fun hok => by
  obtain ⟨h1, h2⟩ := mapM_get hx
  obtain ⟨c1, c2, c3, c4⟩ := hc
  simp only [aistep] at hok ⊢
  split at hok
  · rename_i es hes
    obtain ⟨o1, o2⟩ := hok
    have hvl : (parts.toList.map fun p => a.eval p.2).length = len := by simp [c2]
    have := g_bsl (P := P) (bb := bb) (br := br) ht hsz hz h hbr (parts := parts.map fun (i, x) => (i, a.eval x)) (vs := parts.toList.map fun p => a.eval p.2) (avs := xs.map fun x => ((lookT σ.tm) x).val) (es := es) (by
      rw [hvl, ← c1, ← zip_pairs]; simp) (by rw [hvl]; exact c3) (by rw [hvl]; unfold maxLen; omega) (by simp [h1]) (fun i u x e1 e2 => by
      rw [List.getElem?_map] at e1 e2
      cases hi : parts.toList[i]? with
      | none => rw [hi] at e1; cases e1
      | some p =>
        cases hj : xs[i]? with
        | none => rw [hj] at e2; cases e2
        | some y =>
          rw [hi] at e1; rw [hj] at e2; cases e1; cases e2
          exact (cO_rep h (h2 i p y hi hj)).val (o1 y (List.mem_of_getElem? hj)).1) (by rw [List.mapM_map]; exact hes) (fun x hx => by
      obtain ⟨y, hy, rfl⟩ := List.mem_map.1 hx
      exact (o1 y hy).2) o2
    rw [hvl, List.flatMap_map] at this
    exact this.n
  · exact hok.elim

omit bo bb br in
theorem two_args {args : Array Operand} {x y : Opd} (h : args.toList.mapM cO = some [x, y]) : ∃ p q, args = #[p, q] ∧ cO p = some x ∧ cO q = some y := by
  obtain ⟨h1, h2⟩ := mapM_get h
  match hl : args.toList, h1 with
  | [p, q], _ =>
    rw [hl] at h2
    refine ⟨p, q, ?_, h2 0 p x rfl rfl, h2 1 q y rfl rfl⟩
    apply Array.ext'; simpa using hl
omit bo bb br in
theorem one_arg {args : Array Operand} {x : Opd} (h : args.toList.mapM cO = some [x]) : ∃ p, args = #[p] ∧ cO p = some x := by
  obtain ⟨h1, h2⟩ := mapM_get h
  match hl : args.toList, h1 with
  | [p], _ =>
    rw [hl] at h2
    refine ⟨p, ?_, h2 0 p x rfl rfl⟩
    apply Array.ext'; simpa using hl

omit bo bb br in
theorem vals_reps (h : Sim w0 N ρ F σ a w) {args : Array Operand} {xs : List Opd} (hx : args.toList.mapM cO = some xs) (hok : ∀ x ∈ xs, ((lookT σ.tm) x).cond) : ∀ (i : Nat) (u : Value) (av : AV), (args.map a.eval)[i]? = some u → (xs.map fun x => ((lookT σ.tm) x).val)[i]? = some av → Rep ρ w0.V F w u av := by
  obtain ⟨h1, h2⟩ := reps_list h hx
  intro i u av e1 e2
  rw [List.getElem?_map] at e2
  rw [Array.getElem?_map] at e1
  cases hy : xs[i]? with
  | none => rw [hy] at e2; cases e2
  | some y =>
    rw [hy] at e2; cases e2
    cases hcx : args[i]? with
    | none => rw [hcx] at e1; cases e1
    | some x =>
      rw [hcx] at e1; cases e1
      exact (h2 i x y (by simpa using hcx) hy).val (hok y (List.mem_of_getElem? hy))
theorem op_builtin (h : Sim w0 N ρ F σ a w) {b : Builtin} {ts : Array TypeId} {ty : TypeId} {cs : Array Bool} {args : Array Operand} {xs : List Opd} (hx : args.toList.mapM cO = some xs) {ai : AI} (hc : compBuiltin P b ts xs = some ai) (hbr : alR ai = true → ρ.r br = none) :
    OpOk P w0 N ρ F σ a w (builtin b ts ty cs (args.map a.eval)) bb br (aistep bo (lookT σ.tm) σ.bx σ.rw bb br ai) := fun hok => by
  unfold compBuiltin at hc
  split at hc
  · -- append
    rename_i t tx x y hts
    have hts' : ts = #[t, tx] := by apply Array.ext'; simpa using hts
    subst hts'
    obtain ⟨p, q, rfl, hp, hq⟩ := two_args hx
    split at hc
    · rename_i e e' ht htx
      split at hc
      · rename_i i hi
        split at hc
        · rename_i z hz
          split at hc
          · rename_i hzs
            cases hc
            have hbr := hbr rfl
            have rx := cO_rep h hp
            have ry := cO_rep h hq
            have he : ElemOk P t tx e i.size i.bytes := ⟨ht, ⟨e', htx⟩, i, z, hi, hz, rfl, rfl, hzs⟩
            have e1 : (#[p, q].map a.eval) = #[a.eval p, a.eval q] := by simp
            rw [e1]
            simp only [aistep] at hok ⊢
            split at hok
            · rename_i k' new hels
              split at hok
              · rename_i hv
                obtain ⟨⟨o1, o2, o3, o4, o5, o6⟩, o7⟩ := hok
                have r := rx.val o1; rw [hv] at r
                rw [r.nil_inv]
                exact (g_app_nil (P := P) (bb := bb) he o5 h hbr (ry.val o2) hels o3 o7 o4).n
              · rename_i b k2 lo n hv
                split at hok
                · rename_i r0 hb
                  obtain ⟨⟨o1, o2, o3, o4, o5, o6⟩, o7, o8, o9, o10, o11, o12⟩ := hok
                  have r := rx.val o1; rw [hv, o8] at r
                  exact (g_app_ref (P := P) (bb := bb) he o6 o5 h hbr (ry.val o2) hels o3 o12 o4 r hb o7 o9 o10 o11).n
                · exact hok.elim
              · rename_i vol k2 es hv
                obtain ⟨⟨o1, o2, o3, o4, o5, o6⟩, o7, o8, o9⟩ := hok
                have r := rx.val o1; rw [hv, o7] at r
                exact (g_app_csl (P := P) (bb := bb) he o6 o5 h hbr (ry.val o2) hels o3 o9 o4 r o8).one.n
              · rename_i b k2 lo n c' hv
                split at hok
                · rename_i r0 hb
                  obtain ⟨⟨o1, o2, o3, o4, o5, o6⟩, o7, o8, o9, o10, o11, o12⟩ := hok
                  have r := rx.val o1; rw [hv, o8] at r
                  exact (g_app_in (P := P) (bb := bb) (br := br) he o6 h (ry.val o2) hels o3 o12 r hb o7 o9 o10 o11).one.n
                · exact hok.elim
              · exact hok.elim
            · exact hok.elim
          · cases hc
        · cases hc
      · cases hc
    · rename_i e kn ht htx
      split at hc
      · rename_i i hi
        split at hc
        · rename_i z hz
          cases hc
          have hbr := hbr rfl
          have rx := cO_rep h hp
          have ry := cO_rep h hq
          have e1 : (#[p, q].map a.eval) = #[a.eval p, a.eval q] := by simp
          rw [e1]
          simp only [aistep] at hok ⊢
          split at hok
          · rename_i b k2 lo n c ik m hv hw
            split at hok
            · rename_i r0 hb
              obtain ⟨o1, o2, o3, o4, o5, o6, o7, o8, o9, o10, o11, o12, o13⟩ := hok
              have r := rx.val o1; rw [hv, o3] at r
              have r2 := ry.val o2; rw [hw] at r2
              obtain ⟨m', rfl⟩ : ∃ m' : Nat, m = m' := ⟨m.toNat, by omega⟩
              rw [r2.int_inv]
              exact (g_appz (P := P) (bb := bb) (br := br) ht htx hi hz rfl o10 o11 o12 o13 h hbr r hb o4 o5 o8 (by omega) o9).n
            · exact hok.elim
          · exact hok.elim
        · cases hc
      · cases hc
    · cases hc
  · -- cap
    rename_i t x hts
    have hts' : ts = #[t] := by apply Array.ext'; simpa using hts
    subst hts'
    obtain ⟨p, rfl, hp⟩ := one_arg hx
    have rx := cO_rep h hp
    have e1 : (#[p].map a.eval) = #[a.eval p] := by simp
    rw [e1]
    split at hc
    · rename_i e ht
      cases hc
      have hcap : ∀ ad n c, (Builtin.cap_ #[t] ty #[.slice ad n c]).run P w = .ok (.int .i64 c) w := fun ad n c => by
        simp [Builtin.cap_, run_underlying ht, goInt]
      simp only [aistep] at hok ⊢
      split at hok
      · rename_i b k lo n c hv
        have r := rx.val hok; rw [hv] at r
        obtain ⟨ad, p, e2, _⟩ := r.refc_inv
        rw [e2]; exact ok_val h ⟨_, hcap _ _ _, rep_int _ _⟩
      · rename_i hv
        have r := rx.val hok; rw [hv] at r
        rw [r.nil_inv]; exact ok_val h ⟨_, hcap _ _ _, rep_int _ _⟩
      · exact hok.elim
    · cases hc
  · -- copy
    rename_i t tx x y hts
    have hts' : ts = #[t, tx] := by apply Array.ext'; simpa using hts
    subst hts'
    obtain ⟨p, q, rfl, hp, hq⟩ := two_args hx
    split at hc
    · rename_i e ht
      obtain ⟨k, hsz, rfl⟩ := Option.map_eq_some_iff.1 hc
      have rx := cO_rep h hp
      have ry := cO_rep h hq
      have e1 : (#[p, q].map a.eval) = #[a.eval p, a.eval q] := by simp
      rw [e1]
      simp only [aistep] at hok ⊢
      split at hok
      · rename_i b k2 lo n k' src hv hels
        split at hok
        · rename_i r0 hb
          obtain ⟨o1, o2, o3, o4, o5, o6, o7, o8, o9⟩ := hok
          have r := (rx.val o1).rf; rw [hv, o4] at r
          exact (g_cpy (P := P) (bb := bb) (br := br) ht hsz o9 h r hb o5 o6 o7 (ry.val o2) hels o3 o8).n
        · exact hok.elim
      · rename_i k' src hv hels
        obtain ⟨o1, o2⟩ := hok
        have r := (rx.val o1).rf; rw [hv] at r
        rw [r.nil_inv]
        obtain ⟨ad, c, f, e3, _⟩ := els_row h (ry.val o2) hels
        rw [e3]
        refine ok_val h ⟨.int .i64 0, ?_, rep_int _ _⟩
        have hfc : (Builtin.firstCells k 0 (.slice ad src.length c)).run P w = .ok #[] w := by
          cases ad <;> simp [Builtin.firstCells, loadCells, loadCellsFrom]
        simp [Builtin.copy_, run_underlying ht, Builtin.lenOf, run_sizeOf' hsz, hfc, goInt]
      · exact hok.elim
    · cases hc
  · -- clear
    rename_i t x hts
    have hts' : ts = #[t] := by apply Array.ext'; simpa using hts
    subst hts'
    obtain ⟨p, rfl, hp⟩ := one_arg hx
    split at hc
    · rename_i e ht
      obtain ⟨k, hsz, hc⟩ := Option.bind_eq_some_iff.1 hc
      obtain ⟨z, hz, rfl⟩ := Option.map_eq_some_iff.1 hc
      have rx := cO_rep h hp
      have e1 : (#[p].map a.eval) = #[a.eval p] := by simp
      rw [e1]
      simp only [aistep] at hok ⊢
      split at hok
      · rename_i b k2 lo n hv
        split at hok
        · rename_i r0 hb
          obtain ⟨o1, o2, o3, o4, o5, o6, o7, o8, o9⟩ := hok
          have r := (rx.val o1).rf; rw [hv, o2] at r
          exact (g_clr (P := P) (bb := bb) (br := br) ht hz o9 o6 o8 h r hb o3 o4 o5).n
        · exact hok.elim
      · rename_i hv
        have r := (rx.val hok).rf; rw [hv] at r
        rw [r.nil_inv]
        refine ok_val h ⟨.tuple #[], ?_, .any _⟩
        simp [Builtin.clear_, run_underlying ht]
      · exact hok.elim
    · cases hc
  · -- len
    rename_i t x hts
    have hts' : ts = #[t] := by apply Array.ext'; simpa using hts
    subst hts'
    obtain ⟨p, rfl, hp⟩ := one_arg hx
    have rx := cO_rep h hp
    have e1 : (#[p].map a.eval) = #[a.eval p] := by simp
    rw [e1]
    split at hc
    · rename_i ht
      cases hc
      simp only [aistep] at hok ⊢
      split at hok
      · rename_i s hv
        have r := rx.val hok; rw [hv] at r
        obtain ⟨bs, e2, e3⟩ := r.str_inv
        rw [e2]
        refine ok_val h ⟨.int .i64 s.length, ?_, rep_int _ _⟩
        rw [run_len_string w t ty bs ht, str_size e3]; rfl
      · exact hok.elim
    · rename_i e ht
      cases hc
      have hlen : ∀ ad n c, (Builtin.len_ #[t] ty #[.slice ad n c]).run P w = .ok (.int .i64 n) w := fun ad n c => by
        simp [Builtin.len_, run_underlying ht, goInt]
      simp only [aistep] at hok ⊢
      split at hok
      · rename_i vol k es hv
        have r := rx.val hok; rw [hv] at r
        obtain ⟨ad, c, f, e2, _⟩ := r.sl_inv
        rw [e2]; exact ok_val h ⟨_, hlen _ _ _, rep_int _ _⟩
      · rename_i vol k es hv
        have r := rx.val hok; rw [hv] at r
        obtain ⟨ad, f, e2, _⟩ := r.csl_inv
        rw [e2]; exact ok_val h ⟨_, hlen _ _ _, rep_int _ _⟩
      · rename_i b k lo n hv
        have r := rx.val hok; rw [hv] at r
        obtain ⟨ad, c, p, e2, _⟩ := r.ref_inv
        rw [e2]; exact ok_val h ⟨_, hlen _ _ _, rep_int _ _⟩
      · rename_i b k lo n c hv
        have r := rx.val hok; rw [hv] at r
        obtain ⟨ad, p, e2, _⟩ := r.refc_inv
        rw [e2]; exact ok_val h ⟨_, hlen _ _ _, rep_int _ _⟩
      · rename_i hv
        have r := rx.val hok; rw [hv] at r
        rw [r.nil_inv]; exact ok_val h ⟨_, hlen _ _ _, rep_int _ _⟩
      · exact hok.elim
    · rename_i n e ht
      cases hc
      refine ok_val h ⟨.int .i64 n, ?_, rep_int _ _⟩
      simp [Builtin.len_, run_underlying ht, goInt]
    · cases hc
  · -- min
    cases hc
    obtain ⟨h1, h2⟩ := reps_list h hx
    simp only [aistep] at hok ⊢
    split at hok
    · rename_i k ns hi
      refine ok_val h (v_min (P := P) (by simp [h1]) (vals_reps h hx hok) hi)
    · exact hok.elim
  · cases hc
    obtain ⟨h1, h2⟩ := reps_list h hx
    simp only [aistep] at hok ⊢
    split at hok
    · rename_i k ns hi
      refine ok_val h (v_max (P := P) (by simp [h1]) (vals_reps h hx hok) hi)
    · exact hok.elim
  · cases hc

/-- Every operation but a call. -/
theorem op_good (h : Sim w0 N ρ F σ a w) {o : Oper} {ai : AI} (hc : comp P o.op = some ai) (hbb : alB ai = true → ρ.b bb = none) (hbr : alR ai = true → ρ.r br = none) : OpOk P w0 N ρ F σ a w (execOp a.eval o) bb br (aistep bo (lookT σ.tm) σ.bx σ.rw bb br ai) := by
  obtain ⟨dst, op, ty, pos, after, guard⟩ := o
  cases op <;> simp only [comp] at hc <;> first | (cases hc; done) | skip
  case move x => obtain ⟨y, h1, rfl⟩ := Option.map_eq_some_iff.1 hc; exact op_mv bo bb br h h1
  case assign x => obtain ⟨y, h1, rfl⟩ := Option.map_eq_some_iff.1 hc; exact op_mv bo bb br h h1
  case pick c x y =>
    obtain ⟨c', h1, hc⟩ := Option.bind_eq_some_iff.1 hc
    obtain ⟨x', h2, hc⟩ := Option.bind_eq_some_iff.1 hc
    obtain ⟨y', h3, rfl⟩ := Option.map_eq_some_iff.1 hc
    exact op_pick bo bb br h h1 h2 h3
  case alloc t =>
    obtain ⟨z, h1, rfl⟩ := Option.map_eq_some_iff.1 hc
    exact op_alloc bo bb br h (fun e => hbb (by rw [if_neg (by simp [e])]; rfl)) (fun e l hl => hbr (by rw [if_pos e, hl]; rfl)) h1
  case box t x =>
    obtain ⟨y, h1, rfl⟩ := Option.map_eq_some_iff.1 hc
    exact op_box bo bb br h (fun e => hbb (by rw [if_neg (by simp [e])]; rfl)) (fun e => hbr (by rw [if_pos e]; rfl)) h1
  case build t parts =>
    obtain ⟨z, h1, hc⟩ := Option.bind_eq_some_iff.1 hc
    obtain ⟨place, h2, hc⟩ := Option.bind_eq_some_iff.1 hc
    obtain ⟨qs, h3, rfl⟩ := Option.map_eq_some_iff.1 hc
    exact op_build bo bb br h h1 h2 h3
  case buildSlice t len parts =>
    split at hc
    · rename_i e ht
      obtain ⟨k, h1, hc⟩ := Option.bind_eq_some_iff.1 hc
      obtain ⟨z, h2, hc⟩ := Option.bind_eq_some_iff.1 hc
      split at hc
      · rename_i hcnd
        obtain ⟨xs, h3, rfl⟩ := Option.map_eq_some_iff.1 hc
        exact op_bsl bo bb br h (hbr rfl) ht h1 h2 hcnd h3
      · cases hc
    · cases hc
  case load t x =>
    obtain ⟨g, h1, hc⟩ := Option.bind_eq_some_iff.1 hc
    obtain ⟨n, h2, hc⟩ := Option.bind_eq_some_iff.1 hc
    obtain ⟨y, h3, rfl⟩ := Option.map_eq_some_iff.1 hc
    exact op_load bo bb br h h3 h1 h2
  case store t x u =>
    obtain ⟨n, h1, hc⟩ := Option.bind_eq_some_iff.1 hc
    obtain ⟨y, h2, hc⟩ := Option.bind_eq_some_iff.1 hc
    obtain ⟨z, h3, rfl⟩ := Option.map_eq_some_iff.1 hc
    exact op_store bo bb br h h2 h3 h1
  case nilCheck x =>
    obtain ⟨y, h1, rfl⟩ := Option.map_eq_some_iff.1 hc
    exact op_nchk bo bb br h h1 rfl
  case binOp op t x y ty2 =>
    obtain ⟨x', h1, hc⟩ := Option.bind_eq_some_iff.1 hc
    obtain ⟨y', h2, hc⟩ := Option.bind_eq_some_iff.1 hc
    exact op_bin bo bb br h h1 h2 hc
  case unOp op t x =>
    obtain ⟨y, h1, rfl⟩ := Option.map_eq_some_iff.1 hc
    cases op <;> exact op_un bo bb br h h1
  case convert src dst' x =>
    obtain ⟨y, h1, hc⟩ := Option.bind_eq_some_iff.1 hc
    exact op_conv bo bb br h h1 hc
  case makeSlice t n c =>
    split at hc
    · rename_i e ht
      split at hc
      · rename_i i hi
        obtain ⟨x, h1, hc⟩ := Option.bind_eq_some_iff.1 hc
        obtain ⟨y, h2, hc⟩ := Option.bind_eq_some_iff.1 hc
        obtain ⟨z, h3, rfl⟩ := Option.map_eq_some_iff.1 hc
        exact op_mks bo bb br h (hbr rfl) ht hi h3 h1 h2
      · cases hc
    · cases hc
  case makeFunc fn first caps =>
    cases fn <;> simp only at hc <;> first | (cases hc; done) | skip
    split at hc
    · rename_i hf
      obtain ⟨xs, h1, rfl⟩ := Option.map_eq_some_iff.1 hc
      exact op_mkf bo bb br h hf h1
    · cases hc
  case slice t x lo hi mx =>
    obtain ⟨y, h1, hc⟩ := Option.bind_eq_some_iff.1 hc
    obtain ⟨lo', h2, hc⟩ := Option.bind_eq_some_iff.1 hc
    obtain ⟨hi', h3, hc⟩ := Option.bind_eq_some_iff.1 hc
    obtain ⟨mx', h4, hc⟩ := Option.bind_eq_some_iff.1 hc
    exact op_slice bo bb br h h1 h2 h3 h4 hc
  case fieldAddr s x i =>
    split at hc
    · rename_i fields hs
      split at hc
      · rename_i f hf
        split at hc
        · rename_i n hsz
          split at hc
          · cases hc
          · rename_i hn0
            obtain ⟨y, h1, rfl⟩ := Option.map_eq_some_iff.1 hc
            exact op_fadr bo bb br h hs hf hsz hn0 h1
        · cases hc
      · cases hc
    · cases hc
  case field s x i =>
    split at hc
    · rename_i fields hs
      split at hc
      · rename_i f hf
        obtain ⟨n, h1, hc⟩ := Option.bind_eq_some_iff.1 hc
        obtain ⟨g, h2, hc⟩ := Option.bind_eq_some_iff.1 hc
        obtain ⟨y, h3, rfl⟩ := Option.map_eq_some_iff.1 hc
        exact op_fld bo bb br h hs hf h1 h2 h3
      · cases hc
    · cases hc
  case indexAddr t x ix =>
    split at hc
    · rename_i e ht
      obtain ⟨k, h1, hc⟩ := Option.bind_eq_some_iff.1 hc
      obtain ⟨y, h2, hc⟩ := Option.bind_eq_some_iff.1 hc
      obtain ⟨i, h3, rfl⟩ := Option.map_eq_some_iff.1 hc
      exact op_iadS bo bb br h ht h1 h2 h3
    · rename_i n e ht
      obtain ⟨k, h1, hc⟩ := Option.bind_eq_some_iff.1 hc
      obtain ⟨y, h2, hc⟩ := Option.bind_eq_some_iff.1 hc
      obtain ⟨i, h3, rfl⟩ := Option.map_eq_some_iff.1 hc
      exact op_iadA bo bb br h ht h1 h2 h3
    · cases hc
  case index t x ix =>
    split at hc
    · rename_i n e ht
      obtain ⟨k, h1, hc⟩ := Option.bind_eq_some_iff.1 hc
      obtain ⟨g, h2, hc⟩ := Option.bind_eq_some_iff.1 hc
      obtain ⟨y, h3, hc⟩ := Option.bind_eq_some_iff.1 hc
      obtain ⟨i, h4, rfl⟩ := Option.map_eq_some_iff.1 hc
      exact op_idxA bo bb br h ht h1 h2 h3 h4
    · rename_i ht
      obtain ⟨y, h3, hc⟩ := Option.bind_eq_some_iff.1 hc
      obtain ⟨i, h4, rfl⟩ := Option.map_eq_some_iff.1 hc
      exact op_idxT bo bb br h ht h3 h4
    · cases hc
  case extract x i =>
    obtain ⟨y, h1, rfl⟩ := Option.map_eq_some_iff.1 hc
    exact op_ext bo bb br h h1
  case call c =>
    obtain ⟨callee, args, ts⟩ := c
    split at hc
    · rename_i b hb
      dsimp only at hb
      subst hb
      obtain ⟨xs, h1, hc⟩ := Option.bind_eq_some_iff.1 hc
      intro hok
      have e : ∃ cs, (execOp a.eval ⟨dst, .call ⟨.builtin b, args, ts⟩, ty, pos, after, guard⟩).run P w = (builtin b ts ty cs (args.map a.eval)).run P w := by
        refine ⟨args.map fun | .const _ => true | _ => false, ?_⟩
        simp only [execOp, resolve, Sem.run_bind, Sem.run_pure, Result.andThen_ok, invoke]
        rfl
      obtain ⟨cs, e⟩ := e
      obtain ⟨v, w', ρ', F', q1, q2, q3, q4⟩ := op_builtin bo bb br h (ty := ty) (cs := cs) h1 hc hbr hok
      refine ⟨v, w', ρ', F', ?_, q2, q3, q4⟩
      rw [e]; exact q1
    · cases hc
end
end Go.Proofs.Ytiejnmbpejfpgaa
