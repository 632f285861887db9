/- Regions, carried out: in the order of the text, and in whatever order. -/
import Derived.Test.YtiejnmbpejfpgaaAx21
namespace Go.Proofs.Ytiejnmbpejfpgaa
open Go.RowKit
set_option linter.unusedVariables false

def compR (P : Program) (N : Nat) (ops : Array Oper) : Option (List AO) := ops.toList.mapM (compO P N ops)
def befFold (acc : List Nat) (m : Nat) (e : Edge) : Nat := if Region.binds .any e then Nat.lor (Nat.lor m (Nat.shiftLeft 1 e.on)) (acc.getD e.on 0) else m
/-- What stands ahead of each operation, as the bits of a number. -/
def befStep (acc : List Nat) (o : Oper) : List Nat := acc ++ [o.after.toList.foldl (befFold acc) 0]
def befs (ops : Array Oper) : List Nat := ops.toList.foldl befStep []
def edgesOk (ops : Array Oper) : Bool := ops.toList.zipIdx.all fun (o, i) => o.after.toList.all fun e => !Region.binds .any e || decide (e.on < i)
/-- The pairs that are not in order, and of which the text alone does not tell that they may change places. -/
def pairs (bo : Bool) (l : List AO) (bef : List Nat) : List (List Nat) := (List.range l.length).map fun j => (List.range j).filter fun i => !((bef.getD j 0).testBit i || (match l[i]?, l[j]? with | some x, some y => apart bo x y | _, _ => true))
def drawOk (ops : Array Oper) : Bool := edgesOk ops

def Closed (ops : Array Oper) (S : Nat → Bool) : Prop := ∀ i, S i = true → ∀ o e, ops[i]? = some o → e ∈ o.after → Region.binds .any e = true → S e.on = true
def BefGood (ops : Array Oper) (j k : Nat) : Prop := ∀ S : Nat → Bool, Closed ops S → (∀ o e, ops[j]? = some o → e ∈ o.after → Region.binds .any e = true → S e.on = true) → S k = true
theorem befFold_bit {acc : List Nat} : ∀ (es : List Edge) (m k : Nat), (es.foldl (befFold acc) m).testBit k = true → m.testBit k = true ∨ ∃ e ∈ es, Region.binds .any e = true ∧ (k = e.on ∨ (acc.getD e.on 0).testBit k = true)
  | [], m, k, h => .inl h
  | e :: es, m, k, h => by
    rcases befFold_bit es _ k h with q | ⟨e', he, q⟩
    · unfold befFold at q
      split at q
      · rename_i hb
        have q' : ((m ||| (1 <<< e.on)) ||| acc.getD e.on 0).testBit k = true := q
        rw [Nat.testBit_or, Nat.testBit_or, Nat.one_shiftLeft, Nat.testBit_two_pow] at q'
        simp only [Bool.or_eq_true, decide_eq_true_eq] at q'
        rcases q' with (q | q) | q
        · exact .inl q
        · exact .inr ⟨e, List.mem_cons_self .., hb, .inl q.symm⟩
        · exact .inr ⟨e, List.mem_cons_self .., hb, .inr q⟩
      · exact .inl q
    · exact .inr ⟨e', List.mem_cons_of_mem _ he, q⟩
theorem bef_good (ops : Array Oper) : ∀ (os : List Oper) (acc : List Nat), (∀ j k, (acc.getD j 0).testBit k = true → BefGood ops j k) → (∀ i, os[i]? = ops[acc.length + i]?) → ∀ j k, ((os.foldl befStep acc).getD j 0).testBit k = true → BefGood ops j k
  | [], acc, h, _, j, k, hk => h j k hk
  | o :: os, acc, h, ho, j, k, hk => by
    refine bef_good ops os (befStep acc o) (fun j k hk => ?_) (fun i => ?_) j k hk
    · unfold befStep at hk
      by_cases hj : j < acc.length
      · have : (acc ++ [o.after.toList.foldl (befFold acc) 0]).getD j 0 = acc.getD j 0 := by
          simp only [List.getD_eq_getElem?_getD]; rw [List.getElem?_append_left hj]
        rw [this] at hk; exact h j k hk
      · by_cases hj2 : j = acc.length
        · subst hj2
          have : (acc ++ [o.after.toList.foldl (befFold acc) 0]).getD acc.length 0 = o.after.toList.foldl (befFold acc) 0 := by
            simp [List.getD_eq_getElem?_getD]
          rw [this] at hk
          rcases befFold_bit _ _ _ hk with q | ⟨e, he, hb, q⟩
          · simp at q
          · intro S hS hready
            have ho0 : ops[acc.length]? = some o := by have := ho 0; simpa using this.symm
            have hon := hready o e ho0 (by simpa using he) hb
            rcases q with rfl | q
            · exact hon
            · exact h e.on k q S hS (fun o' e' h1 h2 h3 => hS e.on hon o' e' h1 h2 h3)
        · have : (acc ++ [o.after.toList.foldl (befFold acc) 0]).getD j 0 = 0 := by
            simp only [List.getD_eq_getElem?_getD]; rw [List.getElem?_eq_none (by simp; omega)]; rfl
          rw [this] at hk; simp at hk
    · have := ho (i + 1)
      simp only [List.getElem?_cons_succ] at this
      rw [this]; congr 1; simp [befStep]; omega
/-- The same, as lists. -/
def befL (ops : Array Oper) : List (List Nat) := (befs ops).map fun m => (List.range ops.size).filter fun i => m.testBit i
theorem befL_mem {ops : Array Oper} {j k : Nat} : k ∈ (befL ops).getD j [] ↔ k < ops.size ∧ ((befs ops).getD j 0).testBit k = true := by
  unfold befL
  simp only [List.getD_eq_getElem?_getD, List.getElem?_map]
  cases (befs ops)[j]? with
  | none => simp
  | some m => simp
theorem befs_good (ops : Array Oper) {j k : Nat} (hk : k ∈ (befL ops).getD j []) : BefGood ops j k :=
  bef_good ops ops.toList [] (fun j k hk => by simp [List.getD_eq_getElem?_getD] at hk) (fun i => by simp) j k (befL_mem.1 hk).2

section
variable {P : Program} {w0 : Base} {N : Nat} {ρ : Env} {F : Nat → Prop} {σ : FS} {a : Act} {w : World} {R : Option Nat}

/-- What is nowhere may be told of in any way. -/
theorem Sim.phantom (h : Sim w0 N ρ F σ a w) {τ : FS} (h1 : τ.tm = σ.tm) (h2 : ∀ b g, ρ.b b = some g → τ.bx b = σ.bx b) (h3 : ∀ b p, ρ.r b = some p → τ.rw b = σ.rw b) : Sim w0 N ρ F τ a w :=
  ⟨h.sz, h.df, fun t => by rw [h1]; exact h.tm t, fun b c g e1 e2 => h.bx b c g (by rw [← h2 b g e2]; exact e1) e2, fun b r p e1 e2 => h.rw b r p (by rw [← h3 b p e2]; exact e1) e2, h.ib,
    fun b b' p p' r r' e1 e2 e3 e4 => h.ir b b' p p' r r' e1 e2 (by rw [← h3 b p e1]; exact e3) (by rw [← h3 b' p' e2]; exact e4), h.ibr, h.lb, h.lr, h.fl, h.bel⟩

theorem compR_get {ops : Array Oper} {l : List AO} (h : compR P N ops = some l) : l.length = ops.size ∧ ∀ (i : Nat) (o : Oper) (x : AO), ops[i]? = some o → l[i]? = some x → compO P N ops o = some x := by
  obtain ⟨h1, h2⟩ := mapM_get h
  exact ⟨by simpa using h1, fun i o x e1 e2 => h2 i o x (by simpa using e1) e2⟩

theorem drawn_any {bo : Bool} {ops : Array Oper} {l : List AO} (hl : compR P N ops = some l) (hd : drawOk ops = true) {T : Nat → FS} {r : Nat → Res} {bb br : Nat → Nat} (tr : Trace P bo l T r bb br) (hfree : ∀ (i j : Nat) (x y : AO), i < j → l[i]? = some x → l[j]? = some y → i ∈ (pairs bo l (befs ops)).getD j [] → Free bo T r bb br i j x y) {F0 : Nat → Prop} {Q : Exit → Act → World → Prop}
    (hQ : ∀ ρ' F' a' w', (∀ x, F0 x → F' x) → (∀ x, F' x → F0 x ∨ ¬ w0.V x) → Sim w0 N ρ' F' (T l.length) a' w' → (∀ b, bb l.length ≤ b → ρ'.b b = none) → (∀ b, br l.length ≤ b → ρ'.r b = none) → Q .normal a' w') :
    ∀ (fuel : Nat) (listed : Array Bool) (a : Act) (w : World) (ρ : Env) (F : Nat → Prop), listed.size = ops.size → (∀ x, F0 x → F x) → (∀ x, F x → F0 x ∨ ¬ w0.V x) → Sim w0 N ρ F (GS l (T 0) r bb br (fun i => listed.getD i false) l.length) a w →
      (∀ j, j < l.length → listed.getD j false = false → (∀ b, bb j ≤ b → b < bb (j + 1) → ρ.b b = none) ∧ (∀ b, br j ≤ b → b < br (j + 1) → ρ.r b = none)) → (∀ b, bb l.length ≤ b → ρ.b b = none) → (∀ b, br l.length ≤ b → ρ.r b = none) →
      Closed ops (fun i => listed.getD i false) → (List.range l.length).countP (fun i => !listed.getD i false) ≤ fuel → wpAnyIn (Fe R) 0 P .any ops Q fuel listed a w := by
  obtain ⟨hlen, hcomp⟩ := compR_get hl
  have hedge : edgesOk ops = true := hd
  have ind : ∀ (i j : Nat) (x y : AO), i < j → l[i]? = some x → l[j]? = some y → i ∈ (befL ops).getD j [] ∨ Free bo T r bb br i j x y := fun i j x y hij hx hy => by
    by_cases h1 : i ∈ (befL ops).getD j []
    · exact .inl h1
    · refine .inr ?_
      by_cases h2 : apart bo x y = true
      · exact free_of_apart tr hx hy h2
      · refine hfree i j x y hij hx hy ?_
        have hj := (List.getElem?_eq_some_iff.1 hy).1
        unfold pairs
        rw [List.getD_eq_getElem?_getD, List.getElem?_map, List.getElem?_range hj]
        simp only [Option.map_some, Option.getD_some, List.mem_filter, List.mem_range, hx, hy, Bool.not_eq_true', Bool.or_eq_false_iff]
        refine ⟨hij, ?_, by simpa using h2⟩
        cases hc : ((befs ops).getD j 0).testBit i
        · rfl
        · exact absurd (befL_mem.2 ⟨by omega, hc⟩) h1
  have hedge' : ∀ (i : Nat) (o : Oper) (e : Edge), ops[i]? = some o → e ∈ o.after → Region.binds .any e = true → e.on < i := fun i o e h1 h2 h3 => by
    simp only [edgesOk, List.all_eq_true] at hedge
    have hmem : (o, i) ∈ ops.toList.zipIdx := by
      rw [List.mem_zipIdx_iff_getElem?]; simpa using h1
    have := hedge (o, i) hmem e (by simpa using h2)
    simpa [h3] using this
  have all_done : ∀ (listed : Array Bool), listed.size = ops.size → Region.ready .any ops listed = [] → ∀ i, i < l.length → listed.getD i false = true := fun listed hsz hready i => by
    induction i using Nat.strongRecOn with
    | _ i ih =>
      intro hi
      cases hli : listed.getD i false
      · exfalso
        have hio : ∃ o, ops[i]? = some o := ⟨_, Array.getElem?_eq_getElem (by omega)⟩
        obtain ⟨o, ho⟩ := hio
        have : i ∈ Region.ready .any ops listed := mem_ready.2 ⟨by
          have hh : i < listed.size := by omega
          simp [Array.getD, hh] at hli ⊢; exact hli, o, ho, fun e he hb => ih e.on (hedge' i o e ho he hb) (by have := hedge' i o e ho he hb; omega)⟩
        rw [hready] at this; cases this
      · rfl
  have finish : ∀ (listed : Array Bool) (a : Act) (w : World) (ρ : Env) (F : Nat → Prop), (∀ i, i < l.length → listed.getD i false = true) → (∀ x, F0 x → F x) → (∀ x, F x → F0 x ∨ ¬ w0.V x) → Sim w0 N ρ F (GS l (T 0) r bb br (fun i => listed.getD i false) l.length) a w → (∀ b, bb l.length ≤ b → ρ.b b = none) → (∀ b, br l.length ≤ b → ρ.r b = none) → Q .normal a w := fun listed a w ρ F hall f1 f2 hs hb hr => by
    rw [GS_all tr hall l.length (Nat.le_refl _)] at hs
    exact hQ ρ F a w f1 f2 hs hb hr
  intro fuel
  induction fuel with
  | zero =>
    intro listed a w ρ F hsz f1 f2 hs hnew hbB hbR hcl hcount
    have hall : ∀ i, i < l.length → listed.getD i false = true := fun i hi => by
      have h0 : (List.range l.length).countP (fun i => !listed.getD i false) = 0 := by omega
      rw [List.countP_eq_zero] at h0
      have := h0 i (by simpa using hi)
      simpa using this
    refine ⟨?_, finish listed a w ρ F hall f1 f2 hs hbB hbR⟩
    apply List.eq_nil_iff_forall_not_mem.2
    intro i hi
    obtain ⟨h1, o, ho, _⟩ := mem_ready.1 hi
    have hil : i < ops.size := (Array.getElem?_eq_some_iff.1 ho).1
    have := hall i (by omega)
    have hh : i < listed.size := by omega
    simp [Array.getD, hh] at this h1
    rw [this] at h1; cases h1
  | succ fuel ih =>
    intro listed a w ρ F hsz f1 f2 hs hnew hbB hbR hcl hcount
    refine ⟨fun hready => finish listed a w ρ F (all_done listed hsz hready) f1 f2 hs hbB hbR, fun j hj => ?_⟩
    obtain ⟨hjun, o, ho, hjr⟩ := mem_ready.1 hj
    have hjl : j < l.length := by have := (Array.getElem?_eq_some_iff.1 ho).1; omega
    have hh : j < listed.size := by omega
    have hSj : listed.getD j false = false := by simp [Array.getD, hh] at hjun ⊢; exact hjun
    have hy := List.getElem?_eq_getElem hjl
    have hco := hcomp j o _ ho hy
    have hbj : ∀ k ∈ (befL ops).getD j [], (fun i => listed.getD i false) k = true := fun k hk => befs_good ops hk _ hcl (fun o' e h1 h2 h3 => by rw [ho] at h1; cases h1; exact hjr e h2 h3)
    have hcb : ∀ i, (fun i => listed.getD i false) i = true → ∀ k ∈ (befL ops).getD i [], (fun i => listed.getD i false) k = true := fun i hi k hk => befs_good ops hk _ hcl (fun o' e h1 h2 h3 => hcl i hi o' e h1 h2 h3)
    have hstep := gs_step tr ind (S := fun i => listed.getD i false) hcb hSj hbj hy
    obtain ⟨n1, n2⟩ := hnew j hjl hSj
    obtain ⟨_, _, s3, s4⟩ := tr.step j _ hy
    have hset : ∀ i, (listed.setIfInBounds j true).getD i false = (listed.getD i false || i == j) := fun i => by
      by_cases hij : i = j
      · subst hij; simp [Array.getD, hh]
      · simp only [Array.getD_eq_getD_getElem?]; rw [Array.getElem?_setIfInBounds_ne (fun e => hij e.symm)]; simp [hij]
    refine stepR_sound bo hs ho hco hstep (fun b h1 h2 => n1 b h1 (by omega)) (fun b h1 h2 => n2 b h1 (by omega)) fun a' w' ρ' F' hg hs' => ?_
    have hdone := gs_done tr ind (S := fun i => listed.getD i false) hcb hSj hbj hy
    rw [hdone] at hs'
    refine ih (listed.setIfInBounds j true) a' w' ρ' F' (by simpa using hsz) (fun x hx => hg.sub x (f1 x hx)) (fun x hx => (hg.new x hx).elim (f2 x) .inr) ?_ (fun i hi hun => ?_) (fun b hb => ?_) (fun b hb => ?_) (fun i hi o' e h1 h2 h3 => ?_) ?_
    · have : (fun i => (listed.setIfInBounds j true).getD i false) = fun i => listed.getD i false || i == j := funext hset
      rw [this]; exact hs'
    · rw [hset] at hun
      simp only [Bool.or_eq_false_iff, beq_eq_false_iff_ne, ne_eq] at hun
      obtain ⟨m1, m2⟩ := hnew i hi hun.1
      have hbbij : bb (i + 1) ≤ bb j ∨ bb (j + 1) ≤ bb i := by
        rcases Nat.lt_or_ge i j with h | h
        · exact .inl (tr.mono (show i + 1 ≤ j by omega) (by omega)).1
        · exact .inr (tr.mono (show j + 1 ≤ i by omega) (by omega)).1
      have hbrij : br (i + 1) ≤ br j ∨ br (j + 1) ≤ br i := by
        rcases Nat.lt_or_ge i j with h | h
        · exact .inl (tr.mono (show i + 1 ≤ j by omega) (by omega)).2
        · exact .inr (tr.mono (show j + 1 ≤ i by omega) (by omega)).2
      refine ⟨fun b h1 h2 => ?_, fun b h1 h2 => ?_⟩
      · cases hq : ρ'.b b with
        | none => rfl
        | some g =>
          rcases hg.b b (by rw [hq]; simp) with h | h
          · exact absurd (m1 b h1 h2) h
          · omega
      · cases hq : ρ'.r b with
        | none => rfl
        | some g =>
          rcases hg.r b (by rw [hq]; simp) with h | h
          · exact absurd (m2 b h1 h2) h
          · omega
    · cases hq : ρ'.b b with
      | none => rfl
      | some g =>
        have := (tr.mono (show j + 1 ≤ l.length by omega) (Nat.le_refl _)).1
        rcases hg.b b (by rw [hq]; simp) with h | h
        · exact absurd (hbB b hb) h
        · omega
    · cases hq : ρ'.r b with
      | none => rfl
      | some g =>
        have := (tr.mono (show j + 1 ≤ l.length by omega) (Nat.le_refl _)).2
        rcases hg.r b (by rw [hq]; simp) with h | h
        · exact absurd (hbR b hb) h
        · omega
    · dsimp only at hi ⊢
      rw [hset] at hi ⊢
      by_cases hij : i = j
      · subst hij; rw [ho] at h1; cases h1; rw [hjr e h2 h3]; rfl
      · have : listed.getD i false = true := by simpa [hij] using hi
        have q := hcl i this o' e h1 h2 h3
        dsimp only at q
        rw [q]; rfl
    · have hlt : (List.range l.length).countP (fun i => !(listed.setIfInBounds j true).getD i false) < (List.range l.length).countP (fun i => !listed.getD i false) := by
        have e1 : (fun i => !(listed.setIfInBounds j true).getD i false) = fun i => !(listed.getD i false || i == j) := funext fun i => by rw [hset]
        rw [e1]
        generalize hS : (fun i => listed.getD i false) = S at hSj
        have hS' : ∀ i, listed.getD i false = S i := fun i => by rw [← hS]
        simp only [hS'] at hSj ⊢
        have key : ∀ L : List Nat, j ∈ L → L.countP (fun i => !(S i || i == j)) < L.countP (fun i => !S i) := fun L hL => by
          induction L with
          | nil => cases hL
          | cons x L ihL =>
            have hle : ∀ M : List Nat, M.countP (fun i => !(S i || i == j)) ≤ M.countP (fun i => !S i) := fun M => List.countP_mono_left fun i _ hi => by
              simp only [Bool.not_eq_true', Bool.or_eq_false_iff] at hi ⊢; exact hi.1
            simp only [List.countP_cons]
            by_cases hx : x = j
            · subst hx
              have := hle L
              rw [if_neg (by simp), if_pos (by simp [hSj])]; omega
            · have hjL : j ∈ L := by rcases List.mem_cons.1 hL with h | h; exact absurd h.symm hx; exact h
              have := ihL hjL
              have e2 : (x == j) = false := by simpa using hx
              simp only [e2, Bool.or_false]; omega
        exact key _ (by simpa using hjl)
      omega

/-- A region whose order is drawn. -/
theorem draw_sound (hm : P.follows .mixedOrders = true) {bo : Bool} {id : Nat} {ops : Array Oper} {l : List AO} (hl : compR P N ops = some l) (hd : drawOk ops = true) {T : Nat → FS} {r : Nat → Res} {bb br : Nat → Nat} (tr : Trace P bo l T r bb br) (hfree : ∀ (i j : Nat) (x y : AO), i < j → l[i]? = some x → l[j]? = some y → i ∈ (pairs bo l (befs ops)).getD j [] → Free bo T r bb br i j x y) (h : Sim w0 N ρ F (T 0) a w)
    (hb : ∀ b, bb 0 ≤ b → ρ.b b = none) (hr : ∀ b, br 0 ≤ b → ρ.r b = none) {Q : Exit → Act → World → Prop}
    (hQ : ∀ ρ' F' a' w', (∀ x, F x → F' x) → (∀ x, F' x → F x ∨ ¬ w0.V x) → Sim w0 N ρ' F' (T l.length) a' w' → (∀ b, bb l.length ≤ b → ρ'.b b = none) → (∀ b, br l.length ≤ b → ρ'.r b = none) → Q .normal a' w') : (Code.region id ops true).wpIn (Fe R) 0 P Q a w := by
  refine wpIn_region_any hm ?_
  obtain ⟨hlen, _⟩ := compR_get hl
  have hS : ∀ i, (Array.replicate ops.size false).getD i false = false := fun i => by
    simp only [Array.getD_eq_getD_getElem?]
    by_cases hi : i < ops.size
    · simp [hi]
    · rw [Array.getElem?_eq_none (by simpa using hi)]; rfl
  obtain ⟨g1, g2, g3⟩ := GS_none tr (S := fun i => (Array.replicate ops.size false).getD i false) (fun i _ => hS i) l.length (Nat.le_refl _)
  have hs : Sim w0 N ρ F (GS l (T 0) r bb br (fun i => (Array.replicate ops.size false).getD i false) l.length) a w.drew := (h.grow ((Below.refl _ _).drew)).phantom g1 (fun b g e => by
    refine g2 b ?_
    rcases Nat.lt_or_ge b (bb 0) with h' | h'
    · exact h'
    · rw [hb b h'] at e; cases e) (fun b p e => by
    refine g3 b ?_
    rcases Nat.lt_or_ge b (br 0) with h' | h'
    · exact h'
    · rw [hr b h'] at e; cases e)
  refine drawn_any hl hd tr hfree hQ ops.size _ a w.drew ρ F (by simp) (fun _ hx => hx) (fun _ hx => .inl hx) hs (fun j hj _ => ⟨fun b h1 _ => hb b (Nat.le_trans (tr.mono (Nat.zero_le j) (by omega)).1 h1), fun b h1 _ => hr b (Nat.le_trans (tr.mono (Nat.zero_le j) (by omega)).2 h1)⟩)
    (fun b h1 => hb b (Nat.le_trans (tr.mono (Nat.zero_le _) (Nat.le_refl _)).1 h1)) (fun b h1 => hr b (Nat.le_trans (tr.mono (Nat.zero_le _) (Nat.le_refl _)).2 h1)) (fun i hi => by dsimp only at hi; rw [hS i] at hi; cases hi) ?_
  refine Nat.le_trans List.countP_le_length ?_
  simp [hlen]

/-- A region in the order of the text. -/
theorem plain_sound {bo : Bool} {id : Nat} {ops : Array Oper} {l : List AO} (hl : compR P N ops = some l) {T : Nat → FS} {r : Nat → Res} {bb br : Nat → Nat} (tr : Trace P bo l T r bb br) (h : Sim w0 N ρ F (T 0) a w)
    (hb : ∀ b, bb 0 ≤ b → ρ.b b = none) (hr : ∀ b, br 0 ≤ b → ρ.r b = none) {Q : Exit → Act → World → Prop}
    (hQ : ∀ ρ' F' a' w', (∀ x, F x → F' x) → (∀ x, F' x → F x ∨ ¬ w0.V x) → Sim w0 N ρ' F' (T l.length) a' w' → (∀ b, bb l.length ≤ b → ρ'.b b = none) → (∀ b, br l.length ≤ b → ρ'.r b = none) → Q .normal a' w') : (Code.region id ops false).wpIn (Fe R) 0 P Q a w := by
  refine wpIn_region ?_
  obtain ⟨hlen, hcomp⟩ := compR_get hl
  have key : ∀ (m i : Nat) (a : Act) (w : World) (ρ1 : Env) (F1 : Nat → Prop), i + m = l.length → (∀ x, F x → F1 x) → (∀ x, F1 x → F x ∨ ¬ w0.V x) → Sim w0 N ρ1 F1 (T i) a w → (∀ b, bb i ≤ b → ρ1.b b = none) → (∀ b, br i ≤ b → ρ1.r b = none) → wpOpsIn (Fe R) 0 P ops Q (List.range' i m) a w := fun m => by
    induction m with
    | zero =>
      intro i a w ρ1 F1 hi f1 f2 hs hb hr
      have : i = l.length := by omega
      subst this
      exact hQ ρ1 F1 a w f1 f2 hs hb hr
    | succ m ih =>
      intro i a w ρ1 F1 hi f1 f2 hs hb hr
      have hx := List.getElem?_eq_getElem (show i < l.length by omega)
      have ho : ops[i]? = some (ops[i]'(by omega)) := Array.getElem?_eq_getElem (by omega)
      obtain ⟨s1, s2, s3, s4⟩ := tr.step i _ hx
      rw [List.range'_succ, wpOpsIn_cons]
      refine stepR_sound bo hs ho (hcomp i _ _ ho hx) s1 (fun b h1 _ => hb b h1) (fun b h1 _ => hr b h1) fun a' w' ρ' F' hg hs' => ?_
      refine ih (i + 1) a' w' ρ' F' (by omega) (fun x hx => hg.sub x (f1 x hx)) (fun x hx => (hg.new x hx).elim (f2 x) .inr) (by rw [s2]; exact hs') (fun b h1 => ?_) (fun b h1 => ?_)
      · cases hq : ρ'.b b with
        | none => rfl
        | some g =>
          rcases hg.b b (by rw [hq]; simp) with h | h
          · exact absurd (hb b (by omega)) h
          · omega
      · cases hq : ρ'.r b with
        | none => rfl
        | some g =>
          rcases hg.r b (by rw [hq]; simp) with h | h
          · exact absurd (hr b (by omega)) h
          · omega
  have := key l.length 0 a w ρ F (by omega) (fun _ hx => hx) (fun _ hx => .inl hx) h hb hr
  rw [hlen] at this
  rw [List.range_eq_range']; exact this
end
end Go.Proofs.Ytiejnmbpejfpgaa
