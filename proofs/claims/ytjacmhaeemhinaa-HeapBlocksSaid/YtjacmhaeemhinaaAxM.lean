/- Calls that own memory is handed to: the boxes mb, the rows mr of the caller are the callee's boxes and rows 0, 1, .. -/
import Derived.Test.YtjacmhaeemhinaaAx18
import Derived.Laws.Externs
namespace Go.Proofs.Ytjacmhaeemhinaa
open Go.RowKit
set_option linter.unusedVariables false

def ixOf : List Nat → Nat → Option Nat
  | [], _ => none
  | m :: l, b => if m = b then some 0 else (ixOf l b).map (· + 1)
theorem ixOf_get : ∀ {l : List Nat} {b i : Nat}, ixOf l b = some i → l[i]? = some b
  | [], _, _, h => by cases h
  | m :: l, b, i, h => by
    simp only [ixOf] at h
    split at h
    · rename_i e; cases h; subst e; rfl
    · obtain ⟨j, h1, rfl⟩ := Option.map_eq_some_iff.1 h
      simpa using ixOf_get h1
theorem ixOf_none : ∀ {l : List Nat} {b : Nat}, ixOf l b = none → b ∉ l
  | [], _, _ => by simp
  | m :: l, b, h => by
    simp only [ixOf] at h
    split at h
    · cases h
    · rename_i e
      have := ixOf_none (Option.map_eq_none_iff.1 h)
      simp only [List.mem_cons, not_or]
      exact ⟨fun q => e q.symm, this⟩
theorem ixOf_self : ∀ {l : List Nat} {b i : Nat}, l.Nodup → l[i]? = some b → ixOf l b = some i
  | [], _, _, _, h => by cases h
  | m :: l, b, i, hn, h => by
    obtain ⟨h1, h2⟩ := List.nodup_cons.1 hn
    cases i with
    | zero => simp at h; subst h; simp [ixOf]
    | succ i =>
      simp at h
      have : b ∈ l := List.mem_of_getElem? h
      simp only [ixOf]
      rw [if_neg (by rintro rfl; exact h1 this), ixOf_self h2 h]; rfl

/-! ### What is handed over, in the callee's numbers -/
def exB (mb : List Nat) (bx : Nat → Option (List AV)) : Nat → Option (List AV) := fun b => match ixOf mb b with | some _ => none | none => bx b
def exR (mr : List Nat) (rw : Nat → Option ARow) : Nat → Option ARow := fun b => match ixOf mr b with | some _ => none | none => rw b
def hndC (mb mr : List Nat) (rw' : Nat → Option ARow) : AV → AV
  | .ref b k lo n => match ixOf mr b with | some i => .ref i k lo n | none => argC rw' (.ref b k lo n)
  | .bptr b off => match ixOf mb b with | some i => .bptr i off | none => .any
  | .rptr b k i off => match ixOf mr b with | some j => .rptr j k i off | none => .any
  | .aptr b n => match ixOf mr b with | some j => .aptr j n | none => .any
  | .mptr b => match ixOf mr b with | some j => .mptr j | none => .any
  | v => argC rw' v
def hndV (mb mr : List Nat) (bx' : Nat → Option (List AV)) (rw' : Nat → Option ARow) : AV → AV
  | .agg l => .agg (l.map (hndC mb mr rw'))
  | .bptr b off => match ixOf mb b with | some i => .bptr i off | none => argV bx' rw' (.bptr b off)
  | .cptr vol l => argV bx' rw' (.cptr vol l)
  | .aptr b n => match ixOf mr b with | some j => .aptr j n | none => argV bx' rw' (.aptr b n)
  | v => hndC mb mr rw' v
def hndF (mb mr : List Nat) (bx' : Nat → Option (List AV)) (rw' : Nat → Option ARow) : AV → AV
  | .fn f caps => .fn f (caps.map (hndV mb mr bx' rw'))
  | v => hndV mb mr bx' rw' v
def Env.hnd (ρ : Env) (mb mr : List Nat) : Env := ⟨fun i => (mb[i]?).bind ρ.b, fun i => (mr[i]?).bind ρ.r⟩

/-- Is an own box, an own row told of? -/
def mentB (m : Nat) : AV → Bool
  | .bptr b _ => b == m
  | .fn _ l => l.any fun | .bptr b _ => b == m | _ => false
  | _ => false
def mentC (m : Nat) : AV → Bool
  | .ref b _ _ _ => b == m
  | .rptr b _ _ _ => b == m
  | .aptr b _ => b == m
  | .mptr b => b == m
  | _ => false
def mentR (m : Nat) : AV → Bool
  | .agg l => l.any (mentC m)
  | .fn _ l => l.any (mentC m)
  | v => mentC m v
def ment (mb mr : List Nat) (bx : Nat → Option (List AV)) (xs : List AV) : Bool :=
  mb.all (fun m => xs.any (mentB m)) && mr.all (fun m => xs.any (mentR m) || mb.any fun b => match bx b with | some c => c.any (mentC m) | none => false)

/-! ### Contracts -/
structure MIn (w : World) (V F : Nat → Prop) (ρ : Env) (B : List (List AV)) (H : List ARow) : Prop where
  fl : ∀ x, F x → x < w.heap.size
  vl : ∀ x, V x → x < w.heap.size
  bx : ∀ b c, B[b]? = some c → ∃ g, ρ.b b = some g ∧ g < w.heap.size ∧ BoxOk ρ V F w g c
  rw : ∀ b r, H[b]? = some r → r.fro = false ∧ ∃ p, ρ.r b = some p ∧ (0 < p.lim → p.blk < w.heap.size) ∧ RowOk V F w p r
  bn : ∀ b, B.length ≤ b → ρ.b b = none
  rn : ∀ b, H.length ≤ b → ρ.r b = none
  ib : ∀ b b' g, ρ.b b = some g → ρ.b b' = some g → b = b'
  ir : ∀ b b' p p', ρ.r b = some p → ρ.r b' = some p' → 0 < p.lim → 0 < p'.lim → p.blk = p'.blk → b = b'
  ibr : ∀ b b' g p, ρ.b b = some g → ρ.r b' = some p → 0 < p.lim → p.blk ≠ g
structure MOut (w w' : World) (V F F' : Nat → Prop) (ρ ρ' : Env) (B' : List (List AV)) (K : List (Option ARow)) (H' : List ARow) : Prop where
  os : w'.os = w.os
  output : w'.output = w.output
  grow : w.heap.size ≤ w'.heap.size
  block : ∀ x, V x → w'.heap[x]? = w.heap[x]?
  sub : ∀ x, F x → F' x
  new : ∀ x, F' x → F x ∨ ¬ V x
  fl : ∀ x, F' x → x < w'.heap.size
  bx : ∀ b c g, B'[b]? = some c → ρ.b b = some g → ρ'.b b = some g ∧ ¬ V g ∧ BoxOk ρ' V0 F' w' g c
  rw : ∀ b r p, (K ++ H'.map some)[b]? = some (some r) → ρ'.r b = some p → r.fro = false ∧ RowOk V F' w' p r ∧ (0 < p.lim → p.blk < w'.heap.size)
  rid : ∀ b r, K[b]? = some (some r) → ρ'.r b = ρ.r b
  bn : ∀ b, B'.length ≤ b → ρ'.b b = none
  rn : ∀ b p, ρ'.r b = some p → ∃ r, (K ++ H'.map some)[b]? = some (some r)
  ir : ∀ b b' p p', ρ'.r b = some p → ρ'.r b' = some p' → 0 < p.lim → 0 < p'.lim → p.blk = p'.blk → b = b'
  ibr : ∀ b b' g p, ρ'.b b = some g → ρ'.r b' = some p → 0 < p.lim → p.blk ≠ g
/-- Function f, called with values that args stand for, the boxes B and the rows H handed over, returns what v stands for; the boxes are B' then; of the rows handed over those in K are as K tells, the others gone; H' are rows more. -/
def MCall (P : Program) (f : Nat) (args : List AV) (B : List (List AV)) (H : List ARow) (v : AV) (B' : List (List AV)) (K : List (Option ARow)) (H' : List ARow) : Prop :=
  plainFn P f = true ∧ B'.length = B.length ∧ K.length = H.length ∧ ∀ (w : World) (V F : Nat → Prop) (ρ : Env) (vs : Array Value), MIn w V F ρ B H → vs.size = args.length → (∀ (i : Nat) (u : Value) (av : AV), vs[i]? = some u → args[i]? = some av → Rep ρ V F w u av) →
    Calls P f vs w fun e w' => ∃ u ρ' F', e = .returned u ∧ MOut w w' V F F' ρ ρ' B' K H' ∧ Rep ρ' V0 F' w' u v

/-! ### Back to the caller's numbers -/
def mpC (fb fr : Nat → Nat) : AV → AV
  | .ref b k lo n => .ref (fr b) k lo n
  | .bptr b off => .bptr (fb b) off
  | .rptr b k i off => .rptr (fr b) k i off
  | .aptr b n => .aptr (fr b) n
  | v => argR v
def mpV (fb fr : Nat → Nat) : AV → AV
  | .agg l => .agg (l.map (mpC fb fr))
  | v => mpC fb fr v
def mpT (fb fr : Nat → Nat) : AV → AV
  | .tup l => .tup (l.map (mpV fb fr))
  | v => mpV fb fr v
section
variable {ρc ρ' : Env} {fb fr : Nat → Nat} {V V' F : Nat → Prop} {w : World}
theorem mpC_rep (hb : ∀ b g, ρc.b b = some g → ρ'.b (fb b) = some g) (hr : ∀ b p, ρc.r b = some p → ρ'.r (fr b) = some p) {v : Value} {x : AV} (h : Rep ρc V0 F w v x) : Rep ρ' V F w v (mpC fb fr x) := by
  cases x with
  | ref b k lo n => obtain ⟨a, c, p, rfl, hp, h1, h2, h3, h4, h5⟩ := h.ref_inv; exact .ref a c _ k lo n p (hr b p hp) h1 h2 h3 h4 h5
  | bptr b off => obtain ⟨g, hg, rfl⟩ := h.bptr_inv; exact .bptr _ off g (hb b g hg)
  | rptr b k i off => obtain ⟨p, hp, rfl⟩ := h.rptr_inv; exact .rptr _ k i off p (hr b p hp)
  | aptr b n => obtain ⟨p, hp, hl, rfl⟩ := h.aptr_inv; exact .aptr _ n p (hr b p hp) hl
  | _ => exact argR_mono h
theorem mpV_rep (hb : ∀ b g, ρc.b b = some g → ρ'.b (fb b) = some g) (hr : ∀ b p, ρc.r b = some p → ρ'.r (fr b) = some p) {v : Value} {x : AV} (h : Rep ρc V0 F w v x) : Rep ρ' V F w v (mpV fb fr x) := by
  cases x with
  | agg l =>
    obtain ⟨cs, rfl, hl, hc⟩ := h.agg_inv
    refine .agg cs _ (by simp [hl]) fun i u x e1 e2 => ?_
    rw [List.getElem?_map] at e2
    cases hy : l[i]? with
    | none => rw [hy] at e2; cases e2
    | some y => rw [hy] at e2; cases e2; exact mpC_rep hb hr (hc i u y e1 hy)
  | _ => exact mpC_rep hb hr h
theorem mpT_rep (hb : ∀ b g, ρc.b b = some g → ρ'.b (fb b) = some g) (hr : ∀ b p, ρc.r b = some p → ρ'.r (fr b) = some p) {v : Value} {x : AV} (h : Rep ρc V0 F w v x) : Rep ρ' V F w v (mpT fb fr x) := by
  cases x with
  | tup l =>
    obtain ⟨cs, rfl, hl, hc⟩ := h.tup_inv
    refine .tup cs _ (by simp [hl]) fun i u x e1 e2 => ?_
    rw [List.getElem?_map] at e2
    cases hy : l[i]? with
    | none => rw [hy] at e2; cases e2
    | some y => rw [hy] at e2; cases e2; exact mpV_rep hb hr (hc i u y e1 hy)
  | _ => exact mpV_rep hb hr h
end

/-! ### What the caller has then -/
def boxUps (fb fr : Nat → Nat) : List Nat → List (List AV) → List Upd
  | m :: mb, c :: B => .B m (c.map (mpC fb fr)) :: boxUps fb fr mb B
  | _, _ => []
def rowKs : List Nat → List (Option ARow) → List Upd
  | m :: mr, r :: K => .R m r :: rowKs mr K
  | _, _ => []
theorem boxUps_at {fb fr : Nat → Nat} : ∀ {mb : List Nat} {B : List (List AV)} {σ : FS}, mb.Nodup → B.length = mb.length → (σ.ups (boxUps fb fr mb B)).tm = σ.tm ∧ (σ.ups (boxUps fb fr mb B)).rw = σ.rw ∧ ∀ b, (σ.ups (boxUps fb fr mb B)).bx b = match ixOf mb b with | some i => (B[i]?).map fun c => c.map (mpC fb fr) | none => σ.bx b
  | [], B, σ, _, _ => ⟨rfl, rfl, fun b => rfl⟩
  | m :: mb, [], σ, _, h => by simp at h
  | m :: mb, c :: B, σ, hn, hl => by
    obtain ⟨h1, h2⟩ := List.nodup_cons.1 hn
    obtain ⟨g1, g2, g3⟩ := boxUps_at (fb := fb) (fr := fr) (B := B) (σ := σ.setB m (c.map (mpC fb fr))) h2 (by simpa using hl)
    refine ⟨g1, g2, fun b => ?_⟩
    show ((σ.setB m (c.map (mpC fb fr))).ups (boxUps fb fr mb B)).bx b = _
    rw [g3]
    by_cases hb : m = b
    · subst hb
      cases hi : ixOf mb m with
      | some i => exact absurd (List.mem_of_getElem? (ixOf_get hi)) h1
      | none => simp [ixOf, FS.setB]
    · simp only [ixOf, if_neg hb]
      cases hi : ixOf mb b with
      | some i => simp
      | none => simp [FS.setB, Ne.symm hb]
theorem rowKs_at : ∀ {mr : List Nat} {K : List (Option ARow)} {σ : FS}, mr.Nodup → K.length = mr.length → (σ.ups (rowKs mr K)).tm = σ.tm ∧ (σ.ups (rowKs mr K)).bx = σ.bx ∧ ∀ b, (σ.ups (rowKs mr K)).rw b = match ixOf mr b with | some i => (K[i]?).bind id | none => σ.rw b
  | [], K, σ, _, _ => ⟨rfl, rfl, fun b => rfl⟩
  | m :: mr, [], σ, _, h => by simp at h
  | m :: mr, c :: K, σ, hn, hl => by
    obtain ⟨h1, h2⟩ := List.nodup_cons.1 hn
    obtain ⟨g1, g2, g3⟩ := rowKs_at (K := K) (σ := σ.setR m c) h2 (by simpa using hl)
    refine ⟨g1, g2, fun b => ?_⟩
    show ((σ.setR m c).ups (rowKs mr K)).rw b = _
    rw [g3]
    by_cases hb : m = b
    · subst hb
      cases hi : ixOf mr m with
      | some i => exact absurd (List.mem_of_getElem? (ixOf_get hi)) h1
      | none => simp [ixOf, FS.setR]
    · simp only [ixOf, if_neg hb]
      cases hi : ixOf mr b with
      | some i => simp
      | none => simp [FS.setR, Ne.symm hb]
def nuB (mb : List Nat) (i : Nat) : Nat := mb.getD i 0
def nuR : List Nat → Nat → Nat → Nat
  | [], br, i => br + i
  | m :: _, _, 0 => m
  | _ :: mr, br, i + 1 => nuR mr br i
theorem nuR_lt : ∀ {mr : List Nat} {br i : Nat}, i < mr.length → nuR mr br i = mr.getD i 0
  | [], _, _, h => by simp at h
  | _ :: _, _, 0, _ => rfl
  | _ :: mr, br, i + 1, h => by simp only [nuR]; rw [nuR_lt (by simpa using h)]; rfl
theorem nuR_ge : ∀ {mr : List Nat} {br i : Nat}, mr.length ≤ i → nuR mr br i = br + (i - mr.length)
  | [], _, _, _ => rfl
  | _ :: _, _, 0, h => by simp at h
  | _ :: mr, br, i + 1, h => by simp only [nuR]; rw [nuR_ge (by simpa using h)]; simp
def mUps (mb mr : List Nat) (br : Nat) (B' : List (List AV)) (K : List (Option ARow)) (H' : List ARow) : List Upd :=
  boxUps (nuB mb) (nuR mr br) mb B' ++ (rowKs mr K ++ rowsUp br H')

def HBs (bx : Nat → Option (List AV)) (mb0 mr : List Nat) (rw' : Nat → Option ARow) : List Nat → List (List AV) → Prop
  | [], [] => True
  | m :: mb, c :: B => (∃ c0, bx m = some c0 ∧ c0.length = c.length ∧ ∀ (j : Nat) (x y : AV), c0[j]? = some x → c[j]? = some y → ALe (hndC mb0 mr rw' x) y) ∧ HBs bx mb0 mr rw' mb B
  | _, _ => False
def HRs (rw : Nat → Option ARow) : List Nat → List ARow → Prop
  | [], [] => True
  | m :: mr, r :: H => (rw m = some r ∧ r.fro = false) ∧ HRs rw mr H
  | _, _ => False
theorem hbs_get {bx : Nat → Option (List AV)} {mb0 mr : List Nat} {rw' : Nat → Option ARow} : ∀ {mb : List Nat} {B : List (List AV)}, HBs bx mb0 mr rw' mb B → B.length = mb.length ∧ ∀ (i m : Nat), mb[i]? = some m → ∃ (c c0 : List AV), B[i]? = some c ∧ bx m = some c0 ∧ c0.length = c.length ∧ ∀ (j : Nat) (x y : AV), c0[j]? = some x → c[j]? = some y → ALe (hndC mb0 mr rw' x) y
  | [], [], _ => ⟨rfl, fun i m e => by cases e⟩
  | [], _ :: _, h => h.elim
  | _ :: _, [], h => h.elim
  | m :: mb, c :: B, h => by
    obtain ⟨⟨c0, h1, h2, h3⟩, h4⟩ := h
    obtain ⟨g1, g2⟩ := hbs_get h4
    refine ⟨by simp [g1], fun i x e => ?_⟩
    cases i with
    | zero => simp at e; subst e; exact ⟨c, c0, rfl, h1, h2, h3⟩
    | succ i => exact g2 i x (by simpa using e)
theorem hrs_get {rw : Nat → Option ARow} : ∀ {mr : List Nat} {H : List ARow}, HRs rw mr H → H.length = mr.length ∧ ∀ (i m : Nat), mr[i]? = some m → ∃ (r : ARow), H[i]? = some r ∧ rw m = some r ∧ r.fro = false
  | [], [], _ => ⟨rfl, fun i m e => by cases e⟩
  | [], _ :: _, h => h.elim
  | _ :: _, [], h => h.elim
  | m :: mr, r :: H, h => by
    obtain ⟨⟨h1, h2⟩, h4⟩ := h
    obtain ⟨g1, g2⟩ := hrs_get h4
    refine ⟨by simp [g1], fun i x e => ?_⟩
    cases i with
    | zero => simp at e; subst e; exact ⟨r, rfl, h1, h2⟩
    | succ i => exact g2 i x (by simpa using e)
/-- What a call with own memory gives. -/
structure MOp (P : Program) (σ : FS) (br f : Nat) (xs : List AV) (mb mr : List Nat) (args : List AV) (B : List (List AV)) (H : List ARow) (v : AV) (B' : List (List AV)) (K : List (Option ARow)) (H' : List ARow) : Prop where
  nb : mb.Nodup
  nr : mr.Nodup
  hb : HBs σ.bx mb mr (exR mr σ.rw) mb B
  hr : HRs σ.rw mr H
  mt : ment mb mr σ.bx xs = true
  le : xs.length = args.length ∧ ∀ (i : Nat) (x y : AV), xs[i]? = some x → args[i]? = some y → ALe (hndF mb mr (exB mb σ.bx) (exR mr σ.rw) x) y
  call : MCall P f args B H v B' K H'

section
variable {P : Program} {w0 : Base} {N : Nat} {ρ : Env} {F : Nat → Prop} {σ : FS} {a : Act} {w : World} {mb mr : List Nat} {R : Option Nat}

theorem hndC_rep (h : Sim w0 N ρ F σ a w) {V : Nat → Prop} {bx' : Nat → Option (List AV)} {rw' : Nat → Option ARow} (hk : Looks w0 ρ σ V bx' rw') {v : Value} {x : AV} (hv : Rep ρ w0.V F w v x) : Rep (ρ.hnd mb mr) V F w v (hndC mb mr rw' x) := by
  cases x with
  | ref b k lo n =>
    simp only [hndC]
    split
    · rename_i i hi
      obtain ⟨a, c, p, rfl, hp, h1, h2, h3, h4, h5⟩ := hv.ref_inv
      exact .ref a c i k lo n p (by simp [Env.hnd, ixOf_get hi, hp]) h1 h2 h3 h4 h5
    · exact argC_rep h hk hv
  | bptr b off =>
    simp only [hndC]
    split
    · rename_i i hi
      obtain ⟨g, hg, rfl⟩ := hv.bptr_inv
      exact .bptr i off g (by simp [Env.hnd, ixOf_get hi, hg])
    · exact .any _
  | rptr b k j off =>
    simp only [hndC]
    split
    · rename_i i hi
      obtain ⟨p, hp, rfl⟩ := hv.rptr_inv
      exact .rptr i k j off p (by simp [Env.hnd, ixOf_get hi, hp])
    · exact .any _
  | aptr b n =>
    simp only [hndC]
    split
    · rename_i i hi
      obtain ⟨p, hp, hl, rfl⟩ := hv.aptr_inv
      exact .aptr i n p (by simp [Env.hnd, ixOf_get hi, hp]) hl
    · exact .any _
  | mptr b =>
    simp only [hndC]
    split
    · rename_i i hi
      obtain ⟨p, hp, hl, rfl⟩ := hv.mptr_inv
      exact .mptr i p (by simp [Env.hnd, ixOf_get hi, hp]) hl
    · exact .any _
  | _ => exact argC_rep h hk hv
theorem hndV_rep (h : Sim w0 N ρ F σ a w) {V : Nat → Prop} {bx' : Nat → Option (List AV)} {rw' : Nat → Option ARow} (hk : Looks w0 ρ σ V bx' rw') {v : Value} {x : AV} (hv : Rep ρ w0.V F w v x) : Rep (ρ.hnd mb mr) V F w v (hndV mb mr bx' rw' x) := by
  cases x with
  | agg l =>
    obtain ⟨cs, rfl, hl, hc⟩ := hv.agg_inv
    refine .agg cs _ (by simp [hl]) fun i u x e1 e2 => ?_
    rw [List.getElem?_map] at e2
    cases hy : l[i]? with
    | none => rw [hy] at e2; cases e2
    | some y => rw [hy] at e2; cases e2; exact hndC_rep h hk (hc i u y e1 hy)
  | bptr b off =>
    simp only [hndV]
    split
    · rename_i i hi
      obtain ⟨g, hg, rfl⟩ := hv.bptr_inv
      exact .bptr i off g (by simp [Env.hnd, ixOf_get hi, hg])
    · exact argV_rep h hk hv
  | cptr vol l => exact argV_rep h hk hv
  | aptr b n =>
    simp only [hndV]
    split
    · rename_i i hi
      obtain ⟨p, hp, hl, rfl⟩ := hv.aptr_inv
      exact .aptr i n p (by simp [Env.hnd, ixOf_get hi, hp]) hl
    · exact argV_rep h hk hv
  | _ => exact hndC_rep h hk hv
theorem hndF_rep (h : Sim w0 N ρ F σ a w) {V : Nat → Prop} {bx' : Nat → Option (List AV)} {rw' : Nat → Option ARow} (hk : Looks w0 ρ σ V bx' rw') {v : Value} {x : AV} (hv : Rep ρ w0.V F w v x) : Rep (ρ.hnd mb mr) V F w v (hndF mb mr bx' rw' x) := by
  cases x with
  | fn f caps =>
    obtain ⟨cs, rfl, hl, hc⟩ := hv.fn_inv
    refine .fn f cs _ (by simp [hl]) fun i u x e1 e2 => ?_
    rw [List.getElem?_map] at e2
    cases hy : caps[i]? with
    | none => rw [hy] at e2; cases e2
    | some y => rw [hy] at e2; cases e2; exact hndV_rep h hk (hc i u y e1 hy)
  | _ => exact hndV_rep h hk hv
theorem mentC_some {V F : Nat → Prop} {m : Nat} {v : Value} {x : AV} (hv : Rep ρ V F w v x) (hm : mentC m x = true) : ∃ p, ρ.r m = some p := by
  cases x with
  | ref b k lo n => obtain ⟨a, c, p, rfl, hp, _⟩ := hv.ref_inv; simp [mentC] at hm; subst hm; exact ⟨p, hp⟩
  | rptr b k j off => obtain ⟨p, hp, rfl⟩ := hv.rptr_inv; simp [mentC] at hm; subst hm; exact ⟨p, hp⟩
  | aptr b n => obtain ⟨p, hp, hl, rfl⟩ := hv.aptr_inv; simp [mentC] at hm; subst hm; exact ⟨p, hp⟩
  | mptr b => obtain ⟨p, hp, hl, rfl⟩ := hv.mptr_inv; simp [mentC] at hm; subst hm; exact ⟨p, hp⟩
  | _ => simp [mentC] at hm
theorem mentR_some {V F : Nat → Prop} {m : Nat} {v : Value} {x : AV} (hv : Rep ρ V F w v x) (hm : mentR m x = true) : ∃ p, ρ.r m = some p := by
  have key : ∀ {cs : Array Value} {l : List AV}, cs.size = l.length → (∀ (i : Nat) (u : Value) (av : AV), cs[i]? = some u → l[i]? = some av → Rep ρ V F w u av) → l.any (mentC m) = true → ∃ p, ρ.r m = some p := fun {cs l} hl hc hm => by
    obtain ⟨y, hy, hm⟩ := List.any_eq_true.1 hm
    obtain ⟨i, hi, rfl⟩ := List.getElem_of_mem hy
    exact mentC_some (hc i _ _ (Array.getElem?_eq_getElem (by omega)) (List.getElem?_eq_getElem hi)) hm
  cases x with
  | agg l => obtain ⟨cs, rfl, hl, hc⟩ := hv.agg_inv; exact key hl hc hm
  | fn f l => obtain ⟨cs, rfl, hl, hc⟩ := hv.fn_inv; exact key hl hc hm
  | _ => exact mentC_some hv hm
theorem mentB_some {V F : Nat → Prop} {m : Nat} {v : Value} {x : AV} (hv : Rep ρ V F w v x) (hm : mentB m x = true) : ∃ g, ρ.b m = some g := by
  cases x with
  | bptr b off => obtain ⟨g, hg, rfl⟩ := hv.bptr_inv; simp [mentB] at hm; subst hm; exact ⟨g, hg⟩
  | fn f l =>
    obtain ⟨cs, rfl, hl, hc⟩ := hv.fn_inv
    obtain ⟨y, hy, hm⟩ := List.any_eq_true.1 hm
    obtain ⟨i, hi, rfl⟩ := List.getElem_of_mem hy
    have q := hc i _ _ (Array.getElem?_eq_getElem (by omega)) (List.getElem?_eq_getElem hi)
    generalize l[i] = y at hm q
    cases y with
    | bptr b off => obtain ⟨g, hg, _⟩ := q.bptr_inv; simp at hm; subst hm; exact ⟨g, hg⟩
    | _ => simp at hm
  | _ => simp [mentB] at hm

/-- The memory that is not handed over. -/
def Vh (w : World) (ρ : Env) (mb mr : List Nat) : Nat → Prop := fun x => x < w.heap.size ∧ (∀ m ∈ mb, ρ.b m ≠ some x) ∧ (∀ m ∈ mr, ∀ p, ρ.r m = some p → 0 < p.lim → p.blk ≠ x)

/-- A call with own memory: behind it the caller has what the callee gave back. -/
theorem mcall_sim (h : Sim w0 N ρ F σ a w) {f : Nat} {vs : Array Value} {xs args : List AV} {B : List (List AV)} {H : List ARow} {v : AV} {B' : List (List AV)} {K : List (Option ARow)} {H' : List ARow} {bb br : Nat}
    (hm : MOp P σ br f xs mb mr args B H v B' K H') (hl : vs.size = xs.length) (hr : ∀ (i : Nat) (u : Value) (av : AV), vs[i]? = some u → xs[i]? = some av → Rep ρ w0.V F w u av) (hbr : ∀ b, br ≤ b → b < br + H'.length → ρ.r b = none) :
    Calls P f vs w fun e w' => ∃ u ρ' F', e = .returned u ∧ Grown w0.V ρ ρ' F F' bb 0 br H'.length ∧ Sim w0 N ρ' F' (σ.ups (mUps mb mr br B' K H')) a w' ∧ Rep ρ' w0.V F' w' u (mpT (nuB mb) (nuR mr br) v) := by
  obtain ⟨nb, nr, hb, hrw, mt, le, call⟩ := hm
  obtain ⟨hbl, hbg⟩ := hbs_get hb
  obtain ⟨hrl, hrg⟩ := hrs_get hrw
  obtain ⟨cp, cl1, cl2, call⟩ := call
  simp only [ment, Bool.and_eq_true, List.all_eq_true, Bool.or_eq_true] at mt
  have xrep : ∀ x ∈ xs, ∃ u, Rep ρ w0.V F w u x := fun x hx => by
    obtain ⟨i, hi, rfl⟩ := List.getElem_of_mem hx
    exact ⟨_, hr i _ _ (Array.getElem?_eq_getElem (by omega)) (List.getElem?_eq_getElem hi)⟩
  have mB : ∀ m ∈ mb, ∃ g, ρ.b m = some g := fun m hm => by
    obtain ⟨x, hx, q⟩ := List.any_eq_true.1 (mt.1 m hm)
    obtain ⟨u, hu⟩ := xrep x hx
    exact mentB_some hu q
  have mBi : ∀ m ∈ mb, ∃ i, mb[i]? = some m := fun m hm => by
    obtain ⟨i, hi, rfl⟩ := List.getElem_of_mem hm; exact ⟨i, List.getElem?_eq_getElem hi⟩
  have mRi : ∀ m ∈ mr, ∃ i, mr[i]? = some m := fun m hm => by
    obtain ⟨i, hi, rfl⟩ := List.getElem_of_mem hm; exact ⟨i, List.getElem?_eq_getElem hi⟩
  have mBc : ∀ m ∈ mb, ∃ c0 g, σ.bx m = some c0 ∧ ρ.b m = some g ∧ BoxOk ρ w0.V F w g c0 := fun m hm => by
    obtain ⟨i, hi⟩ := mBi m hm
    obtain ⟨c, c0, _, h2, _⟩ := hbg i m hi
    obtain ⟨g, hg⟩ := mB m hm
    exact ⟨c0, g, h2, hg, h.bx m c0 g h2 hg⟩
  have mR : ∀ m ∈ mr, ∃ p r, ρ.r m = some p ∧ σ.rw m = some r ∧ r.fro = false ∧ RowOk w0.V F w p r := fun m hm => by
    obtain ⟨i, hi⟩ := mRi m hm
    obtain ⟨r, h1, h2, h3⟩ := hrg i m hi
    have : ∃ p, ρ.r m = some p := by
      rcases mt.2 m hm with q | q
      · obtain ⟨x, hx, q⟩ := List.any_eq_true.1 q
        obtain ⟨u, hu⟩ := xrep x hx
        exact mentR_some hu q
      · obtain ⟨b, hb, q⟩ := List.any_eq_true.1 q
        obtain ⟨c0, g, e1, e2, _, _, cs, T, _, e4, e5⟩ := mBc b hb
        rw [e1] at q
        dsimp only at q
        obtain ⟨y, hy, q⟩ := List.any_eq_true.1 q
        obtain ⟨j, hj, rfl⟩ := List.getElem_of_mem hy
        exact mentC_some (e5 j _ _ (Array.getElem?_eq_getElem (by omega)) (List.getElem?_eq_getElem hj)) q
    obtain ⟨p, hp⟩ := this
    exact ⟨p, r, hp, h2, h3, h.rw m r p h2 hp⟩
  -- memory
  have nF : ∀ x, F x → Vh w ρ mb mr x := fun x hx => ⟨h.fl x hx, fun m hm e => by
      obtain ⟨c0, g, _, e2, _, e3, _⟩ := mBc m hm
      rw [e2] at e; cases e; exact e3 hx, fun m hm p e hlm q => by
      obtain ⟨p', r, e2, _, e4, _, _, e5⟩ := mR m hm
      rw [e2] at e; cases e
      rcases e5 with e5 | ⟨_, e5, _⟩
      · omega
      · exact (e5 e4).2 (q ▸ hx)⟩
  have nV : ∀ x, w0.V x → Vh w ρ mb mr x := fun x hx => ⟨h.bel.size x hx, fun m hm e => by
      obtain ⟨c0, g, _, e2, e3, _⟩ := mBc m hm
      rw [e2] at e; cases e; exact e3 hx, fun m hm p e hlm q => by
      obtain ⟨p', r, e2, _, e4, _, _, e5⟩ := mR m hm
      rw [e2] at e; cases e
      rcases e5 with e5 | ⟨_, e5, _⟩
      · omega
      · exact (e5 e4).1 (q ▸ hx)⟩
  have nB : ∀ b g, ρ.b b = some g → b ∉ mb → Vh w ρ mb mr g := fun b g e hn => ⟨h.lb b g e, fun m hm e2 => hn (by rw [h.ib b m g e e2]; exact hm), fun m hm p e2 hlm => h.ibr b m g p e e2 hlm⟩
  have nR : ∀ b r p, σ.rw b = some r → ρ.r b = some p → 0 < p.lim → b ∉ mr → Vh w ρ mb mr p.blk := fun b r p e1 e2 hlm hn => by
    cases hf : r.fro
    · exact ⟨h.lr b p e2 hlm, fun m hm e3 => h.ibr m b p.blk p e3 e2 hlm rfl, fun m hm p' e3 hlm' q => by
        obtain ⟨p2, r2, k1, k2, k3, _⟩ := mR m hm
        rw [k1] at e3; cases e3
        exact hn (by rw [h.ir b m p _ r r2 e2 k1 e1 k2 hf k3 hlm hlm' q.symm]; exact hm)⟩
    · refine nF _ ?_
      rcases (h.rw b r p e1 e2).2.2 with q | ⟨q, _⟩
      · omega
      · exact q hf
  have hk : Looks w0 ρ σ (Vh w ρ mb mr) (exB mb σ.bx) (exR mr σ.rw) := ⟨nV, fun b c e => by
      simp only [exB] at e
      split at e
      · cases e
      · rename_i hi
        exact ⟨e, fun g hg => nB b g hg (ixOf_none hi)⟩, fun b r e => by
      simp only [exR] at e
      split at e
      · cases e
      · rename_i hi
        exact ⟨e, fun p hp hlm => nR b r p e hp hlm (ixOf_none hi)⟩⟩
  have hin : MIn w (Vh w ρ mb mr) F (ρ.hnd mb mr) B H := by
    refine ⟨h.fl, fun x hx => hx.1, fun b c e => ?_, fun b r e => ?_, fun b hb => ?_, fun b hb => ?_, fun b b' g e1 e2 => ?_, fun b b' p p' e1 e2 l1 l2 hq => ?_, fun b b' g p e1 e2 hlm => ?_⟩
    · have hi := (List.getElem?_eq_some_iff.1 e).1
      have e0 : mb[b]? = some (mb[b]'(by omega)) := List.getElem?_eq_getElem (by omega)
      have hmem := List.mem_of_getElem? e0
      obtain ⟨c', c0, k1, k2, k3, k4⟩ := hbg b _ e0
      rw [e] at k1; cases k1
      obtain ⟨c1, g, e1, e2, e3, e4, cs, T, e5, e6, e7⟩ := mBc _ hmem
      rw [k2] at e1; cases e1
      refine ⟨g, by simp [Env.hnd, e0, e2], h.lb _ g e2, fun hv => hv.2.1 _ hmem e2, e4, cs, T, e5, by omega, fun i u av a1 a2 => ?_⟩
      have hi := (List.getElem?_eq_some_iff.1 a2).1
      have a3 : c0[i]? = some (c0[i]'(by omega)) := List.getElem?_eq_getElem (by omega)
      exact (k4 i _ av a3 a2).rep (hndC_rep h hk (e7 i u _ a1 a3))
    · have hi := (List.getElem?_eq_some_iff.1 e).1
      have e0 : mr[b]? = some (mr[b]'(by omega)) := List.getElem?_eq_getElem (by omega)
      have hmem := List.mem_of_getElem? e0
      obtain ⟨r', k1, k2, k3⟩ := hrg b _ e0
      rw [e] at k1; cases k1
      obtain ⟨p, r2, e1, e2, e3, e4, e5, e6⟩ := mR _ hmem
      rw [k2] at e2; cases e2
      refine ⟨k3, p, by simp [Env.hnd, e0, e1], h.lr _ p e1, e4, e5, ?_⟩
      by_cases hz : p.lim = 0
      · exact .inl hz
      · exact e6.imp id fun ⟨q1, q2, q3⟩ => ⟨q1, fun hf => ⟨fun hv => hv.2.2 _ hmem p e1 (by omega) rfl, (q2 hf).2⟩, q3⟩
    · simp [Env.hnd, List.getElem?_eq_none (show mb.length ≤ b by omega)]
    · simp [Env.hnd, List.getElem?_eq_none (show mr.length ≤ b by omega)]
    · obtain ⟨m, q1, q2⟩ := Option.bind_eq_some_iff.1 e1
      obtain ⟨m', q3, q4⟩ := Option.bind_eq_some_iff.1 e2
      have := h.ib m m' g q2 q4
      subst this
      have a1 := ixOf_self nb q1; rw [ixOf_self nb q3] at a1; cases a1; rfl
    · obtain ⟨m, q1, q2⟩ := Option.bind_eq_some_iff.1 e1
      obtain ⟨m', q3, q4⟩ := Option.bind_eq_some_iff.1 e2
      obtain ⟨p1, r1, k1, k2, k3, _⟩ := mR m (List.mem_of_getElem? q1)
      obtain ⟨p2, r2, j1, j2, j3, _⟩ := mR m' (List.mem_of_getElem? q3)
      rw [k1] at q2; cases q2
      rw [j1] at q4; cases q4
      have := h.ir m m' p p' r1 r2 k1 j1 k2 j2 k3 j3 l1 l2 hq
      subst this
      have a1 := ixOf_self nr q1; rw [ixOf_self nr q3] at a1; cases a1; rfl
    · obtain ⟨m, q1, q2⟩ := Option.bind_eq_some_iff.1 e1
      obtain ⟨m', q3, q4⟩ := Option.bind_eq_some_iff.1 e2
      exact h.ibr m m' g p q2 q4 hlm
  refine (call w (Vh w ρ mb mr) F (ρ.hnd mb mr) vs hin (by omega) fun i u av e1 e2 => ?_).mono ?_
  · have hi := (List.getElem?_eq_some_iff.1 e2).1
    have e3 : xs[i]? = some (xs[i]'(by omega)) := List.getElem?_eq_getElem (by omega)
    exact (le.2 i _ _ e3 e2).rep (hndF_rep h hk (hr i u _ e1 e3))
  · rintro e w' ⟨u, ρc, F', rfl, o, hrep⟩
    have hKl : K.length = mr.length := by omega
    have hBl : B'.length = mb.length := by omega
    -- the rows of the callee that are new
    have getN : ∀ x, mr.length ≤ x → (K ++ H'.map some)[x]? = (H'[x - mr.length]?).map some := fun x hx => by
      rw [List.getElem?_append_right (by omega), List.getElem?_map, hKl]
    have getK : ∀ x, x < mr.length → (K ++ H'.map some)[x]? = K[x]? := fun x hx => List.getElem?_append_left (by omega)
    refine ⟨u, ⟨ρ.b, fun x => if br ≤ x ∧ x < br + H'.length then ρc.r (mr.length + (x - br)) else ρ.r x⟩, F', rfl, ?_⟩
    have hle : ρ.le ⟨ρ.b, fun x => if br ≤ x ∧ x < br + H'.length then ρc.r (mr.length + (x - br)) else ρ.r x⟩ := ⟨fun _ _ e => e, fun b p e => by
      dsimp only; rw [if_neg]; exact e
      intro hb; rw [hbr b hb.1 hb.2] at e; cases e⟩
    have old : ∀ b p, ρ.r b = some p → ¬ (br ≤ b ∧ b < br + H'.length) := fun b p e hb => by rw [hbr b hb.1 hb.2] at e; cases e
    -- the callee's rows are the caller's
    have toR : ∀ b p, ρc.r b = some p → (if br ≤ nuR mr br b ∧ nuR mr br b < br + H'.length then ρc.r (mr.length + (nuR mr br b - br)) else ρ.r (nuR mr br b)) = some p := fun b p e => by
      obtain ⟨r, hr2⟩ := o.rn b p e
      by_cases hb : b < mr.length
      · have e1 : nuR mr br b = mr[b] := by rw [nuR_lt hb]; simp [hb]
        rw [e1]
        rw [getK b hb] at hr2
        have e2 := o.rid b r hr2
        rw [e] at e2
        simp only [Env.hnd, List.getElem?_eq_getElem hb, Option.bind_some] at e2
        rw [if_neg (old _ p e2.symm)]; exact e2.symm
      · rw [getN b (by omega)] at hr2
        obtain ⟨r2, h2, _⟩ := Option.map_eq_some_iff.1 hr2
        have := (List.getElem?_eq_some_iff.1 h2).1
        have e1 : nuR mr br b = br + (b - mr.length) := nuR_ge (by omega)
        rw [e1, if_pos (by omega), show mr.length + (br + (b - mr.length) - br) = b by omega]; exact e
    have toB : ∀ b g, ρc.b b = some g → ρ.b (nuB mb b) = some g := fun b g e => by
      by_cases hb : b < mb.length
      · obtain ⟨c, hc⟩ : ∃ c, B'[b]? = some c := ⟨_, List.getElem?_eq_getElem (by omega)⟩
        obtain ⟨g2, hg2⟩ := mB _ (List.getElem_mem hb)
        have e2 := (o.bx b c g2 hc (by simp [Env.hnd, hb, hg2])).1
        rw [e] at e2; cases e2
        simp [nuB, hb, hg2]
      · rw [o.bn b (by omega)] at e; cases e
    refine ⟨⟨hle, fun x hx => .inl hx, fun x hx => ?_, o.sub, fun x hx => (o.new x hx).imp id fun q hv => q (nV x hv)⟩, ?_, mpT_rep (ρ' := ⟨ρ.b, fun x => if br ≤ x ∧ x < br + H'.length then ρc.r (mr.length + (x - br)) else ρ.r x⟩) toB toR hrep⟩
    · dsimp only at hx; split at hx
      · rename_i hb; exact .inr hb
      · exact .inl hx
    -- the state
    obtain ⟨s1, s2, s3⟩ := boxUps_at (fb := nuB mb) (fr := nuR mr br) (B := B') (σ := σ) nb hBl
    obtain ⟨t1, t2, t3⟩ := rowKs_at (K := K) (σ := σ.ups (boxUps (nuB mb) (nuR mr br) mb B')) nr hKl
    obtain ⟨q1, q2, q3⟩ := rowsUp_rw H' br ((σ.ups (boxUps (nuB mb) (nuR mr br) mb B')).ups (rowKs mr K))
    have hups : σ.ups (mUps mb mr br B' K H') = ((σ.ups (boxUps (nuB mb) (nuR mr br) mb B')).ups (rowKs mr K)).ups (rowsUp br H') := by
      unfold mUps FS.ups; rw [List.foldl_append, List.foldl_append]
    rw [hups]
    have hA : Agree (fun x => w0.V x ∨ F x) w w' := fun x hx => o.block x (hx.elim (nV x) (nF x))
    have hA0 : Agree F w w' := fun x hx => hA x (.inr hx)
    have nF' : ∀ x, Vh w ρ mb mr x → ¬ F x → ¬ F' x := fun x hv hn hF => (o.new x hF).elim hn fun e => e hv
    -- a row of the state, and of whom it is
    have whose : ∀ b r p, (((σ.ups (boxUps (nuB mb) (nuR mr br) mb B')).ups (rowKs mr K)).ups (rowsUp br H')).rw b = some r → (if br ≤ b ∧ b < br + H'.length then ρc.r (mr.length + (b - br)) else ρ.r b) = some p →
        (∃ i, (K ++ H'.map some)[i]? = some (some r) ∧ ρc.r i = some p ∧ nuR mr br i = b) ∨ (σ.rw b = some r ∧ ρ.r b = some p ∧ b ∉ mr) := fun b r p e1 e2 => by
      rw [q3] at e1
      split at e1
      · rename_i hb
        rw [if_pos hb] at e2
        refine .inl ⟨mr.length + (b - br), ?_, e2, ?_⟩
        · rw [getN _ (by omega), show mr.length + (b - br) - mr.length = b - br by omega, e1]; rfl
        · rw [nuR_ge (by omega)]; omega
      · rename_i hb
        rw [if_neg hb] at e2
        rw [t3] at e1
        split at e1
        · rename_i i hi
          have hg := ixOf_get hi
          have hil := (List.getElem?_eq_some_iff.1 hg).1
          obtain ⟨k, hk1, hk2⟩ := Option.bind_eq_some_iff.1 e1
          simp only [id] at hk2; subst hk2
          refine .inl ⟨i, by rw [getK i hil]; exact hk1, ?_, ?_⟩
          · rw [o.rid i r hk1]; simp [Env.hnd, hg, e2]
          · rw [nuR_lt hil]; simp only [List.getD_eq_getElem?_getD, hg, Option.getD_some]
        · rename_i hi
          rw [s2] at e1
          exact .inr ⟨e1, e2, ixOf_none hi⟩
    refine ⟨h.sz, h.df, fun t => ?_, fun b c g e1 e2 => ?_, fun b r p e1 e2 => ?_, h.ib, fun b b' p p' r r' e1 e2 e3 e4 f1 f2 l1 l2 hq => ?_, fun b b' g p e1 e2 hlm => ?_, fun b g e => Nat.lt_of_lt_of_le (h.lb b g e) o.grow, fun b p e hlm => ?_, o.fl, h.bel.step o.os o.output o.grow fun x hx => o.block x (nV x hx)⟩
    · rw [q1, t1, s1]; exact (h.tm t).mono hle hA (fun _ hx => .inl hx) o.sub
    · rw [q2, t2, s3] at e1
      dsimp only at e2
      split at e1
      · rename_i i hi
        obtain ⟨c', h1, rfl⟩ := Option.map_eq_some_iff.1 e1
        have hg := ixOf_get hi
        obtain ⟨_, k1, _, k2, cs, T, k3, k4, k5⟩ := o.bx i c' g h1 (by simp [Env.hnd, hg, e2])
        refine ⟨fun hv => k1 (nV g hv), k2, cs, T, k3, by simpa using k4, fun j u av a1 a2 => ?_⟩
        rw [List.getElem?_map] at a2
        cases hy : c'[j]? with
        | none => rw [hy] at a2; cases a2
        | some y => rw [hy] at a2; cases a2; exact mpC_rep (ρ' := ⟨ρ.b, fun x => if br ≤ x ∧ x < br + H'.length then ρc.r (mr.length + (x - br)) else ρ.r x⟩) toB toR (k5 j u y a1 hy)
      · rename_i hi
        have hv := nB b g e2 (ixOf_none hi)
        exact (h.bx b c g e1 e2).mono hle hA (o.block g hv) o.sub (nF' g hv (h.bx b c g e1 e2).2.1)
    · rcases whose b r p e1 e2 with ⟨i, k1, k2, k3⟩ | ⟨k1, k2, k3⟩
      · obtain ⟨_, ⟨m1, m2, m3⟩, _⟩ := o.rw i r p k1 k2
        exact ⟨m1, m2, m3.imp id fun ⟨n1, n2, n3⟩ => ⟨n1, fun e => ⟨fun hv => (n2 e).1 (nV _ hv), (n2 e).2⟩, n3⟩⟩
      · refine (h.rw b r p k1 k2).mono hA0 (fun hlm => o.block _ (nR b r p k1 k2 hlm k3)) o.sub (fun e hlm => nF' _ (nR b r p k1 k2 hlm k3) ?_)
        rcases (h.rw b r p k1 k2).2.2 with q | ⟨_, q, _⟩
        · omega
        · exact (q e).2
    · have blk : ∀ i r p, (K ++ H'.map some)[i]? = some (some r) → ρc.r i = some p → 0 < p.lim → ¬ Vh w ρ mb mr p.blk := fun i r p k1 k2 hlm => by
        obtain ⟨hf, ⟨_, _, m3⟩, _⟩ := o.rw i r p k1 k2
        rcases m3 with m3 | ⟨_, m3, _⟩
        · omega
        · exact (m3 hf).1
      rcases whose b r p e3 e1 with ⟨i, k1, k2, k3⟩ | ⟨k1, k2, k3⟩ <;> rcases whose b' r' p' e4 e2 with ⟨i', j1, j2, j3⟩ | ⟨j1, j2, j3⟩
      · rw [← k3, ← j3, o.ir i i' p p' k2 j2 l1 l2 hq]
      · exact absurd (hq ▸ nR b' r' p' j1 j2 l2 j3) (blk i r p k1 k2 l1)
      · exact absurd (hq ▸ nR b r p k1 k2 l1 k3) (blk i' r' p' j1 j2 l2)
      · exact h.ir b b' p p' r r' k2 j2 k1 j1 f1 f2 l1 l2 hq
    · dsimp only at e1 e2
      split at e2
      · rename_i hb
        obtain ⟨r, hr2⟩ := o.rn _ p e2
        by_cases hmb : b ∈ mb
        · obtain ⟨i, hi⟩ := mBi b hmb
          have hil := (List.getElem?_eq_some_iff.1 hi).1
          obtain ⟨c, hc⟩ : ∃ c, B'[i]? = some c := ⟨_, List.getElem?_eq_getElem (by omega)⟩
          exact o.ibr i _ g p (o.bx i c g hc (by simp [Env.hnd, hi, e1])).1 e2 hlm
        · intro q
          obtain ⟨hf, ⟨_, _, m3⟩, _⟩ := o.rw _ r p hr2 e2
          rcases m3 with m3 | ⟨_, m3, _⟩
          · omega
          · exact (m3 hf).1 (q ▸ nB b g e1 hmb)
      · exact h.ibr b b' g p e1 e2 hlm
    · dsimp only at e
      split at e
      · obtain ⟨r, hr2⟩ := o.rn _ p e
        exact (o.rw _ r p hr2 e).2.2 hlm
      · exact Nat.lt_of_lt_of_le (h.lr b p e hlm) o.grow
/-- A call, told: of what, with what. -/
def mArgs (L : Opd → AV) : AI → Option (Nat × List AV)
  | .call f xs => some (f, xs.map fun x => (L x).val)
  | .callv x xs => match (L x).val with | .fn f caps => some (f, (xs.map fun x => (L x).val) ++ caps) | _ => none
  | _ => none
def mConds (L : Opd → AV) : AI → Prop
  | .call f xs => ∀ x ∈ xs, (L x).cond
  | .callv x xs => (L x).cond ∧ ∀ x ∈ xs, (L x).cond
  | _ => True
def StepM (P : Program) (σ : FS) (br : Nat) (o : AO) (r : Res) : Prop :=
  o.g = none ∧ mConds (lookT σ.tm) o.ai ∧ ∃ f xs, mArgs (lookT σ.tm) o.ai = some (f, xs) ∧ ∃ mb mr args B H v B' K H', MOp P σ br f xs mb mr args B H v B' K H' ∧ r = ⟨True, mpT (nuB mb) (nuR mr br) v, 0, H'.length, mUps mb mr br B' K H'⟩
theorem stepM_sound {bb br : Nat} {ops : Array Oper} {i : Nat} {o : Oper} {ao : AO} (h : Sim w0 N ρ F σ a w) (hi : ops[i]? = some o) (hc : compO P N ops o = some ao) {r : Res} (hr : StepM P σ br ao r) (hbr : ∀ b, br ≤ b → b < br + r.nr → ρ.r b = none) {K : Act → World → Prop} {Q : Exit → Act → World → Prop}
    (hK : ∀ a' w' ρ' F', Grown w0.V ρ ρ' F F' bb r.nb br r.nr → Sim w0 N ρ' F' ((σ.ups r.up).put ao.dst r.av) a' w' → K a' w') : wpOpIn (Fe R) 0 P ops Q i K a w := by
  unfold compO at hc
  split at hc
  case isFalse => cases hc
  rename_i hd
  have hdN : ∀ t, o.dst = some t → t < N := fun t e => by rw [e] at hd; simpa using hd
  obtain ⟨ai, h1, hc⟩ := Option.bind_eq_some_iff.1 hc
  obtain ⟨hg, hcd, f, xs, hx, mb, mr, args, B, H, v, B', K', H', hm, rfl⟩ := hr
  have hgd : o.guard = none ∧ ao = ⟨o.dst, ai, none⟩ := by
    split at hc
    · rename_i hgd; cases hc; exact ⟨hgd, rfl⟩
    · obtain ⟨t, _, hc⟩ := Option.bind_eq_some_iff.1 hc
      split at hc
      · cases hc; cases hg
      · cases hc
  obtain ⟨hgd, rfl⟩ := hgd
  clear hc hg
  unfold wpOpIn
  simp only [hi]
  have hw : Region.wanted o (yielded ops a.tmps) = true := by simp [Region.wanted, hgd]
  rw [if_pos hw]
  obtain ⟨dst, op, ty, pos, after, guard⟩ := o
  dsimp only at hx hcd hdN h1 hK ⊢
  unfold compA at h1
  split at h1
  · rename_i f' as ts
    obtain ⟨ys, g0, rfl⟩ := Option.map_eq_some_iff.1 h1
    simp only [mArgs, Option.some.injEq, Prod.mk.injEq] at hx
    obtain ⟨rfl, rfl⟩ := hx
    obtain ⟨g1, g2⟩ := reps_list h g0
    have hrun : (execOp a.eval ⟨dst, .call ⟨.value (.func f'), as, ts⟩, ty, pos, after, guard⟩).run P w = .ok (.enter f' (as.map a.eval)) w := by
      simp only [execOp, resolve, Act.eval, Deferred.ofValue, Sem.run_bind, Sem.run_pure, Result.andThen_ok, invoke]
      simpa using callFunc_run hm.call.1 (as.map a.eval) w
    refine wp_call (fun c e => by cases e) hrun ((mcall_sim (bb := bb) (br := br) h hm (by simp [g1]) (vals_reps h g0 hcd) hbr).mono ?_)
    rintro e w' ⟨u, ρ', F', rfl, q1, q2, q3⟩
    exact ⟨u, rfl, hK _ w' ρ' F' q1 (q2.put q3 hdN)⟩
  · rename_i t as ts
    obtain ⟨ys, g0, rfl⟩ := Option.map_eq_some_iff.1 h1
    simp only [mArgs] at hx
    split at hx
    case h_2 => cases hx
    rename_i f' caps hfn
    simp only [Option.some.injEq, Prod.mk.injEq] at hx
    obtain ⟨rfl, rfl⟩ := hx
    obtain ⟨hcx, hcond⟩ := hcd
    obtain ⟨g1, g2⟩ := reps_list h g0
    have hf := (h.tm t).val hcx
    have hfn' : (σ.tm t).val = .fn f' caps := hfn
    rw [hfn'] at hf
    obtain ⟨cs, e1, e2, e3⟩ := hf.fn_inv
    have hrun : (execOp a.eval ⟨dst, .call ⟨.value (.tmp t), as, ts⟩, ty, pos, after, guard⟩).run P w = .ok (.enter f' (as.map a.eval ++ cs)) w := by
      have e1' : a.eval (.tmp t) = .func (.func f') #[] cs := e1
      simp only [execOp, resolve, e1', Deferred.ofValue, Sem.run_bind, Sem.run_pure, Result.andThen_ok, invoke]
      simpa using callFunc_run hm.call.1 (as.map a.eval ++ cs) w
    refine wp_call (fun c e => by cases e) hrun ((mcall_sim (bb := bb) (br := br) h hm (by simp [g1, e2]) (fun i u av k1 k2 => ?_) hbr).mono ?_)
    · have g1' : ys.length = as.size := by simpa using g1
      by_cases hi : i < ys.length
      · rw [Array.getElem?_append_left (by simp; omega)] at k1
        rw [List.getElem?_append_left (by simpa using hi)] at k2
        exact vals_reps h g0 hcond i u av k1 k2
      · rw [Array.getElem?_append_right (by simp; omega)] at k1
        rw [List.getElem?_append_right (by simp; omega)] at k2
        exact e3 _ u av (by simpa using k1) (by simpa [g1] using k2)
    · rintro e w' ⟨u, ρ', F', rfl, q1, q2, q3⟩
      exact ⟨u, rfl, hK _ w' ρ' F' q1 (q2.put q3 hdN)⟩
  · split at h1
    · rename_i hxx
      cases h1
      obtain ⟨t, k, xs', rfl, _⟩ := compX_call hxx
      cases hx
    obtain ⟨ai', g0, hif⟩ := Option.bind_eq_some_iff.1 h1
    split at hif
    · cases hif
    rename_i hcall
    cases hif
    cases ai <;> first | (cases hx; done) | (simp [isCall] at hcall)
theorem boxUps_in {fb fr : Nat → Nat} : ∀ (mb : List Nat) (B : List (List AV)), ∀ u ∈ boxUps fb fr mb B, ∃ m c, u = .B m c ∧ m ∈ mb
  | [], _, u, hu => by cases hu
  | _ :: _, [], u, hu => by cases hu
  | m :: mb, c :: B, u, hu => by
    rcases List.mem_cons.1 hu with rfl | hu
    · exact ⟨m, _, rfl, by simp⟩
    · obtain ⟨m', c', h1, h2⟩ := boxUps_in mb B u hu
      exact ⟨m', c', h1, List.mem_cons_of_mem _ h2⟩
theorem rowKs_in : ∀ (mr : List Nat) (K : List (Option ARow)), ∀ u ∈ rowKs mr K, ∃ m c, u = .R m c ∧ m ∈ mr
  | [], _, u, hu => by cases hu
  | _ :: _, [], u, hu => by cases hu
  | m :: mb, c :: B, u, hu => by
    rcases List.mem_cons.1 hu with rfl | hu
    · exact ⟨m, _, rfl, by simp⟩
    · obtain ⟨m', c', h1, h2⟩ := rowKs_in mb B u hu
      exact ⟨m', c', h1, List.mem_cons_of_mem _ h2⟩
theorem stepM_up {br : Nat} {o : AO} {r : Res} (bb : Nat) (h : StepM P σ br o r) : ∀ u ∈ r.up, UpIn σ.bx σ.rw bb r.nb br r.nr true true u := by
  obtain ⟨hg, hcd, f, xs, hx, mb, mr, args, B, H, v, B', K', H', hm, rfl⟩ := h
  intro u hu
  rcases List.mem_append.1 hu with hu | hu
  · obtain ⟨m, c, rfl, hmem⟩ := boxUps_in _ _ u hu
    obtain ⟨i, hi, rfl⟩ := List.getElem_of_mem hmem
    obtain ⟨c, c0, _, h2, _⟩ := (hbs_get hm.hb).2 i _ (List.getElem?_eq_getElem hi)
    exact .inl ⟨rfl, c0, h2⟩
  · rcases List.mem_append.1 hu with hu | hu
    · obtain ⟨m, c, rfl, hmem⟩ := rowKs_in _ _ u hu
      obtain ⟨i, hi, rfl⟩ := List.getElem_of_mem hmem
      obtain ⟨r, _, h2, _⟩ := (hrs_get hm.hr).2 i _ (List.getElem?_eq_getElem hi)
      exact .inl ⟨rfl, r, h2⟩
    · obtain ⟨b, r', rfl, h2, h3⟩ := rowsUp_in H' br u hu
      exact .inr ⟨h2, h3⟩
/-! ### slices.overlaps -/
structure OvlF (P : Program) (f k : Nat) : Prop where
  h : ∃ fn tS tR e, P.funcs[f]? = some fn ∧ (fn.name == "runtime.NumGoroutine") = false ∧ fn.body.isNone = true ∧ Extern.findNext fn = none ∧ Extern.find fn = some (Extern.SlicesOverlaps.overlaps #[tS, tS] #[tR]) ∧ P.underlying tS = some (.slice e) ∧ szOf P e = some k
theorem run_overlaps_own (w : World) (tS tR e : TypeId) (ht : P.underlying tS = some (.slice e)) (size : Nat) (hz : szOf P e = some size)
    (a b : Addr) (la ca lb cb : Nat) (hne : a.block ≠ b.block) (tA tB : TypeId) (kA kB : Nat) (hsa : w.shape? a.block = some (tA, kA + 1)) (hsb : w.shape? b.block = some (tB, kB)) (hfb : w.frozen? b = false) (hfe : w.frozen? { block := b.block, off := kB } = false) :
    (Extern.SlicesOverlaps.overlaps #[tS, tS] #[tR] #[.slice (some a) la ca, .slice (some b) lb cb]).run P w = .ok (.bool false) w := by
  have hnb : (a.block != b.block) = true := by simpa using hne
  have hnb' : (a.block == b.block) = false := by simpa using hne
  have hz' := run_sizeOf' (P := P) hz
  change Sem.run P (α := Value) (do
    let some t := (#[tS, tS] : Array TypeId)[0]? | stuck "slices.overlaps: no parameter types"
    let .slice elem ← underlying t | stuck "slices.overlaps: slice type expected"
    let size ← sizeOf elem
    match (some a : Option Addr), (some b : Option Addr) with
    | some a, some b =>
      if la = 0 ∨ lb = 0 ∨ size = 0 then pure (Value.bool false)
      else if a.block != b.block && (← frozen a) && (← frozen b) then unsupported .addressObserved
      else do
        if a.block != b.block then do
          noView a; noView b
          if ← mayBeOne a b then return Value.bool ((← choose (.extern "sameAddr.stringBytes" 2)) == 1)
        pure (Value.bool (a.block == b.block && a.off < b.off + lb * size && b.off < a.off + la * size))
    | _, _ => pure (Value.bool false)) w = _
  by_cases h0 : la = 0 ∨ lb = 0 ∨ size = 0
  · simp [run_underlying ht, hz', h0]
  · cases hq : w.frozen? a <;> cases hq2 : w.frozen? { block := a.block, off := kA + 1 } <;>
      simp [run_underlying ht, hz', h0, hnb, hnb', frozen, noView, viewAt, mayBeOne, stringish, shape, Sem.run, hsa, hsb, hfb, hfe, hq, hq2]
theorem run_overlaps_nil (w : World) (tS tR e : TypeId) (ht : P.underlying tS = some (.slice e)) (size : Nat) (hz : szOf P e = some size) (a b : Option Addr) (la ca lb cb : Nat) (hb : lb = 0) :
    (Extern.SlicesOverlaps.overlaps #[tS, tS] #[tR] #[.slice a la ca, .slice b lb cb]).run P w = .ok (.bool false) w := by
  have hz' := run_sizeOf' (P := P) hz
  change Sem.run P (α := Value) (do
    let some t := (#[tS, tS] : Array TypeId)[0]? | stuck "slices.overlaps: no parameter types"
    let .slice elem ← underlying t | stuck "slices.overlaps: slice type expected"
    let size ← sizeOf elem
    match (a : Option Addr), (b : Option Addr) with
    | some a, some b =>
      if la = 0 ∨ lb = 0 ∨ size = 0 then pure (Value.bool false)
      else if a.block != b.block && (← frozen a) && (← frozen b) then unsupported .addressObserved
      else do
        if a.block != b.block then do
          noView a; noView b
          if ← mayBeOne a b then return Value.bool ((← choose (.extern "sameAddr.stringBytes" 2)) == 1)
        pure (Value.bool (a.block == b.block && a.off < b.off + lb * size && b.off < a.off + la * size))
    | _, _ => pure (Value.bool false)) w = _
  cases a <;> cases b <;> simp [run_underlying ht, hz', hb]
def StepE (P : Program) (σ : FS) (o : AO) (r : Res) : Prop :=
  o.g = none ∧ ∃ f x z vol k es b lo n row, o.ai = .call f [x, z] ∧ OvlF P f k ∧ (lookT σ.tm x) = .sl vol k es ∧ es ≠ [] ∧ 0 < k ∧ (lookT σ.tm z).val.rf = .ref b k lo n ∧ (lookT σ.tm z).cond ∧ σ.rw b = some row ∧ (row.fro = false ∧ 0 < row.k) ∧ r = ⟨True, .bool false, 0, 0, []⟩
theorem wp_ext {o : Oper} {f : Nat} {vs : Array Value} {v : Value} {K : Act → World → Prop} {Q : Exit → Act → World → Prop} (hnd : ∀ c, o.op ≠ .defer c) (hr : (execOp a.eval o).run P w = .ok (.value v) w) (hk : K (a.put o.dst v) w) : o.wpIn (Fe R) 0 P a w K Q := by
  unfold Oper.wpIn
  refine ⟨fun _ _ => trivial, ?_⟩
  rw [Oper.semAt_eq _ _ _ hnd, hr]; exact hk
theorem stepE_sound {bb br : Nat} {ops : Array Oper} {i : Nat} {o : Oper} {ao : AO} (h : Sim w0 N ρ F σ a w) (hi : ops[i]? = some o) (hc : compO P N ops o = some ao) {r : Res} (hr : StepE P σ ao r) {K : Act → World → Prop} {Q : Exit → Act → World → Prop}
    (hK : ∀ a' w' ρ' F', Grown w0.V ρ ρ' F F' bb r.nb br r.nr → Sim w0 N ρ' F' ((σ.ups r.up).put ao.dst r.av) a' w' → K a' w') : wpOpIn (Fe R) 0 P ops Q i K a w := by
  unfold compO at hc
  split at hc
  case isFalse => cases hc
  rename_i hd
  have hdN : ∀ t, o.dst = some t → t < N := fun t e => by rw [e] at hd; simpa using hd
  obtain ⟨ai, h1, hc⟩ := Option.bind_eq_some_iff.1 hc
  obtain ⟨hg, f, x, z, vol, k, es, b, lo, n, row, hai, ⟨fn, tS, tR, e, f1, f2, f3, f4, f5, f6, f7⟩, hx, hne, hk0, hz, hzc, hrow, ⟨hfro, hkk⟩, rfl⟩ := hr
  have hgd : o.guard = none ∧ ao = ⟨o.dst, ai, none⟩ := by
    split at hc
    · rename_i hgd; cases hc; exact ⟨hgd, rfl⟩
    · obtain ⟨t, _, hc⟩ := Option.bind_eq_some_iff.1 hc
      split at hc
      · cases hc; cases hg
      · cases hc
  obtain ⟨hgd, rfl⟩ := hgd
  clear hc hg
  dsimp only at hai
  subst hai
  unfold wpOpIn
  simp only [hi]
  have hw : Region.wanted o (yielded ops a.tmps) = true := by simp [Region.wanted, hgd]
  rw [if_pos hw]
  obtain ⟨dst, op, ty, pos, after, guard⟩ := o
  dsimp only at hdN h1 hK ⊢
  unfold compA at h1
  split at h1
  · rename_i f' as ts
    obtain ⟨ys, g0, he⟩ := Option.map_eq_some_iff.1 h1
    cases he
    obtain ⟨g1, g2⟩ := reps_list h g0
    have hcd : ∀ y ∈ [x, z], (lookT σ.tm y).cond := fun y hy => by
      simp at hy
      rcases hy with rfl | rfl
      · rw [hx]; trivial
      · exact hzc
    have hreps := vals_reps h g0 hcd
    have hsz : (as.map a.eval).size = 2 := by simpa using g1.symm
    have e1 : (as.map a.eval)[0]? = some ((as.map a.eval)[0]'(by omega)) := Array.getElem?_eq_getElem (by omega)
    have e2 : (as.map a.eval)[1]? = some ((as.map a.eval)[1]'(by omega)) := Array.getElem?_eq_getElem (by omega)
    have r1 := hreps 0 _ (lookT σ.tm x).val e1 rfl
    have r2 := (hreps 1 _ (lookT σ.tm z).val e2 rfl).rf
    rw [hx] at r1
    rw [hz] at r2
    have hv : as.map a.eval = #[(as.map a.eval)[0]'(by omega), (as.map a.eval)[1]'(by omega)] := by
      apply Array.ext
      · simp [hsz]
      · intro i h1 h2
        simp at h2
        rcases i with _ | _ | i
        · rfl
        · rfl
        · omega
    obtain ⟨a1, c1, g, q1, q2, q3, q4⟩ := r1.sl_inv
    obtain ⟨a2, c2, p, q5, q6, q7, q8, q9, q10, q11⟩ := r2.ref_inv
    have hrun : (Extern.SlicesOverlaps.overlaps #[tS, tS] #[tR] (as.map a.eval)).run P w = .ok (.bool false) w := by
      rw [hv, q1, q5]
      have hel : 0 < es.length := List.length_pos_iff.2 hne
      cases a1 with
      | none =>
        have := q3.nil rfl; have := q3.cap; omega
      | some ad =>
        cases a2 with
        | none => exact run_overlaps_nil w tS tR e f6 k f7 _ _ _ _ _ _ (by have := q10 rfl; omega)
        | some ad2 =>
          by_cases hn0 : c2 = 0
          · exact run_overlaps_nil w tS tR e f6 k f7 _ _ _ _ _ _ (by omega)
          · have had := q11 hn0
            cases had
            have hlim : 0 < p.lim := by
              have : 0 < (lo + c2) * k := Nat.mul_pos (by omega) hk0
              omega
            obtain ⟨_, _, k3⟩ := h.rw b row p hrow q6
            rcases k3 with k3 | ⟨_, k4, cs, T, fr, ⟨k5, _⟩ | k5, k6, k7, _⟩
            rotate_right
            · have := k5.no.1; omega
            · omega
            have k7 := k7 hfro
            subst k7
            have hpos : 0 < es.length * k := Nat.mul_pos hel hk0
            have hblk := q3.loc ad rfl hpos
            have hcell := q3.cell ad rfl 0 hpos
            have hsh : ∃ tA kA, w.shape? ad.block = some (tA, kA + 1) := by
              rw [show ad.add 0 = ad from rfl] at hcell
              unfold World.cell? at hcell
              unfold World.shape?
              cases hh : w.heap[ad.block]? with
              | none => rw [hh] at hcell; cases hcell
              | some o =>
                rw [hh] at hcell
                cases o <;> try (cases hcell; done)
                rename_i cs' T' fr'
                dsimp only at hcell ⊢
                split at hcell
                · cases hcell
                · have := (Array.getElem?_eq_some_iff.1 hcell).1
                  exact ⟨T', cs'.size - 1, by rw [show cs'.size - 1 + 1 = cs'.size by omega]⟩
            obtain ⟨tA, kA, hsh⟩ := hsh
            refine run_overlaps_own w tS tR e f6 k f7 ad ⟨p.blk, p.off + lo * k, none⟩ _ _ _ _ ?_ tA T kA cs.size hsh (by unfold World.shape?; rw [k5]) ?_ ?_
            · intro hbe
              have k4 := k4 hfro
              rw [show ad.block = p.blk from hbe] at hblk
              rcases hblk with ⟨_, hb⟩ | hb
              · exact k4.1 hb
              · exact k4.2 hb
            · unfold World.frozen?; rw [k5]; simp
            · unfold World.frozen?; rw [k5]; simp
    have hrun2 : (execOp a.eval ⟨dst, .call ⟨.value (.func f), as, ts⟩, ty, pos, after, guard⟩).run P w = .ok (.value (.bool false)) w := by
      simp only [execOp, resolve, Act.eval, Deferred.ofValue, Sem.run_bind, Sem.run_pure, Result.andThen_ok, invoke]
      have := run_callFunc_extern f1 f2 f3 f4 f5 (as.map a.eval) w
      rw [hrun] at this
      simpa using this
    refine wp_ext (fun c e => by cases e) (f := f) (vs := #[]) hrun2 (hK _ w ρ F (.refl _ _ _ _ _) (h.put (rep_bool false) hdN))
  · rename_i t as ts
    obtain ⟨ys, _, he⟩ := Option.map_eq_some_iff.1 h1
    cases he
  · split at h1
    · rename_i hxx
      cases h1
      obtain ⟨t, k, xs', he, _⟩ := compX_call hxx
      cases he
    obtain ⟨ai', g0, hif⟩ := Option.bind_eq_some_iff.1 h1
    split at hif
    · cases hif
    rename_i hcall
    cases hif
    simp [isCall] at hcall
/-! ### What no state tells beforehand -/
def plainR : AV → Bool
  | .int .. | .bool _ | .str _ | .sl .. | .csl .. | .nil | .raw _ => true
  | _ => false
theorem plainR_rep {V : Nat → Prop} {v : Value} {av : AV} (hp : plainR av = true) (h : Rep ρ V F w v av) : Rep Env.none V F w v av := by
  cases h with
  | pure _ _ h => exact .pure _ _ h
  | vsl a n c k es f hn hw hr h => exact .vsl a n c k es f hn hw hr h
  | vcsl a n k es f hn hw hr h => exact .vcsl a n k es f hn hw hr h
  | _ => cases hp
/-- A function that looks at its arguments alone, and may hand them back. -/
def VCall (P : Program) (f : Nat) (args : List AV) (v : AV) : Prop :=
  plainFn P f = true ∧ ∀ (w : World) (V F : Nat → Prop) (vs : Array Value), (∀ x, F x → x < w.heap.size) → (∀ x, V x → x < w.heap.size) → vs.size = args.length → (∀ (i : Nat) (u : Value) (av : AV), vs[i]? = some u → args[i]? = some av → Rep Env.none V F w u av) →
    Calls P f vs w fun e w' => ∃ u F', e = .returned u ∧ Below w.heap.size w w' ∧ (∀ x, F x → F' x) ∧ (∀ x, F' x → F x ∨ w.heap.size ≤ x) ∧ (∀ x, F' x → x < w'.heap.size) ∧ Rep Env.none V F' w' u v
theorem Sim.addFs (h : Sim w0 N ρ F σ a w) {w' : World} (hbel : Below w.heap.size w w') {F' : Nat → Prop} (f1 : ∀ x, F x → F' x) (f2 : ∀ x, F' x → F x ∨ w.heap.size ≤ x) (f3 : ∀ x, F' x → x < w'.heap.size) : Sim w0 N ρ F' σ a w' := by
  have h' := h.grow hbel
  have refl (S : Nat → Prop) := Agree.refl S w'
  refine ⟨h'.sz, h'.df, fun t => (h'.tm t).mono ρ.le_refl (refl _) (fun _ hx => .inl hx) f1, fun b c x e1 e2 => ?_, fun b r p e1 e2 => ?_, h'.ib, h'.ir, h'.ibr, h'.lb, h'.lr, f3, h'.bel⟩
  · refine (h'.bx b c x e1 e2).mono ρ.le_refl (refl _) rfl f1 fun hx => ?_
    rcases f2 x hx with hx | hx
    · exact (h'.bx b c x e1 e2).2.1 hx
    · have := h.lb b _ e2; omega
  · refine (h'.rw b r p e1 e2).mono (refl _) (fun _ => rfl) f1 (fun e hl hx => ?_)
    rcases f2 _ hx with hx | hx
    · rcases (h'.rw b r p e1 e2).2.2 with q | ⟨_, q, _⟩
      · omega
      · exact (q e).2 hx
    · have := h.lr b p e2 hl; omega
/-- An operation, told of whatever world fits the state. -/
def XCall (P : Program) (σ : FS) (nb nr t k : Nat) (xs : List Opd) (r : Res) : Prop :=
  ∀ (o : Oper), compX P o.op = some (.callv (xc t k) xs) → ∀ (w0 : Base) (N : Nat) (ρ : Env) (F : Nat → Prop) (a : Act) (w : World), Sim w0 N ρ F σ a w → (∀ b, nb ≤ b → ρ.b b = none) → (∀ b, nr ≤ b → ρ.r b = none) →
    ∃ v w' ρ' F', ((execOp a.eval o).run P w = .ok (.value v) w' ∨ ((execOp a.eval o).run P w = .ok .skip w' ∧ v = undef)) ∧ Grown w0.V ρ ρ' F F' nb r.nb nr r.nr ∧ Sim w0 N ρ' F' (σ.ups r.up) a w' ∧ Rep ρ' w0.V F' w' v r.av
def StepX (P : Program) (σ : FS) (nb nr : Nat) (o : AO) (r : Res) : Prop :=
  ∃ r0, ((∃ f xs, o.ai = .call f xs ∧ VCall P f (xs.map fun x => (lookT σ.tm x).val) r0.av ∧ (∀ x ∈ xs, (lookT σ.tm x).cond ∧ plainR (lookT σ.tm x).val = true) ∧ r0.up = [] ∧ r0.nb = 0 ∧ r0.nr = 0) ∨ (∃ t k xs, o.ai = .callv (xc t k) xs ∧ XCall P σ nb nr t k xs r0 ∧ ∀ u ∈ r0.up, UpIn σ.bx σ.rw nb r0.nb nr r0.nr true true u)) ∧
    match o.g with
    | none => r = r0
    | some (t, want) => gval (σ.tm t) want = some true ∧ r = ⟨r0.ok, mkCnd true r0.av, r0.nb, r0.nr, r0.up⟩
theorem stepX_up {bb br : Nat} {o : AO} {r : Res} (h : StepX P σ bb br o r) : ∀ u ∈ r.up, UpIn σ.bx σ.rw bb r.nb br r.nr true true u := by
  obtain ⟨r0, hr, hm⟩ := h
  have h0 : ∀ u ∈ r0.up, UpIn σ.bx σ.rw bb r0.nb br r0.nr true true u := by
    rcases hr with ⟨f, xs, e1, e2, e3, e4, e5, e6⟩ | ⟨t, k, xs, e1, e2, e3⟩
    · rw [e4]; intro u hu; cases hu
    · exact e3
  split at hm
  · subst hm; exact h0
  · obtain ⟨_, rfl⟩ := hm; exact h0
theorem vcall_sound {o : Oper} {f : Nat} {xs : List Opd} {v : AV} (h : Sim w0 N ρ F σ a w) (h1 : compA P o.op = some (.call f xs)) (hv : VCall P f (xs.map fun x => (lookT σ.tm x).val) v) (hp : ∀ x ∈ xs, (lookT σ.tm x).cond ∧ plainR (lookT σ.tm x).val = true) {K : Act → World → Prop} {Q : Exit → Act → World → Prop}
    (hK : ∀ u w' F', (∀ x, F x → F' x) → (∀ x, F' x → F x ∨ ¬ w0.V x) → Sim w0 N ρ F' σ a w' → Rep ρ w0.V F' w' u v → K (a.put o.dst u) w') : o.wpIn (Fe R) 0 P a w K Q := by
  obtain ⟨dst, op, ty, pos, after, guard⟩ := o
  dsimp only at h1 hK ⊢
  unfold compA at h1
  split at h1
  · rename_i f' as ts
    obtain ⟨ys, g0, he⟩ := Option.map_eq_some_iff.1 h1
    cases he
    obtain ⟨g1, g2⟩ := reps_list h g0
    have hrun : (execOp a.eval ⟨dst, .call ⟨.value (.func f), as, ts⟩, ty, pos, after, guard⟩).run P w = .ok (.enter f (as.map a.eval)) w := by
      simp only [execOp, resolve, Act.eval, Deferred.ofValue, Sem.run_bind, Sem.run_pure, Result.andThen_ok, invoke]
      simpa using callFunc_run hv.1 (as.map a.eval) w
    have hreps := vals_reps h g0 (fun x hx => (hp x hx).1)
    refine wp_call (fun c e => by cases e) hrun ((hv.2 w w0.V F (as.map a.eval) h.fl h.bel.size (by simp [g1]) fun i u av e1 e2 => ?_).mono ?_)
    · have e3 := e2
      rw [List.getElem?_map] at e3
      cases hx : xs[i]? with
      | none => rw [hx] at e3; cases e3
      | some x =>
        rw [hx] at e3
        cases e3
        exact plainR_rep (hp x (List.mem_of_getElem? hx)).2 (hreps i u _ e1 e2)
    · rintro e w' ⟨u, F', rfl, q1, q2, q3, q4, q5⟩
      exact ⟨u, rfl, hK u w' F' q2 (fun x hx => (q3 x hx).imp id fun hs => h.bel.fresh hs) (h.addFs q1 q2 q3 q4) (q5.mono (Env.none_le _) (Agree.refl _ _) (fun _ hx => .inl hx) fun _ hx => hx)⟩
  · obtain ⟨ys, _, he⟩ := Option.map_eq_some_iff.1 h1
    cases he
  · split at h1
    · rename_i hxx
      cases h1
      obtain ⟨t, k, xs', he, _⟩ := compX_call hxx
      cases he
    obtain ⟨ai', g0, hif⟩ := Option.bind_eq_some_iff.1 h1
    split at hif
    · cases hif
    rename_i hcall
    cases hif
    simp [isCall] at hcall
theorem xcall_sound {bb br t k : Nat} {o : Oper} {xs : List Opd} {r : Res} (h : Sim w0 N ρ F σ a w) (h1 : compA P o.op = some (.callv (xc t k) xs)) (hx : XCall P σ bb br t k xs r) (hb : ∀ b, bb ≤ b → ρ.b b = none) (hr : ∀ b, br ≤ b → ρ.r b = none) {K : Act → World → Prop} {Q : Exit → Act → World → Prop}
    (hK : ∀ v w' ρ' F', Grown w0.V ρ ρ' F F' bb r.nb br r.nr → Sim w0 N ρ' F' (σ.ups r.up) a w' → Rep ρ' w0.V F' w' v r.av → K (a.put o.dst v) w') : o.wpIn (Fe R) 0 P a w K Q := by
  unfold compA at h1
  split at h1
  · obtain ⟨ys, _, he⟩ := Option.map_eq_some_iff.1 h1
    cases he
  · obtain ⟨ys, _, he⟩ := Option.map_eq_some_iff.1 h1
    cases he
  · split at h1
    · rename_i hxx
      cases h1
      obtain ⟨_, _, _, _, hnd⟩ := compX_call hxx
      obtain ⟨v, w', ρ', F', hrun, hg, hs, hv⟩ := hx o hxx w0 N ρ F a w h hb hr
      have hk := hK v w' ρ' F' hg hs hv
      unfold Oper.wpIn
      refine ⟨fun _ _ => trivial, ?_⟩
      rw [Oper.semAt_eq _ _ _ hnd]
      rcases hrun with hrun | ⟨hrun, rfl⟩
      · rw [hrun]; exact hk
      · rw [hrun]; exact hk
    obtain ⟨ai', g0, hif⟩ := Option.bind_eq_some_iff.1 h1
    split at hif
    · cases hif
    rename_i hcall
    cases hif
    simp [isCall] at hcall
theorem stepX_sound {bb br : Nat} {ops : Array Oper} {i : Nat} {o : Oper} {ao : AO} (h : Sim w0 N ρ F σ a w) (hi : ops[i]? = some o) (hc : compO P N ops o = some ao) {r : Res} (hr : StepX P σ bb br ao r) (hb : ∀ b, bb ≤ b → ρ.b b = none) (hrr : ∀ b, br ≤ b → ρ.r b = none) {K : Act → World → Prop} {Q : Exit → Act → World → Prop}
    (hK : ∀ a' w' ρ' F', Grown w0.V ρ ρ' F F' bb r.nb br r.nr → Sim w0 N ρ' F' ((σ.ups r.up).put ao.dst r.av) a' w' → K a' w') : wpOpIn (Fe R) 0 P ops Q i K a w := by
  unfold compO at hc
  split at hc
  case isFalse => cases hc
  rename_i hd
  have hdN : ∀ t, o.dst = some t → t < N := fun t e => by rw [e] at hd; simpa using hd
  obtain ⟨ai, h1, hc⟩ := Option.bind_eq_some_iff.1 hc
  obtain ⟨r0, hr, hm⟩ := hr
  have key : ∀ {g : Option (Nat × Bool)}, ao = ⟨o.dst, ai, g⟩ → (∀ v w' ρ' F', Grown w0.V ρ ρ' F F' bb r0.nb br r0.nr → Sim w0 N ρ' F' (σ.ups r0.up) a w' → Rep ρ' w0.V F' w' v r0.av → K (a.put o.dst v) w') → o.wpIn (Fe R) 0 P a w K Q := fun {g} hao hk => by
    subst hao
    rcases hr with ⟨f, xs, e1, e2, e3, e4, e5, e6⟩ | ⟨t, k, xs, e1, e2, e3⟩
    · dsimp only at e1
      subst e1
      refine vcall_sound h h1 e2 e3 fun u w' F' g1 g2 g3 g4 => hk u w' ρ F' ?_ ?_ g4
      · rw [e5, e6]
        exact ⟨ρ.le_refl, fun _ hx => .inl hx, fun _ hx => .inl hx, g1, g2⟩
      · rw [e4]; exact g3
    · dsimp only at e1
      subst e1
      exact xcall_sound h h1 e2 hb hrr hk
  unfold wpOpIn
  simp only [hi]
  split at hc
  · rename_i hgd
    cases hc
    dsimp only at hm
    subst hm
    have hw : Region.wanted o (yielded ops a.tmps) = true := by simp [Region.wanted, hgd]
    rw [if_pos hw]
    exact key rfl fun v w' ρ' F' g1 g2 g3 => hK _ _ ρ' F' g1 (g2.put g3 hdN)
  · rename_i j want hgd
    obtain ⟨t, ht, hc⟩ := Option.bind_eq_some_iff.1 hc
    split at hc
    case isFalse => cases hc
    rename_i htN
    cases hc
    dsimp only at hm
    obtain ⟨hG, rfl⟩ := hm
    have hy : yielded ops a.tmps j = bOf (a.tmps.getD t undef) := by
      unfold yielded
      rw [ht]
      simp only [Option.bind_some]
      have : a.tmps[t]? = some (a.tmps.getD t undef) := by
        rw [Array.getElem?_eq_getElem (by rw [h.sz]; exact htN)]
        simp [Array.getD, h.sz, htN]
      rw [this]
      cases a.tmps.getD t undef <;> rfl
    have hwant : Region.wanted o (yielded ops a.tmps) = true := by
      unfold Region.wanted
      rw [hgd]; dsimp only
      rw [hy]; exact gval_sound (h.tm t) hG
    rw [if_pos hwant]
    exact key rfl fun v w' ρ' F' g1 g2 g3 => hK _ _ ρ' F' g1 (g2.put (mkCnd_true g3) hdN)
/-- The same, where the world says which of some results it is. -/
def XCallN (P : Program) (σ : FS) (nb nr t k : Nat) (xs : List Opd) (R : Res → Prop) : Prop :=
  ∀ (o : Oper), compX P o.op = some (.callv (xc t k) xs) → ∀ (w0 : Base) (N : Nat) (ρ : Env) (F : Nat → Prop) (a : Act) (w : World), Sim w0 N ρ F σ a w → (∀ b, nb ≤ b → ρ.b b = none) → (∀ b, nr ≤ b → ρ.r b = none) →
    ∃ r, R r ∧ ∃ v w' ρ' F', ((execOp a.eval o).run P w = .ok (.value v) w' ∨ ((execOp a.eval o).run P w = .ok .skip w' ∧ v = undef)) ∧ Grown w0.V ρ ρ' F F' nb r.nb nr r.nr ∧ Sim w0 N ρ' F' (σ.ups r.up) a w' ∧ Rep ρ' w0.V F' w' v r.av
def StepN (P : Program) (σ : FS) (nb nr : Nat) (o : AO) (K : Res → Prop) : Prop :=
  ∃ t k xs R, o.g = none ∧ o.ai = .callv (xc t k) xs ∧ XCallN P σ nb nr t k xs R ∧ ∀ r, R r → (∀ u ∈ r.up, UpIn σ.bx σ.rw nb r.nb nr r.nr true true u) ∧ K r
theorem stepN_sound {bb br : Nat} {ops : Array Oper} {i : Nat} {o : Oper} {ao : AO} (h : Sim w0 N ρ F σ a w) (hi : ops[i]? = some o) (hc : compO P N ops o = some ao) {Kr : Res → Prop} (hr : StepN P σ bb br ao Kr) (hb : ∀ b, bb ≤ b → ρ.b b = none) (hrr : ∀ b, br ≤ b → ρ.r b = none) {K : Act → World → Prop} {Q : Exit → Act → World → Prop}
    (hK : ∀ r, (∀ u ∈ r.up, UpIn σ.bx σ.rw bb r.nb br r.nr true true u) ∧ Kr r → ∀ a' w' ρ' F', Grown w0.V ρ ρ' F F' bb r.nb br r.nr → Sim w0 N ρ' F' ((σ.ups r.up).put ao.dst r.av) a' w' → K a' w') : wpOpIn (Fe R) 0 P ops Q i K a w := by
  obtain ⟨t, k, xs, RR, hg, hai, hx, hR⟩ := hr
  unfold compO at hc
  split at hc
  case isFalse => cases hc
  rename_i hd
  have hdN : ∀ t, o.dst = some t → t < N := fun t e => by rw [e] at hd; simpa using hd
  obtain ⟨ai, h1, hc⟩ := Option.bind_eq_some_iff.1 hc
  have key : ai = .callv (xc t k) xs → ao.dst = o.dst → o.wpIn (Fe R) 0 P a w K Q := fun e0 e1 => by
    subst e0
    unfold compA at h1
    split at h1
    · obtain ⟨ys, _, he⟩ := Option.map_eq_some_iff.1 h1
      cases he
    · obtain ⟨ys, _, he⟩ := Option.map_eq_some_iff.1 h1
      cases he
    · split at h1
      · rename_i hxx
        cases h1
        obtain ⟨_, _, _, _, hnd⟩ := compX_call hxx
        obtain ⟨r, hRr, v, w', ρ', F', hrun, g1, g2, g3⟩ := hx o hxx w0 N ρ F a w h hb hrr
        have hk := hK r (hR r hRr) (a.put o.dst v) w' ρ' F' g1 (by rw [e1]; exact g2.put g3 hdN)
        unfold Oper.wpIn
        refine ⟨fun _ _ => trivial, ?_⟩
        rw [Oper.semAt_eq _ _ _ hnd]
        rcases hrun with hrun | ⟨hrun, rfl⟩
        · rw [hrun]; exact hk
        · rw [hrun]; exact hk
      obtain ⟨ai', g0, hif⟩ := Option.bind_eq_some_iff.1 h1
      split at hif
      · cases hif
      rename_i hcall
      cases hif
      simp [isCall] at hcall
  unfold wpOpIn
  simp only [hi]
  split at hc
  · rename_i hgd
    cases hc
    have hw : Region.wanted o (yielded ops a.tmps) = true := by simp [Region.wanted, hgd]
    rw [if_pos hw]
    exact key hai rfl
  · obtain ⟨t', ht, hc⟩ := Option.bind_eq_some_iff.1 hc
    split at hc
    case isFalse => cases hc
    cases hc
    cases hg
end
end Go.Proofs.Ytjacmhaeemhinaa
