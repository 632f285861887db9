/- Rules more: arrays stored, loaded and cut whole, cells compared under a guard, a box that nobody writes any more. -/
import Derived.Test.YtiejnmbpejfpgaaAx29
namespace Go.Proofs.Ytiejnmbpejfpgaa
open Go.RowKit
set_option linter.unusedVariables false
set_option linter.unusedSimpArgs false
section
variable {tm : List (Nat × AV)} {bx : List (Option (List AV))} {rw : List (Option ARow)} {nb nr : Nat}
/-- a whole array is stored -/
theorem ST.sta {n b m : Nat} {a z : Opd} {l es : List AV} (ha : lookT (gT tm) a = .aptr b m) (hz : lookT (gT tm) z = .agg l) (hr : gO rw b = some ⟨false, 1, es⟩) (hl : es.length = n) (hn : 0 < n) (hw : okV (.agg l) = true ∧ (AV.agg l).cells.length = n) (hp : l.all pureC = true) :
    ST tm bx rw nb nr (.store n a z) .any 0 0 [.R b (some ⟨false, 1, l⟩)] := by
  obtain ⟨h3, h4⟩ := hw
  have hv : (AV.agg l).val = .agg l := rfl
  have hv2 : (AV.aptr b m).val = .aptr b m := rfl
  refine ⟨rfl, ?_, ?_, ?_, ?_, ?_⟩ <;> simp only [aistep, ha, hz, hr, hv, hv2]
  exact ⟨⟨trivial, trivial, h3, h4⟩, trivial, hl, trivial, hp, hn⟩
theorem ST.lda {n b m : Nat} {fr : Bool} {a : Opd} {es : List AV} (ha : lookT (gT tm) a = .aptr b m) (hr : gO rw b = some ⟨fr, 1, es⟩) (hm : n = m) (hl : es.length = n) (hs : es.all scal = true) : ST tm bx rw nb nr (.load true n a) (.agg es) 0 0 [] := by
  have hv2 : (AV.aptr b m).val = .aptr b m := rfl
  refine ⟨rfl, ?_, ?_, ?_, ?_, ?_⟩ <;> simp only [aistep, ha, hr, hv2]
  exact ⟨trivial, trivial, trivial, hm, trivial, hl, hs⟩
theorem SG.lda {G : Bool} {n b m : Nat} {fr : Bool} {a : Opd} {u : AV} {es : List AV} (ha : lookT (gT tm) a = u) (hu : u.val = .aptr b m) (hg : G = true → u.cond) (hr : gO rw b = some ⟨fr, 1, es⟩) (hm : n = m) (hl : es.length = n) (hs : es.all scal = true) : SG tm bx rw nb nr G (.load true n a) (.agg es) := by
  refine ⟨rfl, fun hG => ?_, ?_, ?_, ?_, ?_⟩ <;> simp only [aistep, ha, hr, hu]
  exact ⟨hg hG, trivial, trivial, hm, trivial, hl, hs⟩
theorem ST.slA0 {len b : Nat} {x : Opd} (hx : lookT (gT tm) x = .aptr b len) : ST tm bx rw nb nr (.slA len x none none) (.ref b 1 0 len) 0 0 [] := by
  have hv2 : (AV.aptr b len).val = .aptr b len := rfl
  refine ⟨rfl, ?_, ?_, ?_, ?_, ?_⟩ <;> simp only [aistep, hx, hv2, bnd, bndc]
  · exact ⟨trivial, trivial, trivial, trivial, Int.le_refl _, Int.natCast_nonneg _, Int.le_refl _⟩
  · congr 1
theorem ST.slAc {len : Nat} {x : Opd} {vol : Bool} {cs cs' : List AV} (hx : lookT (gT tm) x = .cptr vol cs) (hl : len ≤ cs.length) (he : cs.take len = cs') (hp : cs'.all pureC = true) : ST tm bx rw nb nr (.slA len x none none) (.sl vol 1 cs') 0 0 [] := by
  subst he
  have hv2 : (AV.cptr vol cs).val = .cptr vol cs := rfl
  refine ⟨rfl, ?_, ?_, ?_, ?_, ?_⟩ <;> simp only [aistep, hx, hv2, bnd, bndc]
  · exact ⟨trivial, trivial, trivial, hl, Int.le_refl _, Int.natCast_nonneg _, Int.le_refl _, hp⟩
  · rfl
theorem SG.eqA {G ne : Bool} {ts : List Nat} {x z : Opd} {u v : AV} {a b : List AV} {r t : Bool} (hx : lookT (gT tm) x = u) (hu : u.val = .agg a) (huc : G = true → u.cond) (hz : lookT (gT tm) z = v) (hv : v.val = .agg b) (hvc : G = true → v.cond) (h : eqTs ts a b = some r) (ht : (if ne then !r else r) = t) :
    SG tm bx rw nb nr G (.eqA ne ts x z) (.bool t) := by
  subst ht
  refine ⟨rfl, fun hG => ?_, ?_, ?_, ?_, ?_⟩ <;> simp only [aistep, hx, hu, hz, hv, h]
  exact ⟨huc hG, hvc hG⟩
theorem ST.idxT {x i : Opd} {s : List UInt8} {ik : IntKind} {j : Int} (hx : lookT (gT tm) x = .str s) (hi : lookT (gT tm) i = .int ik j) (h0 : 0 ≤ j) (h1 : j < s.length) : ST tm bx rw nb nr (.idxT x i) (.int .u8 (s[j.toNat]?.getD 0).toNat) 0 0 [] := by
  have hv : (AV.str s).val = .str s := rfl
  have hv2 : (AV.int ik j).val = .int ik j := rfl
  refine ⟨rfl, ?_, ?_, ?_, ?_, ?_⟩ <;> simp only [aistep, hx, hi, hv, hv2]
  exact ⟨trivial, trivial, h0, h1⟩
theorem bn_1 : (if true = true then !true else true) = false := rfl
theorem bn_2 : (if true = true then !false else false) = true := rfl
theorem bn_3 : (if false = true then !true else true) = true := rfl
theorem bn_4 : (if false = true then !false else false) = false := rfl
end
/-- A box that nobody writes any more. -/
theorem Wk.frzB {σ : AS} {t b : Nat} {cs : List AV} (ht : gT σ.tm t = .bptr b 0) (hb : getO σ.bx b = some cs) : Wk σ ⟨(t, .cptr false cs) :: σ.tm, setO σ.bx b none, σ.rw, σ.nb, σ.nr⟩ := by
  rw [gT_eq] at ht
  intro w0 N ρ F a w hs
  have q := hs.s.tm t
  rw [show σ.fs.tm t = .bptr b 0 from ht] at q
  obtain ⟨g, hg, hv⟩ := q.bptr_inv
  obtain ⟨k1, k2, arr, T, k3, k4, k5⟩ := hs.s.bx b cs g hb hg
  have refl (S : Nat → Prop) := Agree.refl S w
  have hF : ∀ x, F x → F x ∨ x = g := fun x hx => .inl hx
  refine ⟨ρ, fun x => F x ∨ x = g, ⟨⟨hs.s.sz, hs.s.df, fun u => ?_, fun x c g' e1 e2 => ?_, fun x r p e1 e2 => ?_, hs.s.ib, hs.s.ir, hs.s.ibr, hs.s.lb, hs.s.lr, fun x hx => ?_, hs.s.bel⟩, hs.b, hs.r, ⟨fun x c e => ?_, hs.wf.2⟩⟩, hF, fun x hx => ?_⟩
  · show Rep _ _ _ _ _ (if t = u then AV.cptr false cs else getT σ.tm u)
    split
    · rename_i e; subst e
      rw [hv]
      refine .cptr false ⟨g, 0, none⟩ cs (fun i => (arr[i]?).getD undef) rfl (.inr (.inr rfl)) (fun i hi => ?_) (fun i av e => ?_)
      · rw [add_lit, Nat.zero_add]
        have hi2 : i < arr.size := by omega
        simp [World.cell?, k3, Array.getElem?_eq_getElem hi2]
      · have hi := (List.getElem?_eq_some_iff.1 e).1
        have hi2 : i < arr.size := by omega
        exact (k5 i _ av (by rw [Array.getElem?_eq_getElem hi2]; simp) e).mono ρ.le_refl (refl _) (fun _ hx => .inl hx) hF
    · exact (hs.s.tm u).mono ρ.le_refl (refl _) (fun _ hx => .inl hx) hF
  · simp only [AS.fs, getO_setO] at e1
    split at e1
    · cases e1
    · rename_i hxb
      refine (hs.s.bx x c g' e1 e2).mono ρ.le_refl (refl _) rfl hF ?_
      rintro (hx | rfl)
      · exact (hs.s.bx x c _ e1 e2).2.1 hx
      · exact hxb (hs.s.ib _ _ _ e2 hg)
  · refine (hs.s.rw x r p e1 e2).mono (refl _) (fun _ => rfl) hF fun hf hl => ?_
    rintro (hx | hx)
    · rcases (hs.s.rw x r p e1 e2).2.2 with h3 | ⟨_, h3, _⟩
      · omega
      · exact (h3 hf).2 hx
    · exact hs.s.ibr _ _ _ _ hg e2 hl hx
  · rcases hx with hx | rfl
    · exact hs.s.fl x hx
    · exact hs.s.lb _ _ hg
  · simp only [AS.fs, getO_setO] at e
    split at e
    · cases e
    · exact hs.wf.1 x c e
  · rcases hx with hx | rfl
    · exact .inl hx
    · exact .inr k1
end Go.Proofs.Ytiejnmbpejfpgaa
