/- What comes of a stream, put in order; no program. -/
import Derived.Test.YtmohmcgcggenfaaRqP3
namespace Go.Proofs.Ytmohmcgcggenfaa
open Go.RowKit
set_option linter.unusedVariables false
/-- A piece is a stream's, from a place on. -/
def OfS (S : List UInt8) (pos : Nat) (x : Pc) : Prop := pos + pEnd x ≤ S.length ∧ x.2 = (S.drop (pos + x.1)).take x.2.length
theorem OfS.at {S : List UInt8} {pos : Nat} {x : Pc} (h : OfS S pos x) (j : Nat) (hj : j < x.2.length) : x.2.getD j 0 = S.getD (pos + x.1 + j) 0 := by
  have h2 := h.2
  have : x.2[j]? = ((S.drop (pos + x.1)).take x.2.length)[j]? := by rw [← h2]
  rw [List.getElem?_take, if_pos hj, List.getElem?_drop] at this
  simp only [List.getD_eq_getElem?_getD, this]
theorem ofS_of {S : List UInt8} {pos : Nat} {x : Pc} (h1 : pos + pEnd x ≤ S.length) (h2 : ∀ j, j < x.2.length → x.2.getD j 0 = S.getD (pos + x.1 + j) 0) : OfS S pos x := by
  refine ⟨h1, ?_⟩
  unfold pEnd at h1
  apply List.ext_getElem
  · simp; omega
  · intro j g1 g2
    have := h2 j g1
    simp only [List.getElem_take, List.getElem_drop]
    rw [List.getD_eq_getElem?_getD, List.getD_eq_getElem?_getD, List.getElem?_eq_getElem g1, List.getElem?_eq_getElem (by omega)] at this
    simpa using this
theorem both_at (x p : Pc) (j : Nat) (hj : j < (both x p).2.length) : (both x p).2.getD j 0 = if x.1 ≤ min x.1 p.1 + j ∧ min x.1 p.1 + j < pEnd x then x.2.getD (min x.1 p.1 + j - x.1) 0 else if p.1 ≤ min x.1 p.1 + j ∧ min x.1 p.1 + j < pEnd p then p.2.getD (min x.1 p.1 + j - p.1) 0 else 0 := by
  have hj' : j < bothN x p := by simpa [both, bothD] using hj
  show (bothD x p).getD j 0 = _
  unfold bothD
  rw [List.getD_eq_getElem?_getD, List.getElem?_map, List.getElem?_range hj']
  rfl
theorem both_ofS {S : List UInt8} {pos : Nat} {x p : Pc} (hx : OfS S pos x) (hp : OfS S pos p) (h1 : ¬ pEnd x < p.1) (h2 : ¬ pEnd p < x.1) : OfS S pos (both x p) := by
  have hb1 : (both x p).1 = min x.1 p.1 := rfl
  have hb2 := both_end x p
  have g1 := hx.1; have g2 := hp.1
  refine ofS_of (by rw [hb2]; omega) fun j hj => ?_
  rw [both_at x p j hj, hb1]
  have hlen : (both x p).2.length = bothN x p := by simp [both, bothD]
  rw [hlen] at hj
  unfold bothN at hj
  have e1 : pEnd x = x.1 + x.2.length := rfl
  have e2 : pEnd p = p.1 + p.2.length := rfl
  split
  · rename_i q
    rw [hx.at _ (by omega)]; congr 1; omega
  · rename_i q
    split
    · rename_i q2
      rw [hp.at _ (by omega)]; congr 1; omega
    · rename_i q2
      exfalso; omega
theorem layGo_ofS {S : List UInt8} {pos : Nat} : ∀ {l : List Pc} {p : Pc}, (∀ x ∈ l, OfS S pos x) → OfS S pos p → ∀ x ∈ layGo l p, OfS S pos x
  | [], p, _, h2, x, hx => by simp [layGo] at hx; rw [hx]; exact h2
  | y :: l, p, h1, h2, x, hx => by
    have hy := h1 y (List.mem_cons_self ..)
    have hl : ∀ x ∈ l, OfS S pos x := fun x hx => h1 x (List.mem_cons_of_mem _ hx)
    unfold layGo at hx
    split at hx
    · rcases List.mem_cons.1 hx with rfl | hx
      · exact hy
      · exact layGo_ofS hl h2 x hx
    · split at hx
      · rcases List.mem_cons.1 hx with rfl | hx
        · exact h2
        · exact layGo_ofS hl hy x hx
      · exact layGo_ofS hl (both_ofS hy h2 (by assumption) (by assumption)) x hx
/-- What came of the stream S, of which g bytes were read. -/
structure Str (S : List UInt8) (g : Nat) (s : RS) : Prop where
  ok : s.Ok
  le : g + s.data.length ≤ S.length
  data : s.data = (S.drop g).take s.data.length
  ps : ∀ x ∈ s.ps, OfS S (g + s.data.length) x
  kn : s.kn = true → s.dn = false → s.en = (S.length : Int) - (g + s.data.length : Nat)
  dn : s.dn = true → g + s.data.length = S.length
theorem str_new (S : List UInt8) : Str S 0 ⟨[], [], false, 0, false⟩ :=
  ⟨⟨by decide, trivial, (fun x hx => by cases hx), by decide, (fun h => by cases h), fun h => by cases h⟩, Nat.zero_le _, by simp, (fun x hx => by cases hx), (fun h => by cases h), fun h => by cases h⟩
theorem str_read {S : List UInt8} {g : Nat} {s : RS} (h : Str S g s) (k : Nat) (hk : k ≤ s.data.length) (hok : RS.Ok { s with data := s.data.drop k }) : Str S (g + k) { s with data := s.data.drop k } ∧ S.take g ++ s.data.take k = S.take (g + k) := by
  have hl : (s.data.drop k).length = s.data.length - k := by simp
  have hle := h.le
  refine ⟨⟨hok, by dsimp only; omega, ?_, fun x hx => ?_, fun h1 h2 => ?_, fun h1 => ?_⟩, ?_⟩
  · dsimp only
    rw [hl]
    conv => lhs; rw [h.data]
    rw [List.drop_take, List.drop_drop]
  · dsimp only
    rw [hl, show g + k + (s.data.length - k) = g + s.data.length by omega]
    exact h.ps x hx
  · dsimp only
    rw [hl, show g + k + (s.data.length - k) = g + s.data.length by omega]
    exact h.kn h1 h2
  · dsimp only
    rw [hl]; have := h.dn h1; omega
  · rw [h.data, List.take_take, Nat.min_eq_left hk, List.take_add]
/-- A piece of the stream comes. -/
theorem str_acc {S : List UInt8} {g : Nat} {s : RS} (h : Str S g s) (hd0 : s.dn = false) (from_ to : Nat) (hft : from_ ≤ to) (hto : to ≤ S.length) (hS : S.length ≤ 600) (fin : Bool) (hfin : fin = true → to = S.length) :
    Str S g (s.acc ((from_ : Int) - (g + s.data.length : Nat)) ((S.drop from_).take (to - from_)) fin).1 ∧
    ((s.acc ((from_ : Int) - (g + s.data.length : Nat)) ((S.drop from_).take (to - from_)) fin).2 : Int) = ((s.acc ((from_ : Int) - (g + s.data.length : Nat)) ((S.drop from_).take (to - from_)) fin).1.data.length : Int) - s.data.length + (if (s.acc ((from_ : Int) - (g + s.data.length : Nat)) ((S.drop from_).take (to - from_)) fin).1.dn then 1 else 0) ∧
    (from_ ≤ g + s.data.length → to - g ≤ 100 → g ≤ to → to ≤ g + (s.acc ((from_ : Int) - (g + s.data.length : Nat)) ((S.drop from_).take (to - from_)) fin).1.data.length ∧ (fin = true → (s.acc ((from_ : Int) - (g + s.data.length : Nat)) ((S.drop from_).take (to - from_)) fin).1.dn = true)) := by
  have hle := h.le
  obtain ⟨ds, hds⟩ : ∃ ds, (S.drop from_).take (to - from_) = ds := ⟨_, rfl⟩
  have hdl : ds.length = to - from_ := by rw [← hds]; simp; omega
  obtain ⟨pos, hpos⟩ : ∃ pos, g + s.data.length = pos := ⟨_, rfl⟩
  rw [hds, hpos]
  obtain ⟨d, hd⟩ : ∃ d, (from_ : Int) - (pos : Nat) = d := ⟨_, rfl⟩
  rw [hd]
  have hE : sDiff (sAdd 0 (d + ds.length)) 0 = (to : Int) - pos := by rw [hdl]; unfold sDiff sAdd; omega
  have hacc : s.acc d ds fin = RS.fin ((s.know ((to : Int) - pos) fin).put d ds) := by unfold RS.acc; rw [if_neg (by rw [hd0]; decide), hE]
  have h0 := h.ok.ok1 hd0
  have h1 := know_ok h0 ((to : Int) - pos) fin
  obtain ⟨e1, e2, e3⟩ := know_same s ((to : Int) - pos) fin
  have hken : (s.know ((to : Int) - pos) fin).kn = true → (s.know ((to : Int) - pos) fin).en = (S.length : Int) - pos := fun hk => by
    unfold RS.know at hk ⊢
    split
    · rename_i hc
      simp only [Bool.and_eq_true, decide_eq_true_eq] at hc
      have := hfin hc.1.1.1.1
      dsimp only; omega
    · rename_i hc
      rw [if_neg hc] at hk
      rw [h.kn hk hd0, hpos]
  have hkf : fin = true → from_ ≤ pos → to - g ≤ 100 → g ≤ to → (s.know ((to : Int) - pos) fin).kn = true := fun hf q1 q2 q3 => by
    cases hk : (s.know ((to : Int) - pos) fin).kn
    · exfalso
      have := hfin hf
      obtain ⟨_, k2⟩ := know_inv (s := s) hf hk (by omega) (by omega)
      rw [beyond_iff] at k2
      obtain ⟨y, hy, hyE⟩ := k2
      have := (h.ps y hy).1
      omega
    · rfl
  generalize hs1 : s.know ((to : Int) - pos) fin = s1 at *
  obtain ⟨p1, p2⟩ := put_ok h1 d ds
  obtain ⟨f1, f2⟩ := fin_ok p1 p2
  -- the piece laid
  suffices hq : ((s1.put d ds).1.data = (S.drop g).take (s1.put d ds).1.data.length ∧ g + (s1.put d ds).1.data.length ≤ S.length ∧ (∀ x ∈ (s1.put d ds).1.ps, OfS S (g + (s1.put d ds).1.data.length) x) ∧ ((s1.put d ds).1.kn = true → (s1.put d ds).1.en = (S.length : Int) - (g + (s1.put d ds).1.data.length : Nat)) ∧ ((s1.put d ds).2 : Int) = (s1.put d ds).1.data.length - s.data.length ∧ (s1.put d ds).1.kn = s1.kn ∧ (s1.put d ds).1.dn = false) ∧ (from_ ≤ pos → to - g ≤ 100 → g ≤ to → to ≤ g + (s1.put d ds).1.data.length) by
    obtain ⟨⟨c1, c2, c3, c4, c5, c6, c7⟩, c8⟩ := hq
    rw [hacc]
    generalize s1.put d ds = r at *
    by_cases hc : (r.1.kn && decide (r.1.en = 0)) = true
    · have hf : RS.fin r = ({ r.1 with dn := true, en := -1 }, r.2 + 1) := by unfold RS.fin; rw [if_pos hc]
      rw [hf] at f1 ⊢
      dsimp only at f1 ⊢
      simp only [Bool.and_eq_true, decide_eq_true_eq] at hc
      have hend := c4 hc.1
      refine ⟨⟨f1, c2, c1, c3, (fun _ e => by cases e), fun _ => by dsimp only; omega⟩, by rw [if_pos rfl]; omega, fun q1 q2 q3 => ⟨c8 q1 q2 q3, fun _ => rfl⟩⟩
    · have hf : RS.fin r = r := by unfold RS.fin; rw [if_neg hc]
      rw [hf] at f1 ⊢
      refine ⟨⟨f1, c2, c1, c3, fun hk _ => c4 hk, fun e => by rw [c7] at e; cases e⟩, by rw [c7, if_neg (by decide)]; omega, fun q1 q2 q3 => ⟨c8 q1 q2 q3, fun hfi => ?_⟩⟩
      exfalso
      have hk : r.1.kn = true := by rw [c6]; exact hkf hfi q1 q2 q3
      have := c8 q1 q2 q3
      have := hfin hfi
      have := c4 hk
      exact hc (by simp [hk]; omega)
  have hdata := h.data
  by_cases hlt : max d 0 < s1.last d ds.length
  rotate_left
  · have hput : s1.put d ds = (s1, 0) := by unfold RS.put; rw [if_neg hlt]
    rw [hput]
    dsimp only
    rw [e1, e2, hpos]
    refine ⟨⟨hdata, by omega, by have := h.ps; rw [hpos] at this; exact this, hken, by omega, rfl, by rw [e3]; exact hd0⟩, fun q1 q2 q3 => ?_⟩
    unfold RS.last at hlt
    rw [e1] at hlt
    split at hlt
    · rename_i hk; have := hken hk; omega
    · omega
  · obtain ⟨_, a2, a3, a4, a5⟩ := put_piece (s := s1) d ds hlt
    have hput : s1.put d ds = s1.lay ((max d 0).toNat, (ds.drop (max d 0 - d).toNat).take (s1.last d ds.length - max d 0).toNat) := by unfold RS.put; rw [if_pos hlt]
    have hlo : from_ ≤ pos → to - g ≤ 100 → g ≤ to → s1.last d ds.length = (to : Int) - pos ∧ max d 0 = 0 := fun q1 q2 q3 => by
      unfold RS.last
      rw [e1]
      split
      · rename_i hk; have := hken hk; omega
      · omega
    have hpOf : OfS S pos ((max d 0).toNat, (ds.drop (max d 0 - d).toNat).take (s1.last d ds.length - max d 0).toNat) := by
      refine ⟨?_, ?_⟩
      · unfold pEnd; dsimp only; rw [a2]; omega
      · dsimp only
        rw [a2]
        generalize s1.last d ds.length = la at a3 a5 hlt ⊢
        rw [← hds, List.drop_take, List.take_take, List.drop_drop]
        rw [show from_ + (max d 0 - d).toNat = pos + (max d 0).toNat by omega, Nat.min_eq_left (by omega)]
    have hpl : 0 < ((ds.drop (max d 0 - d).toNat).take (s1.last d ds.length - max d 0).toNat).length := by rw [a2]; omega
    have hE2 : pEnd ((max d 0).toNat, (ds.drop (max d 0 - d).toNat).take (s1.last d ds.length - max d 0).toNat) = (s1.last d ds.length).toNat := by unfold pEnd; dsimp only; rw [a2]; omega
    generalize hp : (((max d 0).toNat, (ds.drop (max d 0 - d).toNat).take (s1.last d ds.length - max d 0).toNat) : Pc) = p at hput hpOf hE2
    have hp1 : p.1 = (max d 0).toNat := by rw [← hp]
    have hp2 : 0 < p.2.length := by rw [← hp]; exact hpl
    have hall := layGo_ofS (S := S) (pos := pos) (l := s1.ps) (p := p) (by rw [e2]; have := h.ps; rw [hpos] at this; exact this) hpOf
    have hsep := layGo_sep (a := -1) (h1.sep.mono (by omega)) (show (-1 : Int) < p.1 by omega) hp2
    obtain ⟨_, z, cz, cz1, cz2⟩ := layGo_cover s1.ps p
    rw [hput]
    unfold RS.lay
    cases hL : layGo s1.ps p with
    | nil => exact absurd hL (layGo_ne _ _)
    | cons x l =>
      rw [hL] at hall hsep cz
      have hx := hall x (List.mem_cons_self ..)
      dsimp only
      by_cases h00 : x.1 = 0
      · rw [if_pos h00]
        dsimp only
        have hxE : pEnd x = x.2.length := by unfold pEnd; omega
        have hx1 := hx.1
        have hx2 := hx.2
        rw [hxE] at hx1
        rw [e1, List.length_append]
        refine ⟨⟨?_, by omega, fun y hy => ?_, fun hk => ?_, by omega, rfl, by rw [e3]; exact hd0⟩, fun q1 q2 q3 => ?_⟩
        · rw [List.take_add, List.drop_drop, hpos]
          rw [h00, Nat.add_zero] at hx2
          rw [← hx2, ← hdata]
        · unfold shift at hy
          obtain ⟨w, hw, rfl⟩ := List.mem_map.1 hy
          have hlt2 := (sep_lt hsep.2.2 w hw).1
          rw [hxE] at hlt2
          obtain ⟨w1, w2⟩ := hall w (List.mem_cons_of_mem _ hw)
          refine ⟨?_, ?_⟩
          · unfold pEnd at *; dsimp only; omega
          · dsimp only
            rw [show g + (s.data.length + x.2.length) + (w.1 - x.2.length) = pos + w.1 by omega]
            exact w2
        · have := hken hk
          omega
        · obtain ⟨l1, l2⟩ := hlo q1 q2 q3
          have hz : z = x := by
            rcases List.mem_cons.1 cz with q | q
            · exact q
            · have := (sep_lt hsep.2.2 z q).1; unfold pEnd at this; omega
          subst hz
          omega
      · rw [if_neg h00]
        have hnf : from_ ≤ pos → to - g ≤ 100 → g ≤ to → False := fun q1 q2 q3 => by
          obtain ⟨l1, l2⟩ := hlo q1 q2 q3
          rcases List.mem_cons.1 cz with q | q
          · subst q; omega
          · have := (sep_lt hsep.2.2 z q).1; unfold pEnd at this; omega
        by_cases h8 : l.length < 8
        · rw [if_pos h8]
          dsimp only
          rw [e1, hpos]
          exact ⟨⟨hdata, by omega, hall, hken, by omega, rfl, by rw [e3]; exact hd0⟩, fun q1 q2 q3 => (hnf q1 q2 q3).elim⟩
        · rw [if_neg h8]
          dsimp only
          rw [e1, e2, hpos]
          exact ⟨⟨hdata, by omega, by have := h.ps; rw [hpos] at this; exact this, hken, by omega, rfl, by rw [e3]; exact hd0⟩, fun q1 q2 q3 => (hnf q1 q2 q3).elim⟩
end Go.Proofs.Ytmohmcgcggenfaa
