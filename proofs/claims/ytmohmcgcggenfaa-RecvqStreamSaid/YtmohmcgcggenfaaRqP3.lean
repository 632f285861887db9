/- A piece that comes twice; no program. -/
import Derived.Test.YtmohmcgcggenfaaRqP2
namespace Go.Proofs.Ytmohmcgcggenfaa
open Go.RowKit
set_option linter.unusedVariables false
theorem layGo_cover : ∀ (l : List Pc) (p : Pc), (∀ y ∈ l, ∃ z ∈ layGo l p, z.1 ≤ y.1 ∧ pEnd y ≤ pEnd z) ∧ ∃ z ∈ layGo l p, z.1 ≤ p.1 ∧ pEnd p ≤ pEnd z
  | [], p => ⟨(fun y hy => by cases hy), ⟨p, by simp [layGo], Nat.le_refl _, Nat.le_refl _⟩⟩
  | x :: l, p => by
    have h1 := layGo_cover l p; have h2 := layGo_cover l x; have h3 := layGo_cover l (both x p)
    unfold layGo
    split
    · refine ⟨fun y hy => ?_, ?_⟩
      · rcases List.mem_cons.1 hy with rfl | hy
        · exact ⟨y, List.mem_cons_self .., Nat.le_refl _, Nat.le_refl _⟩
        · obtain ⟨z, hz, g⟩ := h1.1 y hy; exact ⟨z, List.mem_cons_of_mem _ hz, g⟩
      · obtain ⟨z, hz, g⟩ := h1.2; exact ⟨z, List.mem_cons_of_mem _ hz, g⟩
    · split
      · refine ⟨fun y hy => ?_, ⟨p, List.mem_cons_self .., Nat.le_refl _, Nat.le_refl _⟩⟩
        rcases List.mem_cons.1 hy with rfl | hy
        · obtain ⟨z, hz, g⟩ := h2.2; exact ⟨z, List.mem_cons_of_mem _ hz, g⟩
        · obtain ⟨z, hz, g⟩ := h2.1 y hy; exact ⟨z, List.mem_cons_of_mem _ hz, g⟩
      · obtain ⟨z, hz, g1, g2⟩ := h3.2
        have hb1 : (both x p).1 = min x.1 p.1 := rfl
        have hb2 := both_end x p
        refine ⟨fun y hy => ?_, ⟨z, hz, by omega, by omega⟩⟩
        rcases List.mem_cons.1 hy with rfl | hy
        · exact ⟨z, hz, by omega, by omega⟩
        · exact h3.1 y hy
theorem both_in (x p : Pc) (h1 : x.1 ≤ p.1) (h2 : pEnd p ≤ pEnd x) : both x p = x := by
  have hm : min x.1 p.1 = x.1 := by omega
  have hE : pEnd x = x.1 + x.2.length := rfl
  have hn : bothN x p = x.2.length := by unfold bothN; omega
  refine Prod.ext hm ?_
  show bothD x p = x.2
  unfold bothD
  rw [hn, hm]
  apply List.ext_getElem
  · simp
  · intro j g1 g2
    simp only [List.getElem_map, List.getElem_range]
    rw [if_pos (by omega), Nat.add_sub_cancel_left]
    simp [g2]
theorem lay_front : ∀ {l : List Pc} {x : Pc}, Sep (pEnd x) l → layGo l x = x :: l
  | [], x, _ => rfl
  | y :: l, x, h => by
    obtain ⟨h1, h2, h3⟩ := h
    unfold layGo
    have e1 : pEnd x = x.1 + x.2.length := rfl
    have e2 : pEnd y = y.1 + y.2.length := rfl
    rw [if_neg (by omega), if_pos (by omega), lay_front h3]
theorem covered_same : ∀ {l : List Pc} {a : Int} {p z : Pc}, Sep a l → z ∈ l → z.1 ≤ p.1 → pEnd p ≤ pEnd z → layGo l p = l
  | [], _, _, _, _, hz, _, _ => by cases hz
  | x :: l, a, p, z, h, hz, g1, g2 => by
    obtain ⟨h1, h2, h3⟩ := h
    have e1 : pEnd p = p.1 + p.2.length := rfl
    have e2 : pEnd z = z.1 + z.2.length := rfl
    unfold layGo
    rcases List.mem_cons.1 hz with rfl | hz
    · rw [if_neg (by omega), if_neg (by omega), both_in _ _ g1 g2]
      exact lay_front h3
    · have := (sep_lt h3 z hz).1
      rw [if_pos (by omega), covered_same h3 hz g1 g2]
theorem know_idem (s : RS) (e : Int) (fin : Bool) : (s.know e fin).know e fin = s.know e fin := by
  by_cases h : (fin && !s.kn && decide (0 ≤ e) && decide (e ≤ 256 - (s.data.length : Int)) && !s.beyond e) = true
  · have e1 : s.know e fin = { s with kn := true, en := e } := by unfold RS.know; rw [if_pos h]
    rw [e1]; unfold RS.know; rw [if_neg (by simp)]
  · have e1 : s.know e fin = s := by unfold RS.know; rw [if_neg h]
    rw [e1, e1]
theorem know_no {s : RS} {e : Int} {fin : Bool} (h : fin = true → s.kn = false → 0 ≤ e → e ≤ 256 - (s.data.length : Int) → s.beyond e = true) : s.know e fin = s := by
  unfold RS.know
  rw [if_neg]
  intro hc
  simp only [Bool.and_eq_true, decide_eq_true_eq, Bool.not_eq_true'] at hc
  obtain ⟨⟨⟨⟨c1, c2⟩, c3⟩, c4⟩, c5⟩ := hc
  rw [h c1 c2 c3 c4] at c5; cases c5
theorem know_inv {s : RS} {e : Int} {fin : Bool} (hf : fin = true) (hk : (s.know e fin).kn = false) (h0 : 0 ≤ e) (h1 : e ≤ 256 - (s.data.length : Int)) : s.know e fin = s ∧ s.beyond e = true := by
  have hs : ¬ (fin && !s.kn && decide (0 ≤ e) && decide (e ≤ 256 - (s.data.length : Int)) && !s.beyond e) = true := fun hc => by
    unfold RS.know at hk; rw [if_pos hc] at hk; cases hk
  have e1 : s.know e fin = s := by unfold RS.know; rw [if_neg hs]
  rw [e1] at hk
  refine ⟨e1, ?_⟩
  cases hb : s.beyond e
  · exact absurd (by simp [hf, hk, h0, h1, hb]) hs
  · rfl
theorem beyond_iff (s : RS) (e : Int) : s.beyond e = true ↔ ∃ x ∈ s.ps, e < (pEnd x : Int) := by
  unfold RS.beyond; rw [List.any_eq_true]; simp
/-- Twice is like once. -/
theorem acc_twice {s : RS} (h : s.Ok) (d : Int) (hd : -2147483648 ≤ d ∧ d ≤ 2147483647) (ds : List UInt8) (hds : ds.length ≤ 400) (fin : Bool) (d' : Int) (hd' : d' = sDiff (sAdd 0 (d - (s.acc d ds fin).2)) 0) :
    (s.acc d ds fin).1.acc d' ds fin = ((s.acc d ds fin).1, 0) := by
  cases hdn : (s.acc d ds fin).1.dn
  rotate_left
  · unfold RS.acc at hdn ⊢; rw [if_pos hdn]
  have hdn0 : s.dn = false := by
    cases hs : s.dn
    · rfl
    · unfold RS.acc at hdn; rw [if_pos hs] at hdn; exact hdn.symm.trans hs |>.symm ▸ rfl
  obtain ⟨E, hE⟩ : ∃ E, sDiff (sAdd 0 (d + ds.length)) 0 = E := ⟨_, rfl⟩
  have hacc : s.acc d ds fin = RS.fin ((s.know E fin).put d ds) := by unfold RS.acc; rw [if_neg (by rw [hdn0]; decide), hE]
  have h1 := know_ok (h.ok1 hdn0) E fin
  obtain ⟨e1, e2, e3⟩ := know_same s E fin
  obtain ⟨p1, p2⟩ := put_ok h1 d ds
  have hc : ¬ (((s.know E fin).put d ds).1.kn && decide (((s.know E fin).put d ds).1.en = 0)) = true := fun hc => by
    rw [hacc] at hdn; unfold RS.fin at hdn; rw [if_pos hc] at hdn; cases hdn
  have hf : s.acc d ds fin = (s.know E fin).put d ds := by rw [hacc]; unfold RS.fin; rw [if_neg hc]
  rw [hf] at hd' hdn ⊢
  -- what is to be shown: known stays, laid stays
  suffices hs : ((s.know E fin).put d ds).1.know (sDiff (sAdd 0 (d' + ds.length)) 0) fin = ((s.know E fin).put d ds).1 ∧ ((s.know E fin).put d ds).1.put d' ds = (((s.know E fin).put d ds).1, 0) by
    unfold RS.acc
    rw [if_neg (by rw [hdn]; decide), hs.1, hs.2]
    unfold RS.fin; rw [if_neg hc]
  have hsame : ∀ r : RS × Nat, (s.know E fin).put d ds = (s.know E fin, 0) → r = (s.know E fin).put d ds → r.1.know (sDiff (sAdd 0 (d' + ds.length)) 0) fin = r.1 ∧ r.1.put d' ds = (r.1, 0) := fun r hr hr2 => by
    rw [hr] at hr2 hd'
    subst hr2
    have : d' = d := by rw [hd']; unfold sDiff sAdd; omega
    rw [this, hE]
    exact ⟨know_idem s E fin, hr⟩
  by_cases hlt : max d 0 < (s.know E fin).last d ds.length
  rotate_left
  · exact hsame _ (by unfold RS.put; rw [if_neg hlt]) rfl
  obtain ⟨_, a2, a3, a4, a5⟩ := put_piece (s := s.know E fin) d ds hlt
  have hput : (s.know E fin).put d ds = (s.know E fin).lay ((max d 0).toNat, (ds.drop (max d 0 - d).toNat).take ((s.know E fin).last d ds.length - max d 0).toNat) := by unfold RS.put; rw [if_pos hlt]
  generalize hp : (((max d 0).toNat, (ds.drop (max d 0 - d).toNat).take ((s.know E fin).last d ds.length - max d 0).toNat) : Pc) = p at hput
  have hp1 : p.1 = (max d 0).toNat := by rw [← hp]
  have hp2 : p.2.length = ((s.know E fin).last d ds.length - max d 0).toNat := by rw [← hp]; exact a2
  have hpE : (pEnd p : Int) = (s.know E fin).last d ds.length := by unfold pEnd; omega
  obtain ⟨cv1, z, cz, cz1, cz2⟩ := layGo_cover (s.know E fin).ps p
  have hsep := layGo_sep (a := -1) (h1.sep.mono (by omega)) (show (-1 : Int) < p.1 by omega) (show 0 < p.2.length by omega)
  cases hL : layGo (s.know E fin).ps p with
  | nil => exact absurd hL (layGo_ne _ _)
  | cons x l =>
    rw [hL] at cv1 cz hsep
    by_cases h0 : x.1 = 0
    · have hlay : (s.know E fin).lay p = ({ s.know E fin with data := (s.know E fin).data ++ x.2, ps := shift x.2.length l, en := (s.know E fin).en - x.2.length }, x.2.length) := by
        unfold RS.lay; rw [hL]; dsimp only; rw [if_pos h0]
      rw [hput, hlay] at hd' hdn p1 ⊢
      dsimp only at hd' hdn p1 ⊢
      have hxE : pEnd x = x.2.length := by unfold pEnd; omega
      -- the piece lies in the front
      have hzx : z = x := by
        rcases List.mem_cons.1 cz with q | q
        · exact q
        · exfalso
          have g := (sep_lt hsep.2.2 z q).1
          -- p begins at the front: else x would be of the others
          have hps : ∀ y ∈ layGo (s.know E fin).ps p, ∃ w, (w ∈ (s.know E fin).ps ∨ w = p) ∧ w.1 = y.1 := by
            have key : ∀ (l : List Pc) (p : Pc), ∀ y ∈ layGo l p, ∃ w, (w ∈ l ∨ w = p) ∧ w.1 = y.1 := by
              intro l
              induction l with
              | nil => intro p y hy; simp [layGo] at hy; exact ⟨p, .inr rfl, by rw [hy]⟩
              | cons u l ih =>
                intro p y hy
                unfold layGo at hy
                split at hy
                · rcases List.mem_cons.1 hy with rfl | hy
                  · exact ⟨y, .inl (List.mem_cons_self ..), rfl⟩
                  · obtain ⟨w, hw, e⟩ := ih p y hy
                    exact ⟨w, hw.imp (List.mem_cons_of_mem _) id, e⟩
                · split at hy
                  · rcases List.mem_cons.1 hy with rfl | hy
                    · exact ⟨y, .inr rfl, rfl⟩
                    · obtain ⟨w, hw, e⟩ := ih u y hy
                      rcases hw with hw | rfl
                      · exact ⟨w, .inl (List.mem_cons_of_mem _ hw), e⟩
                      · exact ⟨w, .inl (List.mem_cons_self ..), e⟩
                  · obtain ⟨w, hw, e⟩ := ih (both u p) y hy
                    rcases hw with hw | rfl
                    · exact ⟨w, .inl (List.mem_cons_of_mem _ hw), e⟩
                    · have hb : (both u p).1 = min u.1 p.1 := rfl
                      rcases Nat.le_total u.1 p.1 with q | q
                      · exact ⟨u, .inl (List.mem_cons_self ..), by omega⟩
                      · exact ⟨p, .inr rfl, by omega⟩
            exact key _ _
          obtain ⟨w, hw, hwe⟩ := hps x (by rw [hL]; exact List.mem_cons_self ..)
          rcases hw with hw | rfl
          · have := (sep_lt h1.sep w hw).1; omega
          · unfold pEnd at g; omega
      subst hzx
      refine ⟨?_, ?_⟩
      · refine know_no fun c1 c2 c3 c4 => ?_
        dsimp only at c2 c4
        simp only [List.length_append] at c4
        have hEE : E = sDiff (sAdd 0 (d' + ds.length)) 0 + z.2.length := by
          rw [← hE, hd'] at *
          unfold sDiff sAdd at *
          omega
        obtain ⟨k1, k2⟩ := know_inv (s := s) (e := E) c1 c2 (by omega) (by rw [e1] at c4; omega)
        rw [beyond_iff] at k2 ⊢
        obtain ⟨y, hy, hyE⟩ := k2
        obtain ⟨w, hw, hw1, hw2⟩ := cv1 y (by rw [e2]; exact hy)
        rcases List.mem_cons.1 hw with rfl | hw
        · omega
        · refine ⟨(w.1 - z.2.length, w.2), List.mem_map.2 ⟨w, hw, rfl⟩, ?_⟩
          have := (sep_lt hsep.2.2 w hw).1
          unfold pEnd at *
          dsimp only
          omega
      · unfold RS.put
        rw [if_neg]
        have hd256 : d < 256 := by have := h1.d; omega
        have hd'' : d' = d - z.2.length ∨ 2147483000 ≤ d' := by
          have := h1.d
          have hz2 : z.2.length ≤ 256 := by
            have := p1.d; simp only [List.length_append] at this; omega
          rw [hd']; unfold sDiff sAdd; omega
        have hz3 : (s.know E fin).data.length + z.2.length ≤ 256 := by have := p1.d; simp only [List.length_append] at this; omega
        have hlast : (s.know E fin).last d ds.length = if (s.know E fin).kn then min (min (d + ds.length) (256 - ((s.know E fin).data.length : Int))) (s.know E fin).en else min (d + ds.length) (256 - ((s.know E fin).data.length : Int)) := rfl
        have hpz : (pEnd p : Int) ≤ z.2.length := by omega
        unfold RS.last
        dsimp only
        simp only [List.length_append]
        split
        · rename_i hk
          rw [if_pos hk] at hlast
          omega
        · rename_i hk
          rw [if_neg hk] at hlast
          omega
    · by_cases h8 : l.length < 8
      · have hlay : (s.know E fin).lay p = ({ s.know E fin with ps := x :: l }, 0) := by
          unfold RS.lay; rw [hL]; dsimp only; rw [if_neg h0, if_pos h8]
        rw [hput, hlay] at hd' hdn p1 ⊢
        dsimp only at hd' hdn p1 ⊢
        have hdd : d' = d := by rw [hd']; unfold sDiff sAdd; omega
        rw [hdd, hE]
        refine ⟨?_, ?_⟩
        · refine know_no fun c1 c2 c3 c4 => ?_
          dsimp only at c2 c4
          obtain ⟨k1, k2⟩ := know_inv (s := s) (e := E) c1 c2 c3 (by rw [e1] at c4; exact c4)
          rw [beyond_iff] at k2 ⊢
          obtain ⟨y, hy, hyE⟩ := k2
          obtain ⟨w, hw, hw1, hw2⟩ := cv1 y (by rw [e2]; exact hy)
          exact ⟨w, hw, by omega⟩
        · have hla : RS.last { s.know E fin with ps := x :: l } d ds.length = (s.know E fin).last d ds.length := rfl
          unfold RS.put
          rw [hla, if_pos hlt, hp]
          unfold RS.lay
          dsimp only
          rw [covered_same hsep cz cz1 cz2]
          dsimp only
          rw [if_neg h0, if_pos h8]
      · exact hsame _ (by rw [hput]; unfold RS.lay; rw [hL]; dsimp only; rw [if_neg h0, if_neg h8]) rfl
end Go.Proofs.Ytmohmcgcggenfaa
