/- RecvqPlays, plain: the document's receiver does what the queue does. -/
import Derived.Test.YtmohmcgcggenfaaRp1
namespace Go.Proofs.Ytmohmcgcggenfaa
open Go.RowKit
set_option linter.unusedVariables false
set_option linter.unusedSimpArgs false
def enOf (s : RS) : Int := if s.kn then (if s.dn then 0 else s.en) else -1
def xOf (p : Int) (s : RS) : XS := ⟨p, s.data, gotOf s.ps, enOf s, s.dn⟩
theorem enOf_1 {s : RS} (h : s.Ok1) : enOf s = if s.kn = true then s.en else -1 := by
  unfold enOf; rw [h.dn]; rfl
theorem xOf_ok {s : RS} (h : s.Ok) (p : Int) (hp : 0 ≤ p ∧ p ≤ 4294967295) : (xOf p s).Ok := by
  refine ⟨hp, h.d, gotOf_by _, gotOf_len _, ?_⟩
  unfold xOf enOf
  dsimp only
  cases hk : s.kn
  · simp
  · cases hd : s.dn
    · have := h.kn hk hd; simp; omega
    · simp
theorem beyond_any {l : List Pc} (hs : Sep 0 l) (hb : ∀ x ∈ l, pEnd x ≤ 256) (e : Int) (he : 0 ≤ e) : ((gotOf l).drop e.toNat).any (fun z => decide (0 ≤ z)) = l.any fun x => decide (e < pEnd x) := by
  have hg := gotOf_len l
  rw [Bool.eq_iff_iff, List.any_eq_true, List.any_eq_true]
  constructor
  · rintro ⟨z, hz, h0⟩
    obtain ⟨j, hj, rfl⟩ := List.mem_drop_iff_getElem.1 hz
    rw [gotOf_at] at h0
    obtain ⟨x, hx, h1, h2⟩ := byteAt_any (by simpa using h0)
    exact ⟨x, hx, by simp; omega⟩
  · rintro ⟨x, hx, h⟩
    have h1 := hb x hx
    have h2 := (sep_lt hs x hx).2
    have h3 : e < pEnd x := by simpa using h
    have h4 : pEnd x = x.1 + x.2.length := rfl
    have h5 := byteAt_some (i := pEnd x - 1) hx (by omega)
    refine ⟨(gotOf l)[e.toNat + (pEnd x - 1 - e.toNat)]'(by omega), List.mem_drop_iff_getElem.2 ⟨pEnd x - 1 - e.toNat, by omega, rfl⟩, ?_⟩
    rw [gotOf_at, show e.toNat + (pEnd x - 1 - e.toNat) = pEnd x - 1 by omega]
    simpa using h5
theorem know_rel {s : RS} (h : s.Ok1) (d : Int) (hd : -2147483648 ≤ d ∧ d ≤ 2147483647) (n : Nat) (hn : n ≤ 400) (fin : Bool) :
    refE (gotOf s.ps) (256 - (s.data.length : Int)) (enOf s) (d + n) fin = enOf (s.know (sDiff (sAdd 0 (d + n)) 0) fin) := by
  have hd0 := h.d
  have hb : ∀ x ∈ s.ps, pEnd x ≤ 256 := fun x hx => by have := h.bd x hx; omega
  have he := enOf_1 h
  have hkn := h.kn
  have hE : enOf s < 0 ↔ s.kn = false := by
    rw [he]
    cases hk : s.kn
    · simp
    · have := hkn hk; simp; omega
  have hdif : sDiff (sAdd 0 (d + n)) 0 = d + n ∨ (sDiff (sAdd 0 (d + n)) 0 < 0 ∧ 2147483647 < d + n) := by unfold sDiff sAdd; omega
  have hdn := h.dn
  generalize sDiff (sAdd 0 (d + n)) 0 = e' at hdif ⊢
  generalize d + (n : Int) = e at hdif ⊢
  by_cases hc : fin = true ∧ s.kn = false ∧ 0 ≤ e ∧ e ≤ 256 - (s.data.length : Int)
  · obtain ⟨c1, c2, c3, c4⟩ := hc
    obtain rfl : e' = e := by omega
    have hba := beyond_any h.sep hb e' c3
    unfold refE RS.know RS.beyond
    rw [hba]
    by_cases hby : (s.ps.any fun x => decide (e' < pEnd x)) = true
    · rw [hby, if_neg (by simp), if_neg (by simp)]
    · have hby : (s.ps.any fun x => decide (e' < pEnd x)) = false := by simpa using hby
      rw [hby, if_pos (by simp [c1, c3, c4, hE, c2]), if_pos (by simp [c1, c2, c3, c4])]
      unfold enOf
      dsimp only
      rw [hdn]; rfl
  · unfold refE RS.know
    rw [if_neg, if_neg]
    · intro q
      simp only [Bool.and_eq_true, decide_eq_true_eq, Bool.not_eq_true'] at q
      obtain ⟨⟨⟨⟨q1, q2⟩, q3⟩, q4⟩, q5⟩ := q
      exact hc ⟨q1, q2, by omega, by omega⟩
    · rintro ⟨q, _⟩
      simp only [Bool.and_eq_true, decide_eq_true_eq] at q
      obtain ⟨⟨⟨q1, q2⟩, q3⟩, q4⟩ := q
      exact hc ⟨q1, hE.1 q2, q3, q4⟩
/-- Which numbers a piece's bytes are asked for. -/
theorem last_iff {s : RS} (h : s.Ok1) (d : Int) (n : Nat) (i : Nat) : (d ≤ i ∧ (i : Int) < d + n ∧ (i : Int) < 256 - (s.data.length : Int) ∧ (enOf s < 0 ∨ (i : Int) < enOf s)) ↔ (max d 0 ≤ i ∧ (i : Int) < s.last d n) := by
  rw [enOf_1 h]
  unfold RS.last
  cases hk : s.kn
  · simp; omega
  · have := h.kn hk
    simp only [if_true]
    omega
theorem refG_at (got : List Int) (d e W E : Int) (ds : List UInt8) (i : Nat) (h : i < (refG got d e W E ds).length) : (refG got d e W E ds)[i] = refC (got.getD i 0) i d e W E ds := by simp [refG]
theorem refG_same {s : RS} (h : s.Ok1) (d : Int) (ds : List UInt8) (hlt : ¬ max d 0 < s.last d ds.length) :
    refG (gotOf s.ps) d (d + ds.length) (256 - (s.data.length : Int)) (enOf s) ds = gotOf s.ps := by
  apply List.ext_getElem
  · rw [refG_len, gotOf_len]
  · intro i h1 h2
    rw [refG_at, getD_lt _ _ h2]
    unfold refC
    rw [if_neg]
    rintro ⟨q1, q2⟩
    have := (last_iff h d ds.length i).1 q2
    omega
theorem refG_put {s : RS} (h : s.Ok1) (d : Int) (ds : List UInt8) (hlt : max d 0 < s.last d ds.length) :
    refG (gotOf s.ps) d (d + ds.length) (256 - (s.data.length : Int)) (enOf s) ds = gotOf (layGo s.ps ((max d 0).toNat, (ds.drop (max d 0 - d).toNat).take (s.last d ds.length - max d 0).toNat)) := by
  obtain ⟨-, hl, h3, h4⟩ := put_piece d ds hlt
  apply List.ext_getElem
  · rw [refG_len, gotOf_len]
  · intro i h1 h2
    rw [gotOf_len] at h2
    rw [refG_at, getD_lt _ _ (by rw [gotOf_len]; exact h2), gotOf_at, gotOf_at, layGo_at s.ps 0 _ h.sep (by dsimp only; omega)]
    have hli := last_iff h d ds.length i
    by_cases hc : byteAt s.ps i < 0
    · rw [if_pos hc]
      by_cases hq : max d 0 ≤ i ∧ (i : Int) < s.last d ds.length
      · obtain ⟨q1, q2, q3, q4⟩ := hli.2 hq
        unfold refC
        rw [if_pos ⟨hc, q1, q2, q3, q4⟩, byteAt_in (by unfold pEnd; dsimp only; omega)]
        dsimp only
        congr 2
        rw [List.getD_eq_getElem?_getD, List.getD_eq_getElem?_getD, List.getElem?_take_of_lt (by omega), List.getElem?_drop]
        congr 2
        omega
      · unfold refC
        rw [if_neg (fun q => hq (hli.1 q.2)), byteAt_out (by unfold pEnd; dsimp only; omega)]
        exact byteAt_neg hc
    · rw [if_neg hc]
      unfold refC
      rw [if_neg (fun q => hc q.1)]
theorem lay_same {s : RS} (h : s.Ok1) (p : Int) (hp : 0 ≤ p ∧ p ≤ 4294967295) : (xOf p s).lay (enOf s) (gotOf s.ps) = xOf p s := by
  have hb : ∀ x ∈ s.ps, pEnd x ≤ 256 := fun x hx => by have := h.bd x hx; omega
  have hr := runs_gotOf h.sep hb
  have hl := h.len
  unfold XS.lay
  rw [front_none h.sep, if_pos (.inr (by omega))]
  simp [xOf, sAdd_zero p hp]
theorem lay_rel {s : RS} (h : s.Ok1) (p : Int) (hp : 0 ≤ p ∧ p ≤ 4294967295) (q : Pc) (hl : 0 < q.2.length) (hb : pEnd q ≤ 256 - s.data.length) :
    (xOf p s).lay (enOf s) (gotOf (layGo s.ps q)) = xOf (sAdd p (s.lay q).2) (s.lay q).1 := by
  have hs := layGo_sep (a := -1) (h.sep.mono (by omega)) (show (-1 : Int) < q.1 by omega) hl
  have hbd := layGo_bd h.bd hb
  have hne := layGo_ne s.ps q
  have he := enOf_1 h
  have hkn := h.kn
  unfold RS.lay
  revert hs hbd hne
  generalize layGo s.ps q = L
  intro hs hbd hne
  cases L with
  | nil => exact absurd rfl hne
  | cons x l =>
    obtain ⟨s1, s2, s3⟩ := hs
    have hbx := hbd x (List.mem_cons_self ..)
    have hbl : ∀ y ∈ l, pEnd y ≤ 256 := fun y hy => by have := hbd y (List.mem_cons_of_mem _ hy); omega
    dsimp only
    by_cases h0 : x.1 = 0
    · rw [if_pos h0]
      have hF := front_some h0 s3 (by omega)
      have hG := gotOf_shift h0 s3 (by omega) hbl
      unfold XS.lay
      rw [hF, if_pos (.inl (fun e => by rw [e] at s2; exact absurd s2 (Nat.lt_irrefl 0))), hG]
      unfold xOf
      dsimp only
      congr 1
      rw [he]
      unfold enOf
      dsimp only
      rw [h.dn]
      cases hk : s.kn
      · simp
      · have := hkn hk; simp; omega
    · rw [if_neg h0]
      have hs0 : Sep 0 (x :: l) := ⟨by omega, s2, s3⟩
      have hr := runs_gotOf hs0 fun y hy => by have := hbd y hy; omega
      simp only [List.length_cons] at hr
      unfold XS.lay
      rw [front_none hs0]
      by_cases h8 : l.length < 8
      · rw [if_pos h8, if_pos (.inr (by omega))]
        simp only [xOf, enOf, List.length_nil, List.append_nil, List.drop_zero, List.replicate_zero]
        simp [sAdd_zero p hp]
      · rw [if_neg h8, if_neg (by rintro (h | h); exact h rfl; omega)]
        simp [xOf, sAdd_zero p hp]
theorem fin_rel {r : RS × Nat} (h : r.1.Ok1) (p : Int) : (xOf (sAdd p r.2) r.1).fin = xOf (sAdd p (RS.fin r).2) (RS.fin r).1 := by
  have he := enOf_1 h
  unfold XS.fin RS.fin
  by_cases hc : r.1.kn = true ∧ r.1.en = 0
  · have e0 : enOf r.1 = 0 := by rw [he, if_pos hc.1, hc.2]
    rw [if_pos (show (xOf (sAdd p r.2) r.1).en = 0 from e0), if_pos (by simp [hc.1, hc.2])]
    unfold xOf enOf
    simp only [sAdd_add]
    rw [hc.1]
    simp [hc.2, h.dn]
  · have e0 : ¬ enOf r.1 = 0 := by
      rw [he]
      cases hk : r.1.kn
      · simp
      · simp; exact fun q => hc ⟨hk, q⟩
    rw [if_neg (show ¬ (xOf (sAdd p r.2) r.1).en = 0 from e0), if_neg (by simpa using fun a b => hc ⟨a, b⟩)]
theorem acc_rel {s : RS} (h : s.Ok) (p : Int) (hp : 0 ≤ p ∧ p ≤ 4294967295) (d : Int) (hd : -2147483648 ≤ d ∧ d ≤ 2147483647) (ds : List UInt8) (hds : ds.length ≤ 400) (fin : Bool) :
    (xOf p s).acc d ds fin = xOf (sAdd p (s.acc d ds fin).2) (s.acc d ds fin).1 := by
  unfold RS.acc XS.acc
  cases hdn : s.dn
  · rw [if_neg (show ¬ (xOf p s).dn = true by unfold xOf; simp [hdn]), if_neg Bool.false_ne_true]
    have h1 := h.ok1 hdn
    have hkr := know_rel h1 d hd ds.length hds fin
    obtain ⟨e1, e2, e3⟩ := know_same s (sDiff (sAdd 0 (d + ds.length)) 0) fin
    have h2 := know_ok h1 (sDiff (sAdd 0 (d + ds.length)) 0) fin
    generalize s.know (sDiff (sAdd 0 (d + ds.length)) 0) fin = t at *
    have ex : ∀ E G, (xOf p s).lay E G = (xOf p t).lay E G := fun E G => by unfold XS.lay xOf; dsimp only; rw [e1, e2, e3]
    rw [show (xOf p s).got = gotOf s.ps from rfl, show (xOf p s).data = s.data from rfl, show (xOf p s).en = enOf s from rfl, hkr, ex, ← e1, ← e2]
    have hpo := put_ok h2 d ds
    by_cases hlt : max d 0 < t.last d ds.length
    · obtain ⟨-, hl, h3, h4⟩ := put_piece d ds hlt
      rw [refG_put h2 d ds hlt]
      have hput : t.put d ds = t.lay ((max d 0).toNat, (ds.drop (max d 0 - d).toNat).take (t.last d ds.length - max d 0).toNat) := by unfold RS.put; rw [if_pos hlt]
      rw [lay_rel h2 p hp _ (by dsimp only; omega) (by unfold pEnd; dsimp only; omega), ← hput, fin_rel hpo.1]
    · have hput : t.put d ds = (t, 0) := by unfold RS.put; rw [if_neg hlt]
      rw [refG_same h2 d ds hlt, lay_same h2 p hp, hput, ← fin_rel (r := (t, 0)) h2]
      dsimp only
      rw [show ((0 : Nat) : Int) = 0 from rfl, sAdd_zero p hp]
  · rw [if_pos (show (xOf p s).dn = true from hdn), if_pos rfl]
    dsimp only
    rw [show ((0 : Nat) : Int) = 0 from rfl, sAdd_zero p hp]
end Go.Proofs.Ytmohmcgcggenfaa
