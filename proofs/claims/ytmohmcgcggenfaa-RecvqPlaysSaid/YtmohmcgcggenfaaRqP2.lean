/- The receiver's queue stays right; no program. -/
import Derived.Test.YtmohmcgcggenfaaRqP
namespace Go.Proofs.Ytmohmcgcggenfaa
open Go.RowKit
set_option linter.unusedVariables false
/-- .. while a piece is under way: the end may be reached. -/
structure RS.Ok1 (s : RS) : Prop where
  d : s.data.length ≤ 256
  sep : Sep 0 s.ps
  bd : ∀ x ∈ s.ps, pEnd x ≤ 256 - s.data.length
  len : s.ps.length ≤ 8
  kn : s.kn = true → 0 ≤ s.en ∧ s.en ≤ 256 - (s.data.length : Int) ∧ ∀ x ∈ s.ps, (pEnd x : Int) ≤ s.en
  dn : s.dn = false
theorem RS.Ok.ok1 {s : RS} (h : s.Ok) (hd : s.dn = false) : s.Ok1 := ⟨h.d, h.sep, h.bd, h.len, fun hk => by have := h.kn hk hd; exact ⟨by omega, this.2.1, this.2.2⟩, hd⟩
theorem know_ok {s : RS} (h : s.Ok1) (e : Int) (fin : Bool) : (s.know e fin).Ok1 := by
  unfold RS.know
  split
  · rename_i hc
    simp only [Bool.and_eq_true, decide_eq_true_eq, Bool.not_eq_true', RS.beyond, List.any_eq_false] at hc
    obtain ⟨⟨⟨⟨_, _⟩, h1⟩, h2⟩, h3⟩ := hc
    exact ⟨h.d, h.sep, h.bd, h.len, fun _ => ⟨h1, h2, fun x hx => by
      have := h3 x hx
      dsimp only
      omega⟩, h.dn⟩
  · exact h
theorem know_same (s : RS) (e : Int) (fin : Bool) : (s.know e fin).data = s.data ∧ (s.know e fin).ps = s.ps ∧ (s.know e fin).dn = s.dn := by
  unfold RS.know; split <;> exact ⟨rfl, rfl, rfl⟩
theorem shift_sep {k : Nat} : ∀ {l : List Pc} {a : Int}, Sep a l → (k : Int) ≤ a → Sep (a - k) (shift k l)
  | [], _, _, _ => trivial
  | p :: l, a, h, hk => by
    obtain ⟨h1, h2, h3⟩ := h
    have hp : pEnd (p.1 - k, p.2) = pEnd p - k := by unfold pEnd; dsimp only; omega
    refine ⟨by dsimp only; omega, h2, ?_⟩
    have := shift_sep (k := k) h3 (by unfold pEnd; omega)
    show Sep (pEnd (p.1 - k, p.2) : Nat) (shift k l)
    rw [hp, show ((pEnd p - k : Nat) : Int) = (pEnd p : Int) - k by unfold pEnd; omega]
    exact this
theorem sep_lt {l : List Pc} : ∀ {a : Int}, Sep a l → ∀ x ∈ l, a < x.1 ∧ 0 < x.2.length := by
  induction l with
  | nil => intro a _ x hx; cases hx
  | cons y l ih =>
    intro a h x hx
    rcases List.mem_cons.1 hx with rfl | hx
    · exact ⟨h.1, h.2.1⟩
    · have g := ih h.2.2 x hx; have h1 := h.1; exact ⟨by have g1 := g.1; unfold pEnd at g1; omega, g.2⟩
theorem lay_ok1 {s : RS} (h : s.Ok1) (p : Pc) (hl : 0 < p.2.length) (hb : pEnd p ≤ 256 - s.data.length) (hk : s.kn = true → (pEnd p : Int) ≤ s.en) : (s.lay p).1.Ok1 ∧ (s.lay p).2 ≤ 256 := by
  have hs := layGo_sep (a := -1) (h.sep.mono (by omega)) (show (-1 : Int) < p.1 by omega) hl
  have hbd := layGo_bd h.bd hb
  have hen : s.kn = true → ∀ x ∈ layGo s.ps p, (pEnd x : Int) ≤ s.en := fun hk1 => by
    obtain ⟨k0, k1, k2⟩ := h.kn hk1
    have := layGo_bd (W := s.en.toNat) (l := s.ps) (p := p) (fun x hx => by have := k2 x hx; omega) (by have := hk hk1; omega)
    intro x hx; have := this x hx; omega
  unfold RS.lay
  cases hL : layGo s.ps p with
  | nil => exact ⟨h, Nat.zero_le _⟩
  | cons x l =>
    rw [hL] at hs hbd hen
    obtain ⟨g1, g2, g3⟩ := hs
    have hx := hbd x (List.mem_cons_self ..)
    have hd := h.d
    have hll := layGo_len s.ps p
    rw [hL] at hll
    have hlen := h.len
    dsimp only
    split
    · rename_i h0
      have hxE : pEnd x = x.2.length := by unfold pEnd; omega
      rw [hxE] at g3 hx
      have hsh := shift_sep (k := x.2.length) g3 (Int.le_refl _)
      rw [Int.sub_self] at hsh
      have hmem : ∀ y ∈ shift x.2.length l, ∃ z ∈ l, pEnd y = pEnd z - x.2.length ∧ x.2.length ≤ pEnd z := fun y hy => by
        unfold shift at hy
        obtain ⟨z, hz, rfl⟩ := List.mem_map.1 hy
        have := (sep_lt g3 z hz).1
        exact ⟨z, hz, by unfold pEnd; dsimp only; omega, by unfold pEnd; omega⟩
      refine ⟨⟨by simp; omega, hsh, fun y hy => ?_, by simp [shift]; simp at hll; omega, fun hk1 => ?_, h.dn⟩, by dsimp only; omega⟩
      · obtain ⟨z, hz, e1, e2⟩ := hmem y hy
        have := hbd z (List.mem_cons_of_mem _ hz)
        simp only [List.length_append]; omega
      · obtain ⟨k0, k1, k2⟩ := h.kn hk1
        have hex := hen hk1
        have := hex x (List.mem_cons_self ..)
        refine ⟨by dsimp only; omega, by simp only [List.length_append]; omega, fun y hy => ?_⟩
        obtain ⟨z, hz, e1, e2⟩ := hmem y hy
        have := hex z (List.mem_cons_of_mem _ hz)
        dsimp only; omega
    · rename_i h0
      split
      · rename_i h8
        exact ⟨⟨h.d, ⟨by omega, g2, g3⟩, hbd, by dsimp only; simp; omega, fun hk1 => ⟨(h.kn hk1).1, (h.kn hk1).2.1, hen hk1⟩, h.dn⟩, Nat.zero_le _⟩
      · exact ⟨h, Nat.zero_le _⟩
/-- The piece that is laid. -/
theorem put_piece {s : RS} (d : Int) (ds : List UInt8) (hlt : max d 0 < s.last d ds.length) :
    (ds.drop (max d 0 - d).toNat).take (s.last d ds.length - max d 0).toNat = (ds.drop (max d 0 - d).toNat).take (s.last d ds.length - max d 0).toNat ∧ ((ds.drop (max d 0 - d).toNat).take (s.last d ds.length - max d 0).toNat).length = (s.last d ds.length - max d 0).toNat ∧ s.last d ds.length ≤ 256 - (s.data.length : Int) ∧ (s.kn = true → s.last d ds.length ≤ s.en) ∧ s.last d ds.length ≤ d + ds.length := by
  have h1 : s.last d ds.length ≤ d + ds.length ∧ s.last d ds.length ≤ 256 - (s.data.length : Int) ∧ (s.kn = true → s.last d ds.length ≤ s.en) := by
    unfold RS.last
    split
    · rename_i hk; exact ⟨by omega, by omega, fun _ => by omega⟩
    · rename_i hk; exact ⟨by omega, by omega, fun e => absurd e hk⟩
  refine ⟨rfl, ?_, h1.2.1, h1.2.2, h1.1⟩
  rw [List.length_take, List.length_drop]; omega
theorem put_ok {s : RS} (h : s.Ok1) (d : Int) (ds : List UInt8) : (s.put d ds).1.Ok1 ∧ (s.put d ds).2 ≤ 256 := by
  unfold RS.put
  split
  · rename_i hlt
    obtain ⟨_, hpl, h1, h2, h3⟩ := put_piece d ds hlt
    refine lay_ok1 h _ (by dsimp only; rw [hpl]; omega) ?_ (fun hk => ?_)
    · unfold pEnd; dsimp only; rw [hpl]; omega
    · have := h2 hk
      unfold pEnd; dsimp only; rw [hpl]; omega
  · exact ⟨h, Nat.zero_le _⟩
theorem fin_ok {r : RS × Nat} (h : r.1.Ok1) (hk : r.2 ≤ 256) : (RS.fin r).1.Ok ∧ (RS.fin r).2 ≤ 257 := by
  unfold RS.fin
  split
  · rename_i hc
    simp only [Bool.and_eq_true, decide_eq_true_eq] at hc
    obtain ⟨_, _, k2⟩ := h.kn hc.1
    have hps : r.1.ps = [] := by
      cases hp : r.1.ps with
      | nil => rfl
      | cons x l =>
        have h1 := (sep_lt h.sep x (by rw [hp]; exact List.mem_cons_self ..)).1
        have h2 := k2 x (by rw [hp]; exact List.mem_cons_self ..)
        unfold pEnd at h2; omega
    exact ⟨⟨h.d, h.sep, h.bd, h.len, (fun _ e => by cases e), fun _ => ⟨hc.1, hps, rfl⟩⟩, by dsimp only; omega⟩
  · rename_i hc
    refine ⟨⟨h.d, h.sep, h.bd, h.len, fun hk1 _ => ?_, fun e => by rw [h.dn] at e; cases e⟩, by omega⟩
    obtain ⟨k0, k1, k2⟩ := h.kn hk1
    refine ⟨?_, k1, k2⟩
    rcases Int.lt_or_eq_of_le k0 with q | q
    · exact q
    · exact absurd (by simp [hk1, ← q]) hc
theorem acc_ok {s : RS} (h : s.Ok) (d : Int) (ds : List UInt8) (fin : Bool) : (s.acc d ds fin).1.Ok ∧ (s.acc d ds fin).2 ≤ 257 := by
  unfold RS.acc
  split
  · exact ⟨h, Nat.zero_le _⟩
  · rename_i hd
    have h1 := know_ok (h.ok1 (by simpa using hd)) (sDiff (sAdd 0 (d + ds.length)) 0) fin
    obtain ⟨g1, g2⟩ := put_ok h1 d ds
    exact fin_ok g1 g2
end Go.Proofs.Ytmohmcgcggenfaa
