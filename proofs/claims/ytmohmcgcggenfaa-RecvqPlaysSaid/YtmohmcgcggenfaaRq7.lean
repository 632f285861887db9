/- What recvq's functions compute: Accept and Read, told of the record. -/
import Derived.Test.YtmohmcgcggenfaaRq6
namespace Go.Proofs.Ytmohmcgcggenfaa
open Go.RowKit
set_option linter.unusedVariables false
set_option linter.unusedSimpArgs false
theorem put_same {s : RS} (h : s.Ok1) (d : Int) (ds : List UInt8) : (s.put d ds).1.kn = s.kn ∧ (s.put d ds).1.dn = s.dn ∧ (s.put d ds).1.en = s.en - (s.put d ds).2 := by
  unfold RS.put
  split
  · rename_i hlt
    obtain ⟨_, hpl, h1, h2, h3⟩ := put_piece d ds hlt
    obtain ⟨_, g⟩ := layQ_eq 0 (by decide) h ((max d 0).toNat, (ds.drop (max d 0 - d).toNat).take (s.last d ds.length - max d 0).toNat) (by dsimp only; rw [hpl]; omega) 0
    exact g
  · exact ⟨rfl, rfl, by dsimp only; omega⟩
theorem accept_ok (b : Int) (hb : 0 ≤ b ∧ b ≤ 4294967295) (s : RS) (h : s.Ok) (at_ : Int) (hat : 0 ≤ at_ ∧ at_ ≤ 4294967295) (ds : List UInt8) (hds : ds.length ≤ 400) (fin : Bool) :
    ACall Try.prog 12 [rq true b s, .int .u32 at_, .sl true 1 (ds.map by8), .bool fin] (rq false (sAdd b (s.acc (sDiff at_ b) ds fin).2) (s.acc (sDiff at_ b) ds fin).1) [] := by
  cases hdn : s.dn
  rotate_left
  · have e : s.acc (sDiff at_ b) ds fin = (s, 0) := by unfold RS.acc; rw [if_pos hdn]
    rw [e]
    dsimp only
    rw [Int.natCast_zero, sAdd_zero b hb]
    exact accept_done b hb s h hdn at_ ds fin
  have h0 := h.ok1 hdn
  obtain ⟨d, hd⟩ : ∃ d, sDiff at_ b = d := ⟨_, rfl⟩
  have hdb := sDiff_bd at_ b
  obtain ⟨E, hE⟩ : ∃ E, sDiff (sAdd 0 (d + ds.length)) 0 = E := ⟨_, rfl⟩
  have hEE : sDiff (sAdd at_ ds.length) b = E := by rw [end_eq, hd, hE]
  have h1 := know_ok h0 E fin
  obtain ⟨e1, e2, e3⟩ := know_same s E fin
  obtain ⟨p1, p2⟩ := put_ok h1 d ds
  obtain ⟨f1, f2⟩ := fin_ok p1 p2
  obtain ⟨g1, g2, g3⟩ := put_same h1 d ds
  have hacc : s.acc d ds fin = RS.fin ((s.know E fin).put d ds) := by unfold RS.acc; rw [if_neg (by rw [hdn]; decide), hE]
  have hg : ∀ p ∈ s.ps, p.2.length ≤ 1000 := fun p hp => by have := h.bd p hp; unfold pEnd at this; omega
  have hpd : max d 0 < (s.know E fin).last d ds.length → (((ds.drop (max d 0 - d).toNat).take ((s.know E fin).last d ds.length - max d 0).toNat).length = ((s.know E fin).last d ds.length - max d 0).toNat ∧ (s.know E fin).last d ds.length ≤ 256 - (s.data.length : Int) ∧ ((s.know E fin).kn = true → (s.know E fin).last d ds.length ≤ (s.know E fin).en) ∧ (s.know E fin).last d ds.length ≤ d + ds.length) := fun hlt => by
    obtain ⟨_, a2, a3, a4, a5⟩ := put_piece (s := s.know E fin) d ds hlt
    rw [e1] at a3
    exact ⟨a2, a3, a4, a5⟩
  have hput : max d 0 < (s.know E fin).last d ds.length → (s.know E fin).put d ds = (s.know E fin).lay ((max d 0).toNat, (ds.drop (max d 0 - d).toNat).take ((s.know E fin).last d ds.length - max d 0).toNat) := fun hlt => by unfold RS.put; rw [if_pos hlt]
  have hput0 : ¬ max d 0 < (s.know E fin).last d ds.length → (s.know E fin).put d ds = (s.know E fin, 0) := fun hlt => by unfold RS.put; rw [if_neg hlt]
  have hlb : (s.know E fin).last d ds.length ≤ d + ds.length := by unfold RS.last; split <;> omega
  have hlaW : (s.know E fin).last d ds.length = if (s.know E fin).kn then min (min (d + ds.length) (256 - (s.data.length : Int))) (s.know E fin).en else min (d + ds.length) (256 - (s.data.length : Int)) := by unfold RS.last; rw [e1]
  have hdb' : -2147483648 ≤ d ∧ d ≤ 2147483647 := by omega
  rw [hd, hacc]
  unfold rq
  rw [hdn]
  refine accept_walk b hb s.data h.d s.ps s.kn (s.ev b) hg h.len at_ ds hds fin (sAdd at_ ds.length) E (seqAdd_ok _ _) (by rw [← hEE]; exact seqDiff_ok _ _) (s.beyond E) (fun hr => ?_) (s.know E fin).kn ((s.know E fin).ev b) ?_ d hdb' (by rw [← hd]; exact seqDiff_ok _ _) (s.know E fin).en (fun hk => ?_) ((s.know E fin).last d ds.length) hlaW
    (sAdd b ((s.know E fin).put d ds).2) ((s.know E fin).put d ds).1.data ((s.know E fin).put d ds).1.ps (fun hn => ?_) (sAdd b (max d 0)) (seqAdd_ok _ _) ((ds.drop (max d 0 - d).toNat).take ((s.know E fin).last d ds.length - max d 0).toNat) (fun hlt => ?_) ?_ hlb (fun hlt => ?_) _ (sAdd (sAdd b ((s.know E fin).put d ds).2) 1) (seqAdd_ok _ _) ?_
  · have := beyond_ok b s.data s.ps b s.kn (s.ev b) false (by have := h.len; omega) hg (sAdd at_ ds.length)
    rw [beyond_eq b h0 E at_ ds.length hEE (by omega)] at this
    exact this
  · split
    · rename_i hc
      have hs : s.know E fin = { s with kn := true, en := E } := by unfold RS.know; rw [if_pos hc]
      rw [hs]
      refine ⟨rfl, ?_⟩
      show (if true = true then sAdd b E else 0) = _
      rw [if_pos rfl, ← hEE, sAdd_diff _ _ (sAdd_bd _ _)]
    · rename_i hc
      have hs : s.know E fin = s := by unfold RS.know; rw [if_neg hc]
      rw [hs]; exact ⟨rfl, rfl⟩
  · have hkk := h1.kn hk
    have := seqDiff_ok ((s.know E fin).ev b) b
    have e : (s.know E fin).ev b = sAdd b (s.know E fin).en := by unfold RS.ev; rw [if_pos hk]
    rw [e] at this ⊢
    rw [sDiff_self b _ hb (by omega)] at this
    exact this
  · rw [hput0 hn]
    exact ⟨by dsimp only; rw [Int.natCast_zero, sAdd_zero b hb], e1, e2⟩
  · have := hpd hlt
    rw [← List.map_take, ← List.map_drop]
    congr 1
    rw [show (max d 0 - d + (s.know E fin).last d ds.length - max d 0).toNat = (max d 0 - d).toNat + ((s.know E fin).last d ds.length - max d 0).toNat by omega, List.drop_take, Nat.add_sub_cancel_left]
  · rw [List.length_take, List.length_drop]; omega
  · obtain ⟨a2, a3, a4, a5⟩ := hpd hlt
    rw [hput hlt]
    obtain ⟨q1, _⟩ := layQ_eq b hb h1 ((max d 0).toNat, (ds.drop (max d 0 - d).toNat).take ((s.know E fin).last d ds.length - max d 0).toNat) (by dsimp only; rw [a2]; omega) ((s.know E fin).ev b)
    rw [e1, e2, e3, hdn] at q1
    rw [← q1]
    have hsf : sAdd b (max d 0) = sAdd b ((max d 0).toNat : Int) := by rw [Int.toNat_of_nonneg (by omega)]
    rw [hsf]
    exact lay_ok b hb s.data (by have := h.d; omega) s.ps (s.know E fin).kn ((s.know E fin).ev b) false ((max d 0).toNat, (ds.drop (max d 0 - d).toNat).take ((s.know E fin).last d ds.length - max d 0).toNat) h.len (fun x hx => by have := h.bd x hx; omega) (by unfold pEnd; dsimp only; rw [a2]; omega) h.sep (by dsimp only; rw [a2]; omega)
  · have hk2 := p2
    generalize hr : (s.know E fin).put d ds = r at *
    obtain ⟨s2, k2⟩ := r
    dsimp only at p1 p2 f1 f2 g1 g2 g3 ⊢
    rw [e3, hdn] at g2
    have hev : (s.know E fin).kn = true → (s.know E fin).ev b = sAdd b (s.know E fin).en := fun hk => by unfold RS.ev; rw [if_pos hk]
    by_cases hc : (s2.kn && decide (s2.en = 0)) = true
    · have hf : RS.fin (s2, k2) = ({ s2 with dn := true, en := -1 }, k2 + 1) := by unfold RS.fin; rw [if_pos hc]
      rw [hf] at f1 ⊢
      simp only [Bool.and_eq_true, decide_eq_true_eq] at hc
      obtain ⟨c1, c2⟩ := hc
      have hk : (s.know E fin).kn = true := by rw [← g1]; exact c1
      have hen : (s.know E fin).en = k2 := by omega
      rw [if_pos ⟨hk, by rw [hev hk, hen]⟩]
      have hps : s2.ps = [] := (f1.dn rfl).2.1
      dsimp only
      rw [hps, c1, hk, hev hk, hen, sAdd_add]
      unfold RS.ev qv
      dsimp only
      rw [if_pos rfl, sAdd_add]
      simp only [List.map_nil]
      rw [show ((k2 + 1 : Nat) : Int) = (k2 : Int) + 1 by omega, show (k2 : Int) + 1 + -1 = k2 by omega]
    · have hf : RS.fin (s2, k2) = (s2, k2) := by unfold RS.fin; rw [if_neg hc]
      rw [hf]
      have hne : ¬ ((s.know E fin).kn = true ∧ (s.know E fin).ev b = sAdd b k2) := fun ⟨hk, he⟩ => hc (by
        rw [hev hk] at he
        have hkk := h1.kn hk
        have := sAdd_inj b _ _ (by omega) he
        simp only [Bool.and_eq_true, decide_eq_true_eq]
        exact ⟨by rw [g1]; exact hk, by omega⟩)
      rw [if_neg hne]
      dsimp only
      rw [g1, g2]
      congr 1
      unfold RS.ev
      rw [g1]
      split
      · rw [sAdd_add, g3]; congr 1; omega
      · rfl
/-- Read. -/
def RS.kR (s : RS) (n : Int) : Nat := (max 0 (min n (s.data.length : Int))).toNat
def RS.read (s : RS) (k : Nat) : RS := { s with data := s.data.drop k }
theorem read_ok {s : RS} (h : s.Ok) (k : Nat) : (s.read k).Ok := by
  have hl : (s.data.drop k).length ≤ s.data.length := by simp
  refine ⟨?_, h.sep, fun x hx => ?_, h.len, fun h1 h2 => ?_, h.dn⟩
  · have := h.d; show (s.data.drop k).length ≤ 256; omega
  · have := h.bd x hx; show pEnd x ≤ 256 - (s.data.drop k).length; omega
  · obtain ⟨a1, a2, a3⟩ := h.kn h1 h2
    refine ⟨a1, ?_, a3⟩
    show s.en ≤ 256 - ((s.data.drop k).length : Int); omega
theorem readq_ok (b : Int) {s : RS} (h : s.Ok) (n : Int) : ACall Try.prog 11 [rq true b s, .int .i64 n] (.tup [rq false b (s.read (s.kR n)), .ref 0 1 0 (s.kR n)]) [⟨false, 1, (s.data.take (s.kR n)).map by8⟩] := by
  have hg : ∀ p ∈ s.ps, p.2.length ≤ 1000 := fun p hp => by have := h.bd p hp; unfold pEnd at this; omega
  exact qRead_ok b s.data s.ps b s.kn (s.ev b) s.dn (by have := h.d; omega) (by have := h.len; omega) hg n (s.kR n) (by unfold RS.kR; omega)
end Go.Proofs.Ytmohmcgcggenfaa
