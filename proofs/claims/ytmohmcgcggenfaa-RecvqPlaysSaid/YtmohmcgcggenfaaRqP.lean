/- The receiver's queue, told behind the number that it awaits: what its functions compute, no program. -/
import Derived.Test.YtmohmcgcggenfaaCode
namespace Go.Proofs.Ytmohmcgcggenfaa
open Go.RowKit
set_option linter.unusedVariables false
def sAdd (a n : Int) : Int := (a + n) % 4294967296
def sDiff (a b : Int) : Int := (a - b + 2147483648) % 4294967296 - 2147483648
theorem sAdd_bd (a n : Int) : 0 ≤ sAdd a n ∧ sAdd a n ≤ 4294967295 := by unfold sAdd; omega
theorem sDiff_bd (a b : Int) : -2147483648 ≤ sDiff a b ∧ sDiff a b ≤ 2147483647 := by unfold sDiff; omega
theorem sDiff_add (b x y : Int) (h : -2147483648 ≤ x - y ∧ x - y ≤ 2147483647) : sDiff (sAdd b x) (sAdd b y) = x - y := by unfold sDiff sAdd; omega
theorem sDiff_self (b x : Int) (hb : 0 ≤ b ∧ b ≤ 4294967295) (h : -2147483648 ≤ x ∧ x ≤ 2147483647) : sDiff (sAdd b x) b = x := by unfold sDiff sAdd; omega
theorem sAdd_add (b x y : Int) : sAdd (sAdd b x) y = sAdd b (x + y) := by unfold sAdd; omega
theorem sAdd_diff (a b : Int) (ha : 0 ≤ a ∧ a ≤ 4294967295) : sAdd b (sDiff a b) = a := by unfold sDiff sAdd; omega
theorem sAdd_zero (b : Int) (hb : 0 ≤ b ∧ b ≤ 4294967295) : sAdd b 0 = b := by unfold sAdd; omega
theorem sAdd_inj (b x y : Int) (h : -2147483648 ≤ x - y ∧ x - y ≤ 2147483647) (e : sAdd b x = sAdd b y) : x = y := by unfold sAdd at e; omega
/-- A piece: so far behind; its bytes. -/
abbrev Pc := Nat × List UInt8
def pEnd (p : Pc) : Nat := p.1 + p.2.length
def bothN (x p : Pc) : Nat := max (pEnd x) (pEnd p) - min x.1 p.1
def bothD (x p : Pc) : List UInt8 := (List.range (bothN x p)).map fun j => if x.1 ≤ min x.1 p.1 + j ∧ min x.1 p.1 + j < pEnd x then x.2.getD (min x.1 p.1 + j - x.1) 0 else if p.1 ≤ min x.1 p.1 + j ∧ min x.1 p.1 + j < pEnd p then p.2.getD (min x.1 p.1 + j - p.1) 0 else 0
def both (x p : Pc) : Pc := (min x.1 p.1, bothD x p)
theorem both_end (x p : Pc) : pEnd (both x p) = max (pEnd x) (pEnd p) := by
  unfold pEnd both; simp [bothD, bothN]; unfold pEnd; omega
def layGo : List Pc → Pc → List Pc
  | [], p => [p]
  | x :: l, p => if pEnd x < p.1 then x :: layGo l p else if pEnd p < x.1 then p :: layGo l x else layGo l (both x p)
def Sep : Int → List Pc → Prop
  | _, [] => True
  | a, p :: l => a < p.1 ∧ 0 < p.2.length ∧ Sep (pEnd p) l
theorem Sep.mono {a b : Int} (h : b ≤ a) : ∀ {l : List Pc}, Sep a l → Sep b l
  | [], _ => trivial
  | p :: l, hs => ⟨by have := hs.1; omega, hs.2⟩
theorem both_len (x p : Pc) (h : 0 < x.2.length) : 0 < (both x p).2.length := by
  simp [both, bothD, bothN]; unfold pEnd; omega
theorem layGo_sep : ∀ {l : List Pc} {a : Int} {p : Pc}, Sep a l → a < p.1 → 0 < p.2.length → Sep a (layGo l p)
  | [], a, p, _, h1, h2 => ⟨h1, h2, trivial⟩
  | x :: l, a, p, hs, h1, h2 => by
    obtain ⟨g1, g2, g3⟩ := hs
    unfold layGo
    split
    · exact ⟨g1, g2, layGo_sep g3 (by omega) h2⟩
    · split
      · exact ⟨h1, h2, layGo_sep (g3.mono (by unfold pEnd at *; omega)) (by omega) g2⟩
      · exact layGo_sep (g3.mono (by unfold pEnd; omega)) (by unfold both; dsimp only; omega) (both_len x p g2)
theorem layGo_len : ∀ (l : List Pc) (p : Pc), (layGo l p).length ≤ l.length + 1
  | [], p => Nat.le_refl _
  | x :: l, p => by
    unfold layGo
    have h1 := layGo_len l p; have h2 := layGo_len l x; have h3 := layGo_len l (both x p)
    split
    · simp; omega
    · split <;> simp <;> omega
theorem layGo_ne (l : List Pc) (p : Pc) : layGo l p ≠ [] := by
  induction l generalizing p with
  | nil => simp [layGo]
  | cons x l ih => unfold layGo; split; simp; split; simp; exact ih _
theorem layGo_bd {W : Nat} : ∀ {l : List Pc} {p : Pc}, (∀ x ∈ l, pEnd x ≤ W) → pEnd p ≤ W → ∀ x ∈ layGo l p, pEnd x ≤ W
  | [], p, _, h2, x, hx => by simp [layGo] at hx; rw [hx]; exact h2
  | y :: l, p, h1, h2, x, hx => by
    have hy := h1 y (List.mem_cons_self ..)
    have hl : ∀ x ∈ l, pEnd x ≤ W := fun x hx => h1 x (List.mem_cons_of_mem _ hx)
    unfold layGo at hx
    split at hx
    · rcases List.mem_cons.1 hx with rfl | hx
      · exact hy
      · exact layGo_bd hl h2 x hx
    · split at hx
      · rcases List.mem_cons.1 hx with rfl | hx
        · exact h2
        · exact layGo_bd hl hy x hx
      · exact layGo_bd hl (by rw [both_end]; omega) x hx
/-- The queue: bytes in order, pieces ahead, whether the end is known, how far behind, whether all came. -/
structure RS where
  data : List UInt8
  ps : List Pc
  kn : Bool
  en : Int
  dn : Bool
def lastEnd (l : List Pc) : Nat := l.foldl (fun _ p => pEnd p) 0
structure RS.Ok (s : RS) : Prop where
  d : s.data.length ≤ 256
  sep : Sep 0 s.ps
  bd : ∀ x ∈ s.ps, pEnd x ≤ 256 - s.data.length
  len : s.ps.length ≤ 8
  kn : s.kn = true → s.dn = false → 0 < s.en ∧ s.en ≤ 256 - (s.data.length : Int) ∧ ∀ x ∈ s.ps, (pEnd x : Int) ≤ s.en
  dn : s.dn = true → s.kn = true ∧ s.ps = [] ∧ s.en = -1
def shift (k : Nat) (l : List Pc) : List Pc := l.map fun p => (p.1 - k, p.2)
/-- A piece is laid: what becomes of the queue, how many numbers further the one awaited is. -/
def RS.lay (s : RS) (p : Pc) : RS × Nat :=
  match layGo s.ps p with
  | [] => (s, 0)
  | x :: l => if x.1 = 0 then ({ s with data := s.data ++ x.2, ps := shift x.2.length l, en := s.en - x.2.length }, x.2.length) else if l.length < 8 then ({ s with ps := x :: l }, 0) else (s, 0)
def RS.beyond (s : RS) (e : Int) : Bool := s.ps.any fun x => decide (e < pEnd x)
/-- e: where the piece ends. -/
def RS.know (s : RS) (e : Int) (fin : Bool) : RS := if fin && !s.kn && decide (0 ≤ e) && decide (e ≤ 256 - (s.data.length : Int)) && !s.beyond e then { s with kn := true, en := e } else s
def RS.last (s : RS) (d : Int) (n : Nat) : Int := if s.kn then min (min (d + n) (256 - (s.data.length : Int))) s.en else min (d + n) (256 - (s.data.length : Int))
def RS.put (s : RS) (d : Int) (ds : List UInt8) : RS × Nat := if max d 0 < s.last d ds.length then s.lay ((max d 0).toNat, (ds.drop (max d 0 - d).toNat).take (s.last d ds.length - max d 0).toNat) else (s, 0)
def RS.fin (r : RS × Nat) : RS × Nat := if r.1.kn && decide (r.1.en = 0) then ({ r.1 with dn := true, en := -1 }, r.2 + 1) else r
/-- A piece comes. -/
def RS.acc (s : RS) (d : Int) (ds : List UInt8) (fin : Bool) : RS × Nat := if s.dn then (s, 0) else RS.fin ((s.know (sDiff (sAdd 0 (d + ds.length)) 0) fin).put d ds)
end Go.Proofs.Ytmohmcgcggenfaa
