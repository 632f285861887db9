/- Steps, by the kind of the operation. -/
import Derived.Test.YtiejnmbpejfpgaaAx27
namespace Go.Proofs.Ytiejnmbpejfpgaa
open Go.RowKit
set_option linter.unusedVariables false
set_option linter.unusedSimpArgs false

section
variable {P : Program} {N : Nat} {l : List AO} {y : List ACode} {Q : AX → AS → Prop} {tm : List (Nat × AV)} {bx : List (Option (List AV))} {rw : List (Option ARow)} {nb nr : Nat} {need : List (List Nat)} {hs : List HE}
theorem RG.stv {t : Nat} {ai : AI} {v : AV} (h : ST tm bx rw nb nr ai v 0 0 []) (k : RG P N l y ⟨(t, v) :: tm, bx, rw, nb, nr⟩ Q) : RG P N (⟨some t, ai, none⟩ :: l) y ⟨tm, bx, rw, nb, nr⟩ Q :=
  RG.u h.nc h.eq h.ok rfl k
theorem DG.stv {t : Nat} {ai : AI} {v : AV} {nd : List Nat} (h : ST tm bx rw nb nr ai v 0 0 [])
    (hfr : frees hs ⟨⟨some t, ai, none⟩, ⟨gT tm, gO bx, gO rw⟩, ⟨(aistep false (lookT (gT tm)) (gO bx) (gO rw) nb nr ai).ok, v, 0, 0, []⟩, nb, nr⟩ nd)
    (k : DG P N l need (hs ++ [⟨⟨some t, ai, none⟩, ⟨gT tm, gO bx, gO rw⟩, ⟨(aistep false (lookT (gT tm)) (gO bx) (gO rw) nb nr ai).ok, v, 0, 0, []⟩, nb, nr⟩]) y ⟨(t, v) :: tm, bx, rw, nb, nr⟩ Q) : DG P N (⟨some t, ai, none⟩ :: l) (nd :: need) hs y ⟨tm, bx, rw, nb, nr⟩ Q :=
  DG.u h.nc h.eq h.ok rfl hfr k
/-- A step under a guard. -/
structure SG (tm : List (Nat × AV)) (bx : List (Option (List AV))) (rw : List (Option ARow)) (nb nr : Nat) (G : Bool) (ai : AI) (v : AV) : Prop where
  nc : isCall ai = false
  ok : G = true → (aistep false (lookT (gT tm)) (gO bx) (gO rw) nb nr ai).ok
  av : (aistep false (lookT (gT tm)) (gO bx) (gO rw) nb nr ai).av = v
  b : (aistep false (lookT (gT tm)) (gO bx) (gO rw) nb nr ai).nb = 0
  r : (aistep false (lookT (gT tm)) (gO bx) (gO rw) nb nr ai).nr = 0
  u : (aistep false (lookT (gT tm)) (gO bx) (gO rw) nb nr ai).up = []
theorem SG.ldr {G g fr : Bool} {n b k i off : Nat} {a : Opd} {ua : AV} {es : List AV} {x v : AV} {c : Prop} (ha : lookT (gT tm) a = ua) (hu : ua.val = .rptr b k i off) (hr : gO rw b = some ⟨fr, k, es⟩) (hi : G = true → ua.cond ∧ i < es.length) (hx : es[i]?.getD .any = x) (h : loadC g n (x.cells.drop off) = ⟨c, v, 0, 0, []⟩) (hc : c) :
    SG tm bx rw nb nr G (.load g n a) v := by
  have h' : (loadC g n ((es[i]?.getD .any).cells.drop off)) = ⟨c, v, 0, 0, []⟩ := by rw [hx, h]
  refine ⟨rfl, fun hG => ?_, ?_, ?_, ?_, ?_⟩ <;> simp only [aistep, ha, hu, hr, h']
  exact ⟨(hi hG).1, trivial, trivial, (hi hG).2, hc⟩
theorem SG.eq {G : Bool} {ai : AI} {v : AV} (h : SG tm bx rw nb nr G ai v) : aistep false (lookT (gT tm)) (gO bx) (gO rw) nb nr ai = ⟨(aistep false (lookT (gT tm)) (gO bx) (gO rw) nb nr ai).ok, v, 0, 0, []⟩ := by
  obtain ⟨_, _, h1, h2, h3, h4⟩ := h
  generalize aistep false (lookT (gT tm)) (gO bx) (gO rw) nb nr ai = x at *
  cases x; subst h1; simp_all
theorem RG.sg {t u : Nat} {want G : Bool} {ai : AI} {v v' : AV} (hg : gval (gT tm u) want = some G) (h : SG tm bx rw nb nr G ai v) (hv : mkCnd G v = v') (k : RG P N l y ⟨(t, v') :: tm, bx, rw, nb, nr⟩ Q) : RG P N (⟨some t, ai, some (u, want)⟩ :: l) y ⟨tm, bx, rw, nb, nr⟩ Q := by
  subst hv
  have he := h.eq
  rw [gT_eq, gO_eq, gO_eq] at he
  have hok := h.ok
  rw [gT_eq, gO_eq, gO_eq] at hok
  rw [gT_eq] at hg
  refine ⟨?_⟩
  refine Or.inl ?_
  show StepK P false _ nb nr ⟨some t, ai, some (u, want)⟩ _
  unfold StepK
  dsimp only
  have hg' : gval ((AS.fs ⟨tm, bx, rw, nb, nr⟩).tm u) want = some G := hg
  rw [hg']
  dsimp only
  refine .inl ?_
  have he' : aistep false (lookT (AS.fs ⟨tm, bx, rw, nb, nr⟩).tm) (AS.fs ⟨tm, bx, rw, nb, nr⟩).bx (AS.fs ⟨tm, bx, rw, nb, nr⟩).rw nb nr ai = _ := he
  have hok' : G = true → (aistep false (lookT (AS.fs ⟨tm, bx, rw, nb, nr⟩).tm) (AS.fs ⟨tm, bx, rw, nb, nr⟩).bx (AS.fs ⟨tm, bx, rw, nb, nr⟩).rw nb nr ai).ok := hok
  have hnc := h.nc
  have key : (G = true → (aistep false (lookT (AS.fs ⟨tm, bx, rw, nb, nr⟩).tm) (AS.fs ⟨tm, bx, rw, nb, nr⟩).bx (AS.fs ⟨tm, bx, rw, nb, nr⟩).rw nb nr ai).ok) ∧ ((aistep false (lookT (AS.fs ⟨tm, bx, rw, nb, nr⟩).tm) (AS.fs ⟨tm, bx, rw, nb, nr⟩).bx (AS.fs ⟨tm, bx, rw, nb, nr⟩).rw nb nr ai).up = [] ∧ (aistep false (lookT (AS.fs ⟨tm, bx, rw, nb, nr⟩).tm) (AS.fs ⟨tm, bx, rw, nb, nr⟩).bx (AS.fs ⟨tm, bx, rw, nb, nr⟩).rw nb nr ai).nb = 0 ∧ (aistep false (lookT (AS.fs ⟨tm, bx, rw, nb, nr⟩).tm) (AS.fs ⟨tm, bx, rw, nb, nr⟩).bx (AS.fs ⟨tm, bx, rw, nb, nr⟩).rw nb nr ai).nr = 0) ∧ (fun r => aopsM P l (AS.app ⟨tm, bx, rw, nb, nr⟩ (some t) r) fun τ => WL0 P N y Q τ) ⟨True, mkCnd G (aistep false (lookT (AS.fs ⟨tm, bx, rw, nb, nr⟩).tm) (AS.fs ⟨tm, bx, rw, nb, nr⟩).bx (AS.fs ⟨tm, bx, rw, nb, nr⟩).rw nb nr ai).av, 0, 0, []⟩ := by
    refine ⟨hok', ?_⟩
    rw [he']; exact ⟨⟨rfl, rfl, rfl⟩, k.h⟩
  cases ai <;> first | exact key | cases hnc
theorem DG.sg {t u : Nat} {want G : Bool} {ai : AI} {v v' : AV} {nd : List Nat} (hg : gval (gT tm u) want = some G) (h : SG tm bx rw nb nr G ai v) (hv : mkCnd G v = v')
    (hfr : frees hs ⟨⟨some t, ai, some (u, want)⟩, ⟨gT tm, gO bx, gO rw⟩, ⟨True, v', 0, 0, []⟩, nb, nr⟩ nd)
    (k : DG P N l need (hs ++ [⟨⟨some t, ai, some (u, want)⟩, ⟨gT tm, gO bx, gO rw⟩, ⟨True, v', 0, 0, []⟩, nb, nr⟩]) y ⟨(t, v') :: tm, bx, rw, nb, nr⟩ Q) : DG P N (⟨some t, ai, some (u, want)⟩ :: l) (nd :: need) hs y ⟨tm, bx, rw, nb, nr⟩ Q := by
  subst hv
  obtain ⟨k⟩ := k
  have he := h.eq
  have hok := h.ok
  rw [gT_eq, gO_eq, gO_eq] at he hok hfr k
  rw [gT_eq] at hg
  refine ⟨?_⟩
  show StepK P false _ nb nr ⟨some t, ai, some (u, want)⟩ _
  unfold StepK
  dsimp only
  have hg' : gval ((AS.fs ⟨tm, bx, rw, nb, nr⟩).tm u) want = some G := hg
  rw [hg']
  dsimp only
  refine .inl ?_
  have he' : aistep false (lookT (AS.fs ⟨tm, bx, rw, nb, nr⟩).tm) (AS.fs ⟨tm, bx, rw, nb, nr⟩).bx (AS.fs ⟨tm, bx, rw, nb, nr⟩).rw nb nr ai = _ := he
  have hok' : G = true → (aistep false (lookT (AS.fs ⟨tm, bx, rw, nb, nr⟩).tm) (AS.fs ⟨tm, bx, rw, nb, nr⟩).bx (AS.fs ⟨tm, bx, rw, nb, nr⟩).rw nb nr ai).ok := hok
  have hnc := h.nc
  have key : (G = true → (aistep false (lookT (AS.fs ⟨tm, bx, rw, nb, nr⟩).tm) (AS.fs ⟨tm, bx, rw, nb, nr⟩).bx (AS.fs ⟨tm, bx, rw, nb, nr⟩).rw nb nr ai).ok) ∧ ((aistep false (lookT (AS.fs ⟨tm, bx, rw, nb, nr⟩).tm) (AS.fs ⟨tm, bx, rw, nb, nr⟩).bx (AS.fs ⟨tm, bx, rw, nb, nr⟩).rw nb nr ai).up = [] ∧ (aistep false (lookT (AS.fs ⟨tm, bx, rw, nb, nr⟩).tm) (AS.fs ⟨tm, bx, rw, nb, nr⟩).bx (AS.fs ⟨tm, bx, rw, nb, nr⟩).rw nb nr ai).nb = 0 ∧ (aistep false (lookT (AS.fs ⟨tm, bx, rw, nb, nr⟩).tm) (AS.fs ⟨tm, bx, rw, nb, nr⟩).bx (AS.fs ⟨tm, bx, rw, nb, nr⟩).rw nb nr ai).nr = 0) ∧ (fun r => frees hs ⟨⟨some t, ai, some (u, want)⟩, AS.fs ⟨tm, bx, rw, nb, nr⟩, r, nb, nr⟩ nd ∧ dops P l need (AS.app ⟨tm, bx, rw, nb, nr⟩ (some t) r) (hs ++ [⟨⟨some t, ai, some (u, want)⟩, AS.fs ⟨tm, bx, rw, nb, nr⟩, r, nb, nr⟩]) fun τ => WL0 P N y Q τ) ⟨True, mkCnd G (aistep false (lookT (AS.fs ⟨tm, bx, rw, nb, nr⟩).tm) (AS.fs ⟨tm, bx, rw, nb, nr⟩).bx (AS.fs ⟨tm, bx, rw, nb, nr⟩).rw nb nr ai).av, 0, 0, []⟩ := by
    refine ⟨hok', ?_⟩
    rw [he']; exact ⟨⟨rfl, rfl, rfl⟩, hfr, k⟩
  cases ai <;> first | exact key | cases hnc

/-! ### Values -/
theorem ST.mv {x : Opd} {v : AV} (h : lookT (gT tm) x = v) : ST tm bx rw nb nr (.mv x) v 0 0 [] := ⟨rfl, trivial, h, rfl, rfl, rfl⟩
theorem SG.mv {G : Bool} {x : Opd} {v : AV} (h : lookT (gT tm) x = v) : SG tm bx rw nb nr G (.mv x) v := ⟨rfl, fun _ => trivial, h, rfl, rfl, rfl⟩
theorem ST.ext {x : Opd} {i : Nat} {vs : List AV} {v : AV} (h : lookT (gT tm) x = .tup vs) (hv : vs[i]? = some v) : ST tm bx rw nb nr (.ext x i) v 0 0 [] := by
  have e : (AV.tup vs).val = .tup vs := rfl
  have hi := (List.getElem?_eq_some_iff.1 hv).1
  refine ⟨rfl, ?_, ?_, ?_, ?_, ?_⟩ <;> simp only [aistep, h, e, hv, Option.getD_some]
  exact ⟨trivial, hi⟩
theorem ST.fadr {off b o o' : Nat} {a : Opd} (h : lookT (gT tm) a = .bptr b o) (ho : o + off = o') : ST tm bx rw nb nr (.fadr off a) (.bptr b o') 0 0 [] := by
  have e : (AV.bptr b o).val = .bptr b o := rfl
  subst ho
  refine ⟨rfl, ?_, ?_, ?_, ?_, ?_⟩ <;> simp only [aistep, h, e]
  exact trivial
theorem SG.fadr {G : Bool} {off b o o' : Nat} {a : Opd} {v : AV} (h : lookT (gT tm) a = v) (hv : v.val = .bptr b o) (hc : G = true → v.cond) (ho : o + off = o') : SG tm bx rw nb nr G (.fadr off a) (.bptr b o') := by
  subst ho
  refine ⟨rfl, ?_, ?_, ?_, ?_, ?_⟩ <;> simp only [aistep, h, hv]
  exact hc
theorem ST.fadrR {off b k i o o' : Nat} {a : Opd} (h : lookT (gT tm) a = .rptr b k i o) (ho : o + off = o') : ST tm bx rw nb nr (.fadr off a) (.rptr b k i o') 0 0 [] := by
  have e : (AV.rptr b k i o).val = .rptr b k i o := rfl
  subst ho
  refine ⟨rfl, ?_, ?_, ?_, ?_, ?_⟩ <;> simp only [aistep, h, e]
  exact trivial
theorem SG.fadrR {G : Bool} {off b k i o o' : Nat} {a : Opd} {v : AV} (h : lookT (gT tm) a = v) (hv : v.val = .rptr b k i o) (hc : G = true → v.cond) (ho : o + off = o') : SG tm bx rw nb nr G (.fadr off a) (.rptr b k i o') := by
  subst ho
  refine ⟨rfl, ?_, ?_, ?_, ?_, ?_⟩ <;> simp only [aistep, h, hv]
  exact hc
theorem ST.fadrC {vol : Bool} {off : Nat} {cs cs' : List AV} {a : Opd} (h : lookT (gT tm) a = .cptr vol cs) (hl : off < cs.length) (ho : cs.drop off = cs') : ST tm bx rw nb nr (.fadr off a) (.cptr vol cs') 0 0 [] := by
  have e : (AV.cptr vol cs).val = .cptr vol cs := rfl
  subst ho
  refine ⟨rfl, ?_, ?_, ?_, ?_, ?_⟩ <;> simp only [aistep, h, e]
  exact ⟨trivial, hl⟩
theorem SG.fadrC {G vol : Bool} {off : Nat} {cs cs' : List AV} {a : Opd} {v : AV} (h : lookT (gT tm) a = v) (hv : v.val = .cptr vol cs) (hc : G = true → v.cond) (hl : off < cs.length) (ho : cs.drop off = cs') : SG tm bx rw nb nr G (.fadr off a) (.cptr vol cs') := by
  subst ho
  refine ⟨rfl, ?_, ?_, ?_, ?_, ?_⟩ <;> simp only [aistep, h, hv]
  exact fun hG => ⟨hc hG, hl⟩
theorem ST.ldb {g : Bool} {n b off : Nat} {a : Opd} {cells : List AV} {v : AV} {c : Prop} (ha : lookT (gT tm) a = .bptr b off) (hb : gO bx b = some cells) (h : loadC g n (cells.drop off) = ⟨c, v, 0, 0, []⟩) (hc : c) : ST tm bx rw nb nr (.load g n a) v 0 0 [] := by
  have e : (AV.bptr b off).val = .bptr b off := rfl
  refine ⟨rfl, ?_, ?_, ?_, ?_, ?_⟩ <;> simp only [aistep, ha, e, hb, h]
  exact ⟨trivial, hc⟩
theorem SG.ldb {G g : Bool} {n b off : Nat} {a : Opd} {cells : List AV} {u v : AV} {c : Prop} (ha : lookT (gT tm) a = u) (hu : u.val = .bptr b off) (hg : G = true → u.cond) (hb : gO bx b = some cells) (h : loadC g n (cells.drop off) = ⟨c, v, 0, 0, []⟩) (hc : c) : SG tm bx rw nb nr G (.load g n a) v := by
  refine ⟨rfl, ?_, ?_, ?_, ?_, ?_⟩ <;> simp only [aistep, ha, hu, hb, h]
  exact fun e => ⟨hg e, hc⟩
/-- Cells that nobody writes. -/
theorem ST.ldc {g vol : Bool} {n : Nat} {a : Opd} {cells : List AV} {v : AV} {c : Prop} (ha : lookT (gT tm) a = .cptr vol cells) (h : loadC g n cells = ⟨c, v, 0, 0, []⟩) (hc : c) : ST tm bx rw nb nr (.load g n a) v 0 0 [] := by
  have e : (AV.cptr vol cells).val = .cptr vol cells := rfl
  refine ⟨rfl, ?_, ?_, ?_, ?_, ?_⟩ <;> simp only [aistep, ha, e, h]
  exact ⟨trivial, hc⟩
theorem SG.ldc {G g vol : Bool} {n : Nat} {a : Opd} {cells : List AV} {u v : AV} {c : Prop} (ha : lookT (gT tm) a = u) (hu : u.val = .cptr vol cells) (hg : G = true → u.cond) (h : loadC g n cells = ⟨c, v, 0, 0, []⟩) (hc : G = true → c) : SG tm bx rw nb nr G (.load g n a) v := by
  refine ⟨rfl, ?_, ?_, ?_, ?_, ?_⟩ <;> simp only [aistep, ha, hu, h]
  exact fun e => ⟨hg e, hc e⟩
theorem ST.bini {op : BinOp} {x z : Opd} {kx kz kd : IntKind} {a b n n' : Int} {c : Prop} (hx : lookT (gT tm) x = .int kx a) (hz : lookT (gT tm) z = .int kz b) (h : binI op kx a kz b = (c, .int kd n)) (hc : c) (hn : n = n') : ST tm bx rw nb nr (.bin op x z) (.int kd n') 0 0 [] := by
  subst hn
  refine ⟨rfl, ?_, ?_, ?_, ?_, ?_⟩ <;> simp only [aistep, hx, hz, val_int, h]
  exact ⟨trivial, trivial, hc⟩
theorem ST.binb {op : BinOp} {x z : Opd} {kx kz : IntKind} {a b : Int} {n n' : Bool} {c : Prop} (hx : lookT (gT tm) x = .int kx a) (hz : lookT (gT tm) z = .int kz b) (h : binI op kx a kz b = (c, .bool n)) (hc : c) (hn : n = n') : ST tm bx rw nb nr (.bin op x z) (.bool n') 0 0 [] := by
  subst hn
  refine ⟨rfl, ?_, ?_, ?_, ?_, ?_⟩ <;> simp only [aistep, hx, hz, val_int, h]
  exact ⟨trivial, trivial, hc⟩
theorem SG.bini {G : Bool} {op : BinOp} {x z : Opd} {kx kz kd : IntKind} {a b n n' : Int} {u v : AV} {c : Prop} (hx : lookT (gT tm) x = u) (hu : u.val = .int kx a) (hz : lookT (gT tm) z = v) (hv : v.val = .int kz b) (h1 : G = true → u.cond) (h2 : G = true → v.cond) (h : binI op kx a kz b = (c, .int kd n)) (hc : G = true → c) (hn : n = n') : SG tm bx rw nb nr G (.bin op x z) (.int kd n') := by
  subst hn
  refine ⟨rfl, ?_, ?_, ?_, ?_, ?_⟩ <;> simp only [aistep, hx, hz, hu, hv, h]
  exact fun e => ⟨h1 e, h2 e, hc e⟩
theorem SG.binb {G : Bool} {op : BinOp} {x z : Opd} {kx kz : IntKind} {a b : Int} {n n' : Bool} {u v : AV} {c : Prop} (hx : lookT (gT tm) x = u) (hu : u.val = .int kx a) (hz : lookT (gT tm) z = v) (hv : v.val = .int kz b) (h1 : G = true → u.cond) (h2 : G = true → v.cond) (h : binI op kx a kz b = (c, .bool n)) (hc : G = true → c) (hn : n = n') : SG tm bx rw nb nr G (.bin op x z) (.bool n') := by
  subst hn
  refine ⟨rfl, ?_, ?_, ?_, ?_, ?_⟩ <;> simp only [aistep, hx, hz, hu, hv, h]
  exact fun e => ⟨h1 e, h2 e, hc e⟩
theorem val_bool (b : Bool) : (AV.bool b).val = .bool b := rfl
theorem val_str (s : List UInt8) : (AV.str s).val = .str s := rfl
theorem ST.binB {ne : Bool} {x z : Opd} {a b n : Bool} (hx : lookT (gT tm) x = .bool a) (hz : lookT (gT tm) z = .bool b) (hn : (if ne then a != b else a == b) = n) : ST tm bx rw nb nr (.binB ne x z) (.bool n) 0 0 [] := by
  subst hn
  refine ⟨rfl, ?_, ?_, ?_, ?_, ?_⟩ <;> simp only [aistep, hx, hz, val_bool]
  exact ⟨trivial, trivial⟩
theorem SG.binB {G ne : Bool} {x z : Opd} {a b n : Bool} {u v : AV} (hx : lookT (gT tm) x = u) (hu : u.val = .bool a) (hz : lookT (gT tm) z = v) (hv : v.val = .bool b) (h1 : G = true → u.cond) (h2 : G = true → v.cond) (hn : (if ne then a != b else a == b) = n) : SG tm bx rw nb nr G (.binB ne x z) (.bool n) := by
  subst hn
  refine ⟨rfl, ?_, ?_, ?_, ?_, ?_⟩ <;> simp only [aistep, hx, hz, hu, hv]
  exact fun e => ⟨h1 e, h2 e⟩
theorem ST.binT {op : BinOp} {x z : Opd} {a b : List UInt8} {v : AV} (hx : lookT (gT tm) x = .str a) (hz : lookT (gT tm) z = .str b) (hv : strI op a b = some v) (hl : a.length + b.length ≤ 1000000000) : ST tm bx rw nb nr (.binT op x z) v 0 0 [] := by
  refine ⟨rfl, ?_, ?_, ?_, ?_, ?_⟩ <;> simp only [aistep, hx, hz, val_str, hv]
  exact ⟨trivial, trivial, hl⟩
theorem SG.binT {G : Bool} {op : BinOp} {x z : Opd} {a b : List UInt8} {u w v : AV} (hx : lookT (gT tm) x = u) (hu : u.val = .str a) (hz : lookT (gT tm) z = w) (hw : w.val = .str b) (h1 : G = true → u.cond) (h2 : G = true → w.cond) (hv : strI op a b = some v) (hl : G = true → a.length + b.length ≤ 1000000000) : SG tm bx rw nb nr G (.binT op x z) v := by
  refine ⟨rfl, ?_, ?_, ?_, ?_, ?_⟩ <;> simp only [aistep, hx, hz, hu, hw, hv]
  exact fun e => ⟨h1 e, h2 e, hl e⟩
theorem ST.conv {kd kx : IntKind} {x : Opd} {a n : Int} (hx : lookT (gT tm) x = .int kx a) (hn : kd.wrap a = n) : ST tm bx rw nb nr (.conv kd x) (.int kd n) 0 0 [] := by
  subst hn
  refine ⟨rfl, ?_, ?_, ?_, ?_, ?_⟩ <;> simp only [aistep, hx, val_int]
  exact trivial
theorem SG.conv {G : Bool} {kd kx : IntKind} {x : Opd} {u : AV} {a n : Int} (hx : lookT (gT tm) x = u) (hu : u.val = .int kx a) (h1 : G = true → u.cond) (hn : kd.wrap a = n) : SG tm bx rw nb nr G (.conv kd x) (.int kd n) := by
  subst hn
  refine ⟨rfl, ?_, ?_, ?_, ?_, ?_⟩ <;> simp only [aistep, hx, hu]
  exact h1
theorem ST.not {x : Opd} {a n : Bool} (hx : lookT (gT tm) x = .bool a) (hn : (!a) = n) : ST tm bx rw nb nr (.not x) (.bool n) 0 0 [] := by
  subst hn
  refine ⟨rfl, ?_, ?_, ?_, ?_, ?_⟩ <;> simp only [aistep, hx, val_bool]
  exact trivial
theorem SG.not {G : Bool} {x : Opd} {u : AV} {a n : Bool} (hx : lookT (gT tm) x = u) (hu : u.val = .bool a) (h1 : G = true → u.cond) (hn : (!a) = n) : SG tm bx rw nb nr G (.not x) (.bool n) := by
  subst hn
  refine ⟨rfl, ?_, ?_, ?_, ?_, ?_⟩ <;> simp only [aistep, hx, hu]
  exact h1
/-- How many elements a slice has. -/
def lenA : AV → Option Int
  | .sl _ _ es => some es.length
  | .csl _ _ es => some es.length
  | .ref _ _ _ n => some n
  | .refc _ _ _ n _ => some n
  | .nil => some 0
  | _ => none
theorem ST.lenV {x : Opd} {v : AV} {n n' : Int} (hx : lookT (gT tm) x = v) (h : lenA v = some n) (hn : n = n') : ST tm bx rw nb nr (.lenV x) (.int .i64 n') 0 0 [] := by
  subst hn
  cases v <;> simp [lenA] at h <;> subst h <;> (refine ⟨rfl, ?_, ?_, ?_, ?_, ?_⟩ <;> simp only [aistep, hx, AV.val]) <;> trivial
theorem SG.lenV {G : Bool} {x : Opd} {u v : AV} {n n' : Int} (hx : lookT (gT tm) x = u) (hu : u.val = v) (h1 : G = true → u.cond) (h : lenA v = some n) (hn : n = n') : SG tm bx rw nb nr G (.lenV x) (.int .i64 n') := by
  subst hn
  cases v <;> simp [lenA] at h <;> subst h <;> (refine ⟨rfl, ?_, ?_, ?_, ?_, ?_⟩ <;> simp only [aistep, hx, hu]) <;> exact h1
theorem ST.lenT {x : Opd} {s : List UInt8} (hx : lookT (gT tm) x = .str s) : ST tm bx rw nb nr (.lenT x) (.int .i64 s.length) 0 0 [] := by
  refine ⟨rfl, ?_, ?_, ?_, ?_, ?_⟩ <;> simp only [aistep, hx, val_str]
  exact trivial
theorem SG.lenT {G : Bool} {x : Opd} {u : AV} {s : List UInt8} (hx : lookT (gT tm) x = u) (hu : u.val = .str s) (h1 : G = true → u.cond) : SG tm bx rw nb nr G (.lenT x) (.int .i64 s.length) := by
  refine ⟨rfl, ?_, ?_, ?_, ?_, ?_⟩ <;> simp only [aistep, hx, hu]
  exact h1
theorem ST.pickb {c x z : Opd} {t a b n : Bool} {u v : AV} (hc : lookT (gT tm) c = .bool t) (hx : lookT (gT tm) x = u) (hu : u.val = .bool a) (hz : lookT (gT tm) z = v) (hv : v.val = .bool b) (h1 : t = true → u.cond) (h2 : t = false → v.cond) (hn : (if t then a else b) = n) : ST tm bx rw nb nr (.pick c x z) (.bool n) 0 0 [] := by
  subst hn
  refine ⟨rfl, ?_, ?_, ?_, ?_, ?_⟩ <;> simp only [aistep, hc, hx, hz, hu, hv, val_bool, pickV]
  exact ⟨trivial, h1, h2⟩
theorem SG.pickb {G : Bool} {c x z : Opd} {t a b n : Bool} {w u v : AV} (hc : lookT (gT tm) c = w) (hw : w.val = .bool t) (h0 : G = true → w.cond) (hx : lookT (gT tm) x = u) (hu : u.val = .bool a) (hz : lookT (gT tm) z = v) (hv : v.val = .bool b) (h1 : G = true → t = true → u.cond) (h2 : G = true → t = false → v.cond) (hn : (if t then a else b) = n) : SG tm bx rw nb nr G (.pick c x z) (.bool n) := by
  subst hn
  refine ⟨rfl, ?_, ?_, ?_, ?_, ?_⟩ <;> simp only [aistep, hc, hx, hz, hw, hu, hv, pickV]
  exact fun e => ⟨h0 e, h1 e, h2 e⟩
/-! ### Boxes -/
theorem ST.newb {cells : List AV} (h : cells.all scal = true) : ST tm bx rw nb nr (.newb cells) (.bptr nb 0) 1 0 [.B nb cells] := ⟨rfl, h, rfl, rfl, rfl, rfl⟩
theorem ST.box {x : Opd} {v : AV} {cells : List AV} (hx : lookT (gT tm) x = v) (hc : v.cond) (h : okV v.val = true) (he : v.val.cells = cells) : ST tm bx rw nb nr (.box x) (.bptr nb 0) 1 0 [.B nb cells] := by
  subst he
  refine ⟨rfl, ?_, ?_, ?_, ?_, ?_⟩ <;> simp only [aistep, hx]
  exact ⟨hc, h⟩
end
theorem b_and (a b : Bool) : (if a = true then b else false) = (a && b) := by cases a <;> rfl
theorem b_or (a b : Bool) : (if a = true then true else b) = (a || b) := by cases a <;> rfl
end Go.Proofs.Ytiejnmbpejfpgaa
