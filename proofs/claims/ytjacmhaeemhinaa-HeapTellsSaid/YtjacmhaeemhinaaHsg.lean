/- HeapTells: plainly, and what is told once. -/
import Derived.Test.YtjacmhaeemhinaaHse
namespace Go.Proofs.Ytjacmhaeemhinaa
open Go.RowKit
set_option linter.unusedVariables false
set_option linter.unusedSimpArgs false
set_option maxRecDepth 100000
set_option maxHeartbeats 4000000
/-- A page is written since it was told, or its bytes are the same. -/
def Sy (h c : Hp) (q : Nat) : Prop := h.d[q]?.getD false = true ∨ ∀ i, 64 * q ≤ i → i < 64 * q + 64 → h.s[i]?.getD 0 = c.s[i]?.getD 0
theorem markP_get (d : List Bool) (a n : Int) (q : Nat) (h : q < d.length) : (markP d a n)[q]?.getD false = (d[q]?.getD false || touch a n q) := by
  have h2 : q < (markP d a n).length := by rw [markP_len]; exact h
  rw [List.getElem?_eq_getElem h2, List.getElem?_eq_getElem h, Option.getD_some, Option.getD_some, markP_at d a n q h2 h]
theorem Sy.put {h c : Hp} {m q : Nat} (k : h.Ok m) (y : Sy h c q) (hq : q < m) {a : Int} (v : List UInt8) (ha : 0 ≤ a) (hb : a + v.length ≤ 64 * m) : Sy (hPut h a v) c q := by
  have hs := k.s
  have hd := k.d
  unfold Sy hPut
  dsimp only
  rw [markP_get _ _ _ _ (by omega)]
  rcases y with y | y
  · left; rw [y]; rfl
  · cases ht : touch a v.length q
    · right
      intro i i1 i2
      obtain ⟨b, rfl⟩ : ∃ b : Nat, a = b := ⟨a.toNat, by omega⟩
      rw [Int.toNat_natCast, putS_get _ _ _ _ (by omega), ← y i i1 i2]
      unfold touch at ht
      simp at ht
      split
      · rfl
      · rw [if_neg (by omega)]
    · left; simp
theorem Sy.of {h h' c : Hp} {q : Nat} (y : Sy h c q) (hs : h'.s = h.s) (hd : h'.d = h.d) : Sy h' c q := by
  unfold Sy at *
  rw [hs, hd]; exact y
theorem Sy.step {h c : Hp} {m q : Nat} (k : h.Ok m) (y : Sy h c q) (hq : q < m) (o : Op) (ho : opN o < 5) : Sy (sH h o) c q := by
  unfold sH
  split
  · refine y.of ?_ ?_
    · unfold hAlloc; split; rfl; split; rfl; split <;> rfl
    · unfold hAlloc; split; rfl; split; rfl; split <;> rfl
  split
  · unfold hFree
    split
    · rename_i g
      obtain ⟨hi, h1, h2⟩ := atP_idx g
      rw [h2]
      obtain ⟨g0, g1, g2, g3, g4, g5⟩ := k.l.mem (Int.le_refl _) _ (List.getElem_mem hi)
      have ke : Hp.Ok ⟨h.s, h.l.eraseIdx (h.l.findIdx (atP o.at_)), h.d⟩ m := ⟨k.m1, k.m2, k.s, k.d, k.l.erase _⟩
      exact Sy.put ke (y.of rfl rfl) hq _ (by omega) (by rw [List.length_replicate]; omega)
    · exact y
  split
  · unfold hStore
    split
    · rename_i g
      have := insB_bd k g
      exact Sy.put k y hq _ this.1 this.2
    · exact y
  · omega
def tl1 (h : Hp) (p : Nat) : Hp := ⟨h.s, h.l, h.d.set p false⟩
def tl2 (h c : Hp) (p : Nat) : Hp := ⟨putS c.s (64 * p) ((h.s.drop (64 * p)).take 64), c.l, c.d⟩
theorem tl1_ok {h : Hp} {m : Nat} (k : h.Ok m) (p : Nat) : (tl1 h p).Ok m := ⟨k.m1, k.m2, k.s, by unfold tl1; rw [List.length_set]; exact k.d, k.l⟩
theorem pg_len {h : Hp} {m : Nat} (k : h.Ok m) {p : Nat} (hp : p < m) : ((h.s.drop (64 * p)).take 64).length = 64 := by
  have := k.s
  simp; omega
theorem tl2_ok {h c : Hp} {m : Nat} (k : h.Ok m) (kc : c.Ok m) {p : Nat} (hp : p < m) : (tl2 h c p).Ok m :=
  ⟨k.m1, k.m2, by unfold tl2; rw [putS_len (by rw [pg_len k hp]; have := kc.s; omega)]; exact kc.s, kc.d, kc.l⟩
theorem tl_same {h c : Hp} {m : Nat} (k : h.Ok m) (kc : c.Ok m) {p : Nat} (hp : p < m) (i : Nat) (i1 : 64 * p ≤ i) (i2 : i < 64 * p + 64) : (tl1 h p).s[i]?.getD 0 = (tl2 h c p).s[i]?.getD 0 := by
  have hs := k.s
  have hc := kc.s
  unfold tl1 tl2
  dsimp only
  rw [putS_get _ _ _ _ (by rw [pg_len k hp]; omega), if_neg (by omega), pg_len k hp, if_pos i2, List.getElem?_take_of_lt (by omega), List.getElem?_drop, show 64 * p + (i - 64 * p) = i by omega]
theorem tl_other {h c : Hp} {m : Nat} (k : h.Ok m) (kc : c.Ok m) {p q : Nat} (hp : p < m) (hq : q ≠ p) (y : Sy h c q) : Sy (tl1 h p) (tl2 h c p) q := by
  have hc := kc.s
  rcases y with y | y
  · left
    unfold tl1
    dsimp only
    rw [List.getElem?_set_ne (by omega)]; exact y
  · right
    intro i i1 i2
    unfold tl1 tl2
    dsimp only
    rw [putS_get _ _ _ _ (by rw [pg_len k hp]; omega), pg_len k hp, y i i1 i2]
    split
    · rfl
    · rw [if_neg (by omega)]
theorem tl_Sy {h c : Hp} {m : Nat} (k : h.Ok m) (kc : c.Ok m) {p q : Nat} (hp : p < m) (y : q ≠ p → Sy h c q) : Sy (tl1 h p) (tl2 h c p) q := by
  by_cases e : q = p
  · subst e; exact .inr (tl_same k kc hp)
  · exact tl_other k kc hp e (y e)
theorem sy_all {h c : Hp} {m : Nat} (k : h.Ok m) (kc : c.Ok m) (y : ∀ q, q < m → Sy h c q) (hd : ∀ q : Nat, q < m → h.d[q]?.getD false = false) : h.s = c.s := by
  have hs := k.s
  have hc := kc.s
  apply List.ext_getElem (by omega)
  intro i i1 i2
  have hq : i / 64 < m := by omega
  rcases y _ hq with y | y
  · rw [hd _ hq] at y; cases y
  · have := y i (by omega) (by omega)
    rw [List.getElem?_eq_getElem i1, List.getElem?_eq_getElem i2] at this
    exact this
theorem wr_nil {d : List Bool} {m : Nat} (hd : ∀ q : Nat, q < m → d[q]?.getD false = false) : wr d m = [] := by
  unfold wr
  rw [List.filter_eq_nil_iff]
  intro q hq
  rw [hd q (List.mem_range.1 hq)]; decide
theorem hTl_ok {h c : Hp} (k : h.Ok 6) (kc : c.Ok 6) {p : Nat} (hp : p < 6) :
    MCall Try.prog 19 [.int .i64 p, .bptr 0 0, .bptr 1 0] [[.sl false 1 (h.s.map by8), .sl false 2 (h.l.map bk), .sl false 1 (h.d.map bo)], [.sl false 1 (c.s.map by8), .sl false 2 (c.l.map bk), .sl false 1 (c.d.map bo)]] [] (.bool true) [[.sl false 1 ((tl1 h p).s.map by8), .sl false 2 ((tl1 h p).l.map bk), .sl false 1 ((tl1 h p).d.map bo)], [.sl false 1 ((tl2 h c p).s.map by8), .sl false 2 ((tl2 h c p).l.map bk), .sl false 1 ((tl2 h c p).d.map bo)]] [] [] := by
  have hd := k.d
  have cd := kc.d
  have ct := hTellC_ok k p
  have ch := hHearC_ok kc p ((h.s.drop (64 * p)).take 64) (by rw [pg_len k hp]; omega)
  have e1 : hTell h p = (tl1 h p, (h.s.drop (64 * p)).take 64, 0) := by
    unfold hTell
    rw [if_pos (by omega)]; rfl
  have e2 : hHear c p ((h.s.drop (64 * p)).take 64) = (tl2 h c p, 0) := by
    unfold hHear
    rw [if_pos (by omega), if_pos (pg_len k hp)]; rfl
  rw [e1] at ct
  rw [e2] at ch
  have k1 := tl1_ok k p
  have k2 := tl2_ok k kc hp
  generalize tl1 h p = h' at *
  generalize tl2 h c p = c' at *
  generalize (h.s.drop (64 * p)).take 64 = g at *
  unfold hv at ct ch
  dsimp only at ct ch
  clear e1 e2
  refine mcall_walk (N := 32) Try.func19 (by kernel_rfl) p_caravellaw10_HeapTells_1 rfl rfl rfl ?_; intro gb pl; unfold c_caravellaw10_HeapTells_1; dsimp only [enum, ghB, ghR, k_lc, k_ln, k_ap, k_an, k_m0, k_mc, Nat.reduceAdd, Nat.zero_add, Nat.add_zero]
  (repeat (first | ((with_reducible show RG _ _ (_ :: _) _ _ _); refine RG.go1 (k := ?_)) | ((with_reducible show DG _ _ (_ :: _) _ _ _ _ _); refine DG.go1 (k := ?_)) | (with_reducible first | apply RG.nil | apply W.seq | apply W.reg | apply W.skip | apply W.block | apply W.drw | apply DG.nil | refine W.done (QB.n ?_)) | refine W.cndT ?_ | refine W.cndF ?_))
  (first | ((with_reducible show RG _ _ (_ :: _) _ _ _); refine RG.ca (ct) (k := ?_)) | ((with_reducible show DG _ _ (_ :: _) _ _ _ _ _); refine DG.ca (ct) (k := ?_)))
  (repeat (first | ((with_reducible show RG _ _ (_ :: _) _ _ _); refine RG.go1 (k := ?_)) | ((with_reducible show DG _ _ (_ :: _) _ _ _ _ _); refine DG.go1 (k := ?_)) | (with_reducible first | apply RG.nil | apply W.seq | apply W.reg | apply W.skip | apply W.block | apply W.drw | apply DG.nil | refine W.done (QB.n ?_)) | refine W.cndT ?_ | refine W.cndF ?_))
  (first | ((with_reducible show RG _ _ (_ :: _) _ _ _); refine RG.ca (ch) (k := ?_)) | ((with_reducible show DG _ _ (_ :: _) _ _ _ _ _); refine DG.ca (ch) (k := ?_)))
  (repeat (first | ((with_reducible show RG _ _ (_ :: _) _ _ _); refine RG.go1 (k := ?_)) | ((with_reducible show DG _ _ (_ :: _) _ _ _ _ _); refine DG.go1 (k := ?_)) | (with_reducible first | apply RG.nil | apply W.seq | apply W.reg | apply W.skip | apply W.block | apply W.drw | apply DG.nil | refine W.done (QB.n ?_)) | refine W.cndT ?_ | refine W.cndF ?_))
  (refine W.ret ?_; (repeat (with_reducible first | refine QB.r ?_ | refine QL.r ?_ | refine QC.r ?_)); refine QM.r ?_)
  exact RetM.rs (vs := [_]) (tm' := [(4, .bool true), (1000000, .batt 0 (gb 0)), (1000001, .batt 1 (gb 1))]) r_caravellaw10_HeapTells_1 ([0, 1]) ([]) 2 0
end Go.Proofs.Ytjacmhaeemhinaa
