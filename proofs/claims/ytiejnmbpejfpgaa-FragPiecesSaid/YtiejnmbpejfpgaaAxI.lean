/- Slices whose capacity is known: cuts, append in place, append of noughts. -/
import Derived.Test.YtiejnmbpejfpgaaAx12
namespace Go.Proofs.Ytiejnmbpejfpgaa
open Go.RowKit
set_option linter.unusedVariables false

section
variable {P : Program} {w0 : Base} {N : Nat} {ρ : Env} {F : Nat → Prop} {σ : FS} {a : Act} {w : World}

theorem v_slS_refc {t e : TypeId} {k : Nat} (ht : P.underlying t = some (.slice e)) (hsz : szOf P e = some k) {B : Nat → Prop} {v : Value} {b l0 n c : Nat} (hv : Rep ρ B F w v (.refc b k l0 n c)) {lo hi mx : Option Value} {l h m : Nat} (b1 : IsB 0 lo l) (b2 : IsB n hi h) (b3 : IsB c mx m) (hm0 : mx ≠ none → hi ≠ none) (h1 : l ≤ h) (h2 : h ≤ m) (h3 : m ≤ c) :
    GV P ρ B F w (Instr.sliceAt t v lo hi mx) (.refc b k (l0 + l) (h - l) (m - l)) := by
  obtain ⟨ad, p, rfl, hp, g1, g2, g3, g4, g5⟩ := hv.refc_inv
  refine ⟨_, run_cut ht hsz ad n c lo hi mx l h m b1 b2 b3 hm0 h1 h2 h3, ?_⟩
  have hmul : (l0 + m) * k ≤ (l0 + c) * k := Nat.mul_le_mul_right _ (by omega)
  refine .refc _ _ _ _ _ _ p hp (by omega) (by omega) ?_ ?_ ?_
  · rw [show l0 + l + (m - l) = l0 + m by omega]; omega
  · intro e
    split at e
    · omega
    · cases ad with
      | none => have := g4 rfl; omega
      | some ad => cases e
  · intro e
    rw [if_neg (by omega)]
    rw [g5 (by omega)]
    simp only [Option.map_some, add_lit, Nat.add_mul, Nat.add_assoc]

section
variable {t tx e ty : TypeId} {k by_ : Nat} (he : ElemOk P t tx e k by_) (hk : 0 < k) (h : Sim w0 N ρ F σ a w) {bb br : Nat}
  {v2 : Value} {y : AV} {k' : Nat} {new : List AV} (hy : Rep ρ w0.V F w v2 y) (hels : els σ.rw y = some (k', new)) (hk' : k' = k ∨ new = []) (hpu : new.all pureV = true)
include he hk h hy hels hk' hpu
/-- Append where there is room, and where what stands there is known: in place. -/
theorem g_app_in {b lo n c : Nat} {r : ARow} {v1 : Value} (hv : Rep ρ w0.V F w v1 (.refc b k lo n c)) (hb : σ.rw b = some r) (hrk : r.k = k) (hf : r.fro = false) (hlo : lo + n + new.length ≤ r.es.length) (hroom : n + new.length ≤ c) :
    Good P w0 N ρ F a w (Builtin.append_ #[t, tx] ty #[v1, v2]) bb 0 br 0 (σ.setR b (some { r with es := r.es.take (lo + n) ++ (new ++ r.es.drop (lo + n + new.length)) })) (.refc b k lo (n + new.length) c) := by
  obtain ⟨c2, f, a2, rfl, hw, hc, hs⟩ := app_src he h hy hels hk' hpu
  obtain ⟨i, z, hi, hz, hsz, hbt, hzs⟩ := he.i
  obtain ⟨ad, p, rfl, hp, hnc, hcm, hlim, hnn, ha⟩ := hv.refc_inv
  have hr := run_app_room (P := P) (w := w) (ty := ty) he.t hi ad n c _ _ _ (by rw [hsz]; exact hs) hroom
  have hrow1 := (h.rw b r p hb hp).1
  have hres : ∀ {w' : World} {F' : Nat → Prop} {σ' : FS}, Rep ρ w0.V F' w' (.slice ad (n + new.length) c) (.refc b k lo (n + new.length) c) := fun {_ _ _} => .refc _ _ _ _ _ _ p hp hroom hcm hlim hnn ha
  by_cases h0 : new = []
  · subst h0
    have : r.es.take (lo + n) ++ (([] : List AV) ++ r.es.drop (lo + n + ([] : List AV).length)) = r.es := by simp
    rw [this, FS.setR_same (by rw [hb])]
    refine ⟨_, w, ρ, F, ?_, .refl _ _ _ _ _, h, hres (σ' := σ)⟩
    rw [hr]; cases ad <;> simp [storeCells]
  · have hpos : 0 < new.length := List.length_pos_iff.2 h0
    have had := ha (by omega)
    subst had
    have hwf := width_flat hrow1
    have hft := width_flat hw
    have hfit2 : (lo + n) * k + new.length * k ≤ r.es.length * r.k := by
      rw [hrk, ← Nat.add_mul]; exact Nat.mul_le_mul_right _ hlo
    have hpk : 0 < new.length * k := Nat.mul_pos hpos hk
    obtain ⟨w', e1, e2⟩ := write_row (P := P) h hb hp hf (o := (lo + n) * k) (news := (List.range (new.length * k)).map f) (avs := flat new) (by simp [hft]) (by intro e; rw [e] at hft; simp at hft; omega) (by rw [hft, hwf]; exact hfit2) (fun j u av g1 g2 => by
      rw [List.getElem?_map] at g1
      have hj := (List.getElem?_eq_some_iff.1 g2).1
      rw [hft] at hj
      rw [List.getElem?_range hj] at g1
      cases g1
      exact hc j av g2) hs.one (es' := r.es.take (lo + n) ++ (new ++ r.es.drop (lo + n + new.length))) (splice_width hrow1 (by rw [hrk]; exact hw)) (by rw [← hrk] at hw ⊢; exact splice_flat hrow1 hw (by omega))
    refine ⟨_, w', ρ, F, ?_, .refl _ _ _ _ _, e2, hres (σ' := σ)⟩
    rw [hr]
    simp only [hsz, add_lit]
    rw [show p.off + lo * k + n * k = p.off + (lo + n) * k by rw [Nat.add_mul]; omega]
    simp only [e1, Result.andThen_ok]
end

/-- Append of noughts where there is no room: a new row. -/
theorem run_append_grow_zeros (t tx ty e : TypeId) (i : TypeInfo) (z : Value) (ik kn : IntKind) (ht : P.underlying t = some (.slice e)) (htx : P.underlying tx = some (.int kn)) (hi : P.info? e = some i) (hz : i.zero = some z) (base : Option Addr) (sLen sCap : Nat) (olds : List Value)
    (hold : (Builtin.firstCells i.size sLen (.slice base sLen sCap)).run P w.drew = .ok olds.toArray w.drew) (m : Nat) (hm : m ≤ 1000000) (hs : sLen ≤ 1000000) (hb : i.bytes ≤ 1000000) (hsz : 0 < i.size)
    (hg : sCap < sLen + m) (hsc : sLen ≤ sCap) :
    (Builtin.append_ #[t, tx] ty #[.slice base sLen sCap, .int ik m]).run P w =
      .ok (.slice (some ⟨w.heap.size, 0, none⟩) (sLen + m) (grownCap w (sLen + m) sCap e))
        (w.drew.alloc (.cells ((olds ++ (Builtin.zeroCells z.cells m).toList).toArray ++ Builtin.zeroCells z.cells (grownCap w (sLen + m) sCap e - (sLen + m))) e)) := by
  have hn : ¬ (sLen + m ≤ sCap) := by omega
  have hw : IntKind.i64.wrap (m : Int) = m := by rw [IntKind.wrap_i64]; omega
  have h63' : ¬ (9223372036854775807 < ((sLen : Int) + (m : Int))) := by omega
  have h48' : ¬ (281474976710656 < Builtin.nextslicecap (sLen + m) sCap * i.bytes) := by
    have : Builtin.nextslicecap (sLen + m) sCap * i.bytes ≤ 281474976710656 := growslice_fits (by omega) (Nat.le_trans (Nat.mul_le_mul (show sLen + m ≤ 2000000 by omega) hb) (by decide))
    omega
  have h48i : ¬ (281474976710656 < (m : Int) * (i.bytes : Int)) := by
    have : m * i.bytes ≤ 1000000 * 1000000 := Nat.mul_le_mul hm hb
    have e : ((m * i.bytes : Nat) : Int) = (m : Int) * (i.bytes : Int) := by simp
    omega
  have hm0 : ¬ ((m : Int) < 0) := by omega
  have hns : ¬ (m * i.size = 0) := Nat.mul_ne_zero (by omega) (by omega)
  simp [Builtin.append_, run_underlying ht, run_underlying htx, sizeOf, typeInfo, zeroValue, hi, hz, asInt, asIntOf, hw, hm0, h48i, hn, h63', h48', hns, Question.forced, hold, newRow, grownCap]
  congr 2
  apply Array.ext'
  simp [List.append_assoc]
/-- .. and what becomes of the state. -/
theorem g_appz {t tx e ty : TypeId} {k : Nat} {kn ik : IntKind} {i : TypeInfo} {z : Value} (ht : P.underlying t = some (.slice e)) (htx : P.underlying tx = some (.int kn)) (hi : P.info? e = some i) (hz : i.zero = some z) (hsz : i.size = k) (hb : i.bytes ≤ 1000000) (hk : 0 < k) (hp : pureV (cst z) = true) (hl : (cst z).cells.length = k)
    (h : Sim w0 N ρ F σ a w) {bb br : Nat} (hbr : ρ.r br = none) {b lo n c m : Nat} {r : ARow} {v1 : Value} (hv : Rep ρ w0.V F w v1 (.refc b k lo n c)) (hb2 : σ.rw b = some r) (hrk : r.k = k) (hlo : lo + n ≤ r.es.length) (hn : n ≤ 1000000) (hm : m ≤ 1000000) (hg : c < n + m) :
    Good P w0 N ρ F a w (Builtin.append_ #[t, tx] ty #[v1, .int ik m]) bb 0 br 1 (σ.setR br (some ⟨false, k, (r.es.drop lo).take n ++ List.replicate m (cst z)⟩)) (.ref br k 0 (n + m)) := by
  obtain ⟨ad, p, rfl, hpp, hnc, hcm, hlim, hnn, ha⟩ := hv.refc_inv
  obtain ⟨ad', c', p', g, e1, hp', hra, hw1, hlen1, hc1⟩ := ref_row h hv.rf hb2 hrk hlo
  cases e1
  rw [hpp] at hp'; cases hp'
  have hzs : z.cells.size = k := by
    have := (okV_cells0 (cst_rep F w z) (pureV_ok hp)).1; omega
  have hold : (Builtin.firstCells i.size n (.slice ad n c)).run P w.drew = .ok ((List.range (n * k)).map g).toArray w.drew := by
    rw [hsz]
    cases ad with
    | none =>
      have h00 : n = 0 := by have := hnn rfl; omega
      subst h00
      simp [Builtin.firstCells]
    | some ad =>
      refine run_firstCells_some (P := P) w.drew k n ad n c _ (by simp) fun j u hu => ?_
      rw [List.getElem?_map] at hu
      by_cases hj : j < n * k
      · rw [List.getElem?_range hj] at hu
        cases hu
        exact hra.cell ad rfl j hj
      · rw [List.getElem?_eq_none (by simpa using hj)] at hu; cases hu
  have hr := run_append_grow_zeros (P := P) (w := w) (ty := ty) t tx e i z ik kn ht htx hi hz ad n c _ hold m hm hn hb (by omega) hg hnc
  have hge := grownCap_ge w (n + m) c e
  have hcm2 := grownCap_le_maxLen w (n + m) c e (by unfold maxLen; omega)
  have hw2 : ∀ x ∈ List.replicate m (cst z), x.cells.length = k := fun x hx => by rw [List.eq_of_mem_replicate hx]; exact hl
  have hfl1 := width_flat hw1
  rw [hlen1] at hfl1
  have q := new_row2 (k := k) (e := e) h hbr hzs (olds := (List.range (n * k)).map g) (news := (Builtin.zeroCells z.cells m).toList) hw1 hw2 (by rw [hlen1]; simp) (by simp [size_zeroCells, hzs])
    (fun j av hj => by
      have hjl := (List.getElem?_eq_some_iff.1 hj).1
      rw [hfl1] at hjl
      exact ⟨g j, by rw [List.getElem?_map, List.getElem?_range hjl]; rfl, hc1 j av hj⟩)
    (fun j av hj => by
      obtain ⟨hjl, u, e1, e2, e3⟩ := zero_rep hp hl F w m j av hj
      refine ⟨u, ?_, e2⟩
      have hmm := Array.getElem?_eq_some_iff.1 e1
      unfold Builtin.zeroCells
      rw [Array.getElem?_toList, Array.getElem?_map, Array.getElem?_range, hzs, if_pos hjl]
      simp only [Option.map_some]
      rw [getElem!_pos z.cells (j % k) hmm.1, hmm.2])
    (grownCap w (n + m) c e) (by rw [hlen1, List.length_replicate]; exact hge) hcm2
  rw [hlen1, List.length_replicate] at q
  exact ⟨_, _, _, F, hr, .newR hbr, q.1, q.2.1⟩
end
end Go.Proofs.Ytiejnmbpejfpgaa
