/- That the operations on abstract values are the program's: append, copy, clear, make. -/
import Derived.Test.YtiejnmbpejfpgaaAx10
namespace Go.Proofs.Ytiejnmbpejfpgaa
open Go.RowKit
set_option linter.unusedVariables false

section
variable {P : Program} {w0 : Base} {N : Nat} {ρ : Env} {F : Nat → Prop} {σ : FS} {a : Act} {w : World}

/-- What append is told of types. -/
structure ElemOk (P : Program) (t tx e : TypeId) (k by_ : Nat) : Prop where
  t : P.underlying t = some (.slice e)
  tx : ∃ e', P.underlying tx = some (.slice e')
  i : ∃ i z, P.info? e = some i ∧ i.zero = some z ∧ i.size = k ∧ i.bytes = by_ ∧ z.cells.size = k

theorem vrow_new {w : World} {k : Nat} (es : List AV) (h0 : es = []) : RowOk w0.V F w ⟨0, 0, 0⟩ ⟨false, k, es⟩ := by
  subst h0; exact ⟨by simp, by simp [flat], .inl rfl⟩

section
variable {t tx e ty : TypeId} {k by_ : Nat} (he : ElemOk P t tx e k by_) (hk : 0 < k) (hby : by_ ≤ 1000000) (h : Sim w0 N ρ F σ a w) {bb br : Nat} (hbr : ρ.r br = none)
  {v2 : Value} {y : AV} {k' : Nat} {new : List AV} (hy : Rep ρ w0.V F w v2 y) (hels : els σ.rw y = some (k', new)) (hk' : k' = k ∨ new = []) (hpu : new.all pureV = true) (hm : new.length ≤ 1000000)
include he hk hby h hbr hy hels hk' hpu hm

omit hk hby hbr hm in
/-- The source, its elements k cells each. -/
theorem app_src : ∃ c2 f a2, v2 = .slice a2 new.length c2 ∧ (∀ x ∈ new, x.cells.length = k) ∧ (∀ (i : Nat) (av : AV), (flat new)[i]? = some av → Rep0 F w (f i) av) ∧ Src P k tx v2 new.length ((List.range (new.length * k)).map f) w := by
  obtain ⟨a2, c2, f, rfl, hr, hw, hc⟩ := els_row h hy hels
  obtain ⟨e', htx⟩ := he.tx
  rcases hk' with rfl | rfl
  · exact ⟨c2, f, a2, rfl, hw, hc, src_of htx hr hw hc hpu (.inl rfl)⟩
  · have := src_of (P := P) (k := k') (size := k) htx hr hw hc hpu (.inr rfl)
    exact ⟨c2, f, a2, rfl, by simp, hc, by simpa using this⟩

omit hk in
theorem g_app_nil : Good P w0 N ρ F a w (Builtin.append_ #[t, tx] ty #[.slice none 0 0, v2]) bb 0 br 1 (σ.setR br (some ⟨false, k, new⟩)) (.ref br k 0 new.length) := by
  obtain ⟨c2, f, a2, rfl, hw, hc, hs⟩ := app_src he h hy hels hk' hpu
  obtain ⟨i, z, hi, hz, hsz, hbt, hzs⟩ := he.i
  by_cases h0 : new = []
  · subst h0
    have hr := run_app_room (P := P) (w := w) (ty := ty) he.t hi none 0 0 _ _ _ (by rw [hsz]; exact hs) (by simp)
    refine ⟨_, w, ρ.addR br ⟨0, 0, 0⟩, F, hr, .newR hbr, h.newRow hbr (Below.refl _ _) (fun e => by simp at e) (vrow_new [] rfl), ?_⟩
    exact .ref _ _ _ _ _ _ ⟨0, 0, 0⟩ (by simp [Env.addR]) (Nat.le_refl _) (Nat.zero_le _) (by simp) (fun _ => rfl) (by simp)
  · have hpos : 0 < new.length := List.length_pos_iff.2 h0
    have hge := grownCap_ge w (0 + new.length) 0 e
    have hcm := grownCap_le_maxLen w (0 + new.length) 0 e (by unfold maxLen; omega)
    have hby2 : (0 + new.length) * i.bytes ≤ 140737488355328 := by
      rw [hbt]; exact Nat.le_trans (Nat.mul_le_mul (show 0 + new.length ≤ 1000000 by omega) hby) (by decide)
    have hr := run_append_grow_src (P := P) (w := w) t tx ty e i z he.t hi hz none 0 0 [] (by simp [Builtin.firstCells]) _ _ _ (by rw [hsz]; exact hs) (by omega) (by omega) (growslice_fits (by omega) hby2)
    obtain ⟨g1, g2, g3⟩ := new_row2 (k := k) (e := e) (br := br) h hbr hzs (olds := []) (news := (List.range (new.length * k)).map f) (es1 := []) (es2 := new) (by simp) hw (by simp) (by simp) (by simp [flat]) (range_reps hw hc) (grownCap w (0 + new.length) 0 e) (by simpa using hge) hcm
    refine ⟨_, _, ρ.addR br ⟨w.heap.size, 0, grownCap w (0 + new.length) 0 e * k⟩, F, hr, .newR hbr, ?_, ?_⟩
    · simpa using g1
    · simpa using g2

theorem g_app_csl {vol : Bool} {es : List AV} {v1 : Value} (hv : Rep ρ w0.V F w v1 (.csl vol k es)) (hn : es.length ≤ 1000000) : Good P w0 N ρ F a w (Builtin.append_ #[t, tx] ty #[v1, v2]) bb 0 br 0 σ (.sl vol k (es ++ new)) := by
  obtain ⟨c2, f, a2, rfl, hw, hc, hs⟩ := app_src he h hy hels hk' hpu
  obtain ⟨i, z, hi, hz, hsz, hbt, hzs⟩ := he.i
  obtain ⟨ad, g, rfl, hw1, hr1, hc1⟩ := hv.csl_inv
  by_cases h0 : new = []
  · subst h0
    have hr := run_app_room (P := P) (w := w) (ty := ty) he.t hi ad es.length es.length _ _ _ (by rw [hsz]; exact hs) (by simp)
    refine ⟨.slice ad (es.length + 0) es.length, w, ρ, F, ?_, .refl _ _ _ _ _, h, ?_⟩
    · simp only [List.length_nil] at hr ⊢
      rw [hr]; cases ad <;> simp [storeCells]
    · rw [List.append_nil]; exact hv.csl_sl
  · have hpos : 0 < new.length := List.length_pos_iff.2 h0
    have hge := grownCap_ge w (es.length + new.length) es.length e
    have hcm := grownCap_le_maxLen w (es.length + new.length) es.length e (by unfold maxLen; omega)
    have hby2 : (es.length + new.length) * i.bytes ≤ 140737488355328 := by
      rw [hbt]; exact Nat.le_trans (Nat.mul_le_mul (show es.length + new.length ≤ 2000000 by omega) hby) (by decide)
    have hold : (Builtin.firstCells i.size es.length (.slice ad es.length es.length)).run P w.drew = .ok ((List.range (es.length * k)).map g).toArray w.drew := by
      cases ad with
      | none =>
        have h00 : es = [] := List.eq_nil_of_length_eq_zero (by have := hr1.nil rfl; omega)
        subst h00
        simp [Builtin.firstCells]
      | some ad =>
        refine run_firstCells_some (P := P) w.drew i.size es.length ad es.length es.length _ (by rw [hsz]; simp) fun j u hu => ?_
        rw [List.getElem?_map] at hu
        by_cases hj : j < es.length * k
        · rw [List.getElem?_range hj] at hu
          cases hu
          exact hr1.cell ad rfl j hj
        · rw [List.getElem?_eq_none (by simpa using hj)] at hu; cases hu
    have hr := run_append_grow_src (P := P) (w := w) t tx ty e i z he.t hi hz ad es.length es.length _ hold _ _ _ (by rw [hsz]; exact hs) (by omega) (by omega) (growslice_fits (by omega) hby2)
    obtain ⟨-, -, g3⟩ := new_row2 (k := k) (e := e) (br := br) h hbr hzs (olds := (List.range (es.length * k)).map g) (news := (List.range (new.length * k)).map f) (es1 := es) (es2 := new) hw1 hw (by simp) (by simp) (range_reps hw1 hc1) (range_reps hw hc) (grownCap w (es.length + new.length) es.length e) hge hcm
    have hbel : Below w.heap.size w (w.drew.alloc (.cells (((List.range (es.length * k)).map g ++ (List.range (new.length * k)).map f).toArray ++ Builtin.zeroCells z.cells (grownCap w (es.length + new.length) es.length e - (es.length + new.length))) e)) := ((Below.refl _ _).drew).alloc (Nat.le_refl _) _
    refine ⟨_, _, ρ, fun x => F x ∨ x = w.heap.size, hr, ⟨ρ.le_refl, fun _ hx => .inl hx, fun _ hx => .inl hx, fun _ hx => .inl hx, fun x hx => hx.elim .inl fun e => .inr (by rw [e]; exact h.bel.fresh (Nat.le_refl _))⟩, h.addF hbel (Nat.le_refl _) (by simp), ?_⟩
    obtain ⟨q1, q2, q3⟩ := g3
    dsimp only at q1 q2 q3
    have hlen : (es ++ new).length = es.length + new.length := List.length_append
    rcases q3 with q3 | ⟨-, -, cs, T, fr, q5, q6, q7, q8⟩
    · exfalso
      have : 0 < grownCap w (es.length + new.length) es.length e * k := Nat.mul_pos (by omega) hk
      omega
    · have hcells : ∀ j, j < (es.length + new.length) * k → (w.drew.alloc (.cells (((List.range (es.length * k)).map g ++ (List.range (new.length * k)).map f).toArray ++ Builtin.zeroCells z.cells (grownCap w (es.length + new.length) es.length e - (es.length + new.length))) e)).cell? ((⟨w.heap.size, 0, none⟩ : Addr).add j) = some (cs.getD j undef) := fun j hj => by
        have hle : (es.length + new.length) * k ≤ grownCap w (es.length + new.length) es.length e * k := Nat.mul_le_mul_right k hge
        rw [add_lit, cell_of_row _ _ _ cs T fr q5]
        simp [Array.getD, show j < cs.size by omega]
      have hreps : ∀ (j : Nat) (av : AV), (flat (es ++ new))[j]? = some av → Rep0 (fun x => F x ∨ x = w.heap.size) (w.drew.alloc (.cells (((List.range (es.length * k)).map g ++ (List.range (new.length * k)).map f).toArray ++ Builtin.zeroCells z.cells (grownCap w (es.length + new.length) es.length e - (es.length + new.length))) e)) (cs.getD j undef) av := fun j av hj => by
        obtain ⟨u, r1, r2⟩ := q8 j av hj
        simp only [Nat.zero_add] at r1
        have hlt := (Array.getElem?_eq_some_iff.1 r1)
        rw [show cs.getD j undef = u by simp [Array.getD, hlt.1, hlt.2]]
        exact r2.mono (Agree.refl _ _) fun _ hx => .inl hx
      have hrow : ∀ L : Nat → Prop, L w.heap.size → RowAt (w.drew.alloc (.cells (((List.range (es.length * k)).map g ++ (List.range (new.length * k)).map f).toArray ++ Builtin.zeroCells z.cells (grownCap w (es.length + new.length) es.length e - (es.length + new.length))) e)) L (some ⟨w.heap.size, 0, none⟩) (es.length + new.length) (grownCap w (es.length + new.length) es.length e) ((es.length + new.length) * k) (fun j => cs.getD j undef) := fun L hL =>
        ⟨hge, hcm, by simp, (fun ad e _ => by cases e; exact hL), (fun ad e j hj => by cases e; exact hcells j hj)⟩
      cases vol
      · exact .pure _ _ (.sl _ _ _ _ _ _ hlen q1 (hrow _ (.inr rfl)) hreps)
      · exact .vsl _ _ _ _ _ _ hlen q1 (hrow _ (.inr (.inr rfl))) hreps

theorem g_app_ref {b lo n : Nat} {r : ARow} {v1 : Value} (hv : Rep ρ w0.V F w v1 (.ref b k lo n)) (hb : σ.rw b = some r) (hrk : r.k = k) (hf : r.fro = false) (hlo : lo + n ≤ r.es.length) (hn : n ≤ 1000000) :
    Good P w0 N ρ F a w (Builtin.append_ #[t, tx] ty #[v1, v2]) bb 0 br 1 ((σ.setR b none).setR br (some ⟨false, k, (r.es.drop lo).take n ++ new⟩)) (.ref br k 0 (n + new.length)) := by
  obtain ⟨c2, f, a2, rfl, hw, hc, hs⟩ := app_src he h hy hels hk' hpu
  obtain ⟨i, z, hi, hz, hsz, hbt, hzs⟩ := he.i
  obtain ⟨ad, c, p, rfl, hp, hnc, hcm, hlim, hnn, ha⟩ := hv.ref_inv
  obtain ⟨ad', c', p', g, e1, hp', hra, hw1, hlen1, hc1⟩ := ref_row h hv hb hrk hlo
  cases e1
  rw [hp] at hp'; cases hp'
  have hbne : b ≠ br := by rintro rfl; rw [hbr] at hp; cases hp
  by_cases hroom : n + new.length ≤ c
  · have hr := run_app_room (P := P) (w := w) (ty := ty) he.t hi ad n c _ _ _ (by rw [hsz]; exact hs) hroom
    by_cases hc0 : c = 0
    · -- nothing at all
      have hn0 : n = 0 := by omega
      have hnew : new = [] := List.eq_nil_of_length_eq_zero (by omega)
      subst hnew
      have hes : (r.es.drop lo).take n = [] := by rw [hn0]; rfl
      rw [hes]
      refine ⟨.slice ad (n + 0) c, w, ρ.addR br ⟨0, 0, 0⟩, F, ?_, .newR hbr, ?_, ?_⟩
      · simp only [List.length_nil] at hr ⊢
        rw [hr]; cases ad <;> simp [storeCells]
      · exact h.moveRow hbne hbr hb hp hf (fun hl => absurd hl (by simp)) (vrow_new [] rfl)
      · exact .ref _ _ _ _ _ _ ⟨0, 0, 0⟩ (by simp [Env.addR]) (by simpa using hnc) hcm (by simp [hc0]) hnn (fun e => absurd hc0 e)
    · have had := ha hc0
      subst had
      have hpos : 0 < c * k := Nat.mul_pos (by omega) hk
      have hlk : lo * k + c * k ≤ p.lim := by rw [← Nat.add_mul]; exact hlim
      have hnm : n * k + new.length * k ≤ c * k := by rw [← Nat.add_mul]; exact Nat.mul_le_mul_right k hroom
      obtain ⟨h1, h2, h3⟩ := h.rw b r p hb hp
      have hwf := width_flat h1
      rcases h3 with h3 | ⟨h3, h4, cs, T, fr, h5, h6, h7, h8⟩
      · omega
      · have := h7 hf
        subst this
        have hnl : ((List.range (new.length * k)).map f).length = new.length * k := by simp
        obtain ⟨w', cur', s1, s2, s3, s4, f1, f2, f3, f4, f5⟩ := store_mem (P := P) h5 (news := (List.range (new.length * k)).map f) (o := p.off + lo * k + n * k) (by rw [hnl]; omega) hs.one
        have hw1' : ∀ x ∈ r.es.take (lo + n), x.cells.length = r.k := fun x hx => h1 x (List.mem_of_mem_take hx)
        have hft : flat (r.es.take (lo + n)) = (flat r.es).take ((lo + n) * r.k) := flat_take h1 _
        have hsim := h.writeRow (r' := ⟨false, k, r.es.take (lo + n)⟩) hb hp hf rfl (by omega) f1 f2 f3 f4 f5 fun hA => ⟨by rw [← hrk]; exact hw1', by dsimp only; rw [hft, List.length_take]; omega, .inr ⟨(fun e => by cases e), fun _ => h4 hf, cur', T, (0, 0), s2, by omega, fun _ => rfl, fun j av hj => by
          dsimp only at hj
          rw [hft, List.getElem?_take] at hj
          split at hj
          · rename_i hjl
            obtain ⟨u, q1, q2⟩ := h8 j av hj
            refine ⟨u, ?_, q2.mono hA fun _ hx => hx⟩
            rw [s4, if_neg ?_]
            · exact q1
            · rw [hrk, Nat.add_mul] at hjl; omega
          · cases hj⟩⟩
        have hA : Agree F w w' := fun x hx => f5 x (by rintro rfl; exact (h4 hf).2 hx)
        have hwall : ∀ x ∈ (r.es.drop lo).take n ++ new, x.cells.length = k := fun x hx => (List.mem_append.1 hx).elim (hw1 x) (hw x)
        have hlall : ((r.es.drop lo).take n ++ new).length = n + new.length := by rw [List.length_append, hlen1]
        have hmv := hsim.moveRow (b' := br) (r := ⟨false, k, r.es.take (lo + n)⟩) (r' := ⟨false, k, (r.es.drop lo).take n ++ new⟩) (p' := ⟨p.blk, p.off + lo * k, p.lim - lo * k⟩) hbne hbr (by simp [FS.setR]) hp rfl (fun _ => ⟨by omega, rfl⟩) ⟨hwall, by dsimp only; rw [width_flat hwall, hlall, Nat.add_mul]; omega, .inr ⟨(fun e => by cases e), fun _ => h4 hf, cur', T, (0, 0), s2, by dsimp only; omega, fun _ => rfl, fun j av hj => by
          dsimp only at hj ⊢
          rw [flat_append] at hj
          have hfl := width_flat hw1
          rw [hlen1] at hfl
          by_cases hjn : j < n * k
          · rw [List.getElem?_append_left (by omega)] at hj
            have hwd : ∀ e ∈ r.es.drop lo, e.cells.length = k := fun e he => hrk ▸ h1 e (List.mem_of_mem_drop he)
            rw [flat_take hwd, flat_drop (k := k) (fun e he => hrk ▸ h1 e he), List.getElem?_take, if_pos hjn, List.getElem?_drop] at hj
            obtain ⟨u, q1, q2⟩ := h8 _ av hj
            refine ⟨u, ?_, q2.mono hA fun _ hx => hx⟩
            rw [s4, if_neg (by omega), ← q1]; congr 1; omega
          · rw [List.getElem?_append_right (by omega), hfl] at hj
            have hjl := (List.getElem?_eq_some_iff.1 hj).1
            rw [width_flat hw] at hjl
            refine ⟨f (j - n * k), ?_, (hc _ _ hj).mono hA fun _ hx => hx⟩
            rw [s4, if_pos (by rw [hnl]; omega)]
            rw [List.getElem?_map, show p.off + lo * k + j - (p.off + lo * k + n * k) = j - n * k by omega, List.getElem?_range hjl]; rfl⟩⟩
        have hset : ((σ.setR b (some ⟨false, k, r.es.take (lo + n)⟩)).setR b none).setR br (some ⟨false, k, (r.es.drop lo).take n ++ new⟩) = (σ.setR b none).setR br (some ⟨false, k, (r.es.drop lo).take n ++ new⟩) := by
          unfold FS.setR; congr 1; funext x; dsimp only; split
          · rfl
          · split <;> rfl
        rw [hset] at hmv
        refine ⟨.slice (some ⟨p.blk, p.off + lo * k, none⟩) (n + new.length) c, w', _, F, ?_, .newR hbr, hmv, ?_⟩
        · rw [hr]; simp only [hsz, add_lit, s1, Result.andThen_ok]
        · refine .ref _ _ _ _ _ _ ⟨p.blk, p.off + lo * k, p.lim - lo * k⟩ (by simp [Env.addR]) hroom hcm ?_ (by simp) (fun _ => by simp)
          dsimp only; rw [Nat.zero_add]; omega
  · have hge := grownCap_ge w (n + new.length) c e
    have hcm2 := grownCap_le_maxLen w (n + new.length) c e (by unfold maxLen; omega)
    have hby2 : (n + new.length) * i.bytes ≤ 140737488355328 := by
      rw [hbt]; exact Nat.le_trans (Nat.mul_le_mul (show n + new.length ≤ 2000000 by omega) hby) (by decide)
    have hold : (Builtin.firstCells i.size n (.slice ad n c)).run P w.drew = .ok ((List.range (n * k)).map g).toArray w.drew := by
      cases ad with
      | none =>
        have h00 : n = 0 := by have := hnn rfl; omega
        subst h00
        simp [Builtin.firstCells]
      | some ad =>
        refine run_firstCells_some (P := P) w.drew i.size n ad n c _ (by rw [hsz]; simp) fun j u hu => ?_
        rw [List.getElem?_map] at hu
        by_cases hj : j < n * k
        · rw [List.getElem?_range hj] at hu
          cases hu
          exact hra.cell ad rfl j hj
        · rw [List.getElem?_eq_none (by simpa using hj)] at hu; cases hu
    have hr := run_append_grow_src (P := P) (w := w) t tx ty e i z he.t hi hz ad n c _ hold _ _ _ (by rw [hsz]; exact hs) (by omega) (by omega) (growslice_fits (by omega) hby2)
    have hrr := range_reps (w := w) (F := F) hw1 hc1
    rw [hlen1] at hrr
    obtain ⟨g1, g2, -⟩ := new_row2 (k := k) (e := e) (br := br) (h.dropRow b) hbr hzs (olds := (List.range (n * k)).map g) (news := (List.range (new.length * k)).map f) (es1 := (r.es.drop lo).take n) (es2 := new) hw1 hw (by simp [hlen1]) (by simp) hrr (range_reps hw hc) (grownCap w (n + new.length) c e) (by rw [hlen1]; exact hge) hcm2
    rw [hlen1] at g1 g2
    exact ⟨_, _, _, F, hr, .newR hbr, g1, g2⟩
end
end
end Go.Proofs.Ytiejnmbpejfpgaa
