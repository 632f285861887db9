/- That the operations on abstract values are the program's: copy, clear, make, a string's bytes. -/
import Derived.Test.YtiejnmbpejfpgaaAx11
namespace Go.Proofs.Ytiejnmbpejfpgaa
open Go.RowKit
set_option linter.unusedVariables false

theorem flat_rep {e : AV} {k n i : Nat} (hk : e.cells.length = k) (hi : i < n * k) : (flat (List.replicate n e))[i]? = e.cells[i % k]? := by
  have hk0 : 0 < k := by rcases Nat.eq_zero_or_pos k with h | h; subst h; simp at hi; exact h
  have hj : i / k < n := Nat.div_lt_of_lt_mul (by rw [Nat.mul_comm]; exact hi)
  have h1 := flat_get (es := List.replicate n e) (k := k) (fun x hx => by rw [List.eq_of_mem_replicate hx]; exact hk) (j := i / k) (e := e) (by rw [List.getElem?_replicate, if_pos hj]) (i := i % k) (Nat.mod_lt _ hk0)
  rw [← h1, Nat.mul_comm, Nat.div_add_mod]

section
variable {P : Program} {w0 : Base} {N : Nat} {ρ : Env} {F : Nat → Prop} {σ : FS} {a : Act} {w : World}

theorem zero_rep {z : Value} {k : Nat} (hp : pureV (cst z) = true) (hl : (cst z).cells.length = k) (F : Nat → Prop) (w : World) (n : Nat) : ∀ (i : Nat) (av : AV), (flat (List.replicate n (cst z)))[i]? = some av → i < n * k ∧ ∃ u, z.cells[i % k]? = some u ∧ Rep0 F w u av ∧ u.oneCell' = true := by
  intro i av e
  have hi := (List.getElem?_eq_some_iff.1 e).1
  rw [width_flat (k := k) (fun x hx => by rw [List.eq_of_mem_replicate hx]; exact hl), List.length_replicate] at hi
  rw [flat_rep hl hi] at e
  have hok := pureV_ok hp
  obtain ⟨d1, d2⟩ := okV_cells0 (cst_rep F w z) hok
  obtain ⟨_, _, d3⟩ := okV_cells (ρ := Env.none) (B := V0) (.pure _ _ (cst_rep F w z)) hok
  have hm : i % k < (cst z).cells.length := (List.getElem?_eq_some_iff.1 e).1
  have e1 : z.cells[i % k]? = some (z.cells[i % k]'(by omega)) := Array.getElem?_eq_getElem (by omega)
  exact ⟨hi, _, e1, d2 _ _ _ e1 e, d3 _ (by simp)⟩

theorem g_mks {t e : TypeId} {i : TypeInfo} {z : Value} {k by_ : Nat} (ht : P.underlying t = some (.slice e)) (hi : P.info? e = some i) (hz : i.zero = some z) (hk : i.size = k) (hb : i.bytes = by_) (h : Sim w0 N ρ F σ a w) {bb br : Nat} (hbr : ρ.r br = none) {kl kc : IntKind} {n : Int} (h0 : 0 ≤ n) (hn : n ≤ 1000000) (hby : by_ ≤ 1000000) (hp : pureV (cst z) = true) (hl : (cst z).cells.length = k) :
    Good P w0 N ρ F a w (Instr.makeSlice t (.int kl n) (.int kc n)) bb 0 br 1 (σ.setR br (some ⟨false, k, List.replicate n.toNat (cst z)⟩)) (.ref br k 0 n.toNat) := by
  have hmul : (i.bytes : Int) * n ≤ 281474976710656 := by
    rw [hb]
    have h1 : (by_ : Int) * n ≤ 1000000 * 1000000 := Int.mul_le_mul (by omega) hn h0 (by decide)
    omega
  have hr := run_make (P := P) w t e i z ht hi hz kl kc n n h0 (Int.le_refl _) hmul (by omega)
  rw [hk] at hr
  have hbel : Below w.heap.size w (w.alloc (.cells (madeCells z.cells (n.toNat * k)) e)) := (Below.refl _ _).alloc (Nat.le_refl _) _
  have hrow := rowOk_new (k := k) (c := n.toNat) (es := List.replicate n.toNat (cst z)) h hbel (heap_alloc_new w _) (fun x hx => by rw [List.eq_of_mem_replicate hx]; exact hl) (by rw [size_madeCells]; exact Nat.le_refl _) (by simp) (fun j av g => by
    obtain ⟨hj, u, e1, e2, _⟩ := zero_rep hp hl F w n.toNat j av g
    refine ⟨u, ?_, e2⟩
    have hzs : z.cells.size = k := by
      have := (okV_cells0 (cst_rep F w z) (pureV_ok hp)).1; omega
    have hm := Array.getElem?_eq_some_iff.1 e1
    unfold madeCells
    rw [Array.getElem?_map, Array.getElem?_range, if_pos hj]
    simp only [Option.map_some, hzs]
    rw [getElem!_pos z.cells (j % k) hm.1, hm.2])
  refine ⟨_, _, ρ.addR br ⟨w.heap.size, 0, n.toNat * k⟩, F, hr, .newR hbr, h.newRow hbr hbel (fun _ => ⟨by simp, Nat.le_refl _⟩) hrow, ?_⟩
  exact .ref _ _ _ _ _ _ ⟨w.heap.size, 0, n.toNat * k⟩ (by simp [Env.addR]) (Nat.le_refl _) (by unfold maxLen; omega) (by simp) (by simp) (fun _ => by simp)

theorem splice_flat {es new : List AV} {k lo : Nat} (hw : ∀ e ∈ es, e.cells.length = k) (hw2 : ∀ e ∈ new, e.cells.length = k) (hfit : lo + new.length ≤ es.length) : flat (es.take lo ++ (new ++ es.drop (lo + new.length))) = putCells (flat es) (lo * k) (flat new) := by
  rw [flat_append, flat_append, flat_take hw, flat_drop hw]
  unfold putCells
  rw [width_flat hw2, Nat.add_mul]
theorem splice_width {es new : List AV} {k lo : Nat} (hw : ∀ e ∈ es, e.cells.length = k) (hw2 : ∀ e ∈ new, e.cells.length = k) : ∀ e ∈ es.take lo ++ (new ++ es.drop (lo + new.length)), e.cells.length = k := fun e he => by
  rcases List.mem_append.1 he with he | he
  · exact hw e (List.mem_of_mem_take he)
  · rcases List.mem_append.1 he with he | he
    · exact hw2 e he
    · exact hw e (List.mem_of_mem_drop he)

theorem g_cpy {dT sT ty e : TypeId} {k : Nat} (hd : P.underlying dT = some (.slice e)) (hsz : szOf P e = some k) (hk : 0 < k) (h : Sim w0 N ρ F σ a w) {bb br : Nat} {v1 v2 : Value} {b lo n : Nat} {r : ARow} {y : AV} {k' : Nat} {src : List AV} (hv : Rep ρ w0.V F w v1 (.ref b k lo n)) (hb : σ.rw b = some r) (hrk : r.k = k) (hf : r.fro = false) (hlo : lo + n ≤ r.es.length)
    (hy : Rep ρ w0.V F w v2 y) (hels : els σ.rw y = some (k', src)) (hk' : k' = k ∨ src = []) (hpu : (src.take n).all pureV = true) :
    Good P w0 N ρ F a w (Builtin.copy_ #[dT, sT] ty #[v1, v2]) bb 0 br 0 (σ.setR b (some { r with es := r.es.take lo ++ (src.take n ++ r.es.drop (lo + min src.length n)) })) (.int .i64 (min src.length n)) := by
  obtain ⟨a2, c2, f, rfl, hr2, hw2, hc2⟩ := els_row h hy hels
  obtain ⟨ad, c, p, rfl, hp, hnc, hcm, hlim, hnn, ha⟩ := hv.ref_inv
  have hw2k : ∀ x ∈ src, x.cells.length = k := by
    rcases hk' with rfl | rfl
    · exact hw2
    · simp
  obtain ⟨q, hq⟩ : ∃ q, min src.length n = q := ⟨_, rfl⟩
  have hmin : Nat.min src.length n = q := hq
  have hval : ((min (src.length : Int) n : Int)) = (q : Int) := by omega
  have hrow1 := (h.rw b r p hb hp).1
  rw [hval, hq]
  have htake : src.take n = src.take q := by
    rcases Nat.le_total src.length n with hle | hle
    · rw [List.take_of_length_le hle, List.take_of_length_le (by omega)]
    · rw [show q = n by omega]
  have hlq : (src.take q).length = q := by simp; omega
  rw [htake]
  have hes' : r.es.take lo ++ (src.take q ++ r.es.drop (lo + q)) = r.es.take lo ++ (src.take q ++ r.es.drop (lo + (src.take q).length)) := by rw [hlq]
  have hwt : ∀ x ∈ src.take q, x.cells.length = k := fun x hx => hw2k x (List.mem_of_mem_take hx)
  have hfc : (Builtin.firstCells k q (.slice a2 src.length c2)).run P w = .ok ((List.range (q * k)).map f).toArray w := by
    cases a2 with
    | none =>
      have : src.length = 0 := by have := hr2.nil rfl; have := hr2.cap; omega
      have hq0 : q = 0 := by omega
      subst hq0; simp [Builtin.firstCells]
    | some a2 =>
      refine run_firstCells_some (P := P) w k q a2 src.length c2 _ (by simp) fun j u hu => ?_
      rw [List.getElem?_map] at hu
      by_cases hj : j < q * k
      · rw [List.getElem?_range hj] at hu
        cases hu
        refine hr2.cell a2 rfl j ?_
        rcases hk' with rfl | rfl
        · exact Nat.lt_of_lt_of_le hj (Nat.mul_le_mul_right _ (by omega))
        · simp at hq; subst hq; simp at hj
      · rw [List.getElem?_eq_none (by simpa using hj)] at hu; cases hu
  have hbase : (Builtin.copy_ #[dT, sT] ty #[.slice ad n c, .slice a2 src.length c2]).run P w = (match ad with | some x => ((storeCells x ((List.range (q * k)).map f)).run P w).andThen fun _ w' => .ok (goInt q) w' | none => .ok (goInt q) w) := by
    cases ad <;> simp [Builtin.copy_, run_underlying hd, Builtin.lenOf, run_sizeOf' hsz, hfc, hmin]
  by_cases hq0 : q = 0
  · subst hq0
    have : r.es.take lo ++ (src.take 0 ++ r.es.drop (lo + 0)) = r.es := by simp
    rw [this, FS.setR_same (by rw [hb])]
    refine ⟨.int .i64 (0 : Nat), w, ρ, F, ?_, .refl _ _ _ _ _, h, rep_int _ _⟩
    rw [hbase]; cases ad <;> simp [storeCells, goInt]
  · have hc0 : c ≠ 0 := by omega
    have had := ha hc0
    subst had
    rw [hes']
    have hone : ∀ u ∈ (List.range (q * k)).map f, u.oneCell' = true := fun u hu => by
      obtain ⟨j, hj, rfl⟩ := List.mem_map.1 hu
      simp at hj
      have hjl : j < (flat (src.take q)).length := by
        rw [width_flat hwt, hlq]; exact hj
      obtain ⟨x, e1⟩ : ∃ x, (flat (src.take q))[j]? = some x := ⟨_, List.getElem?_eq_getElem hjl⟩
      have hx := List.mem_of_getElem? e1
      rw [flat_take hw2k, List.getElem?_take, if_pos hj] at e1
      exact (scal_one (ρ := Env.none) (B := V0) (.pure _ _ (hc2 j _ e1)) (pureC_scal (pureV_cells (by rw [← htake]; exact hpu) _ hx))).1
    have hwf := width_flat hrow1
    have hft := width_flat hwt
    rw [hlq] at hft
    have hfit2 : lo * k + q * k ≤ r.es.length * r.k := by
      rw [hrk, ← Nat.add_mul]; exact Nat.mul_le_mul_right _ (by omega)
    obtain ⟨w', e1, e2⟩ := write_row (P := P) h hb hp hf (o := lo * k) (news := (List.range (q * k)).map f) (avs := flat (src.take q)) (by simp [hft]) (by intro e; have : 0 < q * k := Nat.mul_pos (by omega) hk; rw [← hft, e] at this; simp at this) (by rw [hft, hwf]; exact hfit2) (fun j u av g1 g2 => by
      rw [List.getElem?_map] at g1
      have hj := (List.getElem?_eq_some_iff.1 g2).1
      rw [hft] at hj
      rw [List.getElem?_range hj] at g1
      cases g1
      rw [flat_take hw2k, List.getElem?_take, if_pos hj] at g2
      exact hc2 j av g2) hone (es' := r.es.take lo ++ (src.take q ++ r.es.drop (lo + (src.take q).length))) (splice_width hrow1 (by rw [hrk]; exact hwt)) (by rw [← hrk] at hwt ⊢; exact splice_flat hrow1 hwt (by omega))
    refine ⟨.int .i64 q, w', ρ, F, ?_, .refl _ _ _ _ _, e2, rep_int _ _⟩
    rw [hbase]; simp only [e1, Result.andThen_ok]; rfl

theorem g_clr {t ty e : TypeId} {z : Value} {k : Nat} (hd : P.underlying t = some (.slice e)) (hz : zeroOf P e = some z) (hk : 0 < k) (hp : pureV (cst z) = true) (hl : (cst z).cells.length = k) (h : Sim w0 N ρ F σ a w) {bb br : Nat} {v : Value} {b lo n : Nat} {r : ARow} (hv : Rep ρ w0.V F w v (.ref b k lo n)) (hb : σ.rw b = some r) (hrk : r.k = k) (hf : r.fro = false) (hlo : lo + n ≤ r.es.length) :
    Good P w0 N ρ F a w (Builtin.clear_ #[t] ty #[v]) bb 0 br 0 (σ.setR b (some { r with es := r.es.take lo ++ (List.replicate n (cst z) ++ r.es.drop (lo + n)) })) .any := by
  obtain ⟨ad, c, p, rfl, hpp, hnc, hcm, hlim, hnn, ha⟩ := hv.ref_inv
  have hrow1 := (h.rw b r p hb hpp).1
  by_cases hn0 : n = 0
  · subst hn0
    have : r.es.take lo ++ (List.replicate 0 (cst z) ++ r.es.drop (lo + 0)) = r.es := by simp
    rw [this, FS.setR_same (by rw [hb])]
    refine ⟨.tuple #[], w, ρ, F, ?_, .refl _ _ _ _ _, h, .any _⟩
    cases ad <;> simp [Builtin.clear_, run_underlying hd]
  · have had := ha (by omega)
    subst had
    have hzs : z.cells.size = k := by
      have := (okV_cells0 (cst_rep F w z) (pureV_ok hp)).1; omega
    have hzv : (zeroValue e).run P w = .ok z w := by
      unfold zeroOf at hz
      cases hi : P.info? e with
      | none => rw [hi] at hz; cases hz
      | some i => rw [hi] at hz; simp at hz; simp [zeroValue, typeInfo, hi, hz]
    have hrun : (Builtin.clear_ #[t] ty #[.slice (some ⟨p.blk, p.off + lo * k, none⟩) n c]).run P w = ((storeCells ⟨p.blk, p.off + lo * k, none⟩ (Builtin.zeroCells z.cells n).toList).run P w).andThen fun _ w' => .ok (.tuple #[]) w' := by
      obtain ⟨m, rfl⟩ : ∃ m, n = m + 1 := ⟨n - 1, by omega⟩
      simp [Builtin.clear_, run_underlying hd, hzv]
    have hwr : ∀ x ∈ List.replicate n (cst z), x.cells.length = k := fun x hx => by rw [List.eq_of_mem_replicate hx]; exact hl
    have hfl := width_flat hwr
    rw [List.length_replicate] at hfl
    have hwf := width_flat hrow1
    have hpos : 0 < n * k := Nat.mul_pos (by omega) hk
    have hfit2 : lo * k + n * k ≤ r.es.length * r.k := by
      rw [hrk, ← Nat.add_mul]; exact Nat.mul_le_mul_right _ hlo
    have hget : ∀ (j : Nat) (av : AV), (flat (List.replicate n (cst z)))[j]? = some av → ∃ u, (Builtin.zeroCells z.cells n).toList[j]? = some u ∧ Rep0 F w u av ∧ u.oneCell' = true := fun j av g => by
      obtain ⟨hj, u, e1, e2, e3⟩ := zero_rep hp hl F w n j av g
      refine ⟨u, ?_, e2, e3⟩
      have hm := Array.getElem?_eq_some_iff.1 e1
      unfold Builtin.zeroCells
      rw [Array.getElem?_toList, Array.getElem?_map, Array.getElem?_range, hzs, if_pos hj]
      simp only [Option.map_some]
      rw [getElem!_pos z.cells (j % k) hm.1, hm.2]
    have hnl : (Builtin.zeroCells z.cells n).toList.length = n * k := by simp [size_zeroCells, hzs]
    obtain ⟨w', e1, e2⟩ := write_row (P := P) h hb hpp hf (o := lo * k) (news := (Builtin.zeroCells z.cells n).toList) (avs := flat (List.replicate n (cst z))) (by rw [hnl, hfl]) (by intro e; rw [e] at hfl; simp at hfl; omega) (by rw [hfl, hwf]; exact hfit2) (fun j u av g1 g2 => by
      obtain ⟨u', q1, q2, _⟩ := hget j av g2
      rw [g1] at q1; cases q1; exact q2) (fun u hu => by
      obtain ⟨j, hj, e⟩ := List.getElem_of_mem hu
      have g1 : (Builtin.zeroCells z.cells n).toList[j]? = some u := by rw [List.getElem?_eq_getElem hj, e]
      obtain ⟨av, g2⟩ : ∃ av, (flat (List.replicate n (cst z)))[j]? = some av := ⟨_, List.getElem?_eq_getElem (by rw [hfl]; omega)⟩
      obtain ⟨u', q1, _, q3⟩ := hget j av g2
      rw [g1] at q1; cases q1; exact q3) (es' := r.es.take lo ++ (List.replicate n (cst z) ++ r.es.drop (lo + (List.replicate n (cst z)).length))) (splice_width hrow1 (by rw [hrk]; exact hwr)) (by rw [← hrk] at hwr ⊢; exact splice_flat hrow1 hwr (by rw [List.length_replicate]; omega))
    rw [List.length_replicate] at e2
    exact ⟨.tuple #[], w', ρ, F, by rw [hrun, e1]; rfl, .refl _ _ _ _ _, e2, .any _⟩

/-- An own row that is marked, and that nobody writes any more. -/
theorem Sim.markRow (h : Sim w0 N ρ F σ a w) {b : Nat} {r : ARow} {p : Pl} (hb : σ.rw b = some r) (hp : ρ.r b = some p) (hf : r.fro = false) (hlim : 0 < p.lim) {w' : World} (hos : w'.os = w.os) (htp : w'.tape = w.tape) (hout : w'.output = w.output) (hsz : w'.heap.size = w.heap.size)
    (hne : ∀ x, x ≠ p.blk → w'.heap[x]? = w.heap[x]?) (hsame : ∀ cs T fr, w.heap[p.blk]? = some (.cells cs T fr) → ∃ fr', w'.heap[p.blk]? = some (.cells cs T fr')) :
    Sim w0 N ρ (fun x => F x ∨ x = p.blk) (σ.setR b (some { r with fro := true })) a w' := by
  have hok := h.rw b r p hb hp
  have hown : ¬ w0.V p.blk ∧ ¬ F p.blk := by
    rcases hok.2.2 with h3 | ⟨_, h3, _⟩
    · omega
    · exact h3 hf
  have hA : Agree (fun x => w0.V x ∨ F x) w w' := fun x hx => hne x (by rintro rfl; rcases hx with hx | hx; exact hown.1 hx; exact hown.2 hx)
  have hA0 : Agree F w w' := fun x hx => hA x (.inr hx)
  refine ⟨h.sz, h.df, fun t => (h.tm t).mono ρ.le_refl hA (fun _ hx => .inl hx) (fun _ hx => .inl hx), fun x c g e1 e2 => ?_, fun x r2 p2 e1 e2 => ?_, h.ib, fun x y p1 p2 r1 r2 e1 e2 e3 e4 f1 f2 l1 l2 hq => ?_, h.ibr, fun x g e => hsz ▸ h.lb x g e, fun x p e hl => hsz ▸ h.lr x p e hl, fun x hx => ?_, h.bel.step hos hout (by omega) fun k hk => hne k (by rintro rfl; exact hown.1 hk)⟩
  · have hgp : g ≠ p.blk := fun e => h.ibr _ _ _ _ e2 hp hlim e.symm
    refine (h.bx x c g e1 e2).mono ρ.le_refl hA (hne _ hgp) (fun _ hx => .inl hx) ?_
    rintro (hx | hx)
    · exact (h.bx x c g e1 e2).2.1 hx
    · exact hgp hx
  · simp only [FS.setR] at e1
    by_cases hx : x = b
    · rw [if_pos hx] at e1; cases e1
      rw [hx, hp] at e2; cases e2
      obtain ⟨h1, h2, h3⟩ := hok
      refine ⟨h1, h2, ?_⟩
      rcases h3 with h3 | ⟨h3, h4, cs, T, fr, h5, h6, h7, h8⟩
      · exact .inl h3
      · obtain ⟨fr', h9⟩ := hsame cs T fr h5
        exact .inr ⟨fun _ => .inr rfl, (fun e => absurd e (by simp)), cs, T, fr', h9, h6, (fun e => absurd e (by simp)), fun i av e => let ⟨u, e1, e2⟩ := h8 i av e; ⟨u, e1, e2.mono hA0 fun _ hx => .inl hx⟩⟩
    · rw [if_neg hx] at e1
      cases hf2 : r2.fro
      · have hne2 : 0 < p2.lim → p2.blk ≠ p.blk := fun hl e => hx (h.ir _ _ _ _ _ _ e2 hp e1 hb hf2 hf hl hlim e)
        refine (h.rw x r2 p2 e1 e2).mono hA0 (fun hl => hne _ (hne2 hl)) (fun _ hx => .inl hx) (fun e hl => ?_)
        rintro (hF | hF)
        · rcases (h.rw x r2 p2 e1 e2).2.2 with h3 | ⟨_, h3, _⟩
          · omega
          · exact (h3 e).2 hF
        · exact hne2 hl hF
      · refine (h.rw x r2 p2 e1 e2).mono hA0 (fun hl => ?_) (fun _ hx => .inl hx) (fun e hl => by rw [hf2] at e; cases e)
        rcases (h.rw x r2 p2 e1 e2).2.2 with h3 | ⟨h3, _, _⟩
        · omega
        · exact hA0 _ (h3 hf2)
  · simp only [FS.setR] at e3 e4
    split at e3
    · cases e3; cases f1
    · split at e4
      · cases e4; cases f2
      · exact h.ir _ _ _ _ _ _ e1 e2 e3 e4 f1 f2 l1 l2 hq
  · rcases hx with hx | rfl
    · rw [hsz]; exact h.fl x hx
    · rw [hsz]; exact h.lr b p hp hlim
theorem g_mvL {src e : TypeId} (h : Sim w0 N ρ F σ a w) {bb br : Nat} (hs : P.underlying src = some (.slice e)) (he : P.underlying e = some (.int .u8)) {v : Value} {b k lo n : Nat} {r : ARow} (hv : Rep ρ w0.V F w v (.ref b k lo n)) (hr : σ.rw b = some r) (hk : r.k = k) (hlen : lo + n ≤ r.es.length) (hf : r.fro = false) (hn : 0 < n) (hk0 : 0 < k) :
    Good P w0 N ρ F a w (convert src src v) bb 0 br 0 (σ.setR b (some { r with fro := true })) (.sl false k ((r.es.drop lo).take n)) := by
  obtain ⟨ad, c, p, rfl, hp, h1, h2, h3, h4, h5⟩ := hv.ref_inv
  have had := h5 (by omega)
  subst had
  have hlim : 0 < p.lim := by
    have : 0 < (lo + c) * k := Nat.mul_pos (by omega) hk0
    omega
  obtain ⟨_, _, q⟩ := h.rw b r p hr hp
  obtain ⟨cs, T, fr, hcs⟩ : ∃ cs T fr, w.heap[p.blk]? = some (.cells cs T fr) := by
    rcases q with q | ⟨_, _, cs, T, fr, q, _⟩
    · omega
    · exact ⟨cs, T, fr, q⟩
  have hshape : w.shape? p.blk = some (T, cs.size) := by unfold World.shape?; rw [hcs]
  have hrun : (convert src src (.slice (some ⟨p.blk, p.off + lo * k, none⟩) n c)).run P w = .ok (.slice (some ⟨p.blk, p.off + lo * k, none⟩) n c) (w.freeze ⟨p.blk, cs.size, none⟩ 1) := by
    unfold convert
    simp only [Sem.run_bind, run_underlying hs, run_underlying he, Result.andThen_ok, beq_self_eq_true, markStringish, run_shape, hshape, Sem.run_pure]
    simp
  have hne : ∀ x, x ≠ p.blk → (w.freeze ⟨p.blk, cs.size, none⟩ 1).heap[x]? = w.heap[x]? := fun x hx => by
    simp only [World.freeze, if_neg (show ¬ (1 : Nat) = 0 by decide), Array.getElem?_modify, if_neg (Ne.symm hx)]
  have hsm : ∀ cs' T' fr', w.heap[p.blk]? = some (.cells cs' T' fr') → ∃ fr2, (w.freeze ⟨p.blk, cs.size, none⟩ 1).heap[p.blk]? = some (.cells cs' T' fr2) := fun cs' T' fr' e => by
    obtain ⟨f1, f2⟩ := fr'
    simp only [World.freeze, if_neg (show ¬ (1 : Nat) = 0 by decide), Array.getElem?_modify, if_true, e, Option.map_some]
    exact ⟨_, rfl⟩
  have hs' := h.markRow hr hp hf hlim (w' := w.freeze ⟨p.blk, cs.size, none⟩ 1) rfl rfl rfl (by simp [World.freeze]) hne hsm
  refine ⟨_, _, ρ, fun x => F x ∨ x = p.blk, hrun, ⟨ρ.le_refl, fun _ hx => .inl hx, fun _ hx => .inl hx, fun _ hx => .inl hx, fun x hx => hx.elim .inl fun e => .inr ?_⟩, hs', ?_⟩
  · rcases q with q | ⟨_, q, _⟩
    · omega
    · rw [e]; exact (q hf).1
  · have hv' : Rep ρ w0.V (fun x => F x ∨ x = p.blk) (w.freeze ⟨p.blk, cs.size, none⟩ 1) (.slice (some ⟨p.blk, p.off + lo * k, none⟩) n c) (.ref b k lo n) := .ref _ _ _ _ _ _ p hp h1 h2 h3 h4 h5
    obtain ⟨ad, c', p', f, e1, e2, e3, e4, e5, e6⟩ := ref_row hs' hv' (r := { r with fro := true }) (by simp [FS.setR]) hk hlen
    cases e1
    rw [hp] at e2; cases e2
    exact .pure _ _ (.sl _ _ _ _ _ f e5 e4 (e3.mono (Agree.refl _ _) fun x hx => .inr hx.1) e6)
/-- A string's bytes: a new row that nobody writes. -/
theorem g_s2b {e : TypeId} (h : Sim w0 N ρ F σ a w) {bb br : Nat} {s : ByteArray} {l : List UInt8} (hs : s.data.toList = l) (hl : l.length ≤ 1000000) :
    Good P w0 N ρ F a w (Conv.stringToBytes e s) bb 0 br 0 σ (.sl false 1 (l.map fun c => .int .u8 c.toNat)) := by
  have hsz := str_size hs
  obtain ⟨c, hc⟩ : ∃ c, grownCap w s.size 0 e = c := ⟨_, rfl⟩
  have hge : s.size ≤ c := hc ▸ grownCap_ge w s.size 0 e
  have hcm : c ≤ maxLen := hc ▸ grownCap_le_maxLen w s.size 0 e (by unfold maxLen; omega)
  obtain ⟨cs, hcs⟩ : ∃ cs : Array Value, (s.data.map (fun b => Value.int .u8 b.toNat)) ++ Array.replicate (c - s.size) (.int .u8 0) = cs := ⟨_, rfl⟩
  have hcl : cs.size = c := by
    rw [← hcs]; simp only [Array.size_append, Array.size_map, Array.size_replicate]
    show s.size + _ = _; omega
  have hrun : (Conv.stringToBytes e s).run P w = .ok (.slice (some ⟨w.heap.size, 0, none⟩) s.size c) ((w.drew.alloc (.cells cs e)).freeze ⟨w.heap.size, cs.size, none⟩ 1) := by
    have hch : (choose (.appendCap s.size 0 e)).run P w = .ok c w.drew := by
      rw [run_choose]; simp [Question.forced, ← hc, grownCap]
    have hshape : (w.drew.alloc (.cells cs e)).shape? w.heap.size = some (e, cs.size) := by
      have h0 : (w.drew.alloc (.cells cs e)).heap[w.heap.size]? = some (.cells cs e (0, 0)) := heap_alloc_new w.drew _
      unfold World.shape?; rw [h0]
    simp only [Conv.stringToBytes, Sem.run_bind, hch, Result.andThen_ok, hcs, Go.newRow, run_newObj, Sem.run_pure]
    simp only [markStringish, Sem.run_bind, run_shape, Result.andThen_ok]
    rw [show ({ w.drew with heap := w.drew.heap.push (.cells cs e) } : World) = w.drew.alloc (.cells cs e) from rfl]
    rw [show w.drew.heap.size = w.heap.size from rfl, hshape]
    simp
  have hother : ∀ x, x ≠ w.heap.size → ((w.drew.alloc (.cells cs e)).freeze ⟨w.heap.size, cs.size, none⟩ 1).heap[x]? = (w.drew.alloc (.cells cs e)).heap[x]? := fun x hx => by
    simp [World.freeze, Array.getElem?_modify, Ne.symm hx]
  have hself : ∃ fr, ((w.drew.alloc (.cells cs e)).freeze ⟨w.heap.size, cs.size, none⟩ 1).heap[w.heap.size]? = some (.cells cs e fr) := by
    have h0 : (w.drew.alloc (.cells cs e)).heap[w.heap.size]? = some (.cells cs e (0, 0)) := heap_alloc_new w.drew _
    refine ⟨(cs.size, cs.size + 1), ?_⟩
    have h1 : ¬ (1 : Nat) = 0 := by decide
    simp only [World.freeze, if_neg h1, Array.getElem?_modify, if_true, h0, Option.map_some]
    rfl
  have hbel : Below w.heap.size w ((w.drew.alloc (.cells cs e)).freeze ⟨w.heap.size, cs.size, none⟩ 1) := by
    have hb0 : Below w.heap.size w (w.drew.alloc (.cells cs e)) := ((Below.refl _ _).drew).alloc (Nat.le_refl _) _
    refine ⟨rfl, rfl, ?_, fun x hx => (hother x (by omega)).trans (hb0.block x hx)⟩
    simp [World.freeze]
  have hlt : w.heap.size < ((w.drew.alloc (.cells cs e)).freeze ⟨w.heap.size, cs.size, none⟩ 1).heap.size := by simp [World.freeze]
  obtain ⟨fr, hfr⟩ := hself
  refine ⟨_, _, ρ, fun x => F x ∨ x = w.heap.size, hrun, ⟨ρ.le_refl, fun _ hx => .inl hx, fun _ hx => .inl hx, fun _ hx => .inl hx, fun x hx => hx.elim .inl fun e => .inr (by rw [e]; exact h.bel.fresh (Nat.le_refl _))⟩, h.addF hbel (Nat.le_refl _) hlt, .pure _ _ ?_⟩
  refine .sl _ _ _ _ _ (fun j => cs.getD j undef) (by simp [hsz]) (fun x hx => by obtain ⟨b, _, rfl⟩ := List.mem_map.1 hx; rfl) ⟨hge, hcm, by simp, (fun ad e _ => by cases e; exact .inr rfl), fun ad e j hj => ?_⟩ fun j av hj => ?_
  · cases e
    rw [add_lit, cell_of_row _ _ _ cs _ fr hfr]
    simp [Array.getD, show j < cs.size by omega]
  · have hf1 : flat (l.map fun c => AV.int .u8 c.toNat) = l.map fun c => AV.int .u8 c.toNat := (flat_ones (by simp [List.all_eq_true, scal])).1
    rw [hf1, List.getElem?_map] at hj
    cases hlj : l[j]? with
    | none => rw [hlj] at hj; cases hj
    | some b =>
      rw [hlj] at hj
      cases hj
      have hjl := (List.getElem?_eq_some_iff.1 hlj).1
      have e1 : cs[j]? = some (.int .u8 b.toNat) := by
        rw [← hcs, Array.getElem?_append_left (by simp only [Array.size_map]; show j < s.size; omega), Array.getElem?_map, ← Array.getElem?_toList, hs, hlj]; rfl
      have e2 := Array.getElem?_eq_some_iff.1 e1
      rw [show cs.getD j undef = .int .u8 b.toNat by simp [Array.getD, e2.1, e2.2]]
      exact .int _ _
end
end Go.Proofs.Ytiejnmbpejfpgaa
