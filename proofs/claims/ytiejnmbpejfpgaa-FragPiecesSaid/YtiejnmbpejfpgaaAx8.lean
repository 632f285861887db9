/- That the operations on abstract values are the program's: rows that are written, frozen, made. -/
import Derived.Test.YtiejnmbpejfpgaaAx7
namespace Go.Proofs.Ytiejnmbpejfpgaa
open Go.RowKit
set_option linter.unusedVariables false

theorem put_get {l new : List AV} {off : Nat} (h : off + new.length ≤ l.length) (i : Nat) : (putCells l off new)[i]? = if off ≤ i ∧ i < off + new.length then new[i - off]? else l[i]? := by
  unfold putCells
  have e1 : (l.take off).length = off := by simp; omega
  by_cases h1 : i < off
  · rw [List.getElem?_append_left (by omega), if_neg (by omega), List.getElem?_take, if_pos h1]
  · rw [List.getElem?_append_right (by omega), e1]
    by_cases h2 : i < off + new.length
    · rw [List.getElem?_append_left (by omega), if_pos (by omega)]
    · rw [List.getElem?_append_right (by omega), if_neg (by omega), List.getElem?_drop]
      congr 1; omega
theorem put_length {l new : List AV} {off : Nat} (h : off + new.length ≤ l.length) : (putCells l off new).length = l.length := by
  simp [putCells]; omega
theorem seg_get {cur : Array Value} {news : List Value} {o : Nat} (h : o + news.length ≤ cur.size) (i : Nat) : (cur.toList.take o ++ news ++ cur.toList.drop (o + news.length)).toArray[i]? = if o ≤ i ∧ i < o + news.length then news[i - o]? else cur[i]? := by
  simp only [List.getElem?_toArray, List.append_assoc]
  have e1 : (cur.toList.take o).length = o := by simp; omega
  by_cases h1 : i < o
  · rw [List.getElem?_append_left (by omega), if_neg (by omega), List.getElem?_take, if_pos h1, Array.getElem?_toList]
  · rw [List.getElem?_append_right (by omega), e1]
    by_cases h2 : i < o + news.length
    · rw [List.getElem?_append_left (by omega), if_pos (by omega)]
    · rw [List.getElem?_append_right (by omega), if_neg (by omega), List.getElem?_drop, Array.getElem?_toList]
      congr 1; omega
theorem seg_size {cur : Array Value} {news : List Value} {o : Nat} (h : o + news.length ≤ cur.size) : (cur.toList.take o ++ news ++ cur.toList.drop (o + news.length)).toArray.size = cur.size := by
  simp; omega

theorem mapM_get {α β : Type} {f : α → Option β} : ∀ {l : List α} {l' : List β}, l.mapM f = some l' → l'.length = l.length ∧ ∀ (i : Nat) (x : α) (y : β), l[i]? = some x → l'[i]? = some y → f x = some y
  | [], l', h => by simp at h; subst h; simp
  | x :: l, l', h => by
    rw [List.mapM_cons] at h
    cases h1 : f x with
    | none => rw [h1] at h; cases h
    | some y =>
      cases h2 : l.mapM f with
      | none => rw [h1, h2] at h; cases h
      | some ys =>
        rw [h1, h2] at h
        cases h
        obtain ⟨g1, g2⟩ := mapM_get h2
        refine ⟨by simp [g1], fun i a b e1 e2 => ?_⟩
        cases i with
        | zero => simp at e1 e2; subst e1 e2; exact h1
        | succ i => exact g2 i a b (by simpa using e1) (by simpa using e2)

section
variable {P : Program} {w0 : Base} {N : Nat} {ρ : Env} {F : Nat → Prop} {σ : FS} {a : Act} {w : World}

/-- Cells stored into a block. -/
theorem store_mem {g o : Nat} {cur : Array Value} {T : TypeId} (hg : w.heap[g]? = some (.cells cur T (0, 0))) {news : List Value} (hfit : o + news.length ≤ cur.size) (hone : ∀ u ∈ news, u.oneCell' = true) :
    ∃ w' cur', (storeCells ⟨g, o, none⟩ news).run P w = .ok () w' ∧ w'.heap[g]? = some (.cells cur' T (0, 0)) ∧ cur'.size = cur.size ∧ (∀ i : Nat, cur'[i]? = if o ≤ i ∧ i < o + news.length then news[i - o]? else cur[i]?) ∧ w'.os = w.os ∧ w'.tape = w.tape ∧ w'.output = w.output ∧ w'.heap.size = w.heap.size ∧ ∀ x, x ≠ g → w'.heap[x]? = w.heap[x]? := by
  have hr := run_storeCells_at P g o T news 0 cur w hg (by simpa using hfit) hone
  simp only [Nat.add_zero] at hr
  exact ⟨_, _, hr, setRow_heap w g cur _ T _ hg, seg_size hfit, fun i => seg_get hfit i, rfl, rfl, rfl, by simp, fun x hx => setRow_other w g x _ hx⟩

theorem run_storeAt {t : TypeId} {n : Nat} (hsz : szOf P t = some n) {v : Value} (hv : v.cells.size = n) (ad : Addr) : (Instr.storeAt t (.pointer (some ad)) v).run P w = (storeCells ad v.cells.toList).run P w := by
  simp [Instr.storeAt, Instr.sureAddr, storeVar, run_sizeOf' hsz, hv]

/-- A store into a box. -/
theorem store_b {t : TypeId} {n : Nat} (hsz : szOf P t = some n) (h : Sim w0 N ρ F σ a w) {p v : Value} {b off : Nat} {cells : List AV} {av : AV} (hp : Rep ρ w0.V F w p (.bptr b off)) (hb : σ.bx b = some cells) (hv : Rep ρ w0.V F w v av) (hok : okV av = true) (hn : av.cells.length = n) (hfit : off + n ≤ cells.length) :
    ∃ w', (Instr.storeAt t p v).run P w = .ok () w' ∧ Sim w0 N ρ F (σ.setB b (putCells cells off av.cells)) a w' := by
  obtain ⟨g, hg, rfl⟩ := hp.bptr_inv
  obtain ⟨c1, c2, c3⟩ := okV_cells hv hok
  obtain ⟨h1, h2, cs, T, h3, h4, h5⟩ := h.bx b cells g hb hg
  have hlen : v.cells.toList.length = n := by simpa [c1] using hn
  obtain ⟨w', cur', e1, e2, e3, e4, f1, f2, f3, f4, f5⟩ := store_mem (P := P) h3 (news := v.cells.toList) (o := off) (by omega) c3
  refine ⟨w', by rw [run_storeAt hsz (by omega)]; exact e1, h.writeBox hb hg f1 f2 f3 f4 f5 fun hA => ⟨h1, h2, cur', T, e2, by rw [put_length (by omega)]; omega, fun i u x g1 g2 => ?_⟩⟩
  rw [e4] at g1
  rw [put_get (by omega)] at g2
  rw [hlen] at g1; rw [hn] at g2
  split at g1
  · rename_i hi
    rw [if_pos hi] at g2
    exact (c2 _ u x (by simpa using g1) g2).mono ρ.le_refl hA (fun _ hx => .inl hx) fun _ hx => hx
  · rename_i hi
    rw [if_neg hi] at g2
    exact (h5 i u x g1 g2).mono ρ.le_refl hA (fun _ hx => .inl hx) fun _ hx => hx

/-- Cells written into an own row. -/
theorem write_row (h : Sim w0 N ρ F σ a w) {b : Nat} {r : ARow} {p : Pl} (hb : σ.rw b = some r) (hp : ρ.r b = some p) (hf : r.fro = false) {o : Nat} {news : List Value} {avs : List AV} (hl : news.length = avs.length) (hne : avs ≠ []) (hfit : o + avs.length ≤ (flat r.es).length)
    (hr : ∀ (i : Nat) (u : Value) (av : AV), news[i]? = some u → avs[i]? = some av → Rep0 F w u av) (hone : ∀ u ∈ news, u.oneCell' = true) {es' : List AV} (hw : ∀ e ∈ es', e.cells.length = r.k) (hflat : flat es' = putCells (flat r.es) o avs) :
    ∃ w', (storeCells ⟨p.blk, p.off + o, none⟩ news).run P w = .ok () w' ∧ Sim w0 N ρ F (σ.setR b (some { r with es := es' })) a w' := by
  have hpos : 0 < avs.length := List.length_pos_iff.2 hne
  obtain ⟨h1, h2, h3⟩ := h.rw b r p hb hp
  rcases h3 with h3 | ⟨h3, h4, cs, T, fr, h5, h6, h7, h8⟩
  · omega
  · have := h7 hf
    subst this
    obtain ⟨w', cur', e1, e2, e3, e4, f1, f2, f3, f4, f5⟩ := store_mem (P := P) h5 (news := news) (o := p.off + o) (by omega) hone
    refine ⟨w', e1, h.writeRow (r' := { r with es := es' }) hb hp hf hf (by omega) f1 f2 f3 f4 f5 fun hA => ⟨hw, by dsimp only; rw [hflat, put_length hfit]; exact h2, .inr ⟨(fun e => by rw [hf] at e; cases e), h4, cur', T, (0, 0), e2, by omega, fun _ => rfl, fun i av g => ?_⟩⟩⟩
    dsimp only at g
    rw [hflat, put_get hfit] at g
    rw [e4]
    split at g
    · rename_i hi
      rw [if_pos (by omega)]
      have hi2 : i - o < news.length := by omega
      have q : news[i - o]? = some (news[i - o]) := List.getElem?_eq_getElem hi2
      refine ⟨news[i - o], by rw [show p.off + i - (p.off + o) = i - o by omega]; exact q, (hr _ _ _ q g).mono hA fun _ hx => hx⟩
    · rename_i hi
      rw [if_neg (by omega)]
      obtain ⟨u, q1, q2⟩ := h8 i av g
      exact ⟨u, q1, q2.mono hA fun _ hx => hx⟩

/-! ### Rows frozen -/
theorem FS.setR_same {τ : FS} {b : Nat} {r : Option ARow} (h : τ.rw b = r) : τ.setR b r = τ := by
  have : (fun x => if x = b then r else τ.rw x) = τ.rw := by funext x; split <;> simp_all
  unfold FS.setR; rw [this]
theorem freeze_one {τ : FS} (h : Sim w0 N ρ F τ a w) {b : Nat} {q r : ARow} {p : Pl} (hb : τ.rw b = some q) (hq : q = r ∨ q = { r with fro := true }) (hp : ρ.r b = some p) :
    ∃ F' : Nat → Prop, (∀ x, F x → F' x) ∧ (∀ x, F' x → F x ∨ ¬ w0.V x) ∧ (0 < p.lim → F' p.blk) ∧ Sim w0 N ρ F' (τ.setR b (some { r with fro := true })) a w := by
  cases hf : q.fro
  · have hqr : q = r := by
      rcases hq with e | e
      · exact e
      · rw [e] at hf; cases hf
    subst hqr
    exact h.freeze hb hp hf
  · have hqr : ({ r with fro := true } : ARow) = q := by
      rcases hq with e | e
      · subst e; cases q; simp at hf; subst hf; rfl
      · exact e.symm
    rw [hqr, FS.setR_same hb]
    refine ⟨F, fun _ hx => hx, fun _ hx => .inl hx, fun hl => ?_, h⟩
    rcases (h.rw b q p hb hp).2.2 with h3 | ⟨h3, _⟩
    · omega
    · exact h3 hf
theorem freeze_all (rw0 : Nat → Option ARow) : ∀ (ids : List Nat) (F : Nat → Prop) (τ : FS), Sim w0 N ρ F τ a w → (∀ b r, rw0 b = some r → τ.rw b = some r ∨ τ.rw b = some { r with fro := true }) → (∀ b ∈ ids, ∃ r p, rw0 b = some r ∧ ρ.r b = some p) →
    ∃ F' : Nat → Prop, (∀ x, F x → F' x) ∧ (∀ x, F' x → F x ∨ ¬ w0.V x) ∧ (∀ b ∈ ids, ∀ p, ρ.r b = some p → 0 < p.lim → F' p.blk) ∧ Sim w0 N ρ F' (τ.ups (frzUp rw0 ids)) a w ∧ (∀ b r, rw0 b = some r → (τ.ups (frzUp rw0 ids)).rw b = some r ∨ (τ.ups (frzUp rw0 ids)).rw b = some { r with fro := true }) ∧ (∀ b, b ∉ ids → (τ.ups (frzUp rw0 ids)).rw b = τ.rw b)
  | [], F, τ, h, hq, _ => ⟨F, fun _ hx => hx, fun _ hx => .inl hx, by simp, h, hq, fun _ _ => rfl⟩
  | b :: ids, F, τ, h, hq, hid => by
    obtain ⟨r, p, e1, e2⟩ := hid b (List.mem_cons_self ..)
    obtain ⟨q, hb, hqr⟩ : ∃ q, τ.rw b = some q ∧ (q = r ∨ q = { r with fro := true }) := by
      rcases hq b r e1 with e | e
      · exact ⟨_, e, .inl rfl⟩
      · exact ⟨_, e, .inr rfl⟩
    obtain ⟨F1, g1, g2, g3, g4⟩ := freeze_one h hb hqr e2
    obtain ⟨F2, k1, k2, k3, k4, k5, k6⟩ := freeze_all rw0 ids F1 (τ.setR b (some { r with fro := true })) g4 (fun b' r' e => by
      simp only [FS.setR]
      by_cases hx : b' = b
      · rw [if_pos hx]; subst hx; rw [e1] at e; cases e; exact .inr rfl
      · rw [if_neg hx]; exact hq b' r' e) (fun b' hb' => hid b' (List.mem_cons_of_mem _ hb'))
    have e3 : τ.ups (frzUp rw0 (b :: ids)) = (τ.setR b (some { r with fro := true })).ups (frzUp rw0 ids) := by
      simp [frzUp, FS.ups, FS.upd, e1]
    rw [e3]
    refine ⟨F2, fun x hx => k1 x (g1 x hx), fun x hx => (k2 x hx).elim (g2 x) .inr, fun b' hb' p' hp' hl => ?_, k4, k5, fun b' hb' => ?_⟩
    · rcases List.mem_cons.1 hb' with rfl | hb'
      · rw [e2] at hp'; cases hp'; exact k1 _ (g3 hl)
      · exact k3 b' hb' p' hp' hl
    · simp at hb'
      rw [k6 b' hb'.2]; simp [FS.setR, hb'.1]
theorem ups_bx_frz (rw0 : Nat → Option ARow) (ids : List Nat) (τ : FS) : (τ.ups (frzUp rw0 ids)).bx = τ.bx ∧ (τ.ups (frzUp rw0 ids)).tm = τ.tm := by
  induction ids generalizing τ with
  | nil => exact ⟨rfl, rfl⟩
  | cons b ids ih => exact ih _

theorem frzC_rep (h : Sim w0 N ρ F σ a w) {v : Value} {av av' : AV} (hv : Rep ρ w0.V F w v av) (he : frzC σ.rw av = some av') {F' : Nat → Prop} (hF : ∀ x, F x → F' x) (hfr : ∀ b ∈ frzIds av, ∀ p, ρ.r b = some p → 0 < p.lim → F' p.blk) : Rep0 F' w v av' := by
  have hmono {u : Value} {x : AV} (hx : Rep0 F w u x) : Rep0 F' w u x := hx.mono (Agree.refl _ _) hF
  by_cases hr : ∃ b k lo n, av = .ref b k lo n
  · obtain ⟨b, k, lo, n, rfl⟩ := hr
    simp only [frzC] at he
    split at he
    · rename_i r hr
      split at he
      · rename_i hc
        cases he
        obtain ⟨ad, c, p, f, rfl, hp, hra, hw, hlen, hcc⟩ := ref_row h hv hr hc.1 hc.2
        refine .sl ad n c k _ f hlen hw ?_ fun i x e => hmono (hcc i x e)
        exact hra.mono (Agree.refl _ _) fun x hx => by rw [hx.1]; exact hfr b (by simp [frzIds]) p hp hx.2
      · cases he
    · cases he
  · have he' : (if pureC av then some av else none) = some av' := by
      cases av <;> first | exact he | exact absurd ⟨_, _, _, _, rfl⟩ hr
    split at he'
    · rename_i hp; cases he'; exact hmono (hv.pureC hp)
    · cases he'
theorem frzV_rep (h : Sim w0 N ρ F σ a w) {v : Value} {av av' : AV} (hv : Rep ρ w0.V F w v av) (he : frzV σ.rw av = some av') {F' : Nat → Prop} (hF : ∀ x, F x → F' x) (hfr : ∀ b ∈ frzIds av, ∀ p, ρ.r b = some p → 0 < p.lim → F' p.blk) : Rep0 F' w v av' := by
  by_cases ha : ∃ l, av = .agg l
  · obtain ⟨l, rfl⟩ := ha
    simp only [frzV, Option.map_eq_some_iff] at he
    obtain ⟨l', he, rfl⟩ := he
    obtain ⟨cs, rfl, hl, hc⟩ := hv.agg_inv
    obtain ⟨hlen, hget⟩ := mapM_get he
    refine .agg cs l' (by omega) fun i u x e1 e2 => ?_
    have hi := (List.getElem?_eq_some_iff.1 e2).1
    obtain ⟨y, e3⟩ : ∃ y, l[i]? = some y := ⟨_, List.getElem?_eq_getElem (by omega)⟩
    have e4 : frzC σ.rw y = some x := hget i y x e3 e2
    refine frzC_rep h (hc i u y e1 e3) e4 hF fun b hb p hp hl => hfr b ?_ p hp hl
    simp only [frzIds, List.mem_flatMap]
    refine ⟨y, List.mem_of_getElem? e3, ?_⟩
    cases y <;> simp [frzIds] at hb ⊢
    · exact hb
    · simp [frzC, pureC] at e4
  · have he' : frzC σ.rw av = some av' := by
      cases av <;> first | exact he | exact absurd ⟨_, rfl⟩ ha
    exact frzC_rep h hv he' hF hfr
end
end Go.Proofs.Ytiejnmbpejfpgaa
