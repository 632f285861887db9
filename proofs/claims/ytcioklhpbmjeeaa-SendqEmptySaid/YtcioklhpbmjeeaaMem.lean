/- Slices in memory: what a slice value holds, kept while only new blocks are laid. -/
import Derived.Deep.AppendSrc
import Derived.Deep.Draws
import Derived.Laws.CopyOwn
import Derived.WalkSpells
import Derived.WalkLawsBesides
import Derived.Test.YtcioklhpbmjeeaaKit
namespace Go.Proofs.Ytcioklhpbmjeeaa
open Go.RowKit
set_option linter.unusedVariables false

/-- The slice value of address a, length n, capacity c holds the cells cs, k cells an element. -/
structure Row (w : World) (a : Option Addr) (n c k : Nat) (cs : List Value) : Prop where
  len : cs.length = n * k
  cap : n ≤ c
  max : c ≤ maxLen
  nil : a = none → c = 0
  cell : ∀ ad, a = some ad → ∀ j u, cs[j]? = some u → w.cell? (ad.add j) = some u

theorem Row.mono {w w' : World} {a : Option Addr} {n c k : Nat} {cs : List Value} (h : Row w a n c k cs) (hb : ∀ b, b < w.heap.size → w'.heap[b]? = w.heap[b]?) : Row w' a n c k cs :=
  ⟨h.len, h.cap, h.max, h.nil, fun ad ha j u hu => by
    have hc := h.cell ad ha j u hu
    rw [← hc]
    exact World.cell?_of_block (hb _ (World.block_lt_of_cell? w _ hc))⟩

theorem Row.below {w w' : World} {a : Option Addr} {n c k : Nat} {cs : List Value} (h : Row w a n c k cs) (hb : Below w.heap.size w w') : Row w' a n c k cs :=
  h.mono hb.block

theorem Row.drew {w : World} {a : Option Addr} {n c k : Nat} {cs : List Value} (h : Row w a n c k cs) : Row w.drew a n c k cs := ⟨h.len, h.cap, h.max, h.nil, h.cell⟩
theorem Row.drewN {w : World} {a : Option Addr} {n c k : Nat} {cs : List Value} (h : Row w a n c k cs) (q : Nat) : Row (w.drewN q) a n c k cs := ⟨h.len, h.cap, h.max, h.nil, h.cell⟩

theorem Row.of_nil (w : World) (k : Nat) : Row w none 0 0 k [] := ⟨by simp, Nat.le_refl _, Nat.zero_le _, fun _ => rfl, fun _ h => by cases h⟩

/-- What a call owns reads as a row. -/
theorem Row.of_own {w : World} {base e k : Nat} {a : Option Addr} {n c : Nat} {cs : List Value} (h : w.ownsRow base e k (.slice a n c) n cs) : Row w a n c k cs := by
  obtain ⟨hl, hr⟩ := h
  rcases hr with ⟨hv, hn⟩ | ⟨g, cap, cur, hv, hg, hh, hnc, hcm, hcs, ht⟩
  · simp at hv
    obtain ⟨rfl, rfl, rfl⟩ := hv
    exact ⟨hl, Nat.le_refl _, Nat.zero_le _, fun _ => rfl, fun _ h => by cases h⟩
  · simp at hv
    obtain ⟨rfl, rfl⟩ := hv
    refine ⟨hl, hnc, hcm, (fun h => by cases h), fun ad ha j u hu => ?_⟩
    cases ha
    have hadd : (⟨g, 0, none⟩ : Addr).add j = ⟨g, j, none⟩ := by unfold Addr.add; split <;> simp_all
    rw [hadd, cell_of_row w g j cur e (0, 0) hh]
    rw [← ht, List.getElem?_take] at hu
    split at hu
    · simpa using hu
    · cases hu

def bytes (bs : List UInt8) : List Value := bs.map fun b => .int .u8 b.toNat

theorem bytes_length (bs : List UInt8) : (bytes bs).length = bs.length := by simp [bytes]
theorem bytes_one (bs : List UInt8) : ∀ u ∈ bytes bs, u.oneCell' = true := by
  intro u hu
  obtain ⟨b, _, rfl⟩ := List.mem_map.1 hu
  rfl

theorem Row.src {P : Program} {w : World} {a : Option Addr} {n c k : Nat} {cs : List Value} (h : Row w a n c k cs) {t e : TypeId} (ht : P.underlying t = some (.slice e)) (h1 : ∀ u ∈ cs, u.oneCell' = true) :
    Src P k t (.slice a n c) n cs w := by
  cases a with
  | some ad => exact Src.ofSlice w ht ad n c cs h.len (h.cell ad rfl) h1
  | none =>
    have hc := h.nil rfl
    have hn : n = 0 := by have := h.cap; omega
    subst hn
    have : cs = [] := List.eq_nil_of_length_eq_zero (by simpa using h.len)
    subst this
    exact Src.ofNil w ht c

theorem own_form {w : World} {base e k : Nat} {v : Value} {n : Nat} {xs : List Value} (h : w.ownsRow base e k v n xs) : ∃ a c, v = .slice a n c := by
  rcases h.2 with ⟨rfl, rfl⟩ | ⟨g, cap, cur, rfl, _⟩
  · exact ⟨none, 0, rfl⟩
  · exact ⟨_, _, rfl⟩

/-- append onto what the call owns, of whatever row. -/
theorem run_append_row {P : Program} (w : World) (base : Nat) (t ty e : TypeId) (i : TypeInfo) (z : Value) (k by_ : Nat) (ht : P.underlying t = some (.slice e)) (hi : P.info? e = some i) (hz : i.zero = some z)
    (hsize : i.size = k) (hby : i.bytes = by_) (hzs : z.cells.size = k) (hsz : 0 < k)
    (v : Value) (n : Nat) (xs : List Value) (hown : w.ownsRow base e k v n xs) (ao : Option Addr) (m c : Nat) (news : List Value) (hrow : Row w ao m c k news) (h1 : ∀ u ∈ news, u.oneCell' = true)
    (h63 : n + m ≤ maxLen) (hbytes : (n + m) * by_ ≤ 140737488355328) (hbase : base ≤ w.heap.size) :
    ∃ a' c' w', (Builtin.append_ #[t, t] ty #[v, .slice ao m c]).run P w = .ok (.slice a' (n + m) c') w' ∧ w'.ownsRow base e k (.slice a' (n + m) c') (n + m) (xs ++ news) ∧ w.grownBy w' v.ownBlock := by
  cases ao with
  | some ad =>
    obtain ⟨v', w', hr, ho, hg, _⟩ := run_append_own (P := P) w base t ty e i z k by_ ht hi hz hsize hby hzs hsz v n xs hown ad m c news hrow.len (hrow.cell ad rfl) h1 h63 hbytes hbase
    obtain ⟨a', c', rfl⟩ := own_form ho
    exact ⟨a', c', w', hr, ho, hg⟩
  | none =>
    have hc := hrow.nil rfl
    have hm : m = 0 := by have := hrow.cap; omega
    subst hc hm
    have hn : news = [] := List.eq_nil_of_length_eq_zero (by simpa using hrow.len)
    subst hn
    obtain ⟨a', c', rfl⟩ := own_form hown
    exact ⟨a', c', w, run_append_owned_none w base t ty e i k ht hi _ n xs hown, by simpa using hown, ⟨rfl, rfl, rfl, Nat.le_refl _, fun _ _ _ => rfl⟩⟩

theorem wp_append_row {P : Program} {w : World} {o : Oper} {a : Act} {K : Act → World → Prop} {Q : Exit → Act → World → Prop} (s x : Operand) (t : TypeId)
    (ho : o.op = .call { callee := .builtin .append, args := #[s, x], argTypes := #[t, t] })
    (base : Nat) (e : TypeId) (i : TypeInfo) (z : Value) (k by_ : Nat) (ht : P.underlying t = some (.slice e)) (hi : P.info? e = some i) (hz : i.zero = some z)
    (hsize : i.size = k) (hby : i.bytes = by_) (hzs : z.cells.size = k) (hsz : 0 < k)
    (v : Value) (n : Nat) (xs : List Value) (hs : a.eval s = v) (hown : w.ownsRow base e k v n xs)
    (ao : Option Addr) (m c : Nat) (news : List Value) (hx : a.eval x = .slice ao m c) (hrow : Row w ao m c k news) (h1 : ∀ u ∈ news, u.oneCell' = true)
    (h63 : n + m ≤ maxLen) (hbytes : (n + m) * by_ ≤ 140737488355328) (hbase : base ≤ w.heap.size)
    (h : ∀ a' c' w', w'.ownsRow base e k (.slice a' (n + m) c') (n + m) (xs ++ news) → w.grownBy w' v.ownBlock → K (a.put o.dst (.slice a' (n + m) c')) w') : o.wp P a w K Q := by
  obtain ⟨a', c', w', hr, h2, h3⟩ := run_append_row (P := P) w base t o.type e i z k by_ ht hi hz hsize hby hzs hsz v n xs hown ao m c news hrow h1 h63 hbytes hbase
  unfold Oper.wp execOp
  simp only [ho, resolve, invoke, builtin, Sem.run_bind, Sem.run_pure, Result.andThen_ok, List.map_toArray, List.map_cons, List.map_nil, hs, hx, hr]
  exact h a' c' w' h2 h3

theorem wpList_append_row {P : Program} {w : World} {ops : Array Oper} {rest : List Oper} {o : Oper} {a : Act} {Q : Exit → Act → World → Prop} (hgd : o.guard = none) (s x : Operand) (t : TypeId)
    (ho : o.op = .call { callee := .builtin .append, args := #[s, x], argTypes := #[t, t] })
    (base : Nat) (e : TypeId) (i : TypeInfo) (z : Value) (k by_ : Nat) (ht : P.underlying t = some (.slice e)) (hi : P.info? e = some i) (hz : i.zero = some z)
    (hsize : i.size = k) (hby : i.bytes = by_) (hzs : z.cells.size = k) (hsz : 0 < k)
    (v : Value) (n : Nat) (xs : List Value) (hs : a.eval s = v) (hown : w.ownsRow base e k v n xs)
    (ao : Option Addr) (m c : Nat) (news : List Value) (hx : a.eval x = .slice ao m c) (hrow : Row w ao m c k news) (h1 : ∀ u ∈ news, u.oneCell' = true)
    (h63 : n + m ≤ maxLen) (hbytes : (n + m) * by_ ≤ 140737488355328) (hbase : base ≤ w.heap.size)
    (h : ∀ a' c' w', w'.ownsRow base e k (.slice a' (n + m) c') (n + m) (xs ++ news) → w.grownBy w' v.ownBlock → wpList P ops Q rest (a.put o.dst (.slice a' (n + m) c')) w') : wpList P ops Q (o :: rest) a w :=
  wpList_plain hgd fun _ hK => wp_append_row s x t ho base e i z k by_ ht hi hz hsize hby hzs hsz v n xs hs hown ao m c news hx hrow h1 h63 hbytes hbase fun a' c' w' h2 h3 => hK _ _ (h a' c' w' h2 h3)

theorem Row.alloc {w : World} {a : Option Addr} {n c k : Nat} {cs : List Value} (h : Row w a n c k cs) (o : Obj) : Row (w.alloc o) a n c k cs := h.mono fun b hb => Below.heap_alloc w o b hb

/-! ### What a block holds, as one array: rules for the walk -/
/-- The cells of block b (none, where it is no row). -/
def blk (w : World) (b : Nat) : Array Value := match w.heap[b]? with | some (.cells cs _ _) => cs | _ => #[]

theorem cell_blk (w : World) (b j : Nat) : w.cell? ⟨b, j, none⟩ = (blk w b)[j]? := by
  unfold World.cell? blk
  cases h : w.heap[b]? with
  | none => simp
  | some o => cases o <;> simp
theorem blk_of {w : World} {b : Nat} {cs : Array Value} {T : TypeId} {fr : Nat × Nat} (h : w.heap[b]? = some (.cells cs T fr)) : blk w b = cs := by simp [blk, h]
theorem blk_alloc (w : World) (cs : Array Value) (T : TypeId) (fr : Nat × Nat) (b : Nat) : blk (w.alloc (.cells cs T fr)) b = if b = w.heap.size then cs else blk w b := by
  by_cases h : b = w.heap.size
  · subst h; simp only [if_true]; exact blk_of (heap_alloc_new w _)
  · rw [if_neg h]
    unfold blk
    by_cases h2 : b < w.heap.size
    · rw [Below.heap_alloc w _ b h2]
    · have e1 : (w.alloc (.cells cs T fr)).heap[b]? = none := by
        refine Array.getElem?_eq_none ?_
        show (w.heap.push _).size ≤ b
        rw [Array.size_push]; omega
      have e2 : w.heap[b]? = none := Array.getElem?_eq_none (by omega)
      rw [e1, e2]
theorem blk_setCell (w : World) (b' j : Nat) (v : Value) (b : Nat) : blk (w.setCell ⟨b', j, none⟩ v) b = if b = b' then (blk w b).setIfInBounds j v else blk w b := by
  by_cases h : b = b'
  · subst h
    simp only [if_true]
    unfold blk World.setCell
    simp only [Array.getElem?_modify, if_true]
    cases hb : w.heap[b]? with
    | none => simp
    | some o => cases o <;> simp
  · rw [if_neg h]
    unfold blk
    rw [Below.heap_setCell w ⟨b', j, none⟩ v b h]
theorem blk_drew (w : World) (b : Nat) : blk w.drew b = blk w b := rfl
theorem blk_drewN (w : World) (n b : Nat) : blk (w.drewN n) b = blk w b := rfl
theorem Below.blk_rule {W w1 : World} {B : Nat} (hb : Below B W w1) : ∀ b, b < B → blk w1 b = blk W b := fun b h => by unfold blk; rw [hb.block b h]
theorem Below.frz_rule {W w1 : World} {B : Nat} (hb : Below B W w1) : ∀ b j, b < B → w1.frozen? ⟨b, j, none⟩ = W.frozen? ⟨b, j, none⟩ := fun b j h => hb.frozen (p := ⟨b, j, none⟩) h


theorem own_base {w : World} {base base' e k : Nat} {v : Value} {n : Nat} {xs : List Value} (h : w.ownsRow base e k v n xs) (hb : base' ≤ base) : w.ownsRow base' e k v n xs := by
  obtain ⟨h1, h2⟩ := h
  refine ⟨h1, ?_⟩
  rcases h2 with h2 | ⟨g, cap, cur, hv, hg, r⟩
  · exact .inl h2
  · exact .inr ⟨g, cap, cur, hv, Nat.le_trans hb hg, r⟩
theorem own_below {w w' : World} {base e k : Nat} {v : Value} {n : Nat} {xs : List Value} (h : w.ownsRow base e k v n xs) (hb : Below w.heap.size w w') : w'.ownsRow base e k v n xs :=
  h.kept (row := none) ⟨hb.os, hb.tape, hb.output, hb.size, fun k hk _ => hb.block k hk⟩ (by cases v.ownBlock <;> simp)
theorem own_drewN {w : World} {base e k : Nat} {v : Value} {n : Nat} {xs : List Value} (h : w.ownsRow base e k v n xs) (q : Nat) : (w.drewN q).ownsRow base e k v n xs := h
theorem own_set {w : World} {base e k : Nat} {v : Value} {n : Nat} {xs : List Value} (h : w.ownsRow base e k v n xs) {a : Addr} (ha : a.block < base) (u : Value) : (w.setCell a u).ownsRow base e k v n xs :=
  ownsRow_setCell_below h ha u
theorem below_drewN' {B : Nat} {a w : World} (h : Below B a w) (n : Nat) : Below B a (w.drewN n) := ⟨h.os, h.tape, h.output, h.size, h.block⟩
theorem below_call {B : Nat} {w W w1 : World} (h : Below B w W) (hb : Below W.heap.size W w1) (hB : B ≤ W.heap.size) : Below B w w1 := h.trans (hb.mono hB)
theorem Row.set {w : World} {a : Option Addr} {n c k : Nat} {cs : List Value} (h : Row w a n c k cs) {p : Addr} (hp : ∀ ad, a = some ad → ad.block ≠ p.block) (u : Value) : Row (w.setCell p u) a n c k cs :=
  ⟨h.len, h.cap, h.max, h.nil, fun ad ha j v hv => by
    rw [← h.cell ad ha j v hv]
    refine World.cell?_of_block (Below.heap_setCell w p u _ ?_)
    have := hp ad ha
    unfold Addr.add; split <;> exact this⟩


/-- append of a row onto what the call owns, as one step of a region that draws. -/
theorem step_append_row {P : Program} {ops : Array Oper} {w : World} {o : Oper} {a : Act} {K : Act → World → Prop} {Q : Exit → Act → World → Prop} {E : Prop} (hgd : o.guard = none) (s x : Operand) (t : TypeId)
    (ho : o.op = .call { callee := .builtin .append, args := #[s, x], argTypes := #[t, t] })
    (base : Nat) (e : TypeId) (i : TypeInfo) (z : Value) (k by_ : Nat) (ht : P.underlying t = some (.slice e)) (hi : P.info? e = some i) (hz : i.zero = some z)
    (hsize : i.size = k) (hby : i.bytes = by_) (hzs : z.cells.size = k) (hsz : 0 < k)
    (v : Value) (n : Nat) (xs : List Value) (hs : a.eval s = v) (hown : w.ownsRow base e k v n xs)
    (ao : Option Addr) (m c : Nat) (news : List Value) (hx : a.eval x = .slice ao m c) (hrow : Row w ao m c k news) (h1 : ∀ u ∈ news, u.oneCell' = true)
    (h63 : n + m ≤ maxLen) (hbytes : (n + m) * by_ ≤ 140737488355328) (hbase : base ≤ w.heap.size)
    (h : ∀ a' c' w', w'.ownsRow base e k (.slice a' (n + m) c') (n + m) (xs ++ news) → w.grownBy w' v.ownBlock → K (a.put o.dst (.slice a' (n + m) c')) w') :
    if Region.wanted o (yielded ops a.tmps) = true then Oper.wp P o a w K Q else E := by
  have hw : Region.wanted o (yielded ops a.tmps) = true := by simp [Region.wanted, hgd]
  rw [if_pos hw]
  exact wp_append_row s x t ho base e i z k by_ ht hi hz hsize hby hzs hsz v n xs hs hown ao m c news hx hrow h1 h63 hbytes hbase h

/-- A cut of a row: its value (no memory is read), and what it holds. -/
theorem cut_row {P : Program} {w : World} {a : Option Addr} {n c k : Nat} {cs : List Value} (h : Row w a n c k cs) {t e : TypeId} (ht : P.underlying t = some (.slice e)) (hz : (P.info? e).map (·.size) = some k) (lo hi : Nat) (hlo : lo ≤ hi) (hhi : hi ≤ n) :
    ∃ a' : Option Addr, (a' = if c = lo then a else a.map (·.add (lo * k))) ∧ Row w a' (hi - lo) (c - lo) k ((cs.drop (lo * k)).take ((hi - lo) * k)) ∧ (∀ W : World, Row W a n c k cs → Row W a' (hi - lo) (c - lo) k ((cs.drop (lo * k)).take ((hi - lo) * k))) := by
  have gen : ∀ W : World, Row W a n c k cs → Row W (if c = lo then a else a.map (·.add (lo * k))) (hi - lo) (c - lo) k ((cs.drop (lo * k)).take ((hi - lo) * k)) := by
    intro W h
    have hc := h.cap
    have hle : (hi - lo) * k ≤ cs.length - lo * k := by rw [h.len, ← Nat.sub_mul]; exact Nat.mul_le_mul_right _ (by omega)
    refine ⟨?_, by omega, by have := h.max; omega, ?_, ?_⟩
    · rw [List.length_take, List.length_drop]; exact Nat.min_eq_left hle
    · split
      · omega
      · intro hn; have := h.nil (by simpa using hn); omega
    · intro ad had j u hu
      rw [List.getElem?_take] at hu
      split at hu
      · rename_i hj
        rw [List.getElem?_drop] at hu
        split at had
        · rename_i hcl
          have : (hi - lo) * k = 0 := by rw [show hi - lo = 0 by omega]; simp
          omega
        · cases a with
          | none => simp at had
          | some ad0 =>
            simp at had
            subst had
            have := h.cell ad0 rfl (lo * k + j) u hu
            rw [← this]
            congr 1
            unfold Addr.add
            by_cases h1 : lo * k = 0
            · simp [h1]
            · by_cases h2 : j = 0
              · simp [h1, h2]
              · simp [h1, h2, Nat.add_assoc]
      · cases hu
  exact ⟨_, rfl, gen w h, gen⟩

theorem cut_take {w : World} {a : Option Addr} {n c k : Nat} {cs : List Value} (h : Row w a n c k cs) (m : Nat) (hm : m ≤ n) : Row w a m c k (cs.take (m * k)) :=
  ⟨by rw [List.length_take, h.len]; exact Nat.min_eq_left (Nat.mul_le_mul_right _ hm), by have := h.cap; omega, h.max, h.nil, fun ad ha j u hu => by
    rw [List.getElem?_take] at hu
    split at hu
    · exact h.cell ad ha j u hu
    · cases hu⟩

/-- Behind an append: blocks other than the row that it wrote. -/
theorem grown_blk {w w' : World} {v : Value} (hg : w.grownBy w' v.ownBlock) {S : Nat → Prop} (hS : ∀ b, S b → b < w.heap.size) (hne : ∀ b, S b → ∀ k, v.ownBlock = some k → b ≠ k) : ∀ b, S b → blk w' b = blk w b := fun b hb => by
  unfold blk; rw [hg.block b (hS b hb) (fun e => hne b hb b e.symm rfl)]
theorem grown_frz {w w' : World} {v : Value} (hg : w.grownBy w' v.ownBlock) {S : Nat → Prop} (hS : ∀ b, S b → b < w.heap.size) (hne : ∀ b, S b → ∀ k, v.ownBlock = some k → b ≠ k) : ∀ b j, S b → w'.frozen? ⟨b, j, none⟩ = w.frozen? ⟨b, j, none⟩ := fun b j hb => by
  unfold World.frozen?; rw [hg.block b (hS b hb) (fun e => hne b hb b e.symm rfl)]

/-- The element type of block b. -/
def typ (w : World) (b : Nat) : Option TypeId := match w.heap[b]? with | some (.cells _ T _) => some T | _ => none
theorem typ_alloc (w : World) (cs : Array Value) (T : TypeId) (fr : Nat × Nat) (b : Nat) : typ (w.alloc (.cells cs T fr)) b = if b = w.heap.size then some T else typ w b := by
  by_cases h : b = w.heap.size
  · subst h; simp only [if_true]; unfold typ; rw [heap_alloc_new w _]
  · rw [if_neg h]
    unfold typ
    by_cases h2 : b < w.heap.size
    · rw [Below.heap_alloc w _ b h2]
    · have e1 : (w.alloc (.cells cs T fr)).heap[b]? = none := by
        refine Array.getElem?_eq_none ?_
        show (w.heap.push _).size ≤ b
        rw [Array.size_push]; omega
      have e2 : w.heap[b]? = none := Array.getElem?_eq_none (by omega)
      rw [e1, e2]
theorem typ_setCell (w : World) (a : Addr) (v : Value) (b : Nat) : typ (w.setCell a v) b = typ w b := by
  by_cases h : b = a.block
  · subst h
    unfold typ World.setCell
    simp only [Array.getElem?_modify, if_true]
    cases hb : w.heap[a.block]? with
    | none => simp
    | some o => cases o <;> simp
  · unfold typ
    rw [Below.heap_setCell w a v b h]
theorem typ_drew (w : World) (b : Nat) : typ w.drew b = typ w b := rfl
theorem typ_drewN (w : World) (n b : Nat) : typ (w.drewN n) b = typ w b := rfl
theorem Below.typ_rule {W w1 : World} {B : Nat} (hb : Below B W w1) : ∀ b, b < B → typ w1 b = typ W b := fun b h => by unfold typ; rw [hb.block b h]
theorem grown_typ {w w' : World} {v : Value} (hg : w.grownBy w' v.ownBlock) {S : Nat → Prop} (hS : ∀ b, S b → b < w.heap.size) (hne : ∀ b, S b → ∀ k, v.ownBlock = some k → b ≠ k) : ∀ b, S b → typ w' b = typ w b := fun b hb => by
  unfold typ; rw [hg.block b (hS b hb) (fun e => hne b hb b e.symm rfl)]
/-- A store into a block of other elements. -/
theorem own_set_t {w : World} {base e k : Nat} {v : Value} {n : Nat} {xs : List Value} (h : w.ownsRow base e k v n xs) {a : Addr} (ha : typ w a.block ≠ some e) (u : Value) : (w.setCell a u).ownsRow base e k v n xs := by
  obtain ⟨h1, h2⟩ := h
  refine ⟨h1, ?_⟩
  rcases h2 with h2 | ⟨g, cap, cur, hv, hg, hh, r⟩
  · exact .inl h2
  · refine .inr ⟨g, cap, cur, hv, hg, ?_, r⟩
    rw [Below.heap_setCell _ _ _ _ (fun e2 => ha (by rw [← e2]; simp [typ, hh]))]
    exact hh

/-- The world at hand, under a name. -/
theorem wp_name {P : Program} {c : Code} {Q : Exit → Act → World → Prop} {a : Act} {w : World} (h : ∀ W, W = w → c.wp P Q a W) : c.wp P Q a w := h w rfl
/-- What a region that draws keeps of the world W in which it began: the blocks below B. -/
theorem kept_refl (B : Nat) (W : World) : (∀ b, b < B → blk W b = blk W b) ∧ Below B W W := ⟨fun _ _ => rfl, Below.refl _ _⟩
theorem kept_drew (B : Nat) (W : World) : (∀ b, b < B → blk W.drew b = blk W b) ∧ Below B W W.drew := ⟨fun _ _ => rfl, (Below.refl _ _).drew⟩
theorem kept_below {B : Nat} {W w : World} (h : (∀ b, b < B → blk w b = blk W b) ∧ Below B W w) : Below B W w := h.2
theorem kept_size {B : Nat} {W w w' : World} (h : (∀ b, b < B → blk w b = blk W b) ∧ Below B W w) (hb : Below w.heap.size w w') : W.heap.size ≤ w'.heap.size := Nat.le_trans h.2.size hb.size
theorem kept_again {B : Nat} {W w : World} {o : Obj} (h : (∀ b, b < B → blk (w.alloc o) b = blk W b) ∧ Below B W (w.alloc o)) (hB : B ≤ w.heap.size) (hW : W.heap.size ≤ w.heap.size) (o' : Obj) :
    (∀ b, b < B → blk (w.alloc o') b = blk W b) ∧ Below B W (w.alloc o') := by
  have h2 : Below B W (w.alloc o') := ⟨h.2.os, h.2.tape, h.2.output, by simp; omega, fun k hk => by
    rw [Below.heap_alloc w o' k (by omega), ← Below.heap_alloc w o k (by omega)]; exact h.2.block k hk⟩
  exact ⟨Below.blk_rule h2, h2⟩
theorem kept_drew' {B : Nat} {W w : World} (h : (∀ b, b < B → blk w b = blk W b) ∧ Below B W w) : (∀ b, b < B → blk w.drew b = blk W b) ∧ Below B W w.drew := ⟨h.1, h.2.drew⟩
theorem kept_call {B : Nat} {W w w' : World} (h : (∀ b, b < B → blk w b = blk W b) ∧ Below B W w) (hb : Below w.heap.size w w') (hB : B ≤ W.heap.size) : (∀ b, b < B → blk w' b = blk W b) ∧ Below B W w' :=
  have h2 := h.2.trans (hb.mono (Nat.le_trans hB h.2.size))
  ⟨Below.blk_rule h2, h2⟩
theorem kept_alloc {B : Nat} {W w : World} (h : (∀ b, b < B → blk w b = blk W b) ∧ Below B W w) (hB : B ≤ W.heap.size) (o : Obj) : (∀ b, b < B → blk (w.alloc o) b = blk W b) ∧ Below B W (w.alloc o) :=
  have h2 := h.2.alloc (Nat.le_trans hB h.2.size) o
  ⟨Below.blk_rule h2, h2⟩
theorem kept_set {B : Nat} {W w : World} (h : (∀ b, b < B → blk w b = blk W b) ∧ Below B W w) {p : Addr} (hp : B ≤ p.block) (v : Value) : (∀ b, b < B → blk (w.setCell p v) b = blk W b) ∧ Below B W (w.setCell p v) :=
  have h2 := h.2.setCell hp v
  ⟨Below.blk_rule h2, h2⟩

/-! ### min and max, as Lean's own -/
section
variable {P : Program} (w : World) (ts : Array TypeId) (t : TypeId) (k k' k'' : IntKind) (x y z : Int)
theorem mm_min2 : (Builtin.min_ ts t #[.int k x, .int k' y]).run P w = .ok (.int k (min x y)) w := by
  rw [run_min_int2]; congr 2; split <;> omega
theorem mm_max2 : (Builtin.max_ ts t #[.int k x, .int k' y]).run P w = .ok (.int k (max x y)) w := by
  rw [run_max_int2]; congr 2; split <;> omega
theorem mm_min3 : (Builtin.min_ ts t #[.int k x, .int k' y, .int k'' z]).run P w = .ok (.int k (min (min x y) z)) w := by
  rw [run_min_int3]; congr 2; (repeat' split) <;> omega
theorem mm_max3 : (Builtin.max_ ts t #[.int k x, .int k' y, .int k'' z]).run P w = .ok (.int k (max (max x y) z)) w := by
  rw [run_max_int3]; congr 2; (repeat' split) <;> omega
end
attribute [go_sem high] mm_min2 mm_max2 mm_min3 mm_max3

attribute [go_sem] cell_blk blk_alloc blk_setCell blk_drew blk_drewN typ_alloc typ_setCell typ_drew typ_drewN
end Go.Proofs.Ytcioklhpbmjeeaa
