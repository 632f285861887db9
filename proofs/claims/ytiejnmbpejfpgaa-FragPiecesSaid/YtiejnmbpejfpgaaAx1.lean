/- Abstract values: what a value of the program stands for, without memory. -/
import Derived.WalkKit
import Derived.Laws.CopyRow
import Derived.Laws.AppendOwn
import Derived.Below
import Derived.Orders
namespace Go.Proofs.Ytiejnmbpejfpgaa
open Go.RowKit
set_option linter.unusedVariables false

/-- Below block number B the world w' is as w was (but for the tape); the streams are as they were; no block has gone. -/
structure Below (B : Nat) (w w' : World) : Prop where
  os : w'.os = w.os
  output : w'.output = w.output
  size : w.heap.size ≤ w'.heap.size
  block : ∀ k, k < B → w'.heap[k]? = w.heap[k]?
theorem Below.refl (B : Nat) (w : World) : Below B w w := ⟨rfl, rfl, Nat.le_refl _, fun _ _ => rfl⟩
theorem Below.trans {B : Nat} {a b c : World} (h : Below B a b) (k : Below B b c) : Below B a c :=
  ⟨k.os.trans h.os, k.output.trans h.output, Nat.le_trans h.size k.size, fun i hi => (k.block i hi).trans (h.block i hi)⟩
theorem Below.mono {B B' : Nat} {w w' : World} (h : Below B w w') (hB : B' ≤ B) : Below B' w w' := ⟨h.os, h.output, h.size, fun k hk => h.block k (Nat.lt_of_lt_of_le hk hB)⟩
theorem Below.drew {B : Nat} {a w : World} (h : Below B a w) : Below B a w.drew := ⟨h.os, h.output, h.size, h.block⟩
theorem Below.alloc {B : Nat} {a w : World} (h : Below B a w) (hB : B ≤ w.heap.size) (o : Obj) : Below B a (w.alloc o) :=
  h.trans ⟨rfl, rfl, by simp, fun k hk => Go.RowKit.Below.heap_alloc _ _ _ (by omega)⟩
/-- A place that an own row has: its block, where it begins, how many cells are its own. -/
structure Pl where
  blk : Nat
  off : Nat
  lim : Nat
/-- Abstract values. sl: a row that nobody writes (vol: it may lie in memory of the caller's); ref: a slice of an own row; refc: the same, its capacity known; bptr, rptr, aptr: addresses in an own box, row, array; cptr: an address of cells that nobody writes; cnd: known only if g. batt, ratt: says nothing of the value, but where an own box, row lies. -/
inductive AV where
  | any
  | int (k : IntKind) (n : Int)
  | bool (b : Bool)
  | str (s : List UInt8)
  | raw (v : Value)
  | nil
  | sl (vol : Bool) (k : Nat) (es : List AV)
  | csl (vol : Bool) (k : Nat) (es : List AV)
  | ref (b k lo n : Nat)
  | refc (b k lo n c : Nat)
  | bptr (b off : Nat)
  | rptr (b k i off : Nat)
  | aptr (b n : Nat)
  | cptr (vol : Bool) (cs : List AV)
  | agg (cs : List AV)
  | tup (vs : List AV)
  | fn (f : Nat) (caps : List AV)
  | cnd (g : Bool) (v : AV)
  | batt (b g : Nat)
  | ratt (b : Nat) (p : Pl)
  deriving Inhabited

def AV.cells : AV → List AV
  | .agg l => l
  | v => [v]
def flat (es : List AV) : List AV := es.flatMap AV.cells

structure Env where
  b : Nat → Option Nat
  r : Nat → Option Pl
def Env.none : Env := ⟨fun _ => .none, fun _ => .none⟩
def Env.le (ρ ρ' : Env) : Prop := (∀ b g, ρ.b b = some g → ρ'.b b = some g) ∧ (∀ b p, ρ.r b = some p → ρ'.r b = some p)
theorem Env.le_refl (ρ : Env) : ρ.le ρ := ⟨fun _ _ h => h, fun _ _ h => h⟩
theorem Env.none_le (ρ : Env) : Env.none.le ρ := ⟨(fun _ _ h => by cases h), (fun _ _ h => by cases h)⟩
theorem Env.le_trans {a b c : Env} (h : a.le b) (k : b.le c) : a.le c := ⟨fun x g e => k.1 x g (h.1 x g e), fun x g e => k.2 x g (h.2 x g e)⟩

/-- The slice value of address a, length n, capacity c has m cells, f i each, in blocks of L. -/
structure RowAt (w : World) (L : Nat → Prop) (a : Option Addr) (n c m : Nat) (f : Nat → Value) : Prop where
  cap : n ≤ c
  max : c ≤ maxLen
  nil : a = none → c = 0
  loc : ∀ ad, a = some ad → 0 < m → L ad.block
  cell : ∀ ad, a = some ad → ∀ i, i < m → w.cell? (ad.add i) = some (f i)

def Agree (S : Nat → Prop) (w w' : World) : Prop := ∀ x, S x → w'.heap[x]? = w.heap[x]?
theorem Agree.refl (S : Nat → Prop) (w : World) : Agree S w w := fun _ _ => rfl
theorem add_block (a : Addr) (i : Nat) : (a.add i).block = a.block := by unfold Addr.add; split <;> rfl
theorem Agree.cell {S : Nat → Prop} {w w' : World} (h : Agree S w w') {a : Addr} (ha : S a.block) (i : Nat) : w'.cell? (a.add i) = w.cell? (a.add i) :=
  World.cell?_of_block (by rw [add_block]; exact h _ ha)
theorem RowAt.mono {w w' : World} {L L' : Nat → Prop} {a : Option Addr} {n c m : Nat} {f : Nat → Value} (h : RowAt w L a n c m f) (hA : Agree L w w') (hL : ∀ x, L x → L' x) : RowAt w' L' a n c m f :=
  ⟨h.cap, h.max, h.nil, fun ad e hm => hL _ (h.loc ad e hm), fun ad e i hi => (hA.cell (h.loc ad e (by omega)) i).trans (h.cell ad e i hi)⟩

def V0 : Nat → Prop := fun _ => False
inductive Rep0 (F : Nat → Prop) (w : World) : Value → AV → Prop
  | int (k : IntKind) (n : Int) : Rep0 F w (.int k n) (.int k n)
  | bool (b : Bool) : Rep0 F w (.bool b) (.bool b)
  | str (s : ByteArray) (l : List UInt8) (h : s.data.toList = l) : Rep0 F w (.string s) (.str l)
  | raw (v : Value) : Rep0 F w v (.raw v)
  | nil : Rep0 F w (.slice none 0 0) .nil
  | agg (cs : Array Value) (l : List AV) (hl : cs.size = l.length) (h : ∀ (i : Nat) (u : Value) (av : AV), cs[i]? = some u → l[i]? = some av → Rep0 F w u av) : Rep0 F w (.agg cs) (.agg l)
  | sl (a : Option Addr) (n c k : Nat) (es : List AV) (f : Nat → Value) (hn : es.length = n) (hw : ∀ e ∈ es, e.cells.length = k) (hr : RowAt w F a n c (n * k) f) (h : ∀ (i : Nat) (av : AV), (flat es)[i]? = some av → Rep0 F w (f i) av) : Rep0 F w (.slice a n c) (.sl false k es)
  | csl (a : Option Addr) (n k : Nat) (es : List AV) (f : Nat → Value) (hn : es.length = n) (hw : ∀ e ∈ es, e.cells.length = k) (hr : RowAt w F a n n (n * k) f) (h : ∀ (i : Nat) (av : AV), (flat es)[i]? = some av → Rep0 F w (f i) av) : Rep0 F w (.slice a n n) (.csl false k es)

theorem Rep0.mono {F F' : Nat → Prop} {w w' : World} {v : Value} {av : AV} (h : Rep0 F w v av) (hA : Agree F w w') (hF : ∀ x, F x → F' x) : Rep0 F' w' v av := by
  induction h with
  | int k n => exact .int k n
  | bool b => exact .bool b
  | str s l h => exact .str s l h
  | raw v => exact .raw v
  | nil => exact .nil
  | agg cs l hl h ih => exact .agg cs l hl ih
  | sl a n c k es f hn hw hr h ih => exact .sl a n c k es f hn hw (hr.mono hA hF) ih
  | csl a n k es f hn hw hr h ih => exact .csl a n k es f hn hw (hr.mono hA hF) ih

inductive Rep (ρ : Env) (B : Nat → Prop) (F : Nat → Prop) (w : World) : Value → AV → Prop
  | pure (v : Value) (av : AV) (h : Rep0 F w v av) : Rep ρ B F w v av
  | any (v : Value) : Rep ρ B F w v .any
  | vsl (a : Option Addr) (n c k : Nat) (es : List AV) (f : Nat → Value) (hn : es.length = n) (hw : ∀ e ∈ es, e.cells.length = k) (hr : RowAt w (fun x => B x ∨ F x) a n c (n * k) f) (h : ∀ (i : Nat) (av : AV), (flat es)[i]? = some av → Rep0 F w (f i) av) : Rep ρ B F w (.slice a n c) (.sl true k es)
  | vcsl (a : Option Addr) (n k : Nat) (es : List AV) (f : Nat → Value) (hn : es.length = n) (hw : ∀ e ∈ es, e.cells.length = k) (hr : RowAt w (fun x => B x ∨ F x) a n n (n * k) f) (h : ∀ (i : Nat) (av : AV), (flat es)[i]? = some av → Rep0 F w (f i) av) : Rep ρ B F w (.slice a n n) (.csl true k es)
  | ref (a : Option Addr) (c b k lo n : Nat) (p : Pl) (hp : ρ.r b = some p) (hc : n ≤ c) (hm : c ≤ maxLen) (hl : (lo + c) * k ≤ p.lim) (hn : a = none → c = 0) (ha : c ≠ 0 → a = some ⟨p.blk, p.off + lo * k, none⟩) : Rep ρ B F w (.slice a n c) (.ref b k lo n)
  | refc (a : Option Addr) (b k lo n c : Nat) (p : Pl) (hp : ρ.r b = some p) (hc : n ≤ c) (hm : c ≤ maxLen) (hl : (lo + c) * k ≤ p.lim) (hn : a = none → c = 0) (ha : c ≠ 0 → a = some ⟨p.blk, p.off + lo * k, none⟩) : Rep ρ B F w (.slice a n c) (.refc b k lo n c)
  | bptr (b off g : Nat) (hg : ρ.b b = some g) : Rep ρ B F w (.pointer (some ⟨g, off, none⟩)) (.bptr b off)
  | rptr (b k i off : Nat) (p : Pl) (hp : ρ.r b = some p) : Rep ρ B F w (.pointer (some ⟨p.blk, p.off + (i * k + off), none⟩)) (.rptr b k i off)
  | aptr (b n : Nat) (p : Pl) (hp : ρ.r b = some p) (hl : n ≤ p.lim) : Rep ρ B F w (.pointer (some ⟨p.blk, p.off, none⟩)) (.aptr b n)
  | cptr (vol : Bool) (ad : Addr) (cs : List AV) (f : Nat → Value) (hsp : ad.spot = none) (hloc : (vol = true ∧ B ad.block) ∨ F ad.block) (hcell : ∀ i, i < cs.length → w.cell? (ad.add i) = some (f i)) (h : ∀ (i : Nat) (av : AV), cs[i]? = some av → Rep ρ B F w (f i) av) : Rep ρ B F w (.pointer (some ad)) (.cptr vol cs)
  | agg (cs : Array Value) (l : List AV) (hl : cs.size = l.length) (h : ∀ (i : Nat) (u : Value) (av : AV), cs[i]? = some u → l[i]? = some av → Rep ρ B F w u av) : Rep ρ B F w (.agg cs) (.agg l)
  | tup (cs : Array Value) (l : List AV) (hl : cs.size = l.length) (h : ∀ (i : Nat) (u : Value) (av : AV), cs[i]? = some u → l[i]? = some av → Rep ρ B F w u av) : Rep ρ B F w (.tuple cs) (.tup l)
  | fn (f : Nat) (cs : Array Value) (l : List AV) (hl : cs.size = l.length) (h : ∀ (i : Nat) (u : Value) (av : AV), cs[i]? = some u → l[i]? = some av → Rep ρ B F w u av) : Rep ρ B F w (.func (.func f) #[] cs) (.fn f l)
  | batt (v : Value) (b g : Nat) (hg : ρ.b b = some g) : Rep ρ B F w v (.batt b g)
  | ratt (v : Value) (b : Nat) (p : Pl) (hp : ρ.r b = some p) : Rep ρ B F w v (.ratt b p)
  | cnd (g : Bool) (v : Value) (av : AV) (h : g = true → Rep ρ B F w v av) (h0 : g = false → v = undef) : Rep ρ B F w v (.cnd g av)

theorem Rep.mono {ρ ρ' : Env} {B B' : Nat → Prop} {F F' : Nat → Prop} {w w' : World} {v : Value} {av : AV} (h : Rep ρ B F w v av) (hρ : ρ.le ρ') (hA : Agree (fun x => B x ∨ F x) w w') (hB : ∀ x, B x → B' x ∨ F' x) (hF : ∀ x, F x → F' x) : Rep ρ' B' F' w' v av := by
  have hA0 : Agree F w w' := fun x hx => hA x (.inr hx)
  have hL : ∀ x, (B x ∨ F x) → (B' x ∨ F' x) := fun x hx => hx.elim (hB x) (fun h => .inr (hF x h))
  induction h with
  | pure v av h => exact .pure v av (h.mono hA0 hF)
  | any v => exact .any v
  | vsl a n c k es f hn hw hr h => exact .vsl a n c k es f hn hw (hr.mono hA hL) fun i av e => (h i av e).mono hA0 hF
  | vcsl a n k es f hn hw hr h => exact .vcsl a n k es f hn hw (hr.mono hA hL) fun i av e => (h i av e).mono hA0 hF
  | ref a c b k lo n p hp hc hm hl hn ha => exact .ref a c b k lo n p (hρ.2 _ _ hp) hc hm hl hn ha
  | refc a b k lo n c p hp hc hm hl hn ha => exact .refc a b k lo n c p (hρ.2 _ _ hp) hc hm hl hn ha
  | bptr b off g hg => exact .bptr b off g (hρ.1 _ _ hg)
  | rptr b k i off p hp => exact .rptr b k i off p (hρ.2 _ _ hp)
  | aptr b n p hp hl => exact .aptr b n p (hρ.2 _ _ hp) hl
  | cptr vol ad cs f hsp hloc hcell h ih =>
    have hin : B ad.block ∨ F ad.block := hloc.imp (·.2) id
    refine .cptr vol ad cs f hsp ?_ (fun i hi => (hA.cell hin i).trans (hcell i hi)) ih
    rcases hloc with ⟨h1, h2⟩ | h1
    · exact (hB _ h2).imp (fun h => ⟨h1, h⟩) id
    · exact .inr (hF _ h1)
  | agg cs l hl h ih => exact .agg cs l hl ih
  | tup cs l hl h ih => exact .tup cs l hl ih
  | fn f cs l hl h ih => exact .fn f cs l hl ih
  | batt v b g hg => exact .batt v b g (hρ.1 _ _ hg)
  | ratt v b p hp => exact .ratt v b p (hρ.2 _ _ hp)
  | cnd g v av h h0 ih => exact .cnd g v av ih h0

/-! ### What a value of a known form is -/
section
variable {ρ : Env} {B : Nat → Prop} {F : Nat → Prop} {w : World} {v : Value}
theorem Rep.int_inv {k : IntKind} {n : Int} (h : Rep ρ B F w v (.int k n)) : v = .int k n := by
  cases h with | pure _ _ h => cases h; rfl
theorem Rep.bool_inv {b : Bool} (h : Rep ρ B F w v (.bool b)) : v = .bool b := by
  cases h with | pure _ _ h => cases h; rfl
theorem Rep.str_inv {l : List UInt8} (h : Rep ρ B F w v (.str l)) : ∃ s, v = .string s ∧ s.data.toList = l := by
  cases h with | pure _ _ h => cases h with | str s _ h => exact ⟨s, rfl, h⟩
theorem Rep.raw_inv {u : Value} (h : Rep ρ B F w v (.raw u)) : v = u := by
  cases h with | pure _ _ h => cases h; rfl
theorem Rep.nil_inv (h : Rep ρ B F w v .nil) : v = .slice none 0 0 := by
  cases h with | pure _ _ h => cases h; rfl
theorem Rep.agg_inv {l : List AV} (h : Rep ρ B F w v (.agg l)) : ∃ cs : Array Value, v = .agg cs ∧ cs.size = l.length ∧ ∀ (i : Nat) (u : Value) (av : AV), cs[i]? = some u → l[i]? = some av → Rep ρ B F w u av := by
  cases h with
  | pure _ _ h => cases h with | agg cs _ hl h => exact ⟨cs, rfl, hl, fun i u av h1 h2 => .pure _ _ (h i u av h1 h2)⟩
  | agg cs _ hl h => exact ⟨cs, rfl, hl, h⟩
theorem Rep.tup_inv {l : List AV} (h : Rep ρ B F w v (.tup l)) : ∃ cs : Array Value, v = .tuple cs ∧ cs.size = l.length ∧ ∀ (i : Nat) (u : Value) (av : AV), cs[i]? = some u → l[i]? = some av → Rep ρ B F w u av := by
  cases h with
  | pure _ _ h => cases h
  | tup cs _ hl h => exact ⟨cs, rfl, hl, h⟩
theorem Rep.fn_inv {f : Nat} {l : List AV} (h : Rep ρ B F w v (.fn f l)) : ∃ cs : Array Value, v = .func (.func f) #[] cs ∧ cs.size = l.length ∧ ∀ (i : Nat) (u : Value) (av : AV), cs[i]? = some u → l[i]? = some av → Rep ρ B F w u av := by
  cases h with
  | pure _ _ h => cases h
  | fn _ cs _ hl h => exact ⟨cs, rfl, hl, h⟩
theorem Rep.cnd_inv {g : Bool} {av : AV} (h : Rep ρ B F w v (.cnd g av)) (hg : g = true) : Rep ρ B F w v av := by
  cases h with
  | pure _ _ h => cases h
  | cnd _ _ _ h _ => exact h hg
theorem Rep.cnd_not {g : Bool} {av : AV} (h : Rep ρ B F w v (.cnd g av)) (hg : g = false) : v = undef := by
  cases h with
  | pure _ _ h => cases h
  | cnd _ _ _ _ h => exact h hg
/-- A slice that nobody writes. -/
theorem Rep.sl_inv {vol : Bool} {k : Nat} {es : List AV} (h : Rep ρ B F w v (.sl vol k es)) : ∃ (a : Option Addr) (c : Nat) (f : Nat → Value), v = .slice a es.length c ∧ (∀ e ∈ es, e.cells.length = k) ∧ RowAt w (fun x => (vol = true ∧ B x) ∨ F x) a es.length c (es.length * k) f ∧ ∀ (i : Nat) (av : AV), (flat es)[i]? = some av → Rep0 F w (f i) av := by
  cases h with
  | pure _ _ h => cases h with | sl a n c _ _ f hn hw hr h => subst hn; exact ⟨a, c, f, rfl, hw, hr.mono (Agree.refl _ _) fun _ hx => .inr hx, h⟩
  | vsl a n c _ _ f hn hw hr h => subst hn; exact ⟨a, c, f, rfl, hw, hr.mono (Agree.refl _ _) fun _ hx => hx.imp (fun h => ⟨rfl, h⟩) id, h⟩
theorem Rep.csl_inv {vol : Bool} {k : Nat} {es : List AV} (h : Rep ρ B F w v (.csl vol k es)) : ∃ (a : Option Addr) (f : Nat → Value), v = .slice a es.length es.length ∧ (∀ e ∈ es, e.cells.length = k) ∧ RowAt w (fun x => (vol = true ∧ B x) ∨ F x) a es.length es.length (es.length * k) f ∧ ∀ (i : Nat) (av : AV), (flat es)[i]? = some av → Rep0 F w (f i) av := by
  cases h with
  | pure _ _ h => cases h with | csl a n _ _ f hn hw hr h => subst hn; exact ⟨a, f, rfl, hw, hr.mono (Agree.refl _ _) fun _ hx => .inr hx, h⟩
  | vcsl a n _ _ f hn hw hr h => subst hn; exact ⟨a, f, rfl, hw, hr.mono (Agree.refl _ _) fun _ hx => hx.imp (fun h => ⟨rfl, h⟩) id, h⟩
theorem Rep.ref_inv {b k lo n : Nat} (h : Rep ρ B F w v (.ref b k lo n)) : ∃ a c p, v = .slice a n c ∧ ρ.r b = some p ∧ n ≤ c ∧ c ≤ maxLen ∧ (lo + c) * k ≤ p.lim ∧ (a = none → c = 0) ∧ (c ≠ 0 → a = some ⟨p.blk, p.off + lo * k, none⟩) := by
  cases h with
  | pure _ _ h => cases h
  | ref a c _ _ _ _ p hp hc hm hl hn ha => exact ⟨a, c, p, rfl, hp, hc, hm, hl, hn, ha⟩
theorem Rep.refc_inv {b k lo n c : Nat} (h : Rep ρ B F w v (.refc b k lo n c)) : ∃ a p, v = .slice a n c ∧ ρ.r b = some p ∧ n ≤ c ∧ c ≤ maxLen ∧ (lo + c) * k ≤ p.lim ∧ (a = none → c = 0) ∧ (c ≠ 0 → a = some ⟨p.blk, p.off + lo * k, none⟩) := by
  cases h with
  | pure _ _ h => cases h
  | refc a _ _ _ _ _ p hp hc hm hl hn ha => exact ⟨a, p, rfl, hp, hc, hm, hl, hn, ha⟩
/-- The same without what is known of the capacity. -/
def AV.rf : AV → AV
  | .refc b k lo n _ => .ref b k lo n
  | v => v
theorem Rep.rf {av : AV} (h : Rep ρ B F w v av) : Rep ρ B F w v av.rf := by
  cases av with
  | refc b k lo n c => obtain ⟨a, p, rfl, hp, h1, h2, h3, h4, h5⟩ := h.refc_inv; exact .ref a c b k lo n p hp h1 h2 h3 h4 h5
  | _ => exact h
theorem Rep.bptr_inv {b off : Nat} (h : Rep ρ B F w v (.bptr b off)) : ∃ g, ρ.b b = some g ∧ v = .pointer (some ⟨g, off, none⟩) := by
  cases h with
  | pure _ _ h => cases h
  | bptr _ _ g hg => exact ⟨g, hg, rfl⟩
theorem Rep.rptr_inv {b k i off : Nat} (h : Rep ρ B F w v (.rptr b k i off)) : ∃ p, ρ.r b = some p ∧ v = .pointer (some ⟨p.blk, p.off + (i * k + off), none⟩) := by
  cases h with
  | pure _ _ h => cases h
  | rptr _ _ _ _ p hp => exact ⟨p, hp, rfl⟩
theorem Rep.aptr_inv {b n : Nat} (h : Rep ρ B F w v (.aptr b n)) : ∃ p, ρ.r b = some p ∧ n ≤ p.lim ∧ v = .pointer (some ⟨p.blk, p.off, none⟩) := by
  cases h with
  | pure _ _ h => cases h
  | aptr _ _ p hp hl => exact ⟨p, hp, hl, rfl⟩
theorem Rep.cptr_inv {vol : Bool} {cs : List AV} (h : Rep ρ B F w v (.cptr vol cs)) : ∃ (ad : Addr) (f : Nat → Value), v = .pointer (some ad) ∧ ad.spot = none ∧ ((vol = true ∧ B ad.block) ∨ F ad.block) ∧ (∀ i, i < cs.length → w.cell? (ad.add i) = some (f i)) ∧ ∀ (i : Nat) (av : AV), cs[i]? = some av → Rep ρ B F w (f i) av := by
  cases h with
  | pure _ _ h => cases h
  | cptr _ ad _ f hsp hloc hcell h => exact ⟨ad, f, rfl, hsp, hloc, hcell, h⟩
end

/-- What can be said of a row's cells: nothing of own memory, nor of the caller's. -/
def pureC : AV → Bool
  | .int .. | .bool .. | .str .. | .nil | .sl false .. | .csl false .. => true
  | .raw v => v.oneCell'
  | _ => false
def pureV : AV → Bool
  | .agg l => l.all pureC
  | v => pureC v
theorem Rep.pureC {ρ : Env} {B : Nat → Prop} {F : Nat → Prop} {w : World} {v : Value} {av : AV} (h : Rep ρ B F w v av) (hp : Go.Proofs.Ytiejnmbpejfpgaa.pureC av = true) : Rep0 F w v av := by
  cases h with
  | pure _ _ h => exact h
  | _ => simp [Go.Proofs.Ytiejnmbpejfpgaa.pureC] at hp
theorem Rep.pureV {ρ : Env} {B : Nat → Prop} {F : Nat → Prop} {w : World} {v : Value} {av : AV} (h : Rep ρ B F w v av) (hp : Go.Proofs.Ytiejnmbpejfpgaa.pureV av = true) : Rep0 F w v av := by
  cases h with
  | pure _ _ h => exact h
  | agg cs l hl h =>
    simp only [Go.Proofs.Ytiejnmbpejfpgaa.pureV, List.all_eq_true] at hp
    refine .agg cs l hl fun i u av h1 h2 => (h i u av h1 h2).pureC (hp av (List.mem_of_getElem? h2))
  | _ => simp [Go.Proofs.Ytiejnmbpejfpgaa.pureV, Go.Proofs.Ytiejnmbpejfpgaa.pureC] at hp

/-- What a constant stands for. -/
def cstC : Value → AV
  | .int k n => .int k n
  | .bool b => .bool b
  | .string s => .str s.data.toList
  | .slice .none 0 0 => .nil
  | v => .raw v
def cst : Value → AV
  | .agg cs => .agg (cs.toList.map cstC)
  | v => cstC v
theorem cstC_rep (F : Nat → Prop) (w : World) (v : Value) : Rep0 F w v (cstC v) := by
  unfold cstC
  split
  · exact .int _ _
  · exact .bool _
  · exact .str _ _ rfl
  · exact .nil
  · exact .raw _
theorem cst_rep (F : Nat → Prop) (w : World) (v : Value) : Rep0 F w v (cst v) := by
  unfold cst
  split
  · refine .agg _ _ (by simp) fun i u av h1 h2 => ?_
    simp only [List.getElem?_map, Array.getElem?_toList, h1, Option.map_some, Option.some.injEq] at h2
    subst h2
    exact cstC_rep F w u
  · exact cstC_rep F w v
end Go.Proofs.Ytiejnmbpejfpgaa
