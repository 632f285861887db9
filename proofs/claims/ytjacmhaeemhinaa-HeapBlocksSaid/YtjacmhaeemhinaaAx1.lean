/- Abstract values: what a value of the program stands for, without memory. -/
import Derived.WalkKit
import Derived.Laws.CopyRow
import Derived.Laws.AppendOwn
import Derived.Below
import Derived.Orders
namespace Go.Proofs.Ytjacmhaeemhinaa
open Go.RowKit
set_option linter.unusedVariables false

/-- Below block number B the world w' is as w was (but for the tape); the streams are as they were; no block has gone. -/
structure Below (B : Nat) (w w' : World) : Prop where
  os : w'.os = w.os
  output : w'.output = w.output
  size : w.heap.size ≤ w'.heap.size
  block : ∀ k, k < B → w'.heap[k]? = w.heap[k]?
theorem Below.refl (B : Nat) (w : World) : Below B w w := ⟨rfl, rfl, Nat.le_refl _, fun _ _ => rfl⟩
theorem Below.trans {B : Nat} {a b c : World} (h : Below B a b) (k : Below B b c) : Below B a c :=
  ⟨k.os.trans h.os, k.output.trans h.output, Nat.le_trans h.size k.size, fun i hi => (k.block i hi).trans (h.block i hi)⟩
theorem Below.drew {B : Nat} {a w : World} (h : Below B a w) : Below B a w.drew := ⟨h.os, h.output, h.size, h.block⟩
theorem Below.alloc {B : Nat} {a w : World} (h : Below B a w) (hB : B ≤ w.heap.size) (o : Obj) : Below B a (w.alloc o) :=
  h.trans ⟨rfl, rfl, by simp, fun k hk => Go.RowKit.Below.heap_alloc _ _ _ (by omega)⟩
/-- A place that an own row has: its block, where it begins, how many cells are its own. -/
structure Pl where
  blk : Nat
  off : Nat
  lim : Nat
/-- Abstract values. sl: a row that nobody writes (vol: it may lie in memory of the caller's); ref: a slice of an own row; refc: the same, its capacity known; bptr, rptr, aptr: addresses in an own box, row, array; cptr: an address of cells that nobody writes; cnd: known only if g. batt, ratt: says nothing of the value, but where an own box, row lies. -/
inductive AV where
  | any
  | int (k : IntKind) (n : Int)
  | bool (b : Bool)
  | str (s : List UInt8)
  | raw (v : Value)
  | nil
  | sl (vol : Bool) (k : Nat) (es : List AV)
  | csl (vol : Bool) (k : Nat) (es : List AV)
  | ref (b k lo n : Nat)
  | refc (b k lo n c : Nat)
  | bptr (b off : Nat)
  | rptr (b k i off : Nat)
  | aptr (b n : Nat)
  | cptr (vol : Bool) (cs : List AV)
  | agg (cs : List AV)
  | tup (vs : List AV)
  | fn (f : Nat) (caps : List AV)
  | cnd (g : Bool) (v : AV)
  | batt (b g : Nat)
  | ratt (b : Nat) (p : Pl)
  | mptr (b : Nat)
  | itr (b m : Nat)
  | obj (f : Nat → Obj)
  deriving Inhabited

def AV.cells : AV → List AV
  | .agg l => l
  | .obj _ => []
  | v => [v]
def flat (es : List AV) : List AV := es.flatMap AV.cells

structure Env where
  b : Nat → Option Nat
  r : Nat → Option Pl
def Env.none : Env := ⟨fun _ => .none, fun _ => .none⟩
def Env.le (ρ ρ' : Env) : Prop := (∀ b g, ρ.b b = some g → ρ'.b b = some g) ∧ (∀ b p, ρ.r b = some p → ρ'.r b = some p)
theorem Env.le_refl (ρ : Env) : ρ.le ρ := ⟨fun _ _ h => h, fun _ _ h => h⟩
theorem Env.none_le (ρ : Env) : Env.none.le ρ := ⟨(fun _ _ h => by cases h), (fun _ _ h => by cases h)⟩
theorem Env.le_trans {a b c : Env} (h : a.le b) (k : b.le c) : a.le c := ⟨fun x g e => k.1 x g (h.1 x g e), fun x g e => k.2 x g (h.2 x g e)⟩

/-- The slice value of address a, length n, capacity c has m cells, f i each, in blocks of L. -/
structure RowAt (w : World) (L : Nat → Prop) (a : Option Addr) (n c m : Nat) (f : Nat → Value) : Prop where
  cap : n ≤ c
  max : c ≤ maxLen
  nil : a = none → c = 0
  loc : ∀ ad, a = some ad → 0 < m → L ad.block
  cell : ∀ ad, a = some ad → ∀ i, i < m → w.cell? (ad.add i) = some (f i)

def Agree (S : Nat → Prop) (w w' : World) : Prop := ∀ x, S x → w'.heap[x]? = w.heap[x]?
theorem Agree.refl (S : Nat → Prop) (w : World) : Agree S w w := fun _ _ => rfl
theorem add_block (a : Addr) (i : Nat) : (a.add i).block = a.block := by unfold Addr.add; split <;> rfl
theorem Agree.cell {S : Nat → Prop} {w w' : World} (h : Agree S w w') {a : Addr} (ha : S a.block) (i : Nat) : w'.cell? (a.add i) = w.cell? (a.add i) :=
  World.cell?_of_block (by rw [add_block]; exact h _ ha)
theorem RowAt.mono {w w' : World} {L L' : Nat → Prop} {a : Option Addr} {n c m : Nat} {f : Nat → Value} (h : RowAt w L a n c m f) (hA : Agree L w w') (hL : ∀ x, L x → L' x) : RowAt w' L' a n c m f :=
  ⟨h.cap, h.max, h.nil, fun ad e hm => hL _ (h.loc ad e hm), fun ad e i hi => (hA.cell (h.loc ad e (by omega)) i).trans (h.cell ad e i hi)⟩

def V0 : Nat → Prop := fun _ => False
inductive Rep0 (F : Nat → Prop) (w : World) : Value → AV → Prop
  | int (k : IntKind) (n : Int) : Rep0 F w (.int k n) (.int k n)
  | bool (b : Bool) : Rep0 F w (.bool b) (.bool b)
  | str (s : ByteArray) (l : List UInt8) (h : s.data.toList = l) : Rep0 F w (.string s) (.str l)
  | raw (v : Value) : Rep0 F w v (.raw v)
  | nil : Rep0 F w (.slice none 0 0) .nil
  | agg (cs : Array Value) (l : List AV) (hl : cs.size = l.length) (h : ∀ (i : Nat) (u : Value) (av : AV), cs[i]? = some u → l[i]? = some av → Rep0 F w u av) : Rep0 F w (.agg cs) (.agg l)
  | sl (a : Option Addr) (n c k : Nat) (es : List AV) (f : Nat → Value) (hn : es.length = n) (hw : ∀ e ∈ es, e.cells.length = k) (hr : RowAt w F a n c (n * k) f) (h : ∀ (i : Nat) (av : AV), (flat es)[i]? = some av → Rep0 F w (f i) av) : Rep0 F w (.slice a n c) (.sl false k es)
  | csl (a : Option Addr) (n k : Nat) (es : List AV) (f : Nat → Value) (hn : es.length = n) (hw : ∀ e ∈ es, e.cells.length = k) (hr : RowAt w F a n n (n * k) f) (h : ∀ (i : Nat) (av : AV), (flat es)[i]? = some av → Rep0 F w (f i) av) : Rep0 F w (.slice a n n) (.csl false k es)

theorem Rep0.mono {F F' : Nat → Prop} {w w' : World} {v : Value} {av : AV} (h : Rep0 F w v av) (hA : Agree F w w') (hF : ∀ x, F x → F' x) : Rep0 F' w' v av := by
  induction h with
  | int k n => exact .int k n
  | bool b => exact .bool b
  | str s l h => exact .str s l h
  | raw v => exact .raw v
  | nil => exact .nil
  | agg cs l hl h ih => exact .agg cs l hl ih
  | sl a n c k es f hn hw hr h ih => exact .sl a n c k es f hn hw (hr.mono hA hF) ih
  | csl a n k es f hn hw hr h ih => exact .csl a n k es f hn hw (hr.mono hA hF) ih

inductive Rep (ρ : Env) (B : Nat → Prop) (F : Nat → Prop) (w : World) : Value → AV → Prop
  | pure (v : Value) (av : AV) (h : Rep0 F w v av) : Rep ρ B F w v av
  | any (v : Value) : Rep ρ B F w v .any
  | vsl (a : Option Addr) (n c k : Nat) (es : List AV) (f : Nat → Value) (hn : es.length = n) (hw : ∀ e ∈ es, e.cells.length = k) (hr : RowAt w (fun x => B x ∨ F x) a n c (n * k) f) (h : ∀ (i : Nat) (av : AV), (flat es)[i]? = some av → Rep0 F w (f i) av) : Rep ρ B F w (.slice a n c) (.sl true k es)
  | vcsl (a : Option Addr) (n k : Nat) (es : List AV) (f : Nat → Value) (hn : es.length = n) (hw : ∀ e ∈ es, e.cells.length = k) (hr : RowAt w (fun x => B x ∨ F x) a n n (n * k) f) (h : ∀ (i : Nat) (av : AV), (flat es)[i]? = some av → Rep0 F w (f i) av) : Rep ρ B F w (.slice a n n) (.csl true k es)
  | ref (a : Option Addr) (c b k lo n : Nat) (p : Pl) (hp : ρ.r b = some p) (hc : n ≤ c) (hm : c ≤ maxLen) (hl : (lo + c) * k ≤ p.lim) (hn : a = none → c = 0) (ha : c ≠ 0 → a = some ⟨p.blk, p.off + lo * k, none⟩) : Rep ρ B F w (.slice a n c) (.ref b k lo n)
  | refc (a : Option Addr) (b k lo n c : Nat) (p : Pl) (hp : ρ.r b = some p) (hc : n ≤ c) (hm : c ≤ maxLen) (hl : (lo + c) * k ≤ p.lim) (hn : a = none → c = 0) (ha : c ≠ 0 → a = some ⟨p.blk, p.off + lo * k, none⟩) : Rep ρ B F w (.slice a n c) (.refc b k lo n c)
  | bptr (b off g : Nat) (hg : ρ.b b = some g) : Rep ρ B F w (.pointer (some ⟨g, off, none⟩)) (.bptr b off)
  | rptr (b k i off : Nat) (p : Pl) (hp : ρ.r b = some p) : Rep ρ B F w (.pointer (some ⟨p.blk, p.off + (i * k + off), none⟩)) (.rptr b k i off)
  | aptr (b n : Nat) (p : Pl) (hp : ρ.r b = some p) (hl : n ≤ p.lim) : Rep ρ B F w (.pointer (some ⟨p.blk, p.off, none⟩)) (.aptr b n)
  | cptr (vol : Bool) (ad : Addr) (cs : List AV) (f : Nat → Value) (hsp : ad.spot = none) (hloc : (vol = true ∧ B ad.block) ∨ F ad.block) (hcell : ∀ i, i < cs.length → w.cell? (ad.add i) = some (f i)) (h : ∀ (i : Nat) (av : AV), cs[i]? = some av → Rep ρ B F w (f i) av) : Rep ρ B F w (.pointer (some ad)) (.cptr vol cs)
  | agg (cs : Array Value) (l : List AV) (hl : cs.size = l.length) (h : ∀ (i : Nat) (u : Value) (av : AV), cs[i]? = some u → l[i]? = some av → Rep ρ B F w u av) : Rep ρ B F w (.agg cs) (.agg l)
  | tup (cs : Array Value) (l : List AV) (hl : cs.size = l.length) (h : ∀ (i : Nat) (u : Value) (av : AV), cs[i]? = some u → l[i]? = some av → Rep ρ B F w u av) : Rep ρ B F w (.tuple cs) (.tup l)
  | fn (f : Nat) (cs : Array Value) (l : List AV) (hl : cs.size = l.length) (h : ∀ (i : Nat) (u : Value) (av : AV), cs[i]? = some u → l[i]? = some av → Rep ρ B F w u av) : Rep ρ B F w (.func (.func f) #[] cs) (.fn f l)
  | batt (v : Value) (b g : Nat) (hg : ρ.b b = some g) : Rep ρ B F w v (.batt b g)
  | mptr (b : Nat) (p : Pl) (hp : ρ.r b = some p) (hl : 0 < p.lim) : Rep ρ B F w (.map (some p.blk)) (.mptr b)
  | itr (b m : Nat) (p q : Pl) (hp : ρ.r b = some p) (hq : ρ.r m = some q) (hl : p.lim = q.blk + 1 ∧ 0 < q.lim) : Rep ρ B F w (.pointer (some ⟨p.blk, 0, none⟩)) (.itr b m)
  | ratt (v : Value) (b : Nat) (p : Pl) (hp : ρ.r b = some p) : Rep ρ B F w v (.ratt b p)
  | cnd (g : Bool) (v : Value) (av : AV) (h : g = true → Rep ρ B F w v av) (h0 : g = false → v = undef) : Rep ρ B F w v (.cnd g av)

theorem Rep.mono {ρ ρ' : Env} {B B' : Nat → Prop} {F F' : Nat → Prop} {w w' : World} {v : Value} {av : AV} (h : Rep ρ B F w v av) (hρ : ρ.le ρ') (hA : Agree (fun x => B x ∨ F x) w w') (hB : ∀ x, B x → B' x ∨ F' x) (hF : ∀ x, F x → F' x) : Rep ρ' B' F' w' v av := by
  have hA0 : Agree F w w' := fun x hx => hA x (.inr hx)
  have hL : ∀ x, (B x ∨ F x) → (B' x ∨ F' x) := fun x hx => hx.elim (hB x) (fun h => .inr (hF x h))
  induction h with
  | pure v av h => exact .pure v av (h.mono hA0 hF)
  | any v => exact .any v
  | vsl a n c k es f hn hw hr h => exact .vsl a n c k es f hn hw (hr.mono hA hL) fun i av e => (h i av e).mono hA0 hF
  | vcsl a n k es f hn hw hr h => exact .vcsl a n k es f hn hw (hr.mono hA hL) fun i av e => (h i av e).mono hA0 hF
  | ref a c b k lo n p hp hc hm hl hn ha => exact .ref a c b k lo n p (hρ.2 _ _ hp) hc hm hl hn ha
  | refc a b k lo n c p hp hc hm hl hn ha => exact .refc a b k lo n c p (hρ.2 _ _ hp) hc hm hl hn ha
  | bptr b off g hg => exact .bptr b off g (hρ.1 _ _ hg)
  | rptr b k i off p hp => exact .rptr b k i off p (hρ.2 _ _ hp)
  | aptr b n p hp hl => exact .aptr b n p (hρ.2 _ _ hp) hl
  | cptr vol ad cs f hsp hloc hcell h ih =>
    have hin : B ad.block ∨ F ad.block := hloc.imp (·.2) id
    refine .cptr vol ad cs f hsp ?_ (fun i hi => (hA.cell hin i).trans (hcell i hi)) ih
    rcases hloc with ⟨h1, h2⟩ | h1
    · exact (hB _ h2).imp (fun h => ⟨h1, h⟩) id
    · exact .inr (hF _ h1)
  | agg cs l hl h ih => exact .agg cs l hl ih
  | tup cs l hl h ih => exact .tup cs l hl ih
  | fn f cs l hl h ih => exact .fn f cs l hl ih
  | batt v b g hg => exact .batt v b g (hρ.1 _ _ hg)
  | mptr b p hp hl => exact .mptr b p (hρ.2 _ _ hp) hl
  | itr b m p q hp hq hl => exact .itr b m p q (hρ.2 _ _ hp) (hρ.2 _ _ hq) hl
  | ratt v b p hp => exact .ratt v b p (hρ.2 _ _ hp)
  | cnd g v av h h0 ih => exact .cnd g v av ih h0

/-! ### What a value of a known form is -/
section
variable {ρ : Env} {B : Nat → Prop} {F : Nat → Prop} {w : World} {v : Value}
theorem Rep.int_inv {k : IntKind} {n : Int} (h : Rep ρ B F w v (.int k n)) : v = .int k n := by
  cases h with | pure _ _ h => cases h; rfl
theorem Rep.bool_inv {b : Bool} (h : Rep ρ B F w v (.bool b)) : v = .bool b := by
  cases h with | pure _ _ h => cases h; rfl
theorem Rep.str_inv {l : List UInt8} (h : Rep ρ B F w v (.str l)) : ∃ s, v = .string s ∧ s.data.toList = l := by
  cases h with | pure _ _ h => cases h with | str s _ h => exact ⟨s, rfl, h⟩
theorem Rep.raw_inv {u : Value} (h : Rep ρ B F w v (.raw u)) : v = u := by
  cases h with | pure _ _ h => cases h; rfl
theorem Rep.nil_inv (h : Rep ρ B F w v .nil) : v = .slice none 0 0 := by
  cases h with | pure _ _ h => cases h; rfl
theorem Rep.agg_inv {l : List AV} (h : Rep ρ B F w v (.agg l)) : ∃ cs : Array Value, v = .agg cs ∧ cs.size = l.length ∧ ∀ (i : Nat) (u : Value) (av : AV), cs[i]? = some u → l[i]? = some av → Rep ρ B F w u av := by
  cases h with
  | pure _ _ h => cases h with | agg cs _ hl h => exact ⟨cs, rfl, hl, fun i u av h1 h2 => .pure _ _ (h i u av h1 h2)⟩
  | agg cs _ hl h => exact ⟨cs, rfl, hl, h⟩
theorem Rep.tup_inv {l : List AV} (h : Rep ρ B F w v (.tup l)) : ∃ cs : Array Value, v = .tuple cs ∧ cs.size = l.length ∧ ∀ (i : Nat) (u : Value) (av : AV), cs[i]? = some u → l[i]? = some av → Rep ρ B F w u av := by
  cases h with
  | pure _ _ h => cases h
  | tup cs _ hl h => exact ⟨cs, rfl, hl, h⟩
theorem Rep.fn_inv {f : Nat} {l : List AV} (h : Rep ρ B F w v (.fn f l)) : ∃ cs : Array Value, v = .func (.func f) #[] cs ∧ cs.size = l.length ∧ ∀ (i : Nat) (u : Value) (av : AV), cs[i]? = some u → l[i]? = some av → Rep ρ B F w u av := by
  cases h with
  | pure _ _ h => cases h
  | fn _ cs _ hl h => exact ⟨cs, rfl, hl, h⟩
theorem Rep.cnd_inv {g : Bool} {av : AV} (h : Rep ρ B F w v (.cnd g av)) (hg : g = true) : Rep ρ B F w v av := by
  cases h with
  | pure _ _ h => cases h
  | cnd _ _ _ h _ => exact h hg
theorem Rep.cnd_not {g : Bool} {av : AV} (h : Rep ρ B F w v (.cnd g av)) (hg : g = false) : v = undef := by
  cases h with
  | pure _ _ h => cases h
  | cnd _ _ _ _ h => exact h hg
/-- A slice that nobody writes. -/
theorem Rep.sl_inv {vol : Bool} {k : Nat} {es : List AV} (h : Rep ρ B F w v (.sl vol k es)) : ∃ (a : Option Addr) (c : Nat) (f : Nat → Value), v = .slice a es.length c ∧ (∀ e ∈ es, e.cells.length = k) ∧ RowAt w (fun x => (vol = true ∧ B x) ∨ F x) a es.length c (es.length * k) f ∧ ∀ (i : Nat) (av : AV), (flat es)[i]? = some av → Rep0 F w (f i) av := by
  cases h with
  | pure _ _ h => cases h with | sl a n c _ _ f hn hw hr h => subst hn; exact ⟨a, c, f, rfl, hw, hr.mono (Agree.refl _ _) fun _ hx => .inr hx, h⟩
  | vsl a n c _ _ f hn hw hr h => subst hn; exact ⟨a, c, f, rfl, hw, hr.mono (Agree.refl _ _) fun _ hx => hx.imp (fun h => ⟨rfl, h⟩) id, h⟩
theorem Rep.csl_inv {vol : Bool} {k : Nat} {es : List AV} (h : Rep ρ B F w v (.csl vol k es)) : ∃ (a : Option Addr) (f : Nat → Value), v = .slice a es.length es.length ∧ (∀ e ∈ es, e.cells.length = k) ∧ RowAt w (fun x => (vol = true ∧ B x) ∨ F x) a es.length es.length (es.length * k) f ∧ ∀ (i : Nat) (av : AV), (flat es)[i]? = some av → Rep0 F w (f i) av := by
  cases h with
  | pure _ _ h => cases h with | csl a n _ _ f hn hw hr h => subst hn; exact ⟨a, f, rfl, hw, hr.mono (Agree.refl _ _) fun _ hx => .inr hx, h⟩
  | vcsl a n _ _ f hn hw hr h => subst hn; exact ⟨a, f, rfl, hw, hr.mono (Agree.refl _ _) fun _ hx => hx.imp (fun h => ⟨rfl, h⟩) id, h⟩
theorem Rep.ref_inv {b k lo n : Nat} (h : Rep ρ B F w v (.ref b k lo n)) : ∃ a c p, v = .slice a n c ∧ ρ.r b = some p ∧ n ≤ c ∧ c ≤ maxLen ∧ (lo + c) * k ≤ p.lim ∧ (a = none → c = 0) ∧ (c ≠ 0 → a = some ⟨p.blk, p.off + lo * k, none⟩) := by
  cases h with
  | pure _ _ h => cases h
  | ref a c _ _ _ _ p hp hc hm hl hn ha => exact ⟨a, c, p, rfl, hp, hc, hm, hl, hn, ha⟩
theorem Rep.refc_inv {b k lo n c : Nat} (h : Rep ρ B F w v (.refc b k lo n c)) : ∃ a p, v = .slice a n c ∧ ρ.r b = some p ∧ n ≤ c ∧ c ≤ maxLen ∧ (lo + c) * k ≤ p.lim ∧ (a = none → c = 0) ∧ (c ≠ 0 → a = some ⟨p.blk, p.off + lo * k, none⟩) := by
  cases h with
  | pure _ _ h => cases h
  | refc a _ _ _ _ _ p hp hc hm hl hn ha => exact ⟨a, p, rfl, hp, hc, hm, hl, hn, ha⟩
/-- The same without what is known of the capacity. -/
def AV.rf : AV → AV
  | .refc b k lo n _ => .ref b k lo n
  | v => v
theorem Rep.rf {av : AV} (h : Rep ρ B F w v av) : Rep ρ B F w v av.rf := by
  cases av with
  | refc b k lo n c => obtain ⟨a, p, rfl, hp, h1, h2, h3, h4, h5⟩ := h.refc_inv; exact .ref a c b k lo n p hp h1 h2 h3 h4 h5
  | _ => exact h
theorem Rep.bptr_inv {b off : Nat} (h : Rep ρ B F w v (.bptr b off)) : ∃ g, ρ.b b = some g ∧ v = .pointer (some ⟨g, off, none⟩) := by
  cases h with
  | pure _ _ h => cases h
  | bptr _ _ g hg => exact ⟨g, hg, rfl⟩
theorem Rep.rptr_inv {b k i off : Nat} (h : Rep ρ B F w v (.rptr b k i off)) : ∃ p, ρ.r b = some p ∧ v = .pointer (some ⟨p.blk, p.off + (i * k + off), none⟩) := by
  cases h with
  | pure _ _ h => cases h
  | rptr _ _ _ _ p hp => exact ⟨p, hp, rfl⟩
theorem Rep.aptr_inv {b n : Nat} (h : Rep ρ B F w v (.aptr b n)) : ∃ p, ρ.r b = some p ∧ n ≤ p.lim ∧ v = .pointer (some ⟨p.blk, p.off, none⟩) := by
  cases h with
  | pure _ _ h => cases h
  | aptr _ _ p hp hl => exact ⟨p, hp, hl, rfl⟩
theorem Rep.mptr_inv {b : Nat} (h : Rep ρ B F w v (.mptr b)) : ∃ p, ρ.r b = some p ∧ 0 < p.lim ∧ v = .map (some p.blk) := by
  cases h with
  | pure _ _ h => cases h
  | mptr _ p hp hl => exact ⟨p, hp, hl, rfl⟩
theorem Rep.itr_inv {b m : Nat} (h : Rep ρ B F w v (.itr b m)) : ∃ p q, ρ.r b = some p ∧ ρ.r m = some q ∧ (p.lim = q.blk + 1 ∧ 0 < q.lim) ∧ v = .pointer (some ⟨p.blk, 0, none⟩) := by
  cases h with
  | pure _ _ h => cases h
  | itr _ _ p q hp hq hl => exact ⟨p, q, hp, hq, hl, rfl⟩
theorem Rep.cptr_inv {vol : Bool} {cs : List AV} (h : Rep ρ B F w v (.cptr vol cs)) : ∃ (ad : Addr) (f : Nat → Value), v = .pointer (some ad) ∧ ad.spot = none ∧ ((vol = true ∧ B ad.block) ∨ F ad.block) ∧ (∀ i, i < cs.length → w.cell? (ad.add i) = some (f i)) ∧ ∀ (i : Nat) (av : AV), cs[i]? = some av → Rep ρ B F w (f i) av := by
  cases h with
  | pure _ _ h => cases h
  | cptr _ ad _ f hsp hloc hcell h => exact ⟨ad, f, rfl, hsp, hloc, hcell, h⟩
end

/-- What can be said of a row's cells: nothing of own memory, nor of the caller's. -/
def pureC : AV → Bool
  | .int .. | .bool .. | .str .. | .nil | .sl false .. | .csl false .. => true
  | .raw v => v.oneCell'
  | _ => false
def pureV : AV → Bool
  | .agg l => l.all pureC
  | v => pureC v
theorem Rep.pureC {ρ : Env} {B : Nat → Prop} {F : Nat → Prop} {w : World} {v : Value} {av : AV} (h : Rep ρ B F w v av) (hp : Go.Proofs.Ytjacmhaeemhinaa.pureC av = true) : Rep0 F w v av := by
  cases h with
  | pure _ _ h => exact h
  | _ => simp [Go.Proofs.Ytjacmhaeemhinaa.pureC] at hp
theorem Rep.pureV {ρ : Env} {B : Nat → Prop} {F : Nat → Prop} {w : World} {v : Value} {av : AV} (h : Rep ρ B F w v av) (hp : Go.Proofs.Ytjacmhaeemhinaa.pureV av = true) : Rep0 F w v av := by
  cases h with
  | pure _ _ h => exact h
  | agg cs l hl h =>
    simp only [Go.Proofs.Ytjacmhaeemhinaa.pureV, List.all_eq_true] at hp
    refine .agg cs l hl fun i u av h1 h2 => (h i u av h1 h2).pureC (hp av (List.mem_of_getElem? h2))
  | _ => simp [Go.Proofs.Ytjacmhaeemhinaa.pureV, Go.Proofs.Ytjacmhaeemhinaa.pureC] at hp

/-- What a constant stands for. -/
def cstC : Value → AV
  | .int k n => .int k n
  | .bool b => .bool b
  | .string s => .str s.data.toList
  | .slice .none 0 0 => .nil
  | v => .raw v
def cst : Value → AV
  | .agg cs => .agg (cs.toList.map cstC)
  | v => cstC v
theorem cstC_rep (F : Nat → Prop) (w : World) (v : Value) : Rep0 F w v (cstC v) := by
  unfold cstC
  split
  · exact .int _ _
  · exact .bool _
  · exact .str _ _ rfl
  · exact .nil
  · exact .raw _
theorem cst_rep (F : Nat → Prop) (w : World) (v : Value) : Rep0 F w v (cst v) := by
  unfold cst
  split
  · refine .agg _ _ (by simp) fun i u av h1 h2 => ?_
    simp only [List.getElem?_map, Array.getElem?_toList, h1, Option.map_some, Option.some.injEq] at h2
    subst h2
    exact cstC_rep F w u
  · exact cstC_rep F w v
end Go.Proofs.Ytjacmhaeemhinaa

namespace Go.Proofs.Ytjacmhaeemhinaa
open Go.RowKit
set_option linter.unusedVariables false

structure ARow where
  fro : Bool
  k : Nat
  es : List AV
structure FS where
  tm : Nat → AV
  bx : Nat → Option (List AV)
  rw : Nat → Option ARow

def BoxOk (ρ : Env) (B : Nat → Prop) (F : Nat → Prop) (w : World) (g : Nat) (cells : List AV) : Prop :=
  ¬ B g ∧ ¬ F g ∧ ∃ cs T, w.heap[g]? = some (.cells cs T (0, 0)) ∧ cs.size = cells.length ∧ ∀ (i : Nat) (u : Value) (av : AV), cs[i]? = some u → cells[i]? = some av → Rep ρ B F w u av
/-- A row that holds no cells, but an object: a map, or one that goes over a map (of which block: the place's length tells). -/
def ObjAt (w : World) (p : Pl) (r : ARow) : Prop := ∃ f, r.es = [.obj f] ∧ r.k = 0 ∧ p.off = 0 ∧ w.heap[p.blk]? = some (f p.lim)
theorem ObjAt.no {w : World} {p : Pl} {r : ARow} (h : ObjAt w p r) : r.k = 0 ∧ flat r.es = [] := by
  obtain ⟨f, h1, h2, _⟩ := h
  exact ⟨h2, by rw [h1]; rfl⟩
theorem ObjAt.mono {w w' : World} {p : Pl} {r : ARow} (h : ObjAt w p r) (hg : w'.heap[p.blk]? = w.heap[p.blk]?) : ObjAt w' p r := by
  obtain ⟨f, h1, h2, h3, h4⟩ := h
  exact ⟨f, h1, h2, h3, hg.trans h4⟩
def RowOk (B : Nat → Prop) (F : Nat → Prop) (w : World) (p : Pl) (r : ARow) : Prop :=
  (∀ e ∈ r.es, e.cells.length = r.k) ∧ (flat r.es).length ≤ p.lim ∧ (p.lim = 0 ∨ ((r.fro = true → F p.blk) ∧ (r.fro = false → ¬ B p.blk ∧ ¬ F p.blk) ∧ ∃ cs T fr, ((w.heap[p.blk]? = some (.cells cs T fr) ∧ 0 < r.k) ∨ ObjAt w p r) ∧ p.off + p.lim ≤ cs.size ∧ (r.fro = false → fr = (0, 0)) ∧ ∀ (i : Nat) (av : AV), (flat r.es)[i]? = some av → ∃ u, cs[p.off + i]? = some u ∧ Rep0 F w u av))

theorem BoxOk.mono {ρ ρ' : Env} {B : Nat → Prop} {F F' : Nat → Prop} {w w' : World} {g : Nat} {cells : List AV} (h : BoxOk ρ B F w g cells) (hρ : ρ.le ρ') (hA : Agree (fun x => B x ∨ F x) w w') (hg : w'.heap[g]? = w.heap[g]?) (hF : ∀ x, F x → F' x) (hn : ¬ F' g) : BoxOk ρ' B F' w' g cells := by
  obtain ⟨h1, h2, cs, T, h3, h4, h6⟩ := h
  exact ⟨h1, hn, cs, T, hg.trans h3, h4, fun i u av e1 e2 => (h6 i u av e1 e2).mono hρ hA (fun _ hx => .inl hx) hF⟩
theorem RowOk.mono {B : Nat → Prop} {F F' : Nat → Prop} {w w' : World} {p : Pl} {r : ARow} (h : RowOk B F w p r) (hA : Agree F w w') (hg : 0 < p.lim → w'.heap[p.blk]? = w.heap[p.blk]?) (hF : ∀ x, F x → F' x) (hn : r.fro = false → 0 < p.lim → ¬ F' p.blk) : RowOk B F' w' p r := by
  obtain ⟨h1, h2, h3⟩ := h
  refine ⟨h1, h2, ?_⟩
  rcases h3 with h3 | ⟨h3, h4, cs, T, fr, h5, h6, h7, h8⟩
  · exact .inl h3
  · by_cases hz : p.lim = 0
    · exact .inl hz
    · refine .inr ⟨fun e => hF _ (h3 e), fun e => ⟨(h4 e).1, hn e (by omega)⟩, cs, T, fr, h5.imp (fun q => ⟨(hg (by omega)).trans q.1, q.2⟩) (fun q => q.mono (hg (by omega))), h6, h7, fun i av e => ?_⟩
      obtain ⟨u, e1, e2⟩ := h8 i av e
      exact ⟨u, e1, e2.mono hA hF⟩

/-- Where a frame stands: V: memory that is not its own, and stays as it is (V); the world at its beginning. -/
structure Base where
  V : Nat → Prop
  w : World
  ds : List Deferred
/-- Memory below stays as it was. -/
structure Base.Bel (b : Base) (w : World) : Prop where
  os : w.os = b.w.os
  output : w.output = b.w.output
  grow : b.w.heap.size ≤ w.heap.size
  size : ∀ x, b.V x → x < w.heap.size
  block : ∀ k, b.V k → w.heap[k]? = b.w.heap[k]?
theorem Base.Bel.step {b : Base} {w w' : World} (h : b.Bel w) (hos : w'.os = w.os) (hout : w'.output = w.output) (hsz : w.heap.size ≤ w'.heap.size) (hb : ∀ k, b.V k → w'.heap[k]? = w.heap[k]?) : b.Bel w' :=
  ⟨hos.trans h.os, hout.trans h.output, Nat.le_trans h.grow hsz, fun x hx => Nat.lt_of_lt_of_le (h.size x hx) hsz, fun k hk => (hb k hk).trans (h.block k hk)⟩
theorem Base.Bel.below {b : Base} {w w' : World} (h : b.Bel w) (k : Below w.heap.size w w') : b.Bel w' := h.step k.os k.output k.size fun x hx => k.block x (h.size x hx)
theorem Base.Bel.fresh {b : Base} {w : World} (h : b.Bel w) {g : Nat} (hg : w.heap.size ≤ g) : ¬ b.V g := fun hv => absurd (h.size g hv) (by omega)
/-- The world w and the activation a fit the state σ. -/
structure Sim (w0 : Base) (N : Nat) (ρ : Env) (F : Nat → Prop) (σ : FS) (a : Act) (w : World) : Prop where
  sz : a.tmps.size = N
  df : a.defers = w0.ds
  tm : ∀ t, Rep ρ w0.V F w (a.tmps.getD t undef) (σ.tm t)
  bx : ∀ b cells g, σ.bx b = some cells → ρ.b b = some g → BoxOk ρ w0.V F w g cells
  rw : ∀ b r p, σ.rw b = some r → ρ.r b = some p → RowOk w0.V F w p r
  ib : ∀ b b' g, ρ.b b = some g → ρ.b b' = some g → b = b'
  ir : ∀ b b' p p' r r', ρ.r b = some p → ρ.r b' = some p' → σ.rw b = some r → σ.rw b' = some r' → r.fro = false → r'.fro = false → 0 < p.lim → 0 < p'.lim → p.blk = p'.blk → b = b'
  ibr : ∀ b b' g p, ρ.b b = some g → ρ.r b' = some p → 0 < p.lim → p.blk ≠ g
  lb : ∀ b g, ρ.b b = some g → g < w.heap.size
  lr : ∀ b p, ρ.r b = some p → 0 < p.lim → p.blk < w.heap.size
  fl : ∀ x, F x → x < w.heap.size
  bel : w0.Bel w

section
variable {w0 : Base} {N : Nat} {ρ : Env} {F : Nat → Prop} {σ : FS} {a : Act} {w : World}
/-- New blocks alone. -/
theorem Sim.grow (h : Sim w0 N ρ F σ a w) {w' : World} (hb : Below w.heap.size w w') : Sim w0 N ρ F σ a w' := by
  have hA : Agree (fun x => w0.V x ∨ F x) w w' := fun x hx => hb.block x (by rcases hx with hx | hx; exact h.bel.size x hx; exact h.fl x hx)
  have hA0 : Agree F w w' := fun x hx => hA x (.inr hx)
  refine ⟨h.sz, h.df, fun t => (h.tm t).mono ρ.le_refl hA (fun _ hx => .inl hx) (fun _ hx => hx), fun b cells g e1 e2 => ?_, fun b r p e1 e2 => ?_, h.ib, h.ir, h.ibr, fun b g e => Nat.lt_of_lt_of_le (h.lb b g e) hb.size, fun b p e e2 => Nat.lt_of_lt_of_le (h.lr b p e e2) hb.size, fun x hx => Nat.lt_of_lt_of_le (h.fl x hx) hb.size, h.bel.below hb⟩
  · exact (h.bx b cells g e1 e2).mono ρ.le_refl hA (hb.block g (h.lb b g e2)) (fun _ hx => hx) (h.bx b cells g e1 e2).2.1
  · refine (h.rw b r p e1 e2).mono hA0 (fun hl => hb.block _ (h.lr b p e2 hl)) (fun _ hx => hx) (fun e hl => ?_)
    rcases (h.rw b r p e1 e2).2.2 with h3 | ⟨_, h3, _⟩
    · omega
    · exact (h3 e).2

def FS.put (σ : FS) (d : Option Nat) (v : AV) : FS := match d with
  | none => σ
  | some t => { σ with tm := fun u => if u = t then v else σ.tm u }
theorem Sim.put (h : Sim w0 N ρ F σ a w) {d : Option Nat} {v : Value} {av : AV} (hv : Rep ρ w0.V F w v av) (hd : ∀ t, d = some t → t < N) : Sim w0 N ρ F (σ.put d av) (a.put d v) w := by
  cases d with
  | none => exact h
  | some t =>
    have ht := hd t rfl
    refine ⟨by simp [Act.put, h.sz], h.df, fun u => ?_, h.bx, h.rw, h.ib, h.ir, h.ibr, h.lb, h.lr, h.fl, h.bel⟩
    simp only [FS.put, Act.put]
    by_cases hu : u = t
    · subst hu
      simp only [if_true]
      rw [show (a.tmps.setIfInBounds u v).getD u undef = v by simp [Array.getD, h.sz, ht]]
      exact hv
    · rw [if_neg hu, show (a.tmps.setIfInBounds t v).getD u undef = a.tmps.getD u undef by
        simp only [Array.getD_eq_getD_getElem?]; rw [Array.getElem?_setIfInBounds_ne (fun e => hu e.symm)]]
      exact h.tm u
/-! ### The environment, made longer -/
def Env.addB (ρ : Env) (b g : Nat) : Env := { ρ with b := fun x => if x = b then some g else ρ.b x }
def Env.addR (ρ : Env) (b : Nat) (p : Pl) : Env := { ρ with r := fun x => if x = b then some p else ρ.r x }
theorem Env.le_addB {ρ : Env} {b g : Nat} (h : ρ.b b = .none) : ρ.le (ρ.addB b g) := ⟨fun x y e => by
  simp only [addB]; split
  · subst_vars; rw [h] at e; cases e
  · exact e, fun _ _ e => e⟩
theorem Env.le_addR {ρ : Env} {b : Nat} {p : Pl} (h : ρ.r b = .none) : ρ.le (ρ.addR b p) := ⟨fun _ _ e => e, fun x y e => by
  simp only [addR]; split
  · subst_vars; rw [h] at e; cases e
  · exact e⟩

def FS.setB (σ : FS) (b : Nat) (c : List AV) : FS := { σ with bx := fun x => if x = b then some c else σ.bx x }
def FS.setR (σ : FS) (b : Nat) (r : Option ARow) : FS := { σ with rw := fun x => if x = b then r else σ.rw x }

/-- A box that is new: block w.heap.size. -/
theorem Sim.newBox (h : Sim w0 N ρ F σ a w) {b : Nat} (hb : ρ.b b = .none) {cs : Array Value} {T : TypeId} {cells : List AV} (hl : cs.size = cells.length) (hr : ∀ (i : Nat) (u : Value) (av : AV), cs[i]? = some u → cells[i]? = some av → Rep ρ w0.V F w u av) :
    Sim w0 N (ρ.addB b w.heap.size) F (σ.setB b cells) a (w.alloc (.cells cs T)) := by
  have hbel : Below w.heap.size w (w.alloc (.cells cs T)) := (Below.refl _ _).alloc (Nat.le_refl _) _
  have h' := h.grow hbel
  have hle := Env.le_addB (g := w.heap.size) hb
  have hA : Agree (fun x => w0.V x ∨ F x) w (w.alloc (.cells cs T)) := fun x hx => hbel.block x (by rcases hx with hx | hx; exact h.bel.size x hx; exact h.fl x hx)
  have refl (S : Nat → Prop) := Agree.refl S (w.alloc (.cells cs T))
  refine ⟨h'.sz, h'.df, fun t => (h'.tm t).mono hle (refl _) (fun _ hx => .inl hx) (fun _ hx => hx), fun x c g e1 e2 => ?_, h'.rw, fun x y g e1 e2 => ?_, h'.ir, fun x y g p e1 e2 hl => ?_, fun x g e => ?_, h'.lr, h'.fl, h'.bel⟩
  · simp only [FS.setB, Env.addB] at e1 e2
    by_cases hx : x = b
    · rw [if_pos hx] at e1 e2
      cases e1; cases e2
      refine ⟨h.bel.fresh (Nat.le_refl _), fun hF => absurd (h.fl _ hF) (Nat.lt_irrefl _), cs, T, heap_alloc_new _ _, hl, fun i u av e1 e2 => (hr i u av e1 e2).mono hle hA (fun _ hx => .inl hx) (fun _ hx => hx)⟩
    · rw [if_neg hx] at e1 e2
      exact (h'.bx x c g e1 e2).mono hle (refl _) rfl (fun _ hx => hx) (h'.bx x c g e1 e2).2.1
  · simp only [Env.addB] at e1 e2
    split at e1 <;> split at e2
    · subst_vars; rfl
    · cases e1; have := h.lb _ _ e2; omega
    · cases e2; have := h.lb _ _ e1; omega
    · exact h.ib _ _ _ e1 e2
  · simp only [Env.addB] at e1
    split at e1
    · cases e1; have := h.lr _ _ e2 hl; omega
    · exact h.ibr _ _ _ _ e1 e2 hl
  · simp only [Env.addB] at e
    split at e
    · cases e; simp
    · exact h'.lb _ _ e

/-- A row that is new, in a block that is new, or nowhere. -/
theorem Sim.newRow (h : Sim w0 N ρ F σ a w) {b : Nat} (hb : ρ.r b = .none) {w' : World} {p : Pl} {r : ARow} (hbel : Below w.heap.size w w') (hp : 0 < p.lim → p.blk < w'.heap.size ∧ w.heap.size ≤ p.blk) (hr : RowOk w0.V F w' p r) :
    Sim w0 N (ρ.addR b p) F (σ.setR b (some r)) a w' := by
  have h' := h.grow hbel
  have hle := Env.le_addR (p := p) hb
  have refl (S : Nat → Prop) := Agree.refl S w'
  refine ⟨h'.sz, h'.df, fun t => (h'.tm t).mono hle (refl _) (fun _ hx => .inl hx) (fun _ hx => hx), fun x c g e1 e2 => ?_, fun x r2 p2 e1 e2 => ?_, h'.ib, fun x y p1 p2 r1 r2 e1 e2 e3 e4 f1 f2 l1 l2 hq => ?_, fun x y g p2 e1 e2 hl => ?_, h'.lb, fun x p2 e hl => ?_, h'.fl, h'.bel⟩
  · exact (h'.bx x c g e1 e2).mono hle (refl _) rfl (fun _ hx => hx) (h'.bx x c g e1 e2).2.1
  · simp only [FS.setR, Env.addR] at e1 e2
    by_cases hx : x = b
    · rw [if_pos hx] at e1 e2
      cases e1; cases e2; exact hr
    · rw [if_neg hx] at e1 e2
      exact h'.rw x r2 p2 e1 e2
  · simp only [FS.setR, Env.addR] at e1 e2 e3 e4
    by_cases hx : x = b <;> by_cases hy : y = b
    · rw [hx, hy]
    · rw [if_pos hx] at e1 e3; rw [if_neg hy] at e2 e4; cases e1
      have := h.lr _ _ e2 l2; have := hp l1; omega
    · rw [if_neg hx] at e1 e3; rw [if_pos hy] at e2 e4; cases e2
      have := h.lr _ _ e1 l1; have := hp l2; omega
    · rw [if_neg hx] at e1 e3; rw [if_neg hy] at e2 e4
      exact h.ir _ _ _ _ _ _ e1 e2 e3 e4 f1 f2 l1 l2 hq
  · simp only [Env.addR] at e2
    split at e2
    · cases e2; have := h.lb _ _ e1; have := hp hl; omega
    · exact h.ibr _ _ _ _ e1 e2 hl
  · simp only [Env.addR] at e
    split at e
    · cases e; exact (hp hl).1
    · exact h'.lr _ _ e hl

/-- A box is written: its block alone has changed. -/
theorem Sim.writeBox (h : Sim w0 N ρ F σ a w) {b g : Nat} {cells cells' : List AV} (hb : σ.bx b = some cells) (hg : ρ.b b = some g) {w' : World} (hos : w'.os = w.os) (htp : w'.tape = w.tape) (hout : w'.output = w.output) (hsz : w'.heap.size = w.heap.size)
    (hne : ∀ x, x ≠ g → w'.heap[x]? = w.heap[x]?) (hr : Agree (fun x => w0.V x ∨ F x) w w' → BoxOk ρ w0.V F w' g cells') : Sim w0 N ρ F (σ.setB b cells') a w' := by
  have hok := h.bx b cells g hb hg
  have hA : Agree (fun x => w0.V x ∨ F x) w w' := fun x hx => hne x (by rintro rfl; rcases hx with hx | hx; exact hok.1 hx; exact hok.2.1 hx)
  have hA0 : Agree F w w' := fun x hx => hA x (.inr hx)
  refine ⟨h.sz, h.df, fun t => (h.tm t).mono ρ.le_refl hA (fun _ hx => .inl hx) (fun _ hx => hx), fun x c g2 e1 e2 => ?_, fun x r p e1 e2 => ?_, h.ib, h.ir, h.ibr, fun x g e => hsz ▸ h.lb x g e, fun x p e hl => hsz ▸ h.lr x p e hl, fun x hx => hsz ▸ h.fl x hx, ?_⟩
  · simp only [FS.setB] at e1
    by_cases hx : x = b
    · rw [if_pos hx] at e1; cases e1
      rw [hx, hg] at e2; cases e2
      exact hr hA
    · rw [if_neg hx] at e1
      refine (h.bx x c g2 e1 e2).mono ρ.le_refl hA (hne _ ?_) (fun _ hx => hx) (h.bx x c g2 e1 e2).2.1
      rintro rfl; exact hx (h.ib _ _ _ e2 hg)
  · refine (h.rw x r p e1 e2).mono hA0 (fun hl => hne _ (h.ibr _ _ _ _ hg e2 hl)) (fun _ hx => hx) (fun e hl => ?_)
    rcases (h.rw x r p e1 e2).2.2 with h3 | ⟨_, h3, _⟩
    · omega
    · exact (h3 e).2
  · exact h.bel.step hos hout (by omega) fun k hk => hne k (by rintro rfl; exact hok.1 hk)

/-- An own row is written: its block alone has changed; it may become another row of the same block. -/
theorem Sim.writeRow (h : Sim w0 N ρ F σ a w) {b : Nat} {p : Pl} {r r' : ARow} (hb : σ.rw b = some r) (hp : ρ.r b = some p) (hfro : r.fro = false) (hfro' : r'.fro = false) (hlim : 0 < p.lim) {w' : World} (hos : w'.os = w.os) (htp : w'.tape = w.tape) (hout : w'.output = w.output) (hsz : w'.heap.size = w.heap.size)
    (hne : ∀ x, x ≠ p.blk → w'.heap[x]? = w.heap[x]?) (hr : Agree F w w' → RowOk w0.V F w' p r') : Sim w0 N ρ F (σ.setR b (some r')) a w' := by
  have hok := h.rw b r p hb hp
  have hown : ¬ w0.V p.blk ∧ ¬ F p.blk := by
    rcases hok.2.2 with h3 | ⟨_, h3, _⟩
    · omega
    · exact h3 hfro
  have hA : Agree (fun x => w0.V x ∨ F x) w w' := fun x hx => hne x (by rintro rfl; rcases hx with hx | hx; exact hown.1 hx; exact hown.2 hx)
  have hA0 : Agree F w w' := fun x hx => hA x (.inr hx)
  refine ⟨h.sz, h.df, fun t => (h.tm t).mono ρ.le_refl hA (fun _ hx => .inl hx) (fun _ hx => hx), fun x c g2 e1 e2 => ?_, fun x r2 p2 e1 e2 => ?_, h.ib, fun x y p1 p2 r1 r2 e1 e2 e3 e4 f1 f2 l1 l2 hq => ?_, h.ibr, fun x g e => hsz ▸ h.lb x g e, fun x p e hl => hsz ▸ h.lr x p e hl, fun x hx => hsz ▸ h.fl x hx, ?_⟩
  · exact (h.bx x c g2 e1 e2).mono ρ.le_refl hA (hne _ (fun e => h.ibr _ _ _ _ e2 hp hlim e.symm)) (fun _ hx => hx) (h.bx x c g2 e1 e2).2.1
  · simp only [FS.setR] at e1
    by_cases hx : x = b
    · rw [if_pos hx] at e1; cases e1
      rw [hx, hp] at e2; cases e2
      exact hr hA0
    · rw [if_neg hx] at e1
      cases hf : r2.fro
      · refine (h.rw x r2 p2 e1 e2).mono hA0 (fun hl => hne _ (fun e => hx (h.ir _ _ _ _ _ _ e2 hp e1 hb hf hfro hl hlim e))) (fun _ hx => hx) (fun e hl => ?_)
        rcases (h.rw x r2 p2 e1 e2).2.2 with h3 | ⟨_, h3, _⟩
        · omega
        · exact (h3 e).2
      · refine (h.rw x r2 p2 e1 e2).mono hA0 (fun hl => ?_) (fun _ hx => hx) (fun e hl => by rw [hf] at e; cases e)
        rcases (h.rw x r2 p2 e1 e2).2.2 with h3 | ⟨h3, _, _⟩
        · omega
        · exact hA0 _ (h3 hf)
  · simp only [FS.setR] at e3 e4
    have t1 : ∃ q, σ.rw x = some q ∧ q.fro = false := by
      by_cases hx : x = b
      · rw [hx]; exact ⟨r, hb, hfro⟩
      · rw [if_neg hx] at e3; exact ⟨r1, e3, f1⟩
    have t2 : ∃ q, σ.rw y = some q ∧ q.fro = false := by
      by_cases hx : y = b
      · rw [hx]; exact ⟨r, hb, hfro⟩
      · rw [if_neg hx] at e4; exact ⟨r2, e4, f2⟩
    obtain ⟨q1, t1, t1'⟩ := t1
    obtain ⟨q2, t2, t2'⟩ := t2
    exact h.ir _ _ _ _ _ _ e1 e2 t1 t2 t1' t2' l1 l2 hq
  · exact h.bel.step hos hout (by omega) fun k hk => hne k (by rintro rfl; exact hown.1 hk)

/-- A row is no more. -/
theorem Sim.dropRow (h : Sim w0 N ρ F σ a w) (b : Nat) : Sim w0 N ρ F (σ.setR b .none) a w := by
  refine ⟨h.sz, h.df, h.tm, h.bx, fun x r p e1 e2 => ?_, h.ib, fun x y p1 p2 r1 r2 e1 e2 e3 e4 => ?_, h.ibr, h.lb, h.lr, h.fl, h.bel⟩
  · simp only [FS.setR] at e1; split at e1
    · cases e1
    · exact h.rw x r p e1 e2
  · simp only [FS.setR] at e3 e4
    split at e3
    · cases e3
    · split at e4
      · cases e4
      · exact h.ir _ _ _ _ _ _ e1 e2 e3 e4

/-- A row that is dropped goes on under another number: the same block, from a place on. -/
theorem Sim.moveRow (h : Sim w0 N ρ F σ a w) {b b' : Nat} (hne : b ≠ b') (hb' : ρ.r b' = .none) {r r' : ARow} {p p' : Pl} (hb : σ.rw b = some r) (hp : ρ.r b = some p) (hf : r.fro = false) (hl : 0 < p'.lim → 0 < p.lim ∧ p'.blk = p.blk) (hr : RowOk w0.V F w p' r') :
    Sim w0 N (ρ.addR b' p') F ((σ.setR b .none).setR b' (some r')) a w := by
  have hle := Env.le_addR (p := p') hb'
  have refl (S : Nat → Prop) := Agree.refl S w
  refine ⟨h.sz, h.df, fun t => (h.tm t).mono hle (refl _) (fun _ hx => .inl hx) (fun _ hx => hx), fun x c g e1 e2 => ?_, fun x r2 p2 e1 e2 => ?_, h.ib, fun x y p1 p2 r1 r2 e1 e2 e3 e4 f1 f2 l1 l2 hq => ?_, fun x y g p2 e1 e2 hlm => ?_, h.lb, fun x p2 e hlm => ?_, h.fl, h.bel⟩
  · exact (h.bx x c g e1 e2).mono hle (refl _) rfl (fun _ hx => hx) (h.bx x c g e1 e2).2.1
  · simp only [FS.setR, Env.addR] at e1 e2
    by_cases hx : x = b'
    · rw [if_pos hx] at e1 e2; cases e1; cases e2; exact hr
    · rw [if_neg hx] at e1 e2
      split at e1
      · cases e1
      · exact h.rw x r2 p2 e1 e2
  · simp only [FS.setR, Env.addR] at e1 e2 e3 e4
    by_cases hx : x = b' <;> by_cases hy : y = b'
    · rw [hx, hy]
    · rw [if_pos hx] at e1 e3; rw [if_neg hy] at e2 e4; cases e1
      split at e4
      · cases e4
      · rename_i hyb
        have := hl l1
        exact absurd (h.ir _ _ _ _ _ _ e2 hp e4 hb f2 hf l2 this.1 (by rw [← hq, this.2])) hyb
    · rw [if_neg hx] at e1 e3; rw [if_pos hy] at e2 e4; cases e2
      split at e3
      · cases e3
      · rename_i hyb
        have := hl l2
        exact absurd (h.ir _ _ _ _ _ _ e1 hp e3 hb f1 hf l1 this.1 (by rw [hq, this.2])) hyb
    · rw [if_neg hx] at e1 e3; rw [if_neg hy] at e2 e4
      split at e3
      · cases e3
      · split at e4
        · cases e4
        · exact h.ir _ _ _ _ _ _ e1 e2 e3 e4 f1 f2 l1 l2 hq
  · simp only [Env.addR] at e2
    split at e2
    · cases e2; have := hl hlm; rw [this.2]; exact h.ibr _ _ _ _ e1 hp this.1
    · exact h.ibr _ _ _ _ e1 e2 hlm
  · simp only [Env.addR] at e
    split at e
    · cases e; have := hl hlm; rw [this.2]; exact h.lr _ _ hp this.1
    · exact h.lr _ _ e hlm

/-- An own row that nobody writes any more. -/
theorem Sim.freeze (h : Sim w0 N ρ F σ a w) {b : Nat} {r : ARow} {p : Pl} (hb : σ.rw b = some r) (hp : ρ.r b = some p) (hf : r.fro = false) :
    ∃ F' : Nat → Prop, (∀ x, F x → F' x) ∧ (∀ x, F' x → F x ∨ ¬ w0.V x) ∧ (0 < p.lim → F' p.blk) ∧ Sim w0 N ρ F' (σ.setR b (some { r with fro := true })) a w := by
  have hok := h.rw b r p hb hp
  refine ⟨fun x => F x ∨ (0 < p.lim ∧ x = p.blk), fun x hx => .inl hx, fun x hx => ?_, fun hl => .inr ⟨hl, rfl⟩, ?_⟩
  · rcases hx with hx | ⟨h1, rfl⟩
    · exact .inl hx
    · rcases hok.2.2 with h3 | ⟨_, h3, _⟩
      · omega
      · exact .inr (h3 hf).1
  have refl (S : Nat → Prop) := Agree.refl S w
  refine ⟨h.sz, h.df, fun t => (h.tm t).mono ρ.le_refl (refl _) (fun _ hx => .inl hx) (fun _ hx => .inl hx), fun x c g e1 e2 => ?_, fun x r2 p2 e1 e2 => ?_, h.ib, fun x y p1 p2 r1 r2 e1 e2 e3 e4 f1 f2 l1 l2 hq => ?_, h.ibr, h.lb, h.lr, fun x hx => ?_, h.bel⟩
  · refine (h.bx x c g e1 e2).mono ρ.le_refl (refl _) rfl (fun _ hx => .inl hx) ?_
    rintro (hx | ⟨h1, h2⟩)
    · exact (h.bx x c g e1 e2).2.1 hx
    · exact h.ibr _ _ _ _ e2 hp h1 h2.symm
  · simp only [FS.setR] at e1
    by_cases hx : x = b
    · rw [if_pos hx] at e1; cases e1
      rw [hx, hp] at e2; cases e2
      obtain ⟨h1, h2, h3⟩ := hok
      refine ⟨h1, h2, ?_⟩
      rcases h3 with h3 | ⟨h3, h4, cs, T, fr, h5, h6, h7, h8⟩
      · exact .inl h3
      · by_cases hz : p.lim = 0
        · exact .inl hz
        · exact .inr ⟨fun _ => .inr ⟨by omega, rfl⟩, (fun e => absurd e (by simp)), cs, T, fr, h5, h6, (fun e => absurd e (by simp)), fun i av e => let ⟨u, e1, e2⟩ := h8 i av e; ⟨u, e1, e2.mono (refl _) fun _ hx => .inl hx⟩⟩
    · rw [if_neg hx] at e1
      refine (h.rw x r2 p2 e1 e2).mono (refl _) (fun _ => rfl) (fun _ hx => .inl hx) (fun e hl => ?_)
      rintro (hF | ⟨h1, h2⟩)
      · rcases (h.rw x r2 p2 e1 e2).2.2 with h3 | ⟨_, h3, _⟩
        · omega
        · exact (h3 e).2 hF
      · exact hx (h.ir _ _ _ _ _ _ e2 hp e1 hb e hf hl h1 h2)
  · simp only [FS.setR] at e3 e4
    split at e3
    · cases e3; cases f1
    · split at e4
      · cases e4; cases f2
      · exact h.ir _ _ _ _ _ _ e1 e2 e3 e4 f1 f2 l1 l2 hq
  · rcases hx with hx | ⟨h1, rfl⟩
    · exact h.fl x hx
    · exact h.lr _ _ hp h1
end
end Go.Proofs.Ytjacmhaeemhinaa

namespace Go.Proofs.Ytjacmhaeemhinaa
open Go.RowKit
set_option linter.unusedVariables false

inductive Opd where
  | tmp (t : Nat)
  | cst (v : AV)
  deriving Inhabited

/-- Operations, their types resolved. -/
inductive AI where
  | mv (x : Opd)
  | mvS (x : Opd)
  | mvL (x : Opd)
  | isN (ne : Bool) (x : Opd)
  | no
  | pick (c a b : Opd)
  | newb (cells : List AV)
  | newa (cells : List AV)
  | box (x : Opd)
  | boxa (x : Opd)
  | build (zero : List AV) (parts : List (Nat × Nat × Opd))
  | bsl (k : Nat) (xs : List Opd)
  | load (agg : Bool) (n : Nat) (a : Opd)
  | store (n : Nat) (a x : Opd)
  | fadr (off : Nat) (a : Opd)
  | fld (off n : Nat) (agg : Bool) (x : Opd)
  | iadS (k : Nat) (x i : Opd)
  | iadA (k len : Nat) (x i : Opd)
  | idxA (k len : Nat) (agg : Bool) (x i : Opd)
  | idxT (x i : Opd)
  | slS (k : Nat) (x : Opd) (lo hi mx : Option Opd)
  | slA (len : Nat) (x : Opd) (lo hi : Option Opd)
  | slT (x : Opd) (lo hi : Option Opd)
  | ext (x : Opd) (i : Nat)
  | conv (k : IntKind) (x : Opd)
  | b2s (x : Opd)
  | s2b (x : Opd)
  | not (x : Opd)
  | neg (x : Opd)
  | com (x : Opd)
  | bin (op : BinOp) (x y : Opd)
  | binB (ne : Bool) (x y : Opd)
  | binT (op : BinOp) (x y : Opd)
  | eqA (ne : Bool) (ts : List Nat) (x y : Opd)
  | mks (k by_ : Nat) (zero : AV) (n c : Opd)
  | mkf (f : Nat) (caps : List Opd)
  | nchk (x : Opd)
  | lenV (x : Opd)
  | lenT (x : Opd)
  | lenC (n : Nat)
  | capV (x : Opd)
  | appz (k by_ : Nat) (zero : AV) (x y : Opd)
  | app (k by_ : Nat) (x y : Opd)
  | cpy (k : Nat) (x y : Opd)
  | clr (k : Nat) (zero : AV) (x : Opd)
  | min (xs : List Opd)
  | max (xs : List Opd)
  | call (f : Nat) (args : List Opd)
  | callv (x : Opd) (args : List Opd)
  deriving Inhabited

inductive Upd where
  | B (b : Nat) (c : List AV)
  | R (b : Nat) (r : Option ARow)
structure Res where
  ok : Prop
  av : AV := .any
  nb : Nat := 0
  nr : Nat := 0
  up : List Upd := []
def Res.fail : Res := ⟨False, .any, 0, 0, []⟩

def FS.upd (σ : FS) : Upd → FS
  | .B b c => σ.setB b c
  | .R b r => σ.setR b r
def FS.ups (σ : FS) (l : List Upd) : FS := l.foldl FS.upd σ

def AV.val : AV → AV
  | .cnd _ v => v
  | v => v
def AV.cond : AV → Prop
  | .cnd g _ => g = true
  | _ => True
/-- One cell, whatever the world. -/
def scal : AV → Bool
  | .int .. | .bool .. | .str .. | .nil | .sl .. | .csl .. | .ref .. | .refc .. | .bptr .. | .rptr .. | .aptr .. | .cptr .. | .fn .. => true
  | .raw v => v.oneCell'
  | _ => false
def okV : AV → Bool
  | .agg l => l.all scal
  | v => scal v

def ints : List AV → Option (IntKind × List Int)
  | [] => none
  | [.int k n] => some (k, [n])
  | .int k n :: l => (ints l).map fun (k', ns) => (k, n :: ns)
  | _ => none
def minL : List Int → Int
  | [] => 0
  | x :: l => l.foldl (fun a b => min a b) x
def maxL : List Int → Int
  | [] => 0
  | x :: l => l.foldl (fun a b => max a b) x

def pickV (t : Bool) (va vb : AV) : AV :=
  match va, vb with
  | .bool x, .bool y => .bool (if t then x else y)
  | .int k x, .int k' y => if k = k' then .int k (if t then x else y) else if t then .int k x else .int k' y
  | va, vb => if t then va else vb
theorem pickV_true (va vb : AV) : pickV true va vb = va := by
  unfold pickV; split
  · rfl
  · split <;> rfl
  · rfl
theorem pickV_false (va vb : AV) : pickV false va vb = vb := by
  unfold pickV; split
  · rfl
  · split
    · rename_i h; subst h; rfl
    · rfl
  · rfl

def binI (op : BinOp) (k : IntKind) (x : Int) (yk : IntKind) (y : Int) : Prop × AV :=
  match op with
  | .add => (k = yk, .int k (k.wrap (x + y)))
  | .sub => (k = yk, .int k (k.wrap (x - y)))
  | .mul => (k = yk, .int k (k.wrap (x * y)))
  | .quo => (k = yk ∧ y ≠ 0, .int k (k.wrap (x.tdiv y)))
  | .rem => (k = yk ∧ y ≠ 0, .int k (x.tmod y))
  | .and => (k = yk, .int k (k.wrap ((BitVec.ofInt k.bits x &&& BitVec.ofInt k.bits y).toNat)))
  | .or => (k = yk, .int k (k.wrap ((BitVec.ofInt k.bits x ||| BitVec.ofInt k.bits y).toNat)))
  | .xor => (k = yk, .int k (k.wrap ((BitVec.ofInt k.bits x ^^^ BitVec.ofInt k.bits y).toNat)))
  | .andNot => (k = yk, .int k (k.wrap ((BitVec.ofInt k.bits x &&& ~~~ BitVec.ofInt k.bits y).toNat)))
  | .shl => (0 ≤ y, .int k (k.wrap (x * 2 ^ (min y.toNat k.bits))))
  | .shr => (0 ≤ y, .int k (x.fdiv (2 ^ (min y.toNat k.bits))))
  | .eql => (k = yk, .bool (decide (x = y)))
  | .neq => (k = yk, .bool (decide (x ≠ y)))
  | .lss => (k = yk, .bool (decide (x < y)))
  | .leq => (k = yk, .bool (decide (x ≤ y)))
  | .gtr => (k = yk, .bool (decide (y < x)))
  | .geq => (k = yk, .bool (decide (y ≤ x)))
def strI (op : BinOp) (x y : List UInt8) : Option AV :=
  match op with
  | .add => some (.str (x ++ y))
  | .eql => some (.bool (decide (x = y)))
  | .neq => some (.bool (decide (x ≠ y)))
  | _ => none

/-- Cells, compared: of kind 0 whole numbers, 1 truth values, 2 texts. -/
def eqT : Nat → AV → AV → Option Bool
  | 0, .int k x, .int k' y => if k = k' then some (decide (x = y)) else none
  | 1, .bool x, .bool y => some (x == y)
  | 2, .str x, .str y => some (decide (x = y))
  | _, _, _ => none
def eqTs : List Nat → List AV → List AV → Option Bool
  | [], [], [] => some true
  | t :: ts, x :: xs, y :: ys => match eqT t x y, eqTs ts xs ys with
    | some a, some b => some (a && b)
    | _, _ => none
  | _, _, _ => none

/-- lo and hi of a cut, as they come. -/
def bnd (d : Int) (look : Opd → AV) : Option Opd → Option Int
  | none => some d
  | some x => match (look x).val with | .int _ n => some n | _ => none
def bndc (look : Opd → AV) : Option Opd → Prop
  | none => True
  | some x => (look x).cond

def putCells (cells : List AV) (off : Nat) (new : List AV) : List AV := cells.take off ++ (new ++ cells.drop (off + new.length))

/-- parts laid into cells: every part has its size -/
def fillV (look : Opd → AV) (cells : List AV) : List (Nat × Nat × Opd) → List AV
  | [] => cells
  | (off, n, x) :: l => fillV look (putCells cells off (look x).val.cells) l
def fillC (look : Opd → AV) (m : Nat) : List (Nat × Nat × Opd) → Prop
  | [] => True
  | (off, n, x) :: l => ((look x).cond ∧ okV (look x).val = true ∧ (look x).val.cells.length = n ∧ off + n ≤ m) ∧ fillC look m l

/-- A slice's elements, from an own row or not. -/
def els (rw : Nat → Option ARow) : AV → Option (Nat × List AV)
  | .sl _ k es => some (k, es)
  | .csl _ k es => some (k, es)
  | .raw (.slice (some _) 0 c) => if c ≤ maxLen then some (0, []) else none
  | .nil => some (0, [])
  | .ref b k lo n | .refc b k lo n _ => match rw b with
    | some r => if r.k = k ∧ lo + n ≤ r.es.length then some (k, (r.es.drop lo).take n) else none
    | none => none
  | _ => none
/-- What a cell is, once the rows that it tells of are frozen: and which rows. -/
def frzC (rw : Nat → Option ARow) : AV → Option AV
  | .ref b k lo n => match rw b with
    | some r => if r.k = k ∧ lo + n ≤ r.es.length then some (.sl false k ((r.es.drop lo).take n)) else none
    | none => none
  | v => if pureC v then some v else none
def frzIds : AV → List Nat
  | .ref b _ _ _ => [b]
  | .agg l => l.flatMap fun | .ref b _ _ _ => [b] | _ => []
  | _ => []
def frzV (rw : Nat → Option ARow) : AV → Option AV
  | .agg l => (l.mapM (frzC rw)).map .agg
  | v => frzC rw v
def frzUp (rw : Nat → Option ARow) (ids : List Nat) : List Upd := ids.map fun b => .R b ((rw b).map fun r => { r with fro := true })
def unby (l : List AV) : List UInt8 := l.map fun | .int _ n => UInt8.ofNat n.toNat | _ => 0
def isBy (l : List AV) : Bool := l.all fun | .int .u8 n => decide (0 ≤ n ∧ n < 256) | _ => false

def loadC (agg : Bool) (n : Nat) (cs : List AV) : Res :=
  if agg then { ok := n ≤ cs.length, av := .agg (cs.take n) } else { ok := 1 ≤ cs.length, av := cs.headD .any }

/-- What an operation gives, and what must be so. bb, br: the numbers of a new box, a new row. bo: addresses of boxes alone are loaded from. -/
def aistep (bo : Bool) (look : Opd → AV) (bx : Nat → Option (List AV)) (rw : Nat → Option ARow) (bb br : Nat) : AI → Res
  | .mv x => { ok := True, av := look x }
  | .mvS x => match (look x).val with
    | .str s => { ok := (look x).cond, av := .str s }
    | _ => .fail
  | .mvL x => match (look x).val with
    | .ref b k lo n => match rw b with
      | some r => { ok := (look x).cond ∧ r.k = k ∧ lo + n ≤ r.es.length ∧ r.fro = false ∧ 0 < n ∧ 0 < k, av := .sl false k ((r.es.drop lo).take n), up := [.R b (some { r with fro := true })] }
      | none => .fail
    | _ => .fail
  | .isN ne x => match (look x).val with
    | .nil => { ok := (look x).cond, av := .bool (!ne) }
    | .sl _ _ es => { ok := (look x).cond ∧ es ≠ [], av := .bool ne }
    | .csl _ _ es => { ok := (look x).cond ∧ es ≠ [], av := .bool ne }
    | .ref _ _ _ n => { ok := (look x).cond ∧ 0 < n, av := .bool ne }
    | .raw (.slice (some _) _ _) => { ok := (look x).cond, av := .bool ne }
    | _ => .fail
  | .no => .fail
  | .pick c a b => match (look c).val with
    | .bool t =>
      { ok := (look c).cond ∧ (t = true → (look a).cond) ∧ (t = false → (look b).cond),
        av := pickV t (look a).val (look b).val }
    | _ => .fail
  | .newb cells => { ok := cells.all scal = true, av := .bptr bb 0, nb := 1, up := [.B bb cells] }
  | .newa cells => { ok := cells.all pureC = true ∧ cells.all scal = true ∧ cells ≠ [], av := .aptr br cells.length, nr := 1, up := [.R br (some ⟨false, 1, cells⟩)] }
  | .box x => { ok := (look x).cond ∧ okV (look x).val = true, av := .bptr bb 0, nb := 1, up := [.B bb (look x).val.cells] }
  | .boxa x => match (look x).val with
    | .agg cells => { ok := (look x).cond ∧ cells.all pureC = true ∧ cells.all scal = true ∧ cells ≠ [], av := .aptr br cells.length, nr := 1, up := [.R br (some ⟨false, 1, cells⟩)] }
    | _ => .fail
  | .build zero parts => { ok := fillC look zero.length parts ∧ zero.all scal = true, av := .agg (fillV look zero parts) }
  | .bsl k xs =>
    match xs.mapM fun x => frzV rw (look x).val with
    | some es => { ok := (∀ x ∈ xs, (look x).cond ∧ okV (look x).val = true ∧ (look x).val.cells.length = k) ∧ 0 < k, av := .ref br k 0 es.length, nr := 1, up := frzUp rw (xs.flatMap fun x => frzIds (look x).val) ++ [.R br (some ⟨false, k, es⟩)] }
    | none => .fail
  | .load agg n a => match (look a).val with
    | .bptr b off => match bx b with
      | some cells => let r := loadC agg n (cells.drop off); { r with ok := (look a).cond ∧ r.ok }
      | none => .fail
    | .cptr _ cs => let r := loadC agg n cs; { r with ok := (look a).cond ∧ r.ok }
    | .rptr b k i off => match rw b with
      | some r => let q := loadC agg n ((r.es[i]?.getD .any).cells.drop off); { q with ok := (look a).cond ∧ bo = false ∧ r.k = k ∧ i < r.es.length ∧ q.ok }
      | none => .fail
    | .aptr b m => match rw b with
      | some r => { ok := (look a).cond ∧ bo = false ∧ agg = true ∧ n = m ∧ r.k = 1 ∧ r.es.length = n ∧ r.es.all scal = true, av := .agg r.es }
      | none => .fail
    | _ => .fail
  | .store n a x =>
    let v := (look x).val
    let c := (look a).cond ∧ (look x).cond ∧ okV v = true ∧ v.cells.length = n
    match (look a).val with
    | .bptr b off => match bx b with
      | some cells => { ok := c ∧ off + n ≤ cells.length, up := [.B b (putCells cells off v.cells)] }
      | none => .fail
    | .rptr b k i off => match rw b, frzV rw v with
      | some r, some v' =>
        { ok := c ∧ r.k = k ∧ i < r.es.length ∧ off + n ≤ k ∧ r.fro = false ∧ b ∉ frzIds v ∧ 0 < n,
          up := frzUp rw (frzIds v) ++ [.R b (some { r with es := r.es.set i (if n = k then v' else .agg (putCells (r.es[i]?.getD .any).cells off v'.cells)) })] }
      | _, _ => .fail
    | .aptr b m => match rw b, v with
      | some r, .agg l => { ok := c ∧ r.k = 1 ∧ r.es.length = n ∧ r.fro = false ∧ l.all pureC = true ∧ 0 < n, up := [.R b (some { r with es := l })] }
      | _, _ => .fail
    | _ => .fail
  | .fadr off a => match (look a).val with
    | .bptr b o => { ok := (look a).cond, av := .bptr b (o + off) }
    | .rptr b k i o => { ok := (look a).cond, av := .rptr b k i (o + off) }
    | .cptr vol cs => { ok := (look a).cond ∧ off < cs.length, av := .cptr vol (cs.drop off) }
    | _ => .fail
  | .fld off n agg x => match (look x).val with
    | .agg l => { ok := (look x).cond ∧ off + n ≤ l.length ∧ (agg = false → n = 1), av := if agg then .agg ((l.drop off).take n) else (l[off]?.getD .any) }
    | _ => .fail
  | .iadS k x i => match (look x).val.rf, (look i).val with
    | .ref b k' lo n, .int _ j => { ok := (look x).cond ∧ (look i).cond ∧ k = k' ∧ 0 ≤ j ∧ j < n, av := .rptr b k (lo + j.toNat) 0 }
    | .sl vol k' es, .int _ j => { ok := (look x).cond ∧ (look i).cond ∧ k = k' ∧ 0 < k ∧ 0 ≤ j ∧ j < es.length, av := .cptr vol (es[j.toNat]?.getD .any).cells }
    | .csl vol k' es, .int _ j => { ok := (look x).cond ∧ (look i).cond ∧ k = k' ∧ 0 < k ∧ 0 ≤ j ∧ j < es.length, av := .cptr vol (es[j.toNat]?.getD .any).cells }
    | _, _ => .fail
  | .iadA k len x i => match (look x).val, (look i).val with
    | .bptr b off, .int _ j => { ok := (look x).cond ∧ (look i).cond ∧ 0 ≤ j ∧ j < len, av := .bptr b (off + j.toNat * k) }
    | .aptr b n, .int _ j => { ok := (look x).cond ∧ (look i).cond ∧ k = 1 ∧ 0 ≤ j ∧ j < len, av := .rptr b 1 j.toNat 0 }
    | .cptr vol cs, .int _ j => { ok := (look x).cond ∧ (look i).cond ∧ 0 ≤ j ∧ j < len ∧ j.toNat * k < cs.length, av := .cptr vol (cs.drop (j.toNat * k)) }
    | _, _ => .fail
  | .idxA k len agg x i => match (look x).val, (look i).val with
    | .agg l, .int _ j => { ok := (look x).cond ∧ (look i).cond ∧ 0 ≤ j ∧ j < len ∧ len * k ≤ l.length ∧ (agg = false → k = 1), av := if agg then .agg ((l.drop (j.toNat * k)).take k) else (l[j.toNat]?.getD .any) }
    | _, _ => .fail
  | .idxT x i => match (look x).val, (look i).val with
    | .str s, .int _ j => { ok := (look x).cond ∧ (look i).cond ∧ 0 ≤ j ∧ j < s.length, av := .int .u8 (s[j.toNat]?.getD 0).toNat }
    | _, _ => .fail
  | .slS k x lo hi mx => match (look x).val, bnd 0 look lo, mx with
    | .ref b k' l0 n, some l, m => match bnd n look hi, bnd n look m with
      | some h, some m' => { ok := (look x).cond ∧ bndc look lo ∧ bndc look hi ∧ bndc look m ∧ k = k' ∧ 0 ≤ l ∧ l ≤ h ∧ h ≤ m' ∧ m' ≤ n, av := .ref b k (l0 + l.toNat) (h - l).toNat }
      | _, _ => .fail
    | .refc b k' l0 n c, some l, m => match bnd n look hi, bnd c look m with
      | some h, some m' => { ok := (look x).cond ∧ bndc look lo ∧ bndc look hi ∧ bndc look m ∧ k = k' ∧ 0 ≤ l ∧ l ≤ h ∧ h ≤ m' ∧ m' ≤ c, av := .refc b k (l0 + l.toNat) (h - l).toNat (m' - l).toNat }
      | _, _ => .fail
    | .sl vol k' es, some l, none => match bnd es.length look hi with
      | some h => { ok := (look x).cond ∧ bndc look lo ∧ bndc look hi ∧ k = k' ∧ 0 ≤ l ∧ l ≤ h ∧ h ≤ es.length, av := .sl vol k ((es.take h.toNat).drop l.toNat) }
      | none => .fail
    | .csl vol k' es, some l, none => match bnd es.length look hi with
      | some h => { ok := (look x).cond ∧ bndc look lo ∧ bndc look hi ∧ k = k' ∧ 0 ≤ l ∧ l ≤ h ∧ h ≤ es.length, av := .sl vol k ((es.take h.toNat).drop l.toNat) }
      | none => .fail
    | .sl vol k' es, some l, some m => match bnd es.length look hi, bnd es.length look (some m) with
      | some h, some m' => { ok := (look x).cond ∧ bndc look lo ∧ bndc look hi ∧ bndc look (some m) ∧ k = k' ∧ 0 ≤ l ∧ l ≤ h ∧ h = m' ∧ h ≤ es.length, av := .csl vol k ((es.take h.toNat).drop l.toNat) }
      | _, _ => .fail
    | .nil, some l, m => match bnd 0 look hi, bnd 0 look m with
      | some h, some m' => { ok := (look x).cond ∧ bndc look lo ∧ bndc look hi ∧ bndc look m ∧ l = 0 ∧ h = 0 ∧ m' = 0, av := .nil }
      | _, _ => .fail
    | _, _, _ => .fail
  | .slA len x lo hi => match (look x).val, bnd 0 look lo, bnd len look hi with
    | .aptr b n, some l, some h => { ok := (look x).cond ∧ bndc look lo ∧ bndc look hi ∧ n = len ∧ 0 ≤ l ∧ l ≤ h ∧ h ≤ len, av := .ref b 1 l.toNat (h - l).toNat }
    | .cptr vol cs, some l, some h => { ok := (look x).cond ∧ bndc look lo ∧ bndc look hi ∧ len ≤ cs.length ∧ 0 ≤ l ∧ l ≤ h ∧ h ≤ len ∧ (cs.take len).all pureC = true, av := .sl vol 1 ((cs.take h.toNat).drop l.toNat) }
    | _, _, _ => .fail
  | .slT x lo hi => match (look x).val, bnd 0 look lo with
    | .str s, some l => match bnd s.length look hi with
      | some h => { ok := (look x).cond ∧ bndc look lo ∧ bndc look hi ∧ 0 ≤ l ∧ l ≤ h ∧ h ≤ s.length, av := .str ((s.take h.toNat).drop l.toNat) }
      | none => .fail
    | _, _ => .fail
  | .ext x i => match (look x).val with
    | .tup l => { ok := (look x).cond ∧ i < l.length, av := l[i]?.getD .any }
    | _ => .fail
  | .conv k x => match (look x).val with
    | .int _ n => { ok := (look x).cond, av := .int k (k.wrap n) }
    | _ => .fail
  | .b2s x => match els rw (look x).val with
    | some (_, es) => { ok := (look x).cond ∧ isBy es = true, av := .str (unby es) }
    | none => .fail
  | .s2b x => match (look x).val with
    | .str s => { ok := (look x).cond ∧ s.length ≤ 1000000, av := .sl false 1 (s.map fun c => .int .u8 c.toNat) }
    | _ => .fail
  | .not x => match (look x).val with
    | .bool b => { ok := (look x).cond, av := .bool (!b) }
    | _ => .fail
  | .neg x => match (look x).val with
    | .int k n => { ok := (look x).cond, av := .int k (k.wrap (0 - n)) }
    | _ => .fail
  | .com x => match (look x).val with
    | .int k n => { ok := (look x).cond, av := .int k (k.wrap ((BitVec.ofInt k.bits (if k.signed then -1 else k.max) ^^^ BitVec.ofInt k.bits n).toNat)) }
    | _ => .fail
  | .bin op x y => match (look x).val, (look y).val with
    | .int k a, .int k' b => { ok := (look x).cond ∧ (look y).cond ∧ (binI op k a k' b).1, av := (binI op k a k' b).2 }
    | _, _ => .fail
  | .binB ne x y => match (look x).val, (look y).val with
    | .bool a, .bool b => { ok := (look x).cond ∧ (look y).cond, av := .bool (if ne then a != b else a == b) }
    | _, _ => .fail
  | .binT op x y => match (look x).val, (look y).val with
    | .str a, .str b => match strI op a b with
      | some v => { ok := (look x).cond ∧ (look y).cond ∧ a.length + b.length ≤ 1000000000, av := v }
      | none => .fail
    | _, _ => .fail
  | .eqA ne ts x y => match (look x).val, (look y).val with
    | .agg a, .agg b => match eqTs ts a b with
      | some r => { ok := (look x).cond ∧ (look y).cond, av := .bool (if ne then !r else r) }
      | none => .fail
    | _, _ => .fail
  | .mks k by_ zero n c => match (look n).val, (look c).val with
    | .int _ a, .int _ b => { ok := (look n).cond ∧ (look c).cond ∧ a = b ∧ 0 ≤ a ∧ a ≤ 1000000 ∧ pureV zero = true ∧ okV zero = true ∧ zero.cells.length = k ∧ by_ ≤ 1000000 ∧ 0 < k, av := .ref br k 0 a.toNat, nr := 1, up := [.R br (some ⟨false, k, List.replicate a.toNat zero⟩)] }
    | _, _ => .fail
  | .mkf f caps => { ok := ∀ x ∈ caps, (look x).cond, av := .fn f (caps.map fun x => (look x).val) }
  | .nchk x => match (look x).val with
    | .bptr .. | .rptr .. | .aptr .. | .cptr .. => { ok := (look x).cond, av := (look x).val }
    | _ => .fail
  | .lenV x => match (look x).val with
    | .sl _ _ es => { ok := (look x).cond, av := .int .i64 es.length }
    | .csl _ _ es => { ok := (look x).cond, av := .int .i64 es.length }
    | .ref _ _ _ n => { ok := (look x).cond, av := .int .i64 n }
    | .refc _ _ _ n _ => { ok := (look x).cond, av := .int .i64 n }
    | .nil => { ok := (look x).cond, av := .int .i64 0 }
    | _ => .fail
  | .lenT x => match (look x).val with
    | .str s => { ok := (look x).cond, av := .int .i64 s.length }
    | _ => .fail
  | .lenC n => { ok := True, av := .int .i64 n }
  | .capV x => match (look x).val with
    | .refc _ _ _ _ c => { ok := (look x).cond, av := .int .i64 c }
    | .nil => { ok := (look x).cond, av := .int .i64 0 }
    | _ => .fail
  | .appz k by_ zero x y => match (look x).val, (look y).val with
    | .refc b k2 lo n c, .int _ m => match rw b with
      | some r => { ok := (look x).cond ∧ (look y).cond ∧ k2 = k ∧ r.k = k ∧ lo + n ≤ r.es.length ∧ 0 ≤ m ∧ m ≤ 1000000 ∧ n ≤ 1000000 ∧ c < n + m.toNat ∧ by_ ≤ 1000000 ∧ 0 < k ∧ pureV zero = true ∧ zero.cells.length = k, av := .ref br k 0 (n + m.toNat), nr := 1, up := [.R br (some ⟨false, k, (r.es.drop lo).take n ++ List.replicate m.toNat zero⟩)] }
      | none => .fail
    | _, _ => .fail
  | .app k by_ x y => match els rw (look y).val with
    | some (k', new) =>
      let c := (look x).cond ∧ (look y).cond ∧ (k' = k ∨ new = []) ∧ new.length ≤ 1000000 ∧ by_ ≤ 1000000 ∧ 0 < k
      match (look x).val with
      | .nil => { ok := c ∧ new.all pureV = true, av := .ref br k 0 new.length, nr := 1, up := [.R br (some ⟨false, k, new⟩)] }
      | .ref b k2 lo n => match rw b with
        | some r => { ok := c ∧ r.k = k ∧ k2 = k ∧ r.fro = false ∧ lo + n ≤ r.es.length ∧ n ≤ 1000000 ∧ new.all pureV = true, av := .ref br k 0 (n + new.length), nr := 1, up := [.R b none, .R br (some ⟨false, k, (r.es.drop lo).take n ++ new⟩)] }
        | none => .fail
      | .csl vol k2 es => { ok := c ∧ k2 = k ∧ es.length ≤ 1000000 ∧ new.all pureV = true, av := .sl vol k (es ++ new), nr := 1 }
      | .refc b k2 lo n c' => match rw b with
        | some r => { ok := c ∧ r.k = k ∧ k2 = k ∧ r.fro = false ∧ lo + n + new.length ≤ r.es.length ∧ n + new.length ≤ c' ∧ new.all pureV = true, av := .refc b k lo (n + new.length) c', nr := 1, up := [.R b (some { r with es := r.es.take (lo + n) ++ (new ++ r.es.drop (lo + n + new.length)) })] }
        | none => .fail
      | _ => .fail
    | none => .fail
  | .cpy k x y => match (look x).val.rf, els rw (look y).val with
    | .ref b k2 lo n, some (k', src) => match rw b with
      | some r => { ok := (look x).cond ∧ (look y).cond ∧ (k' = k ∨ src = []) ∧ k2 = k ∧ r.k = k ∧ r.fro = false ∧ lo + n ≤ r.es.length ∧ (src.take n).all pureV = true ∧ 0 < k, av := .int .i64 (min src.length n), up := [.R b (some { r with es := r.es.take lo ++ (src.take n ++ r.es.drop (lo + min src.length n)) })] }
      | none => .fail
    | .nil, some (_, src) => { ok := (look x).cond ∧ (look y).cond, av := .int .i64 0 }
    | _, _ => .fail
  | .clr k zero x => match (look x).val.rf with
    | .ref b k2 lo n => match rw b with
      | some r => { ok := (look x).cond ∧ k2 = k ∧ r.k = k ∧ r.fro = false ∧ lo + n ≤ r.es.length ∧ pureV zero = true ∧ okV zero = true ∧ zero.cells.length = k ∧ 0 < k, up := [.R b (some { r with es := r.es.take lo ++ (List.replicate n zero ++ r.es.drop (lo + n)) })] }
      | none => .fail
    | .nil => { ok := (look x).cond }
    | _ => .fail
  | .min xs => match ints (xs.map fun x => (look x).val) with
    | some (k, ns) => { ok := ∀ x ∈ xs, (look x).cond, av := .int k (minL ns) }
    | none => .fail
  | .max xs => match ints (xs.map fun x => (look x).val) with
    | some (k, ns) => { ok := ∀ x ∈ xs, (look x).cond, av := .int k (maxL ns) }
    | none => .fail
  | .call .. | .callv .. => .fail
end Go.Proofs.Ytjacmhaeemhinaa
