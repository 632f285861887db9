/- Operations on abstract values. -/
import Derived.Test.YtiejnmbpejfpgaaAx2
namespace Go.Proofs.Ytiejnmbpejfpgaa
open Go.RowKit
set_option linter.unusedVariables false

inductive Opd where
  | tmp (t : Nat)
  | cst (v : AV)
  deriving Inhabited

/-- Operations, their types resolved. -/
inductive AI where
  | mv (x : Opd)
  | mvS (x : Opd)
  | mvL (x : Opd)
  | isN (ne : Bool) (x : Opd)
  | no
  | pick (c a b : Opd)
  | newb (cells : List AV)
  | newa (cells : List AV)
  | box (x : Opd)
  | boxa (x : Opd)
  | build (zero : List AV) (parts : List (Nat × Nat × Opd))
  | bsl (k : Nat) (xs : List Opd)
  | load (agg : Bool) (n : Nat) (a : Opd)
  | store (n : Nat) (a x : Opd)
  | fadr (off : Nat) (a : Opd)
  | fld (off n : Nat) (agg : Bool) (x : Opd)
  | iadS (k : Nat) (x i : Opd)
  | iadA (k len : Nat) (x i : Opd)
  | idxA (k len : Nat) (agg : Bool) (x i : Opd)
  | idxT (x i : Opd)
  | slS (k : Nat) (x : Opd) (lo hi mx : Option Opd)
  | slA (len : Nat) (x : Opd) (lo hi : Option Opd)
  | slT (x : Opd) (lo hi : Option Opd)
  | ext (x : Opd) (i : Nat)
  | conv (k : IntKind) (x : Opd)
  | b2s (x : Opd)
  | s2b (x : Opd)
  | not (x : Opd)
  | neg (x : Opd)
  | com (x : Opd)
  | bin (op : BinOp) (x y : Opd)
  | binB (ne : Bool) (x y : Opd)
  | binT (op : BinOp) (x y : Opd)
  | eqA (ne : Bool) (ts : List Nat) (x y : Opd)
  | mks (k by_ : Nat) (zero : AV) (n c : Opd)
  | mkf (f : Nat) (caps : List Opd)
  | nchk (x : Opd)
  | lenV (x : Opd)
  | lenT (x : Opd)
  | lenC (n : Nat)
  | capV (x : Opd)
  | appz (k by_ : Nat) (zero : AV) (x y : Opd)
  | app (k by_ : Nat) (x y : Opd)
  | cpy (k : Nat) (x y : Opd)
  | clr (k : Nat) (zero : AV) (x : Opd)
  | min (xs : List Opd)
  | max (xs : List Opd)
  | call (f : Nat) (args : List Opd)
  | callv (x : Opd) (args : List Opd)
  deriving Inhabited

inductive Upd where
  | B (b : Nat) (c : List AV)
  | R (b : Nat) (r : Option ARow)
structure Res where
  ok : Prop
  av : AV := .any
  nb : Nat := 0
  nr : Nat := 0
  up : List Upd := []
def Res.fail : Res := ⟨False, .any, 0, 0, []⟩

def FS.upd (σ : FS) : Upd → FS
  | .B b c => σ.setB b c
  | .R b r => σ.setR b r
def FS.ups (σ : FS) (l : List Upd) : FS := l.foldl FS.upd σ

def AV.val : AV → AV
  | .cnd _ v => v
  | v => v
def AV.cond : AV → Prop
  | .cnd g _ => g = true
  | _ => True
/-- One cell, whatever the world. -/
def scal : AV → Bool
  | .int .. | .bool .. | .str .. | .nil | .sl .. | .csl .. | .ref .. | .refc .. | .bptr .. | .rptr .. | .aptr .. | .cptr .. | .fn .. => true
  | .raw v => v.oneCell'
  | _ => false
def okV : AV → Bool
  | .agg l => l.all scal
  | v => scal v

def ints : List AV → Option (IntKind × List Int)
  | [] => none
  | [.int k n] => some (k, [n])
  | .int k n :: l => (ints l).map fun (k', ns) => (k, n :: ns)
  | _ => none
def minL : List Int → Int
  | [] => 0
  | x :: l => l.foldl (fun a b => min a b) x
def maxL : List Int → Int
  | [] => 0
  | x :: l => l.foldl (fun a b => max a b) x

def pickV (t : Bool) (va vb : AV) : AV :=
  match va, vb with
  | .bool x, .bool y => .bool (if t then x else y)
  | .int k x, .int k' y => if k = k' then .int k (if t then x else y) else if t then .int k x else .int k' y
  | va, vb => if t then va else vb
theorem pickV_true (va vb : AV) : pickV true va vb = va := by
  unfold pickV; split
  · rfl
  · split <;> rfl
  · rfl
theorem pickV_false (va vb : AV) : pickV false va vb = vb := by
  unfold pickV; split
  · rfl
  · split
    · rename_i h; subst h; rfl
    · rfl
  · rfl

def binI (op : BinOp) (k : IntKind) (x : Int) (yk : IntKind) (y : Int) : Prop × AV :=
  match op with
  | .add => (k = yk, .int k (k.wrap (x + y)))
  | .sub => (k = yk, .int k (k.wrap (x - y)))
  | .mul => (k = yk, .int k (k.wrap (x * y)))
  | .quo => (k = yk ∧ y ≠ 0, .int k (k.wrap (x.tdiv y)))
  | .rem => (k = yk ∧ y ≠ 0, .int k (x.tmod y))
  | .and => (k = yk, .int k (k.wrap ((BitVec.ofInt k.bits x &&& BitVec.ofInt k.bits y).toNat)))
  | .or => (k = yk, .int k (k.wrap ((BitVec.ofInt k.bits x ||| BitVec.ofInt k.bits y).toNat)))
  | .xor => (k = yk, .int k (k.wrap ((BitVec.ofInt k.bits x ^^^ BitVec.ofInt k.bits y).toNat)))
  | .andNot => (k = yk, .int k (k.wrap ((BitVec.ofInt k.bits x &&& ~~~ BitVec.ofInt k.bits y).toNat)))
  | .shl => (0 ≤ y, .int k (k.wrap (x * 2 ^ (min y.toNat k.bits))))
  | .shr => (0 ≤ y, .int k (x.fdiv (2 ^ (min y.toNat k.bits))))
  | .eql => (k = yk, .bool (decide (x = y)))
  | .neq => (k = yk, .bool (decide (x ≠ y)))
  | .lss => (k = yk, .bool (decide (x < y)))
  | .leq => (k = yk, .bool (decide (x ≤ y)))
  | .gtr => (k = yk, .bool (decide (y < x)))
  | .geq => (k = yk, .bool (decide (y ≤ x)))
def strI (op : BinOp) (x y : List UInt8) : Option AV :=
  match op with
  | .add => some (.str (x ++ y))
  | .eql => some (.bool (decide (x = y)))
  | .neq => some (.bool (decide (x ≠ y)))
  | _ => none

/-- Cells, compared: of kind 0 whole numbers, 1 truth values, 2 texts. -/
def eqT : Nat → AV → AV → Option Bool
  | 0, .int k x, .int k' y => if k = k' then some (decide (x = y)) else none
  | 1, .bool x, .bool y => some (x == y)
  | 2, .str x, .str y => some (decide (x = y))
  | _, _, _ => none
def eqTs : List Nat → List AV → List AV → Option Bool
  | [], [], [] => some true
  | t :: ts, x :: xs, y :: ys => match eqT t x y, eqTs ts xs ys with
    | some a, some b => some (a && b)
    | _, _ => none
  | _, _, _ => none

/-- lo and hi of a cut, as they come. -/
def bnd (d : Int) (look : Opd → AV) : Option Opd → Option Int
  | none => some d
  | some x => match (look x).val with | .int _ n => some n | _ => none
def bndc (look : Opd → AV) : Option Opd → Prop
  | none => True
  | some x => (look x).cond

def putCells (cells : List AV) (off : Nat) (new : List AV) : List AV := cells.take off ++ (new ++ cells.drop (off + new.length))

/-- parts laid into cells: every part has its size -/
def fillV (look : Opd → AV) (cells : List AV) : List (Nat × Nat × Opd) → List AV
  | [] => cells
  | (off, n, x) :: l => fillV look (putCells cells off (look x).val.cells) l
def fillC (look : Opd → AV) (m : Nat) : List (Nat × Nat × Opd) → Prop
  | [] => True
  | (off, n, x) :: l => ((look x).cond ∧ okV (look x).val = true ∧ (look x).val.cells.length = n ∧ off + n ≤ m) ∧ fillC look m l

/-- A slice's elements, from an own row or not. -/
def els (rw : Nat → Option ARow) : AV → Option (Nat × List AV)
  | .sl _ k es => some (k, es)
  | .csl _ k es => some (k, es)
  | .raw (.slice (some _) 0 c) => if c ≤ maxLen then some (0, []) else none
  | .nil => some (0, [])
  | .ref b k lo n | .refc b k lo n _ => match rw b with
    | some r => if r.k = k ∧ lo + n ≤ r.es.length then some (k, (r.es.drop lo).take n) else none
    | none => none
  | _ => none
/-- What a cell is, once the rows that it tells of are frozen: and which rows. -/
def frzC (rw : Nat → Option ARow) : AV → Option AV
  | .ref b k lo n => match rw b with
    | some r => if r.k = k ∧ lo + n ≤ r.es.length then some (.sl false k ((r.es.drop lo).take n)) else none
    | none => none
  | v => if pureC v then some v else none
def frzIds : AV → List Nat
  | .ref b _ _ _ => [b]
  | .agg l => l.flatMap fun | .ref b _ _ _ => [b] | _ => []
  | _ => []
def frzV (rw : Nat → Option ARow) : AV → Option AV
  | .agg l => (l.mapM (frzC rw)).map .agg
  | v => frzC rw v
def frzUp (rw : Nat → Option ARow) (ids : List Nat) : List Upd := ids.map fun b => .R b ((rw b).map fun r => { r with fro := true })
def unby (l : List AV) : List UInt8 := l.map fun | .int _ n => UInt8.ofNat n.toNat | _ => 0
def isBy (l : List AV) : Bool := l.all fun | .int .u8 n => decide (0 ≤ n ∧ n < 256) | _ => false

def loadC (agg : Bool) (n : Nat) (cs : List AV) : Res :=
  if agg then { ok := n ≤ cs.length, av := .agg (cs.take n) } else { ok := 1 ≤ cs.length, av := cs.headD .any }

/-- What an operation gives, and what must be so. bb, br: the numbers of a new box, a new row. bo: addresses of boxes alone are loaded from. -/
def aistep (bo : Bool) (look : Opd → AV) (bx : Nat → Option (List AV)) (rw : Nat → Option ARow) (bb br : Nat) : AI → Res
  | .mv x => { ok := True, av := look x }
  | .mvS x => match (look x).val with
    | .str s => { ok := (look x).cond, av := .str s }
    | _ => .fail
  | .mvL x => match (look x).val with
    | .ref b k lo n => match rw b with
      | some r => { ok := (look x).cond ∧ r.k = k ∧ lo + n ≤ r.es.length ∧ r.fro = false ∧ 0 < n ∧ 0 < k, av := .sl false k ((r.es.drop lo).take n), up := [.R b (some { r with fro := true })] }
      | none => .fail
    | _ => .fail
  | .isN ne x => match (look x).val with
    | .nil => { ok := (look x).cond, av := .bool (!ne) }
    | .sl _ _ es => { ok := (look x).cond ∧ es ≠ [], av := .bool ne }
    | .csl _ _ es => { ok := (look x).cond ∧ es ≠ [], av := .bool ne }
    | .ref _ _ _ n => { ok := (look x).cond ∧ 0 < n, av := .bool ne }
    | .raw (.slice (some _) _ _) => { ok := (look x).cond, av := .bool ne }
    | _ => .fail
  | .no => .fail
  | .pick c a b => match (look c).val with
    | .bool t =>
      { ok := (look c).cond ∧ (t = true → (look a).cond) ∧ (t = false → (look b).cond),
        av := pickV t (look a).val (look b).val }
    | _ => .fail
  | .newb cells => { ok := cells.all scal = true, av := .bptr bb 0, nb := 1, up := [.B bb cells] }
  | .newa cells => { ok := cells.all pureC = true ∧ cells.all scal = true ∧ cells ≠ [], av := .aptr br cells.length, nr := 1, up := [.R br (some ⟨false, 1, cells⟩)] }
  | .box x => { ok := (look x).cond ∧ okV (look x).val = true, av := .bptr bb 0, nb := 1, up := [.B bb (look x).val.cells] }
  | .boxa x => match (look x).val with
    | .agg cells => { ok := (look x).cond ∧ cells.all pureC = true ∧ cells.all scal = true ∧ cells ≠ [], av := .aptr br cells.length, nr := 1, up := [.R br (some ⟨false, 1, cells⟩)] }
    | _ => .fail
  | .build zero parts => { ok := fillC look zero.length parts ∧ zero.all scal = true, av := .agg (fillV look zero parts) }
  | .bsl k xs =>
    match xs.mapM fun x => frzV rw (look x).val with
    | some es => { ok := (∀ x ∈ xs, (look x).cond ∧ okV (look x).val = true ∧ (look x).val.cells.length = k) ∧ 0 < k, av := .ref br k 0 es.length, nr := 1, up := frzUp rw (xs.flatMap fun x => frzIds (look x).val) ++ [.R br (some ⟨false, k, es⟩)] }
    | none => .fail
  | .load agg n a => match (look a).val with
    | .bptr b off => match bx b with
      | some cells => let r := loadC agg n (cells.drop off); { r with ok := (look a).cond ∧ r.ok }
      | none => .fail
    | .cptr _ cs => let r := loadC agg n cs; { r with ok := (look a).cond ∧ r.ok }
    | .rptr b k i off => match rw b with
      | some r => let q := loadC agg n ((r.es[i]?.getD .any).cells.drop off); { q with ok := (look a).cond ∧ bo = false ∧ r.k = k ∧ i < r.es.length ∧ q.ok }
      | none => .fail
    | .aptr b m => match rw b with
      | some r => { ok := (look a).cond ∧ bo = false ∧ agg = true ∧ n = m ∧ r.k = 1 ∧ r.es.length = n ∧ r.es.all scal = true, av := .agg r.es }
      | none => .fail
    | _ => .fail
  | .store n a x =>
    let v := (look x).val
    let c := (look a).cond ∧ (look x).cond ∧ okV v = true ∧ v.cells.length = n
    match (look a).val with
    | .bptr b off => match bx b with
      | some cells => { ok := c ∧ off + n ≤ cells.length, up := [.B b (putCells cells off v.cells)] }
      | none => .fail
    | .rptr b k i off => match rw b, frzV rw v with
      | some r, some v' =>
        { ok := c ∧ r.k = k ∧ i < r.es.length ∧ off + n ≤ k ∧ r.fro = false ∧ b ∉ frzIds v ∧ 0 < n,
          up := frzUp rw (frzIds v) ++ [.R b (some { r with es := r.es.set i (if n = k then v' else .agg (putCells (r.es[i]?.getD .any).cells off v'.cells)) })] }
      | _, _ => .fail
    | .aptr b m => match rw b, v with
      | some r, .agg l => { ok := c ∧ r.k = 1 ∧ r.es.length = n ∧ r.fro = false ∧ l.all pureC = true ∧ 0 < n, up := [.R b (some { r with es := l })] }
      | _, _ => .fail
    | _ => .fail
  | .fadr off a => match (look a).val with
    | .bptr b o => { ok := (look a).cond, av := .bptr b (o + off) }
    | .rptr b k i o => { ok := (look a).cond, av := .rptr b k i (o + off) }
    | .cptr vol cs => { ok := (look a).cond ∧ off < cs.length, av := .cptr vol (cs.drop off) }
    | _ => .fail
  | .fld off n agg x => match (look x).val with
    | .agg l => { ok := (look x).cond ∧ off + n ≤ l.length ∧ (agg = false → n = 1), av := if agg then .agg ((l.drop off).take n) else (l[off]?.getD .any) }
    | _ => .fail
  | .iadS k x i => match (look x).val.rf, (look i).val with
    | .ref b k' lo n, .int _ j => { ok := (look x).cond ∧ (look i).cond ∧ k = k' ∧ 0 ≤ j ∧ j < n, av := .rptr b k (lo + j.toNat) 0 }
    | .sl vol k' es, .int _ j => { ok := (look x).cond ∧ (look i).cond ∧ k = k' ∧ 0 < k ∧ 0 ≤ j ∧ j < es.length, av := .cptr vol (es[j.toNat]?.getD .any).cells }
    | .csl vol k' es, .int _ j => { ok := (look x).cond ∧ (look i).cond ∧ k = k' ∧ 0 < k ∧ 0 ≤ j ∧ j < es.length, av := .cptr vol (es[j.toNat]?.getD .any).cells }
    | _, _ => .fail
  | .iadA k len x i => match (look x).val, (look i).val with
    | .bptr b off, .int _ j => { ok := (look x).cond ∧ (look i).cond ∧ 0 ≤ j ∧ j < len, av := .bptr b (off + j.toNat * k) }
    | .aptr b n, .int _ j => { ok := (look x).cond ∧ (look i).cond ∧ k = 1 ∧ 0 ≤ j ∧ j < len, av := .rptr b 1 j.toNat 0 }
    | .cptr vol cs, .int _ j => { ok := (look x).cond ∧ (look i).cond ∧ 0 ≤ j ∧ j < len ∧ j.toNat * k < cs.length, av := .cptr vol (cs.drop (j.toNat * k)) }
    | _, _ => .fail
  | .idxA k len agg x i => match (look x).val, (look i).val with
    | .agg l, .int _ j => { ok := (look x).cond ∧ (look i).cond ∧ 0 ≤ j ∧ j < len ∧ len * k ≤ l.length ∧ (agg = false → k = 1), av := if agg then .agg ((l.drop (j.toNat * k)).take k) else (l[j.toNat]?.getD .any) }
    | _, _ => .fail
  | .idxT x i => match (look x).val, (look i).val with
    | .str s, .int _ j => { ok := (look x).cond ∧ (look i).cond ∧ 0 ≤ j ∧ j < s.length, av := .int .u8 (s[j.toNat]?.getD 0).toNat }
    | _, _ => .fail
  | .slS k x lo hi mx => match (look x).val, bnd 0 look lo, mx with
    | .ref b k' l0 n, some l, m => match bnd n look hi, bnd n look m with
      | some h, some m' => { ok := (look x).cond ∧ bndc look lo ∧ bndc look hi ∧ bndc look m ∧ k = k' ∧ 0 ≤ l ∧ l ≤ h ∧ h ≤ m' ∧ m' ≤ n, av := .ref b k (l0 + l.toNat) (h - l).toNat }
      | _, _ => .fail
    | .refc b k' l0 n c, some l, m => match bnd n look hi, bnd c look m with
      | some h, some m' => { ok := (look x).cond ∧ bndc look lo ∧ bndc look hi ∧ bndc look m ∧ k = k' ∧ 0 ≤ l ∧ l ≤ h ∧ h ≤ m' ∧ m' ≤ c, av := .refc b k (l0 + l.toNat) (h - l).toNat (m' - l).toNat }
      | _, _ => .fail
    | .sl vol k' es, some l, none => match bnd es.length look hi with
      | some h => { ok := (look x).cond ∧ bndc look lo ∧ bndc look hi ∧ k = k' ∧ 0 ≤ l ∧ l ≤ h ∧ h ≤ es.length, av := .sl vol k ((es.take h.toNat).drop l.toNat) }
      | none => .fail
    | .csl vol k' es, some l, none => match bnd es.length look hi with
      | some h => { ok := (look x).cond ∧ bndc look lo ∧ bndc look hi ∧ k = k' ∧ 0 ≤ l ∧ l ≤ h ∧ h ≤ es.length, av := .sl vol k ((es.take h.toNat).drop l.toNat) }
      | none => .fail
    | .sl vol k' es, some l, some m => match bnd es.length look hi, bnd es.length look (some m) with
      | some h, some m' => { ok := (look x).cond ∧ bndc look lo ∧ bndc look hi ∧ bndc look (some m) ∧ k = k' ∧ 0 ≤ l ∧ l ≤ h ∧ h = m' ∧ h ≤ es.length, av := .csl vol k ((es.take h.toNat).drop l.toNat) }
      | _, _ => .fail
    | .nil, some l, m => match bnd 0 look hi, bnd 0 look m with
      | some h, some m' => { ok := (look x).cond ∧ bndc look lo ∧ bndc look hi ∧ bndc look m ∧ l = 0 ∧ h = 0 ∧ m' = 0, av := .nil }
      | _, _ => .fail
    | _, _, _ => .fail
  | .slA len x lo hi => match (look x).val, bnd 0 look lo, bnd len look hi with
    | .aptr b n, some l, some h => { ok := (look x).cond ∧ bndc look lo ∧ bndc look hi ∧ n = len ∧ 0 ≤ l ∧ l ≤ h ∧ h ≤ len, av := .ref b 1 l.toNat (h - l).toNat }
    | .cptr vol cs, some l, some h => { ok := (look x).cond ∧ bndc look lo ∧ bndc look hi ∧ len ≤ cs.length ∧ 0 ≤ l ∧ l ≤ h ∧ h ≤ len ∧ (cs.take len).all pureC = true, av := .sl vol 1 ((cs.take h.toNat).drop l.toNat) }
    | _, _, _ => .fail
  | .slT x lo hi => match (look x).val, bnd 0 look lo with
    | .str s, some l => match bnd s.length look hi with
      | some h => { ok := (look x).cond ∧ bndc look lo ∧ bndc look hi ∧ 0 ≤ l ∧ l ≤ h ∧ h ≤ s.length, av := .str ((s.take h.toNat).drop l.toNat) }
      | none => .fail
    | _, _ => .fail
  | .ext x i => match (look x).val with
    | .tup l => { ok := (look x).cond ∧ i < l.length, av := l[i]?.getD .any }
    | _ => .fail
  | .conv k x => match (look x).val with
    | .int _ n => { ok := (look x).cond, av := .int k (k.wrap n) }
    | _ => .fail
  | .b2s x => match els rw (look x).val with
    | some (_, es) => { ok := (look x).cond ∧ isBy es = true, av := .str (unby es) }
    | none => .fail
  | .s2b x => match (look x).val with
    | .str s => { ok := (look x).cond ∧ s.length ≤ 1000000, av := .sl false 1 (s.map fun c => .int .u8 c.toNat) }
    | _ => .fail
  | .not x => match (look x).val with
    | .bool b => { ok := (look x).cond, av := .bool (!b) }
    | _ => .fail
  | .neg x => match (look x).val with
    | .int k n => { ok := (look x).cond, av := .int k (k.wrap (0 - n)) }
    | _ => .fail
  | .com x => match (look x).val with
    | .int k n => { ok := (look x).cond, av := .int k (k.wrap ((BitVec.ofInt k.bits (if k.signed then -1 else k.max) ^^^ BitVec.ofInt k.bits n).toNat)) }
    | _ => .fail
  | .bin op x y => match (look x).val, (look y).val with
    | .int k a, .int k' b => { ok := (look x).cond ∧ (look y).cond ∧ (binI op k a k' b).1, av := (binI op k a k' b).2 }
    | _, _ => .fail
  | .binB ne x y => match (look x).val, (look y).val with
    | .bool a, .bool b => { ok := (look x).cond ∧ (look y).cond, av := .bool (if ne then a != b else a == b) }
    | _, _ => .fail
  | .binT op x y => match (look x).val, (look y).val with
    | .str a, .str b => match strI op a b with
      | some v => { ok := (look x).cond ∧ (look y).cond ∧ a.length + b.length ≤ 1000000000, av := v }
      | none => .fail
    | _, _ => .fail
  | .eqA ne ts x y => match (look x).val, (look y).val with
    | .agg a, .agg b => match eqTs ts a b with
      | some r => { ok := (look x).cond ∧ (look y).cond, av := .bool (if ne then !r else r) }
      | none => .fail
    | _, _ => .fail
  | .mks k by_ zero n c => match (look n).val, (look c).val with
    | .int _ a, .int _ b => { ok := (look n).cond ∧ (look c).cond ∧ a = b ∧ 0 ≤ a ∧ a ≤ 1000000 ∧ pureV zero = true ∧ okV zero = true ∧ zero.cells.length = k ∧ by_ ≤ 1000000 ∧ 0 < k, av := .ref br k 0 a.toNat, nr := 1, up := [.R br (some ⟨false, k, List.replicate a.toNat zero⟩)] }
    | _, _ => .fail
  | .mkf f caps => { ok := ∀ x ∈ caps, (look x).cond, av := .fn f (caps.map fun x => (look x).val) }
  | .nchk x => match (look x).val with
    | .bptr .. | .rptr .. | .aptr .. | .cptr .. => { ok := (look x).cond, av := (look x).val }
    | _ => .fail
  | .lenV x => match (look x).val with
    | .sl _ _ es => { ok := (look x).cond, av := .int .i64 es.length }
    | .csl _ _ es => { ok := (look x).cond, av := .int .i64 es.length }
    | .ref _ _ _ n => { ok := (look x).cond, av := .int .i64 n }
    | .refc _ _ _ n _ => { ok := (look x).cond, av := .int .i64 n }
    | .nil => { ok := (look x).cond, av := .int .i64 0 }
    | _ => .fail
  | .lenT x => match (look x).val with
    | .str s => { ok := (look x).cond, av := .int .i64 s.length }
    | _ => .fail
  | .lenC n => { ok := True, av := .int .i64 n }
  | .capV x => match (look x).val with
    | .refc _ _ _ _ c => { ok := (look x).cond, av := .int .i64 c }
    | .nil => { ok := (look x).cond, av := .int .i64 0 }
    | _ => .fail
  | .appz k by_ zero x y => match (look x).val, (look y).val with
    | .refc b k2 lo n c, .int _ m => match rw b with
      | some r => { ok := (look x).cond ∧ (look y).cond ∧ k2 = k ∧ r.k = k ∧ lo + n ≤ r.es.length ∧ 0 ≤ m ∧ m ≤ 1000000 ∧ n ≤ 1000000 ∧ c < n + m.toNat ∧ by_ ≤ 1000000 ∧ 0 < k ∧ pureV zero = true ∧ zero.cells.length = k, av := .ref br k 0 (n + m.toNat), nr := 1, up := [.R br (some ⟨false, k, (r.es.drop lo).take n ++ List.replicate m.toNat zero⟩)] }
      | none => .fail
    | _, _ => .fail
  | .app k by_ x y => match els rw (look y).val with
    | some (k', new) =>
      let c := (look x).cond ∧ (look y).cond ∧ (k' = k ∨ new = []) ∧ new.length ≤ 1000000 ∧ by_ ≤ 1000000 ∧ 0 < k
      match (look x).val with
      | .nil => { ok := c ∧ new.all pureV = true, av := .ref br k 0 new.length, nr := 1, up := [.R br (some ⟨false, k, new⟩)] }
      | .ref b k2 lo n => match rw b with
        | some r => { ok := c ∧ r.k = k ∧ k2 = k ∧ r.fro = false ∧ lo + n ≤ r.es.length ∧ n ≤ 1000000 ∧ new.all pureV = true, av := .ref br k 0 (n + new.length), nr := 1, up := [.R b none, .R br (some ⟨false, k, (r.es.drop lo).take n ++ new⟩)] }
        | none => .fail
      | .csl vol k2 es => { ok := c ∧ k2 = k ∧ es.length ≤ 1000000 ∧ new.all pureV = true, av := .sl vol k (es ++ new), nr := 1 }
      | .refc b k2 lo n c' => match rw b with
        | some r => { ok := c ∧ r.k = k ∧ k2 = k ∧ r.fro = false ∧ lo + n + new.length ≤ r.es.length ∧ n + new.length ≤ c' ∧ new.all pureV = true, av := .refc b k lo (n + new.length) c', nr := 1, up := [.R b (some { r with es := r.es.take (lo + n) ++ (new ++ r.es.drop (lo + n + new.length)) })] }
        | none => .fail
      | _ => .fail
    | none => .fail
  | .cpy k x y => match (look x).val.rf, els rw (look y).val with
    | .ref b k2 lo n, some (k', src) => match rw b with
      | some r => { ok := (look x).cond ∧ (look y).cond ∧ (k' = k ∨ src = []) ∧ k2 = k ∧ r.k = k ∧ r.fro = false ∧ lo + n ≤ r.es.length ∧ (src.take n).all pureV = true ∧ 0 < k, av := .int .i64 (min src.length n), up := [.R b (some { r with es := r.es.take lo ++ (src.take n ++ r.es.drop (lo + min src.length n)) })] }
      | none => .fail
    | .nil, some (_, src) => { ok := (look x).cond ∧ (look y).cond, av := .int .i64 0 }
    | _, _ => .fail
  | .clr k zero x => match (look x).val.rf with
    | .ref b k2 lo n => match rw b with
      | some r => { ok := (look x).cond ∧ k2 = k ∧ r.k = k ∧ r.fro = false ∧ lo + n ≤ r.es.length ∧ pureV zero = true ∧ okV zero = true ∧ zero.cells.length = k ∧ 0 < k, up := [.R b (some { r with es := r.es.take lo ++ (List.replicate n zero ++ r.es.drop (lo + n)) })] }
      | none => .fail
    | .nil => { ok := (look x).cond }
    | _ => .fail
  | .min xs => match ints (xs.map fun x => (look x).val) with
    | some (k, ns) => { ok := ∀ x ∈ xs, (look x).cond, av := .int k (minL ns) }
    | none => .fail
  | .max xs => match ints (xs.map fun x => (look x).val) with
    | some (k, ns) => { ok := ∀ x ∈ xs, (look x).cond, av := .int k (maxL ns) }
    | none => .fail
  | .call .. | .callv .. => .fail
end Go.Proofs.Ytiejnmbpejfpgaa
