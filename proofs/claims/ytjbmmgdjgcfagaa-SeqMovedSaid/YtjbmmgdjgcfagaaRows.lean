/-
  No cell of these rows narrows 'for every input' (looked for: loops, veiled, ifaces, maps, wideKeys, modest, calm, conditions, laid).
  DERIVED. THE GIVEN ROWS OF THIS SEAT. 7 by the template 'for every input the law returns true; each argument reads behind the call as it read before'; 0 by the template 'total and deterministic' (their statements: YtjbmmgdjgcfagaaTotals.lean).
  GIVEN WITH THE SEED: the statements are not yours to turn. If you find one false, say at which input.
  Laid BY PROGRAM, IN A SANDBOX (cutbox-rows.mjs): the forced cells as the released guide's own fill.sh prints them over the translation 433ab2eb6fd93b38… (all of the seat's roots in one cut). By AI agents, Wed Nov 11 2026. No macro, syntax, notation, axiom, sorry.
-/
import Derived.Test.YtjbmmgdjgcfagaaChecked
import GoSem.Claim
import GoSem.ClaimJoined
import GoSem.ClaimMapViews
import Derived.JoinedTies
import Derived.KernelRfl
namespace Go.Proofs.Ytjbmmgdjgcfagaa
/- THE CELL 'sum', in the pinned program and in every row, IS THE sha256 OF THE DUMP (.gsa) THAT YtjbmmgdjgcfagaaProg.lean LOADS. Nothing in Lean hashes anything: it is a label: what it is worth is what the hold of that sum in a sandbox is worth. -/
noncomputable def Try.pinned : Pinned := { name := "ytjbmmgdjgcfagaa", sum := "433ab2eb6fd93b389113cbae118a2a4096b4371a02b1e958e5a1be45f6e0accf", checked := Try.checked }
namespace Rows
def none {H : Type} : Left H := { results := [], args := [] }

/-- 'caravellaw03.SeqWindows': WHATEVER THE INPUT: true; the input reads as it did. -/
def seqWindowsSpec : ChangeSpec := { name := "seqWindows", fn := fun _ => fun
  | [d1, d2, d3] => { results := [.lit (.bool true)], args := [d1, d2, d3] }
  | _ => none }
def seqWindowsRow : OpenClaim := { program := "ytjbmmgdjgcfagaa", sum := "433ab2eb6fd93b389113cbae118a2a4096b4371a02b1e958e5a1be45f6e0accf", func := "caravel/caravellaw03.SeqWindows", spec := "seqWindows", apart := false }
def SeqWindowsSaid : Prop := seqWindowsRow.holds Try.pinned (OpenSpec.ofChange seqWindowsSpec)

/-- ITS FALSE NEIGHBOUR: 'it returns false'. Refute it at one input. -/
def seqWindowsWrong : ChangeSpec := { name := "seqWindows", fn := fun _ => fun
  | [d1, d2, d3] => { results := [.lit (.bool false)], args := [d1, d2, d3] }
  | _ => none }
def SeqWindowsWrongFalsely : Prop := seqWindowsRow.holds Try.pinned (OpenSpec.ofChange seqWindowsWrong)

/-- 'caravellaw03.SeqTouch': WHATEVER THE INPUT: true; the input reads as it did. -/
def seqTouchSpec : ChangeSpec := { name := "seqTouch", fn := fun _ => fun
  | [d1, d2, d3] => { results := [.lit (.bool true)], args := [d1, d2, d3] }
  | _ => none }
def seqTouchRow : OpenClaim := { program := "ytjbmmgdjgcfagaa", sum := "433ab2eb6fd93b389113cbae118a2a4096b4371a02b1e958e5a1be45f6e0accf", func := "caravel/caravellaw03.SeqTouch", spec := "seqTouch", apart := false }
def SeqTouchSaid : Prop := seqTouchRow.holds Try.pinned (OpenSpec.ofChange seqTouchSpec)

/-- ITS FALSE NEIGHBOUR: 'it returns false'. Refute it at one input. -/
def seqTouchWrong : ChangeSpec := { name := "seqTouch", fn := fun _ => fun
  | [d1, d2, d3] => { results := [.lit (.bool false)], args := [d1, d2, d3] }
  | _ => none }
def SeqTouchWrongFalsely : Prop := seqTouchRow.holds Try.pinned (OpenSpec.ofChange seqTouchWrong)

/-- 'caravellaw03.SeqBack': WHATEVER THE INPUT: true; the input reads as it did. -/
def seqBackSpec : ChangeSpec := { name := "seqBack", fn := fun _ => fun
  | [d1, d2, d3] => { results := [.lit (.bool true)], args := [d1, d2, d3] }
  | _ => none }
def seqBackRow : OpenClaim := { program := "ytjbmmgdjgcfagaa", sum := "433ab2eb6fd93b389113cbae118a2a4096b4371a02b1e958e5a1be45f6e0accf", func := "caravel/caravellaw03.SeqBack", spec := "seqBack", apart := false }
def SeqBackSaid : Prop := seqBackRow.holds Try.pinned (OpenSpec.ofChange seqBackSpec)

/-- ITS FALSE NEIGHBOUR: 'it returns false'. Refute it at one input. -/
def seqBackWrong : ChangeSpec := { name := "seqBack", fn := fun _ => fun
  | [d1, d2, d3] => { results := [.lit (.bool false)], args := [d1, d2, d3] }
  | _ => none }
def SeqBackWrongFalsely : Prop := seqBackRow.holds Try.pinned (OpenSpec.ofChange seqBackWrong)

/-- 'caravellaw03.SeqSides': WHATEVER THE INPUT: true; the input reads as it did. -/
def seqSidesSpec : ChangeSpec := { name := "seqSides", fn := fun _ => fun
  | [d1, d2, d3] => { results := [.lit (.bool true)], args := [d1, d2, d3] }
  | _ => none }
def seqSidesRow : OpenClaim := { program := "ytjbmmgdjgcfagaa", sum := "433ab2eb6fd93b389113cbae118a2a4096b4371a02b1e958e5a1be45f6e0accf", func := "caravel/caravellaw03.SeqSides", spec := "seqSides", apart := false }
def SeqSidesSaid : Prop := seqSidesRow.holds Try.pinned (OpenSpec.ofChange seqSidesSpec)

/-- ITS FALSE NEIGHBOUR: 'it returns false'. Refute it at one input. -/
def seqSidesWrong : ChangeSpec := { name := "seqSides", fn := fun _ => fun
  | [d1, d2, d3] => { results := [.lit (.bool false)], args := [d1, d2, d3] }
  | _ => none }
def SeqSidesWrongFalsely : Prop := seqSidesRow.holds Try.pinned (OpenSpec.ofChange seqSidesWrong)

/-- 'caravellaw03.SeqNumbers': WHATEVER THE INPUT: true; the input reads as it did. -/
def seqNumbersSpec : ChangeSpec := { name := "seqNumbers", fn := fun _ => fun
  | [d1, d2, d3] => { results := [.lit (.bool true)], args := [d1, d2, d3] }
  | _ => none }
def seqNumbersRow : OpenClaim := { program := "ytjbmmgdjgcfagaa", sum := "433ab2eb6fd93b389113cbae118a2a4096b4371a02b1e958e5a1be45f6e0accf", func := "caravel/caravellaw03.SeqNumbers", spec := "seqNumbers", apart := false }
def SeqNumbersSaid : Prop := seqNumbersRow.holds Try.pinned (OpenSpec.ofChange seqNumbersSpec)

/-- ITS FALSE NEIGHBOUR: 'it returns false'. Refute it at one input. -/
def seqNumbersWrong : ChangeSpec := { name := "seqNumbers", fn := fun _ => fun
  | [d1, d2, d3] => { results := [.lit (.bool false)], args := [d1, d2, d3] }
  | _ => none }
def SeqNumbersWrongFalsely : Prop := seqNumbersRow.holds Try.pinned (OpenSpec.ofChange seqNumbersWrong)

/-- 'caravellaw03.SeqMoved': WHATEVER THE INPUT: true; the input reads as it did. -/
def seqMovedSpec : ChangeSpec := { name := "seqMoved", fn := fun _ => fun
  | [d1, d2, d3] => { results := [.lit (.bool true)], args := [d1, d2, d3] }
  | _ => none }
def seqMovedRow : OpenClaim := { program := "ytjbmmgdjgcfagaa", sum := "433ab2eb6fd93b389113cbae118a2a4096b4371a02b1e958e5a1be45f6e0accf", func := "caravel/caravellaw03.SeqMoved", spec := "seqMoved", apart := false }
def SeqMovedSaid : Prop := seqMovedRow.holds Try.pinned (OpenSpec.ofChange seqMovedSpec)

/-- ITS FALSE NEIGHBOUR: 'it returns false'. Refute it at one input. -/
def seqMovedWrong : ChangeSpec := { name := "seqMoved", fn := fun _ => fun
  | [d1, d2, d3] => { results := [.lit (.bool false)], args := [d1, d2, d3] }
  | _ => none }
def SeqMovedWrongFalsely : Prop := seqMovedRow.holds Try.pinned (OpenSpec.ofChange seqMovedWrong)

/-- 'caravellaw03.SeqMax': WHATEVER THE INPUT: true; the input reads as it did. -/
def seqMaxSpec : ChangeSpec := { name := "seqMax", fn := fun _ => fun
  | [d1, d2] => { results := [.lit (.bool true)], args := [d1, d2] }
  | _ => none }
def seqMaxRow : OpenClaim := { program := "ytjbmmgdjgcfagaa", sum := "433ab2eb6fd93b389113cbae118a2a4096b4371a02b1e958e5a1be45f6e0accf", func := "caravel/caravellaw03.SeqMax", spec := "seqMax", apart := false }
def SeqMaxSaid : Prop := seqMaxRow.holds Try.pinned (OpenSpec.ofChange seqMaxSpec)

/-- ITS FALSE NEIGHBOUR: 'it returns false'. Refute it at one input. -/
def seqMaxWrong : ChangeSpec := { name := "seqMax", fn := fun _ => fun
  | [d1, d2] => { results := [.lit (.bool false)], args := [d1, d2] }
  | _ => none }
def SeqMaxWrongFalsely : Prop := seqMaxRow.holds Try.pinned (OpenSpec.ofChange seqMaxWrong)

/- THE SECOND FORM. 'bulk': how many values and letters a reading holds, each counted each time it is reached (what is shared counts as often as it is met; a slice's spare places count too). A statement '..UptoSaid' is the law's where the arguments, and the package variables that the reading takes, are together of bulk at most 1048576: NARROWER than '..Said'. Prove '..Said' where nothing that the law and all that it calls make is longer than what came in: it says more and counts as full. Else prove '..UptoSaid'. A law counts once. -/
mutual
def uptoBulk {H : Type} : DataW H → Nat
  | .lit (.string bytes) => bytes.length + 1
  | .lit _ => 1
  | .nil => 1
  | .ptr d => uptoBulk d + 1
  | .slice elems spare => uptoBulkAll elems + uptoBulkAll spare + 1
  | .agg parts => uptoBulkAll parts + 1
  | .iface _ d => uptoBulk d + 1
  | .map entries => uptoBulkEntries entries + 1
  | .held _ => 1
def uptoBulkAll {H : Type} : List (DataW H) → Nat
  | [] => 0
  | d :: r => uptoBulk d + uptoBulkAll r
def uptoBulkEntries {H : Type} : List (Lit × DataW H) → Nat
  | [] => 0
  | x :: r => uptoBulkEntry x + uptoBulkEntries r
def uptoBulkEntry {H : Type} : Lit × DataW H → Nat
  | (.string bytes, d) => bytes.length + uptoBulk d + 1
  | (_, d) => uptoBulk d + 1
 end
def uptoSmall : (H : Type) → List (DataW H) → Bool := fun _ ds => decide (uptoBulkAll ds ≤ 1048576)
def OpenSpec.upto (s : _root_.Go.ChangeSpec) : _root_.Go.OpenSpec := { _root_.Go.OpenSpec.ofChange s with cond := some uptoSmall }

/-- 'caravellaw03.SeqWindows', WHERE WHAT IT READS IS OF BULK AT MOST 1048576: true; the input reads as it did. -/
def seqWindowsUptoRow : OpenClaim := { program := "ytjbmmgdjgcfagaa", sum := "433ab2eb6fd93b389113cbae118a2a4096b4371a02b1e958e5a1be45f6e0accf", func := "caravel/caravellaw03.SeqWindows", spec := "seqWindows", apart := false, narrowed := true }
def SeqWindowsUptoSaid : Prop := seqWindowsUptoRow.holds Try.pinned (OpenSpec.upto seqWindowsSpec)

/-- 'caravellaw03.SeqTouch', WHERE WHAT IT READS IS OF BULK AT MOST 1048576: true; the input reads as it did. -/
def seqTouchUptoRow : OpenClaim := { program := "ytjbmmgdjgcfagaa", sum := "433ab2eb6fd93b389113cbae118a2a4096b4371a02b1e958e5a1be45f6e0accf", func := "caravel/caravellaw03.SeqTouch", spec := "seqTouch", apart := false, narrowed := true }
def SeqTouchUptoSaid : Prop := seqTouchUptoRow.holds Try.pinned (OpenSpec.upto seqTouchSpec)

/-- 'caravellaw03.SeqBack', WHERE WHAT IT READS IS OF BULK AT MOST 1048576: true; the input reads as it did. -/
def seqBackUptoRow : OpenClaim := { program := "ytjbmmgdjgcfagaa", sum := "433ab2eb6fd93b389113cbae118a2a4096b4371a02b1e958e5a1be45f6e0accf", func := "caravel/caravellaw03.SeqBack", spec := "seqBack", apart := false, narrowed := true }
def SeqBackUptoSaid : Prop := seqBackUptoRow.holds Try.pinned (OpenSpec.upto seqBackSpec)

/-- 'caravellaw03.SeqSides', WHERE WHAT IT READS IS OF BULK AT MOST 1048576: true; the input reads as it did. -/
def seqSidesUptoRow : OpenClaim := { program := "ytjbmmgdjgcfagaa", sum := "433ab2eb6fd93b389113cbae118a2a4096b4371a02b1e958e5a1be45f6e0accf", func := "caravel/caravellaw03.SeqSides", spec := "seqSides", apart := false, narrowed := true }
def SeqSidesUptoSaid : Prop := seqSidesUptoRow.holds Try.pinned (OpenSpec.upto seqSidesSpec)

/-- 'caravellaw03.SeqNumbers', WHERE WHAT IT READS IS OF BULK AT MOST 1048576: true; the input reads as it did. -/
def seqNumbersUptoRow : OpenClaim := { program := "ytjbmmgdjgcfagaa", sum := "433ab2eb6fd93b389113cbae118a2a4096b4371a02b1e958e5a1be45f6e0accf", func := "caravel/caravellaw03.SeqNumbers", spec := "seqNumbers", apart := false, narrowed := true }
def SeqNumbersUptoSaid : Prop := seqNumbersUptoRow.holds Try.pinned (OpenSpec.upto seqNumbersSpec)

/-- 'caravellaw03.SeqMoved', WHERE WHAT IT READS IS OF BULK AT MOST 1048576: true; the input reads as it did. -/
def seqMovedUptoRow : OpenClaim := { program := "ytjbmmgdjgcfagaa", sum := "433ab2eb6fd93b389113cbae118a2a4096b4371a02b1e958e5a1be45f6e0accf", func := "caravel/caravellaw03.SeqMoved", spec := "seqMoved", apart := false, narrowed := true }
def SeqMovedUptoSaid : Prop := seqMovedUptoRow.holds Try.pinned (OpenSpec.upto seqMovedSpec)

/-- 'caravellaw03.SeqMax', WHERE WHAT IT READS IS OF BULK AT MOST 1048576: true; the input reads as it did. -/
def seqMaxUptoRow : OpenClaim := { program := "ytjbmmgdjgcfagaa", sum := "433ab2eb6fd93b389113cbae118a2a4096b4371a02b1e958e5a1be45f6e0accf", func := "caravel/caravellaw03.SeqMax", spec := "seqMax", apart := false, narrowed := true }
def SeqMaxUptoSaid : Prop := seqMaxUptoRow.holds Try.pinned (OpenSpec.upto seqMaxSpec)

end Rows
end Go.Proofs.Ytjbmmgdjgcfagaa
