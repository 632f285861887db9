/-
  No cell of these rows narrows 'for every input' (looked for: loops, veiled, ifaces, maps, wideKeys, modest, calm, conditions, laid).
  DERIVED. THE GIVEN ROWS OF THIS SEAT. 5 by the template 'for every input the law returns true; each argument reads behind the call as it read before'; 0 by the template 'total and deterministic' (their statements: YtcioklhpbmjeeaaTotals.lean).
  GIVEN WITH THE SEED: the statements are not yours to turn. If you find one false, say at which input.
  Laid BY PROGRAM, IN A SANDBOX (cutbox-rows.mjs): the forced cells as the released guide's own fill.sh prints them over the translation 01fbe4a2171e7e76… (all of the seat's roots in one cut). By AI agents, Wed Nov 11 2026. No macro, syntax, notation, axiom, sorry.
-/
import Derived.Test.YtcioklhpbmjeeaaChecked
import GoSem.Claim
import GoSem.ClaimJoined
import GoSem.ClaimMapViews
import Derived.JoinedTies
import Derived.KernelRfl
namespace Go.Proofs.Ytcioklhpbmjeeaa
/- THE CELL 'sum', in the pinned program and in every row, IS THE sha256 OF THE DUMP (.gsa) THAT YtcioklhpbmjeeaaProg.lean LOADS. Nothing in Lean hashes anything: it is a label: what it is worth is what the hold of that sum in a sandbox is worth. -/
noncomputable def Try.pinned : Pinned := { name := "ytcioklhpbmjeeaa", sum := "01fbe4a2171e7e76f7f5badf0a536d2e4557bfbb6fe30d758cbabcf015659753", checked := Try.checked }
namespace Rows
def none {H : Type} : Left H := { results := [], args := [] }

/-- 'caravellaw18.SendqRight': WHATEVER THE INPUT: true; the input reads as it did. -/
def sendqRightSpec : ChangeSpec := { name := "sendqRight", fn := fun _ => fun
  | [d] => { results := [.lit (.bool true)], args := [d] }
  | _ => none }
def sendqRightRow : OpenClaim := { program := "ytcioklhpbmjeeaa", sum := "01fbe4a2171e7e76f7f5badf0a536d2e4557bfbb6fe30d758cbabcf015659753", func := "caravel/caravellaw18.SendqRight", spec := "sendqRight", apart := false }
def SendqRightSaid : Prop := sendqRightRow.holds Try.pinned (OpenSpec.ofChange sendqRightSpec)

/-- ITS FALSE NEIGHBOUR: 'it returns false'. Refute it at one input. -/
def sendqRightWrong : ChangeSpec := { name := "sendqRight", fn := fun _ => fun
  | [d] => { results := [.lit (.bool false)], args := [d] }
  | _ => none }
def SendqRightWrongFalsely : Prop := sendqRightRow.holds Try.pinned (OpenSpec.ofChange sendqRightWrong)

/-- 'caravellaw18.SendqMoved': WHATEVER THE INPUT: true; the input reads as it did. -/
def sendqMovedSpec : ChangeSpec := { name := "sendqMoved", fn := fun _ => fun
  | [d1, d2, d3] => { results := [.lit (.bool true)], args := [d1, d2, d3] }
  | _ => none }
def sendqMovedRow : OpenClaim := { program := "ytcioklhpbmjeeaa", sum := "01fbe4a2171e7e76f7f5badf0a536d2e4557bfbb6fe30d758cbabcf015659753", func := "caravel/caravellaw18.SendqMoved", spec := "sendqMoved", apart := false }
def SendqMovedSaid : Prop := sendqMovedRow.holds Try.pinned (OpenSpec.ofChange sendqMovedSpec)

/-- ITS FALSE NEIGHBOUR: 'it returns false'. Refute it at one input. -/
def sendqMovedWrong : ChangeSpec := { name := "sendqMoved", fn := fun _ => fun
  | [d1, d2, d3] => { results := [.lit (.bool false)], args := [d1, d2, d3] }
  | _ => none }
def SendqMovedWrongFalsely : Prop := sendqMovedRow.holds Try.pinned (OpenSpec.ofChange sendqMovedWrong)

/-- 'caravellaw18.SendqStream': WHATEVER THE INPUT: true; the input reads as it did. -/
def sendqStreamSpec : ChangeSpec := { name := "sendqStream", fn := fun _ => fun
  | [d1, d2] => { results := [.lit (.bool true)], args := [d1, d2] }
  | _ => none }
def sendqStreamRow : OpenClaim := { program := "ytcioklhpbmjeeaa", sum := "01fbe4a2171e7e76f7f5badf0a536d2e4557bfbb6fe30d758cbabcf015659753", func := "caravel/caravellaw18.SendqStream", spec := "sendqStream", apart := false }
def SendqStreamSaid : Prop := sendqStreamRow.holds Try.pinned (OpenSpec.ofChange sendqStreamSpec)

/-- ITS FALSE NEIGHBOUR: 'it returns false'. Refute it at one input. -/
def sendqStreamWrong : ChangeSpec := { name := "sendqStream", fn := fun _ => fun
  | [d1, d2] => { results := [.lit (.bool false)], args := [d1, d2] }
  | _ => none }
def SendqStreamWrongFalsely : Prop := sendqStreamRow.holds Try.pinned (OpenSpec.ofChange sendqStreamWrong)

/-- 'caravellaw18.SendqPlays': WHATEVER THE INPUT: true; the input reads as it did. -/
def sendqPlaysSpec : ChangeSpec := { name := "sendqPlays", fn := fun _ => fun
  | [d1, d2] => { results := [.lit (.bool true)], args := [d1, d2] }
  | _ => none }
def sendqPlaysRow : OpenClaim := { program := "ytcioklhpbmjeeaa", sum := "01fbe4a2171e7e76f7f5badf0a536d2e4557bfbb6fe30d758cbabcf015659753", func := "caravel/caravellaw18.SendqPlays", spec := "sendqPlays", apart := false }
def SendqPlaysSaid : Prop := sendqPlaysRow.holds Try.pinned (OpenSpec.ofChange sendqPlaysSpec)

/-- ITS FALSE NEIGHBOUR: 'it returns false'. Refute it at one input. -/
def sendqPlaysWrong : ChangeSpec := { name := "sendqPlays", fn := fun _ => fun
  | [d1, d2] => { results := [.lit (.bool false)], args := [d1, d2] }
  | _ => none }
def SendqPlaysWrongFalsely : Prop := sendqPlaysRow.holds Try.pinned (OpenSpec.ofChange sendqPlaysWrong)

/-- 'caravellaw18.SendqEmpty': WHATEVER THE INPUT: true; the input reads as it did. -/
def sendqEmptySpec : ChangeSpec := { name := "sendqEmpty", fn := fun _ => fun
  | [d1, d2] => { results := [.lit (.bool true)], args := [d1, d2] }
  | _ => none }
def sendqEmptyRow : OpenClaim := { program := "ytcioklhpbmjeeaa", sum := "01fbe4a2171e7e76f7f5badf0a536d2e4557bfbb6fe30d758cbabcf015659753", func := "caravel/caravellaw18.SendqEmpty", spec := "sendqEmpty", apart := false }
def SendqEmptySaid : Prop := sendqEmptyRow.holds Try.pinned (OpenSpec.ofChange sendqEmptySpec)

/-- ITS FALSE NEIGHBOUR: 'it returns false'. Refute it at one input. -/
def sendqEmptyWrong : ChangeSpec := { name := "sendqEmpty", fn := fun _ => fun
  | [d1, d2] => { results := [.lit (.bool false)], args := [d1, d2] }
  | _ => none }
def SendqEmptyWrongFalsely : Prop := sendqEmptyRow.holds Try.pinned (OpenSpec.ofChange sendqEmptyWrong)

/- THE SECOND FORM. 'bulk': how many values and letters a reading holds, each counted each time it is reached (what is shared counts as often as it is met; a slice's spare places count too). A statement '..UptoSaid' is the law's where the arguments, and the package variables that the reading takes, are together of bulk at most 1048576: NARROWER than '..Said'. Prove '..Said' where nothing that the law and all that it calls make is longer than what came in: it says more and counts as full. Else prove '..UptoSaid'. A law counts once. -/
mutual
def uptoBulk {H : Type} : DataW H → Nat
  | .lit (.string bytes) => bytes.length + 1
  | .lit _ => 1
  | .nil => 1
  | .ptr d => uptoBulk d + 1
  | .slice elems spare => uptoBulkAll elems + uptoBulkAll spare + 1
  | .agg parts => uptoBulkAll parts + 1
  | .iface _ d => uptoBulk d + 1
  | .map entries => uptoBulkEntries entries + 1
  | .held _ => 1
def uptoBulkAll {H : Type} : List (DataW H) → Nat
  | [] => 0
  | d :: r => uptoBulk d + uptoBulkAll r
def uptoBulkEntries {H : Type} : List (Lit × DataW H) → Nat
  | [] => 0
  | x :: r => uptoBulkEntry x + uptoBulkEntries r
def uptoBulkEntry {H : Type} : Lit × DataW H → Nat
  | (.string bytes, d) => bytes.length + uptoBulk d + 1
  | (_, d) => uptoBulk d + 1
 end
def uptoSmall : (H : Type) → List (DataW H) → Bool := fun _ ds => decide (uptoBulkAll ds ≤ 1048576)
def OpenSpec.upto (s : _root_.Go.ChangeSpec) : _root_.Go.OpenSpec := { _root_.Go.OpenSpec.ofChange s with cond := some uptoSmall }

/-- 'caravellaw18.SendqRight', WHERE WHAT IT READS IS OF BULK AT MOST 1048576: true; the input reads as it did. -/
def sendqRightUptoRow : OpenClaim := { program := "ytcioklhpbmjeeaa", sum := "01fbe4a2171e7e76f7f5badf0a536d2e4557bfbb6fe30d758cbabcf015659753", func := "caravel/caravellaw18.SendqRight", spec := "sendqRight", apart := false, narrowed := true }
def SendqRightUptoSaid : Prop := sendqRightUptoRow.holds Try.pinned (OpenSpec.upto sendqRightSpec)

/-- 'caravellaw18.SendqMoved', WHERE WHAT IT READS IS OF BULK AT MOST 1048576: true; the input reads as it did. -/
def sendqMovedUptoRow : OpenClaim := { program := "ytcioklhpbmjeeaa", sum := "01fbe4a2171e7e76f7f5badf0a536d2e4557bfbb6fe30d758cbabcf015659753", func := "caravel/caravellaw18.SendqMoved", spec := "sendqMoved", apart := false, narrowed := true }
def SendqMovedUptoSaid : Prop := sendqMovedUptoRow.holds Try.pinned (OpenSpec.upto sendqMovedSpec)

/-- 'caravellaw18.SendqStream', WHERE WHAT IT READS IS OF BULK AT MOST 1048576: true; the input reads as it did. -/
def sendqStreamUptoRow : OpenClaim := { program := "ytcioklhpbmjeeaa", sum := "01fbe4a2171e7e76f7f5badf0a536d2e4557bfbb6fe30d758cbabcf015659753", func := "caravel/caravellaw18.SendqStream", spec := "sendqStream", apart := false, narrowed := true }
def SendqStreamUptoSaid : Prop := sendqStreamUptoRow.holds Try.pinned (OpenSpec.upto sendqStreamSpec)

/-- 'caravellaw18.SendqPlays', WHERE WHAT IT READS IS OF BULK AT MOST 1048576: true; the input reads as it did. -/
def sendqPlaysUptoRow : OpenClaim := { program := "ytcioklhpbmjeeaa", sum := "01fbe4a2171e7e76f7f5badf0a536d2e4557bfbb6fe30d758cbabcf015659753", func := "caravel/caravellaw18.SendqPlays", spec := "sendqPlays", apart := false, narrowed := true }
def SendqPlaysUptoSaid : Prop := sendqPlaysUptoRow.holds Try.pinned (OpenSpec.upto sendqPlaysSpec)

/-- 'caravellaw18.SendqEmpty', WHERE WHAT IT READS IS OF BULK AT MOST 1048576: true; the input reads as it did. -/
def sendqEmptyUptoRow : OpenClaim := { program := "ytcioklhpbmjeeaa", sum := "01fbe4a2171e7e76f7f5badf0a536d2e4557bfbb6fe30d758cbabcf015659753", func := "caravel/caravellaw18.SendqEmpty", spec := "sendqEmpty", apart := false, narrowed := true }
def SendqEmptyUptoSaid : Prop := sendqEmptyUptoRow.holds Try.pinned (OpenSpec.upto sendqEmptySpec)

end Rows
end Go.Proofs.Ytcioklhpbmjeeaa
