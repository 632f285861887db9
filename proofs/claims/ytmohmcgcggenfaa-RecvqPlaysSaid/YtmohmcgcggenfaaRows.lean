/-
  No cell of these rows narrows 'for every input' (looked for: loops, veiled, ifaces, maps, wideKeys, modest, calm, conditions, laid).
  DERIVED. THE GIVEN ROWS OF THIS SEAT. 5 by the template 'for every input the law returns true; each argument reads behind the call as it read before'; 0 by the template 'total and deterministic' (their statements: YtmohmcgcggenfaaTotals.lean).
  GIVEN WITH THE SEED: the statements are not yours to turn. If you find one false, say at which input.
  Laid BY PROGRAM, IN A SANDBOX (cutbox-rows.mjs): the forced cells as the released guide's own fill.sh prints them over the translation e2d901cb0a5592d9… (all of the seat's roots in one cut). By AI agents, Wed Nov 11 2026. No macro, syntax, notation, axiom, sorry.
-/
import Derived.Test.YtmohmcgcggenfaaChecked
import GoSem.Claim
import GoSem.ClaimJoined
import GoSem.ClaimMapViews
import Derived.JoinedTies
import Derived.KernelRfl
namespace Go.Proofs.Ytmohmcgcggenfaa
/- THE CELL 'sum', in the pinned program and in every row, IS THE sha256 OF THE DUMP (.gsa) THAT YtmohmcgcggenfaaProg.lean LOADS. Nothing in Lean hashes anything: it is a label: what it is worth is what the hold of that sum in a sandbox is worth. -/
noncomputable def Try.pinned : Pinned := { name := "ytmohmcgcggenfaa", sum := "e2d901cb0a5592d9b333d0d5ec5422434fcff0233658667ac7c4032552525c2a", checked := Try.checked }
namespace Rows
def none {H : Type} : Left H := { results := [], args := [] }

/-- 'caravellaw17.RecvqMoved': WHATEVER THE INPUT: true; the input reads as it did. -/
def recvqMovedSpec : ChangeSpec := { name := "recvqMoved", fn := fun _ => fun
  | [d1, d2, d3] => { results := [.lit (.bool true)], args := [d1, d2, d3] }
  | _ => none }
def recvqMovedRow : OpenClaim := { program := "ytmohmcgcggenfaa", sum := "e2d901cb0a5592d9b333d0d5ec5422434fcff0233658667ac7c4032552525c2a", func := "caravel/caravellaw17.RecvqMoved", spec := "recvqMoved", unfollowed := true, recurses := true, apart := false }
def RecvqMovedSaid : Prop := recvqMovedRow.holds Try.pinned (OpenSpec.ofChange recvqMovedSpec)

/-- ITS FALSE NEIGHBOUR: 'it returns false'. Refute it at one input. -/
def recvqMovedWrong : ChangeSpec := { name := "recvqMoved", fn := fun _ => fun
  | [d1, d2, d3] => { results := [.lit (.bool false)], args := [d1, d2, d3] }
  | _ => none }
def RecvqMovedWrongFalsely : Prop := recvqMovedRow.holds Try.pinned (OpenSpec.ofChange recvqMovedWrong)

/-- 'caravellaw17.RecvqTwice': WHATEVER THE INPUT: true; the input reads as it did. -/
def recvqTwiceSpec : ChangeSpec := { name := "recvqTwice", fn := fun _ => fun
  | [d1, d2] => { results := [.lit (.bool true)], args := [d1, d2] }
  | _ => none }
def recvqTwiceRow : OpenClaim := { program := "ytmohmcgcggenfaa", sum := "e2d901cb0a5592d9b333d0d5ec5422434fcff0233658667ac7c4032552525c2a", func := "caravel/caravellaw17.RecvqTwice", spec := "recvqTwice", unfollowed := true, recurses := true, apart := false }
def RecvqTwiceSaid : Prop := recvqTwiceRow.holds Try.pinned (OpenSpec.ofChange recvqTwiceSpec)

/-- ITS FALSE NEIGHBOUR: 'it returns false'. Refute it at one input. -/
def recvqTwiceWrong : ChangeSpec := { name := "recvqTwice", fn := fun _ => fun
  | [d1, d2] => { results := [.lit (.bool false)], args := [d1, d2] }
  | _ => none }
def RecvqTwiceWrongFalsely : Prop := recvqTwiceRow.holds Try.pinned (OpenSpec.ofChange recvqTwiceWrong)

/-- 'caravellaw17.RecvqStream': WHATEVER THE INPUT: true; the input reads as it did. -/
def recvqStreamSpec : ChangeSpec := { name := "recvqStream", fn := fun _ => fun
  | [d1, d2, d3] => { results := [.lit (.bool true)], args := [d1, d2, d3] }
  | _ => none }
def recvqStreamRow : OpenClaim := { program := "ytmohmcgcggenfaa", sum := "e2d901cb0a5592d9b333d0d5ec5422434fcff0233658667ac7c4032552525c2a", func := "caravel/caravellaw17.RecvqStream", spec := "recvqStream", unfollowed := true, recurses := true, apart := false }
def RecvqStreamSaid : Prop := recvqStreamRow.holds Try.pinned (OpenSpec.ofChange recvqStreamSpec)

/-- ITS FALSE NEIGHBOUR: 'it returns false'. Refute it at one input. -/
def recvqStreamWrong : ChangeSpec := { name := "recvqStream", fn := fun _ => fun
  | [d1, d2, d3] => { results := [.lit (.bool false)], args := [d1, d2, d3] }
  | _ => none }
def RecvqStreamWrongFalsely : Prop := recvqStreamRow.holds Try.pinned (OpenSpec.ofChange recvqStreamWrong)

/-- 'caravellaw17.RecvqDone': WHATEVER THE INPUT: true; the input reads as it did. -/
def recvqDoneSpec : ChangeSpec := { name := "recvqDone", fn := fun _ => fun
  | [d1, d2, d3] => { results := [.lit (.bool true)], args := [d1, d2, d3] }
  | _ => none }
def recvqDoneRow : OpenClaim := { program := "ytmohmcgcggenfaa", sum := "e2d901cb0a5592d9b333d0d5ec5422434fcff0233658667ac7c4032552525c2a", func := "caravel/caravellaw17.RecvqDone", spec := "recvqDone", unfollowed := true, recurses := true, apart := false }
def RecvqDoneSaid : Prop := recvqDoneRow.holds Try.pinned (OpenSpec.ofChange recvqDoneSpec)

/-- ITS FALSE NEIGHBOUR: 'it returns false'. Refute it at one input. -/
def recvqDoneWrong : ChangeSpec := { name := "recvqDone", fn := fun _ => fun
  | [d1, d2, d3] => { results := [.lit (.bool false)], args := [d1, d2, d3] }
  | _ => none }
def RecvqDoneWrongFalsely : Prop := recvqDoneRow.holds Try.pinned (OpenSpec.ofChange recvqDoneWrong)

/-- 'caravellaw17.RecvqPlays': WHATEVER THE INPUT: true; the input reads as it did. -/
def recvqPlaysSpec : ChangeSpec := { name := "recvqPlays", fn := fun _ => fun
  | [d1, d2] => { results := [.lit (.bool true)], args := [d1, d2] }
  | _ => none }
def recvqPlaysRow : OpenClaim := { program := "ytmohmcgcggenfaa", sum := "e2d901cb0a5592d9b333d0d5ec5422434fcff0233658667ac7c4032552525c2a", func := "caravel/caravellaw17.RecvqPlays", spec := "recvqPlays", unfollowed := true, recurses := true, apart := false }
def RecvqPlaysSaid : Prop := recvqPlaysRow.holds Try.pinned (OpenSpec.ofChange recvqPlaysSpec)

/-- ITS FALSE NEIGHBOUR: 'it returns false'. Refute it at one input. -/
def recvqPlaysWrong : ChangeSpec := { name := "recvqPlays", fn := fun _ => fun
  | [d1, d2] => { results := [.lit (.bool false)], args := [d1, d2] }
  | _ => none }
def RecvqPlaysWrongFalsely : Prop := recvqPlaysRow.holds Try.pinned (OpenSpec.ofChange recvqPlaysWrong)

/- THE SECOND FORM. 'bulk': how many values and letters a reading holds, each counted each time it is reached (what is shared counts as often as it is met; a slice's spare places count too). A statement '..UptoSaid' is the law's where the arguments, and the package variables that the reading takes, are together of bulk at most 1048576: NARROWER than '..Said'. Prove '..Said' where nothing that the law and all that it calls make is longer than what came in: it says more and counts as full. Else prove '..UptoSaid'. A law counts once. -/
mutual
def uptoBulk {H : Type} : DataW H → Nat
  | .lit (.string bytes) => bytes.length + 1
  | .lit _ => 1
  | .nil => 1
  | .ptr d => uptoBulk d + 1
  | .slice elems spare => uptoBulkAll elems + uptoBulkAll spare + 1
  | .agg parts => uptoBulkAll parts + 1
  | .iface _ d => uptoBulk d + 1
  | .map entries => uptoBulkEntries entries + 1
  | .held _ => 1
def uptoBulkAll {H : Type} : List (DataW H) → Nat
  | [] => 0
  | d :: r => uptoBulk d + uptoBulkAll r
def uptoBulkEntries {H : Type} : List (Lit × DataW H) → Nat
  | [] => 0
  | x :: r => uptoBulkEntry x + uptoBulkEntries r
def uptoBulkEntry {H : Type} : Lit × DataW H → Nat
  | (.string bytes, d) => bytes.length + uptoBulk d + 1
  | (_, d) => uptoBulk d + 1
 end
def uptoSmall : (H : Type) → List (DataW H) → Bool := fun _ ds => decide (uptoBulkAll ds ≤ 1048576)
def OpenSpec.upto (s : _root_.Go.ChangeSpec) : _root_.Go.OpenSpec := { _root_.Go.OpenSpec.ofChange s with cond := some uptoSmall }

/-- 'caravellaw17.RecvqMoved', WHERE WHAT IT READS IS OF BULK AT MOST 1048576: true; the input reads as it did. -/
def recvqMovedUptoRow : OpenClaim := { program := "ytmohmcgcggenfaa", sum := "e2d901cb0a5592d9b333d0d5ec5422434fcff0233658667ac7c4032552525c2a", func := "caravel/caravellaw17.RecvqMoved", spec := "recvqMoved", unfollowed := true, recurses := true, apart := false, narrowed := true }
def RecvqMovedUptoSaid : Prop := recvqMovedUptoRow.holds Try.pinned (OpenSpec.upto recvqMovedSpec)

/-- 'caravellaw17.RecvqTwice', WHERE WHAT IT READS IS OF BULK AT MOST 1048576: true; the input reads as it did. -/
def recvqTwiceUptoRow : OpenClaim := { program := "ytmohmcgcggenfaa", sum := "e2d901cb0a5592d9b333d0d5ec5422434fcff0233658667ac7c4032552525c2a", func := "caravel/caravellaw17.RecvqTwice", spec := "recvqTwice", unfollowed := true, recurses := true, apart := false, narrowed := true }
def RecvqTwiceUptoSaid : Prop := recvqTwiceUptoRow.holds Try.pinned (OpenSpec.upto recvqTwiceSpec)

/-- 'caravellaw17.RecvqStream', WHERE WHAT IT READS IS OF BULK AT MOST 1048576: true; the input reads as it did. -/
def recvqStreamUptoRow : OpenClaim := { program := "ytmohmcgcggenfaa", sum := "e2d901cb0a5592d9b333d0d5ec5422434fcff0233658667ac7c4032552525c2a", func := "caravel/caravellaw17.RecvqStream", spec := "recvqStream", unfollowed := true, recurses := true, apart := false, narrowed := true }
def RecvqStreamUptoSaid : Prop := recvqStreamUptoRow.holds Try.pinned (OpenSpec.upto recvqStreamSpec)

/-- 'caravellaw17.RecvqDone', WHERE WHAT IT READS IS OF BULK AT MOST 1048576: true; the input reads as it did. -/
def recvqDoneUptoRow : OpenClaim := { program := "ytmohmcgcggenfaa", sum := "e2d901cb0a5592d9b333d0d5ec5422434fcff0233658667ac7c4032552525c2a", func := "caravel/caravellaw17.RecvqDone", spec := "recvqDone", unfollowed := true, recurses := true, apart := false, narrowed := true }
def RecvqDoneUptoSaid : Prop := recvqDoneUptoRow.holds Try.pinned (OpenSpec.upto recvqDoneSpec)

/-- 'caravellaw17.RecvqPlays', WHERE WHAT IT READS IS OF BULK AT MOST 1048576: true; the input reads as it did. -/
def recvqPlaysUptoRow : OpenClaim := { program := "ytmohmcgcggenfaa", sum := "e2d901cb0a5592d9b333d0d5ec5422434fcff0233658667ac7c4032552525c2a", func := "caravel/caravellaw17.RecvqPlays", spec := "recvqPlays", unfollowed := true, recurses := true, apart := false, narrowed := true }
def RecvqPlaysUptoSaid : Prop := recvqPlaysUptoRow.holds Try.pinned (OpenSpec.upto recvqPlaysSpec)

end Rows
end Go.Proofs.Ytmohmcgcggenfaa
