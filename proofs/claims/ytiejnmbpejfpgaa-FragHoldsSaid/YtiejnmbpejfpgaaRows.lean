/-
  No cell of these rows narrows 'for every input' (looked for: loops, veiled, ifaces, maps, wideKeys, modest, calm, conditions, laid).
  DERIVED. THE GIVEN ROWS OF THIS SEAT. 4 by the template 'for every input the law returns true; each argument reads behind the call as it read before'; 0 by the template 'total and deterministic' (their statements: YtiejnmbpejfpgaaTotals.lean).
  GIVEN WITH THE SEED: the statements are not yours to turn. If you find one false, say at which input.
  Laid BY PROGRAM, IN A SANDBOX (cutbox-rows.mjs): the forced cells as the released guide's own fill.sh prints them over the translation b82ae9ad528fe433… (all of the seat's roots in one cut). By AI agents, Wed Nov 11 2026. No macro, syntax, notation, axiom, sorry.
-/
import Derived.Test.YtiejnmbpejfpgaaChecked
import GoSem.Claim
import GoSem.ClaimJoined
import GoSem.ClaimMapViews
import Derived.JoinedTies
import Derived.KernelRfl
namespace Go.Proofs.Ytiejnmbpejfpgaa
/- THE CELL 'sum', in the pinned program and in every row, IS THE sha256 OF THE DUMP (.gsa) THAT YtiejnmbpejfpgaaProg.lean LOADS. Nothing in Lean hashes anything: it is a label: what it is worth is what the hold of that sum in a sandbox is worth. -/
noncomputable def Try.pinned : Pinned := { name := "ytiejnmbpejfpgaa", sum := "b82ae9ad528fe43367bae4b96560e4fbcccfdd9e321bc74b93d2bac6db514f89", checked := Try.checked }
namespace Rows
def none {H : Type} : Left H := { results := [], args := [] }

/-- 'caravellaw07.FragSplits': WHATEVER THE INPUT: true; the input reads as it did. -/
def fragSplitsSpec : ChangeSpec := { name := "fragSplits", fn := fun _ => fun
  | [d] => { results := [.lit (.bool true)], args := [d] }
  | _ => none }
def fragSplitsRow : OpenClaim := { program := "ytiejnmbpejfpgaa", sum := "b82ae9ad528fe43367bae4b96560e4fbcccfdd9e321bc74b93d2bac6db514f89", func := "caravel/caravellaw07.FragSplits", spec := "fragSplits", unfollowed := true, recurses := true, apart := false }
def FragSplitsSaid : Prop := fragSplitsRow.holds Try.pinned (OpenSpec.ofChange fragSplitsSpec)

/-- ITS FALSE NEIGHBOUR: 'it returns false'. Refute it at one input. -/
def fragSplitsWrong : ChangeSpec := { name := "fragSplits", fn := fun _ => fun
  | [d] => { results := [.lit (.bool false)], args := [d] }
  | _ => none }
def FragSplitsWrongFalsely : Prop := fragSplitsRow.holds Try.pinned (OpenSpec.ofChange fragSplitsWrong)

/-- 'caravellaw07.FragPieces': WHATEVER THE INPUT: true; the input reads as it did. -/
def fragPiecesSpec : ChangeSpec := { name := "fragPieces", fn := fun _ => fun
  | [d] => { results := [.lit (.bool true)], args := [d] }
  | _ => none }
def fragPiecesRow : OpenClaim := { program := "ytiejnmbpejfpgaa", sum := "b82ae9ad528fe43367bae4b96560e4fbcccfdd9e321bc74b93d2bac6db514f89", func := "caravel/caravellaw07.FragPieces", spec := "fragPieces", unfollowed := true, recurses := true, apart := false }
def FragPiecesSaid : Prop := fragPiecesRow.holds Try.pinned (OpenSpec.ofChange fragPiecesSpec)

/-- ITS FALSE NEIGHBOUR: 'it returns false'. Refute it at one input. -/
def fragPiecesWrong : ChangeSpec := { name := "fragPieces", fn := fun _ => fun
  | [d] => { results := [.lit (.bool false)], args := [d] }
  | _ => none }
def FragPiecesWrongFalsely : Prop := fragPiecesRow.holds Try.pinned (OpenSpec.ofChange fragPiecesWrong)

/-- 'caravellaw07.FragAgain': WHATEVER THE INPUT: true; the input reads as it did. -/
def fragAgainSpec : ChangeSpec := { name := "fragAgain", fn := fun _ => fun
  | [d1, d2, d3] => { results := [.lit (.bool true)], args := [d1, d2, d3] }
  | _ => none }
def fragAgainRow : OpenClaim := { program := "ytiejnmbpejfpgaa", sum := "b82ae9ad528fe43367bae4b96560e4fbcccfdd9e321bc74b93d2bac6db514f89", func := "caravel/caravellaw07.FragAgain", spec := "fragAgain", unfollowed := true, recurses := true, apart := false }
def FragAgainSaid : Prop := fragAgainRow.holds Try.pinned (OpenSpec.ofChange fragAgainSpec)

/-- ITS FALSE NEIGHBOUR: 'it returns false'. Refute it at one input. -/
def fragAgainWrong : ChangeSpec := { name := "fragAgain", fn := fun _ => fun
  | [d1, d2, d3] => { results := [.lit (.bool false)], args := [d1, d2, d3] }
  | _ => none }
def FragAgainWrongFalsely : Prop := fragAgainRow.holds Try.pinned (OpenSpec.ofChange fragAgainWrong)

/-- 'caravellaw07.FragHolds': WHATEVER THE INPUT: true; the input reads as it did. -/
def fragHoldsSpec : ChangeSpec := { name := "fragHolds", fn := fun _ => fun
  | [d1, d2] => { results := [.lit (.bool true)], args := [d1, d2] }
  | _ => none }
def fragHoldsRow : OpenClaim := { program := "ytiejnmbpejfpgaa", sum := "b82ae9ad528fe43367bae4b96560e4fbcccfdd9e321bc74b93d2bac6db514f89", func := "caravel/caravellaw07.FragHolds", spec := "fragHolds", unfollowed := true, recurses := true, apart := false }
def FragHoldsSaid : Prop := fragHoldsRow.holds Try.pinned (OpenSpec.ofChange fragHoldsSpec)

/-- ITS FALSE NEIGHBOUR: 'it returns false'. Refute it at one input. -/
def fragHoldsWrong : ChangeSpec := { name := "fragHolds", fn := fun _ => fun
  | [d1, d2] => { results := [.lit (.bool false)], args := [d1, d2] }
  | _ => none }
def FragHoldsWrongFalsely : Prop := fragHoldsRow.holds Try.pinned (OpenSpec.ofChange fragHoldsWrong)

/- THE SECOND FORM. 'bulk': how many values and letters a reading holds, each counted each time it is reached (what is shared counts as often as it is met; a slice's spare places count too). A statement '..UptoSaid' is the law's where the arguments, and the package variables that the reading takes, are together of bulk at most 1048576: NARROWER than '..Said'. Prove '..Said' where nothing that the law and all that it calls make is longer than what came in: it says more and counts as full. Else prove '..UptoSaid'. A law counts once. -/
mutual
def uptoBulk {H : Type} : DataW H → Nat
  | .lit (.string bytes) => bytes.length + 1
  | .lit _ => 1
  | .nil => 1
  | .ptr d => uptoBulk d + 1
  | .slice elems spare => uptoBulkAll elems + uptoBulkAll spare + 1
  | .agg parts => uptoBulkAll parts + 1
  | .iface _ d => uptoBulk d + 1
  | .map entries => uptoBulkEntries entries + 1
  | .held _ => 1
def uptoBulkAll {H : Type} : List (DataW H) → Nat
  | [] => 0
  | d :: r => uptoBulk d + uptoBulkAll r
def uptoBulkEntries {H : Type} : List (Lit × DataW H) → Nat
  | [] => 0
  | x :: r => uptoBulkEntry x + uptoBulkEntries r
def uptoBulkEntry {H : Type} : Lit × DataW H → Nat
  | (.string bytes, d) => bytes.length + uptoBulk d + 1
  | (_, d) => uptoBulk d + 1
 end
def uptoSmall : (H : Type) → List (DataW H) → Bool := fun _ ds => decide (uptoBulkAll ds ≤ 1048576)
def OpenSpec.upto (s : _root_.Go.ChangeSpec) : _root_.Go.OpenSpec := { _root_.Go.OpenSpec.ofChange s with cond := some uptoSmall }

/-- 'caravellaw07.FragSplits', WHERE WHAT IT READS IS OF BULK AT MOST 1048576: true; the input reads as it did. -/
def fragSplitsUptoRow : OpenClaim := { program := "ytiejnmbpejfpgaa", sum := "b82ae9ad528fe43367bae4b96560e4fbcccfdd9e321bc74b93d2bac6db514f89", func := "caravel/caravellaw07.FragSplits", spec := "fragSplits", unfollowed := true, recurses := true, apart := false, narrowed := true }
def FragSplitsUptoSaid : Prop := fragSplitsUptoRow.holds Try.pinned (OpenSpec.upto fragSplitsSpec)

/-- 'caravellaw07.FragPieces', WHERE WHAT IT READS IS OF BULK AT MOST 1048576: true; the input reads as it did. -/
def fragPiecesUptoRow : OpenClaim := { program := "ytiejnmbpejfpgaa", sum := "b82ae9ad528fe43367bae4b96560e4fbcccfdd9e321bc74b93d2bac6db514f89", func := "caravel/caravellaw07.FragPieces", spec := "fragPieces", unfollowed := true, recurses := true, apart := false, narrowed := true }
def FragPiecesUptoSaid : Prop := fragPiecesUptoRow.holds Try.pinned (OpenSpec.upto fragPiecesSpec)

/-- 'caravellaw07.FragAgain', WHERE WHAT IT READS IS OF BULK AT MOST 1048576: true; the input reads as it did. -/
def fragAgainUptoRow : OpenClaim := { program := "ytiejnmbpejfpgaa", sum := "b82ae9ad528fe43367bae4b96560e4fbcccfdd9e321bc74b93d2bac6db514f89", func := "caravel/caravellaw07.FragAgain", spec := "fragAgain", unfollowed := true, recurses := true, apart := false, narrowed := true }
def FragAgainUptoSaid : Prop := fragAgainUptoRow.holds Try.pinned (OpenSpec.upto fragAgainSpec)

/-- 'caravellaw07.FragHolds', WHERE WHAT IT READS IS OF BULK AT MOST 1048576: true; the input reads as it did. -/
def fragHoldsUptoRow : OpenClaim := { program := "ytiejnmbpejfpgaa", sum := "b82ae9ad528fe43367bae4b96560e4fbcccfdd9e321bc74b93d2bac6db514f89", func := "caravel/caravellaw07.FragHolds", spec := "fragHolds", unfollowed := true, recurses := true, apart := false, narrowed := true }
def FragHoldsUptoSaid : Prop := fragHoldsUptoRow.holds Try.pinned (OpenSpec.upto fragHoldsSpec)

end Rows
end Go.Proofs.Ytiejnmbpejfpgaa
